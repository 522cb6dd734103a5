/-
  A part of the proof of ReasonLaws.
-/
import Derived.Test.YtfmbcecfgpbmhaaGreatDoorVB
import Derived.Test.YtfmbcecfgpbmhaaGreatDoorProg
import Derived.KernelRfl
import Derived.Lib.LaidTab
import Derived.Stop.LaidErr
import Derived.Laws.Strings
set_option linter.unusedVariables false
set_option linter.unusedSimpArgs false
set_option linter.defProp false
set_option linter.unusedSectionVars false
namespace Go.Ds
variable {P:Program}
structure CallsOk(P:Program)(C:Calls')(H0:Heap):Prop where
 fn:∀p f args H v H1,LK H0 H→(C.fn p f args H).Is v H1→p=lU f→(FnS P f args H (fun v' H'=>v'=v∧H'=H1)∨sL P f args H=some (v,H1))∧LK H H1
 rd:∀L args H v H1,LK H0 H→(C.rd L args H).Is v H1→a1g P L args H v H1∧LK H H1
noncomputable def jY (x:Operand):LArg:=match x with
 | .tmp t=>.t (lU t)
 | .const v=>.c v
 | .global g=>.c (.pointer (some ⟨g,0,none⟩))
 | .func k=>.c (.func (.func k) #[] #[])
theorem mG{α:Type}(x:Operand)(K:LArg→α):nH x K=K (jY x):=by
 cases x with
 | tmp t=>exact mV _ _
 | _=>rfl
theorem kV{f:Fr}{l:List Value}(h:FAg f l)(x:Operand):oA f (jY x)=ev l x:=by
 cases x with
 | tmp t=>exact h t
 | _=>rfl
theorem a5A{α:Type}(l:List Operand)(K:List LArg→α):a6W l K=K (l.map jY):=by
 induction l generalizing K with
 | nil=>rfl
 | cons x l ih=>
   show nH x (fun x=>a6W l fun l=>K (x::l))=_
   rw[mG,ih];rfl
theorem a8k{α:Type}{f:Fr}{l:List Value}(h:FAg f l)(xs:List Operand)(K:List Value→α):a5q f (xs.map jY) K=K (xs.map (ev l)):=by
 induction xs generalizing K with
 | nil=>rfl
 | cons x xs ih=>
   show qJ (oA f (jY x)) (fun v=>a5q f (xs.map jY) fun l=>K (v::l))=_
   rw[oJ,ih,kV h];rfl
theorem c6f{f:Fr}{l:List Value}(h:FAg f l):evF f=ev l:=by
 funext x
 cases x with
 | tmp t=>exact h t
 | _=>rfl
def zI(P:Program)(o:Oper)(lo:LOp):Prop:=∀C H0 f l H v H1,CallsOk P C H0→LK H0 H→FAg f l→(opF P C lo f H).Is v H1→StepR P o l H v H1∧LK H H1
def LowPl(P:Program)(o:Oper)(lo:LOp):Prop:=∀C f l H v H1,FAg f l→(opF P C lo f H).Is v H1→opD P o l H=some (v,H1)
theorem LowPl.low{o:Oper}{lo:LOp}(hok:o.op.operands.toList.all jT=true)(h:LowPl P o lo):zI P o lo:=
 fun C _ f l H v H1 _ _ hf hr=>by have:=h C f l H v H1 hf hr;exact⟨.op hok this,c0B this⟩
theorem c4e(o:Oper):zI P o .bad:=fun _ _ _ _ _ _ _ _ _ _ h=>absurd h Rs.ax
theorem c4O(o:Oper):LowPl P o (.gen o):=fun C f l H v H1 hf hr=>by
 have hr:(match c7t P o (evF f) H with|some (v,H1)=>Rs.th v H1|none=>.no).Is v H1:=hr
 rw[c6f hf]at hr
 have e:c7t P o (ev l) H=opD P o l H:=rfl
 rw[e]at hr
 split at hr
 ·rename_i v2 H2 h2
  obtain⟨rfl,rfl⟩:=Rs.aU hr
  exact h2
 ·exact absurd hr Rs.ax
section
variable {dst:Option Tmp} {type:TypeId} {pos:String} {after:Array Edge} {guard:Option (Nat×Bool)}
theorem c7r(x:Operand):LowPl P ⟨dst,.move x,type,pos,after,guard⟩ (.mv (jY x)):=fun C f l H v H1 hf hr=>by
 have hr:(qJ (oA f (jY x)) fun v=>Rs.ok v H).Is v H1:=hr
 rw[oJ,kV hf]at hr
 obtain⟨rfl,rfl⟩:=Rs.aP hr
 rfl
theorem c6p(x:Operand):LowPl P ⟨dst,.assign x,type,pos,after,guard⟩ (.mv (jY x)):=fun C f l H v H1 hf hr=>by
 have hr:(qJ (oA f (jY x)) fun v=>Rs.ok v H).Is v H1:=hr
 rw[oJ,kV hf]at hr
 obtain⟨rfl,rfl⟩:=Rs.aP hr
 rfl
theorem b8q(c a b:Operand):LowPl P ⟨dst,.pick c a b,type,pos,after,guard⟩ (.pick (jY c) (jY a) (jY b)):=fun C f l H v H1 hf hr=>by
 have hr:(b9H (jY c) (jY a) (jY b) f H).Is v H1:=hr
 unfold b9H at hr
 rw[kV hf]at hr
 split at hr
 ·rename_i t ht
  rw[oJ]at hr
  simp only[opD,ht]
  cases t
  ·have hr:(Rs.ok (oA f (jY b)) H).Is v H1:=hr
   rw[kV hf]at hr
   obtain⟨rfl,rfl⟩:=Rs.aP hr;rfl
  ·have hr:(Rs.ok (oA f (jY a)) H).Is v H1:=hr
   rw[kV hf]at hr
   obtain⟨rfl,rfl⟩:=Rs.aP hr;rfl
 ·exact absurd hr Rs.ax
theorem c4Y(a b:Int):c8n a b=a*b:=by cases a<;>cases b<;>rfl
theorem a7I(a b:Int):d0d a b=a.tdiv b:=by cases a<;>cases b<;>rfl
theorem a6N(a b:Int):c8E a b=a.tmod b:=by cases a<;>cases b<;>rfl
theorem c3y{op:BinOp}{g:IntKind→Int→Int→Option Value}(h:c4x op=some g)(k:IntKind)(a b:Int):oB op k a b=g k a b:=by
 cases op<;>simp only[c4x]at h<;>first|(cases h;done)|(injection h with h;subst h)
 all_goals first
  | rfl
  | (simp only[oB,c9E,c4Y];done)
  | (simp only[oB,c3L,a7I];done)
  | (simp only[oB,c2w,a6N];done)
  | (simp only[oB,c3L,a7I];rfl)
  | (simp only[oB,c2w,a6N];rfl)
  | (simp only[oB,c3L,a7I];cases eqI b 0<;>rfl)
  | (simp only[oB,c2w,a6N];cases eqI b 0<;>rfl)
theorem c8w{o:Option Value}{H H1:Heap}{v:Value}(h:(oV o H).Is v H1):o=some v∧H1=H:=by
 cases o with
 | none=>exact absurd h Rs.ax
 | some w=>obtain⟨rfl,rfl⟩:=Rs.aU h;exact⟨rfl,rfl⟩
theorem c1y{o:Option Value}{H H1:Heap}{v:Value}(h:(okV o H).Is v H1):o=some v∧H1=H:=by
 cases o with
 | none=>exact absurd h Rs.ax
 | some w=>
   have h:(qJ w fun v=>Rs.ok v H).Is v H1:=h
   rw[oJ]at h
   obtain⟨rfl,rfl⟩:=Rs.aP h;exact⟨rfl,rfl⟩
theorem c4W{op:BinOp}{g:IntKind→Int→Int→Option Value}(hg:c4x op=some g)(t yt:TypeId)(x y:Operand):LowPl P ⟨dst,.binOp op t x y yt,type,pos,after,guard⟩ (.bin g (jY x) (jY y)):=fun C f l H v H1 hf hr=>by
 have hr:(c6A g (jY x) (jY y) f H).Is v H1:=hr
 unfold c6A at hr
 rw[kV hf]at hr
 split at hr
 ·rename_i k a hx
  unfold c5N at hr
  rw[kV hf]at hr
  split at hr
  ·rename_i k' b hy
   obtain⟨hk,hq⟩:=mO hr
   obtain rfl:=c3j hk
   obtain⟨hv,rfl⟩:=c8w hq
   rw[←c3y hg]at hv
   have:opD P ⟨dst,.binOp op t x y yt,type,pos,after,guard⟩ l H1=if k=k then(match oB op k a b with|some v=>some (v,H1)|none=>lT P ⟨dst,.binOp op t x y yt,type,pos,after,guard⟩ l H1)else lT P ⟨dst,.binOp op t x y yt,type,pos,after,guard⟩ l H1:=by
    simp only[opD,hx,hy]
    cases op<;>rfl
   rw[this,if_pos rfl,hv]
  ·exact absurd hr Rs.ax
 ·exact absurd hr Rs.ax
theorem c3q{b:Option Blk}{i e:Nat}{H H1:Heap}{v:Value}(h:(c4M b i e H).Is v H1):H1=H∧∃cs ty rw lo ver,b=some (.cells cs ty rw lo ver)∧lo≤e∧e≤cs.length∧i+1≤e∧cs[i]? =some v:=by
 unfold c4M at h
 split at h
 ·rename_i cs ty rw lo ver
  obtain⟨h1,h⟩:=mO h
  obtain⟨h2,h⟩:=mO h
  obtain⟨h3,h⟩:=mO h
  have h:(okV (a2J cs i) H).Is v H1:=h
  obtain⟨h4,h5⟩:=c1y h
  rw[a1o]at h2
  rw[a0v]at h4
  exact⟨h5,cs,ty,rw,lo,ver,rfl,fx h1,by simpa using h2,fx h3,h4⟩
 ·exact absurd h Rs.ax
theorem c4U{b:Option Blk}{n i e:Nat}{H H1:Heap}{v:Value}(h:(c4u b n i e H).Is v H1):H1=H∧∃cs ty rw lo ver,b=some (.cells cs ty rw lo ver)∧lo≤e∧e≤cs.length∧i+n≤e∧v=.agg ((cs.drop i).take n).toArray:=by
 unfold c4u at h
 split at h
 ·rename_i cs ty rw lo ver
  obtain⟨h1,h⟩:=mO h
  obtain⟨h2,h⟩:=mO h
  obtain⟨h3,h⟩:=mO h
  obtain⟨h4,h⟩:=b0H h
  obtain⟨rfl,rfl⟩:=Rs.aP h
  rw[a1o]at h2
  exact⟨rfl,cs,ty,rw,lo,ver,rfl,fx h1,by simpa using h2,fx h3,by rw[a8F]⟩
 ·exact absurd h Rs.ax
theorem b4H{X:LArg}{f:Fr}{H H1:Heap}{v w:Value}{t:TypeId}(ht:kM P t=some false)(hw:oA f X=w)(h:(b7s X f H).Is v H1):H1=H∧mC P H t w=some v:=by
 unfold b7s at h
 rw[hw]at h
 split at h
 ·rename_i A i e
  obtain⟨h1,cs,ty,rw',lo,ver,h2,h3,h4,h5,h6⟩:=c3q h
  refine⟨h1,?_⟩
  simp only[mC,ht,kG,h2]
  rw[if_pos (by simp;omega)]
  simp[h6]
 ·rename_i A i
  unfold c7i at h
  split at h
  ·rename_i cs ty lo hg
   obtain⟨h1,h⟩:=mO h
   rw[a1o]at h1
   have h1:lo≤cs.length:=by simpa using h1
   cases hn:a2J cs i with
   | none=>rw[hn]at h;exact absurd h Rs.ax
   | some c=>
     rw[hn]at h
     have h:(qJ c fun v=>Rs.ok v H).Is v H1:=h
     rw[oJ]at h
     obtain⟨rfl,rfl⟩:=Rs.aP h
     rw[a0v]at hn
     have hi:=(dQ.1 hn).1
     refine⟨rfl,?_⟩
     simp only[mC,ht,kG,hg]
     rw[if_pos (by simp;omega)]
     simp[hn]
  ·exact absurd h Rs.ax
 ·exact absurd h Rs.ax
theorem b4i{X:LArg}{f:Fr}{H H1:Heap}{v w:Value}{t:TypeId}{n:Nat}(ht:kM P t=some true)(hn:jD P t=some n)(hw:oA f X=w)(h:(b6L n X f H).Is v H1):H1=H∧mC P H t w=some v:=by
 unfold b6L at h
 rw[hw]at h
 split at h
 ·rename_i A i e
  obtain⟨h1,cs,ty,rw',lo,ver,h2,h3,h4,h5,h6⟩:=c4U h
  refine⟨h1,?_⟩
  simp only[mC,ht,hn,dC,kG,h2]
  rw[if_pos (by simp;omega),h6]
  rfl
 ·exact absurd h Rs.ax
theorem c2g{t:TypeId}(ht:kM P t=some false)(x:Operand):LowPl P ⟨dst,.load t x,type,pos,after,guard⟩ (.ld1 (jY x)):=fun C f l H v H1 hf hr=>by
 obtain⟨rfl,h⟩:=b4H (P:=P) ht (kV hf x) hr
 simp only[opD,h,ez]
theorem c3s{t:TypeId}{n:Nat}(ht:kM P t=some true)(hn:jD P t=some n)(x:Operand):LowPl P ⟨dst,.load t x,type,pos,after,guard⟩ (.ldn n (jY x)):=fun C f l H v H1 hf hr=>by
 obtain⟨rfl,h⟩:=b4i (P:=P) ht hn (kV hf x) hr
 simp only[opD,h,ez]
theorem c7w{t:TypeId}{n:Nat}(hn:jD P t=some n)(x y:Operand):LowPl P ⟨dst,.store t x y,type,pos,after,guard⟩ (.st n (jY x) (jY y)):=fun C f l H v H1 hf hr=>by
 have hr:(hSt n (jY x) (jY y) f H).Is v H1:=hr
 unfold hSt at hr
 rw[kV hf,kV hf]at hr
 split at hr
 ·rename_i A i e hx
  unfold stB at hr
  split at hr
  ·rename_i cs ty lo ver hg
   obtain⟨h1,hr⟩:=mO hr
   obtain⟨h2,hr⟩:=mO hr
   obtain⟨h3,hr⟩:=mO hr
   obtain⟨h4,hr⟩:=mO hr
   obtain⟨h5,hr⟩:=mO hr
   obtain⟨rfl,rfl⟩:=Rs.aU hr
   rw[a0F]at h1 h3
   have h1:n=(ev l y).cells.toList.length:=by simpa only[decide_eq_true_eq]using h1
   have h3:e=cs.length:=by simpa only[decide_eq_true_eq]using h3
   have h4:i+n≤e:=fx h4
   have h5:lo≤e:=fx h5
   simp only[opD,tC,hx,hg]
   rw[if_pos ⟨by rw[hn,h1],h2,h3,by omega,h5⟩]
   simp only[ez]
   rw[h3]
  ·exact absurd hr Rs.ax
 ·exact absurd hr Rs.ax
theorem c6x{s:TypeId}{k n:Nat}{fd:Field}(hf':qE P s k=some fd)(hn:jD P fd.type=some n)(hn0:n≠0)(x:Operand):LowPl P ⟨dst,.fieldAddr s x k,type,pos,after,guard⟩ (.fa fd.offset (jY x)):=fun C f l H v H1 hf hr=>by
 have hr:(hFa fd.offset (jY x) f H).Is v H1:=hr
 unfold hFa at hr
 rw[kV hf]at hr
 split at hr
 ·rename_i A i e hx
  rw[lA]at hr
  obtain⟨rfl,rfl⟩:=Rs.aP hr
  simp only[opD,hx,hf',dC,hn]
  rw[if_neg (by simpa using hn0)];rfl
 ·exact absurd hr Rs.ax
theorem c1a{A i e size n:Nat}{H H1:Heap}{j v:Value}(h:(ixP A i e size n H j).Is v H1):H1=H∧∃k m,j=.int k (.ofNat m)∧m<n∧v=.pointer (some ⟨A,i+m*size,some e⟩):=by
 unfold ixP at h
 split at h
 ·rename_i k m
  obtain⟨h1,h⟩:=mO h
  rw[lA]at h
  obtain⟨rfl,rfl⟩:=Rs.aP h
  rw[blt_eq]at h1
  exact⟨rfl,k,m,rfl,by simpa using h1,rfl⟩
 ·exact absurd h Rs.ax
theorem c3Z{t elem:TypeId}{size:Nat}(ht:P.underlying t=some (.slice elem))(hs:jD P elem=some size)(x i:Operand):LowPl P ⟨dst,.indexAddr t x i,type,pos,after,guard⟩ (.ixs size (jY x) (jY i)):=fun C f l H v H1 hf hr=>by
 have hr:(c7R size (jY x) (jY i) f H).Is v H1:=hr
 unfold c7R at hr
 rw[kV hf,kV hf]at hr
 split at hr
 ·rename_i A a e n c hx
  obtain⟨rfl,k,m,hj,hm,rfl⟩:=c1a hr
  simp only[opD,ht,hx,hj,hs,dC]
  rw[if_pos (by simp;omega)]
  rfl
 ·exact absurd hr Rs.ax
theorem c9r(a b:Nat):Nat.beq a b=(a==b):=by
 cases h:Nat.beq a b with
 | true=>rw[eU h];simp
 | false=>have:=Nat.ne_of_beq_eq_false h;simp[this]
theorem c6k{A i size n:Nat}{H H1:Heap}{j v:Value}(h:(ixG A i size n H j).Is v H1):H1=H∧∃k m,j=.int k (.ofNat m)∧m<n∧v=.pointer (some ⟨A,i+m*size,none⟩):=by
 unfold ixG at h
 split at h
 ·rename_i k m
  obtain⟨h1,h⟩:=mO h
  rw[lA]at h
  obtain⟨rfl,rfl⟩:=Rs.aP h
  exact⟨rfl,k,m,rfl,by simpa [jj]using h1,rfl⟩
 ·exact absurd h Rs.ax
theorem c3k{t elem:TypeId}{n size:Nat}(ht:P.underlying t=some (.array n elem))(hs:jD P elem=some size)(x i:Operand):LowPl P ⟨dst,.indexAddr t x i,type,pos,after,guard⟩ (.ixa n size (jY x) (jY i)):=fun C f l H v H1 hf hr=>by
 have hr:(c6B n size (jY x) (jY i) f H).Is v H1:=hr
 unfold c6B at hr
 rw[kV hf,kV hf]at hr
 split at hr
 ·rename_i A a e hx
  obtain⟨rfl,k,m,hj,hm,rfl⟩:=c1a hr
  simp only[opD,ht,hx,hj,hs,dC]
  rw[if_pos (by simp;omega)]
  rfl
 ·rename_i A a hx
  obtain⟨rfl,k,m,hj,hm,rfl⟩:=c6k hr
  simp only[opD,ht,hx,hj,hs,dC]
  rw[if_pos (by simp;omega)]
  rfl
 ·exact absurd hr Rs.ax
theorem c3U(i:Nat)(x:Operand):LowPl P ⟨dst,.extract x i,type,pos,after,guard⟩ (.ext i (jY x)):=fun C f l H v H1 hf hr=>by
 have hr:(c7Y i (jY x) f H).Is v H1:=hr
 unfold c7Y at hr
 rw[kV hf]at hr
 split at hr
 ·rename_i vs hx
  obtain⟨h1,rfl⟩:=c1y hr
  rw[a0v]at h1
  simp only[opD,hx]
  simp[h1]
 ·exact absurd hr Rs.ax
theorem c4n{c:Call}{elem:TypeId}(hc:c.callee=.builtin .len)(h1:c.args.size=1)(h2:c.argTypes.size=1)(ht:P.underlying (c.argTypes.getD 0 0)=some (.slice elem)):LowPl P ⟨dst,.call c,type,pos,after,guard⟩ (.len (jY (c.args.getD 0 (.tmp 0)))):=fun C f l H v H1 hf hr=>by
 have hr:(c6R (jY (c.args.getD 0 (.tmp 0))) f H).Is v H1:=hr
 unfold c6R at hr
 rw[kV hf]at hr
 split at hr
 ·rename_i a n k hx
  obtain⟨rfl,rfl⟩:=Rs.aU hr
  simp only[opD,hc,h1,h2,ht,hx,a0f];rfl
 ·exact absurd hr Rs.ax
theorem c0R{c:Call}(hc:c.callee=.builtin .len)(h1:c.args.size=1)(h2:c.argTypes.size=1)(ht:P.underlying (c.argTypes.getD 0 0)=some .string):LowPl P ⟨dst,.call c,type,pos,after,guard⟩ (.slen (jY (c.args.getD 0 (.tmp 0)))):=fun C f l H v H1 hf hr=>by
 have hr:(b9Q (jY (c.args.getD 0 (.tmp 0))) f H).Is v H1:=hr
 unfold b9Q at hr
 rw[kV hf]at hr
 split at hr
 ·rename_i s hx
  obtain⟨rfl,rfl⟩:=Rs.aU hr
  simp only[opD,hc,h1,h2,ht,hx,a0f];rfl
 ·exact absurd hr Rs.ax
theorem c3A{c:Call}{elem:TypeId}{size bytes:Nat}{z:Value}(hc:c.callee=.builtin .append)(h1:c.args.size=2)(h2:c.argTypes.size=2)(hi:((P.underlying (c.argTypes.getD 1 0)).map rX)=some true)
 (he:jI P (c.argTypes.getD 0 0)=some elem) (hs:jD P elem=some size) (hb:pF P elem=some bytes) (hz:kB P elem=some z) (hzs:z.cells.size=size) (hs0:size≠0):
 LowPl P ⟨dst,.call c,type,pos,after,guard⟩ (.app elem size bytes (jY (c.args.getD 0 (.tmp 0))) (jY (c.args.getD 1 (.tmp 0)))):=fun C f l H v H1 hf hr=>by
 have hr:(c7O P elem size bytes (jY (c.args.getD 0 (.tmp 0))) (jY (c.args.getD 1 (.tmp 0))) f H).Is v H1:=hr
 unfold c7O at hr
 rw[kV hf,kV hf]at hr
 have hD:opD P ⟨dst,.call c,type,pos,after,guard⟩ l H=pB P H (c.argTypes.getD 0 0) (ev l (c.args.getD 0 (.tmp 0))) (ev l (c.args.getD 1 (.tmp 0))):=by
  simp only[opD,hc,h1,h2,hi];rfl
 rw[hD]
 unfold pB
 rw[he,dC,hs,dC,hb,dC,hz,dC]
 split at hr
 ·rename_i n m hsrc
  rw[hsrc,dC]
  unfold c8B at hr
  split at hr
  ·rename_i k cc hx
   obtain⟨g1,hq1⟩:=mO hr
   obtain⟨g2,hq2⟩:=mO hq1
   obtain⟨g3,hq⟩:=mO hq2
   clear hr hq1 hq2
   obtain rfl:k=0:=eU g1
   obtain rfl:cc=0:=eU g2
   have g3:n*(bytes+1)≤qR:=fx g3
   simp only[hx]
   rw[if_pos (by simp[hs0,hzs,g3])]
   rw[lM]at hq
   by_cases hn:n=0
   ·subst hn
    rw[if_pos (by rfl)]at hq
    obtain⟨rfl,rfl⟩:=Rs.aP hq
    simp
   ·rw[if_neg (fun e=>hn (eU e))]at hq
    obtain⟨rfl,rfl⟩:=Rs.aU hq
    simp[hn]
  ·rename_i A i e k cc hx
   unfold c9n at hr
   split at hr
   ·rename_i cs ty lo ver hg
    obtain⟨g2,hr⟩:=mO hr
    obtain⟨g4,hr⟩:=mO hr
    obtain⟨g5,hr⟩:=mO hr
    have g2:(ty==elem||jD P ty==some size)=true:=by
     rw[c9r]at g2
     cases hh:(ty==elem)with
     | true=>rfl
     | false=>rw[hh]at g2;exact g2
    rw[a0F]at g4
    have g4:e=cs.length:=by simpa only[decide_eq_true_eq]using g4
    have g5:lo≤e:=fx g5
    simp only[hx,hg]
    rw[lM]at hr
    by_cases g3:i+k*size=e
    ·rw[if_pos (by simpa using g3)]at hr
     obtain⟨g1,hr⟩:=mO hr
     obtain⟨rfl,rfl⟩:=Rs.aU hr
     have g1:(k+n)*(bytes+1)≤qR:=fx g1
     have et:(Bool.rec (motive:=fun _=>Nat) 2 ver (Nat.beq ty elem))=(if(ty==elem)=true then ver else 2):=by
      rw[c9r]
      cases hh:(ty==elem)with
      | true=>rfl
      | false=>rfl
     rw[et,if_pos (by simp only[g2,gj,dB,bne_iff_ne,beq_iff_eq,decide_eq_true_eq];exact⟨⟨⟨⟨⟨hs0,g1⟩,by simpa using hzs⟩,g3⟩,g4⟩,g5⟩)]
    ·rw[if_neg (by simpa using g3)]at hr
     rw[lM]at hr
     by_cases hn:n=0
     ·rw[if_pos (by simpa using hn)]at hr
      exact absurd hr Rs.ax
     ·rw[if_neg (by simpa using hn)]at hr
      obtain⟨g6,hr⟩:=mO hr
      obtain⟨rfl,rfl⟩:=Rs.aU hr
      have g6:i+(k+n)*size≤e:=fx g6
      rw[if_neg (by simp[g3]),if_pos (by simp only[g2,gj,dB,bne_iff_ne,beq_iff_eq,decide_eq_true_eq];exact⟨⟨⟨⟨⟨hs0,hn⟩,by simpa using hzs⟩,g6⟩,g4⟩,g5⟩),g4]
   ·exact absurd hr Rs.ax
  ·exact absurd hr Rs.ax
 ·exact absurd hr Rs.ax
theorem b6F{c:Call}{k:FuncId}(hc:c.callee=.value (.func k))(hok:(Op.call c).operands.toList.all jT=true):zI P ⟨dst,.call c,type,pos,after,guard⟩ (.callF k (lU k) (c.args.toList.map jY)):=fun C H0 f l H v H1 hC hk hf hr=>by
 have hr:(a5q f (c.args.toList.map jY) fun l=>C.fn (lU k) k l H).Is v H1:=hr
 rw[a8k hf]at hr
 obtain⟨h1|hx,h2⟩:=hC.fn _ _ _ _ _ _ hk hr rfl
 case inr=>exact⟨.ext hok c (.func k) k #[] #[] rfl hc rfl (by simpa using hx),h2⟩
 obtain⟨he,v',H',hcall,rfl,rfl⟩:=h1.fn
 exact⟨.call hok c (.func k) k #[] #[] rfl hc rfl he (by simpa using hcall),h2⟩
theorem b7n{c:Call}{g:Operand}(hc:c.callee=.value g)(hok:(Op.call c).operands.toList.all jT=true):zI P ⟨dst,.call c,type,pos,after,guard⟩ (.callV (jY g) (c.args.toList.map jY)):=fun C H0 f l H v H1 hC hk hf hr=>by
 have hr:(a5q f (c.args.toList.map jY) fun l=>b2o C l H (oA f (jY g))).Is v H1:=hr
 rw[a8k hf,kV hf]at hr
 unfold b2o at hr
 split at hr
 ·rename_i k a b hg
  rw[lA,mV]at hr
  obtain⟨h1|hx,h2⟩:=hC.fn _ _ _ _ _ _ hk hr rfl
  case inr=>exact⟨.ext hok c g k ⟨a⟩ ⟨b⟩ rfl hc hg (by simpa [a0C]using hx),h2⟩
  obtain⟨he,v',H',hcall,rfl,rfl⟩:=h1.fn
  exact⟨.call hok c g k ⟨a⟩ ⟨b⟩ rfl hc hg he (by simpa [a0C]using hcall),h2⟩
 ·rename_i L a b hg
  obtain⟨h1,h2⟩:=hC.rd _ _ _ _ _ hk hr
  exact⟨.round hok c g L _ _ rfl hc hg h1,h2⟩
 ·exact absurd hr Rs.ax
end
set_option maxHeartbeats 1000000 in
theorem b4L{α:Type}(o:Oper)(K:LOp→α):∃lo,zI P o lo∧a1l P o K=K lo:=by
 unfold a1l
 rw[lM]
 by_cases hok:o.op.operands.toList.all jT=true
 case neg=>rw[if_neg hok];exact⟨_,c4e o,rfl⟩
 rw[if_pos hok]
 have gen:∃lo,zI P o lo∧K (.gen o)=K lo:=⟨_,(c4O o).low hok,rfl⟩
 obtain⟨dst,op,type,pos,after,guard⟩:=o
 unfold d0e
 cases op with
 | move x=>simp only[mG];exact⟨_,(c7r x).low hok,rfl⟩
 | assign x=>simp only[mG];exact⟨_,(c6p x).low hok,rfl⟩
 | pick c a b=>simp only[mG];exact⟨_,(b8q c a b).low hok,rfl⟩
 | binOp op t x y yt=>
   simp only[mG,lM]
   split
   ·split
    ·rename_i g hg;exact⟨_,(c4W hg t yt x y).low hok,rfl⟩
    ·exact gen
   ·exact gen
 | load t x=>
   simp only[mG]
   split
   ·rename_i ht
    cases hn:jD P t with
    | none=>exact gen
    | some n=>rw[qZ];exact⟨_,(c3s ht hn x).low hok,rfl⟩
   ·rename_i ht;exact⟨_,(c2g ht x).low hok,rfl⟩
   ·exact gen
 | store t x y=>
   simp only[mG]
   cases hn:jD P t with
   | none=>exact gen
   | some n=>rw[qZ];exact⟨_,(c7w hn x y).low hok,rfl⟩
 | fieldAddr s x k=>
   simp only[mG]
   split
   ·rename_i fd hfd
    split
    ·exact gen
    ·rename_i n hn0 hn
     rw[lA]
     exact⟨_,(c6x hfd hn (fun e=>hn0 e) x).low hok,rfl⟩
    ·exact gen
   ·exact gen
 | indexAddr t x i=>
   simp only[mG]
   split
   ·rename_i elem ht
    cases hs:jD P elem with
    | none=>exact gen
    | some n=>rw[qZ];exact⟨_,(c3Z ht hs x i).low hok,rfl⟩
   ·rename_i n elem ht
    cases hs:jD P elem with
    | none=>exact gen
    | some m=>rw[qZ];exact⟨_,(c3k ht hs x i).low hok,rfl⟩
   ·exact gen
 | extract t i=>simp only[mG];rw[lA];exact⟨_,(c3U i t).low hok,rfl⟩
 | call c=>
   simp only
   unfold c1j
   split
   ·rename_i k hc
    rw[mV,a5A]
    exact⟨_,b6F hc hok,rfl⟩
   ·rename_i g _ hc
    rw[mG,a5A]
    exact⟨_,b7n hc hok,rfl⟩
   ·rename_i hc
    rw[lM]
    split
    ·rename_i h1
     simp only[dB,beq_iff_eq]at h1
     split
     ·rename_i elem ht;rw[mG];exact⟨_,(c4n hc h1.1 h1.2 ht).low hok,rfl⟩
     ·rename_i ht;rw[mG];exact⟨_,(c0R hc h1.1 h1.2 ht).low hok,rfl⟩
     ·exact gen
    ·exact gen
   ·rename_i hc
    rw[lM]
    split
    ·rename_i h1
     simp only[dB,beq_iff_eq]at h1
     split
     ·rename_i elem he
      cases hs:jD P elem with
      | none=>exact gen
      | some size=>
        rw[qZ]
        cases hb:pF P elem with
        | none=>exact gen
        | some bytes=>
          rw[qZ]
          split
          ·rename_i z hz
           rw[lM]
           split
           ·rename_i h2
            simp only[dB,beq_iff_eq,bne_iff_ne]at h2
            rw[lA,mG,mG]
            exact⟨_,(c3A hc h1.1.1 h1.1.2 h1.2 he hs hb hz h2.1 h2.2).low hok,rfl⟩
           ·exact gen
          ·exact gen
     ·exact gen
    ·exact gen
   ·exact gen
 | _=>exact gen
def DOk(k:Nat)(dst:Option Tmp)(d:Option Pth):Prop:=(dst=none∧d=none)∨∃t,dst=some t∧t<k∧d=some (lU t)
inductive LowOps(P:Program)(k:Nat)(ops:Array Oper):List Oper→LOps→Prop
 | nil:LowOps P k ops [] .nil
 | cons {o:Oper} {os:List Oper} {d:Option Pth} {lo:LOp} {r:LOps} (hd:DOk k o.dst d) (ho:zI P o lo) (hg:o.guard=none) (hr:LowOps P k ops os r):LowOps P k ops (o::os) (.cons d lo r)
 | gcons {o:Oper} {os:List Oper} {d:Option Pth} {lo:LOp} {r:LOps} {j t:Nat} {w:Bool} (hd:DOk k o.dst d) (ho:zI P o lo) (hg:o.guard=some (j,w)) (ht:(ops[j]?).bind (·.dst)=some t) (htk:t<k) (hr:LowOps P k ops os r):LowOps P k ops (o::os) (.gcons (lU t) w d lo r)
def GOk(ops:Array Oper)(o:Oper)(g:Option (Pth×Bool)):Prop:=(o.guard=none∧g=none)∨∃j w t,o.guard=some (j,w)∧(ops[j]?).bind (·.dst)=some t∧g=some (lU t,w)
theorem GOk.runs{ops:Array Oper}{o:Oper}{g:Option (Pth×Bool)}(h:GOk ops o g){f:Fr}{l:List Value}(hf:FAg f l)(hw:Region.wanted o (jX ops l)=true):c1I f g=true:=by
 rcases h with⟨_,rfl⟩|⟨j,w,t,hg,ht,rfl⟩
 ·rfl
 ·simp only[Region.wanted,hg,jX,ht]at hw
  show isB (pR (lU t) f) w=true
  rw[hf t,pW,dE]
  cases hl:l[t]? with
  | none=>rw[hl]at hw;simp at hw
  | some v=>
    rw[hl]at hw
    cases v<;>simp at hw
    subst hw
    rename_i b
    cases b<;>rfl
inductive LowTab(P:Program)(ops:Array Oper):List (Nat×Nat)→List (Nat×Option Nat×Option (Pth×Bool)×LOp)→Prop
 | nil:LowTab P ops [] []
 | cons {i m:Nat} {o:Oper} {lo:LOp} {tab:List (Nat×Nat)} {t:List (Nat×Option Nat×Option (Pth×Bool)×LOp)} {g:Option (Pth×Bool)} (ho:ops[i]? =some o) (hgd:GOk ops o g) (hl:zI P o lo) (hr:LowTab P ops tab t):
    LowTab P ops ((i,m)::tab) ((ops.size-1-i,if m<ops.size then some (ops.size-1-m)else none,g,lo)::t)
inductive Low(P:Program)(k:Nat):Code→LCode→Prop
 | bad (c:Code):Low P k c .bad
 | skip:Low P k .skip .skip
 | label (t:Nat):Low P k (.label t) .skip
 | reg {id:Nat} {ops:Array Oper} {d:Bool} {lo:LOps} (h:LowOps P k ops ops.toList lo) (hd:d=true→oN P ops=some []):Low P k (.region id ops d) (.reg lo)
 | drw {id:Nat} {ops:Array Oper} {lo:LOps} {tab:List (Nat×Nat)} {t:List (Nat×Option Nat×Option (Pth×Bool)×LOp)} (h:LowOps P k ops ops.toList lo) (ht:oN P ops=some tab) (hl:LowTab P ops tab t):Low P k (.region id ops true) (.drw lo t)
 | seq {a b:Code} {A B:LCode} (ha:Low P k a A) (hb:Low P k b B):Low P k (.seq a b) (.seq A B)
 | cond {c:Operand} {x y:Code} {X Y:LCode} (hc:jT c=true) (hx:Low P k x X) (hy:Low P k y Y):Low P k (.cond c x y) (.cond (jY c) X Y)
 | block {id:Nat} {b:Code} {B:LCode} (hb:Low P k b B):Low P k (.block id b) (.block id B)
 | loop {b:Code} {B:LCode} (hb:Low P k b B):Low P k (.loop b) (.loop B)
 | exit (id:Nat):Low P k (.exit id) (.exit id)
 | ret:Low P k .ret .ret
 | range {g:Operand} {ps:Array Tmp} {assign body:Code} {A B:LCode} (hg:jT g=true) (hps:∀t∈ps.toList,t<k) (ha:Low P k assign A) (hb:Low P k body B):
    Low P k (.rangeFunc g ps assign body) (.range (jY g) ((List.range k).map lU) (ps.toList.map lU) ps assign body A B)
section
variable {α:Type}
theorem c0y(k:Nat)(dst:Option Tmp)(no:α)(K:Option Pth→α):(∃d,DOk k dst d∧a8m k dst no K=K d)∨a8m k dst no K=no:=by
 cases dst with
 | none=>exact .inl ⟨none,.inl ⟨rfl,rfl⟩,rfl⟩
 | some t=>
   simp only[a8m,lM]
   split
   ·rename_i h
    rw[mV]
    rw[blt_eq]at h
    exact .inl ⟨_,.inr ⟨t,rfl,by simpa using h,rfl⟩,rfl⟩
   ·exact .inr rfl
theorem a4c(k:Nat)(ops:Array Oper)(l:List Oper)(K:LOps→α)(no:α):(∃L,LowOps P k ops l L∧yB P k ops l K no=K L)∨yB P k ops l K no=no:=by
 induction l generalizing K with
 | nil=>exact .inl ⟨_,.nil,rfl⟩
 | cons o l ih=>
   let K2:Option Pth→LOp→α:=fun d o'=>match o.guard with
    | none=>yB P k ops l (fun r=>K (.cons d o' r)) no
    | some (j,w)=>match (ops[j]?).bind (·.dst)with
      | some t=>pO (Nat.blt t k) no (nC (lU t) fun p=>a1Y w fun w=>yB P k ops l (fun r=>K (.gcons p w d o' r)) no)
      | none=>no
   have e:yB P k ops (o::l) K no=a8m k o.dst no fun d=>a1l P o fun o'=>K2 d o':=rfl
   rw[e]
   rcases c0y k o.dst no (fun d=>a1l P o fun o'=>K2 d o')with⟨d,hd,h1⟩|h1
   ·rw[h1]
    obtain⟨lo,hlo,h2⟩:=b4L (P:=P) o (fun o'=>K2 d o')
    rw[h2]
    simp only[K2]
    split
    ·rename_i hg
     rcases ih (fun r=>K (.cons d lo r))with⟨L,hL,h3⟩|h3
     ·exact .inl ⟨_,.cons hd hlo hg hL,h3⟩
     ·exact .inr h3
    ·rename_i j w hg
     split
     ·rename_i t ht
      rw[lM]
      split
      ·rename_i htk
       rw[mV,yM]
       rw[blt_eq]at htk
       rcases ih (fun r=>K (.gcons (lU t) w d lo r))with⟨L,hL,h3⟩|h3
       ·exact .inl ⟨_,.gcons hd hlo hg ht (by simpa using htk) hL,h3⟩
       ·exact .inr h3
      ·exact .inr rfl
     ·exact .inr rfl
   ·exact .inr h1
theorem c6Q(k:Nat)(ops:Array Oper)(o:Oper)(no:α)(K:Option (Pth×Bool)→α):(∃g,GOk ops o g∧loG k ops o.guard no K=K g)∨loG k ops o.guard no K=no:=by
 cases hg:o.guard with
 | none=>exact .inl ⟨none,.inl ⟨hg,rfl⟩,rfl⟩
 | some x=>
   obtain⟨j,w⟩:=x
   unfold loG
   cases ht:(ops[j]?).bind (·.dst)with
   | none=>exact .inr (by simp only[ht])
   | some t=>
     simp only[ht,lM]
     split
     ·refine .inl ⟨some (lU t,w),.inr ⟨j,w,t,hg,ht,rfl⟩,?_⟩
      rw[mV,yM]
     ·exact .inr rfl
theorem b8b(k:Nat)(ops:Array Oper)(tab:List (Nat×Nat))(K:List (Nat×Option Nat×Option (Pth×Bool)×LOp)→α)(no:α):(∃t,LowTab P ops tab t∧wG P k ops ops.size tab K no=K t)∨wG P k ops ops.size tab K no=no:=by
 induction tab generalizing K with
 | nil=>exact .inl ⟨_,.nil,rfl⟩
 | cons x tab ih=>
   obtain⟨i,m⟩:=x
   cases ho:ops[i]? with
   | none=>
     refine .inr ?_
     show(match ops[i]? with
      | some o=>_
      | none=>no)=no
     rw[ho]
   | some o=>
     let K2:Option (Pth×Bool)→LOp→α:=fun g o'=>lD (ops.size-1-i) fun i=>pO (Nat.blt m ops.size) (wG P k ops ops.size tab (fun l=>K ((i,none,g,o')::l)) no) (lD (ops.size-1-m) fun m=>wG P k ops ops.size tab (fun l=>K ((i,some m,g,o')::l)) no)
     have e:wG P k ops ops.size ((i,m)::tab) K no=loG k ops o.guard no fun g=>a1l P o fun o'=>K2 g o':=by
      show(match ops[i]? with
       | some o=>loG k ops o.guard no fun g=>a1l P o fun o'=>K2 g o'
       | none=>no)=_
      rw[ho]
     rw[e]
     rcases c6Q k ops o no (fun g=>a1l P o fun o'=>K2 g o')with⟨g,hgd,h1⟩|h1
     ·rw[h1]
      obtain⟨lo,hlo,h2⟩:=b4L (P:=P) o (fun o'=>K2 g o')
      rw[h2]
      show(∃t,_∧lD (ops.size-1-i) (fun i=>pO (Nat.blt m ops.size) (wG P k ops ops.size tab (fun l=>K ((i,none,g,lo)::l)) no) (lD (ops.size-1-m) fun m=>wG P k ops ops.size tab (fun l=>K ((i,some m,g,lo)::l)) no))=K t)∨lD (ops.size-1-i) (fun i=>pO (Nat.blt m ops.size) (wG P k ops ops.size tab (fun l=>K ((i,none,g,lo)::l)) no) (lD (ops.size-1-m) fun m=>wG P k ops ops.size tab (fun l=>K ((i,some m,g,lo)::l)) no))=no
      rw[lA,lM,lA,blt_eq]
      by_cases hm:m<ops.size
      ·rw[if_pos (by simpa using hm)]
       rcases ih (fun l=>K ((ops.size-1-i,some (ops.size-1-m),g,lo)::l))with⟨t,ht,h3⟩|h3
       ·have:=LowTab.cons (m:=m) ho hgd hlo ht
        rw[if_pos hm]at this
        exact .inl ⟨_,this,h3⟩
       ·exact .inr h3
      ·rw[if_neg (by simpa using hm)]
       rcases ih (fun l=>K ((ops.size-1-i,none,g,lo)::l))with⟨t,ht,h3⟩|h3
       ·have:=LowTab.cons (m:=m) ho hgd hlo ht
        rw[if_neg hm]at this
        exact .inl ⟨_,this,h3⟩
       ·exact .inr h3
     ·exact .inr h1
theorem b7u(k:Nat)(l:List Tmp)(K:List Pth→α)(no:α):((∀t∈l,t<k)∧a0s k l K no=K (l.map lU))∨a0s k l K no=no:=by
 induction l generalizing K with
 | nil=>exact .inl ⟨by simp,rfl⟩
 | cons t l ih=>
   show _∨pO (Nat.blt t k) no (nC (lU t) fun p=>a0s k l (fun l=>K (p::l)) no)=no
   have e:a0s k (t::l) K no=pO (Nat.blt t k) no (nC (lU t) fun p=>a0s k l (fun l=>K (p::l)) no):=rfl
   rw[e,lM,mV,blt_eq]
   by_cases h:t<k
   ·rw[if_pos (by simpa using h)]
    rcases ih (fun l=>K (lU t::l))with⟨h1,h2⟩|h2
    ·exact .inl ⟨by simpa using⟨h,h1⟩,h2⟩
    ·exact .inr h2
   ·rw[if_neg (by simpa using h)];exact .inr rfl
theorem b5h(k:Nat)(c:Code)(K:LCode→α):∃C,Low P k c C∧oS P k c K=K C:=by
 induction c generalizing K with
 | skip=>exact⟨_,.skip,rfl⟩
 | region id ops d=>
   cases d with
   | false=>
     show ∃C,_∧yB P k ops ops.toList (fun l=>K (.reg l)) (K .bad)=K C
     rcases a4c (P:=P) k ops ops.toList (fun l=>K (.reg l)) (K .bad)with⟨L,hL,h⟩|h
     ·exact⟨_,.reg hL (fun h=>by cases h),h⟩
     ·exact⟨_,.bad _,h⟩
   | true=>
     show ∃C,_∧(match oN P ops with
      | some []=>yB P k ops ops.toList (fun l=>K (.reg l)) (K .bad)
      | some tab=>yB P k ops ops.toList (fun l=>wG P k ops ops.size tab (fun t=>K (.drw l t)) (K .bad)) (K .bad)
      | none=>K .bad)=K C
     split
     ·rename_i hd
      rcases a4c (P:=P) k ops ops.toList (fun l=>K (.reg l)) (K .bad)with⟨L,hL,h⟩|h
      ·exact⟨_,.reg hL (fun _=>hd),h⟩
      ·exact⟨_,.bad _,h⟩
     ·rename_i tab _ hd
      rcases a4c (P:=P) k ops ops.toList (fun l=>wG P k ops ops.size tab (fun t=>K (.drw l t)) (K .bad)) (K .bad)with⟨L,hL,h⟩|h
      ·rw[h]
       rcases b8b (P:=P) k ops tab (fun t=>K (.drw L t)) (K .bad)with⟨t,ht,h2⟩|h2
       ·exact⟨_,.drw hL hd ht,h2⟩
       ·exact⟨_,.bad _,h2⟩
      ·exact⟨_,.bad _,h⟩
     ·exact⟨_,.bad _,rfl⟩
 | seq a b iha ihb=>
   show ∃C,_∧oS P k a (fun a=>oS P k b fun b=>K (.seq a b))=K C
   obtain⟨A,hA,h1⟩:=iha (fun a=>oS P k b fun b=>K (.seq a b))
   obtain⟨B,hB,h2⟩:=ihb (fun b=>K (.seq A b))
   exact⟨_,.seq hA hB,h1.trans h2⟩
 | cond c x y ihx ihy=>
   show ∃C,_∧pO (jT c) (K .bad) (nH c fun c=>oS P k x fun x=>oS P k y fun y=>K (.cond c x y))=K C
   rw[lM]
   split
   ·rename_i hc
    rw[mG]
    obtain⟨X,hX,h1⟩:=ihx (fun x=>oS P k y fun y=>K (.cond (jY c) x y))
    obtain⟨Y,hY,h2⟩:=ihy (fun y=>K (.cond (jY c) X y))
    exact⟨_,.cond hc hX hY,h1.trans h2⟩
   ·exact⟨_,.bad _,rfl⟩
 | block id b ih=>
   show ∃C,_∧lD id (fun id=>oS P k b fun b=>K (.block id b))=K C
   rw[lA]
   obtain⟨B,hB,h1⟩:=ih (fun b=>K (.block id b))
   exact⟨_,.block hB,h1⟩
 | loop b ih=>
   show ∃C,_∧oS P k b (fun b=>K (.loop b))=K C
   obtain⟨B,hB,h1⟩:=ih (fun b=>K (.loop b))
   exact⟨_,.loop hB,h1⟩
 | rangeFunc g ps assign body iha ihb=>
   show ∃C,_∧pO (jT g) (K .bad) (nH g fun g'=>b6i k fun pp=>a0s k ps.toList (fun q=>oS P k assign fun a=>oS P k body fun b=>K (.range g' pp q ps assign body a b)) (K .bad))=K C
   rw[lM]
   split
   ·rename_i hg
    rw[mG,b3Z]
    rcases b7u k ps.toList (fun q=>oS P k assign fun a=>oS P k body fun b=>K (.range (jY g) ((List.range k).map lU) q ps assign body a b)) (K .bad)with⟨hps,h⟩|h
    ·obtain⟨A,hA,h1⟩:=iha (fun a=>oS P k body fun b=>K (.range (jY g) ((List.range k).map lU) (ps.toList.map lU) ps assign body a b))
     obtain⟨B,hB,h2⟩:=ihb (fun b=>K (.range (jY g) ((List.range k).map lU) (ps.toList.map lU) ps assign body A b))
     exact⟨_,.range hg hps hA hB,h.trans (h1.trans h2)⟩
    ·exact⟨_,.bad _,h⟩
   ·exact⟨_,.bad _,rfl⟩
 | exit id=>
   show ∃C,_∧lD id (fun id=>K (.exit id))=K C
   rw[lA]
   exact⟨_,.exit id,rfl⟩
 | label t=>exact⟨_,.label t,rfl⟩
 | ret=>exact⟨_,.ret,rfl⟩
 | scope b _=>exact⟨_,.bad _,rfl⟩
 | goto t=>exact⟨_,.bad _,rfl⟩
 | refuse w=>exact⟨_,.bad _,rfl⟩
end
theorem yX{α:Type}{k:Nat}{f:Fr}{l:List Value}(h:FRel k f l){dst:Option Tmp}{d:Option Pth}(hd:DOk k dst d)(v:Value)(K:Fr→α):∃f',xV d v f K=K f'∧FRel k f' (put l dst v):=by
 rcases hd with⟨rfl,rfl⟩|⟨t,rfl,ht,rfl⟩
 ·exact⟨f,rfl,h⟩
 ·exact⟨b8F f t v,wF v (lU t) f K,h.put ht v⟩
theorem a1n{ops:Array Oper}{l:List Value}{j t:Nat}(ht:(ops[j]?).bind (·.dst)=some t)(htl:t<l.length)(w:Bool):(jX ops l j==some w)=isB (get l t) w:=by
 have hg:get l t=l[t]:=by rw[pW];simp[htl]
 unfold jX
 rw[ht,hg]
 simp only[dH htl]
 cases hv:l[t]<;>simp[isB]
 rename_i b
 cases b<;>cases w<;>rfl
theorem c3e{k:Nat}{ops:Array Oper}{C:Calls'}{H0:Heap}(hC:CallsOk P C H0){os:List Oper}{lo:LOps}(hlo:LowOps P k ops os lo):∀{i:Nat},ops.toList.drop i=os→∀{f:Fr}{l:List Value}{H:Heap}{f1:Fr}{H1:Heap},
 FRel k f l→LK H0 H→a0Y P C lo f H=.ok f1 H1→∃l1,FRel k f1 l1∧OpsR P ops (List.range' i os.length) l H l1 H1∧LK H H1:=by
 induction hlo with
 | nil=>
   intro i _ f l H f1 H1 hf _ h
   injection h with h1 h2
   subst h1 h2
   exact⟨l,hf,.nil l H,.refl H⟩
 | @cons o os d lo r hd ho hg hr ih=>
   intro i hi f l H f1 H1 hf hk h
   have hio:ops[i]? =some o:=by
    have:(ops.toList.drop i)[0]? =some o:=by rw[hi];rfl
    rw[ed]at this
    simpa using this
   have hi':ops.toList.drop (i+1)=os:=by rw[←gk,hi];rfl
   have hw:Region.wanted o (jX ops l)=true:=by simp[Region.wanted,hg]
   have h:b4w Rf.no d f (a0Y P C r) (opF P C lo f H)=.ok f1 H1:=h
   have key:∀v H2,(opF P C lo f H).Is v H2→(xV d v f fun f=>a0Y P C r f H2)=.ok f1 H1→∃l1,FRel k f1 l1∧OpsR P ops (List.range' i (o::os).length) l H l1 H1∧LK H H1:=by
    intro v H2 hop hrest
    obtain⟨hs,hk2⟩:=ho C H0 f l H v H2 hC hk hf.2 hop
    obtain⟨f',e,hf'⟩:=yX hf hd v (fun f=>a0Y P C r f H2)
    rw[e]at hrest
    obtain⟨l1,h1,h2,h3⟩:=ih hi' hf' (hk.trans hk2) hrest
    exact⟨l1,h1,.step hio hw hs h2,hk2.trans h3⟩
   cases hop:opF P C lo f H with
   | no=>rw[hop]at h;cases h
   | ok v H2=>rw[hop]at h;exact key v H2 (.inl hop) h
   | th v H2=>
     rw[hop]at h
     have h:a1h v (fun v=>pH H2 fun H2=>xV d v f fun f=>a0Y P C r f H2)=.ok f1 H1:=h
     rw[a0Q,nN]at h
     exact key v H2 (.inr hop) h
 | @gcons o os d lo r j t w hd ho hg ht htk hr ih=>
   intro i hi f l H f1 H1 hf hk h
   have hio:ops[i]? =some o:=by
    have:(ops.toList.drop i)[0]? =some o:=by rw[hi];rfl
    rw[ed]at this
    simpa using this
   have hi':ops.toList.drop (i+1)=os:=by rw[←gk,hi];rfl
   have hwi:Region.wanted o (jX ops l)=isB (pR (lU t) f) w:=by
    simp only[Region.wanted,hg]
    rw[a1n ht (by rw[hf.1];exact htk) w,hf.2 t]
   have h:pO (isB (pR (lU t) f) w) (xV d undef f fun f=>a0Y P C r f H) (b4w Rf.no d f (a0Y P C r) (opF P C lo f H))=.ok f1 H1:=h
   rw[lM]at h
   split at h
   ·rename_i hb
    have key:∀v H2,(opF P C lo f H).Is v H2→(xV d v f fun f=>a0Y P C r f H2)=.ok f1 H1→∃l1,FRel k f1 l1∧OpsR P ops (List.range' i (o::os).length) l H l1 H1∧LK H H1:=by
     intro v H2 hop hrest
     obtain⟨hs,hk2⟩:=ho C H0 f l H v H2 hC hk hf.2 hop
     obtain⟨f',e,hf'⟩:=yX hf hd v (fun f=>a0Y P C r f H2)
     rw[e]at hrest
     obtain⟨l1,h1,h2,h3⟩:=ih hi' hf' (hk.trans hk2) hrest
     exact⟨l1,h1,.step hio (by rw[hwi,hb]) hs h2,hk2.trans h3⟩
    cases hop:opF P C lo f H with
    | no=>rw[hop]at h;cases h
    | ok v H2=>rw[hop]at h;exact key v H2 (.inl hop) h
    | th v H2=>
      rw[hop]at h
      have h:a1h v (fun v=>pH H2 fun H2=>xV d v f fun f=>a0Y P C r f H2)=.ok f1 H1:=h
      rw[a0Q,nN]at h
      exact key v H2 (.inr hop) h
   ·rename_i hb
    obtain⟨f',e,hf'⟩:=yX hf hd undef (fun f=>a0Y P C r f H)
    rw[e]at h
    obtain⟨l1,h1,h2,h3⟩:=ih hi' hf' hk h
    exact⟨l1,h1,.past hio (by rw[hwi];simpa using hb) h2,h3⟩
structure Noted(P:Program)(k:Nat)(ops:Array Oper)(H:Heap)(i n:Nat)(T:Nat→List Value×Heap)(val:Nat→Value)(tr0 tr:List (Fr×Heap×Value)):Prop where
 step:∀j,i≤j→j<i+n→zL P ops j (T j) (T (j+1)) (val j)
 new:∀j,i≤j→j<i+n→∃g,tr[i+n-1-j]? =some (g,(T j).2,val j)∧FAg g (T j).1
 old:∀m,tr[n+m]? =tr0[m]?
 lk:∀j,i≤j→j≤i+n→LK H (T j).2
theorem c1v{k:Nat}{ops:Array Oper}{C:Calls'}{H0:Heap}(hC:CallsOk P C H0){os:List Oper}{lo:LOps}(hlo:LowOps P k ops os lo):∀{i:Nat},ops.toList.drop i=os→∀{tr0 tr:List (Fr×Heap×Value)}{f:Fr}{l:List Value}{H:Heap}{f1:Fr}{H1:Heap},
 FRel k f l→LK H0 H→tZ P C lo tr0 f H=.ok tr f1 H1→∃T val l1,T i=(l,H)∧T (i+os.length)=(l1,H1)∧FRel k f1 l1∧Noted P k ops H i os.length T val tr0 tr:=by
 have more:∀{i n:Nat}{o:Oper}{tr0 tr:List (Fr×Heap×Value)}{f:Fr}{l:List Value}{H:Heap}{v:Value}{l2:List Value}{H2:Heap}{l1:List Value}{H1:Heap}{f1:Fr},FRel k f l→zL P ops i (l,H) (l2,H2) v→LK H H2→
  (∃T val l1,T (i+1)=(l2,H2)∧T (i+1+n)=(l1,H1)∧FRel k f1 l1∧Noted P k ops H2 (i+1) n T val ((f,H,v)::tr0) tr)→
  ∃T val l1,T i=(l,H)∧T (i+(n+1))=(l1,H1)∧FRel k f1 l1∧Noted P k ops H i (n+1) T val tr0 tr:=by
  intro i n o tr0 tr f l H v l2 H2 _ H1 f1 hf hst hk ⟨T,val,l1,h1,h2,h3,hN⟩
  refine⟨fun j=>if j≤i then(l,H)else T j,fun j=>if j≤i then v else val j,l1,by simp,?_,h3,?_⟩
  ·show(if i+(n+1)≤i then(l,H)else T (i+(n+1)))=_
   rw[if_neg (by omega),←h2];congr 1;omega
  ·refine⟨fun j hj hn=> ?_,fun j hj hn=> ?_,fun m=> ?_,fun j hj hn=> ?_⟩
   ·by_cases he:j=i
    ·subst he
     simp only[dG,if_true]
     rw[if_neg (by omega),h1]
     exact hst
    ·rw[if_neg (by omega),if_neg (by omega),if_neg (by omega)]
     exact hN.step j (by omega) (by omega)
   ·by_cases he:j=i
    ·subst he
     simp only[dG,if_true]
     refine⟨f,?_,hf.2⟩
     have:=hN.old 0
     rw[show j+(n+1)-1-j=n+0 by omega,this];rfl
    ·rw[if_neg (by omega),if_neg (by omega)]
     obtain⟨g,hg,hag⟩:=hN.new j (by omega) (by omega)
     exact⟨g,by rw[←hg];congr 1;omega,hag⟩
   ·have:=hN.old (m+1)
    rw[show n+1+m=n+(m+1) by omega,this];rfl
   ·by_cases he:j=i
    ·subst he;simp only[dG,if_true];exact .refl H
    ·rw[if_neg (by omega)];exact hk.trans (hN.lk j (by omega) (by omega))
 induction hlo with
 | nil=>
   intro i _ tr0 tr f l H f1 H1 hf _ h
   injection h with h1 h2 h3
   subst h1 h2 h3
   exact⟨fun _=>(l,H),fun _=>undef,l,rfl,rfl,hf,fun j _ h=>absurd h (by simp;omega),fun j _ h=>absurd h (by simp;omega),fun m=>by simp,fun _ _ _=>.refl H⟩
 | @cons o os d lo r hd ho hg hr ih=>
   intro i hi tr0 tr f l H f1 H1 hf hk h
   have hio:ops[i]? =some o:=by
    have:(ops.toList.drop i)[0]? =some o:=by rw[hi];rfl
    rw[ed]at this
    simpa using this
   have hi':ops.toList.drop (i+1)=os:=by rw[←gk,hi];rfl
   have hw:Region.wanted o (jX ops l)=true:=by simp[Region.wanted,hg]
   have h:b3T tr0 f H d (tZ P C r) (opF P C lo f H)=.ok tr f1 H1:=h
   have key:∀v H2,(opF P C lo f H).Is v H2→(xV d v f fun f2=>tZ P C r ((f,H,v)::tr0) f2 H2)=.ok tr f1 H1→∃T val l1,T i=(l,H)∧T (i+(o::os).length)=(l1,H1)∧FRel k f1 l1∧Noted P k ops H i (o::os).length T val tr0 tr:=by
    intro v H2 hop hrest
    obtain⟨hs,hk2⟩:=ho C H0 f l H v H2 hC hk hf.2 hop
    obtain⟨f',e,hf'⟩:=yX hf hd v (fun f2=>tZ P C r ((f,H,v)::tr0) f2 H2)
    rw[e]at hrest
    have:=ih hi' hf' (hk.trans hk2) hrest
    exact more (o:=o) (l1:=l) hf ⟨o,hio,rfl,.inl ⟨hw,hs⟩⟩ hk2 this
   cases hop:opF P C lo f H with
   | no=>rw[hop]at h;cases h
   | ok v H2=>rw[hop]at h;exact key v H2 (.inl hop) h
   | th v H2=>
     rw[hop]at h
     have h:a1h v (fun v=>pH H2 fun H2=>xV d v f fun f2=>tZ P C r ((f,H,v)::tr0) f2 H2)=.ok tr f1 H1:=h
     rw[a0Q,nN]at h
     exact key v H2 (.inr hop) h
 | @gcons o os d lo r j t w hd ho hg ht htk hr ih=>
   intro i hi tr0 tr f l H f1 H1 hf hk h
   have hio:ops[i]? =some o:=by
    have:(ops.toList.drop i)[0]? =some o:=by rw[hi];rfl
    rw[ed]at this
    simpa using this
   have hi':ops.toList.drop (i+1)=os:=by rw[←gk,hi];rfl
   have hwi:Region.wanted o (jX ops l)=isB (pR (lU t) f) w:=by
    simp only[Region.wanted,hg]
    rw[a1n ht (by rw[hf.1];exact htk) w,hf.2 t]
   have h:pO (isB (pR (lU t) f) w) (xV d undef f fun f2=>tZ P C r ((f,H,undef)::tr0) f2 H) (b3T tr0 f H d (tZ P C r) (opF P C lo f H))=.ok tr f1 H1:=h
   rw[lM]at h
   split at h
   ·rename_i hb
    have key:∀v H2,(opF P C lo f H).Is v H2→(xV d v f fun f2=>tZ P C r ((f,H,v)::tr0) f2 H2)=.ok tr f1 H1→∃T val l1,T i=(l,H)∧T (i+(o::os).length)=(l1,H1)∧FRel k f1 l1∧Noted P k ops H i (o::os).length T val tr0 tr:=by
     intro v H2 hop hrest
     obtain⟨hs,hk2⟩:=ho C H0 f l H v H2 hC hk hf.2 hop
     obtain⟨f',e,hf'⟩:=yX hf hd v (fun f2=>tZ P C r ((f,H,v)::tr0) f2 H2)
     rw[e]at hrest
     exact more (o:=o) (l1:=l) hf ⟨o,hio,rfl,.inl ⟨by rw[hwi,hb],hs⟩⟩ hk2 (ih hi' hf' (hk.trans hk2) hrest)
    cases hop:opF P C lo f H with
    | no=>rw[hop]at h;cases h
    | ok v H2=>rw[hop]at h;exact key v H2 (.inl hop) h
    | th v H2=>
      rw[hop]at h
      have h:a1h v (fun v=>pH H2 fun H2=>xV d v f fun f2=>tZ P C r ((f,H,v)::tr0) f2 H2)=.ok tr f1 H1:=h
      rw[a0Q,nN]at h
      exact key v H2 (.inr hop) h
   ·rename_i hb
    obtain⟨f',e,hf'⟩:=yX hf hd undef (fun f2=>tZ P C r ((f,H,undef)::tr0) f2 H)
    rw[e]at h
    exact more (o:=o) (l1:=l) hf ⟨o,hio,rfl,.inr ⟨by rw[hwi];simpa using hb,rfl,rfl⟩⟩ (.refl H) (ih hi' hf' hk h)
theorem b3V{α:Type}(p:α→Bool)(l:List α):b8L p l=l.all p:=by
 induction l with
 | nil=>rfl
 | cons x l ih=>
   show pO (p x) false (b8L p l)=_
   rw[lM,ih,gw]
   cases p x<;>rfl
theorem c4j{v:Value}{r:Rs}(h:c2p v r=true):∃H,r.Is v H:=by
 cases r with
 | no=>cases h
 | ok w H=>exact⟨H,.inl (by rw[c1X (show veq w v=true from h)])⟩
 | th w H=>exact⟨H,.inr (by rw[c1X (show veq w v=true from h)])⟩
theorem LowTab.get{ops:Array Oper}{tab:List (Nat×Nat)}{t:List (Nat×Option Nat×Option (Pth×Bool)×LOp)}(h:LowTab P ops tab t){i m:Nat}(hm:(i,m)∈tab):∃o lo g,ops[i]? =some o∧GOk ops o g∧zI P o lo∧(ops.size-1-i,(if m<ops.size then some (ops.size-1-m)else none),g,lo)∈t:=by
 induction h with
 | nil=>cases hm
 | @cons i2 m2 o lo tab t g ho hgd hl hr ih=>
   rcases ew.1 hm with he|hm
   ·injection he with h1 h2
    subst h1 h2
    exact⟨o,lo,g,ho,hgd,hl,by simp⟩
   ·obtain⟨o',lo',g',h1,h0,h2,h3⟩:=ih hm
    exact⟨o',lo',g',h1,h0,h2,eX _ h3⟩
theorem b3A{fl:Fl}{ops:Array Oper}{i m:Nat}(h:(i,m)∈nY fl ops){o:Oper}(ho:ops[i]? =some o):pI o.op=true:=by
 unfold nY at h
 simp only[eM]at h
 obtain⟨⟨x,j⟩,hx,h⟩:=h
 dsimp only at h
 split at h
 ·rename_i hr
  simp only[dP]at h
  obtain⟨m',_,e⟩:=h
  injection e with e1 e2
  subst e1
  have:=iD.1 hx
  have:ops[j]? =some x:=by simpa using this
  rw[this]at ho
  injection ho with ho
  subst ho
  exact hr
 ·cases h
theorem c2f(kQ:P.follows .mixedOrders=true){k id:Nat}{ops:Array Oper}{C:Calls'}{H:Heap}(hC:CallsOk P C H){lo:LOps}{tab:List (Nat×Nat)}{t:List (Nat×Option Nat×Option (Pth×Bool)×LOp)}(hlo:LowOps P k ops ops.toList lo)(htab:oN P ops=some tab)(hl:LowTab P ops tab t)
 {f:Fr} {l:List Value} {e:Ex} {f1:Fr} {H1:Heap} (hf:FRel k f l) (h:c5Y P C t (tZ P C lo [] f H)=.ok e f1 H1):∃l1,e=.normal∧FRel k f1 l1∧Sim P (.region id ops true) l H .normal l1 H1∧LK H H1:=by
 cases hr:tZ P C lo [] f H with
 | no=>rw[hr]at h;cases h
 | ok tr f2 H2=>
   rw[hr]at h
   have h:pO (b8L (c0S P C tr H2) t) Rc.no (.ok .normal f2 H2)=.ok e f1 H1:=h
   rw[lM]at h
   split at h
   case isFalse=>cases h
   rename_i hall
   injection h with h1 h2 h3
   subst h1 h2 h3
   obtain⟨T,val,l1,hT0,hTn,hf1,hN⟩:=c1v hC hlo (i:=0) rfl hf (.refl H) hr
   rw[gz,fZ]at hTn
   rw[gz]at hN
   have hlk:LK H H2:=by have:=hN.lk ops.size (fA _) (by omega);rwa [hTn]at this
   refine⟨l1,rfl,hf1,?_,hlk⟩
   have:=Sim.draw kQ (id:=id) htab (T:=T) (val:=val) ⟨fun j hj=>hN.step j (fA _) (by omega)⟩ ?_
   ·rw[hT0,hTn]at this;exact this
   ·intro i m o hm ho hw
    obtain⟨o',lo',gd,ho',hgd,hlow,hmem⟩:=hl.get hm
    rw[ho]at ho'
    obtain rfl:=dA ho'
    rw[b3V,dT]at hall
    have hrd:=hall _ hmem
    have hi:i<ops.size:=(dL.1 ho).1
    obtain⟨g,hg,hag⟩:=hN.new i (fA _) (by omega)
    have hg:tr[ops.size-1-i]? =some (g,(T i).2,val i):=by rw[←hg];congr 1;omega
    have hread:pI o.op=true:=by
     obtain⟨fl,_,rfl⟩:=sF htab
     exact b3A hm ho
    have fin:∀H3,LK H H3→c2p (val i) (opF P C lo' g H3)=true→∃H4,opD P o (T i).1 H3=some (val i,H4):=by
     intro H3 hk3 hq
     obtain⟨H4,h4⟩:=c4j hq
     obtain⟨hs,_⟩:=hlow C H g (T i).1 H3 (val i) H4 hC hk3 hag h4
     refine⟨H4,hs.opD fun c fv hc hv=> ?_⟩
     rw[hc]at hread
     simp[pI,hv]at hread
    unfold c0S at hrd
    simp only[a0v,hg,hgd.runs hag hw]at hrd
    rw[lM,if_pos rfl]at hrd
    by_cases hms:m<ops.size
    ·rw[if_pos hms]at hrd
     obtain⟨g2,hg2,_⟩:=hN.new m (fA _) (by omega)
     have hg2:tr[ops.size-1-m]? =some (g2,(T m).2,val m):=by rw[←hg2];congr 1;omega
     simp only[hg2]at hrd
     exact fin _ (hN.lk m (fA _) (by omega)) hrd
    ·rw[if_neg hms]at hrd
     have hle:m=ops.size:=by
      obtain⟨fl,_,rfl⟩:=sF htab
      have:=a3f hm
      omega
     subst hle
     have:=fin H2 hlk hrd
     rw[hTn];exact this
def xL(P:Program):List ResultVar→List LRes→Prop
 | [],[]=>True
 | r::rs,l::ls=>(match r,l with
   | .tmp t,.t p=>p=lU t
   | .cell a t,.c1 p=>p=lU a∧kM P t=some false
   | .cell a t,.cn n p=>p=lU a∧kM P t=some true∧jD P t=some n
   | _,_=>False)∧xL P rs ls
 | _,_=>False
theorem c0f{α:Type}(l:List ResultVar)(K:List LRes→α)(no:α):(∃r,xL P l r∧a2E P l K no=K r)∨a2E P l K no=no:=by
 induction l generalizing K with
 | nil=>exact .inl ⟨[],trivial,rfl⟩
 | cons r l ih=>
   cases r with
   | tmp t=>
     have e:a2E P (.tmp t::l) K no=nC (lU t) fun p=>a2E P l (fun l=>K (.t p::l)) no:=rfl
     rw[e,mV]
     rcases ih (fun l=>K (.t (lU t)::l))with⟨q,h1,h2⟩|h2
     ·exact .inl ⟨.t (lU t)::q,⟨rfl,h1⟩,h2⟩
     ·exact .inr h2
   | cell a t=>
     have e:a2E P (.cell a t::l) K no=match kM P t with
      | some true=>a5h (jD P t) no fun n=>nC (lU a) fun p=>a2E P l (fun l=>K (.cn n p::l)) no
      | some false=>nC (lU a) fun p=>a2E P l (fun l=>K (.c1 p::l)) no
      | none=>no:=rfl
     rw[e]
     split
     ·rename_i ha
      cases hn:jD P t with
      | none=>exact .inr rfl
      | some n=>
        rw[qZ,mV]
        rcases ih (fun l=>K (.cn n (lU a)::l))with⟨q,h1,h2⟩|h2
        ·exact .inl ⟨.cn n (lU a)::q,⟨⟨rfl,ha,hn⟩,h1⟩,h2⟩
        ·exact .inr h2
     ·rename_i ha
      rw[mV]
      rcases ih (fun l=>K (.c1 (lU a)::l))with⟨q,h1,h2⟩|h2
      ·exact .inl ⟨.c1 (lU a)::q,⟨⟨rfl,ha⟩,h1⟩,h2⟩
      ·exact .inr h2
     ·exact .inr rfl
theorem b4F{H H1:Heap}{f:Fr}{l:List Value}(hf:FAg f l){r:ResultVar}{q:LRes}{rs:List ResultVar}{qs:List LRes}(h:xL P (r::rs) (q::qs)){v:Value}(hv:(a5T H f q).Is v H1):H1=H∧a3c P l H r=some v∧xL P rs qs:=by
 obtain⟨h,hr⟩:=h
 cases r with
 | tmp t=>cases q with
   | t p=>
     have h:p=lU t:=h
     subst h
     have hv:(qJ (pR (lU t) f) fun v=>Rs.ok v H).Is v H1:=hv
     rw[oJ]at hv
     obtain⟨rfl,rfl⟩:=Rs.aP hv
     exact⟨rfl,by rw[hf t];rfl,hr⟩
   | c1 p=>exact h.elim
   | cn n p=>exact h.elim
 | cell a t=>cases q with
   | t p=>exact h.elim
   | c1 p=>
     obtain⟨rfl,ha⟩:=h
     obtain⟨e,h1⟩:=b4H (P:=P) (X:=.t (lU a)) (w:=get l a) ha (hf a) hv
     exact⟨e,h1,hr⟩
   | cn n p=>
     obtain⟨rfl,ha,hn⟩:=h
     obtain⟨e,h1⟩:=b4i (P:=P) (X:=.t (lU a)) (w:=get l a) ha hn (hf a) hv
     exact⟨e,h1,hr⟩
theorem c4s{H:Heap}{f:Fr}{q:LRes}{v:Value}{H1:Heap}:¬(a5T H f q=.th v H1):=by
 intro h
 cases q with
 | t p=>
   have h:(qJ (pR p f) fun v=>Rs.ok v H)=.th v H1:=h
   rw[oJ]at h;cases h
 | c1 p=>
   have h:b7s (.t p) f H=.th v H1:=h
   unfold b7s at h
   split at h
   ·unfold c4M at h
    split at h
    ·rw[lM,lM,lM]at h
     split at h
     ·split at h
      ·split at h
       ·rename_i cs _ _ _ _ _ _ _ _
        cases hn:a2J cs _ with
        | none=>rw[hn]at h;cases h
        | some w=>rw[hn]at h;have h:(qJ w fun v=>Rs.ok v H)=.th v H1:=h;rw[oJ]at h;cases h
       ·cases h
      ·cases h
     ·cases h
    ·cases h
   ·unfold c7i at h
    split at h
    ·rw[lM]at h
     split at h
     ·rename_i cs _ _ _ _
      cases hn:a2J cs _ with
      | none=>rw[hn]at h;cases h
      | some w=>rw[hn]at h;have h:(qJ w fun v=>Rs.ok v H)=.th v H1:=h;rw[oJ]at h;cases h
     ·cases h
    ·cases h
   ·cases h
 | cn n p=>
   have hh:b6L n (.t p) f H=.th v H1:=h
   unfold b6L at hh
   split at hh
   ·unfold c4u at hh
    split at hh
    ·rw[lM,lM,lM]at hh
     split at hh
     ·split at hh
      ·split at hh
       ·have key:∀{cs:List Value}{n:Nat}{pre:List Value},¬(a3P cs n fun l=>Rs.ok (.agg ⟨pre++l⟩) H)=.th v H1:=by
         intro cs
         induction cs with
         | nil=>intro n pre h;cases n<;>cases h
         | cons c cs ih=>
           intro n pre h
           cases n with
           | zero=>cases h
           | succ n=>
             have h:(a3P cs n fun l=>Rs.ok (.agg ⟨pre++(c::l)⟩) H)=.th v H1:=h
             have e:∀l:List Value,pre++(c::l)=(pre++[c])++l:=by intro l;simp
             have h2:(a3P cs n fun l=>Rs.ok (.agg ⟨(pre++[c])++l⟩) H)=.th v H1:=by
              rw[←h];congr 1;funext l;rw[e l]
             exact ih h2
        exact key (pre:=[]) hh
       ·cases hh
      ·cases hh
     ·cases hh
    ·cases hh
   ·cases hh
theorem a9n{H H1:Heap}{f:Fr}{l:List Value}(hf:FAg f l){v:Value}:∀{rs:List ResultVar}{qs:List LRes}{K:List Value→Rs},xL P rs qs→(b8x H f qs K).Is v H1→∃vs,oW P l H rs=some vs∧(K vs).Is v H1
 | [],[],K,_,h=>⟨[],rfl,h⟩
 | [],_::_,_,h,_=>h.elim
 | _::_,[],_,h,_=>h.elim
 | r::rs,q::qs,K,hl,h=>by
   have h:(Rs.rec (motive:=fun _=>Rs) .no (fun v _=>b8x H f qs fun l=>K (v::l)) (fun _ _=>.no) (a5T H f q)).Is v H1:=h
   cases hq:a5T H f q with
   | no=>rw[hq]at h;exact absurd h Rs.ax
   | th w H2=>exact absurd hq c4s
   | ok w H2=>
     rw[hq]at h
     obtain⟨e,h1,h2⟩:=b4F hf hl (.inl hq)
     obtain⟨vs,h3,h4⟩:=a9n hf h2 h
     exact⟨w::vs,by simp[oW,h1,h3],h4⟩
theorem b9D{fn:Func}{H H1:Heap}{f:Fr}{l:List Value}(hf:FAg f l){qs:List LRes}(hl:xL P fn.results.toList qs){v:Value}(h:(b0c qs f H).Is v H1):H1=H∧jC P fn l H=some v:=by
 unfold b0c at h
 split at h
 ·rename_i q
  cases hr:fn.results.toList with
  | nil=>rw[hr]at hl;exact hl.elim
  | cons r rs=>
    rw[hr]at hl
    obtain⟨e,h1,h2⟩:=b4F hf hl h
    cases rs with
    | cons _ _=>exact h2.elim
    | nil=>exact⟨e,by simp[jC,hr,oW,h1]⟩
 ·rename_i hne
  obtain⟨vs,h1,h2⟩:=a9n hf hl h
  obtain⟨h3,h4⟩:=mO h2
  obtain⟨rfl,rfl⟩:=Rs.aP h4
  refine⟨rfl,?_⟩
  have hlen:∀{rs:List ResultVar}{qs:List LRes},xL P rs qs→rs.length=qs.length:=by
   intro rs
   induction rs with
   | nil=>intro qs h;cases qs with|nil=>rfl|cons=>exact h.elim
   | cons r rs ih=>intro qs h;cases qs with|nil=>exact h.elim|cons q qs=>simp[ih h.2]
  have hvl:∀{rs:List ResultVar}{vs:List Value},oW P l H1 rs=some vs→vs.length=rs.length:=by
   intro rs
   induction rs with
   | nil=>intro vs h;injection h with h;subst h;rfl
   | cons r rs ih=>
     intro vs h
     simp only[oW,dD,dJ]at h
     obtain⟨w,_,ws,h1,h2⟩:=h
     subst h2
     simp[ih h1]
  have hn1:vs.length≠1:=by
   rw[hvl h1,hlen hl]
   intro h1
   match qs,h1 with
   | [q],_=>exact hne q rfl
  unfold jC
  rw[h1,dC]
  rw[b3V]at h3
  have h3:vs.all kF=true:=by rw[←h3];congr 1
  split
  ·exact absurd rfl hn1
  ·rw[if_pos h3]
structure FuncOk(P:Program)(f:FuncId)(g:LFunc):Prop where
 ex:∃fn c,P.funcs[f]? =some fn∧fn.body=some c∧(fn.name== "runtime.NumGoroutine")=false∧g.ps=(List.range fn.ntmps).map lU∧Low P fn.ntmps c g.body∧xL P fn.results.toList g.res
def TOk(P:Program)(T:LT):Prop:=∀f g,a4m (lU f) T=some g→FuncOk P f g
def EOk(P:Program)(E:List LEnv)(H:Heap):Prop:=∀en∈E,en.L<H.length∧∀r,jS H en.L=some (.loop r)→
 ∃k,en.ps=(List.range k).map lU∧r.tmps.size=k∧en.pp=r.params.toList.map lU∧(∀t∈r.params.toList,t<k)∧Low P k r.assign en.a∧Low P k r.body en.b
theorem EOk.ag{E:List LEnv}{H H':Heap}(h:EOk P E H)(hk:LK H H'):EOk P E H':=fun en hen=>by
 obtain⟨h1,h2⟩:=h en hen
 refine⟨eH h1 hk.1,fun r' hr'=> ?_⟩
 obtain⟨r,hr,ea,eb,ep,et⟩:=hk.2 en.L r' h1 hr'
 obtain⟨k,a,b,c,d,e,f⟩:=h2 r hr
 exact⟨k,a,by rw[et];exact b,by rw[ep];exact c,by rw[ep];exact d,by rw[ea];exact e,by rw[eb];exact f⟩
def a5B(P:Program)(ih:sE):Prop:=∀(E:List LEnv)(C:LCode)(k:Nat)(c:Code)(f:Fr)(l:List Value)(H:Heap)(e:Ex)(f1:Fr)(H1:Heap),Low P k c C→FRel k f l→EOk P E H→ih E C f H=.ok e f1 H1→
 ∃l1,FRel k f1 l1∧Sim P c l H e l1 H1∧LK H H1∧∀b,c=.loop b→∃n,Rounds P b n l H e l1 H1
theorem a2f{α:Type}{no:α}:∀{l:List Value}{i m:Nat}{f:Fr}{K:Fr→α},(qW no l ((List.range' i m).map lU) f K=no)∨(l.length≤m∧∃f',qW no l ((List.range' i m).map lU) f K=K f'∧∀t,pR (lU t) f'=if i≤t∧t<i+l.length then get l (t-i)else pR (lU t) f)
 | [],i,m,f,K=>.inr ⟨fA _,f,rfl,fun t=>by rw[if_neg (by simp only[eT];omega)]⟩
 | v::l,i,0,f,K=>.inl rfl
 | v::l,i,m+1,f,K=>by
   have e:qW no (v::l) ((List.range' i (m+1)).map lU) f K=rV v (lU i) f fun f=>qW no l ((List.range' (i+1) m).map lU) f K:=by
    rw[iQ];rfl
   rw[e,wF]
   rcases a2f (l:=l) (i:=i+1) (m:=m) (f:=b8F f i v) (K:=K)with h|⟨h1,f',h2,h3⟩
   ·exact .inl h
   ·refine .inr ⟨by simp;omega,f',h2,fun t=> ?_⟩
    rw[h3 t,a6q]
    by_cases ht:t=i
    ·subst ht
     rw[if_neg (by omega),if_pos rfl,if_pos (by simp),jf];rfl
    ·rw[if_neg ht]
     by_cases h4:i+1≤t∧t<i+1+l.length
     ·rw[if_pos h4,if_pos (by simp;omega)]
      rw[show t-i=(t-(i+1))+1 by omega];rfl
     ·rw[if_neg h4,if_neg (by simp;omega)]
theorem zN{α:Type}{no:α}{k:Nat}:∀{args:List Value}{ps:List Tmp}{f:Fr}{l:List Value}{K:Fr→α},FRel k f l→(∀t∈ps,t<k)→args.length=ps.length→
 ∃f',qW no args (ps.map lU) f K=K f'∧FRel k f' ((ps.zip args).foldl (fun t(p,v)=>t.set p v) l)
 | [],[],f,l,K,hf,_,_=>⟨f,rfl,hf⟩
 | v::args,p::ps,f,l,K,hf,hp,he=>by
   have e:qW no (v::args) ((p::ps).map lU) f K=rV v (lU p) f fun f=>qW no args (ps.map lU) f K:=rfl
   rw[e,wF]
   exact zN (hf.set (hp p (by simp)) v) (fun t ht=>hp t (by simp[ht])) (by simpa using he)
 | [],_::_,_,_,_,_,_,he=>by simp at he
 | _::_,[],_,_,_,_,_,he=>by simp at he
theorem a2m(l:List Value)(n t:Nat):get (l++List.replicate n undef) t=get l t:=by
 rw[pW,pW]
 simp only[dE]
 by_cases h:t<l.length
 ·rw[eZ h]
 ·rw[eI (by omega),fm (l:=l) (by omega),iZ]
  split<;>rfl
theorem yH{T:LT}(hT:TOk P T){ih:sE}(hih:a5B P ih){E:List LEnv}{p:Pth}{f:FuncId}{args:List Value}{H H1:Heap}{v:Value}(hE:EOk P E H)(hp:p=lU f)(h:(nW T ih E p args H).Is v H1):
 FnS P f args H (fun v' H'=>v'=v∧H'=H1)∧LK H H1:=by
 unfold nW at h
 split at h
 case h_2=>exact absurd h Rs.ax
 rename_i g hg
 subst hp
 obtain⟨fn,c,hfn,hb,hn,hps,hlow,hres⟩:=(hT f g hg).ex
 rw[hps]at h
 rw[gL]at h
 rcases a2f (no:=Rs.no) (l:=args) (i:=0) (m:=fn.ntmps) (f:=.e) (K:=fun f=>c7b g.res (ih E g.body f H))with h1|⟨h1,f0,h2,h3⟩
 ·rw[h1]at h;exact absurd h Rs.ax
 ·rw[h2]at h
  have hf0:FRel fn.ntmps f0 (args++List.replicate (fn.ntmps-args.length) undef):=by
   refine⟨by simp;omega,fun t=> ?_⟩
   rw[h3 t,a2m]
   by_cases ht:t<args.length
   ·rw[if_pos (by omega)];rfl
   ·rw[if_neg (by omega),yE,pW,dE,fm (by omega)];try rfl
  cases hr:ih E g.body f0 H with
  | no=>rw[hr]at h;exact absurd h Rs.ax
  | ok e f1 H2=>
    rw[hr]at h
    obtain⟨l1,hf1,hs,hk,_⟩:=hih E g.body fn.ntmps c f0 _ H e f1 H2 hlow hf0 hE hr
    have key:(e=.normal∨e=.ret)→(b0c g.res f1 H2).Is v H1→FnS P f args H (fun v' H'=>v'=v∧H'=H1)∧LK H H1:=by
     intro he hv
     obtain⟨rfl,hv⟩:=b9D hf1.2 hres hv
     exact⟨⟨fn,c,e,l1,H1,v,hfn,hb,hn,hs,he,hv,rfl,rfl⟩,hk⟩
    cases e with
    | normal=>exact key (.inl rfl) h
    | ret=>exact key (.inr rfl) h
    | exit id=>exact absurd h Rs.ax
theorem b9P{T:LT}(hT:TOk P T){ih:sE}(hih:a5B P ih){E:List LEnv}{p:Pth}{f:FuncId}{args:List Value}{H H1:Heap}{v:Value}(hE:EOk P E H)(hp:p=lU f)(h:(c1A P T ih E p f args H).Is v H1):
 (FnS P f args H (fun v' H'=>v'=v∧H'=H1)∨sL P f args H=some (v,H1))∧LK H H1:=by
 unfold c1A at h
 cases hg:a4m p T with
 | some g=>
   rw[hg]at h
   obtain⟨a,b⟩:=yH (H1:=H1) (v:=v) hT hih hE hp (by unfold nW;rw[hg];exact h)
   exact⟨.inl a,b⟩
 | none=>
   rw[hg]at h
   have h:(c6P P f args H).Is v H1:=h
   unfold c6P at h
   split at h
   ·rename_i v2 H2 hx
    obtain⟨rfl,rfl⟩:=Rs.aU h
    exact⟨.inr hx,a7o hx⟩
   ·exact absurd h Rs.ax
theorem b1G{E:List LEnv}{L:Nat}{en:LEnv}(h:b8j E L=some en):en∈E∧en.L=L:=by
 induction E with
 | nil=>cases h
 | cons e E ih=>
   have h:pO (Nat.beq e.L L) (b8j E L) (some e)=some en:=h
   rw[lM]at h
   split at h
   ·rename_i hh
    injection h with h
    subst h
    exact⟨by simp,eU hh⟩
   ·obtain⟨h1,h2⟩:=ih h
    exact⟨eX _ h1,h2⟩
theorem b0m(e:Ex):c5n e=uD e:=by cases e<;>rfl
theorem b6G{ih:sE}(hih:a5B P ih){E:List LEnv}{L:Nat}{args:List Value}{H H1:Heap}{v:Value}(hE:EOk P E H)(h:(b2q ih E L args H).Is v H1):a1g P L args H v H1∧LK H H1:=by
 unfold b2q at h
 split at h
 case h_2=>exact absurd h Rs.ax
 rename_i en hen
 obtain⟨hmem,rfl⟩:=b1G hen
 split at h
 case h_2=>exact absurd h Rs.ax
 rename_i p fn tmps ps a b d hg
 obtain⟨hlen,h⟩:=mO h
 rw[a0F]at hlen
 have hlen:ps.size=args.length:=by simpa only[decide_eq_true_eq]using hlen
 obtain⟨k,hps,hsz,hpp,hpk,hla,hlb⟩:=(hE en hmem).2 _ hg
 have hsz:tmps.length=k:=by simpa using hsz
 rw[hps,gL]at h
 rcases a2f (no:=Rs.no) (l:=tmps) (i:=0) (m:=k) (f:=.e) (K:=fun f=>qW .no args en.pp f fun f=>vK ih E en (ih E en.a f H))with h1|⟨h1,f0,h2,h3⟩
 ·rw[h1]at h;exact absurd h Rs.ax
 rw[h2]at h
 have hf0:FRel k f0 tmps:=by
  refine⟨hsz,fun t=> ?_⟩
  rw[h3 t]
  by_cases ht:t<tmps.length
  ·rw[if_pos (by omega)];rfl
  ·rw[if_neg (by omega),yE,pW,dE,fm (by omega)];try rfl
 rw[hpp]at h
 obtain⟨f2,h4,hf2⟩:=zN (no:=Rs.no) (args:=args) (ps:=ps.toList) (K:=fun f=>vK ih E en (ih E en.a f H)) hf0 hpk (by simpa using hlen.symm)
 have h:(qW Rs.no args (List.map lU ps.toList) f0 fun f=>vK ih E en (ih E en.a f H)).Is v H1:=h
 rw[h4]at h
 cases hr1:ih E en.a f2 H with
 | no=>rw[hr1]at h;exact absurd h Rs.ax
 | ok e f3 H2=>
   rw[hr1]at h
   obtain⟨l3,hf3,hs1,hk1,_⟩:=hih E en.a k a f2 _ H e f3 H2 hla hf2 hE hr1
   cases e with
   | ret=>exact absurd h Rs.ax
   | exit id=>exact absurd h Rs.ax
   | normal=>
     have h:(a2s ih E en f3 H2).Is v H1:=h
     unfold a2s at h
     split at h
     case h_2=>exact absurd h Rs.ax
     rename_i p2 fn2 tmps2 ps2 a2 b2 d2 hg2
     rw[nN]at h
     obtain⟨r0,hr0,ea,eb,ep,et⟩:=hk1.2 en.L _ (hE en hmem).1 hg2
     rw[hg]at hr0
     injection hr0 with hr0
     injection hr0 with hr0
     subst hr0
     have ea':a2=a:=ea
     have eb':b2=b:=eb
     have ep':ps2=ps:=ep
     have et':tmps2=⟨tmps⟩:=et
     clear ea eb ep et
     subst ea' eb' ep' et'
     have hk2:LK H2 (hset H2 en.L (.loop ⟨.busy,p2,fn2,⟨tmps⟩,ps2,a2,b2,d2⟩)):=.loop hg2 ⟨rfl,rfl,rfl,rfl⟩
     cases hr2:ih E en.b f3 (hset H2 en.L (.loop ⟨.busy,p2,fn2,⟨tmps⟩,ps2,a2,b2,d2⟩))with
     | no=>rw[hr2]at h;exact absurd h Rs.ax
     | ok e f4 H3=>
       rw[hr2]at h
       obtain⟨l4,_,hs2,hk3,_⟩:=hih E en.b k b2 f3 _ _ e f4 H3 hlb hf3 (hE.ag (hk1.trans hk2)) hr2
       have h:(a4H en.L e H3).Is v H1:=h
       unfold a4H at h
       split at h
       case h_2=>exact absurd h Rs.ax
       rename_i st3 p3 fn3 tmps3 ps3 a3 b3 d3 hg3
       have fin:∀r',H1=hset H3 en.L (.loop r')→(r'={(⟨st3,p3,fn3,tmps3,ps3,a3,b3,d3⟩:Loop)with state:=if(uD e).isNone then .ready else .done,pending:=uD e})→v=.bool (uD e).isNone→a1g P en.L args H v H1∧LK H H1:=by
        intro r' hH hr' hv
        refine⟨?_,hk1.trans (hk2.trans (hk3.trans (by rw[hH];exact .loop hg3 (by rw[hr'];exact⟨rfl,rfl,rfl,rfl⟩))))⟩
        have hW:=a2w (P:=P) (args:=args) (K:=fun v' H'=>v'=v∧H'=H1) hg hlen rfl
         ⟨.normal,l3,H2,hs1,rfl,_,hg2,rfl,e,l4,H3,hs2,_,hg3,hv.symm,by rw[hH,hr']⟩
        obtain⟨v',H',h1,rfl,rfl⟩:=hW
        exact h1
       split at h
       ·rename_i hj
        obtain⟨rfl,rfl⟩:=Rs.aU h
        rw[b0m]at hj
        exact fin _ rfl (by rw[hj];rfl) (by rw[hj];rfl)
       ·rename_i c hj
        obtain⟨rfl,rfl⟩:=Rs.aU h
        rw[b0m]at hj
        exact fin _ rfl (by rw[hj];rfl) (by rw[hj];rfl)
theorem a6p{T:LT}(hT:TOk P T){ih:sE}(hih:a5B P ih){E:List LEnv}{H0:Heap}(hE:EOk P E H0):CallsOk P (a1s P T ih E) H0 where
 fn p f args H v H1 hk h hp:=b9P hT hih (hE.ag hk) hp h
 rd L args H v H1 hk h:=b6G hih (hE.ag hk) h
theorem c6K{α:Type}{f:Fr}{l:List Value}(hf:FAg f l)(i m:Nat)(K:List Value→α):frL f ((List.range' i m).map lU) K=K ((List.range' i m).map (get l)):=by
 induction m generalizing i K with
 | zero=>rfl
 | succ m ih=>
   have e:frL f ((List.range' i (m+1)).map lU) K=qJ (pR (lU i) f) fun v=>frL f ((List.range' (i+1) m).map lU) fun l=>K (v::l):=by
    rw[iQ];rfl
   rw[e,oJ,ih,hf i,iQ];rfl
theorem c2C{α:Type}{k:Nat}{f:Fr}{l:List Value}(hf:FRel k f l)(K:List Value→α):frL f ((List.range k).map lU) K=K l:=by
 rw[gL,c6K hf.2,←gL]
 congr 1
 apply iF
 intro i
 rw[ft]
 by_cases hi:i<k
 ·rw[iT hi,ez,pW,dE]
  have:i<l.length:=by rw[hf.1];exact hi
  simp[dH this]
 ·rw[fm (by simp;omega),fm (by rw[hf.1];omega)];rfl
theorem b7r{T:LT}(hT:TOk P T){ih:sE}(hih:a5B P ih){E:List LEnv}{k:Nat}{g:Operand}{ps:Array Tmp}{assign body:Code}{A B:LCode}(hg:jT g=true)(hps:∀t∈ps.toList,t<k)(ha:Low P k assign A)(hb:Low P k body B)
 {x1 x2:Fr→Heap→Rc} {f:Fr} {l:List Value} {H:Heap} {e:Ex} {f1:Fr} {H1:Heap} (hf:FRel k f l) (hE:EOk P E H) (h:b1O T ih E (jY g) ((List.range k).map lU) (ps.toList.map lU) ps assign body A B x1 x2 f H=.ok e f1 H1):
 f1=f∧Sim P (.rangeFunc g ps assign body) l H e l H1∧LK H H1:=by
 unfold b1O at h
 rw[kV hf.2]at h
 split at h
 case h_2=>cases h
 rename_i j xa xb hgv
 rw[lA,c2C hf,nN,lA]at h
 unfold b4x at h
 rw[mV]at h
 generalize hH0:H.cons (.loop ⟨.ready,none,0,⟨l⟩,ps,assign,body,0⟩)=H0 at h
 have hl0:(⟨.ready,none,0,⟨l⟩,ps,assign,body,0⟩:Loop)=b4c l ps assign body:=rfl
 have hE0:EOk P (⟨H.length,(List.range k).map lU,ps.toList.map lU,A,B⟩::E) H0:=by
  intro en hen
  rcases ew.1 hen with rfl|hen
  ·refine⟨by rw[←hH0,length_cons];exact Nat.lt_succ_self _,fun r hr=> ?_⟩
   rw[←hH0,jP]at hr
   injection hr with hr
   injection hr with hr
   subst hr
   exact⟨k,rfl,by simpa using hf.1,rfl,hps,ha,hb⟩
  ·exact(hE.ag (by rw[←hH0];exact .cons _ _)) en hen
 have key:∀v H2,(nW T ih (⟨H.length,(List.range k).map lU,ps.toList.map lU,A,B⟩::E) (lU j) (a6F xa (.func (.yield H.length) #[] #[]::xb)) H0).Is v H2→xE H.length f H2=.ok e f1 H1→f1=f∧Sim P (.rangeFunc g ps assign body) l H e l H1∧LK H H1:=by
  intro v H2 hc hr
  obtain⟨hfn,hk⟩:=yH hT hih hE0 rfl hc
  have hargs:a6F xa (.func (.yield H.length) #[] #[]::xb)=xa++[.func (.yield H.length) #[] #[]]++xb:=by rw[a0C];simp
  rw[hargs,←hH0,hl0]at hfn
  have fin:∀(r:Loop)(H3:Heap),jS H2 H.length=some (.loop r)→r.state≠.busy→H3=hset H2 H.length (.loop {r with state:=.exhausted})→(r.pending=none→e=.normal)→(∀c,r.pending=some c→(c=.ret∧e=.ret)∨∃id,c=.exit id∧e=.exit id)→f1=f→H1=H3→
   f1=f∧Sim P (.rangeFunc g ps assign body) l H e l H1∧LK H H1:=by
   intro r H3 hrl hnb hH3 hp0 hp1 he1 he2
   have hw:Wp P (.rangeFunc g ps assign body) l H (fun e' l' H'=>e'=e∧l'=l∧H'=H3):=by
    refine Wp.range (first:=xa) (captured:=xb) hg (by rw[hgv]) (hfn.mono ?_)
    rintro v' H'⟨rfl,rfl⟩
    refine⟨r,hrl,hnb,fun hp=>⟨(hp0 hp).symm,rfl,hH3.symm⟩,fun c hc=> ?_⟩
    rcases hp1 c hc with⟨rfl,he⟩|⟨id,rfl,he⟩
    ·exact Wp.ret ⟨he.symm,rfl,hH3.symm⟩
    ·exact Wp.exit ⟨he.symm,rfl,hH3.symm⟩
   obtain⟨e',l',H',hs,rfl,rfl,rfl⟩:=hw
   refine⟨he1,by rw[he2];exact hs,?_⟩
   rw[he2,hH3]
   have h1:LK H H0:=by rw[←hH0];exact .cons _ _
   exact h1.trans (hk.trans (.loop hrl ⟨rfl,rfl,rfl,rfl⟩))
  unfold xE at hr
  split at hr
  ·rename_i hg2
   rw[nN]at hr
   injection hr with h1 h2 h3
   exact fin _ _ hg2 (by simp) rfl (fun _=>h1.symm) (fun c hc=>by cases hc) h2.symm h3.symm
  ·rename_i hg2
   rw[nN]at hr
   injection hr with h1 h2 h3
   exact fin _ _ hg2 (by simp) rfl (fun _=>h1.symm) (fun c hc=>by cases hc) h2.symm h3.symm
  ·rename_i hg2
   rw[nN]at hr
   injection hr with h1 h2 h3
   exact fin _ _ hg2 (by simp) rfl (fun hc=>by cases hc) (fun c hc=>by injection hc with hc;subst hc;exact .inl ⟨rfl,h1.symm⟩) h2.symm h3.symm
  ·rename_i hg2
   rw[nN]at hr
   injection hr with h1 h2 h3
   exact fin _ _ hg2 (by simp) rfl (fun hc=>by cases hc) (fun c hc=>by injection hc with hc;subst hc;exact .inr ⟨_,rfl,h1.symm⟩) h2.symm h3.symm
  ·cases hr
 cases hc:nW T ih (⟨H.length,(List.range k).map lU,ps.toList.map lU,A,B⟩::E) (lU j) (a6F xa (.func (.yield H.length) #[] #[]::xb)) H0 with
 | no=>rw[hc]at h;cases h
 | ok v H2=>rw[hc]at h;exact key v H2 (.inl hc) h
 | th v H2=>
   rw[hc]at h
   have h:pH H2 (fun H=>xE _ f H)=.ok e f1 H1:=h
   rw[nN]at h
   exact key v H2 (.inr hc) h
theorem b9v(kQ:P.follows .mixedOrders=true){T:LT}(hT:TOk P T):∀n,a5B P (exF P T n):=by
 intro n
 induction n with
 | zero=>intro E C k c f l H e f1 H1 _ _ _ h;cases h
 | succ n ih=>
   intro E C k c f l H e f1 H1 hlow hf hE h
   have h:b4Z P T (exF P T n) E C f H=.ok e f1 H1:=h
   have noloop:∀{c:Code},(∀b,c≠.loop b)→∀{l1:List Value},∀b,c=.loop b→∃n,Rounds P b n l H e l1 H1:=fun hne _ b hb=>absurd hb (hne b)
   cases hlow with
   | bad=>cases h
   | skip=>
     injection h with h1 h2 h3;subst h1 h2 h3
     exact⟨l,hf,.skip l H,.refl H,noloop (by intro b h;cases h)⟩
   | label t=>
     injection h with h1 h2 h3;subst h1 h2 h3
     exact⟨l,hf,.label t l H,.refl H,noloop (by intro b h;cases h)⟩
   | exit id=>
     injection h with h1 h2 h3;subst h1 h2 h3
     exact⟨l,hf,.exit id l H,.refl H,noloop (by intro b h;cases h)⟩
   | ret=>
     injection h with h1 h2 h3;subst h1 h2 h3
     exact⟨l,hf,.ret l H,.refl H,noloop (by intro b h;cases h)⟩
   | @reg id ops d lo hlo hd=>
     have h:c9X (a0Y P (a1s P T (exF P T n) E) lo f H)=.ok e f1 H1:=h
     cases hr:a0Y P (a1s P T (exF P T n) E) lo f H with
     | no=>rw[hr]at h;cases h
     | ok f2 H2=>
       rw[hr]at h
       injection h with h1 h2 h3;subst h1 h2 h3
       obtain⟨l1,hf1,hops,hk⟩:=c3e (a6p hT ih hE) hlo (i:=0) rfl hf (.refl H) hr
       have hops:OpsR P ops (List.range ops.size) l H l1 H2:=by rw[gL];simpa using hops
       refine⟨l1,hf1,?_,hk,noloop (by intro b h;cases h)⟩
       cases d with
       | false=>exact .region hops
       | true=>exact .cp kQ (hd rfl) hops
   | drw hlo ht hl=>
     obtain⟨l1,rfl,hf1,hs,hk⟩:=c2f kQ (a6p hT ih hE) hlo ht hl hf h
     exact⟨l1,hf1,hs,hk,noloop (by intro b h;cases h)⟩
   | @seq a b A B ha hb=>
     have h:c4t (exF P T n) E B (exF P T n E A f H)=.ok e f1 H1:=h
     cases hr:exF P T n E A f H with
     | no=>rw[hr]at h;cases h
     | ok e2 f2 H2=>
       rw[hr]at h
       obtain⟨l2,hf2,hs,hk,_⟩:=ih E A k a f l H e2 f2 H2 ha hf hE hr
       cases e2 with
       | normal=>
         obtain⟨l1,hf1,hs1,hk1,_⟩:=ih E B k b f2 l2 H2 e f1 H1 hb hf2 (hE.ag hk) h
         exact⟨l1,hf1,.seq hs hs1,hk.trans hk1,noloop (by intro b h;cases h)⟩
       | ret=>
         injection h with h1 h2 h3;subst h1 h2 h3
         exact⟨l2,hf2,.seq' hs (by intro h;cases h),hk,noloop (by intro b h;cases h)⟩
       | exit id=>
         injection h with h1 h2 h3;subst h1 h2 h3
         exact⟨l2,hf2,.seq' hs (by intro h;cases h),hk,noloop (by intro b h;cases h)⟩
   | @cond c x y X Y hc hx hy=>
     have h:b8O (exF P T n) E (jY c) X Y (b4Z P T (exF P T n) E X) (b4Z P T (exF P T n) E Y) f H=.ok e f1 H1:=h
     unfold b8O at h
     rw[kV hf.2]at h
     split at h
     ·rename_i t ht
      cases t with
      | true=>
        obtain⟨l1,hf1,hs,hk,_⟩:=ih E X k x f l H e f1 H1 hx hf hE h
        exact⟨l1,hf1,.cond ht hc hs,hk,noloop (by intro b h;cases h)⟩
      | false=>
        obtain⟨l1,hf1,hs,hk,_⟩:=ih E Y k y f l H e f1 H1 hy hf hE h
        exact⟨l1,hf1,.cond ht hc hs,hk,noloop (by intro b h;cases h)⟩
     ·cases h
   | @block id b B hb=>
     have h:c8r id (exF P T n E B f H)=.ok e f1 H1:=h
     cases hr:exF P T n E B f H with
     | no=>rw[hr]at h;cases h
     | ok e2 f2 H2=>
       rw[hr]at h
       obtain⟨l2,hf2,hs,hk,_⟩:=ih E B k b f l H e2 f2 H2 hb hf hE hr
       have hs':Sim P (.block id b) l H (e2.out id) l2 H2:=.block hs
       cases e2 with
       | normal=>injection h with h1 h2 h3;subst h1 h2 h3;exact⟨l2,hf2,hs',hk,noloop (by intro b h;cases h)⟩
       | ret=>injection h with h1 h2 h3;subst h1 h2 h3;exact⟨l2,hf2,hs',hk,noloop (by intro b h;cases h)⟩
       | exit i=>
         have h:Rc.ok (Bool.rec (motive:=fun _=>Ex) (.exit i) .normal (Nat.beq i id)) f2 H2=.ok e f1 H1:=h
         injection h with h1 h2 h3;subst h2 h3
         have:(Ex.exit i).out id=e:=by
          rw[←h1]
          by_cases hi:i=id
          ·subst hi;simp[Ex.out]
          ·have:Nat.beq i id=false:=gx.2 fun e=>hi (eU e)
           simp[Ex.out,hi,this]
         rw[this]at hs'
         exact⟨l2,hf2,hs',hk,noloop (by intro b h;cases h)⟩
   | @loop b B hb=>
     have h:c4t (exF P T n) E (.loop B) (exF P T n E B f H)=.ok e f1 H1:=h
     cases hr:exF P T n E B f H with
     | no=>rw[hr]at h;cases h
     | ok e2 f2 H2=>
       rw[hr]at h
       obtain⟨l2,hf2,hs,hk,_⟩:=ih E B k b f l H e2 f2 H2 hb hf hE hr
       have last:e2≠.normal→e2=e→f2=f1→H2=H1→∃l1,FRel k f1 l1∧Sim P (.loop b) l H e l1 H1∧LK H H1∧∀b',Code.loop b=.loop b'→∃n,Rounds P b' n l H e l1 H1:=by
        intro hne h1 h2 h3
        subst h1 h2 h3
        have hr:Rounds P b 1 l H e2 l2 H2:=.last hs hne
        exact⟨l2,hf2,.loop hr,hk,fun b' hb'=>by injection hb' with hb';subst hb';exact⟨1,hr⟩⟩
       cases e2 with
       | normal=>
         obtain⟨l1,hf1,hs1,hk1,hro⟩:=ih E (.loop B) k (.loop b) f2 l2 H2 e f1 H1 (.loop hb) hf2 (hE.ag hk) h
         obtain⟨m,hm⟩:=hro b rfl
         have hr:Rounds P b (m+1) l H e l1 H1:=.more hs hm
         exact⟨l1,hf1,.loop hr,hk.trans hk1,fun b' hb'=>by injection hb' with hb';subst hb';exact⟨_,hr⟩⟩
       | ret=>injection h with h1 h2 h3;exact last (by intro h;cases h) h1 h2 h3
       | exit id=>injection h with h1 h2 h3;exact last (by intro h;cases h) h1 h2 h3
   | range hg hps ha hb=>
     obtain⟨rfl,hs,hk⟩:=b7r (x1:=fun _ _=>.no) (x2:=fun _ _=>.no) hT ih hg hps ha hb hf hE h
     exact⟨l,hf,hs,hk,noloop (by intro b h;cases h)⟩
theorem a0T{α:Type}(v:LFunc)(p:Pth)(f:LT)(K:LT→α):vA v p f K=K (vA v p f fun f=>f):=by
 induction p generalizing f α with
 | z=>cases f<;>rfl
 | l p ih=>
   cases f with
   | e=>
     show vA v p .e (fun l=>K (.n none l .e))=K (vA v p .e fun l=>.n none l .e)
     rw[ih,ih (K:=fun l=>LT.n none l .e)]
   | n w l r=>
     show vA v p l (fun l=>K (.n w l r))=K (vA v p l fun l=>.n w l r)
     rw[ih,ih (K:=fun l=>LT.n w l r)]
 | r p ih=>
   cases f with
   | e=>
     show vA v p .e (fun l=>K (.n none .e l))=K (vA v p .e fun l=>.n none .e l)
     rw[ih,ih (K:=fun l=>LT.n none .e l)]
   | n w l r=>
     show vA v p r (fun r=>K (.n w l r))=K (vA v p r fun r=>.n w l r)
     rw[ih,ih (K:=fun r=>LT.n w l r)]
theorem yC(p:Pth):a4m p .e=none:=by cases p<;>rfl
theorem b6j(v:LFunc)(p q:Pth)(f:LT){g:LFunc}(h:a4m q (vA v p f fun f=>f)=some g):(q=p∧g=v)∨a4m q f=some g:=by
 induction p generalizing f q with
 | z=>
   cases q with
   | z=>left;refine⟨rfl,?_⟩;cases f<;>(injection h with h;exact h.symm)
   | l q=>right;cases f with
     | e=>have h:a4m q .e=some g:=h
          rw[yC]at h;cases h
     | n=>exact h
   | r q=>right;cases f with
     | e=>have h:a4m q .e=some g:=h
          rw[yC]at h;cases h
     | n=>exact h
 | l p ih=>
   have h1:∀f,vA v (.l p) f (fun f=>f)=match f with|.e=>.n none (vA v p .e fun f=>f) .e|.n w l r=>.n w (vA v p l fun f=>f) r:=fun f=>by
    cases f with
    | e=>exact a0T v p .e fun l=>LT.n none l .e
    | n w l r=>exact a0T v p l fun l=>LT.n w l r
   rw[h1]at h
   cases q with
   | z=>right;cases f with
     | e=>exact h
     | n=>exact h
   | r q=>right;cases f with
     | e=>have h:a4m q .e=some g:=h
          rw[yC]at h;cases h
     | n=>exact h
   | l q=>
     cases f with
     | e=>
       rcases ih q .e h with⟨rfl,hq⟩|h
       ·exact .inl ⟨rfl,hq⟩
       ·rw[yC]at h;cases h
     | n w l r=>
       rcases ih q l h with⟨rfl,hq⟩|h
       ·exact .inl ⟨rfl,hq⟩
       ·exact .inr h
 | r p ih=>
   have h1:∀f,vA v (.r p) f (fun f=>f)=match f with|.e=>.n none .e (vA v p .e fun f=>f)|.n w l r=>.n w l (vA v p r fun f=>f):=fun f=>by
    cases f with
    | e=>exact a0T v p .e fun l=>LT.n none .e l
    | n w l r=>exact a0T v p r fun r=>LT.n w l r
   rw[h1]at h
   cases q with
   | z=>right;cases f with
     | e=>exact h
     | n=>exact h
   | l q=>right;cases f with
     | e=>have h:a4m q .e=some g:=h
          rw[yC]at h;cases h
     | n=>exact h
   | r q=>
     cases f with
     | e=>
       rcases ih q .e h with⟨rfl,hq⟩|h
       ·exact .inl ⟨rfl,hq⟩
       ·rw[yC]at h;cases h
     | n w l r=>
       rcases ih q r h with⟨rfl,hq⟩|h
       ·exact .inl ⟨rfl,hq⟩
       ·exact .inr h
theorem b6N{α:Type}(f:FuncId)(no:α)(K:LFunc→α):(∃g,FuncOk P f g∧a4o P f no K=K g)∨a4o P f no K=no:=by
 unfold a4o
 split
 ·rename_i fn hfn
  split
  ·rename_i c hb
   rw[lM]
   split
   ·exact .inr rfl
   ·rename_i hn
    rcases c0f (P:=P) fn.results.toList (fun res=>b6i fn.ntmps fun ps=>oS P fn.ntmps c fun b=>K ⟨ps,b,res⟩) no with⟨res,hres,h1⟩|h1
    ·rw[h1,b3Z]
     obtain⟨C,hC,h2⟩:=b5h (P:=P) fn.ntmps c (fun b=>K ⟨(List.range fn.ntmps).map lU,b,res⟩)
     exact .inl ⟨⟨_,C,res⟩,⟨fn,c,hfn,hb,by simpa using hn,rfl,hC,hres⟩,h2⟩
    ·exact .inr h1
  ·exact .inr rfl
 ·exact .inr rfl
theorem a8O{α:Type}(fs:List FuncId)(T:LT)(hT:TOk P T)(K:LT→α):∃T',TOk P T'∧uX P fs T K=K T':=by
 induction fs generalizing T with
 | nil=>exact⟨T,hT,rfl⟩
 | cons f fs ih=>
   have e:uX P (f::fs) T K=a4o P f (uX P fs T K) fun g=>nC (lU f) fun p=>vA g p T fun T=>uX P fs T K:=rfl
   rw[e]
   rcases b6N (P:=P) f (uX P fs T K) (fun g=>nC (lU f) fun p=>vA g p T fun T=>uX P fs T K)with⟨g,hg,h⟩|h
   ·rw[h,mV,a0T]
    refine ih _ fun f' g' h'=> ?_
    rcases b6j g (lU f) (lU f') T h' with⟨he,rfl⟩|h'
    ·rw[b5c he];exact hg
    ·exact hT f' g' h'
   ·rw[h];exact ih T hT
end Go.Ds
namespace Go.Ds
open Go.Proofs Go.Proofs.Tryz
def t64:List Nat:=[0,1,56,2,57,49,28,3,61,58,42,50,38,29,17,4,62,47,59,36,45,43,51,22,53,39,33,30,24,18,12,5,63,55,48,27,60,41,37,16,46,35,44,21,52,32,23,11,54,26,40,15,34,20,31,10,25,14,19,9,13,8,7,6]
def t32:List Nat:=[0,1,28,2,29,14,24,3,30,22,20,15,25,17,4,8,31,27,13,23,21,19,16,7,26,12,18,6,11,5,10,9]
noncomputable def gH:Heap:=((((Heap.nil.cons (.cells (t64.map fun(n:Nat)=>Value.int .u8 (.ofNat n)) 5 false 0 1)).cons (.cells [] 3 false 0 1)).cons (.cells ([1,10,100,1000,10000,100000,1000000,10000000,100000000,1000000000,10000000000,100000000000,1000000000000,10000000000000,100000000000000,1000000000000000,10000000000000000,100000000000000000,1000000000000000000,10000000000000000000].map fun(n:Nat)=>Value.int .u64 (.ofNat n)) 48 false 0 1)).cons (.cells (t32.map fun(n:Nat)=>Value.int .u8 (.ofNat n)) 5 false 0 1))
theorem c5M:prog.follows .mixedOrders=true:=by kernel_rfl
def b5Y:Nat→Nat→List UInt8→List UInt8
 | 0,_,acc=>acc
 | f+1,n,acc=>if n<10 then(48+n).toUInt8::acc else b5Y f (n/10) ((48+n%10).toUInt8::acc)
def qV(n:Nat):ByteArray:=⟨(b5Y 100 n []).toArray⟩
theorem a6T{b:ByteArray}{n:Nat}(h:b.data.toList=b5Y 100 n []):b=qV n:=by
 cases b with|mk d=>cases d with|mk l=>simp only at h;subst h;rfl
def b4P(r:Rs)(n:Nat):Bool:=match r with
 | .ok (.string b) _=>decide (b.data.toList=b5Y 100 n [])
 | .th (.string b) _=>decide (b.data.toList=b5Y 100 n [])
 | _=>false
def c4H(v:Value)(n:Nat):Bool:=match v with
 | .tuple vs=>match vs.toList with
   | [.string b,.int .i64 m]=>decide (m=0)&&decide (b.data.toList=b5Y 100 n [])
   | _=>false
 | _=>false
def c1O(r:Rs)(n:Nat):Bool:=match r with
 | .ok v _=>c4H v n
 | .th v _=>c4H v n
 | _=>false
def b8f(r:Rs)(n:Int):Bool:=match r with
 | .ok (.int .i64 m) _=>decide (m=n)
 | .th (.int .i64 m) _=>decide (m=n)
 | _=>false
noncomputable def c5y (ps:List Nat):Bool:=uX prog [140,192,157,115,158,188,201,202,203,204,230,231,232,233,248] .e fun T=>ps.all fun x=>b4P (nW T (exF prog T 4000) [] (lU 192) [.int .i64 x] gH) x
def fsP:List Nat:=[140,100,101,102,253,191,157,141,142,257,258,221,222,223,224,227,180,181,240,241,242,243,244,245,246,251,252,254,255,201,202,203,204,230,231,232,233,248]
noncomputable def xA (ps:List Nat):Bool:=uX prog fsP .e fun T=>ps.all fun x=>c1O (nW T (exF prog T 4000) [] (lU 191) [.string (qV x),.int .i64 24] gH) (x^24)
def fsM:List Nat:=[140,100,101,102,253,192,193,157,115,141,142,257,258,221,222,223,224,225,227,158,180,181,240,241,242,243,244,245,246,188,251,252,254,255,201,202,203,204,230,231,232,233,248]
noncomputable def nO (ps:List (Nat×Nat)):Bool:=uX prog fsM .e fun T=>ps.all fun x=>b4P (nW T (exF prog T 4000) [] (lU 193) [.string (qV x.1),.string (qV x.2)] gH) (x.1*x.2)
def uP(t:Nat×Nat):List (Nat×Nat):=(t.1^24,2)::(List.range t.2).map fun k=>(2*t.1^24*4^k,4)
def a8f(t:Nat×Nat×Nat):List (Nat×Nat):=(List.range (t.2.2+1)).map fun k=>(t.1^24,2*t.2.1^24*4^k)
def b9A(a b:Nat):Int:=if a<b then -1 else if b<a then 1 else 0
noncomputable def wY (ps:List (Nat×Nat)):Bool:=uX prog [194,226,227,228,245,246,247,255,256] .e fun T=>ps.all fun x=>b8f (nW T (exF prog T 4000) [] (lU 194) [.string (qV x.1),.string (qV x.2)] gH) (b9A x.1 x.2)
end Go.Ds
namespace Go.Ds
open Go.RowKit Go.Proofs
section
variable {P:Program} {ρ:Rho} {H:Heap} {w:World}
theorem a6u{name:String}{g:Nat}{k:IntKind}{zs:List Int}(hg:P.globalNamed name=some g)(ht:Lib.TabIs P w name k zs):∃t fr,w.heap[g]? =some (.cells (zs.map fun z=>Value.int k z).toArray t fr):=by
 unfold Lib.TabIs World.var? at ht
 rw[hg,dC]at ht
 split at ht
 ·rename_i cs t fr hb
  obtain rfl:=dA ht
  exact⟨t,fr,hb⟩
 ·cases ht
theorem InW.dh(h:InW P ρ H w){name:String}{g:Nat}{k:IntKind}{zs:List Int}{ty:TypeId}(hg:P.globalNamed name=some g)(ht:Lib.TabIs P w name k zs)(hgH:g=H.length)(hty:jD P ty=some 1):
 InW P (ρ.put H.length (zs.map fun z=>Value.int k z).length ⟨g,0,zs.length,1⟩) (H.cons (.cells (zs.map fun z=>Value.int k z) ty false 0 1)) w:=by
 obtain⟨t,fr,hb⟩:=a6u hg ht
 refine(h.row ⟨g,0,zs.length,1⟩ hb (ty:=ty) hty (by simp) (zs.map fun z=>Value.int k z) 1 (fun _=>⟨hgH,rfl⟩) (by simp) fun i c hi _ hc=>⟨c,?_,?_⟩).1
 ·have:(⟨g,0,zs.length,1⟩:Place).at i=i:=by simp[Place.at]
  rw[this]
  simpa using hc
 ·rw[ft]at hc
  obtain⟨z,_,rfl⟩:=dJ.1 hc
  exact .c0 (.flat rfl)
end
theorem d0v:∀A b,jS gH A=some b→∃cs ty lo,b=.cells cs ty false lo 1∧lL cs=true:=by
 intro A b h
 unfold gH at h
 have hn:∀(H:Heap)(c:Blk),jS (H.cons c) A=some b→(A=H.length∧b=c)∨jS H A=some b:=fun H c h=>by
  by_cases he:A=H.length
  ·subst he;rw[jP]at h;exact .inl ⟨rfl,(dA h).symm⟩
  ·have hA:A<(H.cons c).length:=kL h
   rw[length_cons]at hA
   rw[kS _ (by omega)]at h
   exact .inr h
 rcases hn _ _ h with⟨_,rfl⟩|h
 ·exact⟨_,_,_,rfl,by kernel_rfl⟩
 rcases hn _ _ h with⟨_,rfl⟩|h
 ·exact⟨_,_,_,rfl,by kernel_rfl⟩
 rcases hn _ _ h with⟨_,rfl⟩|h
 ·exact⟨_,_,_,rfl,by kernel_rfl⟩
 rcases hn _ _ h with⟨_,rfl⟩|h
 ·exact⟨_,_,_,rfl,by kernel_rfl⟩
 ·have:A<0:=kL h
  omega
theorem ExtW.glob{ρ ρ':Rho}{H':Heap}(h:ExtW ρ gH ρ' H'):Glob gH H':=⟨h.len,fun A hA=>h.old A hA,d0v⟩
def p10:List Int:=[1,10,100,1000,10000,100000,1000000,10000000,100000000,1000000000,10000000000,100000000000,1000000000000,10000000000000,100000000000000,1000000000000000,10000000000000000,100000000000000000,1000000000000000000,10000000000000000000]
theorem g64:Tryz.prog.globalNamed "math/bits.deBruijn64tab" =some 0:=by kernel_rfl
theorem wW:Tryz.prog.globalNamed "internal/strconv.uint64pow10" =some 2:=by kernel_rfl
theorem g32:Tryz.prog.globalNamed "math/bits.deBruijn32tab" =some 3:=by kernel_rfl
theorem c3G{w:World}(h64:Lib.TabIs Tryz.prog w "math/bits.deBruijn64tab" .u8 (t64.map Int.ofNat))(h10:Lib.TabIs Tryz.prog w "internal/strconv.uint64pow10" .u64 p10)
 (h32:Lib.TabIs Tryz.prog w "math/bits.deBruijn32tab" .u8 (t32.map Int.ofNat)) (h1001:∃cs t fr,w.heap[1]? =some (.cells cs t fr)):∃ρ,InW Tryz.prog ρ gH w:=by
 have a0:=(InW.none (P:=Tryz.prog) w).dh g64 h64 (ty:=5) rfl (by kernel_rfl)
 obtain⟨cs1,t1,fr1,hb1⟩:=h1001
 have a1:=(a0.row ⟨1,0,cs1.size,1⟩ hb1 (ty:=3) (by kernel_rfl) rfl [] 1 (fun _=>⟨rfl,rfl⟩) (by simp) (fun i c hi=>by simp at hi)).1
 have a2:=a1.dh wW h10 (ty:=48) rfl (by kernel_rfl)
 have a3:=a2.dh g32 h32 (ty:=5) rfl (by kernel_rfl)
 exact⟨_,a3⟩
end Go.Ds
namespace Go.Ds
noncomputable section
variable {P:Program} {H0:Base} {H:Heap} {os:List Ob} {κ β:Type} [DecidableEq κ] {enc:κ→Value} {f:β→Value} {t:TypeId} {z:Value}
structure MapK(P:Program)(t:TypeId){κ:Type}[DecidableEq κ](enc:κ→Value)(z:Value):Prop where
 ex:∃kt et,a0Z P t=some (kt,et)∧kB P et=some z∧kE z=true∧(∀b k,a0N P b kt (enc k)=true)∧
  (∀k(es:List MapEntry)(ks:List κ),es.map (·.key)=ks.map enc→uC P kt (enc k) es=some (ks.findIdx? fun x=>decide (x=k)))∧∀k,Instr.sameBits 10000 (enc k) (enc k)=true
def kcs(enc:κ→Value)(f:β→Value)(kvs:List (κ×β)):List Value:=kvs.flatMap fun p=>[enc p.1,f p.2]
def zA(kvs:List (κ×β))(k:κ):Option β:=(kvs.find? fun p=>decide (p.1=k)).map (·.2)
def a4X(kvs:List (κ×β))(k:κ)(v:β):List (κ×β):=match kvs.findIdx? (fun p=>decide (p.1=k))with
 | some j=>kvs.set j (k,v)
 | none=>kvs++[(k,v)]
theorem a7m:∀(es:List MapEntry)(kvs:List (κ×β)),kcs enc f kvs=mcs es→es.map (·.key)=kvs.map (fun p=>enc p.1)∧es.map (·.val)=kvs.map (fun p=>f p.2)
 | [],[],_=>⟨rfl,rfl⟩
 | [],p::kvs,h=>by simp[kcs,mcs]at h
 | e::es,[],h=>by simp[kcs,mcs]at h
 | e::es,p::kvs,h=>by
   simp only[kcs,mcs,ec,gr,fH,fG]at h
   obtain⟨h1,h2,h3⟩:=h
   obtain⟨h4,h5⟩:=a7m es kvs h3
   simp only[eN]
   exact⟨by rw[h4,h1],by rw[h5,h2]⟩
theorem b1o:∀(es:List MapEntry)(kvs:List (κ×β)),es.map (·.key)=kvs.map (fun p=>enc p.1)→es.map (·.val)=kvs.map (fun p=>f p.2)→kcs enc f kvs=mcs es
 | [],[],_,_=>rfl
 | [],p::kvs,h,_=>by simp at h
 | e::es,[],h,_=>by simp at h
 | e::es,p::kvs,h,h'=>by
   simp only[eN,fG]at h h'
   have:=b1o es kvs h.2 h'.2
   simp only[kcs,mcs,ec]at this ⊢
   rw[this,h.1,h'.1]
theorem St.cq(hS:St P H0 H os)(i:Nat){A:Nat}{cs:List Value}(ho:os[i]? =some ⟨.map (some A),0,cs⟩):∃es ck ver,jS H A=some (.map es ck ver)∧cs=mcs es∧Stamps es ck:=by
 have:=hS.own _ (dR ho)
 unfold OwnAt at this
 rw[if_pos rfl]at this
 rcases this with⟨_,_,_,_,_,_,h⟩|⟨A',es,ck,ver,h1,h2,h3,h4⟩
 ·cases h
 ·simp only[Value.map.injEq,ee]at h3
  subst h3
  exact⟨es,ck,ver,h1,h2,h4⟩
theorem b4z(kvs:List (κ×β))(k:κ):(∃j x,(kvs.map (·.1)).findIdx? (fun x=>decide (x=k))=some j∧kvs[j]? =some x∧kvs.find? (fun p=>decide (p.1=k))=some x)∨((kvs.map (·.1)).findIdx? (fun x=>decide (x=k))=none∧kvs.find? (fun p=>decide (p.1=k))=none):=by
 induction kvs with
 | nil=>exact .inr ⟨rfl,rfl⟩
 | cons p kvs ih=>
   by_cases h:p.1=k
   ·exact .inl ⟨0,p,by simp[fW,h],rfl,by simp[h]⟩
   ·rcases ih with⟨j,x,h1,h2,h3⟩|⟨h1,h2⟩
    ·exact .inl ⟨j+1,x,by simp[fW,h,h1],by simpa using h2,by simp[h,h3]⟩
    ·exact .inr ⟨by simp[fW,h,h1],by simp[h,h2]⟩
theorem St.dx(hS:St P H0 H os)(i:Nat){A:Nat}{kvs:List (κ×β)}(ho:os[i]? =some ⟨.map (some A),0,kcs enc f kvs⟩)(hk:MapK P t enc z)(hf:∀b,oQ (f b)=true)(c:Bool)(k:κ):
 rG P H t (.map (some A)) (enc k) c=some (pairV c (((zA kvs k).map f).getD z) (zA kvs k).isSome):=by
 obtain⟨kt,et,h1,h2,h3,h4,h5,h6⟩:=hk.ex
 obtain⟨es,ck,ver,h7,h8,_⟩:=hS.cq i ho
 obtain⟨h9,h10⟩:=a7m es kvs h8
 have hi:=h5 k es (kvs.map (·.1)) (by rw[h9];simp[jd])
 simp only[rG,h1,dC,a4z,h7,h4,if_true,hi,zA]
 rcases b4z kvs k with⟨j,x,e1,e2,e3⟩|⟨e1,e3⟩
 ·have hj:es[j]?.map (·.val)=some (f x.2):=by
   rw[←ft,h10,ft,e2];rfl
  cases he:es[j]? with
  | none=>rw[he]at hj;simp at hj
  | some e=>
    rw[he]at hj
    simp only[ez,ee]at hj
    simp only[e1,he,dC,hj,hf,if_true,e3,ez,eE,Option.isSome_some]
 ·simp only[e1,e3,Option.map_none,Option.getD_none,Option.isSome_none,h2,dC,h3,if_true]
def b0p(P:Program)(H:Heap)(t:TypeId)(x k:Value)(c:Bool)(K:Value→Prop)(_k:Keep K:=⟨⟩):Prop:=∃v,rG P H t x k c=some v∧K v
theorem a8X{t:TypeId}{x x' k k':Value}{c:Bool}{K:Value→Prop}(h:x=x')(h2:k=k'):b0p P H t x k c K=b0p P H t x' k' c K:=by rw[h,h2]
attribute [congr] a8X
theorem b3x(d ty pos af g)(t:TypeId)(x k:Operand)(c:Bool)(l:List Value)(K:Value→Heap→Prop):
 nM P ⟨d,.lookup t x k c,ty,pos,af,g⟩ l H K=kI x l fun x=>kI k l fun k=>b0p P H t x k c fun v=>K v H:=by
 have h2:kY ((rG P H t (ev l x) (ev l k) c).map fun v=>(v,H)) K=∃v,rG P H t (ev l x) (ev l k) c=some v∧K v H:=by
  cases rG P H t (ev l x) (ev l k) c<;>simp[kY]
 simp only[nM,opD,kI,Op.operands,b0p,h2]
 simp[and_assoc]
theorem St.aX(hS:St P H0 H os)(i:Nat){A:Nat}{kvs:List (κ×β)}(ho:os[i]? =some ⟨.map (some A),0,kcs enc f kvs⟩)(hk:MapK P t enc z)(hf:∀b,oQ (f b)=true){c:Bool}{k:κ}{K:Value→Prop}
 (h:K (pairV c (((zA kvs k).map f).getD z) (zA kvs k).isSome)):b0p P H t (.map (some A)) (enc k) c K:=⟨_,hS.dx i ho hk hf c k,h⟩
def a7G(P:Program)(H:Heap)(t:TypeId)(K:Value→Heap→Prop)(_k:Keep K:=⟨⟩):Prop:=∃v H1,rR P H t none=some (v,H1)∧K v H1
theorem b0t(d ty pos af g)(t:TypeId)(l:List Value)(K:Value→Heap→Prop):nM P ⟨d,.makeMap t none,ty,pos,af,g⟩ l H K=a7G P H t K:=by
 simp only[nM,opD,Op.operands,a7G,oI]
 simp
theorem St.cd(hS:St P H0 H os)(hk:MapK P t enc z){K:Value→Heap→Prop}(h:∀A H1,St P H0 H1 (os++[⟨.map (some A),0,[]⟩])→K (.map (some A)) H1):a7G P H t K:=by
 obtain⟨kt,et,h1,_⟩:=hk.ex
 refine⟨.map (some H.length),H.cons (.map [] 0 0),by simp[rR,h1],h _ _ (hS.add ?_ ?_ ?_ ?_)⟩
 ·unfold OwnAt
  rw[if_pos rfl]
  exact .inr ⟨_,[],0,0,jP H _,rfl,rfl,.nil 0⟩
 ·simp[rD]
 ·exact fun B hB=>kS _ hB
 ·intro B hB
  simp[kX]at hB
  omega
def c1q(P:Program)(H:Heap)(t:TypeId)(m k v:Value)(K:Heap→Prop)(_k:Keep K:=⟨⟩):Prop:=∃H1,a2L P H t m k v=some H1∧K H1
theorem b2a{t:TypeId}{m m' k k' v v':Value}{K:Heap→Prop}(h:m=m')(h2:k=k')(h3:v=v'):c1q P H t m k v K=c1q P H t m' k' v' K:=by rw[h,h2,h3]
attribute [congr] b2a
theorem a4V(d ty pos af g)(t:TypeId)(m k v:Operand)(l:List Value)(K:Value→Heap→Prop):
 nM P ⟨d,.mapUpdate t m k v,ty,pos,af,g⟩ l H K=kI m l fun m=>kI k l fun k=>kI v l fun v=>c1q P H t m k v fun H1=>K undef H1:=by
 have h2:kY ((a2L P H t (ev l m) (ev l k) (ev l v)).map fun H=>(undef,H)) K=∃H1,a2L P H t (ev l m) (ev l k) (ev l v)=some H1∧K undef H1:=by
  cases a2L P H t (ev l m) (ev l k) (ev l v)<;>simp[kY]
 simp only[nM,opD,kI,Op.operands,c1q,h2]
 simp[and_assoc]
theorem b3I(kvs:List (κ×β))(k:κ)(v:β):a4X kvs k v=match (kvs.map (·.1)).findIdx? (fun x=>decide (x=k))with|some j=>kvs.set j (k,v)|none=>kvs++[(k,v)]:=by
 unfold a4X
 rw[List.findIdx?_map]
 rfl
theorem St.cD(hS:St P H0 H os)(i:Nat){A:Nat}{kvs:List (κ×β)}(ho:os[i]? =some ⟨.map (some A),0,kcs enc f kvs⟩)(hk:MapK P t enc z){k:κ}{v:β}{K:Heap→Prop}
 (h:∀H1,St P H0 H1 (os.set i ⟨.map (some A),0,kcs enc f (a4X kvs k v)⟩)→K H1):c1q P H t (.map (some A)) (enc k) (f v) K:=by
 obtain⟨kt,et,h1,h2,h3,h4,h5,h6⟩:=hk.ex
 obtain⟨es,ck,ver,h7,h8,hst⟩:=hS.cq i ho
 obtain⟨h9,h10⟩:=a7m es kvs h8
 have hi:=h5 k es (kvs.map (·.1)) (by rw[h9];simp[jd])
 have fin:∀es' ck',mcs es'=kcs enc f (a4X kvs k v)→Stamps es' ck'→St P H0 (hset H A (.map es' ck' (ver+1))) (os.set i ⟨.map (some A),0,kcs enc f (a4X kvs k v)⟩):=by
  intro es' ck' he hst'
  refine hS.put i ho ?_ ?_ ?_ ?_
  ·unfold OwnAt
   rw[if_pos rfl]
   exact .inr ⟨A,es',ck',_,jQ _ (kL h7),he.symm,rfl,hst'⟩
  ·rw[kN];exact dG _
  ·intro B hB hne
   exact rT fun hh=>hne (by simp[kX,hh])
  ·exact fun B hB=>.inl hB
 rcases b4z kvs k with⟨j,x,e1,e2,_⟩|⟨e1,_⟩
 ·have hj:es[j]?.map (·.key)=some (enc x.1):=by
   rw[←ft,h9,ft,e2];rfl
  have hx:x.1=k:=by
   have:=List.findIdx?_eq_some_iff_getElem.1 e1
   obtain⟨hlt,hd,_⟩:=this
   have hlt':j<kvs.length:=by simpa using hlt
   have:kvs[j]=x:=by
    rw[dH hlt']at e2
    exact dA e2
   simp[this]at hd
   exact hd
  cases he:es[j]? with
  | none=>rw[he]at hj;simp at hj
  | some e=>
    rw[he]at hj
    simp only[ez,ee]at hj
    refine⟨hset H A (.map (es.set j {e with key:=enc k,val:=f v}) ck (ver+1)),?_,h _ (fin _ _ ?_ (hst.set he _ rfl))⟩
    ·have hsb:Instr.sameBits 10000 e.key (enc k)=true:=by rw[hj,hx];exact h6 k
     simp only[a2L,h1,dC,h7,h4,if_true,hi,e1,he,hsb]
    ·symm
     rw[b3I,e1]
     refine b1o _ _ ?_ ?_
     ·rw[je,je,h9]
     ·rw[je,je,h10]
 ·refine⟨hset H A (.map (es++[{key:=enc k,val:=f v,born:=ck}]) (ck+1) (ver+1)),?_,h _ (fin _ _ ?_ (hst.push _ rfl))⟩
  ·simp only[a2L,h1,dC,h7,h4,if_true,hi,e1]
  ·symm
   rw[b3I,e1]
   refine b1o _ _ ?_ ?_
   ·rw[dY,dY,h9];rfl
   ·rw[dY,dY,h10];rfl
def c3d(P:Program)(H:Heap)(t:TypeId)(m k:Value)(K:Value→Heap→Prop)(_k:Keep K:=⟨⟩):Prop:=∃v H1,wB P H t m k=some (v,H1)∧K v H1
theorem b2v{t:TypeId}{m m' k k':Value}{K:Value→Heap→Prop}(h:m=m')(h2:k=k'):c3d P H t m k K=c3d P H t m' k' K:=by rw[h,h2]
attribute [congr] b2v
def b4U(H:Heap)(m b v:Value)(K:Heap→Prop)(_k:Keep K:=⟨⟩):Prop:=∃H1,uG H m b v=some H1∧K H1
theorem a9f{m m' b b' v v':Value}{K:Heap→Prop}(h:m=m')(h2:b=b')(h3:v=v'):b4U H m b v K=b4U H m' b' v' K:=by rw[h,h2,h3]
attribute [congr] a9f
theorem a7K(d ty pos af g)(t:TypeId)(m k:Operand)(l:List Value)(K:Value→Heap→Prop):
 nM P ⟨d,.mapEntry t m k,ty,pos,af,g⟩ l H K=kI m l fun m=>kI k l fun k=>c3d P H t m k K:=by
 have h2:kY (wB P H t (ev l m) (ev l k)) K=∃v H1,wB P H t (ev l m) (ev l k)=some (v,H1)∧K v H1:=oI ..
 simp only[nM,opD,kI,Op.operands,c3d,h2]
 simp[and_assoc]
theorem a3r(d ty pos af g)(t:TypeId)(m b v:Operand)(l:List Value)(K:Value→Heap→Prop):
 nM P ⟨d,.entryStore t m b v,ty,pos,af,g⟩ l H K=kI m l fun m=>kI b l fun b=>kI v l fun v=>b4U H m b v fun H1=>K undef H1:=by
 have h2:kY ((uG H (ev l m) (ev l b) (ev l v)).map fun H=>(undef,H)) K=∃H1,uG H (ev l m) (ev l b) (ev l v)=some H1∧K undef H1:=by
  cases uG H (ev l m) (ev l b) (ev l v)<;>simp[kY]
 simp only[nM,opD,kI,Op.operands,b4U,h2]
 simp[and_assoc]
theorem a8B(kvs:List (κ×β))(k k':κ)(v:β):zA (a4X kvs k v) k'=if k'=k then some v else zA kvs k':=by
 unfold zA a4X
 induction kvs with
 | nil=>
   by_cases h:k'=k
   ·simp[h]
   ·simp[h,fP h]
 | cons p kvs ih=>
   by_cases hp:p.1=k
   ·simp only[fW,hp,decide_true,if_true,gV,List.find?_cons]
    by_cases h:k'=k
    ·simp[h]
    ·simp[h,fP h]
   ·have hd:decide (p.1=k)=false:=by simp[hp]
    simp only[fW,hd,eV,if_false]
    by_cases hq:p.1=k'
    ·have hne:¬k'=k:=fun e=>hp (hq.trans e)
     cases hh:kvs.findIdx? (fun p=>decide (p.1=k))with
     | none=>simp[hq,hne]
     | some j=>simp[hq,hne]
    ·cases hh:kvs.findIdx? (fun p=>decide (p.1=k))with
     | none=>
       rw[hh]at ih
       simpa [hq,List.find?_cons]using ih
     | some j=>
       rw[hh]at ih
       simpa [hq,List.find?_cons]using ih
end
end Go.Ds
namespace Go.Ds
noncomputable section
variable {P:Program} {H:Heap}
theorem lS{α:Type}(P:Program)(x:α):jO P (pure x)=some x:=rfl
theorem kW{t:TypeId}{d:TypeDesc}(h:P.underlying t=some d):jO P (underlying t)=some d:=by
 unfold underlying
 rw[jK]
 have:jO P program=some P:=rfl
 rw[this,dC,h]
 rfl
def mQ:Operand→Bool
 | .const _=>true
 | _=>false
def qK(c:Bool)(i:Nat)(v:Value):Operand:=if c then .const v else .tmp i
def lJ(P:Program)(op:BinOp)(t t2:TypeId)(cx cy:Bool)(x y:Value):Option Value:=(opD P ⟨none,.binOp op t (qK cx 0 x) (qK cy 1 y) t2,t,"",#[],none⟩ [x,y] .nil).map (·.1)
def lV(P:Program)(op:BinOp)(t t2:TypeId)(cx cy:Bool)(x y:Value)(K:Value→Prop)(_k:Keep K:=⟨⟩):Prop:=match x,y with
 | .int k a,.int k' b=>(match (if k=k' then oB op k a b else none)with|some v=>K v|none=>kP (lJ P op t t2 cx cy (.int k a) (.int k' b)) K)
 | x,y=>kP (lJ P op t t2 cx cy x y) K
theorem a9Z{op:BinOp}{t t2:TypeId}{cx cy:Bool}{x x' y y':Value}{K:Value→Prop}(h:x=x')(h2:y=y'):lV P op t t2 cx cy x y K=lV P op t t2 cx cy x' y' K:=by rw[h,h2]
attribute [congr] a9Z
theorem b2u(x:Operand)(l m:List Value):ev (ev l x::m) (qK (mQ x) 0 (ev l x))=ev l x:=by cases x<;>rfl
theorem b3E(x:Operand)(l m:List Value)(a:Value):ev (a::ev l x::m) (qK (mQ x) 1 (ev l x))=ev l x:=by cases x<;>rfl
theorem b9O(op:BinOp)(t:TypeId)(x y:Operand)(l:List Value):eqGuard op t x y (ev l x) (ev l y)=eqGuard op t (qK (mQ x) 0 (ev l x)) (qK (mQ y) 1 (ev l y)) (ev l x) (ev l y):=by
 generalize hx:ev l x=vx
 generalize hy:ev l y=vy
 cases x<;>cases y<;>rfl
theorem c2A(d ty pos af g)(op:BinOp)(t:TypeId)(x y:Operand)(t2:TypeId)(l:List Value)(H:Heap):
 opD P ⟨d,.binOp op t x y t2,ty,pos,af,g⟩ l H=(lJ P op t t2 (mQ x) (mQ y) (ev l x) (ev l y)).map fun v=>(v,H):=by
 have hp:lT P ⟨d,.binOp op t x y t2,ty,pos,af,g⟩ l H=_:=oK (P:=P) ⟨d,.binOp op t x y t2,ty,pos,af,g⟩ ⟨none,.binOp op t (qK (mQ x) 0 (ev l x)) (qK (mQ y) 1 (ev l y)) t2,t,"",#[],none⟩ l [ev l x,ev l y] H
  (by simp only[Op.operands,eN,gy,b2u,b3E]) (by
    simp only[execOp]
    rw[b2u,b3E,←b9O])
 simp only[opD,lJ,hp,b2u,b3E]
 generalize lT P _ _ _=r
 generalize ev l x=vx
 generalize ev l y=vy
 split
 all_goals first
  | (split<;>first|rfl|(split<;>first|rfl|(cases r<;>rfl))|(cases r<;>rfl))
  | (cases r<;>rfl)
theorem b9d(d ty pos af g)(op:BinOp)(t:TypeId)(x y:Operand)(t2:TypeId)(l:List Value)(K:Value→Heap→Prop):
 nM P ⟨d,.binOp op t x y t2,ty,pos,af,g⟩ l H K=kI x l fun x'=>kI y l fun y'=>lV P op t t2 (mQ x) (mQ y) x' y' fun v=>K v H:=by
 have h:kY (opD P ⟨d,.binOp op t x y t2,ty,pos,af,g⟩ l H) K=lV P op t t2 (mQ x) (mQ y) (ev l x) (ev l y) fun v=>K v H:=by
  have key:kY ((lJ P op t t2 (mQ x) (mQ y) (ev l x) (ev l y)).map fun v=>(v,H)) K=kP (lJ P op t t2 (mQ x) (mQ y) (ev l x) (ev l y)) fun v=>K v H:=by
   cases lJ P op t t2 (mQ x) (mQ y) (ev l x) (ev l y)<;>rfl
  rw[c2A,key]
  unfold lV
  split
  ·rename_i k a k' b hx hy
   split
   ·rename_i v hv
    split at hv
    ·rename_i hk
     subst hk
     have:lJ P op t t2 (mQ x) (mQ y) (.int k a) (.int k b)=some v:=by
      have h1:∀m,ev ((.int k a:Value)::m) (qK (mQ x) 0 (.int k a))=.int k a:=fun m=>by cases mQ x<;>rfl
      have h2:∀m c,ev (c::(.int k b:Value)::m) (qK (mQ y) 1 (.int k b))=.int k b:=fun m c=>by cases mQ y<;>rfl
      cases op<;>simp only[oB]at hv<;>first|(cases hv;done)|(simp only[lJ,opD,h1,h2,oB,if_true,hv];rfl)
     rw[hx,hy,this]
     rfl
    ·cases hv
   ·rw[hx,hy]
  ·rfl
 simp only[nM,h,kI,Op.operands]
 simp[and_assoc]
theorem nP(op:BinOp)(t t2:TypeId)(cx cy:Bool)(k:IntKind)(a b:Int){v:Value}(K:Value→Prop)(h:oB op k a b=some v):lV P op t t2 cx cy (.int k a) (.int k b) K=oR v K:=by
 simp[lV,h,oR]
section
theorem b5B(t t2:TypeId)(cx cy:Bool)(k:IntKind)(a b:Int)(K:Value→Prop):lV P .add t t2 cx cy (.int k a) (.int k b) K=oR (.int k (k.wrap (a+b))) K:=nP _ _ _ _ _ _ _ _ _ (by simp[oB,b4R,wZ])
theorem b6H(t t2:TypeId)(cx cy:Bool)(k:IntKind)(a b:Int)(K:Value→Prop):lV P .sub t t2 cx cy (.int k a) (.int k b) K=oR (.int k (k.wrap (a-b))) K:=nP _ _ _ _ _ _ _ _ _ (by simp[oB,b5d,wZ])
theorem b6f(t t2:TypeId)(cx cy:Bool)(k:IntKind)(a b:Int)(K:Value→Prop):lV P .mul t t2 cx cy (.int k a) (.int k b) K=oR (.int k (k.wrap (a*b))) K:=nP _ _ _ _ _ _ _ _ _ (by simp[oB,wZ])
theorem b5V(t t2:TypeId)(cx cy:Bool)(k:IntKind)(a b:Int)(K:Value→Prop):lV P .eql t t2 cx cy (.int k a) (.int k b) K=oR (.bool (decide (a=b))) K:=nP _ _ _ _ _ _ _ _ _ (by simp[oB,a4C];rfl)
theorem b5w(t t2:TypeId)(cx cy:Bool)(k:IntKind)(a b:Int)(K:Value→Prop):lV P .neq t t2 cx cy (.int k a) (.int k b) K=oR (.bool (decide (¬a=b))) K:=nP _ _ _ _ _ _ _ _ _ (by simp[oB,a4C];rfl)
theorem b5D(t t2:TypeId)(cx cy:Bool)(k:IntKind)(a b:Int)(K:Value→Prop):lV P .lss t t2 cx cy (.int k a) (.int k b) K=oR (.bool (decide (a<b))) K:=nP _ _ _ _ _ _ _ _ _ (by simp[oB,a2a])
theorem b5E(t t2:TypeId)(cx cy:Bool)(k:IntKind)(a b:Int)(K:Value→Prop):lV P .leq t t2 cx cy (.int k a) (.int k b) K=oR (.bool (decide (a≤b))) K:=nP _ _ _ _ _ _ _ _ _ (by simp[oB,a2a,←Int.not_lt])
theorem b6e(t t2:TypeId)(cx cy:Bool)(k:IntKind)(a b:Int)(K:Value→Prop):lV P .gtr t t2 cx cy (.int k a) (.int k b) K=oR (.bool (decide (b<a))) K:=nP _ _ _ _ _ _ _ _ _ (by simp[oB,a2a])
theorem b7t(t t2:TypeId)(cx cy:Bool)(k:IntKind)(a b:Int)(K:Value→Prop):lV P .geq t t2 cx cy (.int k a) (.int k b) K=oR (.bool (decide (b≤a))) K:=nP _ _ _ _ _ _ _ _ _ (by simp[oB,a2a,←Int.not_lt])
theorem b7h(t t2:TypeId)(cx cy:Bool)(k:IntKind)(a b:Int)(K:Value→Prop)(hb:b≠0):lV P .rem t t2 cx cy (.int k a) (.int k b) K=oR (.int k (a.tmod b)) K:=nP _ _ _ _ _ _ _ _ _ (by
 have:(b==0)=false:=by simp[hb]
 simp[oB,a4C,this])
theorem b6r(t t2:TypeId)(cx cy:Bool)(k:IntKind)(a b:Int)(K:Value→Prop)(hb:b≠0):lV P .quo t t2 cx cy (.int k a) (.int k b) K=oR (.int k (k.wrap (a.tdiv b))) K:=nP _ _ _ _ _ _ _ _ _ (by
 have:(b==0)=false:=by simp[hb]
 simp[oB,a4C,wZ,this])
end
theorem mY{op:BinOp}{t t2:TypeId}{cx cy:Bool}{x y v:Value}(hx:flat x=true)(hy:flat y=true)(hg:jO P (eqGuard op t (qK cx 0 x) (qK cy 1 y) x y)=some ())
 (hv:jO P (binOp op t x y)=some v) (hf:flat v=true) (hs:∀a n c,x≠.slice (some a) n c) (hp:∀a,x≠.pointer (some a)) (hi:∀k a b,x=.int k a→y=.int k b→oB op k a b=none):lJ P op t t2 cx cy x y=some v:=by
 have h1:∀m,ev (x::m) (qK cx 0 x)=x:=fun m=>by cases cx<;>rfl
 have h2:∀m c,ev (c::y::m) (qK cy 1 y)=y:=fun m c=>by cases cy<;>rfl
 have hpl:lT P ⟨none,.binOp op t (qK cx 0 x) (qK cy 1 y) t2,t,"",#[],none⟩ [x,y] .nil=some (v,.nil):=by
  unfold lT
  rw[if_pos (by simp[Op.operands,h1,h2,hx,hy])]
  have:execOp (ev [x,y]) ⟨none,.binOp op t (qK cx 0 x) (qK cy 1 y) t2,t,"",#[],none⟩=(do let v ←(do eqGuard op t (qK cx 0 x) (qK cy 1 y) x y;binOp op t x y);pure (.value v)):=by
   simp only[execOp,h1,h2]
  rw[this,jK,jK,hg,dC,hv,dC,lS]
  simp only[hf,if_true]
 simp only[lJ,opD,h1,h2,hpl]
 split
 ·exact absurd rfl (hs _ _ _)
 ·exact absurd rfl (hs _ _ _)
 ·rename_i k a k' b
  split
  ·rename_i hk
   subst hk
   rw[hi _ _ _ rfl rfl]
   rfl
  ·rfl
 ·exact absurd rfl (hp _)
 ·exact absurd rfl (hp _)
 ·exact absurd rfl (hp _)
 ·exact absurd rfl (hp _)
 ·rfl
theorem sQ{op:BinOp}{t:TypeId}{x y:Operand}{k k':IntKind}{a b:Int}:jO P (eqGuard op t x y (.int k a) (.int k' b))=some ():=by
 unfold eqGuard
 split<;>rfl
section
theorem b8H(t t2:TypeId)(cx cy:Bool)(a b:Int){k k':IntKind}(hb:0≤b):lJ P .shr t t2 cx cy (.int k a) (.int k' b)=some (.int k (a.fdiv (2^(min b.toNat k.bits)))):=
 mY rfl rfl sQ (by simp only[binOp,Op.shift];rw[if_neg (by omega)];rfl) rfl (by simp) (by simp) (by intros;rfl)
theorem b9N(t t2:TypeId)(cx cy:Bool)(a b:Int){k k':IntKind}(hb:0≤b):lJ P .shl t t2 cx cy (.int k a) (.int k' b)=some (.int k (k.wrap (a*2^(min b.toNat k.bits)))):=
 mY rfl rfl sQ (by simp only[binOp,Op.shift];rw[if_neg (by omega)];rfl) rfl (by simp) (by simp) (by intros;rfl)
theorem b8W(t t2:TypeId)(cx cy:Bool)(a b:Int)(k:IntKind):lJ P .and t t2 cx cy (.int k a) (.int k b)=some (.int k (k.wrap (BitVec.ofInt k.bits a&&&BitVec.ofInt k.bits b).toNat)):=
 mY rfl rfl sQ (by simp only[binOp];rw[if_neg (by simp)];rfl) rfl (by simp) (by simp) (by intros;rfl)
theorem c4X(t t2:TypeId)(cx cy:Bool)(a b:Int)(k:IntKind):lJ P .or t t2 cx cy (.int k a) (.int k b)=some (.int k (k.wrap (BitVec.ofInt k.bits a|||BitVec.ofInt k.bits b).toNat)):=
 mY rfl rfl sQ (by simp only[binOp];rw[if_neg (by simp)];rfl) rfl (by simp) (by simp) (by intros;rfl)
theorem c1L(t t2:TypeId)(cx cy:Bool)(a b:Int)(k:IntKind):lJ P .xor t t2 cx cy (.int k a) (.int k b)=some (.int k (k.wrap (BitVec.ofInt k.bits a^^^BitVec.ofInt k.bits b).toNat)):=
 mY rfl rfl sQ (by simp only[binOp];rw[if_neg (by simp)];rfl) rfl (by simp) (by simp) (by intros;rfl)
theorem a8t(t t2:TypeId)(cx cy:Bool)(a b:Int)(k:IntKind):lJ P .andNot t t2 cx cy (.int k a) (.int k b)=some (.int k (k.wrap (BitVec.ofInt k.bits a&&&~~~ BitVec.ofInt k.bits b).toNat)):=
 mY rfl rfl sQ (by simp only[binOp];rw[if_neg (by simp)];rfl) rfl (by simp) (by simp) (by intros;rfl)
end
section
variable (a b:ByteArray)
theorem a1C{op:BinOp}{t:TypeId}{x y:Operand}:jO P (eqGuard op t x y (.string a) (.string b))=some ():=by
 unfold eqGuard
 split<;>rfl
theorem a2t(h:a.data.toList=b.data.toList):a=b:=by
 cases a;cases b
 simp only[ByteArray.mk.injEq]
 exact Array.toList_inj.1 h
theorem a3W:(a.toList==b.toList)=decide (a=b):=by
 rw[ByteArray.toList_eq,ByteArray.toList_eq,fc,beq_iff_eq,decide_eq_true_iff]
 exact⟨a2t a b,fun h=>by rw[h]⟩
theorem b1i(t t2:TypeId)(cx cy:Bool)(a b:ByteArray):lJ P .eql t t2 cx cy (.string a) (.string b)=some (.bool (decide (a=b))):=
 mY rfl rfl (a1C a b) (by rw[←a3W];rfl) rfl (by simp) (by simp) (by intro _ _ _ h;cases h)
theorem b2S(t t2:TypeId)(cx cy:Bool)(a b:ByteArray):lJ P .neq t t2 cx cy (.string a) (.string b)=some (.bool (decide (¬a=b))):=
 mY rfl rfl (a1C a b) (by
  have:decide (¬a=b)= !(a.toList==b.toList):=by rw[a3W];simp
  rw[this];rfl) rfl (by simp) (by simp) (by intro _ _ _ h;cases h)
theorem oF(t t2:TypeId)(cx cy:Bool)(a b:ByteArray)(h:a.size+b.size<9223372036854775808):lJ P .add t t2 cx cy (.string a) (.string b)=some (.string (a++b)):=
 mY rfl rfl (a1C a b) (by
  simp only[binOp,Op.stringOp]
  rw[if_neg]
  ·rfl
  ·have:IntKind.i64.max=9223372036854775807:=by decide
   rw[this];omega) rfl (by simp) (by simp) (by intro _ _ _ h;cases h)
end
theorem b8z{t:TypeId}(s:ByteArray)(ht:qH P t=true):a2j P H t (.string s)=some (.int .i64 s.size):=by
 unfold qH at ht
 unfold a2j
 split at ht
 ·rename_i h;rw[h];simp[a0f,goInt]
 ·cases ht
def rB(P:Program)(t:TypeId)(x i:Value):Option Value:=(opD P ⟨none,.index t (.const x) (.const i),t,"",#[],none⟩ [] .nil).map (·.1)
theorem b6y(d ty pos af g)(t:TypeId)(x i:Operand)(l:List Value)(K:Value→Heap→Prop):
 nM P ⟨d,.index t x i,ty,pos,af,g⟩ l H K=kI x l fun x=>kI i l fun i=>kP (rB P t x i) fun v=>K v H:=by
 have h:opD P ⟨d,.index t x i,ty,pos,af,g⟩ l H=(rB P t (ev l x) (ev l i)).map fun v=>(v,H):=by
  have hp:=oK (P:=P) ⟨d,.index t x i,ty,pos,af,g⟩ ⟨none,.index t (.const (ev l x)) (.const (ev l i)),t,"",#[],none⟩ l [] H rfl rfl
  simp only[opD,rB]
  exact hp
 have h2:kY ((rB P t (ev l x) (ev l i)).map fun v=>(v,H)) K=kP (rB P t (ev l x) (ev l i)) fun v=>K v H:=by cases rB P t (ev l x) (ev l i)<;>rfl
 simp only[nM,h,kI,Op.operands,h2]
 simp[and_assoc]
def pX(s:ByteArray)(i:Nat):Nat:=(s.data.toList.getD i 0).toNat
theorem b1E{t:TypeId}(s:ByteArray)(k:IntKind)(i:Int)(ht:qH P t=true)(h0:0≤i)(h1:i<s.size):rB P t (.string s) (.int k i)=some (.int .u8 (pX s i.toNat)):=by
 have hu:P.underlying t=some .string:=by
  unfold qH at ht
  split at ht
  ·rename_i h;exact h
  ·cases ht
 have hr:jO P (Instr.index t (.string s) (.int k i))=some (.int .u8 (pX s i.toNat)):=by
  unfold Instr.index
  rw[jK]
  have e1:jO P (asIntOf (.int k i))=some (k,i):=rfl
  rw[e1,dC]
  simp only[jK,kW hu,dC]
  rw[if_pos h0]
  have hlt:i.toNat<s.size:=by omega
  have hb:s[i.toNat]? =some s[i.toNat]:=by simp[getElem?_pos,hlt]
  simp only[hb]
  rw[lS]
  congr 3
  unfold pX
  rw[dE]
  have hl:i.toNat<s.data.toList.length:=by simpa using hlt
  rw[dH hl]
  rfl
 have hpl:lT P ⟨none,.index t (.const (.string s)) (.const (.int k i)),t,"",#[],none⟩ [] .nil=some (.int .u8 (pX s i.toNat),.nil):=by
  unfold lT
  rw[if_pos (by rfl)]
  have:execOp (ev []) ⟨none,.index t (.const (.string s)) (.const (.int k i)),t,"",#[],none⟩=(do let v ←Instr.index t (.string s) (.int k i);pure (.value v)):=rfl
  rw[this,jK,hr,dC,lS]
  rfl
 simp only[rB,opD,hpl]
 rfl
def a2R(P:Program)(t:TypeId):Option IntKind:=match P.underlying t with|some (.int k)=>some k|_=>none
theorem a2o{t:TypeId}{k:IntKind}(h:a2R P t=some k):P.underlying t=some (.int k):=by
 unfold a2R at h
 split at h
 ·rename_i h2;rw[h2];injection h with h;rw[h]
 ·cases h
theorem b7l{s t:TypeId}{k k':IntKind}(a:Int)(hs:a2R P s=some k)(ht:a2R P t=some k'):a4i P s t (.int k a)=some (.int k' (k'.wrap a)):=by
 have hr:jO P (convert s t (.int k a))=some (.int k' (k'.wrap a)):=by
  unfold convert
  simp only[jK,kW (a2o hs),kW (a2o ht),dC]
  rfl
 have hpl:lT P ⟨none,.convert s t (.const (.int k a)),t,"",#[],none⟩ [] .nil=some (.int k' (k'.wrap a),.nil):=by
  unfold lT
  rw[if_pos (by rfl)]
  have:execOp (ev []) ⟨none,.convert s t (.const (.int k a)),t,"",#[],none⟩=(do let v ←convert s t (.int k a);pure (.value v)):=rfl
  rw[this,jK,hr,dC,lS]
  rfl
 simp only[a4i,hpl]
 rfl
def a7i(P:Program)(d:Nat)(xs ys:Array Value)(fs:List Field):Option Bool:=
 (jO P (forIn fs ((none,()):Option Bool×Unit) fun f _=>
   if f.name≠ "_" then do
    let a ←part f.type xs f.offset
    let b ←part f.type ys f.offset
    let c ←Op.equalIn d f.type a b
    if(!c)=true then pure (ForInStep.done (some false,()))else pure (ForInStep.yield (none,()))
   else pure (ForInStep.yield (none,())))).bind fun x=>jO P (match x.fst with|some r=>pure r|none=>pure true)
theorem a3p{d:Nat}{xs ys:Array Value}(g:Field→Bool):∀(fs:List Field),(∀f∈fs,f.name≠ "_" ∧jO P (part f.type xs f.offset>>=fun x=>part f.type ys f.offset>>=fun y=>Op.equalIn d f.type x y)=some (g f))→
 a7i P d xs ys fs=some (fs.all g)
 | [],_=>rfl
 | f::fs,hg=>by
   obtain⟨h1,h2⟩:=hg f (eW ..)
   have ih:=a3p g fs fun f' h=>hg f' (eX _ h)
   unfold a7i at ih ⊢
   rw[jK]at h2
   simp only[List.forIn_cons,h1,ne_eq,not_false_eq_true,if_true,jK]
   cases hx:jO P (part f.type xs f.offset)with
   | none=>rw[hx]at h2;cases h2
   | some x=>
     rw[hx,dC,jK]at h2
     cases hy:jO P (part f.type ys f.offset)with
     | none=>rw[hy]at h2;cases h2
     | some y=>
       rw[hy,dC]at h2
       simp only[dC,h2]
       cases hgf:g f with
       | false=>
         simp only[Bool.not_false,if_true,lS,dC,gw,hgf,fX]
       | true=>
         simp only[Bool.not_true,eV,if_false,lS,dC,gw,hgf,gm]
         exact ih
theorem b8h{d:Nat}{t:TypeId}{fs:List Field}{xs ys:Array Value}(hu:P.underlying t=some (.struct fs.toArray))(hst:P.stoodInHeld t=false)(g:Field→Bool)
 (hg:∀f∈fs,f.name≠ "_" ∧jO P (part f.type xs f.offset>>=fun x=>part f.type ys f.offset>>=fun y=>Op.equalIn d f.type x y)=some (g f)):jO P (Op.equalIn (d+1) t (.agg xs) (.agg ys))=some (fs.all g):=by
 rw[Op.equalIn,jK,kW hu,dC]
 have hp:jO P program=some P:=rfl
 simp only[jK,hp,dC,hst,eV,if_false,List.forIn_toArray]
 refine Eq.trans ?_ (a3p g fs hg)
 unfold a7i
 congr 1
 funext x
 cases x.fst<;>rfl
theorem a6g{op:BinOp}{t:TypeId}(ht:P.eqGuardType P.depth t=false){x y:Operand}{a b:Array Value}:jO P (eqGuard op t x y (.agg a) (.agg b))=some ():=by
 have hp:jO P program=some P:=rfl
 unfold eqGuard
 cases op<;>simp[jK,hp,ht,lS]
theorem c1g{t t2:TypeId}{cx cy:Bool}{xs ys:List Value}(b:Bool)(ht:P.eqGuardType P.depth t=false)(hx:xs.all jZ=true)(hy:ys.all jZ=true)(h:jO P (Op.equalIn (9999+1) t (.agg xs.toArray) (.agg ys.toArray))=some b):
 lJ P .eql t t2 cx cy (.agg xs.toArray) (.agg ys.toArray)=some (.bool b):=
 mY (by simp[flat,kE,lL,hx]) (by simp[flat,kE,lL,hy]) (a6g ht) (by
  have hmd:Op.maxDepth=9999+1:=by decide
  simp only[binOp,jK,Op.equal]
  rw[hmd,h,dC,lS]) rfl (by simp) (by simp) (by intro _ _ _ h;cases h)
theorem b8A{t t2:TypeId}{cx cy:Bool}{xs ys:List Value}(b:Bool)(ht:P.eqGuardType P.depth t=false)(hx:xs.all jZ=true)(hy:ys.all jZ=true)(h:jO P (Op.equalIn (9999+1) t (.agg xs.toArray) (.agg ys.toArray))=some b):
 lJ P .neq t t2 cx cy (.agg xs.toArray) (.agg ys.toArray)=some (.bool (!b)):=
 mY (by simp[flat,kE,lL,hx]) (by simp[flat,kE,lL,hy]) (a6g ht) (by
  have hmd:Op.maxDepth=9999+1:=by decide
  simp only[binOp,jK,Op.equal]
  rw[hmd,h,dC,lS]) rfl (by simp) (by simp) (by intro _ _ _ h;cases h)
end
end Go.Ds
namespace Go.Ds
noncomputable section
variable {P:Program} {H:Heap}
theorem a4s(a b:ByteArray):(a==b)=decide (b=a):=by
 obtain⟨x⟩:=a
 obtain⟨y⟩:=b
 rw[fc,decide_eq_true_iff]
 constructor
 ·intro h
  have e:x=y:=by simpa using(show(x==y)=true from h)
  rw[e]
 ·intro h
  cases h
  show(x==x)=true
  simp
theorem a5V(o:Option Nat)(i:Nat):o.map (i+1+·)=(o.map (·+1)).map (i+·):=by
 cases o with
 | none=>rfl
 | some j=>simp only[ez];congr 1;omega
theorem a2y(k:ByteArray):∀(es:List MapEntry)(ks:List ByteArray)(i:Nat),es.map (·.key)=ks.map Value.string→
 (Instr.findNow .string (.string k) (es.map a0q) i).map (·.map (·.1))=some ((ks.findIdx? fun x=>decide (x=k)).map (i+·))
 | [],[],i,_=>rfl
 | [],_::_,_,h=>by simp at h
 | _::_,[],_,h=>by simp at h
 | e::es,s::ks,i,h=>by
   simp only[eN,fG]at h
   have hs:Instr.sameNow .string (.string k) e.key=some (decide (s=k)):=by
    rw[h.1]
    show some (k==s)=_
    rw[a4s]
   simp only[eN,Instr.findNow,a0q,hs,fW]
   by_cases hd:s=k
   ·simp[hd]
   ·simp only[hd,decide_false,eV,if_false]
    have:=a2y k es ks (i+1) h.2
    rw[a5V]at this
    exact this
theorem b4J{κ:Type}[DecidableEq κ]{enc:κ→Value}{kt:TypeId}(heq:∀a b,jO P (Op.equal kt (enc a) (enc b))=some (decide (b=a)))(k:κ):∀(es:List MapEntry)(ks:List κ)(i:Nat),es.map (·.key)=ks.map enc→
 (jO P (Instr.findAsking kt (enc k) (es.map a0q) i)).map (·.map (·.1))=some ((ks.findIdx? fun x=>decide (x=k)).map (i+·))
 | [],[],i,_=>rfl
 | [],_::_,_,h=>by simp at h
 | _::_,[],_,h=>by simp at h
 | e::es,s::ks,i,h=>by
   simp only[eN,fG]at h
   simp only[eN,Instr.findAsking,a0q,jK,fW]
   rw[h.1,heq,dC]
   by_cases hd:s=k
   ·simp[hd,lS]
   ·simp only[hd,decide_false,eV,if_false]
    have:=b4J heq k es ks (i+1) h.2
    rw[a5V]at this
    exact this
theorem MapK.str{t kt et:TypeId}{z:Value}(hm:a0Z P t=some (kt,et))(hu:P.underlying kt=some .string)(hz:kB P et=some z)(hf:kE z=true):MapK P t Value.string z where
 ex:=by
  refine⟨kt,et,hm,hz,hf,?_,?_,?_⟩
  ·intro b k
   have:jO P (Instr.checkKey b 10000 kt (.string k))=some ():=by
    show jO P (Instr.checkKey b (9999+1) kt (.string k))=some ()
    unfold Instr.checkKey
    rw[jK,kW hu,dC]
    rfl
   simp only[a0N,this]
   rfl
  ·intro k es ks h
   have h1:=a2y k es ks 0 h
   unfold uC Instr.findKey
   rw[jK,kW hu,dC]
   cases hn:Instr.findNow .string (.string k) (es.map a0q) 0 with
   | none=>rw[hn]at h1;cases h1
   | some r=>
     rw[hn]at h1
     simp only[lS]
     simpa using h1
  ·intro k
   show(k==k)=true
   rw[a4s]
   simp
theorem MapK.struct{κ:Type}[DecidableEq κ]{enc:κ→Value}{t kt et:TypeId}{z:Value}{fs:Array Field}(hm:a0Z P t=some (kt,et))(hu:P.underlying kt=some (.struct fs))(hz:kB P et=some z)(hf:kE z=true)
 (hk:∀b k,a0N P b kt (enc k)=true) (heq:∀a b,jO P (Op.equal kt (enc a) (enc b))=some (decide (b=a))) (hsb:∀k,Instr.sameBits 10000 (enc k) (enc k)=true):MapK P t enc z where
 ex:=by
  refine⟨kt,et,hm,hz,hf,hk,?_,hsb⟩
  intro k es ks h
  have h1:=b4J heq k es ks 0 h
  unfold uC Instr.findKey
  rw[jK,kW hu,dC]
  have key:∀(l:List MapEntry),Instr.findNow (.struct fs) (enc k) l 0=none∨l=[]:=by
   intro l
   cases l with
   | nil=>exact .inr rfl
   | cons e l=>exact .inl rfl
  rcases key (es.map a0q)with hn|hn
  ·rw[hn]
   simpa using h1
  ·rw[hn]
   have:es=[]:=by simpa using hn
   subst this
   have:ks=[]:=by cases ks with|nil=>rfl|cons a ks=>simp at h
   subst this
   rfl
end
end Go.Ds
namespace Go.Ds
noncomputable section
variable {P:Program} {H:Heap}
def a4q(o:Option (Nat×TypeId))(P:Program)(H:Heap)(t:TypeId)(z:Value)(K:Value→Heap→Prop)(_k:Keep K:=⟨⟩):Prop:=match o with
 | none=>xH (kE z) (a7R P H t z K)
 | some _=>xH (kE z) (b3k P H t z K)
theorem a7d{o o':Option (Nat×TypeId)}{t:TypeId}{z:Value}{K:Value→Heap→Prop}(h:o=o'):a4q o P H t z K=a4q o' P H t z K:=by rw[h]
attribute [congr] a7d
theorem b7P{t:TypeId}(z:Value)(K:Value→Heap→Prop):xT P H t (some z) K=a4q (kR P t) P H t z K:=by
 cases h:kR P t with
 | none=>exact a7Z z K h
 | some n=>exact b3r z K h
theorem a8y{t:TypeId}(z:Value)(K:Value→Heap→Prop):a4q none P H t z K=xH (kE z) (a7R P H t z K):=rfl
theorem b0s{t:TypeId}(n:Nat×TypeId)(z:Value)(K:Value→Heap→Prop):a4q (some n) P H t z K=xH (kE z) (b3k P H t z K):=rfl
theorem b0n{t:TypeId}{k:IntKind}(h:a2R P t=some k):mL P t=false:=by
 simp[mL,a2o h]
def a5E(ks kt:Option IntKind)(P:Program)(s t:TypeId)(H:Heap)(k:IntKind)(a:Int)(K:Value→Heap→Prop)(_k:Keep K:=⟨⟩):Prop:=match ks,kt with
 | some k0,some k'=>if k0=k then K (.int k' (k'.wrap a)) H else wN P s t H (.int k a) K
 | _,_=>wN P s t H (.int k a) K
theorem b0a{ks ks' kt kt':Option IntKind}{s t:TypeId}{k:IntKind}{a:Int}{K:Value→Heap→Prop}(h:ks=ks')(h2:kt=kt'):a5E ks kt P s t H k a K=a5E ks' kt' P s t H k a K:=by rw[h,h2]
attribute [congr] b0a
theorem c2J{s t:TypeId}(k:IntKind)(a:Int)(K:Value→Heap→Prop):wN P s t H (.int k a) K=a5E (a2R P s) (a2R P t) P s t H k a K:=by
 unfold a5E
 split
 ·rename_i k0 k' hs ht
  split
  ·rename_i hk
   subst hk
   rw[b5q k0 a K (b0n ht),b7l a hs ht]
   rfl
  ·rfl
 ·rfl
theorem b6K{s t:TypeId}(k k':IntKind)(a:Int)(K:Value→Heap→Prop):a5E (some k) (some k') P s t H k a K=oR (.int k' (k'.wrap a)) fun v=>K v H:=by simp[a5E,oR]
def c6i(b:Bool)(P:Program)(H:Heap)(t:TypeId)(v:Value):Option Value:=match b with
 | true=>(match v with|.string s=>some (.int .i64 s.size)|_=>a2j P H t v)
 | false=>a2j P H t v
theorem c6S(t:TypeId)(v:Value):b0V none P H t v=c6i (qH P t) P H t v:=by
 unfold c6i
 split
 ·rename_i h
  split
  ·exact b8z _ h
  ·rfl
 ·rfl
theorem b8V(t:TypeId)(s:ByteArray):c6i true P H t (.string s)=some (.int .i64 s.size):=rfl
def a3u(b:Bool)(P:Program)(t:TypeId)(x i:Value):Option Value:=match b,x,i with
 | true,.string s,.int k i=>if 0≤i∧i<s.size then some (.int .u8 (pX s i.toNat))else rB P t (.string s) (.int k i)
 | _,x,i=>rB P t x i
theorem b0i(t:TypeId)(x i:Value):rB P t x i=a3u (qH P t) P t x i:=by
 unfold a3u
 split
 ·rename_i h
  split
  ·rename_i h2;exact b1E _ _ _ h h2.1 h2.2
  ·rfl
 ·rfl
theorem b2n(t:TypeId)(s:ByteArray)(k:IntKind)(i:Int)(h0:0≤i)(h1:i<s.size):a3u true P t (.string s) (.int k i)=some (.int .u8 (pX s i.toNat)):=by
 simp[a3u,h0,h1]
theorem OC:(∀k n,oneCell (.int k n)=true)∧(∀b,oneCell (.bool b)=true)∧(∀s,oneCell (.string s)=true)∧(∀a,oneCell (.pointer a)=true)∧(∀a n c,oneCell (.slice a n c)=true)∧(∀r,oneCell (.map r)=true)∧(∀f a b,oneCell (.func f a b)=true)∧oneCell .nilFunc=true:=
 ⟨fun _ _=>rfl,fun _=>rfl,fun _=>rfl,fun _=>rfl,fun _ _ _=>rfl,fun _=>rfl,fun _ _ _=>rfl,rfl⟩
theorem c8Q(o:Option Bool):(o.map Value.bool).getD (.bool false)=.bool (o.getD false):=by cases o<;>rfl
theorem d0t(k:IntKind)(o:Option Int):(o.map (Value.int k)).getD (.int k 0)=.int k (o.getD 0):=by cases o<;>rfl
theorem c4K(v:Value)(b:Bool):pairV false v b=v:=rfl
theorem c2o(v:Value)(b:Bool):pairV true v b=.tuple #[v,.bool b]:=rfl
theorem c0V(t:Tmp):mQ (.tmp t)=false:=rfl
theorem b2d(v:Value):mQ (.const v)=true:=rfl
theorem b9z(s:ByteArray):flat (.string s)=true:=rfl
theorem b7D(s:ByteArray):kE (.string s)=true:=rfl
theorem b2K(s:ByteArray):jZ (.string s)=true:=rfl
theorem a9G(s:ByteArray):kF (.string s)=true:=rfl
theorem b9g(k:IntKind)(n:Int):nE (.int k n)=true:=rfl
theorem b5g(b:Bool):nE (.bool b)=true:=rfl
theorem c1Q(s:ByteArray):nE (.string s)=true:=rfl
theorem lI{c b:Bool}{p q:Prop}(h1:c=true→vB (.bool true) b p q)(h2:c=false→vB (.bool false) b p q):vB (.bool c) b p q:=by
 cases c
 ·exact h2 rfl
 ·exact h1 rfl
theorem St.pick{H0:Base}{os os':List Ob}(hS:St P H0 H os)(idx:List Nat)(hn:idx.Nodup)(h:idx.map (os[·]?)=os'.map some):St P H0 H os':=by
 have hmem:∀o∈os',o∈os:=by
  intro o ho
  have:some o∈idx.map (os[·]?):=by rw[h];exact gP ho
  obtain⟨i,_,hi⟩:=dP.1 this
  exact dR hi
 refine⟨hS.len,hS.old,fun o ho=>hS.own o (hmem o ho),fun o ho=>hS.new o (hmem o ho),?_⟩
 have hpw:=eQ.1 hS.sep
 rw[eQ]
 intro i j hi hj hij
 have hl:idx.length=os'.length:=by simpa using congrArg List.length h
 have key:∀i(hi:i<os'.length),∃hk:idx[i]'(by omega)<os.length,os[idx[i]'(by omega)]=os'[i]:=by
  intro i hi
  have h1:(idx.map (os[·]?))[i]? =(os'.map some)[i]?:=by rw[h]
  rw[ft,ft,dH (by omega),dH hi]at h1
  simp only[ez,ee]at h1
  exact dQ.1 h1
 obtain⟨h1,e1⟩:=key i hi
 obtain⟨h2,e2⟩:=key j hj
 have hne:idx[i]'(by omega)≠idx[j]'(by omega):=by
  have:=eQ.1 hn i j (by omega) (by omega) hij
  exact this
 rcases gU hne with hh|hh
 ·have:=hpw _ _ h1 h2 hh
  rw[e1,e2]at this
  exact this
 ·have:=hpw _ _ h2 h1 hh
  rw[e1,e2]at this
  intro B hb hb'
  exact this B hb' hb
theorem St.frame{H1:Heap}{H0:Base}{ls rest ls':List Ob}(hS:St P H0 H (ls++rest))(h1:St P ⟨H,tE ls⟩ H1 ls'):St P H0 H1 (ls'++rest):=by
 have hls:St P H0 H ls:=hS.sub (List.sublist_append_left ..)
 have h2:=hls.bG h1
 have hsep:=fp.1 hS.sep
 have hkeep:∀o∈rest,∀B,kX o.v=some B→jS H1 B=jS H B:=by
  intro o ho B hB
  have hlt:=(hS.own o (gD _ ho)).lt hB
  exact h1.old B hlt fun⟨x,hx,hxb⟩=>hsep.2.2 x hx o ho B hxb hB
 refine⟨h2.len,h2.old,?_,?_,?_⟩
 ·intro o ho
  rcases eo.1 ho with ho|ho
  ·exact h2.own o ho
  ·exact(hS.own o (gD _ ho)).ag (hkeep o ho)
 ·intro o ho B hB
  rcases eo.1 ho with ho|ho
  ·exact h2.new o ho B hB
  ·exact hS.new o (gD _ ho) B hB
 ·rw[fp]
  refine⟨h2.sep,hsep.2.1,?_⟩
  intro x hx y hy B hb hb'
  rcases h1.new x hx B hb with hh|⟨z,hz,hzb⟩
  ·have:=(hS.own y (gD _ hy)).lt hb'
   have hh:H.length≤B:=hh
   omega
  ·exact hsep.2.2 z hz y hy B hzb hb'
theorem c2H(t:TypeId)(k:IntKind)(n:Int):unV P .neg t (.int k n)=some (.int k (k.wrap (0-n))):=rfl
theorem b6C(ops:Array Oper)(d:Option Tmp)(op:Op)(ty:TypeId)(pos:String)(af:Array Edge)(j:Nat)(b:Bool)(l:List Value)(H':Heap)(v:Value):
 rdW P ops (some ⟨d,op,ty,pos,af,some (j,b)⟩) (some (l,H',v)) H=xC (a0x ops j) l b (nM P ⟨d,op,ty,pos,af,some (j,b)⟩ l H fun v' _=>v'=v) True:=by
 rw[←vH ops l d op ty pos af]
 unfold rdW
 split
 ·rename_i h1 h2
  cases h1;cases h2
  split
  ·rename_i h;simp[h]
  ·rename_i h;simp[h]
 ·rename_i h
  exact(h _ _ _ _ rfl rfl).elim
theorem b6m(t t2:TypeId)(cx cy:Bool)(k:IntKind)(a b:Int)(K:Value→Prop):lV P .and t t2 cx cy (.int k a) (.int k b) K=kP (lJ P .and t t2 cx cy (.int k a) (.int k b)) K:=by
 have h:(if k=k then oB .and k a b else none)=none:=by split<;>rfl
 unfold lV;dsimp only
 rw[h]
theorem c1G(t t2:TypeId)(cx cy:Bool)(k:IntKind)(a b:Int)(K:Value→Prop):lV P .or t t2 cx cy (.int k a) (.int k b) K=kP (lJ P .or t t2 cx cy (.int k a) (.int k b)) K:=by
 have h:(if k=k then oB .or k a b else none)=none:=by split<;>rfl
 unfold lV;dsimp only
 rw[h]
theorem b7e(t t2:TypeId)(cx cy:Bool)(k:IntKind)(a b:Int)(K:Value→Prop):lV P .xor t t2 cx cy (.int k a) (.int k b) K=kP (lJ P .xor t t2 cx cy (.int k a) (.int k b)) K:=by
 have h:(if k=k then oB .xor k a b else none)=none:=by split<;>rfl
 unfold lV;dsimp only
 rw[h]
theorem a7g(t t2:TypeId)(cx cy:Bool)(k:IntKind)(a b:Int)(K:Value→Prop):lV P .andNot t t2 cx cy (.int k a) (.int k b) K=kP (lJ P .andNot t t2 cx cy (.int k a) (.int k b)) K:=by
 have h:(if k=k then oB .andNot k a b else none)=none:=by split<;>rfl
 unfold lV;dsimp only
 rw[h]
theorem b7m(t t2:TypeId)(cx cy:Bool)(k k':IntKind)(a b:Int)(K:Value→Prop):lV P .shl t t2 cx cy (.int k a) (.int k' b) K=kP (lJ P .shl t t2 cx cy (.int k a) (.int k' b)) K:=by
 have h:(if k=k' then oB .shl k a b else none)=none:=by split<;>rfl
 unfold lV;dsimp only
 rw[h]
theorem b5l(t t2:TypeId)(cx cy:Bool)(k k':IntKind)(a b:Int)(K:Value→Prop):lV P .shr t t2 cx cy (.int k a) (.int k' b) K=kP (lJ P .shr t t2 cx cy (.int k a) (.int k' b)) K:=by
 have h:(if k=k' then oB .shr k a b else none)=none:=by split<;>rfl
 unfold lV;dsimp only
 rw[h]
theorem b6o(op:BinOp)(t t2:TypeId)(cx cy:Bool)(a b:ByteArray)(K:Value→Prop):lV P op t t2 cx cy (.string a) (.string b) K=kP (lJ P op t t2 cx cy (.string a) (.string b)) K:=rfl
theorem b6A(op:BinOp)(t t2:TypeId)(cx cy:Bool)(a b:Array Value)(K:Value→Prop):lV P op t t2 cx cy (.agg a) (.agg b) K=kP (lJ P op t t2 cx cy (.agg a) (.agg b)) K:=rfl
theorem b6v(op:BinOp)(t t2:TypeId)(cx cy:Bool)(a b:Bool)(K:Value→Prop):lV P op t t2 cx cy (.bool a) (.bool b) K=kP (lJ P op t t2 cx cy (.bool a) (.bool b)) K:=rfl
theorem b9e(n:Int)(h1: -9223372036854775808≤n)(h2:n<9223372036854775808):IntKind.wrap .i64 n=n:=by
 show(if(true&&decide (n%18446744073709551616≥9223372036854775808))=true then n%18446744073709551616-18446744073709551616 else n%18446744073709551616)=n
 simp only[gm,decide_eq_true_eq]
 omega
theorem c3T(n:Int)(h1: -128≤n)(h2:n<128):IntKind.wrap .i8 n=n:=by
 show(if(true&&decide (n%256≥128))=true then n%256-256 else n%256)=n
 simp only[gm,decide_eq_true_eq]
 omega
theorem qC(n:Int)(h1:0≤n)(h2:n<18446744073709551616):IntKind.wrap .u64 n=n:=by
 show(if(false&&decide (n%18446744073709551616≥9223372036854775808))=true then n%18446744073709551616-18446744073709551616 else n%18446744073709551616)=n
 simp only[fX]
 rw[if_neg (by simp)]
 omega
theorem c1b(n:Int)(h1:0≤n)(h2:n<4294967296):IntKind.wrap .u32 n=n:=by
 show(if(false&&decide (n%4294967296≥2147483648))=true then n%4294967296-4294967296 else n%4294967296)=n
 simp only[fX]
 rw[if_neg (by simp)]
 omega
theorem c1D(n:Int)(h1:0≤n)(h2:n<65536):IntKind.wrap .u16 n=n:=by
 show(if(false&&decide (n%65536≥32768))=true then n%65536-65536 else n%65536)=n
 simp only[fX]
 rw[if_neg (by simp)]
 omega
theorem c5b(n:Int)(h1:0≤n)(h2:n<256):IntKind.wrap .u8 n=n:=by
 show(if(false&&decide (n%256≥128))=true then n%256-256 else n%256)=n
 simp only[fX]
 rw[if_neg (by simp)]
 omega
end
end Go.Ds
namespace Go.Ds
noncomputable section
variable {P:Program}
def a1B(P:Program)(t:TypeId):List Field:=match P.underlying t with|some (.struct fs)=>fs.toList|_=>[]
def eqC:Value→Value→Bool
 | .int _ a,.int _ b=>a==b
 | .bool a,.bool b=>a==b
 | .string a,.string b=>decide (a=b)
 | _,_=>false
def okC(P:Program)(t:TypeId)(x y:Value):Bool:=match P.underlying t with
 | some (.int _)=>(match x,y with|.int k _,.int k' _=>decide (k=k')|_,_=>false)
 | some .bool=>(match x,y with|.bool _,.bool _=>true|_,_=>false)
 | some .string=>(match x,y with|.string _,.string _=>true|_,_=>false)
 | _=>false
theorem eq1{t:TypeId}{x y:Value}(d:Nat)(h:okC P t x y=true):jO P (Op.equalIn (d+1) t x y)=some (eqC x y):=by
 unfold okC at h
 split at h
 ·rename_i k0 hu
  split at h
  ·rename_i k a k' b
   have hk:k=k':=by simpa using h
   subst hk
   rw[Op.equalIn,jK,kW hu,dC]
   simp only[if_true]
   rfl
  ·cases h
 ·rename_i hu
  split at h
  ·rw[Op.equalIn,jK,kW hu,dC];rfl
  ·cases h
 ·rename_i hu
  split at h
  ·rename_i a b
   rw[Op.equalIn,jK,kW hu,dC]
   show some (a==b)=some (decide (a=b))
   rw[a4s]
   congr 1
   simp[eq_comm]
  ·cases h
 ·cases h
theorem c5s{t:TypeId}{x y v:Value}{cs:Array Value}{off:Nat}(h:okC P t x y=true)(hc:cs[off]? =some v):jO P (part t cs off)=some v:=by
 have ha:jO P (isAgg t)=some false:=by
  unfold isAgg
  unfold okC at h
  split at h
  ·rename_i hu;rw[jK,kW hu,dC];rfl
  ·rename_i hu;rw[jK,kW hu,dC];rfl
  ·rename_i hu;rw[jK,kW hu,dC];rfl
  ·cases h
 unfold part
 rw[jK,ha,dC]
 simp only[eV,if_false,hc]
 rfl
theorem a3R{t:TypeId}{xs ys:List Value}(d:Nat)(hu:P.underlying t=some (.struct (a1B P t).toArray))(hst:P.stoodInHeld t=false)
 (hf:((a1B P t).map fun f=>(f.name != "_",f.offset))=(List.range xs.length).map fun j=>(true,j)) (hy:ys.length=xs.length)
 (hok:((a1B P t).all fun f=>okC P f.type (xs.getD f.offset undef) (ys.getD f.offset undef))=true):
 jO P (Op.equalIn (d+2) t (.agg xs.toArray) (.agg ys.toArray))=some ((List.range xs.length).all fun j=>eqC (xs.getD j undef) (ys.getD j undef)):=by
 rw[dT]at hok
 have hmem:∀f∈a1B P t,(f.name != "_")=true∧f.offset<xs.length:=fun f hf'=>by
  have:(f.name != "_",f.offset)∈(List.range xs.length).map fun j=>(true,j):=by rw[←hf];exact gP hf'
  obtain⟨j,hj,he⟩:=dP.1 this
  simp only[iE]at he
  exact⟨he.1.symm,by rw[←he.2];exact dS.1 hj⟩
 rw[b8h hu hst (fun f=>eqC (xs.getD f.offset undef) (ys.getD f.offset undef)) ?_]
 ·congr 1
  have h1:(a1B P t).all (fun f=>eqC (xs.getD f.offset undef) (ys.getD f.offset undef))=((a1B P t).map fun f=>(f.name != "_",f.offset)).all fun p=>eqC (xs.getD p.2 undef) (ys.getD p.2 undef):=by
   rw[List.all_map];rfl
  rw[h1,hf,List.all_map]
  rfl
 ·intro f hf'
  obtain⟨h1,h2⟩:=hmem f hf'
  refine⟨by simpa using h1,?_⟩
  have hx:xs.toArray[f.offset]? =some (xs.getD f.offset undef):=by
   rw[gi,dE,dH h2];rfl
  have hy':ys.toArray[f.offset]? =some (ys.getD f.offset undef):=by
   rw[gi,dE,dH (by omega)];rfl
  rw[jK,c5s (hok f hf') hx,dC,jK,c5s (hok f hf') hy',dC]
  exact eq1 d (hok f hf')
theorem xI{t t2:TypeId}{cx cy:Bool}{xs ys:List Value}(hu:P.underlying t=some (.struct (a1B P t).toArray))(hst:P.stoodInHeld t=false)(hg:P.eqGuardType P.depth t=false)
 (hf:((a1B P t).map fun f=>(f.name != "_",f.offset))=(List.range xs.length).map fun j=>(true,j)) (hy:ys.length=xs.length)
 (hok:((a1B P t).all fun f=>okC P f.type (xs.getD f.offset undef) (ys.getD f.offset undef))=true) (hx:xs.all jZ=true) (hys:ys.all jZ=true):
 lJ P .eql t t2 cx cy (.agg xs.toArray) (.agg ys.toArray)=some (.bool ((List.range xs.length).all fun j=>eqC (xs.getD j undef) (ys.getD j undef)))∧
 lJ P .neq t t2 cx cy (.agg xs.toArray) (.agg ys.toArray)=some (.bool (!((List.range xs.length).all fun j=>eqC (xs.getD j undef) (ys.getD j undef)))):=
 ⟨c1g _ hg hx hys (a3R 9998 hu hst hf hy hok),b8A _ hg hx hys (a3R 9998 hu hst hf hy hok)⟩
theorem c6o{t:TypeId}{k:IntKind}(hu:P.underlying t=some (.struct (a1B P t).toArray))(hst:P.stoodInHeld t=false)
 (hf:((a1B P t).map fun f=>(f.name != "_",f.offset))=(List.range 2).map fun j=>(true,j))
 (hok:∀a b c d:Int,((a1B P t).all fun f=>okC P f.type ([Value.int k a,.int k b].getD f.offset undef) ([Value.int k c,.int k d].getD f.offset undef))=true) (a b:Int×Int):
 jO P (Op.equal t (.agg #[.int k a.1,.int k a.2]) (.agg #[.int k b.1,.int k b.2]))=some (decide (b=a)):=by
 have hmd:Op.maxDepth=9998+2:=by decide
 unfold Op.equal
 rw[hmd,a3R (xs:=[.int k a.1,.int k a.2]) (ys:=[.int k b.1,.int k b.2]) 9998 hu hst hf rfl (hok _ _ _ _)]
 congr 1
 show((a.1==b.1)&&((a.2==b.2)&&true))=_
 rw[fc]
 simp only[gj,dB,beq_iff_eq,decide_eq_true_eq,Prod.ext_iff]
 constructor
 ·rintro⟨h1,h2⟩;exact⟨h1.symm,h2.symm⟩
 ·rintro⟨h1,h2⟩;exact⟨h1.symm,h2.symm⟩
theorem c7J{k:IntKind}(a:Int×Int):Instr.sameBits 10000 (.agg #[.int k a.1,.int k a.2]) (.agg #[.int k a.1,.int k a.2])=true:=by
 show((2:Nat)==2&&([(Value.int k a.1,Value.int k a.1),(Value.int k a.2,Value.int k a.2)]).all fun(x,y)=>Instr.sameBits 9999 x y)=true
 have h:∀n,Instr.sameBits 9999 (.int k n) (.int k n)=true:=fun n=>by
  show(k==k&&n==n)=true
  cases k<;>simp<;>rfl
 simp[h]
section
variable {H:Heap} {α:Type} {n:Nat} {cel:α→List Value} {v:Value} {xs:List α}
theorem Sl.aS(h:Sl n cel H v xs)(o:Oper)(l:List Value)(H':Heap)(k:IntKind)(a:Int)(K:Value→Heap→Prop)(h0:0<xs.length)(h1:0≤a)(h2:a≤xs.length):
 pK P o l H' (some n) v none (some (.int k a)) K=oR (lP v n 0 a.toNat) fun v=>K v H':=by
 obtain⟨m,rfl⟩:∃m,n=m+1:=⟨n-1,by have:=h.pos;omega⟩
 exact h.rd.aS (jJ h.hc xs) o l H' k a K h0 h1 h2
theorem Sl.aF(h:Sl n cel H v xs)(o:Oper)(l:List Value)(H':Heap)(k:IntKind)(a:Int)(K:Value→Heap→Prop)(h0:0<xs.length)(h1:0≤a)(h2:a≤xs.length):
 pK P o l H' (some n) v (some (.int k a)) none K=oR (lP v n a.toNat (xs.length-a).toNat) fun v=>K v H':=by
 obtain⟨m,rfl⟩:∃m,n=m+1:=⟨n-1,by have:=h.pos;omega⟩
 rw[h.rd.aF (jJ h.hc xs) o l H' k a K h0 h1 h2]
 congr 2
 omega
theorem Sl.sub(h:Sl n cel H v xs)(lo k:Nat)(hk:lo+k≤xs.length)(h0:0<xs.length):Sl n cel H (lP v n lo k) ((xs.drop lo).take k):=by
 refine⟨?_,h.hc,h.pos⟩
 have hne:xs.flatMap cel≠[]:=fun e=>by
  have:=jJ h.hc xs
  rw[e,eT]at this
  have hp:=iH h0 h.pos
  omega
 have:=h.rd.sub lo k (by rw[jJ h.hc,←fV];exact eP _ hk) hne
 rw[vX h.hc,a4u h.hc]at this
 exact this
theorem Sl.cT(h:Sl n cel H v xs)(k:Nat)(hk:k≤xs.length)(h0:0<xs.length):Sl n cel H (lP v n 0 k) (xs.take k):=by
 simpa using h.sub 0 k (by omega) h0
theorem Sl.cg(h:Sl n cel H v xs)(lo:Nat)(hk:lo≤xs.length)(h0:0<xs.length):Sl n cel H (lP v n lo (xs.length-lo)) (xs.drop lo):=by
 have:=h.sub lo (xs.length-lo) (by omega) h0
 rwa [iy (by simp)]at this
end
def b1S(P:Program)(ts:Array TypeId)(ty:TypeId)(cx cy:Bool)(x y:Value):Option Value:=(lT P ⟨none,.call {callee:=.builtin .max,args:=#[qK cx 0 x,qK cy 1 y],argTypes:=ts},ty,"",#[],none⟩ [x,y] .nil).map (·.1)
theorem c2h(d:Option Tmp)(ty:TypeId)(pos:String)(af:Array Edge)(g:Option (Nat×Bool))(ts:Array TypeId)(x y:Operand)(l:List Value)(H:Heap)(K:Value→Heap→Prop):
 nM P ⟨d,.call {callee:=.builtin .max,args:=#[x,y],argTypes:=ts},ty,pos,af,g⟩ l H K=kI x l fun x'=>kI y l fun y'=>kP (b1S P ts ty (mQ x) (mQ y) x' y') fun v=>K v H:=by
 have h:opD P ⟨d,.call {callee:=.builtin .max,args:=#[x,y],argTypes:=ts},ty,pos,af,g⟩ l H=(b1S P ts ty (mQ x) (mQ y) (ev l x) (ev l y)).map fun v=>(v,H):=
  oK (P:=P) ⟨d,.call {callee:=.builtin .max,args:=#[x,y],argTypes:=ts},ty,pos,af,g⟩ ⟨none,.call {callee:=.builtin .max,args:=#[qK (mQ x) 0 (ev l x),qK (mQ y) 1 (ev l y)],argTypes:=ts},ty,"",#[],none⟩ l [ev l x,ev l y] H
   (by cases x<;>cases y<;>rfl) (by cases x<;>cases y<;>kernel_rfl)
 have h2:kY ((b1S P ts ty (mQ x) (mQ y) (ev l x) (ev l y)).map fun v=>(v,H)) K=kP (b1S P ts ty (mQ x) (mQ y) (ev l x) (ev l y)) fun v=>K v H:=by cases b1S P ts ty (mQ x) (mQ y) (ev l x) (ev l y)<;>rfl
 simp only[nM,h,kI,Op.operands,Call.operands,h2]
 simp[and_assoc]
theorem b9h(ts:Array TypeId)(ty:TypeId)(cx cy:Bool)(a b:Int):b1S P ts ty cx cy (.int .i64 a) (.int .i64 b)=some (.int .i64 (max a b)):=by
 have h:b1S P ts ty cx cy (.int .i64 a) (.int .i64 b)=some (.int .i64 (if b>a then b else a)):=by cases cx<;>cases cy<;>kernel_rfl
 rw[h]
 congr 2
 split<;>omega
def b3g(P:Program)(ts:Array TypeId)(ty:TypeId)(cx cy:Bool)(x y:Value):Option Value:=(lT P ⟨none,.call {callee:=.builtin .min,args:=#[qK cx 0 x,qK cy 1 y],argTypes:=ts},ty,"",#[],none⟩ [x,y] .nil).map (·.1)
theorem c2G(d:Option Tmp)(ty:TypeId)(pos:String)(af:Array Edge)(g:Option (Nat×Bool))(ts:Array TypeId)(x y:Operand)(l:List Value)(H:Heap)(K:Value→Heap→Prop):
 nM P ⟨d,.call {callee:=.builtin .min,args:=#[x,y],argTypes:=ts},ty,pos,af,g⟩ l H K=kI x l fun x'=>kI y l fun y'=>kP (b3g P ts ty (mQ x) (mQ y) x' y') fun v=>K v H:=by
 have h:opD P ⟨d,.call {callee:=.builtin .min,args:=#[x,y],argTypes:=ts},ty,pos,af,g⟩ l H=(b3g P ts ty (mQ x) (mQ y) (ev l x) (ev l y)).map fun v=>(v,H):=
  oK (P:=P) ⟨d,.call {callee:=.builtin .min,args:=#[x,y],argTypes:=ts},ty,pos,af,g⟩ ⟨none,.call {callee:=.builtin .min,args:=#[qK (mQ x) 0 (ev l x),qK (mQ y) 1 (ev l y)],argTypes:=ts},ty,"",#[],none⟩ l [ev l x,ev l y] H
   (by cases x<;>cases y<;>rfl) (by cases x<;>cases y<;>kernel_rfl)
 have h2:kY ((b3g P ts ty (mQ x) (mQ y) (ev l x) (ev l y)).map fun v=>(v,H)) K=kP (b3g P ts ty (mQ x) (mQ y) (ev l x) (ev l y)) fun v=>K v H:=by cases b3g P ts ty (mQ x) (mQ y) (ev l x) (ev l y)<;>rfl
 simp only[nM,h,kI,Op.operands,Call.operands,h2]
 simp[and_assoc]
theorem b8e(ts:Array TypeId)(ty:TypeId)(cx cy:Bool)(a b:Int):b3g P ts ty cx cy (.int .i64 a) (.int .i64 b)=some (.int .i64 (min a b)):=by
 have h:b3g P ts ty cx cy (.int .i64 a) (.int .i64 b)=some (.int .i64 (if b<a then b else a)):=by cases cx<;>cases cy<;>kernel_rfl
 rw[h]
 congr 2
 split<;>omega
section
variable {H:Heap}
def Var(H:Heap)(A n:Nat)(cs:List Value):Prop:=n=cs.length∧∃ty rw lo ver,jS H A=some (.cells cs ty rw lo ver)∧lo≤cs.length
theorem Var.ag{H':Heap}{A n:Nat}{cs:List Value}(h:Var H A n cs)(hk:∀B,B<H.length→jS H' B=jS H B):Var H' A n cs:=by
 obtain⟨h1,ty,rw,lo,ver,h2,h3⟩:=h
 exact⟨h1,ty,rw,lo,ver,by rw[hk A (kL h2),h2],h3⟩
theorem Var.ld{A n:Nat}{cs:List Value}(h:Var H A n cs)(s:Option Nat)(off:Nat):oU (some false) s H (ptr A off n)=cs[off]?:=by
 obtain⟨rfl,ty,rw,lo,ver,h1,h2⟩:=h
 simp only[oU,kG,h1]
 by_cases h:off<cs.length
 ·rw[if_pos (by simp;omega)]
  simp only[dC]
  rw[eJ (by omega),ed]
  simp
 ·rw[if_neg (by simp;omega),fm (by omega)]
  rfl
theorem Var.ae{A n:Nat}{cs:List Value}(h:Var H A n cs)(m off:Nat):oU (some true) (some m) H (ptr A off n)=if off+m≤cs.length then some (.agg ((cs.drop off).take m).toArray)else none:=by
 obtain⟨rfl,ty,rw,lo,ver,h1,h2⟩:=h
 simp only[oU,kG,h1,dC]
 by_cases h:off+m≤cs.length
 ·rw[if_pos (by simp;omega),if_pos h]
  rfl
 ·rw[if_neg (by simp;omega),if_neg h]
  rfl
theorem St.var{P:Program}{H0:Base}{os:List Ob}(hS:St P H0 H os)(i:Nat){A n:Nat}{cs:List Value}(ho:os[i]? =some ⟨ptr A 0 n,0,cs⟩):Var H A n cs:=by
 obtain⟨h1,ty,lo,ver,h2,h3⟩:=hS.cell i ho
 exact⟨h1,ty,true,lo,ver,h2,h3⟩
theorem St.va{H0:Heap}{os:List Ob}(hS:St P H0 H os){A n:Nat}{cs:List Value}(h:Var H0 A n cs):Var H A n cs:=h.ag hS.ag
end
theorem wD{P:Program}(t t2:TypeId)(cx cy:Bool)(u x:UInt8):lJ P .add t t2 cx cy (.string ⟨#[u]⟩) (.string ⟨#[x]⟩)=some (.string ⟨#[u,x]⟩):=by
 rw[oF _ _ _ _ _ _ (by show 1+1<9223372036854775808;decide)]
 rfl
theorem yJ{P:Program}{H:Heap}{s t:TypeId}{v:Value}{n:Int}(h:RdAt H v 1 [.int .u8 n])(hs:mL P s=true)(ht:qH P t=true)(hbt:mL P t=false)(h0:0≤n)(h1:n<256)(K:Value→Heap→Prop):
 wN P s t H v K=K (.string ⟨#[UInt8.ofNat n.toNat]⟩) H:=by
 obtain⟨m,rfl⟩:∃m:Nat,n=Int.ofNat m:=⟨n.toNat,by simp[gA h0]⟩
 have hm:m<256:=by have:(m:Int)<256:=h1;omega
 rcases h with⟨_,h⟩|⟨A,i,e,row,ty,rw,lo,ver,k,g1,g2,g3,g4,g5,g6,rfl⟩
 ·cases h
 have hk:k=1:=by simp at g6;omega
 subst hk
 have hc:kG H A i e 1=some [.int .u8 (Int.ofNat m)]:=by
  simp only[kG,g1]
  rw[if_pos (by simp at g4 ⊢;omega)]
  exact congrArg some g5
 have hb:oX [.int .u8 (Int.ofNat m)]=some ⟨#[UInt8.ofNat m]⟩:=by simp[oX,a3v,a2U,hm]
 have hd:opD P ⟨none,.convert s t (.const (.slice (some ⟨A,i,some e⟩) 1 1)),t,"",#[],none⟩ [] H=some (.string ⟨#[UInt8.ofNat m]⟩,H):=by
  have hf:flat (.slice (some ⟨A,i,some e⟩) 1 1)=false:=rfl
  simp only[opD,ev,hf,hs,ht,hc,hb,fX,eV,if_false,Bool.and_self,if_true,dC,ez]
 unfold wN
 rw[hd]
 apply propext
 constructor
 ·rintro⟨v,H1,h2,h3⟩
  injection (dA h2)with e1 e2
  subst e1 e2
  exact h3
 ·intro h3
  exact⟨_,_,rfl,h3⟩
theorem a6E{P:Program}{t:TypeId}{n:Nat}{elem:TypeId}{size:Nat}(ha:P.underlying t=some (.array n elem))(hs:jD P elem=some size)(A i e:Nat)(k:IntKind)(j:Int)(h0:0≤j)(h1:j<n):
 xB (jV P t) P t (ptr A i e) (.int k j)=some (ptr A (i+j.toNat*size) e):=by
 have hn:jV P t=none:=by simp[jV,jI,ha]
 rw[hn]
 simp only[xB,a3l,ha,ptr,hs,dC]
 rw[if_pos (by simp[h0,h1])]
end
end Go.Ds
namespace Go.Ds
section
variable {P:Program}
def c6Y(inv:List Nat)(e:Edge):Edge:={e with on:=inv.getD e.on 0}
def a0X(inv:List Nat)(o:Oper):Oper:={o with after:=o.after.map (c6Y inv),guard:=o.guard.map fun g=>(inv.getD g.1 0,g.2)}
def lE(π inv:List Nat)(ops:Array Oper):Array Oper:=(π.map fun i=>a0X inv (ops.getD i default)).toArray
def b2P(π inv:List Nat)(ops:Array Oper):Bool:=
 decide (π.length=ops.size)&&decide (inv.length=ops.size)&&(List.range ops.size).all (fun i=>decide (π.getD i 0<ops.size)&&decide (inv.getD i 0<ops.size)&&decide (inv.getD (π.getD i 0) 0=i)&&decide (π.getD (inv.getD i 0) 0=i))&&
 ops.toList.all fun o=>o.after.toList.all (fun e=>decide (e.on<ops.size))&&(match o.guard with|some g=>decide (g.1<ops.size)|none=>true)
structure Perm(π inv:List Nat)(ops:Array Oper):Prop where
 len:π.length=ops.size
 pi:∀i,i<ops.size→π.getD i 0<ops.size
 iv:∀i,i<ops.size→inv.getD i 0<ops.size
 ip:∀i,i<ops.size→inv.getD (π.getD i 0) 0=i
 pv:∀i,i<ops.size→π.getD (inv.getD i 0) 0=i
 edge:∀(i:Nat)(o:Oper),ops[i]? =some o→∀e∈o.after,e.on<ops.size
 guard:∀(i:Nat)(o:Oper)(g:Nat×Bool),ops[i]? =some o→o.guard=some g→g.1<ops.size
theorem c3F{π inv:List Nat}{ops:Array Oper}(h:b2P π inv ops=true):Perm π inv ops:=by
 unfold b2P at h
 simp only[dB,decide_eq_true_eq,dT,dS]at h
 obtain⟨⟨⟨h1,h2⟩,h3⟩,h4⟩:=h
 refine⟨h1,fun i hi=>(h3 i hi).1.1.1,fun i hi=>(h3 i hi).1.1.2,fun i hi=>(h3 i hi).1.2,fun i hi=>(h3 i hi).2,fun i o ho e he=> ?_,fun i o g ho hg=> ?_⟩
 ·exact(h4 o (dR (i:=i) (by simpa using ho))).1 e (by simpa using he)
 ·have:=(h4 o (dR (i:=i) (by simpa using ho))).2
  rw[hg]at this
  simpa using this
variable {π inv:List Nat} {ops:Array Oper}
theorem a9U(p:Nat):(lE π inv ops)[p]? =(π[p]?).map fun i=>a0X inv (ops.getD i default):=by
 simp[lE]
theorem tB(D:Perm π inv ops){p i:Nat}{o:Oper}(hp:p<ops.size)(hi:π.getD p 0=i)(ho:ops[i]? =some o):(lE π inv ops)[p]? =some (a0X inv o):=by
 rw[a9U]
 have h1:π[p]? =some i:=by
  rw[dE]at hi
  rw[dH (by rw[D.len];exact hp)]at hi ⊢
  simpa using hi
 rw[h1]
 simp only[ez]
 rw[fb,ho]
 rfl
theorem sK(D:Perm π inv ops):(lE π inv ops).size=ops.size:=by simp[lE,D.len]
theorem a7S(D:Perm π inv ops)(tmps:Array Value){j:Nat}(hj:j<ops.size):yielded (lE π inv ops) tmps (inv.getD j 0)=yielded ops tmps j:=by
 have ho:ops[j]? =some ops[j]:=dL.2 ⟨hj,rfl⟩
 unfold yielded
 rw[tB D (D.iv j hj) (D.pv j hj) ho,ho]
 rfl
theorem a8Y(D:Perm π inv ops)(tmps:Array Value){i:Nat}{o:Oper}(ho:ops[i]? =some o):Region.wanted (a0X inv o) (yielded (lE π inv ops) tmps)=Region.wanted o (yielded ops tmps):=by
 unfold Region.wanted
 have e:(a0X inv o).guard=o.guard.map fun g=>(inv.getD g.1 0,g.2):=rfl
 rw[e]
 cases hg:o.guard with
 | none=>rfl
 | some g=>
   simp only[ez]
   rw[a7S D tmps (D.guard i o g ho hg)]
theorem c2Y(ro:Option Nat)(ρ:Operand→Value)(o:Oper):(a0X inv o).semAt ro ρ=o.semAt ro ρ:=by
 obtain⟨dst,op,type,pos,after,guard⟩:=o
 rfl
theorem b6X(w:World)(ρ:Operand→Value)(o:Oper):(a0X inv o).about P w ρ=o.about P w ρ:=by
 obtain⟨dst,op,type,pos,after,guard⟩:=o
 rfl
theorem b8P(F:Fence)(n:Nat)(o:Oper)(a:Act)(next:Act→World→Prop)(Q:Exit→Act→World→Prop)(r:Result Next):(a0X inv o).uponIn F n P a next Q r=o.uponIn F n P a next Q r:=by
 obtain⟨dst,op,type,pos,after,guard⟩:=o
 cases r with
 | ok x w=>cases x<;>rfl
 | halt x w=>cases x<;>rfl
theorem b6h(D:Perm π inv ops)(F:Fence)(n:Nat)(Q:Exit→Act→World→Prop){i:Nat}(hi:i<ops.size)(K:Act→World→Prop)(a:Act)(w:World):
 wpOpIn F n P (lE π inv ops) Q (inv.getD i 0) K a w=wpOpIn F n P ops Q i K a w:=by
 have ho:ops[i]? =some ops[i]:=dL.2 ⟨hi,rfl⟩
 unfold wpOpIn
 rw[tB D (D.iv i hi) (D.pv i hi) ho,ho]
 simp only[a8Y D a.tmps ho,Oper.wpIn,b6X,b8P,c2Y]
 rfl
def c7T(inv:List Nat)(n:Nat)(listed listed':Array Bool):Prop:=listed.size=n∧listed'.size=n∧∀i,i<n→listed.getD i false=listed'.getD (inv.getD i 0) false
theorem a0a(D:Perm π inv ops){listed listed':Array Bool}(hc:c7T inv ops.size listed listed'){i:Nat}(hi:i<ops.size):
 i∈Region.ready .any ops listed↔inv.getD i 0∈Region.ready .any (lE π inv ops) listed':=by
 have ho:ops[i]? =some ops[i]:=dL.2 ⟨hi,rfl⟩
 have ho':=tB D (D.iv i hi) (D.pv i hi) ho
 have hsz:=sK D
 obtain⟨c1,c2,c3⟩:=hc
 constructor
 ·intro h
  obtain⟨o,h1,h2,h3⟩:=rA c1 h
  rw[ho]at h1
  obtain rfl:=dA h1
  refine a1G (by rw[hsz];exact c2) ho' (by rw[←c3 i hi];exact h2) ?_
  intro e he hb
  have he':e∈(ops[i]).after.map (c6Y inv):=he
  obtain⟨e0,he0,rfl⟩:=Array.mem_map.1 he'
  have:=h3 e0 he0 hb
  show listed'.getD (inv.getD e0.on 0) false=true
  rw[←c3 _ (D.edge i _ ho e0 he0)]
  exact this
 ·intro h
  obtain⟨o,h1,h2,h3⟩:=rA (by rw[hsz];exact c2) h
  rw[ho']at h1
  obtain rfl:=dA h1
  refine a1G c1 ho (by rw[c3 i hi];exact h2) ?_
  intro e he hb
  have:=h3 (c6Y inv e) (Array.mem_map.2 ⟨e,he,rfl⟩) hb
  rw[c3 _ (D.edge i _ ho e he)]
  exact this
theorem c0r(D:Perm π inv ops)(F:Fence)(k:Nat){Q:Exit→Act→World→Prop}:∀(fuel:Nat)(listed listed':Array Bool)(a:Act)(w:World),c7T inv ops.size listed listed'→
 wpAnyIn F k P .any (lE π inv ops) Q fuel listed' a w→wpAnyIn F k P .any ops Q fuel listed a w:=by
 have hsz:=sK D
 have nil1:∀{listed listed':Array Bool},c7T inv ops.size listed listed'→(Region.ready .any ops listed=[]↔Region.ready .any (lE π inv ops) listed'=[]):=by
  intro listed listed' hc
  constructor
  ·intro h
   cases hr:Region.ready .any (lE π inv ops) listed' with
   | nil=>rfl
   | cons p r=>
     exfalso
     have hp:p∈Region.ready .any (lE π inv ops) listed':=by rw[hr];exact eW ..
     obtain⟨o,h1,_,_⟩:=rA (by rw[hsz];exact hc.2.1) hp
     have hpn:p<ops.size:=by rw[←hsz];exact(dL.1 h1).1
     have:=(a0a D hc (D.pi p hpn)).2 (by rw[D.ip p hpn];exact hp)
     rw[h]at this
     cases this
  ·intro h
   cases hr:Region.ready .any ops listed with
   | nil=>rfl
   | cons i r=>
     exfalso
     have hi:i∈Region.ready .any ops listed:=by rw[hr];exact eW ..
     obtain⟨o,h1,_,_⟩:=rA hc.1 hi
     have:=(a0a D hc (dL.1 h1).1).1 hi
     rw[h]at this
     cases this
 intro fuel
 induction fuel with
 | zero=>
   intro listed listed' a w hc h
   exact⟨(nil1 hc).2 h.1,h.2⟩
 | succ fuel ih=>
   intro listed listed' a w hc h
   refine⟨fun hn=>h.1 ((nil1 hc).1 hn),fun i hi=> ?_⟩
   obtain⟨o,h1,_,_⟩:=rA hc.1 hi
   have hin:=(dL.1 h1).1
   have h2:=h.2 _ ((a0a D hc hin).1 hi)
   rw[b6h D F k Q hin]at h2
   refine wpOpIn_mono (fun a' w' h3=>ih _ _ a' w' ⟨by simpa using hc.1,by simpa using hc.2.1,fun j hj=> ?_⟩ h3) h2
   have e1:=vG (listed:=listed) (i:=i) (by rw[hc.1];exact hin) j
   have e2:=vG (listed:=listed') (i:=inv.getD i 0) (by rw[hc.2.1];exact D.iv i hin) (inv.getD j 0)
   have e3:(inv.getD j 0=inv.getD i 0)↔j=i:=⟨fun h=>by rw[←D.pv j hj,h,D.pv i hin],fun h=>by rw[h]⟩
   rw[fc,e1,e2,e3,hc.2.2 j hj]
end
section
variable {P:Program} {H:Heap} {π inv:List Nat} {ops:Array Oper}
theorem Sim.cU(kQ:P.follows .mixedOrders=true){id:Nat}(Dp:Perm π inv ops){fl:Fl}(D:Draw P fl (lE π inv ops)){T:Nat→List Value×Heap}{val:Nat→Value}(X:Text P (lE π inv ops) T val)
 (hread:∀i m o,(i,m)∈nY fl (lE π inv ops)→(lE π inv ops)[i]? =some o→Region.wanted o (jX (lE π inv ops) (T i).1)=true→∃H2,opD P o (T i).1 (T m).2=some (val i,H2)):
 Sim P (.region id ops true) (T 0).1 (T 0).2 .normal (T ops.size).1 (T ops.size).2:=by
 intro ro k B ρ w a hr hE hl hM hB
 have hsz:=sK Dp
 have:=a5H D X hread ro k B hr hE hM
 rw[hsz]at this
 exact wpIn_region_any kQ (c0r Dp (fe ro) k ops.size _ _ a _ ⟨by simp,by simp,fun i hi=>by
  have:=Dp.iv i hi
  simp only[fb,Array.getElem?_replicate,hi,this,if_true]⟩ this)
theorem a5g(D:Perm π inv ops)(l:List Value){j:Nat}(hj:j<ops.size):jX (lE π inv ops) l (inv.getD j 0)=jX ops l j:=by
 have ho:ops[j]? =some ops[j]:=dL.2 ⟨hj,rfl⟩
 unfold jX
 rw[tB D (D.iv j hj) (D.pv j hj) ho,ho]
 rfl
theorem a0J(D:Perm π inv ops)(l:List Value){i:Nat}{o:Oper}(ho:ops[i]? =some o):Region.wanted (a0X inv o) (jX (lE π inv ops) l)=Region.wanted o (jX ops l):=by
 unfold Region.wanted
 have e:(a0X inv o).guard=o.guard.map fun g=>(inv.getD g.1 0,g.2):=rfl
 rw[e]
 cases hg:o.guard with
 | none=>rfl
 | some g=>
   simp only[ez]
   rw[a5g D l (D.guard i o g ho hg)]
theorem b4T(o:Oper)(l:List Value)(K:Value→Heap→Prop):nM P (a0X inv o) l H K=nM P o l H K:=by
 obtain⟨dst,op,type,pos,after,guard⟩:=o
 rfl
theorem a6c(D:Perm π inv ops):∀(os:List Oper)(tr:List (List Value×Heap×Value))(l:List Value)(H:Heap)(K:List (List Value×Heap×Value)→List Value→Heap→Prop),(∀o∈os,∃i:Nat,ops[i]? =some o)→
 nZ P (lE π inv ops) (os.map (a0X inv)) tr l H K=nZ P ops os tr l H K
 | [],_,_,_,_,_=>rfl
 | o::os,tr,l,H,K,h=>by
   obtain⟨i,ho⟩:=h o (by simp)
   have ih:=fun tr l H=>a6c D os tr l H K fun o ho=>h o (by simp[ho])
   rw[eN,nZ,nZ,a0J D l ho]
   have e:(a0X inv o).dst=o.dst:=rfl
   simp only[b4T,e,ih]
def c7P(o:Option Oper)(os:List Oper):List Oper:=match o with|some o=>o::os|none=>os
def sel(os:List Oper):List Nat→List Oper
 | []=>[]
 | i::π=>c7P os[i]? (sel os π)
theorem c3r(os:List Oper):sel os []=[]:=rfl
theorem b0A(os:List Oper)(i:Nat)(π:List Nat):sel os (i::π)=c7P os[i]? (sel os π):=rfl
theorem a5p(o:Oper)(os:List Oper):c7P (some o) os=o::os:=rfl
theorem b2m(os:List Oper):∀(π:List Nat),(∀i∈π,i<os.length)→sel os π=π.map fun i=>os.toArray.getD i default
 | [],_=>rfl
 | i::π,h=>by
   have hi:=h i (by simp)
   rw[b0A,b2m os π fun j hj=>h j (by simp[hj]),dH hi,a5p,eN]
   congr 1
   simp[fb,hi]
def a1W(P:Program)(os:List Oper)(tr:List (List Value×Heap×Value))(H1:Heap)(π:List Nat):List (Nat×Nat)→Prop
 | []=>True
 | (p,m)::r=>rdW P os.toArray (os[π.getD p 0]?) tr[p]? (trH tr[m]? H1)∧a1W P os tr H1 π r
theorem b2I(os:List Oper)(tr)(H1:Heap)(π:List Nat):a1W P os tr H1 π []=True:=rfl
theorem a9K(os:List Oper)(tr)(H1:Heap)(π:List Nat)(p m:Nat)(r:List (Nat×Nat)):a1W P os tr H1 π ((p,m)::r)=(rdW P os.toArray (os[π.getD p 0]?) tr[p]? (trH tr[m]? H1)∧a1W P os tr H1 π r):=rfl
theorem a4E{os:List Oper}{tr}{H1:Heap}{π:List Nat}:∀{tab:List (Nat×Nat)},a1W P os tr H1 π tab→∀x∈tab,rdW P os.toArray (os[π.getD x.1 0]?) tr[x.1]? (trH tr[x.2]? H1)
 | [],_,x,hx=>by cases hx
 | (i,m)::r,h,x,hx=>by
   rcases ew.1 hx with rfl|hx
   ·exact h.1
   ·exact a4E h.2 x hx
theorem Wp.cV(kQ:P.follows .mixedOrders=true){id:Nat}{os:List Oper}{l:List Value}{Q:oH}(π inv:List Nat)(fl:Fl)(tab:List (Nat×Nat))(hp:b2P π inv os.toArray=true)
 (htab:a4K P fl (lE π inv os.toArray)=some tab) (hn:xG (lE π inv os.toArray) tab=true)
 (h:nZ P os.toArray (sel os π) [] l H fun tr l1 H1=>Q .normal l1 H1∧a1W P os tr H1 π tab):Wp P (.region id os.toArray true) l H Q:=by
 have Dp:=c3F hp
 obtain⟨D,htb⟩:=a4M htab
 have hsz:=sK Dp
 have hmem:∀i∈π,i<os.length:=fun i hi=>by
  obtain⟨p,hpl,hpe⟩:=eF.1 hi
  have:=Dp.pi p (by rw[←Dp.len];exact hpl)
  rw[dE,dH hpl,eE,hpe]at this
  simpa using this
 have hsel:(sel os π).map (a0X inv)=(lE π inv os.toArray).toList:=by
  rw[b2m os π hmem]
  simp[lE]
 rw[←a6c Dp (sel os π) [] l H _ (fun o ho=>by
  rw[b2m os π hmem,dP]at ho
  obtain⟨i,hi,rfl⟩:=ho
  have:=hmem i hi
  exact⟨i,by simp[fb,this]⟩),hsel]at h
 obtain⟨T,val,l',H',ext,h0,h1,h2,h3,h4,h5,h6⟩:=xD (lE π inv os.toArray).toList 0 rfl [] l H h
 have hlen:(lE π inv os.toArray).toList.length=os.toArray.size:=by rw[gz,hsz]
 rw[hlen]at h1 h2 h3 h4
 have:=Sim.cU kQ (id:=id) Dp D (T:=T) (val:=val) ⟨fun k hk=>by rw[hsz]at hk;simpa using h4 k hk⟩ fun i m o hm ho hw=>by
  rw[←htb]at hm
  have hr:=a4E h6 (i,m) hm
  have hi:i<os.toArray.size:=by rw[←hsz];exact(dL.1 ho).1
  have hpi:=Dp.pi i hi
  have hoo:os.toArray[π.getD i 0]? =some (os.toArray[π.getD i 0]):=dL.2 ⟨hpi,rfl⟩
  have hat:=tB (inv:=inv) Dp hi rfl hoo
  rw[ho]at hat
  have hat:=dA hat
  have hoo':os[π.getD i 0]? =some (os.toArray[π.getD i 0]):=by rw[←hoo];simp
  simp only[fH]at hr
  rw[hoo',h3 i hi]at hr
  unfold rdW at hr
  rw[hat,a0J Dp _ hoo]at hw
  have hr:=hr hw
  have hno:a1q o=true:=by
   unfold xG at hn
   have:=dT.1 hn (i,m) hm
   simpa [ho]using this
  have hTm:trH ext[m]? H'=(T m).2∨os.toArray.size<m:=by
   unfold trH
   by_cases hm2:m<os.toArray.size
   ·left;rw[h3 m hm2]
   ·by_cases hm3:m=os.toArray.size
    ·left
     rw[fm (by omega),hm3,h1]
    ·right;omega
  rcases hTm with hTm|hTm
  ·rw[hTm,←b4T (inv:=inv),←hat]at hr
   obtain⟨v,H2,h7,h8⟩:=b3U hno hr
   exact⟨H2,by rw[h7,h8]⟩
  ·exfalso
   rw[htb]at hm
   have:=a3f hm
   rw[hsz]at this
   omega
 rw[h0,h1]at this
 exact⟨_,_,_,this,h5⟩
end
def RA:=
 And.intro @c4h<|And.intro @b9Z<|And.intro @b4I<|And.intro @c6C<|And.intro @c6G<|And.intro @b8G<|And.intro @c4y<|And.intro @c6t<|And.intro @c3t<|And.intro @c4k<|And.intro @b9a<|And.intro @a8z<|And.intro @a5U<|And.intro @b8c<|And.intro @b7B<|And.intro @b1d<|And.intro @b1p<|And.intro @a8U<|And.intro @c0U<|And.intro @b1Z<|And.intro @b9W<|And.intro @b8T<|And.intro @b6R<|And.intro @b7z<|And.intro @c4a<|And.intro @b6d<|And.intro @a3m<|And.intro @a4W<|And.intro @b3h<|And.intro @b8N<|And.intro @b5i<|And.intro @c3z<|And.intro @a5e<|And.intro @a4Z<|And.intro @b9d<|And.intro @c6d<|And.intro @a9T<|And.intro @a9r<|And.intro @b6t<|And.intro @b9o<|And.intro @a7U<|And.intro @b2N<|And.intro @b3B<|And.intro @b1l<|And.intro @b3x<|And.intro @b0t<|And.intro @a4V<|And.intro @a7K<|And.intro @a3r<|And.intro @b6y<|And.intro @c2h<|And.intro @c2G<|And.intro @b9n<|And.intro @b2A<|And.intro @b7k<|And.intro @b5Z<|And.intro @b3d<|And.intro @b2B<|And.intro @a8b<|And.intro @b0y<|And.intro @b8u<|And.intro @b6M<|And.intro @a5d<|And.intro @b2k<|And.intro @b0O<|And.intro @a5c<|And.intro @a8G<|And.intro @b2h<|And.intro @a9F<| @b9p
def RB:=
 And.intro @c2t<|And.intro @b3l<|And.intro @b1A<|And.intro @b5x<|And.intro @b1y<|And.intro @a8M<|And.intro @a8p<|And.intro @b7P<|And.intro @a8y<|And.intro @b0s<|And.intro @c2J<|And.intro @b6K<|And.intro @b2f<|And.intro @c4Q<|And.intro @c4v<|And.intro @c2m<|And.intro @c4d<|And.intro @b2j<|And.intro @a9M<|And.intro @c4q<|And.intro @c6S<|And.intro @b8V<|And.intro @b0i<|And.intro @b2n<|And.intro @c4E<|And.intro @c4f<|And.intro @b8n<|And.intro @b5B<|And.intro @b6H<|And.intro @b6f<|And.intro @b5V<|And.intro @b5w<|And.intro @b5D<|And.intro @b5E<|And.intro @b6e<|And.intro @b7t<|And.intro @b7h<|And.intro @b6r<|And.intro @b6m<|And.intro @c1G<|And.intro @b7e<|And.intro @a7g<|And.intro @b7m<|And.intro @b5l<|And.intro @b6o<|And.intro @b6A<|And.intro @b6v<|And.intro @b8H<|And.intro @b9N<|And.intro @b8W<|And.intro @c4X<|And.intro @c1L<|And.intro @a8t<|And.intro @b1i<|And.intro @b2S<|And.intro @c3D<|And.intro @c1F<|And.intro @a8q<|And.intro @c1f<|And.intro @c1d<|And.intro @b6J<|And.intro @b2T<|And.intro @b9z<|And.intro @b5r<|And.intro @b3F<|And.intro @b7D<|And.intro @b9q<|And.intro @b3q<|And.intro @b7C<|And.intro @b6B<|And.intro @b1n<|And.intro @b6s<|And.intro @b2V<|And.intro @c3r<|And.intro @b0A<|And.intro @a5p<|And.intro @b2I<|And.intro @a9K<|And.intro @c2U<|And.intro @b8s<|And.intro @b6C<|And.intro @c0H<|And.intro @c0o<|And.intro @b5C<|And.intro @b9x<|And.intro @b5I<|And.intro @a6R<|And.intro @b1B<|And.intro @a8C<|And.intro @b1T<|And.intro @b2K<|And.intro @b7W<|And.intro @b9g<|And.intro @b5g<|And.intro @c1Q<|And.intro @a9h<|And.intro @a7y<|And.intro @b0F<|And.intro @a8u<|And.intro @a9G<|And.intro @c8Q<|And.intro @d0t<|And.intro @c4K<|And.intro @c2o<|And.intro @b9h<|And.intro @b8e<|And.intro @c0V<|And.intro @b2d<|And.intro @c2H<|And.intro @b9e<|And.intro @c3T<|And.intro @qC<|And.intro @c1b<|And.intro @c1D<| @c5b
theorem RT:
 (∀{α:Type}(l:List α),[]++l=l)∧
 (∀{α:Type}(l:List α),l++[]=l)∧
 (∀{α:Type}{a:α}{l m:List α},a::l++m=a::(l++m))∧
 (∀(cs:List Value)(i:Nat)(v:Value)(vs:List Value),kD cs i (v::vs)=kD (cs.set i v) (i+1) vs)∧
 (∀(cs:List Value)(i:Nat),kD cs i []=cs)∧
 (∀{α:Type}{x:α}{xs:List α}{a:α},(x::xs).set 0 a=a::xs)∧
 (∀{α:Type}{x:α}{xs:List α}{i:Nat}{a:α},(x::xs).set (i+1) a=x::xs.set i a)∧
 (∀(n:Nat),0+n=n)∧
 (∀(n:Nat),n*1=n)∧
 (∀(n:Nat),n+0=n):=
 ⟨@List.nil_append, @List.append_nil, @List.cons_append, @sH, @yD, @List.set_cons_zero, @List.set_cons_succ, @Nat.zero_add, @Nat.mul_one, @Nat.add_zero⟩
end Go.Ds
namespace Go.Ds
open Go.Proofs Go.Proofs.Tryz
abbrev I(n:Int):Value:=.int .i64 n
theorem sR(H:Heap):St prog H H []:=.refl ..
theorem kQ:prog.follows .mixedOrders=true:=by kernel_rfl
theorem a3V(place:Nat→Option (Nat×Nat)):∀(ps ps':List (Nat×Value))(cs:Array Value),ps.map (fun x=>(x.1,x.2.cells))=ps'.map (fun x=>(x.1,x.2.cells))→Instr.fill place cs ps=Instr.fill place cs ps'
 | [],[],_,_=>rfl
 | [],_::_,_,h=>by cases h
 | _::_,[],_,h=>by cases h
 | (i,a)::ps,(j,b)::ps',cs,h=>by
   simp only[eN,fG,iE]at h
   obtain⟨⟨rfl,h1⟩,h2⟩:=h
   simp only[Instr.fill,h1]
   split
   ·rfl
   ·split
    ·rfl
    ·exact a3V place ps ps' _ h2
theorem sN(a:Array Value):Value.cells (.agg a)=a:=rfl
theorem sO(k:IntKind)(a:Int):Value.cells (.int k a)=#[.int k a]:=rfl
theorem b2i(a:ByteArray):oneCell (.string a)=true:=rfl
theorem b1t(k:IntKind)(a:Int):oneCell (.int k a)=true:=rfl
theorem a6X(a:Bool):oneCell (.bool a)=true:=rfl
theorem a1x{P:Program}{t:TypeId}{ps ps':List (Nat×Value)}{cs:Array Value}(hz:(kB P t).any kE=true)(hm:ps.map (fun x=>(x.1,x.2.cells))=ps'.map (fun x=>(x.1,x.2.cells)))(ho:(ps.all fun x=>x.2.cells.toList.all oneCell)=true)(hb:P.built t ps'=some cs):kT P t ps=some (.agg cs):=by
 have e:P.built t ps=P.built t ps':=by
  unfold Program.built
  simp only[a3V _ ps ps' _ hm]
 unfold kT
 rw[hz,ho,e,hb]
 rfl
theorem tS3:jD prog 3=some 1:=by kernel_rfl
theorem tS4:jD prog 4=some 1:=by kernel_rfl
theorem mP:jD prog 23=some 2:=by kernel_rfl
theorem b6Y:jD prog 24=some 1:=by kernel_rfl
theorem pV:jD prog 26=some 6:=by kernel_rfl
theorem c1T:jD prog 34=some 3:=by kernel_rfl
theorem c9j:jD prog 35=some 5:=by kernel_rfl
theorem d0F:jD prog 37=some 3:=by kernel_rfl
theorem c7o:jD prog 39=some 10:=by kernel_rfl
theorem c9i:jD prog 42=some 1:=by kernel_rfl
theorem d0D:jD prog 43=some 1:=by kernel_rfl
theorem c2R:jD prog 44=some 1:=by kernel_rfl
theorem zD:jD prog 46=some 4:=by kernel_rfl
theorem c7f:jD prog 47=some 1:=by kernel_rfl
theorem c0s:jD prog 48=some 1:=by kernel_rfl
theorem tT:jD prog 50=some 3:=by kernel_rfl
theorem a0m:jD prog 54=some 2:=by kernel_rfl
theorem pS:jD prog 56=some 10:=by kernel_rfl
theorem a4N:jD prog 63=some 3:=by kernel_rfl
theorem pJ:jD prog 73=some 2:=by kernel_rfl
theorem c6E:jD prog 75=some 1:=by kernel_rfl
theorem rZ:jD prog 102=some 2:=by kernel_rfl
theorem c5t:jD prog 103=some 1:=by kernel_rfl
theorem sB:jD prog 105=some 5:=by kernel_rfl
theorem b3L:jD prog 115=some 4:=by kernel_rfl
theorem uK:jD prog 119=some 2:=by kernel_rfl
theorem wH:jD prog 121=some 6:=by kernel_rfl
theorem zF:jD prog 127=some 1:=by kernel_rfl
theorem sC:jD prog 129=some 4:=by kernel_rfl
theorem zP:jD prog 131=some 5:=by kernel_rfl
theorem c5Z:jD prog 139=some 13:=by kernel_rfl
theorem a2C:jD prog 176=some 2:=by kernel_rfl
theorem a3E:jD prog 179=some 3:=by kernel_rfl
theorem b9f:jD prog 186=some 9:=by kernel_rfl
theorem c0G:jD prog 189=some 4:=by kernel_rfl
theorem b4r:jD prog 191=some 4:=by kernel_rfl
theorem b3X:jD prog 240=some 3:=by kernel_rfl
theorem pE:mL prog 125=true∧qH prog 9=true∧mL prog 9=false:=⟨by kernel_rfl,by kernel_rfl,by kernel_rfl⟩
theorem d1n(A i e:Nat)(k:IntKind)(j:Int)(h0:0≤j)(h1:j<5):xB (jV prog 35) prog 35 (ptr A i e) (.int k j)=some (ptr A (i+j.toNat*1) e):=a6E (n:=5) (elem:=5) (size:=1) (by kernel_rfl) (by kernel_rfl) A i e k j h0 h1
theorem d1h(A i e:Nat)(k:IntKind)(j:Int)(h0:0≤j)(h1:j<3):xB (jV prog 37) prog 37 (ptr A i e) (.int k j)=some (ptr A (i+j.toNat*1) e):=a6E (n:=3) (elem:=36) (size:=1) (by kernel_rfl) (by kernel_rfl) A i e k j h0 h1
theorem d0s(A i e:Nat)(k:IntKind)(j:Int)(h0:0≤j)(h1:j<64):xB (jV prog 294) prog 294 (ptr A i e) (.int k j)=some (ptr A (i+j.toNat*1) e):=a6E (n:=64) (elem:=5) (size:=1) (by kernel_rfl) (by kernel_rfl) A i e k j h0 h1
theorem uE:nX prog 24=some (1,8):=by kernel_rfl
theorem a2h:((jI prog 24).bind (kB prog)).any kE=true:=by kernel_rfl
theorem b0C:nX prog 40=some (3,24):=by kernel_rfl
theorem c2K:((jI prog 40).bind (kB prog)).any kE=true:=by kernel_rfl
theorem c6r:nX prog 42=some (6,80):=by kernel_rfl
theorem c8X:((jI prog 42).bind (kB prog)).any kE=true:=by kernel_rfl
theorem c6D:nX prog 43=some (5,64):=by kernel_rfl
theorem d0m:((jI prog 43).bind (kB prog)).any kE=true:=by kernel_rfl
theorem b2Z:nX prog 44=some (5,48):=by kernel_rfl
theorem c3Q:((jI prog 44).bind (kB prog)).any kE=true:=by kernel_rfl
theorem b8l:nX prog 47=some (1,8):=by kernel_rfl
theorem c8S:((jI prog 47).bind (kB prog)).any kE=true:=by kernel_rfl
theorem b8U:nX prog 52=some (2,16):=by kernel_rfl
theorem c7v:((jI prog 52).bind (kB prog)).any kE=true:=by kernel_rfl
theorem c3H:nX prog 75=some (6,64):=by kernel_rfl
theorem c8P:((jI prog 75).bind (kB prog)).any kE=true:=by kernel_rfl
theorem c9l:nX prog 97=some (2,16):=by kernel_rfl
theorem d2c:((jI prog 97).bind (kB prog)).any kE=true:=by kernel_rfl
theorem c1C:nX prog 103=some (4,56):=by kernel_rfl
theorem c5p:((jI prog 103).bind (kB prog)).any kE=true:=by kernel_rfl
theorem b3W:nX prog 124=some (1,16):=by kernel_rfl
theorem c1m:((jI prog 124).bind (kB prog)).any kE=true:=by kernel_rfl
theorem b3S:nX prog 125=some (1,1):=by kernel_rfl
theorem b3O:((jI prog 125).bind (kB prog)).any kE=true:=by kernel_rfl
theorem c5k:nX prog 126=some (2,16):=by kernel_rfl
theorem d0A:((jI prog 126).bind (kB prog)).any kE=true:=by kernel_rfl
theorem sD:nX prog 127=some (3,40):=by kernel_rfl
theorem zO:((jI prog 127).bind (kB prog)).any kE=true:=by kernel_rfl
theorem wO:nX prog 140=some (2,16):=by kernel_rfl
theorem a9i:((jI prog 140).bind (kB prog)).any kE=true:=by kernel_rfl
theorem b4n:nX prog 154=some (1,24):=by kernel_rfl
theorem c5F:((jI prog 154).bind (kB prog)).any kE=true:=by kernel_rfl
theorem a5v:nX prog 177=some (2,16):=by kernel_rfl
theorem a6a:((jI prog 177).bind (kB prog)).any kE=true:=by kernel_rfl
theorem c5g:nX prog 274=some (2,16):=by kernel_rfl
theorem c5D:((jI prog 274).bind (kB prog)).any kE=true:=by kernel_rfl
theorem d2h:c6V prog 24=some (8,.int .i64 0):=by kernel_rfl
theorem d0a(t2:TypeId)(cx cy:Bool)(a0:Int)(a1:Int)(b0:Int)(b1:Int):lJ prog .eql 23 t2 cx cy (.agg #[.int .i64 a0,.int .i64 a1]) (.agg #[.int .i64 b0,.int .i64 b1])=some (.bool (decide (a0=b0∧a1=b1)))∧lJ prog .neq 23 t2 cx cy (.agg #[.int .i64 a0,.int .i64 a1]) (.agg #[.int .i64 b0,.int .i64 b1])=some (.bool (decide (¬(a0=b0∧a1=b1)))):=by
 have h:=xI (P:=prog) (t:=23) (t2:=t2) (cx:=cx) (cy:=cy) (xs:=[.int .i64 a0,.int .i64 a1]) (ys:=[.int .i64 b0,.int .i64 b1]) (by kernel_rfl) (by kernel_rfl) (by kernel_rfl) (by kernel_rfl) rfl (by kernel_rfl) rfl rfl
 have e:((List.range [Value.int .i64 a0,.int .i64 a1].length).all fun j=>eqC ([Value.int .i64 a0,.int .i64 a1].getD j undef) ([Value.int .i64 b0,.int .i64 b1].getD j undef))=decide (a0=b0∧a1=b1):=by
  show(eqC (Value.int .i64 a0) (.int .i64 b0)&&(eqC (Value.int .i64 a1) (.int .i64 b1)&&true))=_
  rw[fc]
  simp[eqC]
 rw[e]at h
 exact⟨h.1,by rw[h.2];simp⟩
theorem c9g(t2:TypeId)(cx cy:Bool)(a0:Int)(a1:Int)(b0:Int)(b1:Int):lJ prog .eql 23 t2 cx cy (.agg #[.int .i64 a0,.int .i64 a1]) (.agg #[.int .i64 b0,.int .i64 b1])=some (.bool (decide (a0=b0∧a1=b1))):=(d0a t2 cx cy a0 a1 b0 b1).1
theorem c8m(t2:TypeId)(cx cy:Bool)(a0:Int)(a1:Int)(b0:Int)(b1:Int):lJ prog .neq 23 t2 cx cy (.agg #[.int .i64 a0,.int .i64 a1]) (.agg #[.int .i64 b0,.int .i64 b1])=some (.bool (decide (¬(a0=b0∧a1=b1)))):=(d0a t2 cx cy a0 a1 b0 b1).2
theorem c9w(t2:TypeId)(cx cy:Bool)(a0:Int)(a1:Int)(b0:Int)(b1:Int):lJ prog .eql 54 t2 cx cy (.agg #[.int .i64 a0,.int .i64 a1]) (.agg #[.int .i64 b0,.int .i64 b1])=some (.bool (decide (a0=b0∧a1=b1)))∧lJ prog .neq 54 t2 cx cy (.agg #[.int .i64 a0,.int .i64 a1]) (.agg #[.int .i64 b0,.int .i64 b1])=some (.bool (decide (¬(a0=b0∧a1=b1)))):=by
 have h:=xI (P:=prog) (t:=54) (t2:=t2) (cx:=cx) (cy:=cy) (xs:=[.int .i64 a0,.int .i64 a1]) (ys:=[.int .i64 b0,.int .i64 b1]) (by kernel_rfl) (by kernel_rfl) (by kernel_rfl) (by kernel_rfl) rfl (by kernel_rfl) rfl rfl
 have e:((List.range [Value.int .i64 a0,.int .i64 a1].length).all fun j=>eqC ([Value.int .i64 a0,.int .i64 a1].getD j undef) ([Value.int .i64 b0,.int .i64 b1].getD j undef))=decide (a0=b0∧a1=b1):=by
  show(eqC (Value.int .i64 a0) (.int .i64 b0)&&(eqC (Value.int .i64 a1) (.int .i64 b1)&&true))=_
  rw[fc]
  simp[eqC]
 rw[e]at h
 exact⟨h.1,by rw[h.2];simp⟩
theorem c9W(t2:TypeId)(cx cy:Bool)(a0:Int)(a1:Int)(b0:Int)(b1:Int):lJ prog .eql 54 t2 cx cy (.agg #[.int .i64 a0,.int .i64 a1]) (.agg #[.int .i64 b0,.int .i64 b1])=some (.bool (decide (a0=b0∧a1=b1))):=(c9w t2 cx cy a0 a1 b0 b1).1
theorem c9O(t2:TypeId)(cx cy:Bool)(a0:Int)(a1:Int)(b0:Int)(b1:Int):lJ prog .neq 54 t2 cx cy (.agg #[.int .i64 a0,.int .i64 a1]) (.agg #[.int .i64 b0,.int .i64 b1])=some (.bool (decide (¬(a0=b0∧a1=b1)))):=(c9w t2 cx cy a0 a1 b0 b1).2
theorem c8N(t2:TypeId)(cx cy:Bool)(a0:Int)(a1:Int)(a2:Int)(b0:Int)(b1:Int)(b2:Int):lJ prog .eql 63 t2 cx cy (.agg #[.int .i64 a0,.int .i64 a1,.int .i64 a2]) (.agg #[.int .i64 b0,.int .i64 b1,.int .i64 b2])=some (.bool (decide (a0=b0∧a1=b1∧a2=b2)))∧lJ prog .neq 63 t2 cx cy (.agg #[.int .i64 a0,.int .i64 a1,.int .i64 a2]) (.agg #[.int .i64 b0,.int .i64 b1,.int .i64 b2])=some (.bool (decide (¬(a0=b0∧a1=b1∧a2=b2)))):=by
 have h:=xI (P:=prog) (t:=63) (t2:=t2) (cx:=cx) (cy:=cy) (xs:=[.int .i64 a0,.int .i64 a1,.int .i64 a2]) (ys:=[.int .i64 b0,.int .i64 b1,.int .i64 b2]) (by kernel_rfl) (by kernel_rfl) (by kernel_rfl) (by kernel_rfl) rfl (by kernel_rfl) rfl rfl
 have e:((List.range [Value.int .i64 a0,.int .i64 a1,.int .i64 a2].length).all fun j=>eqC ([Value.int .i64 a0,.int .i64 a1,.int .i64 a2].getD j undef) ([Value.int .i64 b0,.int .i64 b1,.int .i64 b2].getD j undef))=decide (a0=b0∧a1=b1∧a2=b2):=by
  show(eqC (Value.int .i64 a0) (.int .i64 b0)&&(eqC (Value.int .i64 a1) (.int .i64 b1)&&(eqC (Value.int .i64 a2) (.int .i64 b2)&&true)))=_
  rw[fc]
  simp[eqC]
 rw[e]at h
 exact⟨h.1,by rw[h.2];simp⟩
theorem d0j(t2:TypeId)(cx cy:Bool)(a0:Int)(a1:Int)(a2:Int)(b0:Int)(b1:Int)(b2:Int):lJ prog .eql 63 t2 cx cy (.agg #[.int .i64 a0,.int .i64 a1,.int .i64 a2]) (.agg #[.int .i64 b0,.int .i64 b1,.int .i64 b2])=some (.bool (decide (a0=b0∧a1=b1∧a2=b2))):=(c8N t2 cx cy a0 a1 a2 b0 b1 b2).1
theorem d0E(t2:TypeId)(cx cy:Bool)(a0:Int)(a1:Int)(a2:Int)(b0:Int)(b1:Int)(b2:Int):lJ prog .neq 63 t2 cx cy (.agg #[.int .i64 a0,.int .i64 a1,.int .i64 a2]) (.agg #[.int .i64 b0,.int .i64 b1,.int .i64 b2])=some (.bool (decide (¬(a0=b0∧a1=b1∧a2=b2)))):=(c8N t2 cx cy a0 a1 a2 b0 b1 b2).2
theorem c9N(t2:TypeId)(cx cy:Bool)(a0:Int)(a1:Int)(b0:Int)(b1:Int):lJ prog .eql 73 t2 cx cy (.agg #[.int .u64 a0,.int .u64 a1]) (.agg #[.int .u64 b0,.int .u64 b1])=some (.bool (decide (a0=b0∧a1=b1)))∧lJ prog .neq 73 t2 cx cy (.agg #[.int .u64 a0,.int .u64 a1]) (.agg #[.int .u64 b0,.int .u64 b1])=some (.bool (decide (¬(a0=b0∧a1=b1)))):=by
 have h:=xI (P:=prog) (t:=73) (t2:=t2) (cx:=cx) (cy:=cy) (xs:=[.int .u64 a0,.int .u64 a1]) (ys:=[.int .u64 b0,.int .u64 b1]) (by kernel_rfl) (by kernel_rfl) (by kernel_rfl) (by kernel_rfl) rfl (by kernel_rfl) rfl rfl
 have e:((List.range [Value.int .u64 a0,.int .u64 a1].length).all fun j=>eqC ([Value.int .u64 a0,.int .u64 a1].getD j undef) ([Value.int .u64 b0,.int .u64 b1].getD j undef))=decide (a0=b0∧a1=b1):=by
  show(eqC (Value.int .u64 a0) (.int .u64 b0)&&(eqC (Value.int .u64 a1) (.int .u64 b1)&&true))=_
  rw[fc]
  simp[eqC]
 rw[e]at h
 exact⟨h.1,by rw[h.2];simp⟩
theorem c8F(t2:TypeId)(cx cy:Bool)(a0:Int)(a1:Int)(b0:Int)(b1:Int):lJ prog .eql 73 t2 cx cy (.agg #[.int .u64 a0,.int .u64 a1]) (.agg #[.int .u64 b0,.int .u64 b1])=some (.bool (decide (a0=b0∧a1=b1))):=(c9N t2 cx cy a0 a1 b0 b1).1
theorem c9v(t2:TypeId)(cx cy:Bool)(a0:Int)(a1:Int)(b0:Int)(b1:Int):lJ prog .neq 73 t2 cx cy (.agg #[.int .u64 a0,.int .u64 a1]) (.agg #[.int .u64 b0,.int .u64 b1])=some (.bool (decide (¬(a0=b0∧a1=b1)))):=(c9N t2 cx cy a0 a1 b0 b1).2
theorem c5T(t2:TypeId)(cx cy:Bool)(a0:Int)(a1:Int)(b0:Int)(b1:Int):lJ prog .eql 176 t2 cx cy (.agg #[.int .i64 a0,.int .i64 a1]) (.agg #[.int .i64 b0,.int .i64 b1])=some (.bool (decide (a0=b0∧a1=b1)))∧lJ prog .neq 176 t2 cx cy (.agg #[.int .i64 a0,.int .i64 a1]) (.agg #[.int .i64 b0,.int .i64 b1])=some (.bool (decide (¬(a0=b0∧a1=b1)))):=by
 have h:=xI (P:=prog) (t:=176) (t2:=t2) (cx:=cx) (cy:=cy) (xs:=[.int .i64 a0,.int .i64 a1]) (ys:=[.int .i64 b0,.int .i64 b1]) (by kernel_rfl) (by kernel_rfl) (by kernel_rfl) (by kernel_rfl) rfl (by kernel_rfl) rfl rfl
 have e:((List.range [Value.int .i64 a0,.int .i64 a1].length).all fun j=>eqC ([Value.int .i64 a0,.int .i64 a1].getD j undef) ([Value.int .i64 b0,.int .i64 b1].getD j undef))=decide (a0=b0∧a1=b1):=by
  show(eqC (Value.int .i64 a0) (.int .i64 b0)&&(eqC (Value.int .i64 a1) (.int .i64 b1)&&true))=_
  rw[fc]
  simp[eqC]
 rw[e]at h
 exact⟨h.1,by rw[h.2];simp⟩
theorem c6X(t2:TypeId)(cx cy:Bool)(a0:Int)(a1:Int)(b0:Int)(b1:Int):lJ prog .eql 176 t2 cx cy (.agg #[.int .i64 a0,.int .i64 a1]) (.agg #[.int .i64 b0,.int .i64 b1])=some (.bool (decide (a0=b0∧a1=b1))):=(c5T t2 cx cy a0 a1 b0 b1).1
theorem c6j(t2:TypeId)(cx cy:Bool)(a0:Int)(a1:Int)(b0:Int)(b1:Int):lJ prog .neq 176 t2 cx cy (.agg #[.int .i64 a0,.int .i64 a1]) (.agg #[.int .i64 b0,.int .i64 b1])=some (.bool (decide (¬(a0=b0∧a1=b1)))):=(c5T t2 cx cy a0 a1 b0 b1).2
theorem d0u:kT prog 23 []=some (.agg #[.int .i64 0,.int .i64 0]):=by kernel_rfl
theorem a0u{a1:Int}{a2:Int}:kT prog 23 [(0,.int .i64 a1),(1,.int .i64 a2)]=some (.agg #[.int .i64 a1,.int .i64 a2]):=by kernel_rfl
theorem c5i:kT prog 26 []=some (.agg #[.int .i64 0,.int .i64 0,.slice none 0 0,.int .i64 0,.int .i64 0,.int .i64 0]):=by kernel_rfl
theorem b0Y{a1:Int}{a2:Int}{a3:Value}{a4:Int}{a5:Int}(h3:a3.cells=#[a3]∧oneCell a3=true∧nE a3=true):kT prog 26 [(0,.agg #[.int .i64 a1,.int .i64 a2]),(1,a3),(2,.agg #[.int .i64 a4,.int .i64 a5])]=some (.agg #[.int .i64 a1,.int .i64 a2,a3,.int .i64 a4,.int .i64 a5,.int .i64 0]):=by cases a3<;>first|(exfalso;simp[oneCell]at h3;done)|kernel_rfl
theorem a8h{a1:Int}{a2:Int}{a3:Int}{a4:Int}:kT prog 26 [(0,.agg #[.int .i64 a1,.int .i64 a2]),(2,.agg #[.int .i64 a3,.int .i64 a4])]=some (.agg #[.int .i64 a1,.int .i64 a2,.slice none 0 0,.int .i64 a3,.int .i64 a4,.int .i64 0]):=by kernel_rfl
theorem c7M{a1:ByteArray}:kT prog 46 [(0,.string a1)]=some (.agg #[.string a1,.slice none 0 0,.slice none 0 0,.slice none 0 0]):=by kernel_rfl
theorem a7x{a1:ByteArray}{a2:Value}{a3:Value}{a4:Value}(h2:a2.cells=#[a2]∧oneCell a2=true∧nE a2=true)(h3:a3.cells=#[a3]∧oneCell a3=true∧nE a3=true)(h4:a4.cells=#[a4]∧oneCell a4=true∧nE a4=true):kT prog 46 [(0,.string a1),(1,a2),(2,a3),(3,a4)]=some (.agg #[.string a1,a2,a3,a4]):=by cases a2<;>cases a3<;>cases a4<;>first|(exfalso;simp[oneCell]at h2;done)|(exfalso;simp[oneCell]at h3;done)|(exfalso;simp[oneCell]at h4;done)|kernel_rfl
theorem a0L:kT prog 50 []=some (.agg #[.slice none 0 0,.int .u64 0,.int .u64 0]):=by kernel_rfl
theorem b9c{a1:Value}{a2:Int}(h1:a1.cells=#[a1]∧oneCell a1=true∧nE a1=true):kT prog 50 [(0,a1),(1,.int .u64 a2)]=some (.agg #[a1,.int .u64 a2,.int .u64 0]):=by cases a1<;>first|(exfalso;simp[oneCell]at h1;done)|kernel_rfl
theorem b9V{a1:Int}{a2:Int}:kT prog 50 [(1,.int .u64 a1),(2,.int .u64 a2)]=some (.agg #[.slice none 0 0,.int .u64 a1,.int .u64 a2]):=by kernel_rfl
theorem c5Q:kT prog 54 []=some (.agg #[.int .i64 0,.int .i64 0]):=by kernel_rfl
theorem b0K{a1:Int}{a2:Int}:kT prog 54 [(0,.int .i64 a1),(1,.int .i64 a2)]=some (.agg #[.int .i64 a1,.int .i64 a2]):=by kernel_rfl
theorem b2s{a1:ByteArray}{a2:Value}{a3:Value}{a4:Value}{a5:Value}{a6:Int}{a7:Int}{a8:Value}(h2:a2.cells=#[a2]∧oneCell a2=true∧nE a2=true)(h3:a3.cells=#[a3]∧oneCell a3=true∧nE a3=true)(h4:a4.cells=#[a4]∧oneCell a4=true∧nE a4=true)(h5:a5.cells=#[a5]∧oneCell a5=true∧nE a5=true)(h8:a8.cells=#[a8]∧oneCell a8=true∧nE a8=true):kT prog 56 [(0,.agg #[.string a1,a2,a3,a4]),(1,.agg #[a5,.int .u64 a6,.int .u64 a7]),(2,a8)]=some (.agg #[.string a1,a2,a3,a4,a5,.int .u64 a6,.int .u64 a7,a8,.int .i64 0,.int .i64 0]):=a1x (ps':=[(0,.agg #[.string a1,a2,a3,a4]),(1,.agg #[a5,.int .u64 a6,.int .u64 a7]),(2,.agg #[a8])]) (by kernel_rfl) (by simp[sN,sO,h2.1,h3.1,h4.1,h5.1,h8.1]) (by simp[sN,sO,b2i,b1t,a6X,h2.1,h2.2.1,h3.1,h3.2.1,h4.1,h4.2.1,h5.1,h5.2.1,h8.1,h8.2.1]) (by kernel_rfl)
theorem a7l{a1:ByteArray}{a2:Value}{a3:Value}{a4:Value}{a5:Value}{a6:Int}{a7:Int}{a8:Value}{a9:Int}{a10:Int}(h2:a2.cells=#[a2]∧oneCell a2=true∧nE a2=true)(h3:a3.cells=#[a3]∧oneCell a3=true∧nE a3=true)(h4:a4.cells=#[a4]∧oneCell a4=true∧nE a4=true)(h5:a5.cells=#[a5]∧oneCell a5=true∧nE a5=true)(h8:a8.cells=#[a8]∧oneCell a8=true∧nE a8=true):kT prog 56 [(0,.agg #[.string a1,a2,a3,a4]),(1,.agg #[a5,.int .u64 a6,.int .u64 a7]),(2,a8),(3,.agg #[.int .i64 a9,.int .i64 a10])]=some (.agg #[.string a1,a2,a3,a4,a5,.int .u64 a6,.int .u64 a7,a8,.int .i64 a9,.int .i64 a10]):=a1x (ps':=[(0,.agg #[.string a1,a2,a3,a4]),(1,.agg #[a5,.int .u64 a6,.int .u64 a7]),(2,.agg #[a8]),(3,.agg #[.int .i64 a9,.int .i64 a10])]) (by kernel_rfl) (by simp[sN,sO,h2.1,h3.1,h4.1,h5.1,h8.1]) (by simp[sN,sO,b2i,b1t,a6X,h2.1,h2.2.1,h3.1,h3.2.1,h4.1,h4.2.1,h5.1,h5.2.1,h8.1,h8.2.1]) (by kernel_rfl)
theorem c0X{a1:Int}{a2:Int}:kT prog 63 [(0,.int .i64 a1),(1,.int .i64 a2)]=some (.agg #[.int .i64 a1,.int .i64 a2,.int .i64 0]):=by kernel_rfl
theorem b2y{a1:Int}{a2:Int}{a3:Int}:kT prog 63 [(0,.int .i64 a1),(1,.int .i64 a2),(2,.int .i64 a3)]=some (.agg #[.int .i64 a1,.int .i64 a2,.int .i64 a3]):=by kernel_rfl
theorem b7N{a1:Int}{a2:Int}:kT prog 63 [(0,.int .i64 a1),(2,.int .i64 a2)]=some (.agg #[.int .i64 a1,.int .i64 0,.int .i64 a2]):=by kernel_rfl
theorem c5l:kT prog 73 []=some (.agg #[.int .u64 0,.int .u64 0]):=by kernel_rfl
theorem c1R{a1:Int}{a2:Int}:kT prog 73 [(0,.int .u64 a1),(1,.int .u64 a2)]=some (.agg #[.int .u64 a1,.int .u64 a2]):=by kernel_rfl
theorem a6y{a1:Int}{a2:Int}:kT prog 102 [(0,.int .i64 a1),(1,.int .i64 a2)]=some (.agg #[.int .i64 a1,.int .i64 a2]):=by kernel_rfl
theorem a8T{a1:ByteArray}{a2:Bool}{a3:Int}{a4:Int}:kT prog 105 [(0,.string a1),(1,.bool a2),(2,.agg #[.int .i64 a3,.int .i64 a4])]=some (.agg #[.string a1,.bool a2,.int .i64 a3,.int .i64 a4,.slice none 0 0]):=by kernel_rfl
theorem a9q{a1:ByteArray}{a2:Int}{a3:Int}{a4:Value}(h4:a4.cells=#[a4]∧oneCell a4=true∧nE a4=true):kT prog 105 [(0,.string a1),(2,.agg #[.int .i64 a2,.int .i64 a3]),(3,a4)]=some (.agg #[.string a1,.bool false,.int .i64 a2,.int .i64 a3,a4]):=by cases a4<;>first|(exfalso;simp[oneCell]at h4;done)|kernel_rfl
theorem yK{a1:Int}{a2:Int}:kT prog 119 [(0,.int .i64 a1),(1,.int .i64 a2)]=some (.agg #[.int .i64 a1,.int .i64 a2]):=by kernel_rfl
theorem a4T{a1:ByteArray}{a2:ByteArray}{a3:Int}{a4:Int}{a5:Int}:kT prog 121 [(0,.string a1),(1,.string a2),(2,.agg #[.int .i64 a3,.int .i64 a4]),(3,.int .i64 a5)]=some (.agg #[.string a1,.string a2,.int .i64 a3,.int .i64 a4,.int .i64 a5,.slice none 0 0]):=by kernel_rfl
theorem a2I{a1:ByteArray}{a2:ByteArray}{a3:Int}{a4:Int}{a5:Int}{a6:Value}(h6:a6.cells=#[a6]∧oneCell a6=true∧nE a6=true):kT prog 121 [(0,.string a1),(1,.string a2),(2,.agg #[.int .i64 a3,.int .i64 a4]),(3,.int .i64 a5),(4,a6)]=some (.agg #[.string a1,.string a2,.int .i64 a3,.int .i64 a4,.int .i64 a5,a6]):=by cases a6<;>first|(exfalso;simp[oneCell]at h6;done)|kernel_rfl
theorem b5y{a1:ByteArray}{a2:Int}{a3:Int}:kT prog 129 [(0,.string a1),(1,.agg #[.int .i64 a2,.int .i64 a3])]=some (.agg #[.string a1,.int .i64 a2,.int .i64 a3,.slice none 0 0]):=by kernel_rfl
theorem b0b{a1:ByteArray}{a2:Int}{a3:Int}{a4:Value}(h4:a4.cells=#[a4]∧oneCell a4=true∧nE a4=true):kT prog 129 [(0,.string a1),(1,.agg #[.int .i64 a2,.int .i64 a3]),(2,a4)]=some (.agg #[.string a1,.int .i64 a2,.int .i64 a3,a4]):=by cases a4<;>first|(exfalso;simp[oneCell]at h4;done)|kernel_rfl
theorem a9d{a1:ByteArray}{a2:Int}{a3:Int}:kT prog 131 [(0,.string a1),(1,.int .i64 a2),(2,.int .i64 a3)]=some (.agg #[.string a1,.int .i64 a2,.int .i64 a3,.int .i64 0,.bool false]):=by kernel_rfl
theorem a2H{a1:ByteArray}{a2:Int}{a3:Int}{a4:Int}{a5:Bool}:kT prog 131 [(0,.string a1),(1,.int .i64 a2),(2,.int .i64 a3),(3,.int .i64 a4),(4,.bool a5)]=some (.agg #[.string a1,.int .i64 a2,.int .i64 a3,.int .i64 a4,.bool a5]):=by kernel_rfl
theorem b5X{a1:ByteArray}{a2:Value}{a3:Value}{a4:Value}{a5:Value}{a6:Int}{a7:Int}{a8:Value}{a9:Int}{a10:Int}{a11:Value}(h2:a2.cells=#[a2]∧oneCell a2=true∧nE a2=true)(h3:a3.cells=#[a3]∧oneCell a3=true∧nE a3=true)(h4:a4.cells=#[a4]∧oneCell a4=true∧nE a4=true)(h5:a5.cells=#[a5]∧oneCell a5=true∧nE a5=true)(h8:a8.cells=#[a8]∧oneCell a8=true∧nE a8=true)(h11:a11.cells=#[a11]∧oneCell a11=true∧nE a11=true):kT prog 139 [(0,.agg #[.string a1,a2,a3,a4,a5,.int .u64 a6,.int .u64 a7,a8,.int .i64 a9,.int .i64 a10]),(1,a11)]=some (.agg #[.string a1,a2,a3,a4,a5,.int .u64 a6,.int .u64 a7,a8,.int .i64 a9,.int .i64 a10,a11,.slice none 0 0,.bool false]):=a1x (ps':=[(0,.agg #[.string a1,a2,a3,a4,a5,.int .u64 a6,.int .u64 a7,a8,.int .i64 a9,.int .i64 a10]),(1,.agg #[a11])]) (by kernel_rfl) (by simp[sN,sO,h2.1,h3.1,h4.1,h5.1,h8.1,h11.1]) (by simp[sN,sO,b2i,b1t,a6X,h2.1,h2.2.1,h3.1,h3.2.1,h4.1,h4.2.1,h5.1,h5.2.1,h8.1,h8.2.1,h11.1,h11.2.1]) (by kernel_rfl)
theorem c2P{a1:Int}:kT prog 176 [(0,.int .i64 a1)]=some (.agg #[.int .i64 a1,.int .i64 0]):=by kernel_rfl
theorem uS{a1:Int}{a2:Int}:kT prog 176 [(0,.int .i64 a1),(1,.int .i64 a2)]=some (.agg #[.int .i64 a1,.int .i64 a2]):=by kernel_rfl
theorem c7q:kT prog 179 []=some (.agg #[.int .i64 0,.int .i64 0,.slice none 0 0]):=by kernel_rfl
theorem mT{a1:Int}{a2:Int}{a3:Value}(h3:a3.cells=#[a3]∧oneCell a3=true∧nE a3=true):kT prog 179 [(0,.int .i64 a1),(1,.int .i64 a2),(2,a3)]=some (.agg #[.int .i64 a1,.int .i64 a2,a3]):=by cases a3<;>first|(exfalso;simp[oneCell]at h3;done)|kernel_rfl
theorem b7F{a1:Value}{a2:Int}{a3:Int}(h1:a1.cells=#[a1]∧oneCell a1=true∧nE a1=true):kT prog 240 [(0,a1),(1,.agg #[.int .i64 a2,.int .i64 a3])]=some (.agg #[a1,.int .i64 a2,.int .i64 a3]):=by cases a1<;>first|(exfalso;simp[oneCell]at h1;done)|kernel_rfl
theorem b6z{a1:Int}{a2:Int}:kT prog 267 [(0,.int .u64 a1),(1,.int .u64 a2)]=some (.agg #[.int .u64 a1,.int .u64 a2]):=by kernel_rfl
theorem tR8(l:List Value)(H:Heap):jC prog Tryz.f8 l H=some (get l 4):=rfl
theorem d2g(l:List Value)(H:Heap):jC prog Tryz.f10 l H=some (get l 0):=rfl
theorem d1M(l:List Value)(H:Heap):jC prog Tryz.f11 l H=some (get l 4):=rfl
theorem b3t(l:List Value)(H:Heap):jC prog Tryz.f13 l H=some (get l 2):=rfl
theorem d0Z(l:List Value)(H:Heap):jC prog Tryz.f14 l H=oU (kM prog 56) (jD prog 56) H (get l 4):=by
 show(Option.bind (Option.bind (mC prog H 56 (get l 4)) fun v=>some [v]) fun vs=>_)=_
 rw[lK]
 cases oU _ _ H (get l 4)<;>rfl
theorem a4P(l:List Value)(H:Heap):jC prog Tryz.f15 l H=(oU (kM prog 50) (jD prog 50) H (get l 4)).bind fun v=>if(kF v&&(kF (get l 5)&&true))=true then some (.tuple #[v,get l 5])else none:=by
 show(Option.bind (Option.bind (mC prog H 50 (get l 4)) fun v=>some [v,get l 5]) fun vs=>_)=_
 rw[lK]
 cases oU _ _ H (get l 4)<;>rfl
theorem d1P(l:List Value)(H:Heap):jC prog Tryz.f16 l H=oU (kM prog 50) (jD prog 50) H (get l 4):=by
 show(Option.bind (Option.bind (mC prog H 50 (get l 4)) fun v=>some [v]) fun vs=>_)=_
 rw[lK]
 cases oU _ _ H (get l 4)<;>rfl
theorem b2C(l:List Value)(H:Heap):jC prog Tryz.f20 l H=some (get l 2):=rfl
theorem c8c(l:List Value)(H:Heap):jC prog Tryz.f21 l H=if(kF (get l 2)&&(kF (get l 3)&&true))=true then some (.tuple #[get l 2,get l 3])else none:=rfl
theorem c9B(l:List Value)(H:Heap):jC prog Tryz.f22 l H=(oU (kM prog 26) (jD prog 26) H (get l 2)).bind fun v=>if(kF v&&(kF (get l 3)&&(kF (get l 4)&&true)))=true then some (.tuple #[v,get l 3,get l 4])else none:=by
 show(Option.bind (Option.bind (mC prog H 26 (get l 2)) fun v=>some [v,get l 3,get l 4]) fun vs=>_)=_
 rw[lK]
 cases oU _ _ H (get l 2)<;>rfl
theorem c8G(l:List Value)(H:Heap):jC prog Tryz.f23 l H=if(kF (get l 4)&&(kF (get l 5)&&true))=true then some (.tuple #[get l 4,get l 5])else none:=rfl
theorem c3n(l:List Value)(H:Heap):jC prog Tryz.f26 l H=if(kF (get l 2)&&(kF (get l 3)&&(kF (get l 4)&&true)))=true then some (.tuple #[get l 2,get l 3,get l 4])else none:=rfl
theorem b0Q(l:List Value)(H:Heap):jC prog Tryz.f28 l H=some (get l 4):=rfl
theorem d1r(l:List Value)(H:Heap):jC prog Tryz.f38 l H=oU (kM prog 56) (jD prog 56) H (get l 0):=by
 show(Option.bind (Option.bind (mC prog H 56 (get l 0)) fun v=>some [v]) fun vs=>_)=_
 rw[lK]
 cases oU _ _ H (get l 0)<;>rfl
theorem c8M(l:List Value)(H:Heap):jC prog Tryz.f39 l H=some (get l 2):=rfl
theorem c6u(l:List Value)(H:Heap):jC prog Tryz.f40 l H=some (get l 4):=rfl
theorem d1o(l:List Value)(H:Heap):jC prog Tryz.f41 l H=some (get l 4):=rfl
theorem c3J(l:List Value)(H:Heap):jC prog Tryz.f42 l H=some (get l 4):=rfl
theorem d1X(l:List Value)(H:Heap):jC prog Tryz.f43 l H=oU (kM prog 46) (jD prog 46) H (get l 2):=by
 show(Option.bind (Option.bind (mC prog H 46 (get l 2)) fun v=>some [v]) fun vs=>_)=_
 rw[lK]
 cases oU _ _ H (get l 2)<;>rfl
theorem d1b(l:List Value)(H:Heap):jC prog Tryz.f44 l H=some (get l 4):=rfl
theorem d1K(l:List Value)(H:Heap):jC prog Tryz.f45 l H=some (get l 2):=rfl
theorem c7W(l:List Value)(H:Heap):jC prog Tryz.f46 l H=some (get l 4):=rfl
theorem a5n(l:List Value)(H:Heap):jC prog Tryz.f47 l H=some (get l 2):=rfl
theorem b5O(l:List Value)(H:Heap):jC prog Tryz.f48 l H=some (get l 4):=rfl
theorem c3u(l:List Value)(H:Heap):jC prog Tryz.f49 l H=some (get l 4):=rfl
theorem d0W(l:List Value)(H:Heap):jC prog Tryz.f50 l H=some (get l 2):=rfl
theorem d1Y(l:List Value)(H:Heap):jC prog Tryz.f51 l H=some (get l 2):=rfl
theorem c8H(l:List Value)(H:Heap):jC prog Tryz.f52 l H=some (.tuple #[]):=rfl
theorem c7U(l:List Value)(H:Heap):jC prog Tryz.f54 l H=(oU (kM prog 26) (jD prog 26) H (get l 6)).bind fun v=>if(kF v&&(kF (get l 7)&&true))=true then some (.tuple #[v,get l 7])else none:=by
 show(Option.bind (Option.bind (mC prog H 26 (get l 6)) fun v=>some [v,get l 7]) fun vs=>_)=_
 rw[lK]
 cases oU _ _ H (get l 6)<;>rfl
theorem d1k(l:List Value)(H:Heap):jC prog Tryz.f55 l H=some (get l 4):=rfl
theorem c6L(l:List Value)(H:Heap):jC prog Tryz.f56 l H=if(kF (get l 4)&&(kF (get l 5)&&true))=true then some (.tuple #[get l 4,get l 5])else none:=rfl
theorem d1q(l:List Value)(H:Heap):jC prog Tryz.f58 l H=some (get l 2):=rfl
theorem d1f(l:List Value)(H:Heap):jC prog Tryz.f61 l H=some (get l 4):=rfl
theorem d1D(l:List Value)(H:Heap):jC prog Tryz.f63 l H=some (get l 4):=rfl
theorem c7l(l:List Value)(H:Heap):jC prog Tryz.f64 l H=some (get l 2):=rfl
theorem c3m(l:List Value)(H:Heap):jC prog Tryz.f65 l H=if(kF (get l 6)&&(kF (get l 7)&&true))=true then some (.tuple #[get l 6,get l 7])else none:=rfl
theorem d2l(l:List Value)(H:Heap):jC prog Tryz.f66 l H=some (get l 4):=rfl
theorem d0X(l:List Value)(H:Heap):jC prog Tryz.f67 l H=some (get l 4):=rfl
theorem c3b(l:List Value)(H:Heap):jC prog Tryz.f68 l H=some (get l 6):=rfl
theorem d2i(l:List Value)(H:Heap):jC prog Tryz.f69 l H=some (get l 2):=rfl
theorem d1c(l:List Value)(H:Heap):jC prog Tryz.f81 l H=oU (kM prog 121) (jD prog 121) H (get l 2):=by
 show(Option.bind (Option.bind (mC prog H 121 (get l 2)) fun v=>some [v]) fun vs=>_)=_
 rw[lK]
 cases oU _ _ H (get l 2)<;>rfl
theorem d2j(l:List Value)(H:Heap):jC prog Tryz.f82 l H=oU (kM prog 105) (jD prog 105) H (get l 7):=by
 show(Option.bind (Option.bind (mC prog H 105 (get l 7)) fun v=>some [v]) fun vs=>_)=_
 rw[lK]
 cases oU _ _ H (get l 7)<;>rfl
theorem d1I(l:List Value)(H:Heap):jC prog Tryz.f83 l H=(oU (kM prog 73) (jD prog 73) H (get l 2)).bind fun v=>if(kF v&&(kF (get l 3)&&true))=true then some (.tuple #[v,get l 3])else none:=by
 show(Option.bind (Option.bind (mC prog H 73 (get l 2)) fun v=>some [v,get l 3]) fun vs=>_)=_
 rw[lK]
 cases oU _ _ H (get l 2)<;>rfl
theorem d1j(l:List Value)(H:Heap):jC prog Tryz.f84 l H=some (get l 2):=rfl
theorem d1e(l:List Value)(H:Heap):jC prog Tryz.f85 l H=oU (kM prog 121) (jD prog 121) H (get l 4):=by
 show(Option.bind (Option.bind (mC prog H 121 (get l 4)) fun v=>some [v]) fun vs=>_)=_
 rw[lK]
 cases oU _ _ H (get l 4)<;>rfl
theorem b1M(l:List Value)(H:Heap):jC prog Tryz.f86 l H=oU (kM prog 129) (jD prog 129) H (get l 8):=by
 show(Option.bind (Option.bind (mC prog H 129 (get l 8)) fun v=>some [v]) fun vs=>_)=_
 rw[lK]
 cases oU _ _ H (get l 8)<;>rfl
theorem b6Q(l:List Value)(H:Heap):jC prog Tryz.f87 l H=some (get l 2):=rfl
theorem b1h(l:List Value)(H:Heap):jC prog Tryz.f88 l H=some (get l 2):=rfl
theorem c9q(l:List Value)(H:Heap):jC prog Tryz.f89 l H=some (get l 4):=rfl
theorem b9t(l:List Value)(H:Heap):jC prog Tryz.f90 l H=some (get l 4):=rfl
theorem a2i(l:List Value)(H:Heap):jC prog Tryz.f91 l H=some (get l 4):=rfl
theorem d1m(l:List Value)(H:Heap):jC prog Tryz.f92 l H=(oU (kM prog 73) (jD prog 73) H (get l 2)).bind fun v=>if(kF v&&(kF (get l 3)&&true))=true then some (.tuple #[v,get l 3])else none:=by
 show(Option.bind (Option.bind (mC prog H 73 (get l 2)) fun v=>some [v,get l 3]) fun vs=>_)=_
 rw[lK]
 cases oU _ _ H (get l 2)<;>rfl
theorem d1v(l:List Value)(H:Heap):jC prog Tryz.f93 l H=some (get l 4):=rfl
theorem d2b(l:List Value)(H:Heap):jC prog Tryz.f94 l H=some (get l 4):=rfl
theorem b1Q(l:List Value)(H:Heap):jC prog Tryz.f95 l H=(oU (kM prog 23) (jD prog 23) H (get l 8)).bind fun v=>if(kF v&&(kF (get l 9)&&true))=true then some (.tuple #[v,get l 9])else none:=by
 show(Option.bind (Option.bind (mC prog H 23 (get l 8)) fun v=>some [v,get l 9]) fun vs=>_)=_
 rw[lK]
 cases oU _ _ H (get l 8)<;>rfl
theorem c9e(l:List Value)(H:Heap):jC prog Tryz.f96 l H=some (get l 2):=rfl
theorem c8Z(l:List Value)(H:Heap):jC prog Tryz.f97 l H=some (get l 2):=rfl
theorem c5h(l:List Value)(H:Heap):jC prog Tryz.f104 l H=some (get l 4):=rfl
theorem c5A(l:List Value)(H:Heap):jC prog Tryz.f106 l H=some (get l 4):=rfl
theorem d0H(l:List Value)(H:Heap):jC prog Tryz.f107 l H=some (get l 4):=rfl
theorem c8D(l:List Value)(H:Heap):jC prog Tryz.f108 l H=some (get l 6):=rfl
theorem c8u(l:List Value)(H:Heap):jC prog Tryz.f109 l H=some (get l 2):=rfl
theorem c9A(l:List Value)(H:Heap):jC prog Tryz.f110 l H=some (get l 2):=rfl
theorem c8U(l:List Value)(H:Heap):jC prog Tryz.f112 l H=some (get l 2):=rfl
theorem c5I(l:List Value)(H:Heap):jC prog Tryz.f113 l H=oU (kM prog 73) (jD prog 73) H (get l 4):=by
 show(Option.bind (Option.bind (mC prog H 73 (get l 4)) fun v=>some [v]) fun vs=>_)=_
 rw[lK]
 cases oU _ _ H (get l 4)<;>rfl
theorem c9Q(l:List Value)(H:Heap):jC prog Tryz.f119 l H=oU (kM prog 119) (jD prog 119) H (get l 2):=by
 show(Option.bind (Option.bind (mC prog H 119 (get l 2)) fun v=>some [v]) fun vs=>_)=_
 rw[lK]
 cases oU _ _ H (get l 2)<;>rfl
theorem c9K(l:List Value)(H:Heap):jC prog Tryz.f120 l H=oU (kM prog 119) (jD prog 119) H (get l 2):=by
 show(Option.bind (Option.bind (mC prog H 119 (get l 2)) fun v=>some [v]) fun vs=>_)=_
 rw[lK]
 cases oU _ _ H (get l 2)<;>rfl
theorem c9S(l:List Value)(H:Heap):jC prog Tryz.f121 l H=if(kF (get l 4)&&(kF (get l 5)&&true))=true then some (.tuple #[get l 4,get l 5])else none:=rfl
theorem b0u(l:List Value)(H:Heap):jC prog Tryz.f122 l H=some (get l 2):=rfl
theorem a8N(l:List Value)(H:Heap):jC prog Tryz.f123 l H=some (get l 2):=rfl
theorem c5v(l:List Value)(H:Heap):jC prog Tryz.f124 l H=some (get l 2):=rfl
theorem c5x(l:List Value)(H:Heap):jC prog Tryz.f125 l H=some (get l 2):=rfl
theorem b3J(l:List Value)(H:Heap):jC prog Tryz.f126 l H=some (get l 2):=rfl
theorem wK(l:List Value)(H:Heap):jC prog Tryz.f127 l H=some (get l 4):=rfl
theorem d0b(l:List Value)(H:Heap):jC prog Tryz.f128 l H=some (get l 4):=rfl
theorem c9U(l:List Value)(H:Heap):jC prog Tryz.f129 l H=some (get l 3):=rfl
theorem d0x(l:List Value)(H:Heap):jC prog Tryz.f130 l H=oU (kM prog 73) (jD prog 73) H (get l 4):=by
 show(Option.bind (Option.bind (mC prog H 73 (get l 4)) fun v=>some [v]) fun vs=>_)=_
 rw[lK]
 cases oU _ _ H (get l 4)<;>rfl
theorem c5w(l:List Value)(H:Heap):jC prog Tryz.f151 l H=some (get l 4):=rfl
theorem c5X(l:List Value)(H:Heap):jC prog Tryz.f152 l H=oU (kM prog 179) (jD prog 179) H (get l 4):=by
 show(Option.bind (Option.bind (mC prog H 179 (get l 4)) fun v=>some [v]) fun vs=>_)=_
 rw[lK]
 cases oU _ _ H (get l 4)<;>rfl
theorem b5e(l:List Value)(H:Heap):jC prog Tryz.f153 l H=(oU (kM prog 54) (jD prog 54) H (get l 6)).bind fun v=>if(kF v&&(kF (get l 7)&&true))=true then some (.tuple #[v,get l 7])else none:=by
 show(Option.bind (Option.bind (mC prog H 54 (get l 6)) fun v=>some [v,get l 7]) fun vs=>_)=_
 rw[lK]
 cases oU _ _ H (get l 6)<;>rfl
theorem d0z(l:List Value)(H:Heap):jC prog Tryz.f154 l H=some (get l 2):=rfl
theorem c8V(l:List Value)(H:Heap):jC prog Tryz.f155 l H=some (get l 4):=rfl
theorem c9R(l:List Value)(H:Heap):jC prog Tryz.f156 l H=some (.tuple #[]):=rfl
theorem c9D(l:List Value)(H:Heap):jC prog Tryz.f157 l H=some (get l 2):=rfl
theorem b7X(l:List Value)(H:Heap):jC prog Tryz.f161 l H=some (get l 2):=rfl
theorem a9z(l:List Value)(H:Heap):jC prog Tryz.f163 l H=some (get l 4):=rfl
theorem c9p(l:List Value)(H:Heap):jC prog Tryz.f165 l H=some (get l 4):=rfl
theorem b8D(l:List Value)(H:Heap):jC prog Tryz.f166 l H=some (get l 2):=rfl
theorem c5B(l:List Value)(H:Heap):jC prog Tryz.f167 l H=some (get l 4):=rfl
theorem c9x(l:List Value)(H:Heap):jC prog Tryz.f168 l H=some (get l 4):=rfl
theorem a5J(l:List Value)(H:Heap):jC prog Tryz.f169 l H=some (get l 2):=rfl
theorem c8J(l:List Value)(H:Heap):jC prog Tryz.f170 l H=some (get l 4):=rfl
theorem c5E(l:List Value)(H:Heap):jC prog Tryz.f171 l H=some (get l 2):=rfl
theorem c1s(l:List Value)(H:Heap):jC prog Tryz.f172 l H=some (get l 2):=rfl
theorem a3D(l:List Value)(H:Heap):jC prog Tryz.f173 l H=some (get l 4):=rfl
theorem c5U(l:List Value)(H:Heap):jC prog Tryz.f174 l H=some (get l 4):=rfl
theorem c5J(l:List Value)(H:Heap):jC prog Tryz.f185 l H=some (get l 4):=rfl
theorem c5o(l:List Value)(H:Heap):jC prog Tryz.f186 l H=some (get l 3):=rfl
theorem c9G(l:List Value)(H:Heap):jC prog Tryz.f187 l H=some (get l 4):=rfl
theorem c9z(l:List Value)(H:Heap):jC prog Tryz.f195 l H=some (get l 4):=rfl
theorem c5C(l:List Value)(H:Heap):jC prog Tryz.f196 l H=some (get l 2):=rfl
theorem c5R(l:List Value)(H:Heap):jC prog Tryz.f197 l H=some (get l 4):=rfl
theorem c9V(l:List Value)(H:Heap):jC prog Tryz.f198 l H=some (get l 4):=rfl
theorem c5j(l:List Value)(H:Heap):jC prog Tryz.f229 l H=some (get l 4):=rfl
theorem wX:MapK prog 136 (fun p:Int×Int=>.agg #[I p.1,I p.2]) (.int .i64 0):=MapK.struct (kt:=23) (et:=3) (fs:=(a1B prog 23).toArray) (by kernel_rfl) (by kernel_rfl) (by kernel_rfl) rfl (fun b k=>by cases b<;>kernel_rfl) (fun a b=>c6o (by kernel_rfl) (by kernel_rfl) (by kernel_rfl) (fun _ _ _ _=>by kernel_rfl) a b) (fun k=>c7J k)
theorem a8A:MapK prog 193 Value.string (.bool false):=MapK.str (kt:=9) (et:=4) (by kernel_rfl) (by kernel_rfl) (by kernel_rfl) rfl
theorem tt0:kM prog 3=some false∧kM prog 4=some false∧kM prog 5=some false∧jD prog 5=some 1∧kM prog 9=some false∧jD prog 9=some 1∧kM prog 23=some true∧kM prog 24=some false∧kM prog 26=some true∧kM prog 30=some false∧jD prog 30=some 1∧kM prog 31=some false∧jD prog 31=some 1∧kM prog 32=some false∧jD prog 32=some 1∧kM prog 34=some true∧kM prog 35=some true∧kM prog 36=some false∧jD prog 36=some 1∧kM prog 37=some true∧kM prog 39=some true∧kM prog 40=some false∧jD prog 40=some 1∧kM prog 42=some false∧kM prog 43=some false∧kM prog 44=some false∧kM prog 46=some true∧kM prog 47=some false∧kM prog 48=some false∧kM prog 50=some true∧kM prog 52=some false∧jD prog 52=some 1∧kM prog 54=some true∧kM prog 56=some true∧kM prog 63=some true∧kM prog 73=some true∧kM prog 75=some false∧kM prog 102=some true∧kM prog 103=some false∧kM prog 105=some true:=by and_intros<;>kernel_rfl
theorem tt1:kM prog 113=some false∧jD prog 113=some 1∧kM prog 115=some true∧kM prog 119=some true∧kM prog 121=some true∧kM prog 127=some false∧kM prog 129=some true∧kM prog 131=some true∧kM prog 136=some false∧jD prog 136=some 1∧kM prog 139=some true∧kM prog 176=some true∧kM prog 177=some false∧jD prog 177=some 1∧kM prog 179=some true∧kM prog 184=some false∧jD prog 184=some 1∧kM prog 186=some true∧kM prog 189=some true∧kM prog 191=some true∧kM prog 240=some true∧jV prog 24=some 1∧jV prog 30=some 9∧jV prog 31=some 4∧jV prog 32=some 4∧jV prog 40=some 3∧jV prog 42=some 6∧jV prog 43=some 5∧jV prog 44=some 5∧jV prog 47=some 1∧jV prog 52=some 2∧jV prog 75=some 6∧jV prog 97=some 2∧jV prog 103=some 4∧jV prog 113=some 4∧jV prog 124=some 1∧jV prog 125=some 1∧jV prog 126=some 2∧jV prog 127=some 3∧jV prog 140=some 2:=by and_intros<;>kernel_rfl
theorem tt2:jV prog 154=some 1∧jV prog 177=some 2∧jV prog 274=some 2∧mN prog 24=true∧mN prog 40=true∧mN prog 42=true∧mN prog 43=true∧mN prog 44=true∧mN prog 47=true∧mN prog 52=true∧mN prog 75=true∧mN prog 97=true∧mN prog 103=true∧mN prog 124=true∧mN prog 125=true∧mN prog 126=true∧mN prog 127=true∧mN prog 140=true∧mN prog 154=true∧mN prog 177=true∧mN prog 274=true∧jV prog 9=none∧qH prog 9=true∧jM prog 23 0=some 0∧jM prog 23 1=some 1∧jM prog 26 0=some 0∧jM prog 26 1=some 2∧jM prog 26 2=some 3∧jM prog 26 3=some 5∧jM prog 34 0=some 0∧jM prog 34 1=some 1∧jM prog 34 2=some 2∧jM prog 39 0=some 0∧jM prog 39 1=some 5∧jM prog 39 2=some 8∧jM prog 39 3=some 9∧jM prog 46 0=some 0∧jM prog 46 1=some 1∧jM prog 46 2=some 2∧jM prog 46 3=some 3:=by and_intros<;>kernel_rfl
theorem tt3:jM prog 50 0=some 0∧jM prog 50 1=some 1∧jM prog 50 2=some 2∧jM prog 54 0=some 0∧jM prog 54 1=some 1∧jM prog 56 0=some 0∧jM prog 56 1=some 4∧jM prog 56 2=some 7∧jM prog 56 3=some 8∧jM prog 63 0=some 0∧jM prog 63 1=some 1∧jM prog 63 2=some 2∧jM prog 73 0=some 0∧jM prog 73 1=some 1∧jM prog 102 0=some 0∧jM prog 102 1=some 1∧jM prog 105 0=some 0∧jM prog 105 2=some 2∧jM prog 105 3=some 4∧jM prog 115 0=some 0∧jM prog 115 1=some 1∧jM prog 115 2=some 2∧jM prog 115 3=some 3∧jM prog 119 0=some 0∧jM prog 119 1=some 1∧jM prog 121 0=some 0∧jM prog 121 1=some 1∧jM prog 121 2=some 2∧jM prog 121 3=some 4∧jM prog 121 4=some 5∧jM prog 129 0=some 0∧jM prog 129 1=some 1∧jM prog 129 2=some 3∧jM prog 131 0=some 0∧jM prog 131 1=some 1∧jM prog 131 2=some 2∧jM prog 131 3=some 3∧jM prog 131 4=some 4∧jM prog 139 0=some 0∧jM prog 139 1=some 10:=by and_intros<;>kernel_rfl
theorem tt4:jM prog 139 2=some 11∧jM prog 139 3=some 12∧jM prog 176 0=some 0∧jM prog 176 1=some 1∧jM prog 179 0=some 0∧jM prog 179 1=some 1∧jM prog 179 2=some 2∧jM prog 186 0=some 0∧jM prog 186 1=some 1∧jM prog 186 2=some 2∧jM prog 186 3=some 3∧jM prog 186 4=some 4∧jM prog 189 0=some 0∧jM prog 189 1=some 1∧jM prog 189 2=some 2∧jM prog 189 3=some 3∧jM prog 191 0=some 0∧jM prog 191 1=some 1∧jM prog 191 2=some 2∧jM prog 191 3=some 3∧jM prog 240 0=some 0∧jM prog 240 1=some 1∧kB prog 23=some (.agg #[.int .i64 0,.int .i64 0])∧kR prog 23=none∧kB prog 26=some (.agg #[.int .i64 0,.int .i64 0,.slice none 0 0,.int .i64 0,.int .i64 0,.int .i64 0])∧kR prog 26=none∧kB prog 46=some (.agg #[.string ⟨#[]⟩,.slice none 0 0,.slice none 0 0,.slice none 0 0])∧kR prog 46=none∧kB prog 50=some (.agg #[.slice none 0 0,.int .u64 0,.int .u64 0])∧kR prog 50=none∧kB prog 54=some (.agg #[.int .i64 0,.int .i64 0])∧kR prog 54=none∧kB prog 56=some (.agg #[.string ⟨#[]⟩,.slice none 0 0,.slice none 0 0,.slice none 0 0,.slice none 0 0,.int .u64 0,.int .u64 0,.slice none 0 0,.int .i64 0,.int .i64 0])∧kR prog 56=none∧kB prog 63=some (.agg #[.int .i64 0,.int .i64 0,.int .i64 0])∧kR prog 63=none∧kB prog 73=some (.agg #[.int .u64 0,.int .u64 0])∧kR prog 73=none∧kB prog 102=some (.agg #[.int .i64 0,.int .i64 0])∧kR prog 102=none:=by and_intros<;>kernel_rfl
theorem tt5:kB prog 105=some (.agg #[.string ⟨#[]⟩,.bool false,.int .i64 0,.int .i64 0,.slice none 0 0])∧kR prog 105=none∧kB prog 115=some (.agg #[.int .u8 0,.int .u8 0,.bool false,.slice none 0 0])∧kR prog 115=none∧kB prog 119=some (.agg #[.int .i64 0,.int .i64 0])∧kR prog 119=none∧kB prog 121=some (.agg #[.string ⟨#[]⟩,.string ⟨#[]⟩,.int .i64 0,.int .i64 0,.int .i64 0,.slice none 0 0])∧kR prog 121=none∧kB prog 129=some (.agg #[.string ⟨#[]⟩,.int .i64 0,.int .i64 0,.slice none 0 0])∧kR prog 129=none∧kB prog 131=some (.agg #[.string ⟨#[]⟩,.int .i64 0,.int .i64 0,.int .i64 0,.bool false])∧kR prog 131=none∧kB prog 176=some (.agg #[.int .i64 0,.int .i64 0])∧kR prog 176=none∧kB prog 179=some (.agg #[.int .i64 0,.int .i64 0,.slice none 0 0])∧kR prog 179=none∧kB prog 191=some (.agg #[.int .u8 0,.int .u8 0,.int .i8 0,.bool false])∧kR prog 191=none∧a2R prog 3=some .i64∧a2R prog 5=some .u8∧a2R prog 48=some .u64∧a2R prog 64=some .u64∧a2R prog 184=some .i8:=by and_intros<;>kernel_rfl
def TS:=(And.intro (And.intro (And.intro (And.intro (And.intro @tt0 (And.intro @tt1 @tt2)) (And.intro (And.intro @tt3 @tt4) (And.intro @tt5 @tS3))) (And.intro (And.intro @tS4 (And.intro @mP @b6Y)) (And.intro (And.intro @pV @c1T) (And.intro @c9j @d0F)))) (And.intro (And.intro (And.intro @c7o (And.intro @c9i @d0D)) (And.intro (And.intro @c2R @zD) (And.intro @c7f @c0s))) (And.intro (And.intro @tT (And.intro @a0m @pS)) (And.intro (And.intro @a4N @pJ) (And.intro @c6E @rZ))))) (And.intro (And.intro (And.intro (And.intro @c5t (And.intro @sB @b3L)) (And.intro (And.intro @uK @wH) (And.intro @zF @sC))) (And.intro (And.intro @zP (And.intro @c5Z @a2C)) (And.intro (And.intro @a3E @b9f) (And.intro @c0G @b4r)))) (And.intro (And.intro (And.intro @b3X (And.intro @d1n @d1h)) (And.intro (And.intro @d0s @c9g) (And.intro @c8m @c9W))) (And.intro (And.intro @c9O (And.intro @d0j @d0E)) (And.intro (And.intro @c8F @c9v) (And.intro @c6X @c6j))))))
def RZ:=And.intro @RB (And.intro @RC @TS)
end Go.Ds
namespace Go.Ds
open Go.Proofs
variable {P:Program} {H:Heap}
structure Drw where
 rank:Int
 shift:Int
 deriving DecidableEq,Inhabited
structure Seg where
 lo:Int
 hi:Int
 dv:Value
 draws:List Drw
 deriving Inhabited
structure Stp where
 name:ByteArray
 num:Int
 den:Int
 gv:Value
 segs:List Seg
 deriving Inhabited
structure Dvn where
 name:ByteArray
 pedal:Bool
 lo:Int
 hi:Int
 sv:Value
 stops:List Stp
 deriving Inhabited
structure Rk where
 name:ByteArray
 tone:ByteArray
 num:Int
 den:Int
 first:Int
 wv:Value
 wind:List Int
 deriving Inhabited
structure Cpl where
 name:ByteArray
 src:Int
 dst:Int
 shift:Int
 thr:Bool
 deriving Inhabited
structure Org where
 name:ByteArray
 rv:Value
 ranks:List Rk
 dv:Value
 dvs:List Dvn
 cv:Value
 cpls:List Cpl
 deriving Inhabited
def Drw.cells(d:Drw):List Value:=[I d.rank,I d.shift]
def Seg.cells(s:Seg):List Value:=[I s.lo,I s.hi,s.dv]
def Stp.cells(s:Stp):List Value:=[.string s.name,I s.num,I s.den,s.gv]
def Dvn.cells(d:Dvn):List Value:=[.string d.name,.bool d.pedal,I d.lo,I d.hi,d.sv]
def Rk.cells(r:Rk):List Value:=[.string r.name,.string r.tone,I r.num,I r.den,I r.first,r.wv]
def Cpl.cells(c:Cpl):List Value:=[.string c.name,I c.src,I c.dst,I c.shift,.bool c.thr]
def Org.cells(o:Org):List Value:=[.string o.name,o.rv,o.dv,o.cv]
def Seg.In(H:Heap)(s:Seg):Prop:=Sl 2 Drw.cells H s.dv s.draws∧s.draws.length<1000000000
def Stp.In(H:Heap)(s:Stp):Prop:=Sl 3 Seg.cells H s.gv s.segs∧(∀g∈s.segs,g.In H)∧s.segs.length<1000000000
def Dvn.In(H:Heap)(d:Dvn):Prop:=Sl 4 Stp.cells H d.sv d.stops∧(∀s∈d.stops,s.In H)∧d.stops.length<1000000000
def Rk.In(H:Heap)(r:Rk):Prop:=Sl 1 (one I) H r.wv r.wind∧r.wind.length<1000000000
def Org.In(H:Heap)(o:Org):Prop:=Sl 6 Rk.cells H o.rv o.ranks∧(∀r∈o.ranks,r.In H)∧Sl 5 Dvn.cells H o.dv o.dvs∧(∀d∈o.dvs,d.In H)∧Sl 5 Cpl.cells H o.cv o.cpls∧o.ranks.length<1000000000∧o.dvs.length<1000000000∧o.cpls.length<1000000000
section
variable {H0:Heap} {os:List Ob}
theorem Seg.In.ag{s:Seg}(h:s.In H0)(hS:St P H0 H os):s.In H:=⟨hS.sl h.1,h.2⟩
theorem Stp.In.ag{s:Stp}(h:s.In H0)(hS:St P H0 H os):s.In H:=⟨hS.sl h.1,fun g hg=>(h.2.1 g hg).ag hS,h.2.2⟩
theorem Dvn.In.ag{d:Dvn}(h:d.In H0)(hS:St P H0 H os):d.In H:=⟨hS.sl h.1,fun g hg=>(h.2.1 g hg).ag hS,h.2.2⟩
theorem Rk.In.ag{r:Rk}(h:r.In H0)(hS:St P H0 H os):r.In H:=⟨hS.sl h.1,h.2⟩
theorem Org.In.ag{o:Org}(h:o.In H0)(hS:St P H0 H os):o.In H:=⟨hS.sl h.1,fun r hr=>(h.2.1 r hr).ag hS,hS.sl h.2.2.1,fun d hd=>(h.2.2.2.1 d hd).ag hS,hS.sl h.2.2.2.2.1,h.2.2.2.2.2⟩
end
def c9M(n:Int):Prop:=-9223372036854775808≤n∧n<9223372036854775808
end Go.Ds
namespace Go.Ds
open Go.Proofs Go.Proofs.Tryz
variable {H:Heap}
def sG(b:Int):Bool:=(decide (65≤b)&&decide (b≤90))||(decide (97≤b)&&decide (b≤122))
theorem a6l(b:Int):Fn prog 122 [.int .u8 b] H fun r H'=>r=.bool (sG b)∧St prog H H' []:=by
 refine .aN func122 rfl (by kernel_rfl) (m:=17) rfl fun l hn g0=> ?_
 simp(disch:=omega) only[↓RA,RZ,simprocAttr,hn,g0]
 refine jW (fun h1=> ?_) (fun h1=> ?_)
 ·simp(disch:=omega) only[↓RA,RZ,simprocAttr,hn,g0,h1]
  refine jL (fun h2=> ?_) (fun h2=> ?_)
  ·simp(disch:=omega) only[↓RA,RZ,simprocAttr,hn,b0u,h1,h2]
   first|exact(sR H)|exact⟨by simp[sG,h1,h2],(sR H)⟩
  simp(disch:=omega) only[↓RA,RZ,simprocAttr,hn,g0,h1,h2]
  refine jW (fun h3=> ?_) (fun h3=> ?_)
  ·simp(disch:=omega) only[↓RA,RZ,simprocAttr,hn,g0,b0u,h1,h2,h3]
   first|exact(sR H)|exact⟨by simp[sG,h1,h2,h3],(sR H)⟩
  simp(disch:=omega) only[↓RA,RZ,simprocAttr,hn,b0u,h1,h2,h3]
  first|exact(sR H)|exact⟨by simp[sG,h1,h2,h3],(sR H)⟩
 simp(disch:=omega) only[↓RA,RZ,simprocAttr,hn,g0,h1]
 refine jW (fun h4=> ?_) (fun h4=> ?_)
 ·simp(disch:=omega) only[↓RA,RZ,simprocAttr,hn,g0,b0u,h1,h4]
  first|exact(sR H)|exact⟨by simp[sG,h1,h4],(sR H)⟩
 simp(disch:=omega) only[↓RA,RZ,simprocAttr,hn,b0u,h1,h4]
 first|exact(sR H)|exact⟨by simp[sG,h1,h4],(sR H)⟩
theorem c0k(b:Int):Fn prog 124 [I b] H fun r H'=>r=.bool (decide (-256≤b)&&decide (b≤256))∧St prog H H' []:=by
 refine .aN func124 rfl (by kernel_rfl) (m:=9) rfl fun l hn g0=> ?_
 simp(disch:=omega) only[↓RA,RZ,simprocAttr,hn,g0]
 refine jW (fun h1=> ?_) (fun h1=> ?_)
 ·simp(disch:=omega) only[↓RA,RZ,simprocAttr,hn,g0,c5v,h1]
  first|exact(sR H)|exact⟨by simp[h1],(sR H)⟩
 simp(disch:=omega) only[↓RA,RZ,simprocAttr,hn,c5v,h1]
 first|exact(sR H)|exact⟨by simp[],(sR H)⟩
theorem b8S(b:Int):Fn prog 171 [I b] H fun r H'=>r=.bool (decide (b<0)||decide (1000000<b))∧St prog H H' []:=by
 refine .aN func171 rfl (by kernel_rfl) (m:=9) rfl fun l hn g0=> ?_
 simp(disch:=omega) only[↓RA,RZ,simprocAttr,hn,g0]
 refine jL (fun h1=> ?_) (fun h1=> ?_)
 ·simp(disch:=omega) only[↓RA,RZ,simprocAttr,hn,c5E,h1]
  first|exact(sR H)|exact⟨by simp[],(sR H)⟩
 simp(disch:=omega) only[↓RA,RZ,simprocAttr,hn,g0,c5E,h1]
 first|exact(sR H)|exact⟨by simp[],(sR H)⟩
theorem a6B(n:Int)(h: -9223372036854775808≤n)(h0:n<0):IntKind.wrap .u64 (0-IntKind.wrap .u64 n)=n.natAbs:=by
 have e:∀m:Int,IntKind.wrap .u64 m=m%18446744073709551616:=fun m=>by
  show(if(false&&decide (m%18446744073709551616≥9223372036854775808))=true then m%18446744073709551616-18446744073709551616 else m%18446744073709551616)=_
  simp
 rw[e,e]
 omega
theorem a6O(n:Int)(hn0:c9M n):Fn prog 196 [I n] H fun r H'=>r=.int .u64 n.natAbs∧St prog H H' []:=by
 refine .aN func196 rfl (by kernel_rfl) (m:=10) rfl fun l hn g0=> ?_
 simp(disch:=omega) only[↓RA,RB,simprocAttr,hn,g0]
 refine jA (fun h=> ?_) (fun h=> ?_)
 ·simp(disch:=omega) only[↓RA,RZ,simprocAttr,hn,g0,c5C,h]
  exact⟨by rw[a6B n hn0.1 h],(sR H)⟩
 simp(disch:=omega) only[↓RA,RZ,simprocAttr,hn,g0,c5C,h]
 refine⟨?_,(sR H)⟩
 have:=hn0.2
 rw[qC n (by omega) (by omega)]
 congr 1
 omega
theorem c7L(a b:Nat)(ha:a<18446744073709551616)(hb:b<18446744073709551616):Fn prog 195 [.int .u64 a,.int .u64 b] H fun r H'=>r=.int .u64 (Nat.gcd a b)∧St prog H H' []:=by
 refine .aE func195 rfl (by kernel_rfl) (m:=12) rfl fun l hn g0 g1=> ?_
 simp(disch:=omega) only[↓RA,RB,simprocAttr]
 refine Wp.ak (fun n l H'=>l.length=12∧get l 4=(.int .u64 0)∧∃(x y:Nat),(n=y∧x<18446744073709551616∧y<18446744073709551616∧Nat.gcd a b=Nat.gcd x y)∧get l 0=(.int .u64 x)∧get l 1=(.int .u64 y)∧St prog H H' []) b ?_ ?_
 ·simp(disch:=omega) only[RB,RC,simprocAttr,hn,g0,g1]
  exact⟨a,b,⟨rfl,ha,hb,rfl⟩,rfl,rfl,(sR H)⟩
 rintro n l H1⟨hn,g4,x,y,⟨hy,hx1,hy1,hg⟩,g0,g1,hS1⟩
 simp(disch:=omega) only[↓RA,RB,simprocAttr,hn,g1]
 refine jA (fun h=> ?_) (fun h=> ?_)
 ·simp(disch:=omega) only[↓RA,RC,simprocAttr,h]
  refine Wp.drw kQ (by kernel_rfl) ?_
  simp(disch:=omega) only[↓RA,RZ,simprocAttr,hn,g4,g0,g1]
  refine⟨x%y,?_,y,x%y,⟨rfl,hy1,?_,?_⟩,rfl,?_,hS1⟩
  ·rw[hy];exact fz _ (by omega)
  ·exact eH (fz _ (by omega)) (by omega)
  ·rw[hg,Nat.gcd_comm x y,Nat.gcd_rec]
   exact Nat.gcd_comm _ _
  ·rw[fq]
 simp(disch:=omega) only[↓RA,RZ,simprocAttr,hn,g0,c9z,h]
 have h0:y=0:=by omega
 subst h0
 exact⟨by rw[hg,Nat.gcd_zero_right],hS1⟩
theorem c4c(a b:Int)(ha0:0≤a)(ha:a<18446744073709551616)(hb0:0≤b)(hb:b<18446744073709551616):Fn prog 195 [.int .u64 a,.int .u64 b] H fun r H'=>r=.int .u64 (Nat.gcd a.toNat b.toNat)∧St prog H H' []:=by
 have:=c7L (H:=H) a.toNat b.toNat (by omega) (by omega)
 rwa [gA ha0,gA hb0]at this
def zJ(num den:Int):Int:=if 0<den∧den≤1000000∧-1000000≤num∧num≤1000000∧Nat.gcd num.natAbs den.toNat=1 then 0 else 2
theorem c4R(num den:Int):Fn prog 169 [.agg #[I num,I den]] H fun r H'=>r=I (zJ num den)∧St prog H H' []:=by
 refine .aN func169 rfl (by kernel_rfl) (m:=31) rfl fun l hn g0=> ?_
 simp(disch:=omega) only[↓RA,RB,simprocAttr,g0]
 refine(sR H).eNew 2 [I num,I den] rfl rfl rfl uK fun A1 H1 hS1=> ?_
 simp only[RT]at hS1
 simp(disch:=omega) only[↓RA,RB,simprocAttr]
 refine Wp.aJ kQ [(23,0),(24,0)] (by kernel_rfl) (by kernel_rfl) ?_
 simp(disch:=omega) only[↓RA,RZ,simprocAttr,hn,hS1.ld 0 rfl]
 refine jL (fun h1=> ?_) (fun h1=> ?_)
 ·simp(disch:=omega) only[↓RA,RZ,simprocAttr,hn,a5J,h1]
  refine⟨?_,hS1.forget⟩;unfold zJ;(repeat' split);all_goals first|rfl|omega
 simp(disch:=omega) only[↓RA,RZ,simprocAttr,hn,hS1.ld 0 rfl,h1]
 refine jL (fun h2=> ?_) (fun h2=> ?_)
 ·simp(disch:=omega) only[↓RA,RZ,simprocAttr,hn,a5J,h1,h2]
  refine⟨?_,hS1.forget⟩;unfold zJ;(repeat' split);all_goals first|rfl|omega
 simp(disch:=omega) only[↓RA,RZ,simprocAttr,hn,hS1.ld 0 rfl,h1,h2]
 refine jL (fun h3=> ?_) (fun h3=> ?_)
 ·simp(disch:=omega) only[↓RA,RZ,simprocAttr,hn,a5J,h1,h2,h3]
  refine⟨?_,hS1.forget⟩;unfold zJ;(repeat' split);all_goals first|rfl|omega
 simp(disch:=omega) only[↓RA,RZ,simprocAttr,hn,hS1.ld 0 rfl,h1,h2,h3]
 refine jL (fun h4=> ?_) (fun h4=> ?_)
 ·simp(disch:=omega) only[↓RA,RZ,simprocAttr,hn,a5J,h1,h2,h3,h4]
  refine⟨?_,hS1.forget⟩;unfold zJ;(repeat' split);all_goals first|rfl|omega
 simp(disch:=omega) only[↓RA,RZ,simprocAttr,hn,hS1.ld 0 rfl,h1,h2,h3,h4]
 refine hS1.cF (a6O num ⟨by omega,by omega⟩) fun H2 hS2=> ?_
 simp(disch:=omega) only[↓RA,RZ,simprocAttr,hn,hS2.ld 0 rfl,h1,h2,h3,h4]
 refine hS2.cF (c4c _ _ (by omega) (by omega) (by omega) (by omega)) fun H3 hS3=> ?_
 simp(disch:=omega) only[↓RA,RZ,simprocAttr,hn,hS1.ld 0 rfl,h1,h2,h3,h4]
 refine jA (fun h5=> ?_) (fun h5=> ?_)
 ·simp(disch:=omega) only[↓RA,RZ,simprocAttr,hn,a5J,h1,h2,h3,h4,h5]
  refine⟨?_,hS3.forget⟩;unfold zJ;(repeat' split);all_goals first|rfl|omega
 simp(disch:=omega) only[↓RA,RZ,simprocAttr,hn,a5J,h1,h2,h3,h4,h5]
 refine⟨?_,hS3.forget⟩;unfold zJ;(repeat' split);all_goals first|rfl|omega
def pA(num den:Int):Int:=if zJ num den≠0 then 2 else if num≤0∨128*den<num then 3 else if 128<den then 4 else 0
theorem c1K{num den:Int}(h:zJ num den=0):0<den∧den≤1000000∧-1000000≤num∧num≤1000000∧Nat.gcd num.natAbs den.toNat=1:=by
 unfold zJ at h
 split at h
 ·assumption
 ·cases h
theorem a3a(num den:Int):Fn prog 123 [.agg #[I num,I den]] H fun r H'=>r=I (pA num den)∧St prog H H' []:=by
 refine .aN func123 rfl (by kernel_rfl) (m:=23) rfl fun l hn g0=> ?_
 simp(disch:=omega) only[↓RA,RB,simprocAttr,g0]
 refine(sR H).eNew 2 [I num,I den] rfl rfl rfl uK fun A1 H1 hS1=> ?_
 simp only[RT]at hS1
 simp(disch:=omega) only[↓RA,RZ,simprocAttr,hn,hS1.ae 0 rfl]
 refine hS1.cF (c4R num den) fun H2 hS2=> ?_
 simp(disch:=omega) only[↓RA,RB,simprocAttr,hn]
 refine jA (fun h=> ?_) (fun h=> ?_)
 ·simp(disch:=omega) only[↓RA,RZ,simprocAttr,hn,a8N,h]
  exact⟨by rw[pA,if_pos h],hS2.forget⟩
 have hf:=c1K (dX.1 h)
 simp(disch:=omega) only[↓RA,RZ,simprocAttr,hn,hS2.ld 0 rfl,h]
 refine jL (fun h1=> ?_) (fun h1=> ?_)
 ·simp(disch:=omega) only[↓RA,RZ,simprocAttr,hn,a8N,h,h1]
  refine⟨?_,hS2.forget⟩;unfold pA;(repeat' split);all_goals first|rfl|omega
 simp(disch:=omega) only[↓RA,RZ,simprocAttr,hn,hS2.ld 0 rfl,h,h1]
 refine jA (fun h2=> ?_) (fun h2=> ?_)
 ·simp(disch:=omega) only[↓RA,RZ,simprocAttr,hn,a8N,h,h1,h2]
  refine⟨?_,hS2.forget⟩;unfold pA;(repeat' split);all_goals first|rfl|omega
 simp(disch:=omega) only[↓RA,RZ,simprocAttr,hn,hS2.ld 0 rfl,h,h1,h2]
 refine jA (fun h3=> ?_) (fun h3=> ?_)
 ·simp(disch:=omega) only[↓RA,RZ,simprocAttr,hn,a8N,h,h1,h2,h3]
  refine⟨?_,hS2.forget⟩;unfold pA;(repeat' split);all_goals first|rfl|omega
 simp(disch:=omega) only[↓RA,RZ,simprocAttr,hn,a8N,h,h1,h2,h3]
 refine⟨?_,hS2.forget⟩;unfold pA;(repeat' split);all_goals first|rfl|omega
def qS(p:Nat→Bool)(n:Nat):Int:=match (List.range n).find? p with|some j=>j|none=>-1
theorem zQ(p:Nat→Bool)(n i:Nat)(hi:i<n)(hp:p i=true)(h0:∀j,j<i→p j=false):(List.range n).find? p=some i:=by
 rw[im]
 refine⟨hp,i,by simpa using hi,by simp,fun j hj=>by simp[h0 j hj]⟩
theorem vZ(p:Nat→Bool)(n i:Nat)(hi:i<n)(hp:p i=true)(h0:∀j,j<i→p j=false):qS p n=i:=by
 unfold qS
 rw[zQ p n i hi hp h0]
theorem vO(p:Nat→Bool)(n:Nat)(h0:∀j,j<n→p j=false):qS p n=-1:=by
 unfold qS
 have:(List.range n).find? p=none:=by
  rw[gp]
  intro j hj
  simp[h0 j (dS.1 hj)]
 rw[this]
theorem yY(p:Nat→Bool)(n:Nat):(0≤qS p n)↔∃j,j<n∧p j=true:=by
 unfold qS
 cases h:(List.range n).find? p with
 | none=>
   rw[gp]at h
   simp only[dS]at h
   constructor
   ·intro hh;exact absurd hh (by decide)
   ·rintro⟨j,hj,hp⟩;exact absurd hp (h j hj)
 | some j=>
   constructor
   ·intro _
    exact⟨j,dS.1 (gB h),iV h⟩
   ·intro _;show(0:Int)≤(j:Int);omega
theorem c3S(v:Value)(xs:List Int)(hv:Sl 1 (one I) H v xs)(hl:xs.length<1000000000)(k:FuncId)(caps:List Value)(p:Nat→Bool)
 (hf:∀j H1,j<xs.length→St prog H H1 []→Fn prog k (I (jB xs j)::caps) H1 fun r H2=>r=.bool (p j)∧St prog H1 H2 []):
 Fn prog 197 [v,.func (.func k) #[] caps.toArray] H fun r H'=>r=I (qS p xs.length)∧St prog H H' []:=by
 refine .aE func197 rfl (by kernel_rfl) (m:=19) rfl fun l hn g0 g1=> ?_
 simp(disch:=omega) only[↓RA,RZ,simprocAttr,hn,g0,((sR H).sl hv).len]
 refine Wp.ak (fun n l H'=>l.length=19∧get l 0=v∧get l 1=.func (.func k) #[] caps.toArray∧get l 7=I xs.length∧∃(j:Nat),(n+j=xs.length∧∀q,q<j→p q=false)∧get l 8=I j∧St prog H H' []) xs.length ?_ ?_
 ·simp(disch:=omega) only[RB,RC,simprocAttr,hn,g0,g1]
  exact⟨0,⟨by omega,fun q hq=>absurd hq (eu _)⟩,rfl,(sR H)⟩
 rintro n l H1⟨hn,g0,g1,g7,j,⟨hi,h0⟩,g8,hS1⟩
 simp(disch:=omega) only[↓RA,RB,simprocAttr,hn,g7,g8]
 refine jA (fun h=> ?_) (fun h=> ?_)
 ·simp(disch:=omega) only[↓RA,RZ,simprocAttr,hn,g0,g1,g8,(hS1.sl hv).idx,(hS1.sl hv).ld,one,h]
  refine hS1.cF (hf j _ (by omega) hS1) fun H2 hS2=> ?_
  simp(disch:=omega) only[↓RA,RZ,simprocAttr,hn,h]
  refine kA (fun hp=> ?_) (fun hp=> ?_)
  ·simp(disch:=omega) only[↓RA,RZ,simprocAttr,hn,c5R,h,hp]
   exact⟨by rw[vZ p xs.length j (by omega) hp h0],hS2⟩
  simp(disch:=omega) only[↓RA,RZ,simprocAttr,hn,g0,g1,g7,g8,h,hp]
  exact⟨n-1,by omega,j+1,⟨by omega,fun q hq=>by rcases dK.1 hq with e|e;(· exact h0 q e);(· rw[e];exact hp)⟩,by simp,hS2⟩
 simp(disch:=omega) only[↓RA,RZ,simprocAttr,hn,c5R,h]
 exact⟨by rw[vO p xs.length fun q hq=>h0 q (by omega)],hS1⟩
theorem c2W(v:Value)(xs:List Int)(hv:Sl 1 (one I) H v xs)(hl:xs.length<1000000000)(k:FuncId)(caps:List Value)(p:Nat→Bool)
 (hf:∀j H1,j<xs.length→St prog H H1 []→Fn prog k (I (jB xs j)::caps) H1 fun r H2=>r=.bool (p j)∧St prog H1 H2 []):
 Fn prog 170 [v,.func (.func k) #[] caps.toArray] H fun r H'=>r=.bool (decide (0≤qS p xs.length))∧St prog H H' []:=by
 refine .aE func170 rfl (by kernel_rfl) (m:=9) rfl fun l hn g0 g1=> ?_
 simp(disch:=omega) only[↓RA,RZ,simprocAttr,hn,g0,g1]
 refine(sR H).cF (c3S v xs hv hl k caps p hf) fun H1 hS1=> ?_
 simp(disch:=omega) only[↓RA,RZ,simprocAttr,hn,c8J]
 first|exact hS1|exact⟨rfl,hS1⟩
def a1P(xs:List Int):Int:=if xs.any fun w=>decide (w<0)||decide (1000000<w)then 3 else 0
theorem b9I(v:Value)(xs:List Int)(hv:Sl 1 (one I) H v xs)(hl:xs.length<1000000000):Fn prog 125 [v] H fun r H'=>r=I (a1P xs)∧St prog H H' []:=by
 have key:(0≤qS (fun j=>decide (jB xs j<0)||decide (1000000<jB xs j)) xs.length)↔(xs.any fun w=>decide (w<0)||decide (1000000<w))=true:=by
  rw[yY,iN]
  constructor
  ·rintro⟨j,hj,hp⟩;exact⟨_,jE hj,hp⟩
  ·rintro⟨x,hx,hp⟩
   obtain⟨j,hj,rfl⟩:=eF.1 hx
   exact⟨j,hj,by rw[jR xs j hj];exact hp⟩
 refine .aN func125 rfl (by kernel_rfl) (m:=5) rfl fun l hn g0=> ?_
 simp(disch:=omega) only[↓RA,RZ,simprocAttr,hn,g0]
 refine(sR H).cF (c2W v xs hv hl 171 [] _ (fun j H1 hj hS=>b8S (jB xs j))) fun H1 hS1=> ?_
 simp(disch:=omega) only[↓RA,RB,simprocAttr,hn]
 refine jA (fun h=> ?_) (fun h=> ?_)
 ·simp(disch:=omega) only[↓RA,RZ,simprocAttr,hn,c5x,h]
  exact⟨by rw[a1P,if_pos (key.1 h)],hS1⟩
 simp(disch:=omega) only[↓RA,RZ,simprocAttr,hn,c5x,h]
 exact⟨by rw[a1P,if_neg (fun hh=>h (key.2 hh))],hS1⟩
def ncF(b:Int):Bool:=sG b||(decide (48≤b)&&decide (b≤57))||decide (b=95)
def lO(s:ByteArray):Bool:=decide (0<s.size)&&decide (s.size≤32)&&sG (pX s 0)&&(List.range (s.size-1)).all fun j=>ncF (pX s (j+1))
theorem d0g(s z:ByteArray)(hz:z.size=0):s=z↔s.size=0:=⟨fun h=>by rw[h,hz],fun h=>by
 apply a2t
 have h1:s.data.toList=[]:=gf (by simpa using h)
 have h2:z.data.toList=[]:=gf (by simpa using hz)
 rw[h1,h2]⟩
theorem sP(s:ByteArray):Fn prog 87 [.string s] H fun r H'=>r=.bool (lO s)∧St prog H H' []:=by
 have hz:=d0g s {data:=#[]} rfl
 refine .aN func87 rfl (by kernel_rfl) (m:=42) rfl fun l hn g0=> ?_
 simp(disch:=omega) only[↓RA,RZ,simprocAttr,hn,g0,hz]
 refine jL (fun h1=> ?_) (fun h1=> ?_)
 ·simp(disch:=omega) only[↓RA,RZ,simprocAttr,hn,b6Q,h1]
  first|exact(sR H)|exact⟨by simp[lO,h1],(sR H)⟩
 simp(disch:=omega) only[↓RA,RZ,simprocAttr,hn,g0,h1]
 refine jL (fun h2=> ?_) (fun h2=> ?_)
 ·simp(disch:=omega) only[↓RA,RZ,simprocAttr,hn,b6Q,h1,h2]
  first|exact(sR H)|exact⟨by simp[lO,show¬s.size≤32 by omega],(sR H)⟩
 simp(disch:=omega) only[↓RA,RZ,simprocAttr,hn,g0,h1,h2]
 refine(sR H).cF (a6l _) fun H1 hS1=> ?_
 simp(disch:=omega) only[↓RA,RZ,simprocAttr,hn,h1,h2]
 refine kA (fun h3=> ?_) (fun h3=> ?_)
 ·simp(disch:=omega) only[↓RA,RZ,simprocAttr,hn,b6Q,h1,h2,h3]
  first|exact hS1|exact⟨by simp at h3;simp[lO,h3],hS1⟩
 simp(disch:=omega) only[↓RA,RZ,simprocAttr,h1,h2,h3]
 have h4:sG (pX s 0)=true:=by simpa using h3
 have hA:lO s=(List.range (s.size-1)).all fun j=>ncF (pX s (j+1)):=by simp[lO,h4,show 0<s.size by omega,show s.size≤32 by omega]
 refine Wp.ak (fun n l H'=>l.length=42∧get l 0=(.string s)∧∃(i:Nat),(n+i=s.size∧1≤i∧∀j,1≤j→j<i→ncF (pX s j)=true)∧get l 3=I i∧St prog H H' []) (s.size-1) ?_ ?_
 ·simp(disch:=omega) only[RB,RC,simprocAttr,hn,g0]
  exact⟨1,⟨by omega,by omega,fun j h1 h2=>by omega⟩,rfl,hS1⟩
 rintro n l H2⟨hn,g0,i,⟨hi,hi1,h0⟩,g3,hS2⟩
 simp(disch:=omega) only[↓RA,RZ,simprocAttr,hn,g0,g3]
 refine jA (fun h5=> ?_) (fun h5=> ?_)
 ·simp(disch:=omega) only[↓RA,RZ,simprocAttr,hn,g0,g3,h5]
  refine hS2.cF (a6l _) fun H3 hS3=> ?_
  have hF:ncF (pX s i)=false→lO s=false:=fun hh=>by
   rw[hA,List.all_eq_false]
   exact⟨i-1,dS.2 (by omega),by rw[show i-1+1=i by omega,hh];simp⟩
  have hT:ncF (pX s i)=true→∀j,1≤j→j<i+1→ncF (pX s j)=true:=fun hh j h1 h2=>by
   by_cases e:j=i
   ·rw[e];exact hh
   ·exact h0 j h1 (by omega)
  simp(disch:=omega) only[↓RA,RZ,simprocAttr,hn,h5]
  refine lI (fun h1=> ?_) (fun h1=> ?_)
  ·simp(disch:=omega) only[↓RA,RZ,simprocAttr,hn,h5,h1]
   refine jL (fun h2=> ?_) (fun h2=> ?_)
   ·simp(disch:=omega) only[↓RA,RZ,simprocAttr,hn,h5,h1,h2]
    refine jA (fun h3=> ?_) (fun h3=> ?_)
    ·simp(disch:=omega) only[↓RA,RZ,simprocAttr,hn,b6Q,h5,h1,h2,h3]
     exact⟨by rw[hF (by simp_all [ncF]<;>omega)],hS3⟩
    simp(disch:=omega) only[↓RA,RZ,simprocAttr,hn,g0,g3,h5,h1,h2,h3]
    exact⟨n-1,by omega,i+1,⟨by omega,by omega,hT (by simp_all [ncF]<;>omega)⟩,by simp,hS3⟩
   simp(disch:=omega) only[↓RA,RZ,simprocAttr,hn,h5,h1,h2]
   refine jW (fun h4=> ?_) (fun h4=> ?_)
   ·simp(disch:=omega) only[↓RA,RZ,simprocAttr,hn,h5,h1,h2,h4]
    refine jA (fun h5=> ?_) (fun h5=> ?_)
    ·simp(disch:=omega) only[↓RA,RZ,simprocAttr,hn,b6Q,h1,h2,h4,h5]
     exact⟨by rw[hF (by simp_all [ncF]<;>omega)],hS3⟩
    simp(disch:=omega) only[↓RA,RZ,simprocAttr,hn,g0,g3,h1,h2,h4,h5]
    exact⟨n-1,by omega,i+1,⟨by omega,by omega,hT (by simp_all [ncF]<;>omega)⟩,by simp,hS3⟩
   simp(disch:=omega) only[↓RA,RZ,simprocAttr,hn,g0,g3,h5,h1,h2,h4]
   exact⟨n-1,by omega,i+1,⟨by omega,by omega,hT (by simp_all [ncF]<;>omega)⟩,by simp,hS3⟩
  simp(disch:=omega) only[↓RA,RZ,simprocAttr,hn,g0,g3,h5,h1]
  exact⟨n-1,by omega,i+1,⟨by omega,by omega,hT (by simp_all [ncF]<;>omega)⟩,by simp,hS3⟩
 simp(disch:=omega) only[↓RA,RZ,simprocAttr,hn,b6Q,h5]
 refine⟨?_,hS2⟩
 rw[hA]
 congr 1
 symm
 rw[dT]
 intro j hj
 exact h0 (j+1) (by omega) (by have:=dS.1 hj;omega)
def rankE(r:Rk):Int:=if lO r.name=false∨lO r.tone=false then 8 else if pA r.num r.den≠0 then pA r.num r.den else if¬(-256≤r.first∧r.first≤256)then 3 else if r.wind.length=0 then 13 else if 128<r.wind.length then 4 else a1P r.wind
theorem b4s(r:Rk)(hr:r.In H):Fn prog 88 [.agg #[.string r.name,.string r.tone,I r.num,I r.den,I r.first,r.wv]] H fun v H'=>v=I (rankE r)∧St prog H H' []:=by
 have hl:=hr.2
 refine .aN func88 rfl (by kernel_rfl) (m:=38) rfl fun l hn g0=> ?_
 simp(disch:=omega) only[↓RA,RB,simprocAttr,g0]
 refine(sR H).eNew 6 [(.string r.name),(.string r.tone),I r.num,I r.den,I r.first,r.wv] rfl rfl (by simp[OC,((sR H).sl hr.1).cells.2.1]) wH fun A1 H1 hS1=> ?_
 simp only[RT]at hS1
 simp(disch:=omega) only[↓RA,RZ,simprocAttr,hn,hS1.ld 0 rfl]
 refine hS1.cF (sP _) fun H2 hS2=> ?_
 simp(disch:=omega) only[↓RA,RZ,simprocAttr,hn]
 refine lI (fun h1=> ?_) (fun h1=> ?_)
 ·simp(disch:=omega) only[↓RA,RZ,simprocAttr,hn,b1h,h1]
  refine⟨?_,hS2.forget⟩;clear hS1;unfold rankE;(try simp only[eK]at*);(repeat' split);all_goals first|rfl|omega|simp_all
 simp(disch:=omega) only[↓RA,RZ,simprocAttr,hn,hS2.ld 0 rfl,h1]
 refine hS2.cF (sP _) fun H3 hS3=> ?_
 simp(disch:=omega) only[↓RA,RZ,simprocAttr,hn,h1]
 refine kA (fun h2=> ?_) (fun h2=> ?_)
 ·simp(disch:=omega) only[↓RA,RB,simprocAttr,hn,b1h,h1,h2]
  refine⟨?_,hS3.forget⟩;clear hS1;unfold rankE;(try simp only[eK]at*);(repeat' split);all_goals first|rfl|omega|simp_all
 simp(disch:=omega) only[↓RA,RZ,simprocAttr,hn,hS3.ae 0 rfl,h1,h2]
 refine hS3.cF (a3a _ _) fun H4 hS4=> ?_
 simp(disch:=omega) only[↓RA,RB,simprocAttr,hn,h1,h2]
 refine jA (fun h3=> ?_) (fun h3=> ?_)
 ·simp(disch:=omega) only[↓RA,RZ,simprocAttr,hn,b1h,h1,h2,h3]
  refine⟨?_,hS4.forget⟩;clear hS1;unfold rankE;(try simp only[gF,eK,dB,decide_eq_true_eq,iG,gZ,decide_eq_false_iff_not]at*);(repeat' split);all_goals first|rfl|omega|simp_all
 simp(disch:=omega) only[↓RA,RZ,simprocAttr,hn,hS4.ld 0 rfl,h1,h2,h3]
 refine hS4.cF (c0k _) fun H5 hS5=> ?_
 simp(disch:=omega) only[↓RA,RZ,simprocAttr,hn,h1,h2,h3]
 refine kA (fun h4=> ?_) (fun h4=> ?_)
 ·simp(disch:=omega) only[↓RA,RZ,simprocAttr,hn,b1h,h1,h2,h3,h4]
  refine⟨?_,hS5.forget⟩;clear hS1;unfold rankE;(try simp only[eK,gZ,decide_eq_false_iff_not]at*);(repeat' split);all_goals first|rfl|omega|simp_all
 simp(disch:=omega) only[↓RA,RZ,simprocAttr,hn,hS5.ld 0 rfl,(hS5.sl hr.1).len,h1,h2,h3,h4]
 refine jA (fun h5=> ?_) (fun h5=> ?_)
 ·simp(disch:=omega) only[↓RA,RZ,simprocAttr,hn,b1h,h1,h2,h3,h4,h5]
  refine⟨?_,hS5.forget⟩;clear hS1;unfold rankE;(try simp only[gF,eK,dB,decide_eq_true_eq,iG,gZ,decide_eq_false_iff_not]at*);(repeat' split);all_goals first|rfl|omega|simp_all
 simp(disch:=omega) only[↓RA,RZ,simprocAttr,hn,hS5.ld 0 rfl,(hS5.sl hr.1).len,h1,h2,h3,h4,h5]
 refine jA (fun h6=> ?_) (fun h6=> ?_)
 ·simp(disch:=omega) only[↓RA,RZ,simprocAttr,hn,b1h,h1,h2,h3,h4,h5,h6]
  refine⟨?_,hS5.forget⟩;clear hS1;unfold rankE;(try simp only[gF,eK,dB,decide_eq_true_eq,iG,gZ,decide_eq_false_iff_not]at*);(repeat' split);all_goals first|rfl|omega|simp_all
 simp(disch:=omega) only[↓RA,RZ,simprocAttr,hn,hS5.ld 0 rfl,h1,h2,h3,h4,h5,h6]
 refine hS5.cF (b9I r.wv r.wind (hS5.sl hr.1) (by have:=hr.2;omega)) fun H6 hS6=> ?_
 simp(disch:=omega) only[↓RA,RZ,simprocAttr,hn,b1h,h1,h2,h3,h4,h5,h6]
 refine⟨?_,hS6.forget⟩;clear hS1;unfold rankE;(try simp only[gF,eK,dB,decide_eq_true_eq,iG,gZ,decide_eq_false_iff_not]at*);(repeat' split);all_goals first|rfl|omega|simp_all
abbrev KS(kvs:List (ByteArray×Bool)):List Value:=kcs Value.string Value.bool kvs
def sJ(kvs:List (ByteArray×Bool))(s:ByteArray):Bool:=(zA kvs s).getD false
theorem a3G(B:Base)(A:Nat)(kvs:List (ByteArray×Bool))(s:ByteArray)(hS:St prog B H [⟨.map (some A),0,KS kvs⟩]):
 Fn prog 89 [.map (some A),.string s] H fun r H'=>r=I (if sJ kvs s=true then 9 else 0)∧∃kvs',(∀t,sJ kvs' t=(sJ kvs t||decide (t=s)))∧St prog B H' [⟨.map (some A),0,KS kvs'⟩]:=by
 refine .aE func89 rfl (by kernel_rfl) (m:=10) rfl fun l hn g0 g1=> ?_
 simp(disch:=omega) only[↓RA,RB,simprocAttr,hn,g0,g1]
 refine hS.aX 0 rfl a8A (fun _=>rfl) ?_
 simp(disch:=omega) only[↓RA,RB,simprocAttr,hn]
 refine kA (fun h=> ?_) (fun h=> ?_)
 ·simp(disch:=omega) only[↓RA,RB,simprocAttr,hn,c9q,h]
  refine⟨by simp[sJ,h],kvs,fun t=> ?_,hS⟩
  by_cases e:t=s
  ·subst e;simp[sJ,h]
  ·simp[e]
 simp(disch:=omega) only[↓RA,RB,simprocAttr,hn,g0,g1,h]
 refine hS.cD 0 rfl a8A fun H1 hS1=> ?_
 simp only[RT]at hS1
 simp(disch:=omega) only[↓RA,RB,simprocAttr,hn,c9q,h]
 refine⟨by simp[sJ,h],_,fun t=> ?_,hS1⟩
 unfold sJ
 rw[a8B]
 by_cases e:t=s
 ·simp[e]
 ·simp[e]
def tG(lo hi:Int):Int:=if lo<0∨127<hi then 3 else if hi<lo then 23 else 0
theorem a3e(lo hi:Int):Fn prog 126 [.agg #[I lo,I hi]] H fun r H'=>r=I (tG lo hi)∧St prog H H' []:=by
 refine .aN func126 rfl (by kernel_rfl) (m:=18) rfl fun l hn g0=> ?_
 simp(disch:=omega) only[↓RA,RB,simprocAttr,g0]
 refine(sR H).eNew 2 [I lo,I hi] rfl rfl rfl rZ fun A1 H1 hS1=> ?_
 simp only[RT]at hS1
 simp(disch:=omega) only[↓RA,RZ,simprocAttr,hn,hS1.ld 0 rfl]
 refine jL (fun h1=> ?_) (fun h1=> ?_)
 ·simp(disch:=omega) only[↓RA,RZ,simprocAttr,hn,b3J,h1]
  refine⟨?_,hS1.forget⟩;unfold tG;(repeat' split);all_goals first|rfl|omega
 simp(disch:=omega) only[↓RA,RZ,simprocAttr,hn,hS1.ld 0 rfl,h1]
 refine jA (fun h2=> ?_) (fun h2=> ?_)
 ·simp(disch:=omega) only[↓RA,RZ,simprocAttr,hn,b3J,h1,h2]
  refine⟨?_,hS1.forget⟩;unfold tG;(repeat' split);all_goals first|rfl|omega
 simp(disch:=omega) only[↓RA,RZ,simprocAttr,hn,hS1.ld 0 rfl,h1,h2]
 refine jA (fun h3=> ?_) (fun h3=> ?_)
 ·simp(disch:=omega) only[↓RA,RZ,simprocAttr,hn,b3J,h1,h2,h3]
  refine⟨?_,hS1.forget⟩;unfold tG;(repeat' split);all_goals first|rfl|omega
 simp(disch:=omega) only[↓RA,RZ,simprocAttr,hn,b3J,h1,h2,h3]
 refine⟨?_,hS1.forget⟩;unfold tG;(repeat' split);all_goals first|rfl|omega
def mX(f:Nat→Int)(n:Nat):Int:=match (List.range n).find? (fun j=>decide (f j≠0))with|some j=>f j|none=>0
theorem rO(f:Nat→Int)(n i:Nat)(hi:i<n)(hp:f i≠0)(h0:∀j,j<i→f j=0):mX f n=f i:=by
 unfold mX
 rw[zQ _ n i hi (by simpa using hp) (fun j hj=>by simpa using h0 j hj)]
theorem lZ(f:Nat→Int)(n:Nat)(h0:∀j,j<n→f j=0):mX f n=0:=by
 unfold mX
 have:(List.range n).find? (fun j=>decide (f j≠0))=none:=by
  rw[gp]
  intro j hj
  simpa using h0 j (dS.1 hj)
 rw[this]
def vL(rs:List Rk)(lo hi:Int):Int:=if 60<rs.length then 4 else if mX (fun j=>rankE (jB rs j)) rs.length≠0 then mX (fun j=>rankE (jB rs j)) rs.length else tG lo hi
theorem c0h(rv:Value)(rs:List Rk)(lo hi:Int)(hr:Sl 6 Rk.cells H rv rs)(hrk:∀r∈rs,r.In H)(hl:rs.length<1000000000):
 Fn prog 172 [.agg #[rv,I lo,I hi]] H fun v H'=>v=I (vL rs lo hi)∧St prog H H' []:=by
 refine .aN func172 rfl (by kernel_rfl) (m:=26) rfl fun l hn g0=> ?_
 simp(disch:=omega) only[↓RA,RB,simprocAttr,g0]
 refine(sR H).eNew 3 [rv,I lo,I hi] rfl rfl (by simp[OC,((sR H).sl hr).cells.2.1]) b3X fun A1 H1 hS1=> ?_
 simp only[RT]at hS1
 simp(disch:=omega) only[↓RA,RZ,simprocAttr,hn,hS1.ld 0 rfl,(hS1.sl hr).len]
 refine jA (fun h=> ?_) (fun h=> ?_)
 ·simp(disch:=omega) only[↓RA,RZ,simprocAttr,hn,c1s,h]
  exact⟨by rw[vL,if_pos (by omega)],hS1.forget⟩
 simp(disch:=omega) only[↓RA,RZ,simprocAttr,hn,hS1.ld 0 rfl,(hS1.sl hr).len,h]
 refine Wp.ak (fun n l H'=>l.length=26∧get l 1=(ptr A1 0 3)∧get l 11=rv∧get l 12=I rs.length∧∃(i:Nat),(n+i=rs.length∧∀j,j<i→rankE (jB rs j)=0)∧get l 13=I i∧St prog H H' [⟨ptr A1 0 3,0,[rv,I lo,I hi]⟩]) rs.length ?_ ?_
 ·simp(disch:=omega) only[RB,RC,simprocAttr,hn]
  exact⟨0,⟨by omega,by simp⟩,rfl,hS1⟩
 rintro n l H2⟨hn,g1,g11,g12,i,⟨hi1,h0⟩,g13,hS2⟩
 simp(disch:=omega) only[↓RA,RB,simprocAttr,hn,g12,g13]
 refine jA (fun h1=> ?_) (fun h1=> ?_)
 ·simp(disch:=omega) only[↓RA,RZ,simprocAttr,hn,g11,g13,(hS2.sl hr).idx,(hS2.sl hr).ae,Rk.cells,h1]
  refine hS2.eNew 6 [(.string ⟨#[]⟩),(.string ⟨#[]⟩),I 0,I 0,I 0,(.slice none 0 0)] rfl rfl rfl wH fun A2 H3 hS3=> ?_
  simp only[RT]at hS3
  simp(disch:=omega) only[↓RA,RZ,simprocAttr,hn,h1]
  refine hS3.aa 1 rfl [(.string (jB rs i).name),(.string (jB rs i).tone),I (jB rs i).num,I (jB rs i).den,I (jB rs i).first,(jB rs i).wv] rfl (by simp[OC,(hS3.sl (hrk (jB rs i) (jE (by omega))).1).cells.2.1]) wH (by simp) fun H4 hS4=> ?_
  simp only[RT]at hS4
  simp(disch:=omega) only[↓RA,RZ,simprocAttr,hn,hS4.ae 1 rfl,h1]
  refine hS4.cF (b4s (jB rs i) ((hrk _ (jE (by omega))).ag hS4)) fun H5 hS5=> ?_
  simp(disch:=omega) only[↓RA,RZ,simprocAttr,hn,h1]
  refine jA (fun h2=> ?_) (fun h2=> ?_)
  ·simp(disch:=omega) only[↓RA,RZ,simprocAttr,hn,c1s,h1,h2]
   refine⟨?_,hS5.forget⟩
   rw[vL,if_neg (by omega),rO _ rs.length i (by omega) h2 h0,if_pos h2]
  simp(disch:=omega) only[↓RA,RZ,simprocAttr,hn,g1,g11,g12,g13,h1,h2]
  exact⟨n-1,by omega,i+1,⟨by omega,fun j hj=>by rcases dK.1 hj with e|e;(· exact h0 j e);(· rw[e];exact dX.1 h2)⟩,by simp,hS5.sub (by simp)⟩
 simp(disch:=omega) only[↓RA,RZ,simprocAttr,hn,g1,hS2.ae 0 rfl,h1]
 refine hS2.cF (a3e lo hi) fun H6 hS6=> ?_
 simp(disch:=omega) only[↓RA,RZ,simprocAttr,hn,c1s,h1]
 refine⟨?_,hS6.forget⟩
 have e:=lZ (fun j=>rankE (jB rs j)) rs.length fun j hj=>h0 j (by omega)
 rw[vL,if_neg (by omega),if_neg (by rw[e];simp)]
theorem Drw.eq(a b:Drw):(a.rank=b.rank∧a.shift=b.shift)↔b=a:=by
 cases a;cases b;simp[eq_comm]
theorem b6n(v:Value)(xs:List Drw)(hv:Sl 2 Drw.cells H v xs)(hl:xs.length<1000000000)(d:Drw):
 Fn prog 229 [v,.agg #[I d.rank,I d.shift]] H fun r H'=>r=I (qS (fun j=>decide (jB xs j=d)) xs.length)∧St prog H H' []:=by
 refine .aE func229 rfl (by kernel_rfl) (m:=19) rfl fun l hn g0 g1=> ?_
 simp(disch:=omega) only[↓RA,RB,simprocAttr,g1]
 refine(sR H).eNew 2 [I d.rank,I d.shift] rfl rfl rfl a2C fun A1 H1 hS1=> ?_
 simp only[RT]at hS1
 simp(disch:=omega) only[↓RA,RZ,simprocAttr,hn,g0,(hS1.sl hv).len]
 refine Wp.ak (fun n l H'=>l.length=19∧get l 0=v∧get l 3=(ptr A1 0 2)∧get l 7=I xs.length∧∃(j:Nat),(n+j=xs.length∧∀q,q<j→decide (jB xs q=d)=false)∧get l 8=I j∧St prog H H' [⟨ptr A1 0 2,0,[I d.rank,I d.shift]⟩]) xs.length ?_ ?_
 ·simp(disch:=omega) only[RB,RC,simprocAttr,hn,g0]
  exact⟨0,⟨by omega,fun q hq=>absurd hq (eu _)⟩,rfl,hS1⟩
 rintro n l H2⟨hn,g0,g3,g7,j,⟨hi,h0⟩,g8,hS2⟩
 simp(disch:=omega) only[↓RA,RB,simprocAttr,hn,g7,g8]
 refine jA (fun h=> ?_) (fun h=> ?_)
 ·simp(disch:=omega) only[↓RA,RZ,simprocAttr,hn,g8,h]
  refine Wp.drw kQ (by kernel_rfl) ?_
  simp(disch:=omega) only[↓RA,RZ,simprocAttr,hn,g0,g3,hS2.ae 0 rfl,(hS2.sl hv).idx,(hS2.sl hv).ae,Drw.cells]
  refine jA (fun hp=> ?_) (fun hp=> ?_)
  ·simp(disch:=omega) only[↓RA,RZ,simprocAttr,hn,c5j,hp]
   exact⟨by rw[vZ _ xs.length j (by omega) (by simpa using(Drw.eq _ _).1 hp) h0],hS2.forget⟩
  simp(disch:=omega) only[↓RA,RZ,simprocAttr,hn,g0,g3,g7,g8,hp]
  exact⟨n-1,by omega,j+1,⟨by omega,fun q hq=>by rcases dK.1 hq with e|e;(· exact h0 q e);(· rw[e];simpa using fun hh=>hp ((Drw.eq _ _).2 hh))⟩,by simp,hS2⟩
 simp(disch:=omega) only[↓RA,RZ,simprocAttr,hn,c5j,h]
 exact⟨by rw[vO _ xs.length fun q hq=>h0 q (by omega)],hS2.forget⟩
theorem c4g(v:Value)(xs:List Drw)(hv:Sl 2 Drw.cells H v xs)(hl:xs.length<1000000000)(d:Drw):
 Fn prog 198 [v,.agg #[I d.rank,I d.shift]] H fun r H'=>r=.bool (decide (d∈xs))∧St prog H H' []:=by
 have e:decide (0≤qS (fun j=>decide (jB xs j=d)) xs.length)=decide (d∈xs):=by
  rw[fc,decide_eq_true_iff,decide_eq_true_iff,yY]
  constructor
  ·rintro⟨j,hj,hp⟩
   rw[←of_decide_eq_true hp];exact jE hj
  ·intro hx
   obtain⟨j,hj,rfl⟩:=eF.1 hx
   exact⟨j,hj,by rw[jR xs j hj];simp⟩
 refine .aE func198 rfl (by kernel_rfl) (m:=9) rfl fun l hn g0 g1=> ?_
 simp(disch:=omega) only[↓RA,RB,simprocAttr,g1]
 refine(sR H).eNew 2 [I d.rank,I d.shift] rfl rfl rfl a2C fun A1 H1 hS1=> ?_
 simp only[RT]at hS1
 simp(disch:=omega) only[↓RA,RZ,simprocAttr,hn,g0,hS1.ae 0 rfl]
 refine hS1.cF (b6n v xs (hS1.sl hv) hl d) fun H2 hS2=> ?_
 simp(disch:=omega) only[↓RA,RB,simprocAttr,hn,c9V]
 rw[←e]
 first|exact hS2.forget|exact⟨rfl,hS2.forget⟩
def lN(m:Nat)(l:List Drw)(j:Nat):Int:=if(jB l j).rank<0∨m≤(jB l j).rank then 10 else if(jB l j).shift< -127∨127<(jB l j).shift then 3 else if jB l j∈l.take j then 9 else 0
def mS(m:Nat)(l:List Drw):Int:=if 8<l.length then 4 else mX (lN m l) l.length
theorem b0L(rv:Value)(rs:List Rk)(lo hi:Int)(hr:Sl 6 Rk.cells H rv rs)(hl:rs.length<1000000000)(dv:Value)(ds:List Drw)(hd:Sl 2 Drw.cells H dv ds)(hl2:ds.length<1000000000):
 Fn prog 173 [.agg #[rv,I lo,I hi],dv] H fun v H'=>v=I (mS rs.length ds)∧St prog H H' []:=by
 refine .aE func173 rfl (by kernel_rfl) (m:=45) rfl fun l hn g0 g1=> ?_
 simp(disch:=omega) only[↓RA,RB,simprocAttr,g0]
 refine(sR H).eNew 3 [rv,I lo,I hi] rfl rfl (by simp[OC,((sR H).sl hr).cells.2.1]) b3X fun A1 H1 hS1=> ?_
 simp only[RT]at hS1
 simp(disch:=omega) only[↓RA,RZ,simprocAttr,hn,g1,(hS1.sl hd).len]
 refine jA (fun h=> ?_) (fun h=> ?_)
 ·simp(disch:=omega) only[↓RA,RZ,simprocAttr,hn,a3D,h]
  exact⟨by rw[mS,if_pos (by omega)],hS1.forget⟩
 simp(disch:=omega) only[↓RA,RZ,simprocAttr,hn,g1,(hS1.sl hd).len,h]
 refine Wp.ak (fun n l H'=>l.length=45∧get l 1=dv∧get l 2=(ptr A1 0 3)∧get l 10=dv∧get l 11=I ds.length∧∃(i:Nat),(n+i=ds.length∧∀j,j<i→lN rs.length ds j=0)∧get l 12=I i∧St prog H H' [⟨ptr A1 0 3,0,[rv,I lo,I hi]⟩]) ds.length ?_ ?_
 ·simp(disch:=omega) only[RB,RC,simprocAttr,hn,g1]
  exact⟨0,⟨by omega,by simp⟩,rfl,hS1⟩
 rintro n l H2⟨hn,g1,g2,wW,g11,i,⟨hi1,h0⟩,g12,hS2⟩
 simp(disch:=omega) only[↓RA,RB,simprocAttr,hn,g11,g12]
 refine jA (fun h1=> ?_) (fun h1=> ?_)
 ·have key:lN rs.length ds i≠0→mS rs.length ds=lN rs.length ds i:=fun hne=>by rw[mS,if_neg (by omega),rO _ ds.length i (by omega) hne h0]
  simp(disch:=omega) only[↓RA,RZ,simprocAttr,hn,wW,g12,(hS2.sl hd).idx,(hS2.sl hd).ae,Drw.cells,h1]
  refine hS2.eNew 2 [I 0,I 0] rfl rfl rfl a2C fun A2 H3 hS3=> ?_
  simp only[RT]at hS3
  simp(disch:=omega) only[↓RA,RZ,simprocAttr,hn,h1]
  refine hS3.aa 1 rfl [I (jB ds i).rank,I (jB ds i).shift] rfl rfl a2C (by simp) fun H4 hS4=> ?_
  simp only[RT]at hS4
  simp(disch:=omega) only[↓RA,RZ,simprocAttr,hn,hS4.ld 1 rfl,h1]
  refine jL (fun h1=> ?_) (fun h1=> ?_)
  ·simp(disch:=omega) only[↓RA,RZ,simprocAttr,hn,a3D,h1]
   (first|(have e1:lN rs.length ds i=10:=by rw[lN,if_pos (by omega)]);exact⟨by rw[key (by rw[e1];decide),e1],hS4.forget⟩|(have e1:lN rs.length ds i=3:=by rw[lN,if_neg (by omega),if_pos (by omega)]);exact⟨by rw[key (by rw[e1];decide),e1],hS4.forget⟩|(have e1:lN rs.length ds i=9:=by rw[lN,if_neg (by omega),if_neg (by omega),if_pos (by simp_all)]);exact⟨by rw[key (by rw[e1];decide),e1],hS4.forget⟩)
  simp(disch:=omega) only[↓RA,RZ,simprocAttr,hn,g2,hS4.ld 1 rfl,hS4.ld 0 rfl,(hS4.sl hr).len,h1]
  refine jA (fun h2=> ?_) (fun h2=> ?_)
  ·simp(disch:=omega) only[↓RA,RZ,simprocAttr,hn,a3D,h1,h2]
   (first|(have e1:lN rs.length ds i=10:=by rw[lN,if_pos (by omega)]);exact⟨by rw[key (by rw[e1];decide),e1],hS4.forget⟩|(have e1:lN rs.length ds i=3:=by rw[lN,if_neg (by omega),if_pos (by omega)]);exact⟨by rw[key (by rw[e1];decide),e1],hS4.forget⟩|(have e1:lN rs.length ds i=9:=by rw[lN,if_neg (by omega),if_neg (by omega),if_pos (by simp_all)]);exact⟨by rw[key (by rw[e1];decide),e1],hS4.forget⟩)
  simp(disch:=omega) only[↓RA,RZ,simprocAttr,hn,hS4.ld 1 rfl,h1,h2]
  refine jL (fun h3=> ?_) (fun h3=> ?_)
  ·simp(disch:=omega) only[↓RA,RZ,simprocAttr,hn,a3D,h1,h2,h3]
   (first|(have e1:lN rs.length ds i=10:=by rw[lN,if_pos (by omega)]);exact⟨by rw[key (by rw[e1];decide),e1],hS4.forget⟩|(have e1:lN rs.length ds i=3:=by rw[lN,if_neg (by omega),if_pos (by omega)]);exact⟨by rw[key (by rw[e1];decide),e1],hS4.forget⟩|(have e1:lN rs.length ds i=9:=by rw[lN,if_neg (by omega),if_neg (by omega),if_pos (by simp_all)]);exact⟨by rw[key (by rw[e1];decide),e1],hS4.forget⟩)
  simp(disch:=omega) only[↓RA,RZ,simprocAttr,hn,hS4.ld 1 rfl,h1,h2,h3]
  refine jA (fun h4=> ?_) (fun h4=> ?_)
  ·simp(disch:=omega) only[↓RA,RZ,simprocAttr,hn,a3D,h1,h2,h3,h4]
   (first|(have e1:lN rs.length ds i=10:=by rw[lN,if_pos (by omega)]);exact⟨by rw[key (by rw[e1];decide),e1],hS4.forget⟩|(have e1:lN rs.length ds i=3:=by rw[lN,if_neg (by omega),if_pos (by omega)]);exact⟨by rw[key (by rw[e1];decide),e1],hS4.forget⟩|(have e1:lN rs.length ds i=9:=by rw[lN,if_neg (by omega),if_neg (by omega),if_pos (by simp_all)]);exact⟨by rw[key (by rw[e1];decide),e1],hS4.forget⟩)
  simp(disch:=omega) only[↓RA,RZ,simprocAttr,h1,h2,h3,h4]
  refine Wp.drw kQ (by kernel_rfl) ?_
  simp(disch:=omega) only[↓RA,RZ,simprocAttr,hn,g1,(hS4.sl hd).aS,hS4.ae 1 rfl]
  refine hS4.cF (c4g _ (ds.take i) ((hS4.sl hd).cT i (by omega) (by omega)) (by simp;omega) (jB ds i)) fun H5 hS5=> ?_
  simp(disch:=omega) only[↓RA,RB,simprocAttr,hn]
  refine jA (fun h5=> ?_) (fun h5=> ?_)
  ·simp(disch:=omega) only[↓RA,RZ,simprocAttr,hn,a3D,h5]
   (first|(have e1:lN rs.length ds i=10:=by rw[lN,if_pos (by omega)]);exact⟨by rw[key (by rw[e1];decide),e1],hS5.forget⟩|(have e1:lN rs.length ds i=3:=by rw[lN,if_neg (by omega),if_pos (by omega)]);exact⟨by rw[key (by rw[e1];decide),e1],hS5.forget⟩|(have e1:lN rs.length ds i=9:=by rw[lN,if_neg (by omega),if_neg (by omega),if_pos (by simp_all)]);exact⟨by rw[key (by rw[e1];decide),e1],hS5.forget⟩)
  simp(disch:=omega) only[↓RA,RZ,simprocAttr,hn,g1,g2,wW,g11,g12,h5]
  have e0:lN rs.length ds i=0:=by rw[lN,if_neg (by omega),if_neg (by omega),if_neg (by simp_all)]
  exact⟨n-1,by omega,i+1,⟨by omega,fun j hj=>by rcases dK.1 hj with e|e;(· exact h0 j e);(· rw[e];exact e0)⟩,by simp,hS5.sub (by simp)⟩
 simp(disch:=omega) only[↓RA,RZ,simprocAttr,hn,a3D,h1]
 exact⟨by rw[mS,if_neg (by omega),lZ _ _ fun j hj=>h0 j (by omega)],hS2.forget⟩
def mD(lo hi:Int)(m:Nat)(gs:List Seg)(j:Nat):Int:=if min (jB gs j).lo (jB gs j).hi<lo∨hi<max (jB gs j).lo (jB gs j).hi then 23 else if(jB gs j).hi<(jB gs j).lo∨(0<j∧(jB gs j).lo≤(jB gs (j-1)).hi)then 6 else mS m (jB gs j).draws
def stopE(rs:List Rk)(lo hi:Int)(s:Stp):Int:=if vL rs lo hi≠0 then vL rs lo hi else if lO s.name=false then 8 else if pA s.num s.den≠0 then pA s.num s.den else if s.segs.length=0 then 13 else if 12<s.segs.length then 4 else mX (mD lo hi rs.length s.segs) s.segs.length
theorem c3P(rv:Value)(rs:List Rk)(lo hi:Int)(hr:Sl 6 Rk.cells H rv rs)(hrk:∀r∈rs,r.In H)(hl:rs.length<1000000000)(s:Stp)(hs:s.In H):
 Fn prog 127 [.agg #[rv,I lo,I hi],.agg #[.string s.name,I s.num,I s.den,s.gv]] H fun v H'=>v=I (stopE rs lo hi s)∧St prog H H' []:=by
 have hl2:=hs.2.2
 refine .aE func127 rfl (by kernel_rfl) (m:=94) rfl fun l hn g0 g1=> ?_
 simp(disch:=omega) only[↓RA,RB,simprocAttr,g0]
 refine(sR H).eNew 3 [rv,I lo,I hi] rfl rfl (by simp[OC,((sR H).sl hr).cells.2.1]) b3X fun A1 H1 hS1=> ?_
 simp only[RT]at hS1
 simp(disch:=omega) only[↓RA,RB,simprocAttr,g1]
 refine hS1.eNew 4 [(.string s.name),I s.num,I s.den,s.gv] rfl rfl (by simp[OC,(hS1.sl hs.1).cells.2.1]) sC fun A2 H2 hS2=> ?_
 simp only[RT]at hS2
 simp(disch:=omega) only[↓RA,RZ,simprocAttr,hn,hS2.ae 0 rfl]
 refine hS2.cF (c0h rv rs lo hi (hS2.sl hr) (fun r h=>(hrk r h).ag hS2) hl) fun H3 hS3=> ?_
 simp(disch:=omega) only[↓RA,RB,simprocAttr,hn]
 refine jA (fun p1=> ?_) (fun p1=> ?_)
 ·simp(disch:=omega) only[↓RA,RZ,simprocAttr,hn,wK,p1]
  exact⟨by rw[stopE,if_pos p1],hS3.forget⟩
 simp(disch:=omega) only[↓RA,RZ,simprocAttr,hn,hS3.ld 1 rfl,p1]
 refine hS3.cF (sP s.name) fun H4 hS4=> ?_
 simp(disch:=omega) only[↓RA,RZ,simprocAttr,hn,p1]
 refine kA (fun p2=> ?_) (fun p2=> ?_)
 ·simp(disch:=omega) only[↓RA,RZ,simprocAttr,hn,wK,p1,p2]
  exact⟨by rw[stopE,if_neg p1,if_pos (by simpa using p2)],hS4.forget⟩
 have p2':¬lO s.name=false:=by simpa using p2
 simp(disch:=omega) only[↓RA,RZ,simprocAttr,hn,hS4.ae 1 rfl,p1,p2]
 refine hS4.cF (a3a s.num s.den) fun H5 hS5=> ?_
 simp(disch:=omega) only[↓RA,RZ,simprocAttr,hn,p1,p2]
 refine jA (fun p3=> ?_) (fun p3=> ?_)
 ·simp(disch:=omega) only[↓RA,RZ,simprocAttr,hn,wK,p1,p2,p3]
  exact⟨by rw[stopE,if_neg p1,if_neg p2',if_pos p3],hS5.forget⟩
 simp(disch:=omega) only[↓RA,RZ,simprocAttr,hn,hS5.ld 1 rfl,(hS5.sl hs.1).len,p1,p2,p3]
 refine jA (fun p4=> ?_) (fun p4=> ?_)
 ·simp(disch:=omega) only[↓RA,RZ,simprocAttr,hn,wK,p1,p2,p3,p4]
  exact⟨by rw[stopE,if_neg p1,if_neg p2',if_neg p3,if_pos (by omega)],hS5.forget⟩
 simp(disch:=omega) only[↓RA,RZ,simprocAttr,hn,hS5.ld 1 rfl,(hS5.sl hs.1).len,p1,p2,p3,p4]
 refine jA (fun p5=> ?_) (fun p5=> ?_)
 ·simp(disch:=omega) only[↓RA,RZ,simprocAttr,hn,wK,p1,p2,p3,p4,p5]
  exact⟨by rw[stopE,if_neg p1,if_neg p2',if_neg p3,if_neg (by omega),if_pos (by omega)],hS5.forget⟩
 have hE:stopE rs lo hi s=mX (mD lo hi rs.length s.segs) s.segs.length:=by rw[stopE,if_neg p1,if_neg p2',if_neg p3,if_neg (by omega),if_neg (by omega)]
 simp(disch:=omega) only[↓RA,RZ,simprocAttr,hn,hS5.ld 1 rfl,(hS5.sl hs.1).len,p1,p2,p3,p4,p5]
 refine Wp.ak (fun n l H'=>l.length=94∧get l 2=(ptr A1 0 3)∧get l 3=(ptr A2 0 4)∧get l 36=s.gv∧get l 37=I s.segs.length∧∃(i:Nat),(n+i=s.segs.length∧∀j,j<i→mD lo hi rs.length s.segs j=0)∧get l 38=I i∧St prog H H' [⟨ptr A1 0 3,0,[rv,I lo,I hi]⟩,⟨ptr A2 0 4,0,[(.string s.name),I s.num,I s.den,s.gv]⟩]) s.segs.length ?_ ?_
 ·simp(disch:=omega) only[RB,RC,simprocAttr,hn]
  exact⟨0,⟨by omega,by simp⟩,rfl,hS5⟩
 rintro n l H6⟨hn,g2,g3,g36,g37,i,⟨hi1,h0⟩,g38,hS6⟩
 simp(disch:=omega) only[↓RA,RB,simprocAttr,hn,g37,g38]
 refine jA (fun q1=> ?_) (fun q1=> ?_)
 ·have key:mD lo hi rs.length s.segs i≠0→stopE rs lo hi s=mD lo hi rs.length s.segs i:=fun hne=>by rw[hE,rO _ _ i (by omega) hne h0]
  have ei:((i:Int)-1).toNat=i-1:=by omega
  simp(disch:=omega) only[↓RA,RZ,simprocAttr,hn,g36,g38,(hS6.sl hs.1).idx,(hS6.sl hs.1).ae,Seg.cells,q1]
  refine hS6.eNew 3 [I 0,I 0,(.slice none 0 0)] rfl rfl rfl a3E fun A3 H7 hS7=> ?_
  simp only[RT]at hS7
  simp(disch:=omega) only[↓RA,RZ,simprocAttr,hn,q1]
  refine hS7.aa 2 rfl [I (jB s.segs i).lo,I (jB s.segs i).hi,(jB s.segs i).dv] rfl (by simp[OC,(hS7.sl (hs.2.1 (jB s.segs i) (jE (by omega))).1).cells.2.1]) a3E (by simp) fun H8 hS8=> ?_
  simp only[RT]at hS8
  simp(disch:=omega) only[↓RA,RZ,simprocAttr,hn,g2,hS8.ld 2 rfl,hS8.ld 0 rfl,q1]
  refine jL (fun h1=> ?_) (fun h1=> ?_)
  ·simp(disch:=omega) only[↓RA,RZ,simprocAttr,hn,wK,q1,h1]
   (first|(have e1:mD lo hi rs.length s.segs i=23:=by rw[mD,if_pos (by omega)]);exact⟨by rw[key (by rw[e1];decide),e1],hS8.forget⟩|(have e1:mD lo hi rs.length s.segs i=6:=by rw[mD,if_neg (by omega),if_pos (by omega)]);exact⟨by rw[key (by rw[e1];decide),e1],hS8.forget⟩|(have e1:mD lo hi rs.length s.segs i=mS rs.length (jB s.segs i).draws:=by rw[mD,if_neg (by omega),if_neg (by omega)]);exact⟨by rw[key (by rw[e1];assumption),e1],hS8.forget⟩)
  simp(disch:=omega) only[↓RA,RZ,simprocAttr,hn,g2,hS8.ld 2 rfl,hS8.ld 0 rfl,q1,h1]
  refine jA (fun h2=> ?_) (fun h2=> ?_)
  ·simp(disch:=omega) only[↓RA,RZ,simprocAttr,hn,wK,q1,h1,h2]
   (first|(have e1:mD lo hi rs.length s.segs i=23:=by rw[mD,if_pos (by omega)]);exact⟨by rw[key (by rw[e1];decide),e1],hS8.forget⟩|(have e1:mD lo hi rs.length s.segs i=6:=by rw[mD,if_neg (by omega),if_pos (by omega)]);exact⟨by rw[key (by rw[e1];decide),e1],hS8.forget⟩|(have e1:mD lo hi rs.length s.segs i=mS rs.length (jB s.segs i).draws:=by rw[mD,if_neg (by omega),if_neg (by omega)]);exact⟨by rw[key (by rw[e1];assumption),e1],hS8.forget⟩)
  simp(disch:=omega) only[↓RA,RZ,simprocAttr,q1,h1,h2]
  refine Wp.drw kQ (by kernel_rfl) ?_
  simp(disch:=omega) only[↓RA,RZ,simprocAttr,hn,hS8.ld 2 rfl]
  refine jL (fun h3=> ?_) (fun h3=> ?_)
  ·simp(disch:=omega) only[↓RA,RZ,simprocAttr,hn,wK,h3]
   (first|(have e1:mD lo hi rs.length s.segs i=23:=by rw[mD,if_pos (by omega)]);exact⟨by rw[key (by rw[e1];decide),e1],hS8.forget⟩|(have e1:mD lo hi rs.length s.segs i=6:=by rw[mD,if_neg (by omega),if_pos (by omega)]);exact⟨by rw[key (by rw[e1];decide),e1],hS8.forget⟩|(have e1:mD lo hi rs.length s.segs i=mS rs.length (jB s.segs i).draws:=by rw[mD,if_neg (by omega),if_neg (by omega)]);exact⟨by rw[key (by rw[e1];assumption),e1],hS8.forget⟩)
  simp(disch:=omega) only[↓RA,RZ,simprocAttr,hn,h3]
  refine jW (fun h4=> ?_) (fun h4=> ?_)
  ·simp(disch:=omega) only[↓RA,RZ,simprocAttr,hn,g3,hS8.ld 2 rfl,hS8.ld 1 rfl,(hS8.sl hs.1).idx,(hS8.sl hs.1).aZ,(hS8.sl hs.1).ld,Seg.cells,ei,h3,h4]
   refine jA (fun h5=> ?_) (fun h5=> ?_)
   ·simp(disch:=omega) only[↓RA,RZ,simprocAttr,hn,wK,h3,h4,h5]
    (first|(have e1:mD lo hi rs.length s.segs i=23:=by rw[mD,if_pos (by omega)]);exact⟨by rw[key (by rw[e1];decide),e1],hS8.forget⟩|(have e1:mD lo hi rs.length s.segs i=6:=by rw[mD,if_neg (by omega),if_pos (by omega)]);exact⟨by rw[key (by rw[e1];decide),e1],hS8.forget⟩|(have e1:mD lo hi rs.length s.segs i=mS rs.length (jB s.segs i).draws:=by rw[mD,if_neg (by omega),if_neg (by omega)]);exact⟨by rw[key (by rw[e1];assumption),e1],hS8.forget⟩)
   simp(disch:=omega) only[↓RA,RZ,simprocAttr,hn,g2,hS8.ae 0 rfl,hS8.ld 2 rfl,h3,h4,h5]
   refine hS8.cF (b0L rv rs lo hi (hS8.sl hr) hl _ _ (hS8.sl (hs.2.1 _ (jE (by omega))).1) (hs.2.1 _ (jE (by omega))).2) fun H9 hS9=> ?_
   simp(disch:=omega) only[↓RA,RZ,simprocAttr,hn,h3,h4,h5]
   refine jA (fun h6=> ?_) (fun h6=> ?_)
   ·simp(disch:=omega) only[↓RA,RZ,simprocAttr,hn,wK,h3,h4,h5,h6]
    (first|(have e1:mD lo hi rs.length s.segs i=23:=by rw[mD,if_pos (by omega)]);exact⟨by rw[key (by rw[e1];decide),e1],hS9.forget⟩|(have e1:mD lo hi rs.length s.segs i=6:=by rw[mD,if_neg (by omega),if_pos (by omega)]);exact⟨by rw[key (by rw[e1];decide),e1],hS9.forget⟩|(have e1:mD lo hi rs.length s.segs i=mS rs.length (jB s.segs i).draws:=by rw[mD,if_neg (by omega),if_neg (by omega)]);exact⟨by rw[key (by rw[e1];assumption),e1],hS9.forget⟩)
   simp(disch:=omega) only[↓RA,RZ,simprocAttr,hn,g2,g3,g36,g37,g38,h3,h4,h5,h6]
   have e0:mD lo hi rs.length s.segs i=0:=by rw[mD,if_neg (by omega),if_neg (by omega)];omega
   exact⟨n-1,by omega,i+1,⟨by omega,fun j hj=>by rcases dK.1 hj with e|e;(· exact h0 j e);(· rw[e];exact e0)⟩,by simp,hS9.sub (by simp)⟩
  simp(disch:=omega) only[↓RA,RZ,simprocAttr,hn,g2,hS8.ae 0 rfl,hS8.ld 2 rfl,h3,h4]
  refine hS8.cF (b0L rv rs lo hi (hS8.sl hr) hl _ _ (hS8.sl (hs.2.1 _ (jE (by omega))).1) (hs.2.1 _ (jE (by omega))).2) fun H10 hS10=> ?_
  simp(disch:=omega) only[↓RA,RZ,simprocAttr,hn,h3,h4]
  refine jA (fun h7=> ?_) (fun h7=> ?_)
  ·simp(disch:=omega) only[↓RA,RZ,simprocAttr,hn,wK,h3,h4,h7]
   (first|(have e1:mD lo hi rs.length s.segs i=23:=by rw[mD,if_pos (by omega)]);exact⟨by rw[key (by rw[e1];decide),e1],hS10.forget⟩|(have e1:mD lo hi rs.length s.segs i=6:=by rw[mD,if_neg (by omega),if_pos (by omega)]);exact⟨by rw[key (by rw[e1];decide),e1],hS10.forget⟩|(have e1:mD lo hi rs.length s.segs i=mS rs.length (jB s.segs i).draws:=by rw[mD,if_neg (by omega),if_neg (by omega)]);exact⟨by rw[key (by rw[e1];assumption),e1],hS10.forget⟩)
  simp(disch:=omega) only[↓RA,RZ,simprocAttr,hn,g2,g3,g36,g37,g38,h3,h4,h7]
  have e0:mD lo hi rs.length s.segs i=0:=by rw[mD,if_neg (by omega),if_neg (by omega)];omega
  exact⟨n-1,by omega,i+1,⟨by omega,fun j hj=>by rcases dK.1 hj with e|e;(· exact h0 j e);(· rw[e];exact e0)⟩,by simp,hS10.sub (by simp)⟩
 simp(disch:=omega) only[↓RA,RZ,simprocAttr,hn,wK,q1]
 exact⟨by rw[hE,lZ _ _ fun j hj=>h0 j (by omega)],hS6.forget⟩
theorem c2M(v:Value)(xs:List Cpl)(hv:Sl 5 Cpl.cells H v xs)(hl:xs.length<1000000000)(k:FuncId)(caps:List Value)(p:Nat→Bool)
 (hf:∀j H1,j<xs.length→St prog H H1 []→Fn prog k (.agg #[.string (jB xs j).name,I (jB xs j).src,I (jB xs j).dst,I (jB xs j).shift,.bool (jB xs j).thr]::caps) H1 fun r H2=>r=.bool (p j)∧St prog H1 H2 []):
 Fn prog 174 [v,.func (.func k) #[] caps.toArray] H fun r H'=>r=I (qS p xs.length)∧St prog H H' []:=by
 refine .aE func174 rfl (by kernel_rfl) (m:=19) rfl fun l hn g0 g1=> ?_
 simp(disch:=omega) only[↓RA,RZ,simprocAttr,hn,g0,((sR H).sl hv).len]
 refine Wp.ak (fun n l H'=>l.length=19∧get l 0=v∧get l 1=.func (.func k) #[] caps.toArray∧get l 7=I xs.length∧∃(j:Nat),(n+j=xs.length∧∀q,q<j→p q=false)∧get l 8=I j∧St prog H H' []) xs.length ?_ ?_
 ·simp(disch:=omega) only[RB,RC,simprocAttr,hn,g0,g1]
  exact⟨0,⟨by omega,fun q hq=>absurd hq (eu _)⟩,rfl,(sR H)⟩
 rintro n l H1⟨hn,g0,g1,g7,j,⟨hi,h0⟩,g8,hS1⟩
 simp(disch:=omega) only[↓RA,RB,simprocAttr,hn,g7,g8]
 refine jA (fun h=> ?_) (fun h=> ?_)
 ·simp(disch:=omega) only[↓RA,RZ,simprocAttr,hn,g0,g1,g8,(hS1.sl hv).idx,(hS1.sl hv).ae,Cpl.cells,h]
  refine hS1.cF (hf j _ (by omega) hS1) fun H2 hS2=> ?_
  simp(disch:=omega) only[↓RA,RZ,simprocAttr,hn,h]
  refine kA (fun hp=> ?_) (fun hp=> ?_)
  ·simp(disch:=omega) only[↓RA,RZ,simprocAttr,hn,c5U,h,hp]
   exact⟨by rw[vZ p xs.length j (by omega) hp h0],hS2⟩
  simp(disch:=omega) only[↓RA,RZ,simprocAttr,hn,g0,g1,g7,g8,h,hp]
  exact⟨n-1,by omega,j+1,⟨by omega,fun q hq=>by rcases dK.1 hq with e|e;(· exact h0 q e);(· rw[e];exact hp)⟩,by simp,hS2⟩
 simp(disch:=omega) only[↓RA,RZ,simprocAttr,hn,c5U,h]
 exact⟨by rw[vO p xs.length fun q hq=>h0 q (by omega)],hS1⟩
theorem c2X(v:Value)(xs:List Cpl)(hv:Sl 5 Cpl.cells H v xs)(hl:xs.length<1000000000)(k:FuncId)(caps:List Value)(p:Nat→Bool)
 (hf:∀j H1,j<xs.length→St prog H H1 []→Fn prog k (.agg #[.string (jB xs j).name,I (jB xs j).src,I (jB xs j).dst,I (jB xs j).shift,.bool (jB xs j).thr]::caps) H1 fun r H2=>r=.bool (p j)∧St prog H1 H2 []):
 Fn prog 128 [v,.func (.func k) #[] caps.toArray] H fun r H'=>r=.bool (decide (0≤qS p xs.length))∧St prog H H' []:=by
 refine .aE func128 rfl (by kernel_rfl) (m:=9) rfl fun l hn g0 g1=> ?_
 simp(disch:=omega) only[↓RA,RZ,simprocAttr,hn,g0,g1]
 refine(sR H).cF (c2M v xs hv hl k caps p hf) fun H1 hS1=> ?_
 simp(disch:=omega) only[↓RA,RZ,simprocAttr,hn,d0b]
 first|exact hS1|exact⟨rfl,hS1⟩
theorem b1c(c:Cpl)(A:Nat)(d:Cpl)(hA:Var H A 5 d.cells):Fn prog 129 [.agg #[.string c.name,I c.src,I c.dst,I c.shift,.bool c.thr],ptr A 0 5] H fun r H'=>r=.bool (decide (c.name=d.name))∧St prog H H' []:=by
 refine .aE func129 rfl (by kernel_rfl) (m:=9) rfl fun l hn g0 g1=> ?_
 simp(disch:=omega) only[↓RA,RB,simprocAttr,g0]
 refine(sR H).eNew 5 [(.string c.name),I c.src,I c.dst,I c.shift,(.bool c.thr)] rfl rfl rfl zP fun A1 H1 hS1=> ?_
 simp only[RT]at hS1
 simp(disch:=omega) only[↓RA,RZ,simprocAttr,hn,g1,hS1.ld 0 rfl,(hS1.va hA).ld,c9U,Cpl.cells]
 first|exact hS1.forget|exact⟨rfl,hS1.forget⟩
def nV(m:Nat)(cs:List Cpl)(j:Nat):Int:=
 let c:=jB cs j
 if lO c.name=false then 8 else if ∃q,q<j∧(jB cs q).name=c.name then 9 else if c.src<0∨m≤c.src∨c.dst<0∨m≤c.dst then 10 else if c.shift< -127∨127<c.shift then 3 else if c.src=c.dst∧c.shift=0 then 7 else 0
def tX(ks:List (Int×Int))(cs:List Cpl):Int:=if 8<ks.length∨40<cs.length then 4 else if ∃k∈ks,tG k.1 k.2≠0 then 23 else mX (nV ks.length cs) cs.length
def kpc(k:Int×Int):List Value:=[I k.1,I k.2]
theorem a8v{α:Type}[Inhabited α](xs:List α)(i j:Nat)(h:j<i):jB (xs.take i) j=jB xs j:=by
 unfold jB
 rw[dE,dE,eJ h]
theorem a9w(kv cv:Value)(ks:List (Int×Int))(cs:List Cpl)(hk:Sl 2 kpc H kv ks)(hc:Sl 5 Cpl.cells H cv cs)(hl:ks.length<1000000000)(hl2:cs.length<1000000000):
 Fn prog 91 [kv,cv] H fun v H'=>v=I (tX ks cs)∧St prog H H' []:=by
 refine .aE func91 rfl (by kernel_rfl) (m:=89) rfl fun l hn g0 g1=> ?_
 simp(disch:=omega) only[↓RA,RZ,simprocAttr,hn,g0,((sR H).sl hk).len]
 refine jL (fun p1=> ?_) (fun p1=> ?_)
 ·simp(disch:=omega) only[↓RA,RZ,simprocAttr,hn,a2i,p1]
  exact⟨by rw[tX,if_pos (by omega)],(sR H)⟩
 simp(disch:=omega) only[↓RA,RZ,simprocAttr,hn,g1,((sR H).sl hc).len,p1]
 refine jA (fun p2=> ?_) (fun p2=> ?_)
 ·simp(disch:=omega) only[↓RA,RZ,simprocAttr,hn,a2i,p1,p2]
  exact⟨by rw[tX,if_pos (by omega)],(sR H)⟩
 simp(disch:=omega) only[↓RA,RZ,simprocAttr,hn,g0,((sR H).sl hk).len,p1,p2]
 refine Wp.ak (fun n l H'=>l.length=89∧get l 0=kv∧get l 1=cv∧get l 17=kv∧get l 18=I ks.length∧∃(i:Nat),(n+i=ks.length∧∀j,j<i→tG (jB ks j).1 (jB ks j).2=0)∧get l 19=I i∧St prog H H' []) ks.length ?_ ?_
 ·simp(disch:=omega) only[RB,RC,simprocAttr,hn,g0,g1]
  exact⟨0,⟨by omega,by simp⟩,rfl,(sR H)⟩
 rintro n l H1⟨hn,g0,g1,g17,g18,i,⟨hi1,h0⟩,g19,hS1⟩
 simp(disch:=omega) only[↓RA,RB,simprocAttr,hn,g18,g19]
 refine jA (fun p3=> ?_) (fun p3=> ?_)
 ·simp(disch:=omega) only[↓RA,RZ,simprocAttr,hn,g17,g19,(hS1.sl hk).idx,(hS1.sl hk).ae,kpc,p3]
  refine hS1.eNew 2 [I 0,I 0] rfl rfl rfl rZ fun A1 H2 hS2=> ?_
  simp only[RT]at hS2
  simp(disch:=omega) only[↓RA,RZ,simprocAttr,hn,p3]
  refine hS2.aa 0 rfl [I (jB ks i).1,I (jB ks i).2] rfl rfl rZ (by simp) fun H3 hS3=> ?_
  simp only[RT]at hS3
  simp(disch:=omega) only[↓RA,RZ,simprocAttr,hn,hS3.ae 0 rfl,p3]
  refine hS3.cF (a3e _ _) fun H4 hS4=> ?_
  simp(disch:=omega) only[↓RA,RZ,simprocAttr,hn,p3]
  refine jA (fun p4=> ?_) (fun p4=> ?_)
  ·simp(disch:=omega) only[↓RA,RZ,simprocAttr,hn,a2i,p3,p4]
   exact⟨by rw[tX,if_neg (by omega),if_pos ⟨_,jE (by omega),p4⟩],hS4.forget⟩
  simp(disch:=omega) only[↓RA,RZ,simprocAttr,hn,g0,g1,g17,g18,g19,p3,p4]
  exact⟨n-1,by omega,i+1,⟨by omega,fun j hj=>by rcases dK.1 hj with e|e;(· exact h0 j e);(· rw[e];exact dX.1 p4)⟩,by simp,hS4.sub (by simp)⟩
 have hE:tX ks cs=mX (nV ks.length cs) cs.length:=by
  rw[tX,if_neg (by omega),if_neg]
  rintro⟨k,hk,hne⟩
  obtain⟨j,hj,rfl⟩:=eF.1 hk
  rw[←jR ks j hj]at hne
  exact hne (h0 j (by omega))
 simp(disch:=omega) only[↓RA,RZ,simprocAttr,hn,g1,(hS1.sl hc).len,p3]
 refine Wp.ak (fun n l H'=>l.length=89∧get l 0=kv∧get l 1=cv∧get l 27=cv∧get l 28=I cs.length∧∃(i:Nat),(n+i=cs.length∧∀j,j<i→nV ks.length cs j=0)∧get l 29=I i∧St prog H H' []) cs.length ?_ ?_
 ·simp(disch:=omega) only[RB,RC,simprocAttr,hn,g0,g1]
  exact⟨0,⟨by omega,by simp⟩,rfl,hS1⟩
 rintro n l H5⟨hn,g0,g1,g27,g28,i,⟨hi2,hz⟩,g29,hS5⟩
 simp(disch:=omega) only[↓RA,RB,simprocAttr,hn,g28,g29]
 refine jA (fun q1=> ?_) (fun q1=> ?_)
 ·have key:nV ks.length cs i≠0→tX ks cs=nV ks.length cs i:=fun hne=>by rw[hE,rO _ _ i (by omega) hne hz]
  simp(disch:=omega) only[↓RA,RZ,simprocAttr,hn,g27,g29,(hS5.sl hc).idx,(hS5.sl hc).ae,Cpl.cells,q1]
  refine hS5.eNew 5 [(.string ⟨#[]⟩),I 0,I 0,I 0,(.bool false)] rfl rfl rfl zP fun A2 H6 hS6=> ?_
  simp only[RT]at hS6
  simp(disch:=omega) only[↓RA,RZ,simprocAttr,hn,q1]
  refine hS6.aa 0 rfl [(.string (jB cs i).name),I (jB cs i).src,I (jB cs i).dst,I (jB cs i).shift,(.bool (jB cs i).thr)] rfl rfl zP (by simp) fun H7 hS7=> ?_
  simp only[RT]at hS7
  simp(disch:=omega) only[↓RA,RZ,simprocAttr,hn,hS7.ld 0 rfl,q1]
  refine hS7.cF (sP _) fun H8 hS8=> ?_
  simp(disch:=omega) only[↓RA,RZ,simprocAttr,hn,q1]
  refine kA (fun q2=> ?_) (fun q2=> ?_)
  ·have e1:nV ks.length cs i=8:=by unfold nV;simp only;rw[if_pos (by simpa using q2)]
   simp(disch:=omega) only[↓RA,RZ,simprocAttr,hn,a2i,q1,q2]
   exact⟨by rw[key (by rw[e1];decide),e1],hS8.forget⟩
  have q2':¬lO (jB cs i).name=false:=by simpa using q2
  simp(disch:=omega) only[↓RA,RZ,simprocAttr,hn,g1,(hS8.sl hc).aS,q1,q2]
  have hA:=hS8.var 0 rfl
  refine hS8.cF (c2X _ (cs.take i) ((hS8.sl hc).cT i (by omega) (by omega)) (by simp;omega) 129 [ptr A2 0 5] (fun j=>decide ((jB (cs.take i) j).name=(jB cs i).name)) (fun j H1 hj hS'=>b1c _ A2 (jB cs i) (hS'.va hA))) fun H9 hS9=> ?_
  have hx:0≤qS (fun j=>decide ((jB (cs.take i) j).name=(jB cs i).name)) (cs.take i).length↔∃q,q<i∧(jB cs q).name=(jB cs i).name:=by
   rw[yY]
   constructor
   ·rintro⟨j,hj,hp⟩
    have hj':j<i:=by simp at hj;omega
    exact⟨j,hj',by rw[←a8v cs i j hj'];exact of_decide_eq_true hp⟩
   ·rintro⟨j,hj,hp⟩
    exact⟨j,by simp;omega,decide_eq_true (by rw[a8v cs i j hj];exact hp)⟩
  simp(disch:=omega) only[↓RA,RZ,simprocAttr,hn,q1,q2]
  refine jA (fun q3=> ?_) (fun q3=> ?_)
  ·have e1:nV ks.length cs i=9:=by unfold nV;simp only;rw[if_neg q2',if_pos (hx.1 q3)]
   simp(disch:=omega) only[↓RA,RZ,simprocAttr,hn,a2i,q1,q2,q3]
   exact⟨by rw[key (by rw[e1];decide),e1],hS9.forget⟩
  have q3':¬∃q,q<i∧(jB cs q).name=(jB cs i).name:=fun hh=>q3 (hx.2 hh)
  have hC:nV ks.length cs i=if(jB cs i).src<0∨ks.length≤(jB cs i).src∨(jB cs i).dst<0∨ks.length≤(jB cs i).dst then 10 else if(jB cs i).shift< -127∨127<(jB cs i).shift then 3 else if(jB cs i).src=(jB cs i).dst∧(jB cs i).shift=0 then 7 else 0:=by
   unfold nV;simp only;rw[if_neg q2',if_neg q3']
  clear hx
  simp(disch:=omega) only[↓RA,RZ,simprocAttr,hn,hS9.ld 0 rfl,q1,q2,q3]
  refine jL (fun h1=> ?_) (fun h1=> ?_)
  ·simp(disch:=omega) only[↓RA,RZ,simprocAttr,hn,a2i,q1,q2,q3,h1]
   (first|(have e1:nV ks.length cs i=10:=by rw[hC,if_pos (by omega)]);exact⟨by rw[key (by rw[e1];decide),e1],hS9.forget⟩|(have e1:nV ks.length cs i=3:=by rw[hC,if_neg (by omega),if_pos (by omega)]);exact⟨by rw[key (by rw[e1];decide),e1],hS9.forget⟩|(have e1:nV ks.length cs i=7:=by rw[hC,if_neg (by omega),if_neg (by omega),if_pos (by omega)]);exact⟨by rw[key (by rw[e1];decide),e1],hS9.forget⟩)
  simp(disch:=omega) only[↓RA,RZ,simprocAttr,hn,g0,hS9.ld 0 rfl,(hS9.sl hk).len,q1,q2,q3,h1]
  refine jL (fun h2=> ?_) (fun h2=> ?_)
  ·simp(disch:=omega) only[↓RA,RZ,simprocAttr,hn,a2i,q1,q2,q3,h1,h2]
   (first|(have e1:nV ks.length cs i=10:=by rw[hC,if_pos (by omega)]);exact⟨by rw[key (by rw[e1];decide),e1],hS9.forget⟩|(have e1:nV ks.length cs i=3:=by rw[hC,if_neg (by omega),if_pos (by omega)]);exact⟨by rw[key (by rw[e1];decide),e1],hS9.forget⟩|(have e1:nV ks.length cs i=7:=by rw[hC,if_neg (by omega),if_neg (by omega),if_pos (by omega)]);exact⟨by rw[key (by rw[e1];decide),e1],hS9.forget⟩)
  simp(disch:=omega) only[↓RA,RZ,simprocAttr,hn,hS9.ld 0 rfl,q1,q2,q3,h1,h2]
  refine jL (fun h3=> ?_) (fun h3=> ?_)
  ·simp(disch:=omega) only[↓RA,RZ,simprocAttr,hn,a2i,q1,q2,q3,h1,h2,h3]
   (first|(have e1:nV ks.length cs i=10:=by rw[hC,if_pos (by omega)]);exact⟨by rw[key (by rw[e1];decide),e1],hS9.forget⟩|(have e1:nV ks.length cs i=3:=by rw[hC,if_neg (by omega),if_pos (by omega)]);exact⟨by rw[key (by rw[e1];decide),e1],hS9.forget⟩|(have e1:nV ks.length cs i=7:=by rw[hC,if_neg (by omega),if_neg (by omega),if_pos (by omega)]);exact⟨by rw[key (by rw[e1];decide),e1],hS9.forget⟩)
  simp(disch:=omega) only[↓RA,RZ,simprocAttr,hn,g0,hS9.ld 0 rfl,(hS9.sl hk).len,q1,q2,q3,h1,h2,h3]
  refine jA (fun h4=> ?_) (fun h4=> ?_)
  ·simp(disch:=omega) only[↓RA,RZ,simprocAttr,hn,a2i,q1,q2,q3,h1,h2,h3,h4]
   (first|(have e1:nV ks.length cs i=10:=by rw[hC,if_pos (by omega)]);exact⟨by rw[key (by rw[e1];decide),e1],hS9.forget⟩|(have e1:nV ks.length cs i=3:=by rw[hC,if_neg (by omega),if_pos (by omega)]);exact⟨by rw[key (by rw[e1];decide),e1],hS9.forget⟩|(have e1:nV ks.length cs i=7:=by rw[hC,if_neg (by omega),if_neg (by omega),if_pos (by omega)]);exact⟨by rw[key (by rw[e1];decide),e1],hS9.forget⟩)
  simp(disch:=omega) only[↓RA,RZ,simprocAttr,hn,hS9.ld 0 rfl,q1,q2,q3,h1,h2,h3,h4]
  refine jL (fun h5=> ?_) (fun h5=> ?_)
  ·simp(disch:=omega) only[↓RA,RZ,simprocAttr,hn,a2i,q1,q2,q3,h1,h2,h3,h4,h5]
   (first|(have e1:nV ks.length cs i=10:=by rw[hC,if_pos (by omega)]);exact⟨by rw[key (by rw[e1];decide),e1],hS9.forget⟩|(have e1:nV ks.length cs i=3:=by rw[hC,if_neg (by omega),if_pos (by omega)]);exact⟨by rw[key (by rw[e1];decide),e1],hS9.forget⟩|(have e1:nV ks.length cs i=7:=by rw[hC,if_neg (by omega),if_neg (by omega),if_pos (by omega)]);exact⟨by rw[key (by rw[e1];decide),e1],hS9.forget⟩)
  simp(disch:=omega) only[↓RA,RZ,simprocAttr,hn,hS9.ld 0 rfl,q1,q2,q3,h1,h2,h3,h4,h5]
  refine jA (fun h6=> ?_) (fun h6=> ?_)
  ·simp(disch:=omega) only[↓RA,RZ,simprocAttr,hn,a2i,q1,q2,q3,h1,h2,h3,h4,h5,h6]
   (first|(have e1:nV ks.length cs i=10:=by rw[hC,if_pos (by omega)]);exact⟨by rw[key (by rw[e1];decide),e1],hS9.forget⟩|(have e1:nV ks.length cs i=3:=by rw[hC,if_neg (by omega),if_pos (by omega)]);exact⟨by rw[key (by rw[e1];decide),e1],hS9.forget⟩|(have e1:nV ks.length cs i=7:=by rw[hC,if_neg (by omega),if_neg (by omega),if_pos (by omega)]);exact⟨by rw[key (by rw[e1];decide),e1],hS9.forget⟩)
  simp(disch:=omega) only[↓RA,RZ,simprocAttr,hn,hS9.ld 0 rfl,q1,q2,q3,h1,h2,h3,h4,h5,h6]
  refine jW (fun h7=> ?_) (fun h7=> ?_)
  ·simp(disch:=omega) only[↓RA,RZ,simprocAttr,hn,hS9.ld 0 rfl,q1,q2,q3,h3,h4,h5,h6,h7]
   refine jA (fun h8=> ?_) (fun h8=> ?_)
   ·simp(disch:=omega) only[↓RA,RZ,simprocAttr,hn,a2i,q1,q2,q3,h3,h4,h7,h8]
    (first|(have e1:nV ks.length cs i=10:=by rw[hC,if_pos (by omega)]);exact⟨by rw[key (by rw[e1];decide),e1],hS9.forget⟩|(have e1:nV ks.length cs i=3:=by rw[hC,if_neg (by omega),if_pos (by omega)]);exact⟨by rw[key (by rw[e1];decide),e1],hS9.forget⟩|(have e1:nV ks.length cs i=7:=by rw[hC,if_neg (by omega),if_neg (by omega),if_pos (by omega)]);exact⟨by rw[key (by rw[e1];decide),e1],hS9.forget⟩)
   simp(disch:=omega) only[↓RA,RZ,simprocAttr,hn,g0,g1,g27,g28,g29,q1,q2,q3,h3,h4,h5,h6,h7,h8]
   have e0:nV ks.length cs i=0:=by rw[hC,if_neg (by omega),if_neg (by omega),if_neg (by omega)]
   exact⟨n-1,by omega,i+1,⟨by omega,fun j hj=>by rcases dK.1 hj with e|e;(· exact hz j e);(· rw[e];exact e0)⟩,by simp,hS9.sub (by simp)⟩
  simp(disch:=omega) only[↓RA,RZ,simprocAttr,hn,g0,g1,g27,g28,g29,q1,q2,q3,h1,h2,h3,h4,h5,h6,h7]
  have e0:nV ks.length cs i=0:=by rw[hC,if_neg (by omega),if_neg (by omega),if_neg (by omega)]
  exact⟨n-1,by omega,i+1,⟨by omega,fun j hj=>by rcases dK.1 hj with e|e;(· exact hz j e);(· rw[e];exact e0)⟩,by simp,hS9.sub (by simp)⟩
 simp(disch:=omega) only[↓RA,RZ,simprocAttr,hn,a2i,q1]
 exact⟨by rw[hE,lZ _ _ fun j hj=>hz j (by omega)],hS5.forget⟩
def pT(rs:List Rk)(lo hi:Int)(l:List Stp)(j:Nat):Int:=if stopE rs lo hi (jB l j)≠0 then stopE rs lo hi (jB l j)else if ∃q,q<j∧(jB l q).name=(jB l j).name then 9 else 0
def divE(rs:List Rk)(d:Dvn):Int:=if tG d.lo d.hi≠0 then tG d.lo d.hi else if 60<d.stops.length then 4 else mX (pT rs d.lo d.hi d.stops) d.stops.length
theorem a1V{kvs kvs':List (ByteArray×Bool)}{f:Nat→ByteArray}{i:Nat}(h:∀t,sJ kvs t=true↔∃q,q<i∧f q=t)(h':∀t,sJ kvs' t=(sJ kvs t||decide (t=f i))):∀t,sJ kvs' t=true↔∃q,q<i+1∧f q=t:=by
 intro t
 rw[h',fi,h,decide_eq_true_iff]
 constructor
 ·rintro(⟨q,hq,e⟩|e)
  ·exact⟨q,by omega,e⟩
  ·exact⟨i,by omega,e.symm⟩
 ·rintro⟨q,hq,e⟩
  rcases dK.1 hq with hh|hh
  ·exact .inl ⟨q,hh,e⟩
  ·right;rw[←e,hh]
theorem a4J(t:ByteArray):sJ [] t=false:=rfl
theorem c6z(o:Org)(ho:o.In H)(d:Dvn)(hd:d.In H):
 Fn prog 90 [.agg #[.string o.name,o.rv,o.dv,o.cv],.agg #[.string d.name,.bool d.pedal,I d.lo,I d.hi,d.sv]] H fun v H'=>v=I (divE o.ranks d)∧St prog H H' []:=by
 have hl:=hd.2.2
 refine .aE func90 rfl (by kernel_rfl) (m:=47) rfl fun l hn g0 g1=> ?_
 simp(disch:=omega) only[↓RA,RB,simprocAttr,g0]
 refine(sR H).eNew 4 [(.string o.name),o.rv,o.dv,o.cv] rfl rfl (by simp[OC,((sR H).sl ho.1).cells.2.1,((sR H).sl ho.2.2.1).cells.2.1,((sR H).sl ho.2.2.2.2.1).cells.2.1]) zD fun A1 H1 hS1=> ?_
 simp only[RT]at hS1
 simp(disch:=omega) only[↓RA,RB,simprocAttr,g1]
 refine hS1.eNew 5 [(.string d.name),(.bool d.pedal),I d.lo,I d.hi,d.sv] rfl rfl (by simp[OC,(hS1.sl hd.1).cells.2.1]) sB fun A2 H2 hS2=> ?_
 simp only[RT]at hS2
 simp(disch:=omega) only[↓RA,RZ,simprocAttr,hn,hS2.ae 1 rfl]
 refine hS2.cF (a3e d.lo d.hi) fun H3 hS3=> ?_
 simp(disch:=omega) only[↓RA,RB,simprocAttr,hn]
 refine jA (fun p1=> ?_) (fun p1=> ?_)
 ·simp(disch:=omega) only[↓RA,RZ,simprocAttr,hn,b9t,p1]
  exact⟨by rw[divE,if_pos p1],hS3.forget⟩
 simp(disch:=omega) only[↓RA,RZ,simprocAttr,hn,hS3.ld 1 rfl,(hS3.sl hd.1).len,p1]
 refine jA (fun p2=> ?_) (fun p2=> ?_)
 ·simp(disch:=omega) only[↓RA,RZ,simprocAttr,hn,b9t,p1,p2]
  exact⟨by rw[divE,if_neg p1,if_pos (by omega)],hS3.forget⟩
 have hE:divE o.ranks d=mX (pT o.ranks d.lo d.hi d.stops) d.stops.length:=by rw[divE,if_neg p1,if_neg (by omega)]
 simp(disch:=omega) only[↓RA,simprocAttr]
 refine hS3.cd a8A fun M1 H4 hS4=> ?_
 simp only[RT]at hS4
 simp(disch:=omega) only[↓RA,RZ,simprocAttr,hn,hS4.ld 1 rfl,(hS4.sl hd.1).len,p1,p2]
 refine Wp.ak (fun n l H'=>l.length=47∧get l 2=(ptr A1 0 4)∧get l 3=(ptr A2 0 5)∧get l 6=(.map (some M1))∧get l 23=d.sv∧get l 24=I d.stops.length∧∃(i:Nat)(kvs:List (ByteArray×Bool)),(n+i=d.stops.length∧(∀j,j<i→pT o.ranks d.lo d.hi d.stops j=0)∧(∀t,sJ kvs t=true↔∃q,q<i∧(jB d.stops q).name=t))∧get l 25=I i∧St prog H H' [⟨ptr A1 0 4,0,[(.string o.name),o.rv,o.dv,o.cv]⟩,⟨ptr A2 0 5,0,[(.string d.name),(.bool d.pedal),I d.lo,I d.hi,d.sv]⟩,⟨.map (some M1),0,KS kvs⟩]) d.stops.length ?_ ?_
 ·simp(disch:=omega) only[RB,RC,simprocAttr,hn]
  exact⟨0,[],⟨by omega,by simp,by simp[a4J]⟩,rfl,hS4⟩
 rintro n l H5⟨hn,g2,g3,g6,g23,g24,i,kvs,⟨hi1,hz,hk⟩,g25,hS5⟩
 simp(disch:=omega) only[↓RA,RB,simprocAttr,hn,g24,g25]
 refine jA (fun q1=> ?_) (fun q1=> ?_)
 ·have key:pT o.ranks d.lo d.hi d.stops i≠0→divE o.ranks d=pT o.ranks d.lo d.hi d.stops i:=fun hne=>by rw[hE,rO _ _ i (by omega) hne hz]
  simp(disch:=omega) only[↓RA,RZ,simprocAttr,hn,g23,g25,(hS5.sl hd.1).idx,(hS5.sl hd.1).ae,Stp.cells,q1]
  refine hS5.eNew 4 [(.string ⟨#[]⟩),I 0,I 0,(.slice none 0 0)] rfl rfl rfl sC fun A3 H6 hS6=> ?_
  simp only[RT]at hS6
  simp(disch:=omega) only[↓RA,RZ,simprocAttr,hn,q1]
  refine hS6.aa 3 rfl [(.string (jB d.stops i).name),I (jB d.stops i).num,I (jB d.stops i).den,(jB d.stops i).gv] rfl (by simp[OC,(hS6.sl (hd.2.1 (jB d.stops i) (jE (by omega))).1).cells.2.1]) sC (by simp) fun H7 hS7=> ?_
  simp only[RT]at hS7
  simp(disch:=omega) only[↓RA,RZ,simprocAttr,hn,g2,g3,hS7.ld 0 rfl,hS7.ae 1 rfl,b7F (hS7.sl ho.1).cells,hS7.ae 3 rfl,q1]
  refine hS7.cF (c3P o.rv o.ranks d.lo d.hi (hS7.sl ho.1) (fun r h=>(ho.2.1 r h).ag hS7) ho.2.2.2.2.2.1 (jB d.stops i) ((hd.2.1 _ (jE (by omega))).ag hS7)) fun H8 hS8=> ?_
  simp(disch:=omega) only[↓RA,RZ,simprocAttr,hn,q1]
  refine jA (fun q2=> ?_) (fun q2=> ?_)
  ·have e1:pT o.ranks d.lo d.hi d.stops i=stopE o.ranks d.lo d.hi (jB d.stops i):=by rw[pT,if_pos q2]
   simp(disch:=omega) only[↓RA,RZ,simprocAttr,hn,b9t,q1,q2]
   exact⟨by rw[key (by rw[e1];exact q2),e1],hS8.forget⟩
  simp(disch:=omega) only[↓RA,RZ,simprocAttr,hn,g6,hS8.ld 3 rfl,q1,q2]
  have hM1:=hS8.pick (os':=[⟨.map (some M1),0,_⟩]) [2] (by decide) rfl
  have hR1:=hS8.pick (os':=[⟨.map (some M1),0,_⟩,⟨ptr A1 0 4,0,_⟩,⟨ptr A2 0 5,0,_⟩,⟨ptr A3 0 4,0,_⟩]) [2,0,1,3] (by decide) rfl
  refine jG (a3G _ M1 kvs (jB d.stops i).name hM1.aR) ?_
  rintro r H9⟨rfl,kvs',hk',hT3⟩
  have hS9:=hR1.frame hT3
  simp only[RT]at hS9
  simp(disch:=omega) only[↓RA,RZ,simprocAttr,hn,q1,q2]
  refine jA (fun q3=> ?_) (fun q3=> ?_)
  ·have q3':sJ kvs (jB d.stops i).name=true:=by
    by_cases hh:sJ kvs (jB d.stops i).name=true
    ·exact hh
    ·rw[if_neg hh]at q3;exact absurd rfl q3
   have e1:pT o.ranks d.lo d.hi d.stops i=9:=by rw[pT,if_neg q2,if_pos ((hk _).1 q3')]
   simp(disch:=omega) only[↓RA,RZ,simprocAttr,hn,b9t,q1,q2,q3]
   exact⟨by rw[key (by rw[e1];decide),e1,if_pos q3'],hS9.forget⟩
  have q3':¬sJ kvs (jB d.stops i).name=true:=fun hh=>q3 (by rw[if_pos hh];decide)
  have e0:pT o.ranks d.lo d.hi d.stops i=0:=by rw[pT,if_neg q2,if_neg (fun hh=>q3' ((hk _).2 hh))]
  simp(disch:=omega) only[↓RA,RZ,simprocAttr,hn,g2,g3,g6,g23,g24,g25,q1,q2,q3]
  exact⟨n-1,by omega,i+1,kvs',⟨by omega,fun j hj=>by rcases dK.1 hj with e|e;(· exact hz j e);(· rw[e];exact e0),a1V (f:=fun q=>(jB d.stops q).name) hk hk'⟩,by simp,hS9.pick [1,2,0] (by decide) rfl⟩
 simp(disch:=omega) only[↓RA,RZ,simprocAttr,hn,b9t,q1]
 exact⟨by rw[hE,lZ _ _ fun j hj=>hz j (by omega)],hS5.forget⟩
end Go.Ds
