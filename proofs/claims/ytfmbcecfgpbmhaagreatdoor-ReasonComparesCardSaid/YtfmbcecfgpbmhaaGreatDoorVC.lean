/-
  A part of the proof of ReasonCompares.
-/
import Derived.Test.YtfmbcecfgpbmhaaGreatDoorVB
import Derived.Test.YtfmbcecfgpbmhaaGreatDoorProg
import Derived.KernelRfl
import Derived.Lib.LaidTab
import Derived.Stop.LaidErr
import Derived.Laws.Strings
set_option linter.unusedVariables false
set_option linter.unusedSimpArgs false
set_option linter.defProp false
set_option linter.unusedSectionVars false
namespace Go.Ds
variable {P:Program}
structure CallsOk(P:Program)(C:Calls')(H0:Heap):Prop where
 fn:∀p f args H v H1,LK H0 H→(C.fn p f args H).Is v H1→p=kW f→(FnS P f args H (fun v' H'=>v'=v∧H'=H1)∨qF P f args H=some (v,H1))∧LK H H1
 rd:∀L args H v H1,LK H0 H→(C.rd L args H).Is v H1→yQ P L args H v H1∧LK H H1
noncomputable def iX (x:Operand):LArg:=match x with
 | .tmp t=>.t (kW t)
 | .const v=>.c v
 | .global g=>.c (.pointer (some ⟨g,0,none⟩))
 | .func k=>.c (.func (.func k) #[] #[])
theorem lA{α:Type}(x:Operand)(K:LArg→α):lV x K=K (iX x):=by
 cases x with
 | tmp t=>exact lM _ _
 | _=>rfl
theorem jW{f:Fr}{l:List Value}(h:FAg f l)(x:Operand):mU f (iX x)=ev l x:=by
 cases x with
 | tmp t=>exact h t
 | _=>rfl
theorem a2X{α:Type}(l:List Operand)(K:List LArg→α):a5a l K=K (l.map iX):=by
 induction l generalizing K with
 | nil=>rfl
 | cons x l ih=>
   show lV x (fun x=>a5a l fun l=>K (x::l))=_
   rw[lA,ih];rfl
theorem a6M{α:Type}{f:Fr}{l:List Value}(h:FAg f l)(xs:List Operand)(K:List Value→α):a3f f (xs.map iX) K=K (xs.map (ev l)):=by
 induction xs generalizing K with
 | nil=>rfl
 | cons x xs ih=>
   show oP (mU f (iX x)) (fun v=>a3f f (xs.map iX) fun l=>K (v::l))=_
   rw[mW,ih,jW h];rfl
theorem c1V{f:Fr}{l:List Value}(h:FAg f l):evF f=ev l:=by
 funext x
 cases x with
 | tmp t=>exact h t
 | _=>rfl
def vU(P:Program)(o:Oper)(lo:LOp):Prop:=∀C H0 f l H v H1,CallsOk P C H0→LK H0 H→FAg f l→(opF P C lo f H).Is v H1→StepR P o l H v H1∧LK H H1
def LowPl(P:Program)(o:Oper)(lo:LOp):Prop:=∀C f l H v H1,FAg f l→(opF P C lo f H).Is v H1→opD P o l H=some (v,H1)
theorem LowPl.low{o:Oper}{lo:LOp}(hok:o.op.operands.toList.all iV=true)(h:LowPl P o lo):vU P o lo:=
 fun C _ f l H v H1 _ _ hf hr=>by have:=h C f l H v H1 hf hr;exact⟨.op hok this,b5I this⟩
theorem c0b(o:Oper):vU P o .bad:=fun _ _ _ _ _ _ _ _ _ _ h=>absurd h Rs.ar
theorem b9G(o:Oper):LowPl P o (.gen o):=fun C f l H v H1 hf hr=>by
 have hr:(match c1N P o (evF f) H with|some (v,H1)=>Rs.th v H1|none=>.no).Is v H1:=hr
 rw[c1V hf]at hr
 have e:c1N P o (ev l) H=opD P o l H:=rfl
 rw[e]at hr
 split at hr
 ·rename_i v2 H2 h2
  obtain⟨rfl,rfl⟩:=Rs.aU hr
  exact h2
 ·exact absurd hr Rs.ar
section
variable {dst:Option Tmp} {type:TypeId} {pos:String} {after:Array Edge} {guard:Option (Nat×Bool)}
theorem c2h(x:Operand):LowPl P ⟨dst,.move x,type,pos,after,guard⟩ (.mv (iX x)):=fun C f l H v H1 hf hr=>by
 have hr:(oP (mU f (iX x)) fun v=>Rs.ok v H).Is v H1:=hr
 rw[mW,jW hf]at hr
 obtain⟨rfl,rfl⟩:=Rs.aM hr
 rfl
theorem c2n(x:Operand):LowPl P ⟨dst,.assign x,type,pos,after,guard⟩ (.mv (iX x)):=fun C f l H v H1 hf hr=>by
 have hr:(oP (mU f (iX x)) fun v=>Rs.ok v H).Is v H1:=hr
 rw[mW,jW hf]at hr
 obtain⟨rfl,rfl⟩:=Rs.aM hr
 rfl
theorem b4X(c a b:Operand):LowPl P ⟨dst,.pick c a b,type,pos,after,guard⟩ (.pick (iX c) (iX a) (iX b)):=fun C f l H v H1 hf hr=>by
 have hr:(b7s (iX c) (iX a) (iX b) f H).Is v H1:=hr
 unfold b7s at hr
 rw[jW hf]at hr
 split at hr
 ·rename_i t ht
  rw[mW]at hr
  simp only[opD,ht]
  cases t
  ·have hr:(Rs.ok (mU f (iX b)) H).Is v H1:=hr
   rw[jW hf]at hr
   obtain⟨rfl,rfl⟩:=Rs.aM hr;rfl
  ·have hr:(Rs.ok (mU f (iX a)) H).Is v H1:=hr
   rw[jW hf]at hr
   obtain⟨rfl,rfl⟩:=Rs.aM hr;rfl
 ·exact absurd hr Rs.ar
theorem b8I(a b:Int):c3m a b=a*b:=by cases a<;>cases b<;>rfl
theorem a5p(a b:Int):c4r a b=a.tdiv b:=by cases a<;>cases b<;>rfl
theorem a4w(a b:Int):c3E a b=a.tmod b:=by cases a<;>cases b<;>rfl
theorem b9E{op:BinOp}{g:IntKind→Int→Int→Option Value}(h:b7B op=some g)(k:IntKind)(a b:Int):mV op k a b=g k a b:=by
 cases op<;>simp only[b7B]at h<;>first|(cases h;done)|(injection h with h;subst h)
 all_goals first
  | rfl
  | (simp only[mV,c2B,b8I];done)
  | (simp only[mV,b7W,a5p];done)
  | (simp only[mV,b7G,a4w];done)
  | (simp only[mV,b7W,a5p];rfl)
  | (simp only[mV,b7G,a4w];rfl)
  | (simp only[mV,b7W,a5p];cases eqI b 0<;>rfl)
  | (simp only[mV,b7G,a4w];cases eqI b 0<;>rfl)
theorem c3J{o:Option Value}{H H1:Heap}{v:Value}(h:(oV o H).Is v H1):o=some v∧H1=H:=by
 cases o with
 | none=>exact absurd h Rs.ar
 | some w=>obtain⟨rfl,rfl⟩:=Rs.aU h;exact⟨rfl,rfl⟩
theorem b6P{o:Option Value}{H H1:Heap}{v:Value}(h:(okV o H).Is v H1):o=some v∧H1=H:=by
 cases o with
 | none=>exact absurd h Rs.ar
 | some w=>
   have h:(oP w fun v=>Rs.ok v H).Is v H1:=h
   rw[mW]at h
   obtain⟨rfl,rfl⟩:=Rs.aM h;exact⟨rfl,rfl⟩
theorem b8a{op:BinOp}{g:IntKind→Int→Int→Option Value}(hg:b7B op=some g)(t yt:TypeId)(x y:Operand):LowPl P ⟨dst,.binOp op t x y yt,type,pos,after,guard⟩ (.bin g (iX x) (iX y)):=fun C f l H v H1 hf hr=>by
 have hr:(c1W g (iX x) (iX y) f H).Is v H1:=hr
 unfold c1W at hr
 rw[jW hf]at hr
 split at hr
 ·rename_i k a hx
  unfold c0y at hr
  rw[jW hf]at hr
  split at hr
  ·rename_i k' b hy
   obtain⟨hk,hq⟩:=lI hr
   obtain rfl:=b8D hk
   obtain⟨hv,rfl⟩:=c3J hq
   rw[←b9E hg]at hv
   have:opD P ⟨dst,.binOp op t x y yt,type,pos,after,guard⟩ l H1=if k=k then(match mV op k a b with|some v=>some (v,H1)|none=>kT P ⟨dst,.binOp op t x y yt,type,pos,after,guard⟩ l H1)else kT P ⟨dst,.binOp op t x y yt,type,pos,after,guard⟩ l H1:=by
    simp only[opD,hx,hy]
    cases op<;>rfl
   rw[this,if_pos rfl,hv]
  ·exact absurd hr Rs.ar
 ·exact absurd hr Rs.ar
theorem b7S{b:Option Blk}{i e:Nat}{H H1:Heap}{v:Value}(h:(b7D b i e H).Is v H1):H1=H∧∃cs ty rw lo ver,b=some (.cells cs ty rw lo ver)∧lo≤e∧e≤cs.length∧i+1≤e∧cs[i]? =some v:=by
 unfold b7D at h
 split at h
 ·rename_i cs ty rw lo ver
  obtain⟨h1,h⟩:=lI h
  obtain⟨h2,h⟩:=lI h
  obtain⟨h3,h⟩:=lI h
  have h:(okV (a0P cs i) H).Is v H1:=h
  obtain⟨h4,h5⟩:=b6P h
  rw[xB]at h2
  rw[xL]at h4
  exact⟨h5,cs,ty,rw,lo,ver,rfl,eJ h1,by simpa using h2,eJ h3,h4⟩
 ·exact absurd h Rs.ar
theorem b7P{b:Option Blk}{n i e:Nat}{H H1:Heap}{v:Value}(h:(b8Z b n i e H).Is v H1):H1=H∧∃cs ty rw lo ver,b=some (.cells cs ty rw lo ver)∧lo≤e∧e≤cs.length∧i+n≤e∧v=.agg ((cs.drop i).take n).toArray:=by
 unfold b8Z at h
 split at h
 ·rename_i cs ty rw lo ver
  obtain⟨h1,h⟩:=lI h
  obtain⟨h2,h⟩:=lI h
  obtain⟨h3,h⟩:=lI h
  obtain⟨h4,h⟩:=a6e h
  obtain⟨rfl,rfl⟩:=Rs.aM h
  rw[xB]at h2
  exact⟨rfl,cs,ty,rw,lo,ver,rfl,eJ h1,by simpa using h2,eJ h3,by rw[a7E]⟩
 ·exact absurd h Rs.ar
theorem b0C{X:LArg}{f:Fr}{H H1:Heap}{v w:Value}{t:TypeId}(ht:kH P t=some false)(hw:mU f X=w)(h:(b2W X f H).Is v H1):H1=H∧mJ P H t w=some v:=by
 unfold b2W at h
 rw[hw]at h
 split at h
 ·rename_i A i e
  obtain⟨h1,cs,ty,rw',lo,ver,h2,h3,h4,h5,h6⟩:=b7S h
  refine⟨h1,?_⟩
  simp only[mJ,ht,jK,h2]
  rw[if_pos (by simp;omega)]
  simp[h6]
 ·rename_i A i
  unfold c1r at h
  split at h
  ·rename_i cs ty lo hg
   obtain⟨h1,h⟩:=lI h
   rw[xB]at h1
   have h1:lo≤cs.length:=by simpa using h1
   cases hn:a0P cs i with
   | none=>rw[hn]at h;exact absurd h Rs.ar
   | some c=>
     rw[hn]at h
     have h:(oP c fun v=>Rs.ok v H).Is v H1:=h
     rw[mW]at h
     obtain⟨rfl,rfl⟩:=Rs.aM h
     rw[xL]at hn
     have hi:=(dy.1 hn).1
     refine⟨rfl,?_⟩
     simp only[mJ,ht,jK,hg]
     rw[if_pos (by simp;omega)]
     simp[hn]
  ·exact absurd h Rs.ar
 ·exact absurd h Rs.ar
theorem b1c{X:LArg}{f:Fr}{H H1:Heap}{v w:Value}{t:TypeId}{n:Nat}(ht:kH P t=some true)(hn:iJ P t=some n)(hw:mU f X=w)(h:(b2y n X f H).Is v H1):H1=H∧mJ P H t w=some v:=by
 unfold b2y at h
 rw[hw]at h
 split at h
 ·rename_i A i e
  obtain⟨h1,cs,ty,rw',lo,ver,h2,h3,h4,h5,h6⟩:=b7P h
  refine⟨h1,?_⟩
  simp only[mJ,ht,hn,dh,jK,h2]
  rw[if_pos (by simp;omega),h6]
  rfl
 ·exact absurd h Rs.ar
theorem c0f{t:TypeId}(ht:kH P t=some false)(x:Operand):LowPl P ⟨dst,.load t x,type,pos,after,guard⟩ (.ld1 (iX x)):=fun C f l H v H1 hf hr=>by
 obtain⟨rfl,h⟩:=b0C (P:=P) ht (jW hf x) hr
 simp only[opD,h,dS]
theorem b8m{t:TypeId}{n:Nat}(ht:kH P t=some true)(hn:iJ P t=some n)(x:Operand):LowPl P ⟨dst,.load t x,type,pos,after,guard⟩ (.ldn n (iX x)):=fun C f l H v H1 hf hr=>by
 obtain⟨rfl,h⟩:=b1c (P:=P) ht hn (jW hf x) hr
 simp only[opD,h,dS]
theorem c0W{t:TypeId}{n:Nat}(hn:iJ P t=some n)(x y:Operand):LowPl P ⟨dst,.store t x y,type,pos,after,guard⟩ (.st n (iX x) (iX y)):=fun C f l H v H1 hf hr=>by
 have hr:(hSt n (iX x) (iX y) f H).Is v H1:=hr
 unfold hSt at hr
 rw[jW hf,jW hf]at hr
 split at hr
 ·rename_i A i e hx
  unfold stB at hr
  split at hr
  ·rename_i cs ty lo ver hg
   obtain⟨h1,hr⟩:=lI hr
   obtain⟨h2,hr⟩:=lI hr
   obtain⟨h3,hr⟩:=lI hr
   obtain⟨h4,hr⟩:=lI hr
   obtain⟨h5,hr⟩:=lI hr
   obtain⟨rfl,rfl⟩:=Rs.aU hr
   rw[yS]at h1 h3
   have h1:n=(ev l y).cells.toList.length:=by simpa only[decide_eq_true_eq]using h1
   have h3:e=cs.length:=by simpa only[decide_eq_true_eq]using h3
   have h4:i+n≤e:=eJ h4
   have h5:lo≤e:=eJ h5
   simp only[opD,qO,hx,hg]
   rw[if_pos ⟨by rw[hn,h1],h2,h3,by omega,h5⟩]
   simp only[dS]
   rw[h3]
  ·exact absurd hr Rs.ar
 ·exact absurd hr Rs.ar
theorem c1Q{s:TypeId}{k n:Nat}{fd:Field}(hf':oK P s k=some fd)(hn:iJ P fd.type=some n)(hn0:n≠0)(x:Operand):LowPl P ⟨dst,.fieldAddr s x k,type,pos,after,guard⟩ (.fa fd.offset (iX x)):=fun C f l H v H1 hf hr=>by
 have hr:(hFa fd.offset (iX x) f H).Is v H1:=hr
 unfold hFa at hr
 rw[jW hf]at hr
 split at hr
 ·rename_i A i e hx
  rw[kC]at hr
  obtain⟨rfl,rfl⟩:=Rs.aM hr
  simp only[opD,hx,hf',dh,hn]
  rw[if_neg (by simpa using hn0)];rfl
 ·exact absurd hr Rs.ar
theorem b5t{A i e size n:Nat}{H H1:Heap}{j v:Value}(h:(ixP A i e size n H j).Is v H1):H1=H∧∃k m,j=.int k (.ofNat m)∧m<n∧v=.pointer (some ⟨A,i+m*size,some e⟩):=by
 unfold ixP at h
 split at h
 ·rename_i k m
  obtain⟨h1,h⟩:=lI h
  rw[kC]at h
  obtain⟨rfl,rfl⟩:=Rs.aM h
  rw[blt_eq]at h1
  exact⟨rfl,k,m,rfl,by simpa using h1,rfl⟩
 ·exact absurd h Rs.ar
theorem b8r{t elem:TypeId}{size:Nat}(ht:P.underlying t=some (.slice elem))(hs:iJ P elem=some size)(x i:Operand):LowPl P ⟨dst,.indexAddr t x i,type,pos,after,guard⟩ (.ixs size (iX x) (iX i)):=fun C f l H v H1 hf hr=>by
 have hr:(c1d size (iX x) (iX i) f H).Is v H1:=hr
 unfold c1d at hr
 rw[jW hf,jW hf]at hr
 split at hr
 ·rename_i A a e n c hx
  obtain⟨rfl,k,m,hj,hm,rfl⟩:=b5t hr
  simp only[opD,ht,hx,hj,hs,dh]
  rw[if_pos (by simp;omega)]
  rfl
 ·exact absurd hr Rs.ar
theorem c4o(a b:Nat):Nat.beq a b=(a==b):=by
 cases h:Nat.beq a b with
 | true=>rw[ec h];simp
 | false=>have:=Nat.ne_of_beq_eq_false h;simp[this]
theorem c1E{A i size n:Nat}{H H1:Heap}{j v:Value}(h:(ixG A i size n H j).Is v H1):H1=H∧∃k m,j=.int k (.ofNat m)∧m<n∧v=.pointer (some ⟨A,i+m*size,none⟩):=by
 unfold ixG at h
 split at h
 ·rename_i k m
  obtain⟨h1,h⟩:=lI h
  rw[kC]at h
  obtain⟨rfl,rfl⟩:=Rs.aM h
  exact⟨rfl,k,m,rfl,by simpa [iw]using h1,rfl⟩
 ·exact absurd h Rs.ar
theorem b8R{t elem:TypeId}{n size:Nat}(ht:P.underlying t=some (.array n elem))(hs:iJ P elem=some size)(x i:Operand):LowPl P ⟨dst,.indexAddr t x i,type,pos,after,guard⟩ (.ixa n size (iX x) (iX i)):=fun C f l H v H1 hf hr=>by
 have hr:(c1B n size (iX x) (iX i) f H).Is v H1:=hr
 unfold c1B at hr
 rw[jW hf,jW hf]at hr
 split at hr
 ·rename_i A a e hx
  obtain⟨rfl,k,m,hj,hm,rfl⟩:=b5t hr
  simp only[opD,ht,hx,hj,hs,dh]
  rw[if_pos (by simp;omega)]
  rfl
 ·rename_i A a hx
  obtain⟨rfl,k,m,hj,hm,rfl⟩:=c1E hr
  simp only[opD,ht,hx,hj,hs,dh]
  rw[if_pos (by simp;omega)]
  rfl
 ·exact absurd hr Rs.ar
theorem b8N(i:Nat)(x:Operand):LowPl P ⟨dst,.extract x i,type,pos,after,guard⟩ (.ext i (iX x)):=fun C f l H v H1 hf hr=>by
 have hr:(c1R i (iX x) f H).Is v H1:=hr
 unfold c1R at hr
 rw[jW hf]at hr
 split at hr
 ·rename_i vs hx
  obtain⟨h1,rfl⟩:=b6P hr
  rw[xL]at h1
  simp only[opD,hx]
  simp[h1]
 ·exact absurd hr Rs.ar
theorem b9q{c:Call}{elem:TypeId}(hc:c.callee=.builtin .len)(h1:c.args.size=1)(h2:c.argTypes.size=1)(ht:P.underlying (c.argTypes.getD 0 0)=some (.slice elem)):LowPl P ⟨dst,.call c,type,pos,after,guard⟩ (.len (iX (c.args.getD 0 (.tmp 0)))):=fun C f l H v H1 hf hr=>by
 have hr:(c1C (iX (c.args.getD 0 (.tmp 0))) f H).Is v H1:=hr
 unfold c1C at hr
 rw[jW hf]at hr
 split at hr
 ·rename_i a n k hx
  obtain⟨rfl,rfl⟩:=Rs.aU hr
  simp only[opD,hc,h1,h2,ht,hx,wT];rfl
 ·exact absurd hr Rs.ar
theorem b6y{c:Call}(hc:c.callee=.builtin .len)(h1:c.args.size=1)(h2:c.argTypes.size=1)(ht:P.underlying (c.argTypes.getD 0 0)=some .string):LowPl P ⟨dst,.call c,type,pos,after,guard⟩ (.slen (iX (c.args.getD 0 (.tmp 0)))):=fun C f l H v H1 hf hr=>by
 have hr:(b4a (iX (c.args.getD 0 (.tmp 0))) f H).Is v H1:=hr
 unfold b4a at hr
 rw[jW hf]at hr
 split at hr
 ·rename_i s hx
  obtain⟨rfl,rfl⟩:=Rs.aU hr
  simp only[opD,hc,h1,h2,ht,hx,wT];rfl
 ·exact absurd hr Rs.ar
theorem b7K{c:Call}{elem:TypeId}{size bytes:Nat}{z:Value}(hc:c.callee=.builtin .append)(h1:c.args.size=2)(h2:c.argTypes.size=2)(hi:((P.underlying (c.argTypes.getD 1 0)).map pX)=some true)
 (he:iL P (c.argTypes.getD 0 0)=some elem) (hs:iJ P elem=some size) (hb:nQ P elem=some bytes) (hz:jG P elem=some z) (hzs:z.cells.size=size) (hs0:size≠0):
 LowPl P ⟨dst,.call c,type,pos,after,guard⟩ (.app elem size bytes (iX (c.args.getD 0 (.tmp 0))) (iX (c.args.getD 1 (.tmp 0)))):=fun C f l H v H1 hf hr=>by
 have hr:(c1T P elem size bytes (iX (c.args.getD 0 (.tmp 0))) (iX (c.args.getD 1 (.tmp 0))) f H).Is v H1:=hr
 unfold c1T at hr
 rw[jW hf,jW hf]at hr
 have hD:opD P ⟨dst,.call c,type,pos,after,guard⟩ l H=nL P H (c.argTypes.getD 0 0) (ev l (c.args.getD 0 (.tmp 0))) (ev l (c.args.getD 1 (.tmp 0))):=by
  simp only[opD,hc,h1,h2,hi];rfl
 rw[hD]
 unfold nL
 rw[he,dh,hs,dh,hb,dh,hz,dh]
 split at hr
 ·rename_i n m hsrc
  rw[hsrc,dh]
  unfold c3L at hr
  split at hr
  ·rename_i k cc hx
   obtain⟨g1,hq1⟩:=lI hr
   obtain⟨g2,hq2⟩:=lI hq1
   obtain⟨g3,hq⟩:=lI hq2
   clear hr hq1 hq2
   obtain rfl:k=0:=ec g1
   obtain rfl:cc=0:=ec g2
   have g3:n*(bytes+1)≤oT:=eJ g3
   simp only[hx]
   rw[if_pos (by simp[hs0,hzs,g3])]
   rw[kO]at hq
   by_cases hn:n=0
   ·subst hn
    rw[if_pos (by rfl)]at hq
    obtain⟨rfl,rfl⟩:=Rs.aM hq
    simp
   ·rw[if_neg (fun e=>hn (ec e))]at hq
    obtain⟨rfl,rfl⟩:=Rs.aU hq
    simp[hn]
  ·rename_i A i e k cc hx
   unfold c3l at hr
   split at hr
   ·rename_i cs ty lo ver hg
    obtain⟨g2,hr⟩:=lI hr
    obtain⟨g4,hr⟩:=lI hr
    obtain⟨g5,hr⟩:=lI hr
    have g2:(ty==elem||iJ P ty==some size)=true:=by
     rw[c4o]at g2
     cases hh:(ty==elem)with
     | true=>rfl
     | false=>rw[hh]at g2;exact g2
    rw[yS]at g4
    have g4:e=cs.length:=by simpa only[decide_eq_true_eq]using g4
    have g5:lo≤e:=eJ g5
    simp only[hx,hg]
    rw[kO]at hr
    by_cases g3:i+k*size=e
    ·rw[if_pos (by simpa using g3)]at hr
     obtain⟨g1,hr⟩:=lI hr
     obtain⟨rfl,rfl⟩:=Rs.aU hr
     have g1:(k+n)*(bytes+1)≤oT:=eJ g1
     have et:(Bool.rec (motive:=fun _=>Nat) 2 ver (Nat.beq ty elem))=(if(ty==elem)=true then ver else 2):=by
      rw[c4o]
      cases hh:(ty==elem)with
      | true=>rfl
      | false=>rfl
     rw[et,if_pos (by simp only[g2,fL,de,bne_iff_ne,beq_iff_eq,decide_eq_true_eq];exact⟨⟨⟨⟨⟨hs0,g1⟩,by simpa using hzs⟩,g3⟩,g4⟩,g5⟩)]
    ·rw[if_neg (by simpa using g3)]at hr
     rw[kO]at hr
     by_cases hn:n=0
     ·rw[if_pos (by simpa using hn)]at hr
      exact absurd hr Rs.ar
     ·rw[if_neg (by simpa using hn)]at hr
      obtain⟨g6,hr⟩:=lI hr
      obtain⟨rfl,rfl⟩:=Rs.aU hr
      have g6:i+(k+n)*size≤e:=eJ g6
      rw[if_neg (by simp[g3]),if_pos (by simp only[g2,fL,de,bne_iff_ne,beq_iff_eq,decide_eq_true_eq];exact⟨⟨⟨⟨⟨hs0,hn⟩,by simpa using hzs⟩,g6⟩,g4⟩,g5⟩),g4]
   ·exact absurd hr Rs.ar
  ·exact absurd hr Rs.ar
 ·exact absurd hr Rs.ar
theorem b1t{c:Call}{k:FuncId}(hc:c.callee=.value (.func k))(hok:(Op.call c).operands.toList.all iV=true):vU P ⟨dst,.call c,type,pos,after,guard⟩ (.callF k (kW k) (c.args.toList.map iX)):=fun C H0 f l H v H1 hC hk hf hr=>by
 have hr:(a3f f (c.args.toList.map iX) fun l=>C.fn (kW k) k l H).Is v H1:=hr
 rw[a6M hf]at hr
 obtain⟨h1|hx,h2⟩:=hC.fn _ _ _ _ _ _ hk hr rfl
 case inr=>exact⟨.ext hok c (.func k) k #[] #[] rfl hc rfl (by simpa using hx),h2⟩
 obtain⟨he,v',H',hcall,rfl,rfl⟩:=h1.fn
 exact⟨.call hok c (.func k) k #[] #[] rfl hc rfl he (by simpa using hcall),h2⟩
theorem b1U{c:Call}{g:Operand}(hc:c.callee=.value g)(hok:(Op.call c).operands.toList.all iV=true):vU P ⟨dst,.call c,type,pos,after,guard⟩ (.callV (iX g) (c.args.toList.map iX)):=fun C H0 f l H v H1 hC hk hf hr=>by
 have hr:(a3f f (c.args.toList.map iX) fun l=>a9n C l H (mU f (iX g))).Is v H1:=hr
 rw[a6M hf,jW hf]at hr
 unfold a9n at hr
 split at hr
 ·rename_i k a b hg
  rw[kC,lM]at hr
  obtain⟨h1|hx,h2⟩:=hC.fn _ _ _ _ _ _ hk hr rfl
  case inr=>exact⟨.ext hok c g k ⟨a⟩ ⟨b⟩ rfl hc hg (by simpa [yG]using hx),h2⟩
  obtain⟨he,v',H',hcall,rfl,rfl⟩:=h1.fn
  exact⟨.call hok c g k ⟨a⟩ ⟨b⟩ rfl hc hg he (by simpa [yG]using hcall),h2⟩
 ·rename_i L a b hg
  obtain⟨h1,h2⟩:=hC.rd _ _ _ _ _ hk hr
  exact⟨.round hok c g L _ _ rfl hc hg h1,h2⟩
 ·exact absurd hr Rs.ar
end
set_option maxHeartbeats 1000000 in
theorem b0A{α:Type}(o:Oper)(K:LOp→α):∃lo,vU P o lo∧yE P o K=K lo:=by
 unfold yE
 rw[kO]
 by_cases hok:o.op.operands.toList.all iV=true
 case neg=>rw[if_neg hok];exact⟨_,c0b o,rfl⟩
 rw[if_pos hok]
 have gen:∃lo,vU P o lo∧K (.gen o)=K lo:=⟨_,(b9G o).low hok,rfl⟩
 obtain⟨dst,op,type,pos,after,guard⟩:=o
 unfold c2O
 cases op with
 | move x=>simp only[lA];exact⟨_,(c2h x).low hok,rfl⟩
 | assign x=>simp only[lA];exact⟨_,(c2n x).low hok,rfl⟩
 | pick c a b=>simp only[lA];exact⟨_,(b4X c a b).low hok,rfl⟩
 | binOp op t x y yt=>
   simp only[lA,kO]
   split
   ·split
    ·rename_i g hg;exact⟨_,(b8a hg t yt x y).low hok,rfl⟩
    ·exact gen
   ·exact gen
 | load t x=>
   simp only[lA]
   split
   ·rename_i ht
    cases hn:iJ P t with
    | none=>exact gen
    | some n=>rw[oZ];exact⟨_,(b8m ht hn x).low hok,rfl⟩
   ·rename_i ht;exact⟨_,(c0f ht x).low hok,rfl⟩
   ·exact gen
 | store t x y=>
   simp only[lA]
   cases hn:iJ P t with
   | none=>exact gen
   | some n=>rw[oZ];exact⟨_,(c0W hn x y).low hok,rfl⟩
 | fieldAddr s x k=>
   simp only[lA]
   split
   ·rename_i fd hfd
    split
    ·exact gen
    ·rename_i n hn0 hn
     rw[kC]
     exact⟨_,(c1Q hfd hn (fun e=>hn0 e) x).low hok,rfl⟩
    ·exact gen
   ·exact gen
 | indexAddr t x i=>
   simp only[lA]
   split
   ·rename_i elem ht
    cases hs:iJ P elem with
    | none=>exact gen
    | some n=>rw[oZ];exact⟨_,(b8r ht hs x i).low hok,rfl⟩
   ·rename_i n elem ht
    cases hs:iJ P elem with
    | none=>exact gen
    | some m=>rw[oZ];exact⟨_,(b8R ht hs x i).low hok,rfl⟩
   ·exact gen
 | extract t i=>simp only[lA];rw[kC];exact⟨_,(b8N i t).low hok,rfl⟩
 | call c=>
   simp only
   unfold b4T
   split
   ·rename_i k hc
    rw[lM,a2X]
    exact⟨_,b1t hc hok,rfl⟩
   ·rename_i g _ hc
    rw[lA,a2X]
    exact⟨_,b1U hc hok,rfl⟩
   ·rename_i hc
    rw[kO]
    split
    ·rename_i h1
     simp only[de,beq_iff_eq]at h1
     split
     ·rename_i elem ht;rw[lA];exact⟨_,(b9q hc h1.1 h1.2 ht).low hok,rfl⟩
     ·rename_i ht;rw[lA];exact⟨_,(b6y hc h1.1 h1.2 ht).low hok,rfl⟩
     ·exact gen
    ·exact gen
   ·rename_i hc
    rw[kO]
    split
    ·rename_i h1
     simp only[de,beq_iff_eq]at h1
     split
     ·rename_i elem he
      cases hs:iJ P elem with
      | none=>exact gen
      | some size=>
        rw[oZ]
        cases hb:nQ P elem with
        | none=>exact gen
        | some bytes=>
          rw[oZ]
          split
          ·rename_i z hz
           rw[kO]
           split
           ·rename_i h2
            simp only[de,beq_iff_eq,bne_iff_ne]at h2
            rw[kC,lA,lA]
            exact⟨_,(b7K hc h1.1.1 h1.1.2 h1.2 he hs hb hz h2.1 h2.2).low hok,rfl⟩
           ·exact gen
          ·exact gen
     ·exact gen
    ·exact gen
   ·exact gen
 | _=>exact gen
def DOk(k:Nat)(dst:Option Tmp)(d:Option Pth):Prop:=(dst=none∧d=none)∨∃t,dst=some t∧t<k∧d=some (kW t)
inductive LowOps(P:Program)(k:Nat)(ops:Array Oper):List Oper→LOps→Prop
 | nil:LowOps P k ops [] .nil
 | cons {o:Oper} {os:List Oper} {d:Option Pth} {lo:LOp} {r:LOps} (hd:DOk k o.dst d) (ho:vU P o lo) (hg:o.guard=none) (hr:LowOps P k ops os r):LowOps P k ops (o::os) (.cons d lo r)
 | gcons {o:Oper} {os:List Oper} {d:Option Pth} {lo:LOp} {r:LOps} {j t:Nat} {w:Bool} (hd:DOk k o.dst d) (ho:vU P o lo) (hg:o.guard=some (j,w)) (ht:(ops[j]?).bind (·.dst)=some t) (htk:t<k) (hr:LowOps P k ops os r):LowOps P k ops (o::os) (.gcons (kW t) w d lo r)
def GOk(ops:Array Oper)(o:Oper)(g:Option (Pth×Bool)):Prop:=(o.guard=none∧g=none)∨∃j w t,o.guard=some (j,w)∧(ops[j]?).bind (·.dst)=some t∧g=some (kW t,w)
theorem GOk.runs{ops:Array Oper}{o:Oper}{g:Option (Pth×Bool)}(h:GOk ops o g){f:Fr}{l:List Value}(hf:FAg f l)(hw:Region.wanted o (jE ops l)=true):b4B f g=true:=by
 rcases h with⟨_,rfl⟩|⟨j,w,t,hg,ht,rfl⟩
 ·rfl
 ·simp only[Region.wanted,hg,jE,ht]at hw
  show isB (nZ (kW t) f) w=true
  rw[hf t,oF,dj]
  cases hl:l[t]? with
  | none=>rw[hl]at hw;simp at hw
  | some v=>
    rw[hl]at hw
    cases v<;>simp at hw
    subst hw
    rename_i b
    cases b<;>rfl
inductive LowTab(P:Program)(ops:Array Oper):List (Nat×Nat)→List (Nat×Option Nat×Option (Pth×Bool)×LOp)→Prop
 | nil:LowTab P ops [] []
 | cons {i m:Nat} {o:Oper} {lo:LOp} {tab:List (Nat×Nat)} {t:List (Nat×Option Nat×Option (Pth×Bool)×LOp)} {g:Option (Pth×Bool)} (ho:ops[i]? =some o) (hgd:GOk ops o g) (hl:vU P o lo) (hr:LowTab P ops tab t):
    LowTab P ops ((i,m)::tab) ((ops.size-1-i,if m<ops.size then some (ops.size-1-m)else none,g,lo)::t)
inductive Low(P:Program)(k:Nat):Code→LCode→Prop
 | bad (c:Code):Low P k c .bad
 | skip:Low P k .skip .skip
 | label (t:Nat):Low P k (.label t) .skip
 | reg {id:Nat} {ops:Array Oper} {d:Bool} {lo:LOps} (h:LowOps P k ops ops.toList lo) (hd:d=true→nB P ops=some []):Low P k (.region id ops d) (.reg lo)
 | drw {id:Nat} {ops:Array Oper} {lo:LOps} {tab:List (Nat×Nat)} {t:List (Nat×Option Nat×Option (Pth×Bool)×LOp)} (h:LowOps P k ops ops.toList lo) (ht:nB P ops=some tab) (hl:LowTab P ops tab t):Low P k (.region id ops true) (.drw lo t)
 | seq {a b:Code} {A B:LCode} (ha:Low P k a A) (hb:Low P k b B):Low P k (.seq a b) (.seq A B)
 | cond {c:Operand} {x y:Code} {X Y:LCode} (hc:iV c=true) (hx:Low P k x X) (hy:Low P k y Y):Low P k (.cond c x y) (.cond (iX c) X Y)
 | block {id:Nat} {b:Code} {B:LCode} (hb:Low P k b B):Low P k (.block id b) (.block id B)
 | loop {b:Code} {B:LCode} (hb:Low P k b B):Low P k (.loop b) (.loop B)
 | exit (id:Nat):Low P k (.exit id) (.exit id)
 | ret:Low P k .ret .ret
 | range {g:Operand} {ps:Array Tmp} {assign body:Code} {A B:LCode} (hg:iV g=true) (hps:∀t∈ps.toList,t<k) (ha:Low P k assign A) (hb:Low P k body B):
    Low P k (.rangeFunc g ps assign body) (.range (iX g) ((List.range k).map kW) (ps.toList.map kW) ps assign body A B)
section
variable {α:Type}
theorem b6M(k:Nat)(dst:Option Tmp)(no:α)(K:Option Pth→α):(∃d,DOk k dst d∧a6o k dst no K=K d)∨a6o k dst no K=no:=by
 cases dst with
 | none=>exact .inl ⟨none,.inl ⟨rfl,rfl⟩,rfl⟩
 | some t=>
   simp only[a6o,kO]
   split
   ·rename_i h
    rw[lM]
    rw[blt_eq]at h
    exact .inl ⟨_,.inr ⟨t,rfl,by simpa using h,rfl⟩,rfl⟩
   ·exact .inr rfl
theorem a1Q(k:Nat)(ops:Array Oper)(l:List Oper)(K:LOps→α)(no:α):(∃L,LowOps P k ops l L∧uC P k ops l K no=K L)∨uC P k ops l K no=no:=by
 induction l generalizing K with
 | nil=>exact .inl ⟨_,.nil,rfl⟩
 | cons o l ih=>
   let K2:Option Pth→LOp→α:=fun d o'=>match o.guard with
    | none=>uC P k ops l (fun r=>K (.cons d o' r)) no
    | some (j,w)=>match (ops[j]?).bind (·.dst)with
      | some t=>nY (Nat.blt t k) no (lR (kW t) fun p=>zZ w fun w=>uC P k ops l (fun r=>K (.gcons p w d o' r)) no)
      | none=>no
   have e:uC P k ops (o::l) K no=a6o k o.dst no fun d=>yE P o fun o'=>K2 d o':=rfl
   rw[e]
   rcases b6M k o.dst no (fun d=>yE P o fun o'=>K2 d o')with⟨d,hd,h1⟩|h1
   ·rw[h1]
    obtain⟨lo,hlo,h2⟩:=b0A (P:=P) o (fun o'=>K2 d o')
    rw[h2]
    simp only[K2]
    split
    ·rename_i hg
     rcases ih (fun r=>K (.cons d lo r))with⟨L,hL,h3⟩|h3
     ·exact .inl ⟨_,.cons hd hlo hg hL,h3⟩
     ·exact .inr h3
    ·rename_i j w hg
     split
     ·rename_i t ht
      rw[kO]
      split
      ·rename_i htk
       rw[lM,uZ]
       rw[blt_eq]at htk
       rcases ih (fun r=>K (.gcons (kW t) w d lo r))with⟨L,hL,h3⟩|h3
       ·exact .inl ⟨_,.gcons hd hlo hg ht (by simpa using htk) hL,h3⟩
       ·exact .inr h3
      ·exact .inr rfl
     ·exact .inr rfl
   ·exact .inr h1
theorem c1Z(k:Nat)(ops:Array Oper)(o:Oper)(no:α)(K:Option (Pth×Bool)→α):(∃g,GOk ops o g∧loG k ops o.guard no K=K g)∨loG k ops o.guard no K=no:=by
 cases hg:o.guard with
 | none=>exact .inl ⟨none,.inl ⟨hg,rfl⟩,rfl⟩
 | some x=>
   obtain⟨j,w⟩:=x
   unfold loG
   cases ht:(ops[j]?).bind (·.dst)with
   | none=>exact .inr (by simp only[ht])
   | some t=>
     simp only[ht,kO]
     split
     ·refine .inl ⟨some (kW t,w),.inr ⟨j,w,t,hg,ht,rfl⟩,?_⟩
      rw[lM,uZ]
     ·exact .inr rfl
theorem b4Z(k:Nat)(ops:Array Oper)(tab:List (Nat×Nat))(K:List (Nat×Option Nat×Option (Pth×Bool)×LOp)→α)(no:α):(∃t,LowTab P ops tab t∧tM P k ops ops.size tab K no=K t)∨tM P k ops ops.size tab K no=no:=by
 induction tab generalizing K with
 | nil=>exact .inl ⟨_,.nil,rfl⟩
 | cons x tab ih=>
   obtain⟨i,m⟩:=x
   cases ho:ops[i]? with
   | none=>
     refine .inr ?_
     show(match ops[i]? with
      | some o=>_
      | none=>no)=no
     rw[ho]
   | some o=>
     let K2:Option (Pth×Bool)→LOp→α:=fun g o'=>kF (ops.size-1-i) fun i=>nY (Nat.blt m ops.size) (tM P k ops ops.size tab (fun l=>K ((i,none,g,o')::l)) no) (kF (ops.size-1-m) fun m=>tM P k ops ops.size tab (fun l=>K ((i,some m,g,o')::l)) no)
     have e:tM P k ops ops.size ((i,m)::tab) K no=loG k ops o.guard no fun g=>yE P o fun o'=>K2 g o':=by
      show(match ops[i]? with
       | some o=>loG k ops o.guard no fun g=>yE P o fun o'=>K2 g o'
       | none=>no)=_
      rw[ho]
     rw[e]
     rcases c1Z k ops o no (fun g=>yE P o fun o'=>K2 g o')with⟨g,hgd,h1⟩|h1
     ·rw[h1]
      obtain⟨lo,hlo,h2⟩:=b0A (P:=P) o (fun o'=>K2 g o')
      rw[h2]
      show(∃t,_∧kF (ops.size-1-i) (fun i=>nY (Nat.blt m ops.size) (tM P k ops ops.size tab (fun l=>K ((i,none,g,lo)::l)) no) (kF (ops.size-1-m) fun m=>tM P k ops ops.size tab (fun l=>K ((i,some m,g,lo)::l)) no))=K t)∨kF (ops.size-1-i) (fun i=>nY (Nat.blt m ops.size) (tM P k ops ops.size tab (fun l=>K ((i,none,g,lo)::l)) no) (kF (ops.size-1-m) fun m=>tM P k ops ops.size tab (fun l=>K ((i,some m,g,lo)::l)) no))=no
      rw[kC,kO,kC,blt_eq]
      by_cases hm:m<ops.size
      ·rw[if_pos (by simpa using hm)]
       rcases ih (fun l=>K ((ops.size-1-i,some (ops.size-1-m),g,lo)::l))with⟨t,ht,h3⟩|h3
       ·have:=LowTab.cons (m:=m) ho hgd hlo ht
        rw[if_pos hm]at this
        exact .inl ⟨_,this,h3⟩
       ·exact .inr h3
      ·rw[if_neg (by simpa using hm)]
       rcases ih (fun l=>K ((ops.size-1-i,none,g,lo)::l))with⟨t,ht,h3⟩|h3
       ·have:=LowTab.cons (m:=m) ho hgd hlo ht
        rw[if_neg hm]at this
        exact .inl ⟨_,this,h3⟩
       ·exact .inr h3
     ·exact .inr h1
theorem b2i(k:Nat)(l:List Tmp)(K:List Pth→α)(no:α):((∀t∈l,t<k)∧wK k l K no=K (l.map kW))∨wK k l K no=no:=by
 induction l generalizing K with
 | nil=>exact .inl ⟨by simp,rfl⟩
 | cons t l ih=>
   show _∨nY (Nat.blt t k) no (lR (kW t) fun p=>wK k l (fun l=>K (p::l)) no)=no
   have e:wK k (t::l) K no=nY (Nat.blt t k) no (lR (kW t) fun p=>wK k l (fun l=>K (p::l)) no):=rfl
   rw[e,kO,lM,blt_eq]
   by_cases h:t<k
   ·rw[if_pos (by simpa using h)]
    rcases ih (fun l=>K (kW t::l))with⟨h1,h2⟩|h2
    ·exact .inl ⟨by simpa using⟨h,h1⟩,h2⟩
    ·exact .inr h2
   ·rw[if_neg (by simpa using h)];exact .inr rfl
theorem b2v(k:Nat)(c:Code)(K:LCode→α):∃C,Low P k c C∧nG P k c K=K C:=by
 induction c generalizing K with
 | skip=>exact⟨_,.skip,rfl⟩
 | region id ops d=>
   cases d with
   | false=>
     show ∃C,_∧uC P k ops ops.toList (fun l=>K (.reg l)) (K .bad)=K C
     rcases a1Q (P:=P) k ops ops.toList (fun l=>K (.reg l)) (K .bad)with⟨L,hL,h⟩|h
     ·exact⟨_,.reg hL (fun h=>by cases h),h⟩
     ·exact⟨_,.bad _,h⟩
   | true=>
     show ∃C,_∧(match nB P ops with
      | some []=>uC P k ops ops.toList (fun l=>K (.reg l)) (K .bad)
      | some tab=>uC P k ops ops.toList (fun l=>tM P k ops ops.size tab (fun t=>K (.drw l t)) (K .bad)) (K .bad)
      | none=>K .bad)=K C
     split
     ·rename_i hd
      rcases a1Q (P:=P) k ops ops.toList (fun l=>K (.reg l)) (K .bad)with⟨L,hL,h⟩|h
      ·exact⟨_,.reg hL (fun _=>hd),h⟩
      ·exact⟨_,.bad _,h⟩
     ·rename_i tab _ hd
      rcases a1Q (P:=P) k ops ops.toList (fun l=>tM P k ops ops.size tab (fun t=>K (.drw l t)) (K .bad)) (K .bad)with⟨L,hL,h⟩|h
      ·rw[h]
       rcases b4Z (P:=P) k ops tab (fun t=>K (.drw L t)) (K .bad)with⟨t,ht,h2⟩|h2
       ·exact⟨_,.drw hL hd ht,h2⟩
       ·exact⟨_,.bad _,h2⟩
      ·exact⟨_,.bad _,h⟩
     ·exact⟨_,.bad _,rfl⟩
 | seq a b iha ihb=>
   show ∃C,_∧nG P k a (fun a=>nG P k b fun b=>K (.seq a b))=K C
   obtain⟨A,hA,h1⟩:=iha (fun a=>nG P k b fun b=>K (.seq a b))
   obtain⟨B,hB,h2⟩:=ihb (fun b=>K (.seq A b))
   exact⟨_,.seq hA hB,h1.trans h2⟩
 | cond c x y ihx ihy=>
   show ∃C,_∧nY (iV c) (K .bad) (lV c fun c=>nG P k x fun x=>nG P k y fun y=>K (.cond c x y))=K C
   rw[kO]
   split
   ·rename_i hc
    rw[lA]
    obtain⟨X,hX,h1⟩:=ihx (fun x=>nG P k y fun y=>K (.cond (iX c) x y))
    obtain⟨Y,hY,h2⟩:=ihy (fun y=>K (.cond (iX c) X y))
    exact⟨_,.cond hc hX hY,h1.trans h2⟩
   ·exact⟨_,.bad _,rfl⟩
 | block id b ih=>
   show ∃C,_∧kF id (fun id=>nG P k b fun b=>K (.block id b))=K C
   rw[kC]
   obtain⟨B,hB,h1⟩:=ih (fun b=>K (.block id b))
   exact⟨_,.block hB,h1⟩
 | loop b ih=>
   show ∃C,_∧nG P k b (fun b=>K (.loop b))=K C
   obtain⟨B,hB,h1⟩:=ih (fun b=>K (.loop b))
   exact⟨_,.loop hB,h1⟩
 | rangeFunc g ps assign body iha ihb=>
   show ∃C,_∧nY (iV g) (K .bad) (lV g fun g'=>b1j k fun pp=>wK k ps.toList (fun q=>nG P k assign fun a=>nG P k body fun b=>K (.range g' pp q ps assign body a b)) (K .bad))=K C
   rw[kO]
   split
   ·rename_i hg
    rw[lA,b0O]
    rcases b2i k ps.toList (fun q=>nG P k assign fun a=>nG P k body fun b=>K (.range (iX g) ((List.range k).map kW) q ps assign body a b)) (K .bad)with⟨hps,h⟩|h
    ·obtain⟨A,hA,h1⟩:=iha (fun a=>nG P k body fun b=>K (.range (iX g) ((List.range k).map kW) (ps.toList.map kW) ps assign body a b))
     obtain⟨B,hB,h2⟩:=ihb (fun b=>K (.range (iX g) ((List.range k).map kW) (ps.toList.map kW) ps assign body A b))
     exact⟨_,.range hg hps hA hB,h.trans (h1.trans h2)⟩
    ·exact⟨_,.bad _,h⟩
   ·exact⟨_,.bad _,rfl⟩
 | exit id=>
   show ∃C,_∧kF id (fun id=>K (.exit id))=K C
   rw[kC]
   exact⟨_,.exit id,rfl⟩
 | label t=>exact⟨_,.label t,rfl⟩
 | ret=>exact⟨_,.ret,rfl⟩
 | scope b _=>exact⟨_,.bad _,rfl⟩
 | goto t=>exact⟨_,.bad _,rfl⟩
 | refuse w=>exact⟨_,.bad _,rfl⟩
end
theorem vF{α:Type}{k:Nat}{f:Fr}{l:List Value}(h:FRel k f l){dst:Option Tmp}{d:Option Pth}(hd:DOk k dst d)(v:Value)(K:Fr→α):∃f',tY d v f K=K f'∧FRel k f' (put l dst v):=by
 rcases hd with⟨rfl,rfl⟩|⟨t,rfl,ht,rfl⟩
 ·exact⟨f,rfl,h⟩
 ·exact⟨b4Q f t v,sO v (kW t) f K,h.put ht v⟩
theorem xK{ops:Array Oper}{l:List Value}{j t:Nat}(ht:(ops[j]?).bind (·.dst)=some t)(htl:t<l.length)(w:Bool):(jE ops l j==some w)=isB (get l t) w:=by
 have hg:get l t=l[t]:=by rw[oF];simp[htl]
 unfold jE
 rw[ht,hg]
 simp only[dx htl]
 cases hv:l[t]<;>simp[isB]
 rename_i b
 cases b<;>cases w<;>rfl
theorem b9S{k:Nat}{ops:Array Oper}{C:Calls'}{H0:Heap}(hC:CallsOk P C H0){os:List Oper}{lo:LOps}(hlo:LowOps P k ops os lo):∀{i:Nat},ops.toList.drop i=os→∀{f:Fr}{l:List Value}{H:Heap}{f1:Fr}{H1:Heap},
 FRel k f l→LK H0 H→xA P C lo f H=.ok f1 H1→∃l1,FRel k f1 l1∧OpsR P ops (List.range' i os.length) l H l1 H1∧LK H H1:=by
 induction hlo with
 | nil=>
   intro i _ f l H f1 H1 hf _ h
   injection h with h1 h2
   subst h1 h2
   exact⟨l,hf,.nil l H,.refl H⟩
 | @cons o os d lo r hd ho hg hr ih=>
   intro i hi f l H f1 H1 hf hk h
   have hio:ops[i]? =some o:=by
    have:(ops.toList.drop i)[0]? =some o:=by rw[hi];rfl
    rw[dF]at this
    simpa using this
   have hi':ops.toList.drop (i+1)=os:=by rw[←fD,hi];rfl
   have hw:Region.wanted o (jE ops l)=true:=by simp[Region.wanted,hg]
   have h:b0h Rf.no d f (xA P C r) (opF P C lo f H)=.ok f1 H1:=h
   have key:∀v H2,(opF P C lo f H).Is v H2→(tY d v f fun f=>xA P C r f H2)=.ok f1 H1→∃l1,FRel k f1 l1∧OpsR P ops (List.range' i (o::os).length) l H l1 H1∧LK H H1:=by
    intro v H2 hop hrest
    obtain⟨hs,hk2⟩:=ho C H0 f l H v H2 hC hk hf.2 hop
    obtain⟨f',e,hf'⟩:=vF hf hd v (fun f=>xA P C r f H2)
    rw[e]at hrest
    obtain⟨l1,h1,h2,h3⟩:=ih hi' hf' (hk.trans hk2) hrest
    exact⟨l1,h1,.step hio hw hs h2,hk2.trans h3⟩
   cases hop:opF P C lo f H with
   | no=>rw[hop]at h;cases h
   | ok v H2=>rw[hop]at h;exact key v H2 (.inl hop) h
   | th v H2=>
     rw[hop]at h
     have h:yO v (fun v=>nS H2 fun H2=>tY d v f fun f=>xA P C r f H2)=.ok f1 H1:=h
     rw[xM,mI]at h
     exact key v H2 (.inr hop) h
 | @gcons o os d lo r j t w hd ho hg ht htk hr ih=>
   intro i hi f l H f1 H1 hf hk h
   have hio:ops[i]? =some o:=by
    have:(ops.toList.drop i)[0]? =some o:=by rw[hi];rfl
    rw[dF]at this
    simpa using this
   have hi':ops.toList.drop (i+1)=os:=by rw[←fD,hi];rfl
   have hwi:Region.wanted o (jE ops l)=isB (nZ (kW t) f) w:=by
    simp only[Region.wanted,hg]
    rw[xK ht (by rw[hf.1];exact htk) w,hf.2 t]
   have h:nY (isB (nZ (kW t) f) w) (tY d undef f fun f=>xA P C r f H) (b0h Rf.no d f (xA P C r) (opF P C lo f H))=.ok f1 H1:=h
   rw[kO]at h
   split at h
   ·rename_i hb
    have key:∀v H2,(opF P C lo f H).Is v H2→(tY d v f fun f=>xA P C r f H2)=.ok f1 H1→∃l1,FRel k f1 l1∧OpsR P ops (List.range' i (o::os).length) l H l1 H1∧LK H H1:=by
     intro v H2 hop hrest
     obtain⟨hs,hk2⟩:=ho C H0 f l H v H2 hC hk hf.2 hop
     obtain⟨f',e,hf'⟩:=vF hf hd v (fun f=>xA P C r f H2)
     rw[e]at hrest
     obtain⟨l1,h1,h2,h3⟩:=ih hi' hf' (hk.trans hk2) hrest
     exact⟨l1,h1,.step hio (by rw[hwi,hb]) hs h2,hk2.trans h3⟩
    cases hop:opF P C lo f H with
    | no=>rw[hop]at h;cases h
    | ok v H2=>rw[hop]at h;exact key v H2 (.inl hop) h
    | th v H2=>
      rw[hop]at h
      have h:yO v (fun v=>nS H2 fun H2=>tY d v f fun f=>xA P C r f H2)=.ok f1 H1:=h
      rw[xM,mI]at h
      exact key v H2 (.inr hop) h
   ·rename_i hb
    obtain⟨f',e,hf'⟩:=vF hf hd undef (fun f=>xA P C r f H)
    rw[e]at h
    obtain⟨l1,h1,h2,h3⟩:=ih hi' hf' hk h
    exact⟨l1,h1,.past hio (by rw[hwi];simpa using hb) h2,h3⟩
structure Noted(P:Program)(k:Nat)(ops:Array Oper)(H:Heap)(i n:Nat)(T:Nat→List Value×Heap)(val:Nat→Value)(tr0 tr:List (Fr×Heap×Value)):Prop where
 step:∀j,i≤j→j<i+n→vO P ops j (T j) (T (j+1)) (val j)
 new:∀j,i≤j→j<i+n→∃g,tr[i+n-1-j]? =some (g,(T j).2,val j)∧FAg g (T j).1
 old:∀m,tr[n+m]? =tr0[m]?
 lk:∀j,i≤j→j≤i+n→LK H (T j).2
theorem b5v{k:Nat}{ops:Array Oper}{C:Calls'}{H0:Heap}(hC:CallsOk P C H0){os:List Oper}{lo:LOps}(hlo:LowOps P k ops os lo):∀{i:Nat},ops.toList.drop i=os→∀{tr0 tr:List (Fr×Heap×Value)}{f:Fr}{l:List Value}{H:Heap}{f1:Fr}{H1:Heap},
 FRel k f l→LK H0 H→rG P C lo tr0 f H=.ok tr f1 H1→∃T val l1,T i=(l,H)∧T (i+os.length)=(l1,H1)∧FRel k f1 l1∧Noted P k ops H i os.length T val tr0 tr:=by
 have more:∀{i n:Nat}{o:Oper}{tr0 tr:List (Fr×Heap×Value)}{f:Fr}{l:List Value}{H:Heap}{v:Value}{l2:List Value}{H2:Heap}{l1:List Value}{H1:Heap}{f1:Fr},FRel k f l→vO P ops i (l,H) (l2,H2) v→LK H H2→
  (∃T val l1,T (i+1)=(l2,H2)∧T (i+1+n)=(l1,H1)∧FRel k f1 l1∧Noted P k ops H2 (i+1) n T val ((f,H,v)::tr0) tr)→
  ∃T val l1,T i=(l,H)∧T (i+(n+1))=(l1,H1)∧FRel k f1 l1∧Noted P k ops H i (n+1) T val tr0 tr:=by
  intro i n o tr0 tr f l H v l2 H2 _ H1 f1 hf hst hk ⟨T,val,l1,h1,h2,h3,hN⟩
  refine⟨fun j=>if j≤i then(l,H)else T j,fun j=>if j≤i then v else val j,l1,by simp,?_,h3,?_⟩
  ·show(if i+(n+1)≤i then(l,H)else T (i+(n+1)))=_
   rw[if_neg (by omega),←h2];congr 1;omega
  ·refine⟨fun j hj hn=> ?_,fun j hj hn=> ?_,fun m=> ?_,fun j hj hn=> ?_⟩
   ·by_cases he:j=i
    ·subst he
     simp only[dm,if_true]
     rw[if_neg (by omega),h1]
     exact hst
    ·rw[if_neg (by omega),if_neg (by omega),if_neg (by omega)]
     exact hN.step j (by omega) (by omega)
   ·by_cases he:j=i
    ·subst he
     simp only[dm,if_true]
     refine⟨f,?_,hf.2⟩
     have:=hN.old 0
     rw[show j+(n+1)-1-j=n+0 by omega,this];rfl
    ·rw[if_neg (by omega),if_neg (by omega)]
     obtain⟨g,hg,hag⟩:=hN.new j (by omega) (by omega)
     exact⟨g,by rw[←hg];congr 1;omega,hag⟩
   ·have:=hN.old (m+1)
    rw[show n+1+m=n+(m+1) by omega,this];rfl
   ·by_cases he:j=i
    ·subst he;simp only[dm,if_true];exact .refl H
    ·rw[if_neg (by omega)];exact hk.trans (hN.lk j (by omega) (by omega))
 induction hlo with
 | nil=>
   intro i _ tr0 tr f l H f1 H1 hf _ h
   injection h with h1 h2 h3
   subst h1 h2 h3
   exact⟨fun _=>(l,H),fun _=>undef,l,rfl,rfl,hf,fun j _ h=>absurd h (by simp;omega),fun j _ h=>absurd h (by simp;omega),fun m=>by simp,fun _ _ _=>.refl H⟩
 | @cons o os d lo r hd ho hg hr ih=>
   intro i hi tr0 tr f l H f1 H1 hf hk h
   have hio:ops[i]? =some o:=by
    have:(ops.toList.drop i)[0]? =some o:=by rw[hi];rfl
    rw[dF]at this
    simpa using this
   have hi':ops.toList.drop (i+1)=os:=by rw[←fD,hi];rfl
   have hw:Region.wanted o (jE ops l)=true:=by simp[Region.wanted,hg]
   have h:b1d tr0 f H d (rG P C r) (opF P C lo f H)=.ok tr f1 H1:=h
   have key:∀v H2,(opF P C lo f H).Is v H2→(tY d v f fun f2=>rG P C r ((f,H,v)::tr0) f2 H2)=.ok tr f1 H1→∃T val l1,T i=(l,H)∧T (i+(o::os).length)=(l1,H1)∧FRel k f1 l1∧Noted P k ops H i (o::os).length T val tr0 tr:=by
    intro v H2 hop hrest
    obtain⟨hs,hk2⟩:=ho C H0 f l H v H2 hC hk hf.2 hop
    obtain⟨f',e,hf'⟩:=vF hf hd v (fun f2=>rG P C r ((f,H,v)::tr0) f2 H2)
    rw[e]at hrest
    have:=ih hi' hf' (hk.trans hk2) hrest
    exact more (o:=o) (l1:=l) hf ⟨o,hio,rfl,.inl ⟨hw,hs⟩⟩ hk2 this
   cases hop:opF P C lo f H with
   | no=>rw[hop]at h;cases h
   | ok v H2=>rw[hop]at h;exact key v H2 (.inl hop) h
   | th v H2=>
     rw[hop]at h
     have h:yO v (fun v=>nS H2 fun H2=>tY d v f fun f2=>rG P C r ((f,H,v)::tr0) f2 H2)=.ok tr f1 H1:=h
     rw[xM,mI]at h
     exact key v H2 (.inr hop) h
 | @gcons o os d lo r j t w hd ho hg ht htk hr ih=>
   intro i hi tr0 tr f l H f1 H1 hf hk h
   have hio:ops[i]? =some o:=by
    have:(ops.toList.drop i)[0]? =some o:=by rw[hi];rfl
    rw[dF]at this
    simpa using this
   have hi':ops.toList.drop (i+1)=os:=by rw[←fD,hi];rfl
   have hwi:Region.wanted o (jE ops l)=isB (nZ (kW t) f) w:=by
    simp only[Region.wanted,hg]
    rw[xK ht (by rw[hf.1];exact htk) w,hf.2 t]
   have h:nY (isB (nZ (kW t) f) w) (tY d undef f fun f2=>rG P C r ((f,H,undef)::tr0) f2 H) (b1d tr0 f H d (rG P C r) (opF P C lo f H))=.ok tr f1 H1:=h
   rw[kO]at h
   split at h
   ·rename_i hb
    have key:∀v H2,(opF P C lo f H).Is v H2→(tY d v f fun f2=>rG P C r ((f,H,v)::tr0) f2 H2)=.ok tr f1 H1→∃T val l1,T i=(l,H)∧T (i+(o::os).length)=(l1,H1)∧FRel k f1 l1∧Noted P k ops H i (o::os).length T val tr0 tr:=by
     intro v H2 hop hrest
     obtain⟨hs,hk2⟩:=ho C H0 f l H v H2 hC hk hf.2 hop
     obtain⟨f',e,hf'⟩:=vF hf hd v (fun f2=>rG P C r ((f,H,v)::tr0) f2 H2)
     rw[e]at hrest
     exact more (o:=o) (l1:=l) hf ⟨o,hio,rfl,.inl ⟨by rw[hwi,hb],hs⟩⟩ hk2 (ih hi' hf' (hk.trans hk2) hrest)
    cases hop:opF P C lo f H with
    | no=>rw[hop]at h;cases h
    | ok v H2=>rw[hop]at h;exact key v H2 (.inl hop) h
    | th v H2=>
      rw[hop]at h
      have h:yO v (fun v=>nS H2 fun H2=>tY d v f fun f2=>rG P C r ((f,H,v)::tr0) f2 H2)=.ok tr f1 H1:=h
      rw[xM,mI]at h
      exact key v H2 (.inr hop) h
   ·rename_i hb
    obtain⟨f',e,hf'⟩:=vF hf hd undef (fun f2=>rG P C r ((f,H,undef)::tr0) f2 H)
    rw[e]at h
    exact more (o:=o) (l1:=l) hf ⟨o,hio,rfl,.inr ⟨by rw[hwi];simpa using hb,rfl,rfl⟩⟩ (.refl H) (ih hi' hf' hk h)
theorem b0W{α:Type}(p:α→Bool)(l:List α):b5c p l=l.all p:=by
 induction l with
 | nil=>rfl
 | cons x l ih=>
   show nY (p x) false (b5c p l)=_
   rw[kO,ih,fK]
   cases p x<;>rfl
theorem c0e{v:Value}{r:Rs}(h:b9r v r=true):∃H,r.Is v H:=by
 cases r with
 | no=>cases h
 | ok w H=>exact⟨H,.inl (by rw[b4t (show veq w v=true from h)])⟩
 | th w H=>exact⟨H,.inr (by rw[b4t (show veq w v=true from h)])⟩
theorem LowTab.get{ops:Array Oper}{tab:List (Nat×Nat)}{t:List (Nat×Option Nat×Option (Pth×Bool)×LOp)}(h:LowTab P ops tab t){i m:Nat}(hm:(i,m)∈tab):∃o lo g,ops[i]? =some o∧GOk ops o g∧vU P o lo∧(ops.size-1-i,(if m<ops.size then some (ops.size-1-m)else none),g,lo)∈t:=by
 induction h with
 | nil=>cases hm
 | @cons i2 m2 o lo tab t g ho hgd hl hr ih=>
   rcases ej.1 hm with he|hm
   ·injection he with h1 h2
    subst h1 h2
    exact⟨o,lo,g,ho,hgd,hl,by simp⟩
   ·obtain⟨o',lo',g',h1,h0,h2,h3⟩:=ih hm
    exact⟨o',lo',g',h1,h0,h2,eH _ h3⟩
theorem a8h{fl:Fl}{ops:Array Oper}{i m:Nat}(h:(i,m)∈oN fl ops){o:Oper}(ho:ops[i]? =some o):nU o.op=true:=by
 unfold oN at h
 simp only[eT]at h
 obtain⟨⟨x,j⟩,hx,h⟩:=h
 dsimp only at h
 split at h
 ·rename_i hr
  simp only[dE]at h
  obtain⟨m',_,e⟩:=h
  injection e with e1 e2
  subst e1
  have:=gC.1 hx
  have:ops[j]? =some x:=by simpa using this
  rw[this]at ho
  injection ho with ho
  subst ho
  exact hr
 ·cases h
theorem b8P(kJ:P.follows .mixedOrders=true){k id:Nat}{ops:Array Oper}{C:Calls'}{H:Heap}(hC:CallsOk P C H){lo:LOps}{tab:List (Nat×Nat)}{t:List (Nat×Option Nat×Option (Pth×Bool)×LOp)}(hlo:LowOps P k ops ops.toList lo)(htab:nB P ops=some tab)(hl:LowTab P ops tab t)
 {f:Fr} {l:List Value} {e:Ex} {f1:Fr} {H1:Heap} (hf:FRel k f l) (h:c0A P C t (rG P C lo [] f H)=.ok e f1 H1):∃l1,e=.normal∧FRel k f1 l1∧Sim P (.region id ops true) l H .normal l1 H1∧LK H H1:=by
 cases hr:rG P C lo [] f H with
 | no=>rw[hr]at h;cases h
 | ok tr f2 H2=>
   rw[hr]at h
   have h:nY (b5c (b6U P C tr H2) t) Rc.no (.ok .normal f2 H2)=.ok e f1 H1:=h
   rw[kO]at h
   split at h
   case isFalse=>cases h
   rename_i hall
   injection h with h1 h2 h3
   subst h1 h2 h3
   obtain⟨T,val,l1,hT0,hTn,hf1,hN⟩:=b5v hC hlo (i:=0) rfl hf (.refl H) hr
   rw[fX,fx]at hTn
   rw[fX]at hN
   have hlk:LK H H2:=by have:=hN.lk ops.size (eQ _) (by omega);rwa [hTn]at this
   refine⟨l1,rfl,hf1,?_,hlk⟩
   have:=Sim.draw kJ (id:=id) htab (T:=T) (val:=val) ⟨fun j hj=>hN.step j (eQ _) (by omega)⟩ ?_
   ·rw[hT0,hTn]at this;exact this
   ·intro i m o hm ho hw
    obtain⟨o',lo',gd,ho',hgd,hlow,hmem⟩:=hl.get hm
    rw[ho]at ho'
    obtain rfl:=dc ho'
    rw[b0W,dJ]at hall
    have hrd:=hall _ hmem
    have hi:i<ops.size:=(dz.1 ho).1
    obtain⟨g,hg,hag⟩:=hN.new i (eQ _) (by omega)
    have hg:tr[ops.size-1-i]? =some (g,(T i).2,val i):=by rw[←hg];congr 1;omega
    have hread:nU o.op=true:=by
     obtain⟨fl,_,rfl⟩:=qG htab
     exact a8h hm ho
    have fin:∀H3,LK H H3→b9r (val i) (opF P C lo' g H3)=true→∃H4,opD P o (T i).1 H3=some (val i,H4):=by
     intro H3 hk3 hq
     obtain⟨H4,h4⟩:=c0e hq
     obtain⟨hs,_⟩:=hlow C H g (T i).1 H3 (val i) H4 hC hk3 hag h4
     refine⟨H4,hs.opD fun c fv hc hv=> ?_⟩
     rw[hc]at hread
     simp[nU,hv]at hread
    unfold b6U at hrd
    simp only[xL,hg,hgd.runs hag hw]at hrd
    rw[kO,if_pos rfl]at hrd
    by_cases hms:m<ops.size
    ·rw[if_pos hms]at hrd
     obtain⟨g2,hg2,_⟩:=hN.new m (eQ _) (by omega)
     have hg2:tr[ops.size-1-m]? =some (g2,(T m).2,val m):=by rw[←hg2];congr 1;omega
     simp only[hg2]at hrd
     exact fin _ (hN.lk m (eQ _) (by omega)) hrd
    ·rw[if_neg hms]at hrd
     have hle:m=ops.size:=by
      obtain⟨fl,_,rfl⟩:=qG htab
      have:=a5M hm
      omega
     subst hle
     have:=fin H2 hlk hrd
     rw[hTn];exact this
def uU(P:Program):List ResultVar→List LRes→Prop
 | [],[]=>True
 | r::rs,l::ls=>(match r,l with
   | .tmp t,.t p=>p=kW t
   | .cell a t,.c1 p=>p=kW a∧kH P t=some false
   | .cell a t,.cn n p=>p=kW a∧kH P t=some true∧iJ P t=some n
   | _,_=>False)∧uU P rs ls
 | _,_=>False
theorem b4i{α:Type}(l:List ResultVar)(K:List LRes→α)(no:α):(∃r,uU P l r∧a0u P l K no=K r)∨a0u P l K no=no:=by
 induction l generalizing K with
 | nil=>exact .inl ⟨[],trivial,rfl⟩
 | cons r l ih=>
   cases r with
   | tmp t=>
     have e:a0u P (.tmp t::l) K no=lR (kW t) fun p=>a0u P l (fun l=>K (.t p::l)) no:=rfl
     rw[e,lM]
     rcases ih (fun l=>K (.t (kW t)::l))with⟨q,h1,h2⟩|h2
     ·exact .inl ⟨.t (kW t)::q,⟨rfl,h1⟩,h2⟩
     ·exact .inr h2
   | cell a t=>
     have e:a0u P (.cell a t::l) K no=match kH P t with
      | some true=>a2E (iJ P t) no fun n=>lR (kW a) fun p=>a0u P l (fun l=>K (.cn n p::l)) no
      | some false=>lR (kW a) fun p=>a0u P l (fun l=>K (.c1 p::l)) no
      | none=>no:=rfl
     rw[e]
     split
     ·rename_i ha
      cases hn:iJ P t with
      | none=>exact .inr rfl
      | some n=>
        rw[oZ,lM]
        rcases ih (fun l=>K (.cn n (kW a)::l))with⟨q,h1,h2⟩|h2
        ·exact .inl ⟨.cn n (kW a)::q,⟨⟨rfl,ha,hn⟩,h1⟩,h2⟩
        ·exact .inr h2
     ·rename_i ha
      rw[lM]
      rcases ih (fun l=>K (.c1 (kW a)::l))with⟨q,h1,h2⟩|h2
      ·exact .inl ⟨.c1 (kW a)::q,⟨⟨rfl,ha⟩,h1⟩,h2⟩
      ·exact .inr h2
     ·exact .inr rfl
theorem b0G{H H1:Heap}{f:Fr}{l:List Value}(hf:FAg f l){r:ResultVar}{q:LRes}{rs:List ResultVar}{qs:List LRes}(h:uU P (r::rs) (q::qs)){v:Value}(hv:(a3s H f q).Is v H1):H1=H∧a1e P l H r=some v∧uU P rs qs:=by
 obtain⟨h,hr⟩:=h
 cases r with
 | tmp t=>cases q with
   | t p=>
     have h:p=kW t:=h
     subst h
     have hv:(oP (nZ (kW t) f) fun v=>Rs.ok v H).Is v H1:=hv
     rw[mW]at hv
     obtain⟨rfl,rfl⟩:=Rs.aM hv
     exact⟨rfl,by rw[hf t];rfl,hr⟩
   | c1 p=>exact h.elim
   | cn n p=>exact h.elim
 | cell a t=>cases q with
   | t p=>exact h.elim
   | c1 p=>
     obtain⟨rfl,ha⟩:=h
     obtain⟨e,h1⟩:=b0C (P:=P) (X:=.t (kW a)) (w:=get l a) ha (hf a) hv
     exact⟨e,h1,hr⟩
   | cn n p=>
     obtain⟨rfl,ha,hn⟩:=h
     obtain⟨e,h1⟩:=b1c (P:=P) (X:=.t (kW a)) (w:=get l a) ha hn (hf a) hv
     exact⟨e,h1,hr⟩
theorem b7J{H:Heap}{f:Fr}{q:LRes}{v:Value}{H1:Heap}:¬(a3s H f q=.th v H1):=by
 intro h
 cases q with
 | t p=>
   have h:(oP (nZ p f) fun v=>Rs.ok v H)=.th v H1:=h
   rw[mW]at h;cases h
 | c1 p=>
   have h:b2W (.t p) f H=.th v H1:=h
   unfold b2W at h
   split at h
   ·unfold b7D at h
    split at h
    ·rw[kO,kO,kO]at h
     split at h
     ·split at h
      ·split at h
       ·rename_i cs _ _ _ _ _ _ _ _
        cases hn:a0P cs _ with
        | none=>rw[hn]at h;cases h
        | some w=>rw[hn]at h;have h:(oP w fun v=>Rs.ok v H)=.th v H1:=h;rw[mW]at h;cases h
       ·cases h
      ·cases h
     ·cases h
    ·cases h
   ·unfold c1r at h
    split at h
    ·rw[kO]at h
     split at h
     ·rename_i cs _ _ _ _
      cases hn:a0P cs _ with
      | none=>rw[hn]at h;cases h
      | some w=>rw[hn]at h;have h:(oP w fun v=>Rs.ok v H)=.th v H1:=h;rw[mW]at h;cases h
     ·cases h
    ·cases h
   ·cases h
 | cn n p=>
   have hh:b2y n (.t p) f H=.th v H1:=h
   unfold b2y at hh
   split at hh
   ·unfold b8Z at hh
    split at hh
    ·rw[kO,kO,kO]at hh
     split at hh
     ·split at hh
      ·split at hh
       ·have key:∀{cs:List Value}{n:Nat}{pre:List Value},¬(a1p cs n fun l=>Rs.ok (.agg ⟨pre++l⟩) H)=.th v H1:=by
         intro cs
         induction cs with
         | nil=>intro n pre h;cases n<;>cases h
         | cons c cs ih=>
           intro n pre h
           cases n with
           | zero=>cases h
           | succ n=>
             have h:(a1p cs n fun l=>Rs.ok (.agg ⟨pre++(c::l)⟩) H)=.th v H1:=h
             have e:∀l:List Value,pre++(c::l)=(pre++[c])++l:=by intro l;simp
             have h2:(a1p cs n fun l=>Rs.ok (.agg ⟨(pre++[c])++l⟩) H)=.th v H1:=by
              rw[←h];congr 1;funext l;rw[e l]
             exact ih h2
        exact key (pre:=[]) hh
       ·cases hh
      ·cases hh
     ·cases hh
    ·cases hh
   ·cases hh
theorem a7w{H H1:Heap}{f:Fr}{l:List Value}(hf:FAg f l){v:Value}:∀{rs:List ResultVar}{qs:List LRes}{K:List Value→Rs},uU P rs qs→(b4F H f qs K).Is v H1→∃vs,nI P l H rs=some vs∧(K vs).Is v H1
 | [],[],K,_,h=>⟨[],rfl,h⟩
 | [],_::_,_,h,_=>h.elim
 | _::_,[],_,h,_=>h.elim
 | r::rs,q::qs,K,hl,h=>by
   have h:(Rs.rec (motive:=fun _=>Rs) .no (fun v _=>b4F H f qs fun l=>K (v::l)) (fun _ _=>.no) (a3s H f q)).Is v H1:=h
   cases hq:a3s H f q with
   | no=>rw[hq]at h;exact absurd h Rs.ar
   | th w H2=>exact absurd hq b7J
   | ok w H2=>
     rw[hq]at h
     obtain⟨e,h1,h2⟩:=b0G hf hl (.inl hq)
     obtain⟨vs,h3,h4⟩:=a7w hf h2 h
     exact⟨w::vs,by simp[nI,h1,h3],h4⟩
theorem b3O{fn:Func}{H H1:Heap}{f:Fr}{l:List Value}(hf:FAg f l){qs:List LRes}(hl:uU P fn.results.toList qs){v:Value}(h:(a7S qs f H).Is v H1):H1=H∧iI P fn l H=some v:=by
 unfold a7S at h
 split at h
 ·rename_i q
  cases hr:fn.results.toList with
  | nil=>rw[hr]at hl;exact hl.elim
  | cons r rs=>
    rw[hr]at hl
    obtain⟨e,h1,h2⟩:=b0G hf hl h
    cases rs with
    | cons _ _=>exact h2.elim
    | nil=>exact⟨e,by simp[iI,hr,nI,h1]⟩
 ·rename_i hne
  obtain⟨vs,h1,h2⟩:=a7w hf hl h
  obtain⟨h3,h4⟩:=lI h2
  obtain⟨rfl,rfl⟩:=Rs.aM h4
  refine⟨rfl,?_⟩
  have hlen:∀{rs:List ResultVar}{qs:List LRes},uU P rs qs→rs.length=qs.length:=by
   intro rs
   induction rs with
   | nil=>intro qs h;cases qs with|nil=>rfl|cons=>exact h.elim
   | cons r rs ih=>intro qs h;cases qs with|nil=>exact h.elim|cons q qs=>simp[ih h.2]
  have hvl:∀{rs:List ResultVar}{vs:List Value},nI P l H1 rs=some vs→vs.length=rs.length:=by
   intro rs
   induction rs with
   | nil=>intro vs h;injection h with h;subst h;rfl
   | cons r rs ih=>
     intro vs h
     simp only[nI,dg,dq]at h
     obtain⟨w,_,ws,h1,h2⟩:=h
     subst h2
     simp[ih h1]
  have hn1:vs.length≠1:=by
   rw[hvl h1,hlen hl]
   intro h1
   match qs,h1 with
   | [q],_=>exact hne q rfl
  unfold iI
  rw[h1,dh]
  rw[b0W]at h3
  have h3:vs.all jL=true:=by rw[←h3];congr 1
  split
  ·exact absurd rfl hn1
  ·rw[if_pos h3]
structure FuncOk(P:Program)(f:FuncId)(g:LFunc):Prop where
 ex:∃fn c,P.funcs[f]? =some fn∧fn.body=some c∧(fn.name== "runtime.NumGoroutine")=false∧g.ps=(List.range fn.ntmps).map kW∧Low P fn.ntmps c g.body∧uU P fn.results.toList g.res
def TOk(P:Program)(T:LT):Prop:=∀f g,a1g (kW f) T=some g→FuncOk P f g
def EOk(P:Program)(E:List LEnv)(H:Heap):Prop:=∀en∈E,en.L<H.length∧∀r,iT H en.L=some (.loop r)→
 ∃k,en.ps=(List.range k).map kW∧r.tmps.size=k∧en.pp=r.params.toList.map kW∧(∀t∈r.params.toList,t<k)∧Low P k r.assign en.a∧Low P k r.body en.b
theorem EOk.ag{E:List LEnv}{H H':Heap}(h:EOk P E H)(hk:LK H H'):EOk P E H':=fun en hen=>by
 obtain⟨h1,h2⟩:=h en hen
 refine⟨dV h1 hk.1,fun r' hr'=> ?_⟩
 obtain⟨r,hr,ea,eb,ep,et⟩:=hk.2 en.L r' h1 hr'
 obtain⟨k,a,b,c,d,e,f⟩:=h2 r hr
 exact⟨k,a,by rw[et];exact b,by rw[ep];exact c,by rw[ep];exact d,by rw[ea];exact e,by rw[eb];exact f⟩
def a3D(P:Program)(ih:qE):Prop:=∀(E:List LEnv)(C:LCode)(k:Nat)(c:Code)(f:Fr)(l:List Value)(H:Heap)(e:Ex)(f1:Fr)(H1:Heap),Low P k c C→FRel k f l→EOk P E H→ih E C f H=.ok e f1 H1→
 ∃l1,FRel k f1 l1∧Sim P c l H e l1 H1∧LK H H1∧∀b,c=.loop b→∃n,Rounds P b n l H e l1 H1
theorem zQ{α:Type}{no:α}:∀{l:List Value}{i m:Nat}{f:Fr}{K:Fr→α},(pB no l ((List.range' i m).map kW) f K=no)∨(l.length≤m∧∃f',pB no l ((List.range' i m).map kW) f K=K f'∧∀t,nZ (kW t) f'=if i≤t∧t<i+l.length then get l (t-i)else nZ (kW t) f)
 | [],i,m,f,K=>.inr ⟨eQ _,f,rfl,fun t=>by rw[if_neg (by simp only[dZ];omega)]⟩
 | v::l,i,0,f,K=>.inl rfl
 | v::l,i,m+1,f,K=>by
   have e:pB no (v::l) ((List.range' i (m+1)).map kW) f K=pY v (kW i) f fun f=>pB no l ((List.range' (i+1) m).map kW) f K:=by
    rw[gO];rfl
   rw[e,sO]
   rcases zQ (l:=l) (i:=i+1) (m:=m) (f:=b4Q f i v) (K:=K)with h|⟨h1,f',h2,h3⟩
   ·exact .inl h
   ·refine .inr ⟨by simp;omega,f',h2,fun t=> ?_⟩
    rw[h3 t,a4a]
    by_cases ht:t=i
    ·subst ht
     rw[if_neg (by omega),if_pos rfl,if_pos (by simp),iq];rfl
    ·rw[if_neg ht]
     by_cases h4:i+1≤t∧t<i+1+l.length
     ·rw[if_pos h4,if_pos (by simp;omega)]
      rw[show t-i=(t-(i+1))+1 by omega];rfl
     ·rw[if_neg h4,if_neg (by simp;omega)]
theorem vR{α:Type}{no:α}{k:Nat}:∀{args:List Value}{ps:List Tmp}{f:Fr}{l:List Value}{K:Fr→α},FRel k f l→(∀t∈ps,t<k)→args.length=ps.length→
 ∃f',pB no args (ps.map kW) f K=K f'∧FRel k f' ((ps.zip args).foldl (fun t(p,v)=>t.set p v) l)
 | [],[],f,l,K,hf,_,_=>⟨f,rfl,hf⟩
 | v::args,p::ps,f,l,K,hf,hp,he=>by
   have e:pB no (v::args) ((p::ps).map kW) f K=pY v (kW p) f fun f=>pB no args (ps.map kW) f K:=rfl
   rw[e,sO]
   exact vR (hf.set (hp p (by simp)) v) (fun t ht=>hp t (by simp[ht])) (by simpa using he)
 | [],_::_,_,_,_,_,_,he=>by simp at he
 | _::_,[],_,_,_,_,_,he=>by simp at he
theorem zV(l:List Value)(n t:Nat):get (l++List.replicate n undef) t=get l t:=by
 rw[oF,oF]
 simp only[dj]
 by_cases h:t<l.length
 ·rw[ew h]
 ·rw[dQ (by omega),eZ (l:=l) (by omega),ib]
  split<;>rfl
theorem vJ{T:LT}(hT:TOk P T){ih:qE}(hih:a3D P ih){E:List LEnv}{p:Pth}{f:FuncId}{args:List Value}{H H1:Heap}{v:Value}(hE:EOk P E H)(hp:p=kW f)(h:(nT T ih E p args H).Is v H1):
 FnS P f args H (fun v' H'=>v'=v∧H'=H1)∧LK H H1:=by
 unfold nT at h
 split at h
 case h_2=>exact absurd h Rs.ar
 rename_i g hg
 subst hp
 obtain⟨fn,c,hfn,hb,hn,hps,hlow,hres⟩:=(hT f g hg).ex
 rw[hps]at h
 rw[fV]at h
 rcases zQ (no:=Rs.no) (l:=args) (i:=0) (m:=fn.ntmps) (f:=.e) (K:=fun f=>c2s g.res (ih E g.body f H))with h1|⟨h1,f0,h2,h3⟩
 ·rw[h1]at h;exact absurd h Rs.ar
 ·rw[h2]at h
  have hf0:FRel fn.ntmps f0 (args++List.replicate (fn.ntmps-args.length) undef):=by
   refine⟨by simp;omega,fun t=> ?_⟩
   rw[h3 t,zV]
   by_cases ht:t<args.length
   ·rw[if_pos (by omega)];rfl
   ·rw[if_neg (by omega),uF,oF,dj,eZ (by omega)];try rfl
  cases hr:ih E g.body f0 H with
  | no=>rw[hr]at h;exact absurd h Rs.ar
  | ok e f1 H2=>
    rw[hr]at h
    obtain⟨l1,hf1,hs,hk,_⟩:=hih E g.body fn.ntmps c f0 _ H e f1 H2 hlow hf0 hE hr
    have key:(e=.normal∨e=.ret)→(a7S g.res f1 H2).Is v H1→FnS P f args H (fun v' H'=>v'=v∧H'=H1)∧LK H H1:=by
     intro he hv
     obtain⟨rfl,hv⟩:=b3O hf1.2 hres hv
     exact⟨⟨fn,c,e,l1,H1,v,hfn,hb,hn,hs,he,hv,rfl,rfl⟩,hk⟩
    cases e with
    | normal=>exact key (.inl rfl) h
    | ret=>exact key (.inr rfl) h
    | exit id=>exact absurd h Rs.ar
theorem b5V{T:LT}(hT:TOk P T){ih:qE}(hih:a3D P ih){E:List LEnv}{p:Pth}{f:FuncId}{args:List Value}{H H1:Heap}{v:Value}(hE:EOk P E H)(hp:p=kW f)(h:(b6T P T ih E p f args H).Is v H1):
 (FnS P f args H (fun v' H'=>v'=v∧H'=H1)∨qF P f args H=some (v,H1))∧LK H H1:=by
 unfold b6T at h
 cases hg:a1g p T with
 | some g=>
   rw[hg]at h
   obtain⟨a,b⟩:=vJ (H1:=H1) (v:=v) hT hih hE hp (by unfold nT;rw[hg];exact h)
   exact⟨.inl a,b⟩
 | none=>
   rw[hg]at h
   have h:(c1s P f args H).Is v H1:=h
   unfold c1s at h
   split at h
   ·rename_i v2 H2 hx
    obtain⟨rfl,rfl⟩:=Rs.aU h
    exact⟨.inr hx,a4c hx⟩
   ·exact absurd h Rs.ar
theorem a9W{E:List LEnv}{L:Nat}{en:LEnv}(h:b7r E L=some en):en∈E∧en.L=L:=by
 induction E with
 | nil=>cases h
 | cons e E ih=>
   have h:nY (Nat.beq e.L L) (b7r E L) (some e)=some en:=h
   rw[kO]at h
   split at h
   ·rename_i hh
    injection h with h
    subst h
    exact⟨by simp,ec hh⟩
   ·obtain⟨h1,h2⟩:=ih h
    exact⟨eH _ h1,h2⟩
theorem a5C(e:Ex):c0N e=rM e:=by cases e<;>rfl
theorem b1E{ih:qE}(hih:a3D P ih){E:List LEnv}{L:Nat}{args:List Value}{H H1:Heap}{v:Value}(hE:EOk P E H)(h:(a8L ih E L args H).Is v H1):yQ P L args H v H1∧LK H H1:=by
 unfold a8L at h
 split at h
 case h_2=>exact absurd h Rs.ar
 rename_i en hen
 obtain⟨hmem,rfl⟩:=a9W hen
 split at h
 case h_2=>exact absurd h Rs.ar
 rename_i p fn tmps ps a b d hg
 obtain⟨hlen,h⟩:=lI h
 rw[yS]at hlen
 have hlen:ps.size=args.length:=by simpa only[decide_eq_true_eq]using hlen
 obtain⟨k,hps,hsz,hpp,hpk,hla,hlb⟩:=(hE en hmem).2 _ hg
 have hsz:tmps.length=k:=by simpa using hsz
 rw[hps,fV]at h
 rcases zQ (no:=Rs.no) (l:=tmps) (i:=0) (m:=k) (f:=.e) (K:=fun f=>pB .no args en.pp f fun f=>sQ ih E en (ih E en.a f H))with h1|⟨h1,f0,h2,h3⟩
 ·rw[h1]at h;exact absurd h Rs.ar
 rw[h2]at h
 have hf0:FRel k f0 tmps:=by
  refine⟨hsz,fun t=> ?_⟩
  rw[h3 t]
  by_cases ht:t<tmps.length
  ·rw[if_pos (by omega)];rfl
  ·rw[if_neg (by omega),uF,oF,dj,eZ (by omega)];try rfl
 rw[hpp]at h
 obtain⟨f2,h4,hf2⟩:=vR (no:=Rs.no) (args:=args) (ps:=ps.toList) (K:=fun f=>sQ ih E en (ih E en.a f H)) hf0 hpk (by simpa using hlen.symm)
 have h:(pB Rs.no args (List.map kW ps.toList) f0 fun f=>sQ ih E en (ih E en.a f H)).Is v H1:=h
 rw[h4]at h
 cases hr1:ih E en.a f2 H with
 | no=>rw[hr1]at h;exact absurd h Rs.ar
 | ok e f3 H2=>
   rw[hr1]at h
   obtain⟨l3,hf3,hs1,hk1,_⟩:=hih E en.a k a f2 _ H e f3 H2 hla hf2 hE hr1
   cases e with
   | ret=>exact absurd h Rs.ar
   | exit id=>exact absurd h Rs.ar
   | normal=>
     have h:(a0b ih E en f3 H2).Is v H1:=h
     unfold a0b at h
     split at h
     case h_2=>exact absurd h Rs.ar
     rename_i p2 fn2 tmps2 ps2 a2 b2 d2 hg2
     rw[mI]at h
     obtain⟨r0,hr0,ea,eb,ep,et⟩:=hk1.2 en.L _ (hE en hmem).1 hg2
     rw[hg]at hr0
     injection hr0 with hr0
     injection hr0 with hr0
     subst hr0
     have ea':a2=a:=ea
     have eb':b2=b:=eb
     have ep':ps2=ps:=ep
     have et':tmps2=⟨tmps⟩:=et
     clear ea eb ep et
     subst ea' eb' ep' et'
     have hk2:LK H2 (hset H2 en.L (.loop ⟨.busy,p2,fn2,⟨tmps⟩,ps2,a2,b2,d2⟩)):=.loop hg2 ⟨rfl,rfl,rfl,rfl⟩
     cases hr2:ih E en.b f3 (hset H2 en.L (.loop ⟨.busy,p2,fn2,⟨tmps⟩,ps2,a2,b2,d2⟩))with
     | no=>rw[hr2]at h;exact absurd h Rs.ar
     | ok e f4 H3=>
       rw[hr2]at h
       obtain⟨l4,_,hs2,hk3,_⟩:=hih E en.b k b2 f3 _ _ e f4 H3 hlb hf3 (hE.ag (hk1.trans hk2)) hr2
       have h:(a1C en.L e H3).Is v H1:=h
       unfold a1C at h
       split at h
       case h_2=>exact absurd h Rs.ar
       rename_i st3 p3 fn3 tmps3 ps3 a3 b3 d3 hg3
       have fin:∀r',H1=hset H3 en.L (.loop r')→(r'={(⟨st3,p3,fn3,tmps3,ps3,a3,b3,d3⟩:Loop)with state:=if(rM e).isNone then .ready else .done,pending:=rM e})→v=.bool (rM e).isNone→yQ P en.L args H v H1∧LK H H1:=by
        intro r' hH hr' hv
        refine⟨?_,hk1.trans (hk2.trans (hk3.trans (by rw[hH];exact .loop hg3 (by rw[hr'];exact⟨rfl,rfl,rfl,rfl⟩))))⟩
        have hW:=a0C (P:=P) (args:=args) (K:=fun v' H'=>v'=v∧H'=H1) hg hlen rfl
         ⟨.normal,l3,H2,hs1,rfl,_,hg2,rfl,e,l4,H3,hs2,_,hg3,hv.symm,by rw[hH,hr']⟩
        obtain⟨v',H',h1,rfl,rfl⟩:=hW
        exact h1
       split at h
       ·rename_i hj
        obtain⟨rfl,rfl⟩:=Rs.aU h
        rw[a5C]at hj
        exact fin _ rfl (by rw[hj];rfl) (by rw[hj];rfl)
       ·rename_i c hj
        obtain⟨rfl,rfl⟩:=Rs.aU h
        rw[a5C]at hj
        exact fin _ rfl (by rw[hj];rfl) (by rw[hj];rfl)
theorem a3Q{T:LT}(hT:TOk P T){ih:qE}(hih:a3D P ih){E:List LEnv}{H0:Heap}(hE:EOk P E H0):CallsOk P (zS P T ih E) H0 where
 fn p f args H v H1 hk h hp:=b5V hT hih (hE.ag hk) hp h
 rd L args H v H1 hk h:=b1E hih (hE.ag hk) h
theorem c1Y{α:Type}{f:Fr}{l:List Value}(hf:FAg f l)(i m:Nat)(K:List Value→α):frL f ((List.range' i m).map kW) K=K ((List.range' i m).map (get l)):=by
 induction m generalizing i K with
 | zero=>rfl
 | succ m ih=>
   have e:frL f ((List.range' i (m+1)).map kW) K=oP (nZ (kW i) f) fun v=>frL f ((List.range' (i+1) m).map kW) fun l=>K (v::l):=by
    rw[gO];rfl
   rw[e,mW,ih,hf i,gO];rfl
theorem b8A{α:Type}{k:Nat}{f:Fr}{l:List Value}(hf:FRel k f l)(K:List Value→α):frL f ((List.range k).map kW) K=K l:=by
 rw[fV,c1Y hf.2,←fV]
 congr 1
 apply gF
 intro i
 rw[eI]
 by_cases hi:i<k
 ·rw[gT hi,dS,oF,dj]
  have:i<l.length:=by rw[hf.1];exact hi
  simp[dx this]
 ·rw[eZ (by simp;omega),eZ (by rw[hf.1];omega)];rfl
theorem b3h{T:LT}(hT:TOk P T){ih:qE}(hih:a3D P ih){E:List LEnv}{k:Nat}{g:Operand}{ps:Array Tmp}{assign body:Code}{A B:LCode}(hg:iV g=true)(hps:∀t∈ps.toList,t<k)(ha:Low P k assign A)(hb:Low P k body B)
 {x1 x2:Fr→Heap→Rc} {f:Fr} {l:List Value} {H:Heap} {e:Ex} {f1:Fr} {H1:Heap} (hf:FRel k f l) (hE:EOk P E H) (h:b0a T ih E (iX g) ((List.range k).map kW) (ps.toList.map kW) ps assign body A B x1 x2 f H=.ok e f1 H1):
 f1=f∧Sim P (.rangeFunc g ps assign body) l H e l H1∧LK H H1:=by
 unfold b0a at h
 rw[jW hf.2]at h
 split at h
 case h_2=>cases h
 rename_i j xa xb hgv
 rw[kC,b8A hf,mI,kC]at h
 unfold b0B at h
 rw[lM]at h
 generalize hH0:H.cons (.loop ⟨.ready,none,0,⟨l⟩,ps,assign,body,0⟩)=H0 at h
 have hl0:(⟨.ready,none,0,⟨l⟩,ps,assign,body,0⟩:Loop)=b1b l ps assign body:=rfl
 have hE0:EOk P (⟨H.length,(List.range k).map kW,ps.toList.map kW,A,B⟩::E) H0:=by
  intro en hen
  rcases ej.1 hen with rfl|hen
  ·refine⟨by rw[←hH0,length_cons];exact Nat.lt_succ_self _,fun r hr=> ?_⟩
   rw[←hH0,iQ]at hr
   injection hr with hr
   injection hr with hr
   subst hr
   exact⟨k,rfl,by simpa using hf.1,rfl,hps,ha,hb⟩
  ·exact(hE.ag (by rw[←hH0];exact .cons _ _)) en hen
 have key:∀v H2,(nT T ih (⟨H.length,(List.range k).map kW,ps.toList.map kW,A,B⟩::E) (kW j) (a5j xa (.func (.yield H.length) #[] #[]::xb)) H0).Is v H2→uD H.length f H2=.ok e f1 H1→f1=f∧Sim P (.rangeFunc g ps assign body) l H e l H1∧LK H H1:=by
  intro v H2 hc hr
  obtain⟨hfn,hk⟩:=vJ hT hih hE0 rfl hc
  have hargs:a5j xa (.func (.yield H.length) #[] #[]::xb)=xa++[.func (.yield H.length) #[] #[]]++xb:=by rw[yG];simp
  rw[hargs,←hH0,hl0]at hfn
  have fin:∀(r:Loop)(H3:Heap),iT H2 H.length=some (.loop r)→r.state≠.busy→H3=hset H2 H.length (.loop {r with state:=.exhausted})→(r.pending=none→e=.normal)→(∀c,r.pending=some c→(c=.ret∧e=.ret)∨∃id,c=.exit id∧e=.exit id)→f1=f→H1=H3→
   f1=f∧Sim P (.rangeFunc g ps assign body) l H e l H1∧LK H H1:=by
   intro r H3 hrl hnb hH3 hp0 hp1 he1 he2
   have hw:Wp P (.rangeFunc g ps assign body) l H (fun e' l' H'=>e'=e∧l'=l∧H'=H3):=by
    refine Wp.range (first:=xa) (captured:=xb) hg (by rw[hgv]) (hfn.mono ?_)
    rintro v' H'⟨rfl,rfl⟩
    refine⟨r,hrl,hnb,fun hp=>⟨(hp0 hp).symm,rfl,hH3.symm⟩,fun c hc=> ?_⟩
    rcases hp1 c hc with⟨rfl,he⟩|⟨id,rfl,he⟩
    ·exact Wp.ret ⟨he.symm,rfl,hH3.symm⟩
    ·exact Wp.exit ⟨he.symm,rfl,hH3.symm⟩
   obtain⟨e',l',H',hs,rfl,rfl,rfl⟩:=hw
   refine⟨he1,by rw[he2];exact hs,?_⟩
   rw[he2,hH3]
   have h1:LK H H0:=by rw[←hH0];exact .cons _ _
   exact h1.trans (hk.trans (.loop hrl ⟨rfl,rfl,rfl,rfl⟩))
  unfold uD at hr
  split at hr
  ·rename_i hg2
   rw[mI]at hr
   injection hr with h1 h2 h3
   exact fin _ _ hg2 (by simp) rfl (fun _=>h1.symm) (fun c hc=>by cases hc) h2.symm h3.symm
  ·rename_i hg2
   rw[mI]at hr
   injection hr with h1 h2 h3
   exact fin _ _ hg2 (by simp) rfl (fun _=>h1.symm) (fun c hc=>by cases hc) h2.symm h3.symm
  ·rename_i hg2
   rw[mI]at hr
   injection hr with h1 h2 h3
   exact fin _ _ hg2 (by simp) rfl (fun hc=>by cases hc) (fun c hc=>by injection hc with hc;subst hc;exact .inl ⟨rfl,h1.symm⟩) h2.symm h3.symm
  ·rename_i hg2
   rw[mI]at hr
   injection hr with h1 h2 h3
   exact fin _ _ hg2 (by simp) rfl (fun hc=>by cases hc) (fun c hc=>by injection hc with hc;subst hc;exact .inr ⟨_,rfl,h1.symm⟩) h2.symm h3.symm
  ·cases hr
 cases hc:nT T ih (⟨H.length,(List.range k).map kW,ps.toList.map kW,A,B⟩::E) (kW j) (a5j xa (.func (.yield H.length) #[] #[]::xb)) H0 with
 | no=>rw[hc]at h;cases h
 | ok v H2=>rw[hc]at h;exact key v H2 (.inl hc) h
 | th v H2=>
   rw[hc]at h
   have h:nS H2 (fun H=>uD _ f H)=.ok e f1 H1:=h
   rw[mI]at h
   exact key v H2 (.inr hc) h
theorem b5L(kJ:P.follows .mixedOrders=true){T:LT}(hT:TOk P T):∀n,a3D P (exF P T n):=by
 intro n
 induction n with
 | zero=>intro E C k c f l H e f1 H1 _ _ _ h;cases h
 | succ n ih=>
   intro E C k c f l H e f1 H1 hlow hf hE h
   have h:b0f P T (exF P T n) E C f H=.ok e f1 H1:=h
   have noloop:∀{c:Code},(∀b,c≠.loop b)→∀{l1:List Value},∀b,c=.loop b→∃n,Rounds P b n l H e l1 H1:=fun hne _ b hb=>absurd hb (hne b)
   cases hlow with
   | bad=>cases h
   | skip=>
     injection h with h1 h2 h3;subst h1 h2 h3
     exact⟨l,hf,.skip l H,.refl H,noloop (by intro b h;cases h)⟩
   | label t=>
     injection h with h1 h2 h3;subst h1 h2 h3
     exact⟨l,hf,.label t l H,.refl H,noloop (by intro b h;cases h)⟩
   | exit id=>
     injection h with h1 h2 h3;subst h1 h2 h3
     exact⟨l,hf,.exit id l H,.refl H,noloop (by intro b h;cases h)⟩
   | ret=>
     injection h with h1 h2 h3;subst h1 h2 h3
     exact⟨l,hf,.ret l H,.refl H,noloop (by intro b h;cases h)⟩
   | @reg id ops d lo hlo hd=>
     have h:c3n (xA P (zS P T (exF P T n) E) lo f H)=.ok e f1 H1:=h
     cases hr:xA P (zS P T (exF P T n) E) lo f H with
     | no=>rw[hr]at h;cases h
     | ok f2 H2=>
       rw[hr]at h
       injection h with h1 h2 h3;subst h1 h2 h3
       obtain⟨l1,hf1,hops,hk⟩:=b9S (a3Q hT ih hE) hlo (i:=0) rfl hf (.refl H) hr
       have hops:OpsR P ops (List.range ops.size) l H l1 H2:=by rw[fV];simpa using hops
       refine⟨l1,hf1,?_,hk,noloop (by intro b h;cases h)⟩
       cases d with
       | false=>exact .region hops
       | true=>exact .cd kJ (hd rfl) hops
   | drw hlo ht hl=>
     obtain⟨l1,rfl,hf1,hs,hk⟩:=b8P kJ (a3Q hT ih hE) hlo ht hl hf h
     exact⟨l1,hf1,hs,hk,noloop (by intro b h;cases h)⟩
   | @seq a b A B ha hb=>
     have h:b8B (exF P T n) E B (exF P T n E A f H)=.ok e f1 H1:=h
     cases hr:exF P T n E A f H with
     | no=>rw[hr]at h;cases h
     | ok e2 f2 H2=>
       rw[hr]at h
       obtain⟨l2,hf2,hs,hk,_⟩:=ih E A k a f l H e2 f2 H2 ha hf hE hr
       cases e2 with
       | normal=>
         obtain⟨l1,hf1,hs1,hk1,_⟩:=ih E B k b f2 l2 H2 e f1 H1 hb hf2 (hE.ag hk) h
         exact⟨l1,hf1,.seq hs hs1,hk.trans hk1,noloop (by intro b h;cases h)⟩
       | ret=>
         injection h with h1 h2 h3;subst h1 h2 h3
         exact⟨l2,hf2,.seq' hs (by intro h;cases h),hk,noloop (by intro b h;cases h)⟩
       | exit id=>
         injection h with h1 h2 h3;subst h1 h2 h3
         exact⟨l2,hf2,.seq' hs (by intro h;cases h),hk,noloop (by intro b h;cases h)⟩
   | @cond c x y X Y hc hx hy=>
     have h:b6D (exF P T n) E (iX c) X Y (b0f P T (exF P T n) E X) (b0f P T (exF P T n) E Y) f H=.ok e f1 H1:=h
     unfold b6D at h
     rw[jW hf.2]at h
     split at h
     ·rename_i t ht
      cases t with
      | true=>
        obtain⟨l1,hf1,hs,hk,_⟩:=ih E X k x f l H e f1 H1 hx hf hE h
        exact⟨l1,hf1,.cond ht hc hs,hk,noloop (by intro b h;cases h)⟩
      | false=>
        obtain⟨l1,hf1,hs,hk,_⟩:=ih E Y k y f l H e f1 H1 hy hf hE h
        exact⟨l1,hf1,.cond ht hc hs,hk,noloop (by intro b h;cases h)⟩
     ·cases h
   | @block id b B hb=>
     have h:c4t id (exF P T n E B f H)=.ok e f1 H1:=h
     cases hr:exF P T n E B f H with
     | no=>rw[hr]at h;cases h
     | ok e2 f2 H2=>
       rw[hr]at h
       obtain⟨l2,hf2,hs,hk,_⟩:=ih E B k b f l H e2 f2 H2 hb hf hE hr
       have hs':Sim P (.block id b) l H (e2.out id) l2 H2:=.block hs
       cases e2 with
       | normal=>injection h with h1 h2 h3;subst h1 h2 h3;exact⟨l2,hf2,hs',hk,noloop (by intro b h;cases h)⟩
       | ret=>injection h with h1 h2 h3;subst h1 h2 h3;exact⟨l2,hf2,hs',hk,noloop (by intro b h;cases h)⟩
       | exit i=>
         have h:Rc.ok (Bool.rec (motive:=fun _=>Ex) (.exit i) .normal (Nat.beq i id)) f2 H2=.ok e f1 H1:=h
         injection h with h1 h2 h3;subst h2 h3
         have:(Ex.exit i).out id=e:=by
          rw[←h1]
          by_cases hi:i=id
          ·subst hi;simp[Ex.out]
          ·have:Nat.beq i id=false:=fM.2 fun e=>hi (ec e)
           simp[Ex.out,hi,this]
         rw[this]at hs'
         exact⟨l2,hf2,hs',hk,noloop (by intro b h;cases h)⟩
   | @loop b B hb=>
     have h:b8B (exF P T n) E (.loop B) (exF P T n E B f H)=.ok e f1 H1:=h
     cases hr:exF P T n E B f H with
     | no=>rw[hr]at h;cases h
     | ok e2 f2 H2=>
       rw[hr]at h
       obtain⟨l2,hf2,hs,hk,_⟩:=ih E B k b f l H e2 f2 H2 hb hf hE hr
       have last:e2≠.normal→e2=e→f2=f1→H2=H1→∃l1,FRel k f1 l1∧Sim P (.loop b) l H e l1 H1∧LK H H1∧∀b',Code.loop b=.loop b'→∃n,Rounds P b' n l H e l1 H1:=by
        intro hne h1 h2 h3
        subst h1 h2 h3
        have hr:Rounds P b 1 l H e2 l2 H2:=.last hs hne
        exact⟨l2,hf2,.loop hr,hk,fun b' hb'=>by injection hb' with hb';subst hb';exact⟨1,hr⟩⟩
       cases e2 with
       | normal=>
         obtain⟨l1,hf1,hs1,hk1,hro⟩:=ih E (.loop B) k (.loop b) f2 l2 H2 e f1 H1 (.loop hb) hf2 (hE.ag hk) h
         obtain⟨m,hm⟩:=hro b rfl
         have hr:Rounds P b (m+1) l H e l1 H1:=.more hs hm
         exact⟨l1,hf1,.loop hr,hk.trans hk1,fun b' hb'=>by injection hb' with hb';subst hb';exact⟨_,hr⟩⟩
       | ret=>injection h with h1 h2 h3;exact last (by intro h;cases h) h1 h2 h3
       | exit id=>injection h with h1 h2 h3;exact last (by intro h;cases h) h1 h2 h3
   | range hg hps ha hb=>
     obtain⟨rfl,hs,hk⟩:=b3h (x1:=fun _ _=>.no) (x2:=fun _ _=>.no) hT ih hg hps ha hb hf hE h
     exact⟨l,hf,hs,hk,noloop (by intro b h;cases h)⟩
theorem xC{α:Type}(v:LFunc)(p:Pth)(f:LT)(K:LT→α):sI v p f K=K (sI v p f fun f=>f):=by
 induction p generalizing f α with
 | z=>cases f<;>rfl
 | l p ih=>
   cases f with
   | e=>
     show sI v p .e (fun l=>K (.n none l .e))=K (sI v p .e fun l=>.n none l .e)
     rw[ih,ih (K:=fun l=>LT.n none l .e)]
   | n w l r=>
     show sI v p l (fun l=>K (.n w l r))=K (sI v p l fun l=>.n w l r)
     rw[ih,ih (K:=fun l=>LT.n w l r)]
 | r p ih=>
   cases f with
   | e=>
     show sI v p .e (fun l=>K (.n none .e l))=K (sI v p .e fun l=>.n none .e l)
     rw[ih,ih (K:=fun l=>LT.n none .e l)]
   | n w l r=>
     show sI v p r (fun r=>K (.n w l r))=K (sI v p r fun r=>.n w l r)
     rw[ih,ih (K:=fun r=>LT.n w l r)]
theorem uW(p:Pth):a1g p .e=none:=by cases p<;>rfl
theorem b1X(v:LFunc)(p q:Pth)(f:LT){g:LFunc}(h:a1g q (sI v p f fun f=>f)=some g):(q=p∧g=v)∨a1g q f=some g:=by
 induction p generalizing f q with
 | z=>
   cases q with
   | z=>left;refine⟨rfl,?_⟩;cases f<;>(injection h with h;exact h.symm)
   | l q=>right;cases f with
     | e=>have h:a1g q .e=some g:=h
          rw[uW]at h;cases h
     | n=>exact h
   | r q=>right;cases f with
     | e=>have h:a1g q .e=some g:=h
          rw[uW]at h;cases h
     | n=>exact h
 | l p ih=>
   have h1:∀f,sI v (.l p) f (fun f=>f)=match f with|.e=>.n none (sI v p .e fun f=>f) .e|.n w l r=>.n w (sI v p l fun f=>f) r:=fun f=>by
    cases f with
    | e=>exact xC v p .e fun l=>LT.n none l .e
    | n w l r=>exact xC v p l fun l=>LT.n w l r
   rw[h1]at h
   cases q with
   | z=>right;cases f with
     | e=>exact h
     | n=>exact h
   | r q=>right;cases f with
     | e=>have h:a1g q .e=some g:=h
          rw[uW]at h;cases h
     | n=>exact h
   | l q=>
     cases f with
     | e=>
       rcases ih q .e h with⟨rfl,hq⟩|h
       ·exact .inl ⟨rfl,hq⟩
       ·rw[uW]at h;cases h
     | n w l r=>
       rcases ih q l h with⟨rfl,hq⟩|h
       ·exact .inl ⟨rfl,hq⟩
       ·exact .inr h
 | r p ih=>
   have h1:∀f,sI v (.r p) f (fun f=>f)=match f with|.e=>.n none .e (sI v p .e fun f=>f)|.n w l r=>.n w l (sI v p r fun f=>f):=fun f=>by
    cases f with
    | e=>exact xC v p .e fun l=>LT.n none .e l
    | n w l r=>exact xC v p r fun r=>LT.n w l r
   rw[h1]at h
   cases q with
   | z=>right;cases f with
     | e=>exact h
     | n=>exact h
   | l q=>right;cases f with
     | e=>have h:a1g q .e=some g:=h
          rw[uW]at h;cases h
     | n=>exact h
   | r q=>
     cases f with
     | e=>
       rcases ih q .e h with⟨rfl,hq⟩|h
       ·exact .inl ⟨rfl,hq⟩
       ·rw[uW]at h;cases h
     | n w l r=>
       rcases ih q r h with⟨rfl,hq⟩|h
       ·exact .inl ⟨rfl,hq⟩
       ·exact .inr h
theorem b3a{α:Type}(f:FuncId)(no:α)(K:LFunc→α):(∃g,FuncOk P f g∧a1i P f no K=K g)∨a1i P f no K=no:=by
 unfold a1i
 split
 ·rename_i fn hfn
  split
  ·rename_i c hb
   rw[kO]
   split
   ·exact .inr rfl
   ·rename_i hn
    rcases b4i (P:=P) fn.results.toList (fun res=>b1j fn.ntmps fun ps=>nG P fn.ntmps c fun b=>K ⟨ps,b,res⟩) no with⟨res,hres,h1⟩|h1
    ·rw[h1,b0O]
     obtain⟨C,hC,h2⟩:=b2v (P:=P) fn.ntmps c (fun b=>K ⟨(List.range fn.ntmps).map kW,b,res⟩)
     exact .inl ⟨⟨_,C,res⟩,⟨fn,c,hfn,hb,by simpa using hn,rfl,hC,hres⟩,h2⟩
    ·exact .inr h1
  ·exact .inr rfl
 ·exact .inr rfl
theorem a5u{α:Type}(fs:List FuncId)(T:LT)(hT:TOk P T)(K:LT→α):∃T',TOk P T'∧rY P fs T K=K T':=by
 induction fs generalizing T with
 | nil=>exact⟨T,hT,rfl⟩
 | cons f fs ih=>
   have e:rY P (f::fs) T K=a1i P f (rY P fs T K) fun g=>lR (kW f) fun p=>sI g p T fun T=>rY P fs T K:=rfl
   rw[e]
   rcases b3a (P:=P) f (rY P fs T K) (fun g=>lR (kW f) fun p=>sI g p T fun T=>rY P fs T K)with⟨g,hg,h⟩|h
   ·rw[h,lM,xC]
    refine ih _ fun f' g' h'=> ?_
    rcases b1X g (kW f) (kW f') T h' with⟨he,rfl⟩|h'
    ·rw[b0S he];exact hg
    ·exact hT f' g' h'
   ·rw[h];exact ih T hT
end Go.Ds
namespace Go.Ds
open Go.Proofs Go.Proofs.Tryz
def t64:List Nat:=[0,1,56,2,57,49,28,3,61,58,42,50,38,29,17,4,62,47,59,36,45,43,51,22,53,39,33,30,24,18,12,5,63,55,48,27,60,41,37,16,46,35,44,21,52,32,23,11,54,26,40,15,34,20,31,10,25,14,19,9,13,8,7,6]
def t32:List Nat:=[0,1,28,2,29,14,24,3,30,22,20,15,25,17,4,8,31,27,13,23,21,19,16,7,26,12,18,6,11,5,10,9]
noncomputable def gH:Heap:=((((Heap.nil.cons (.cells (t64.map fun(n:Nat)=>Value.int .u8 (.ofNat n)) 5 false 0 1)).cons (.cells [] 3 false 0 1)).cons (.cells ([1,10,100,1000,10000,100000,1000000,10000000,100000000,1000000000,10000000000,100000000000,1000000000000,10000000000000,100000000000000,1000000000000000,10000000000000000,100000000000000000,1000000000000000000,10000000000000000000].map fun(n:Nat)=>Value.int .u64 (.ofNat n)) 48 false 0 1)).cons (.cells (t32.map fun(n:Nat)=>Value.int .u8 (.ofNat n)) 5 false 0 1))
theorem c0w:prog.follows .mixedOrders=true:=by kernel_rfl
def b3T:Nat→Nat→List UInt8→List UInt8
 | 0,_,acc=>acc
 | f+1,n,acc=>if n<10 then(48+n).toUInt8::acc else b3T f (n/10) ((48+n%10).toUInt8::acc)
def b5w(n:Nat):ByteArray:=⟨(b3T 100 n []).toArray⟩
def c0x(r:Rs)(n:Nat):Bool:=match r with
 | .ok (.string b) _=>decide (b.data.toList=b3T 100 n [])
 | .th (.string b) _=>decide (b.data.toList=b3T 100 n [])
 | _=>false
def c2R(v:Value)(n:Nat):Bool:=match v with
 | .tuple vs=>match vs.toList with
   | [.string b,.int .i64 m]=>decide (m=0)&&decide (b.data.toList=b3T 100 n [])
   | _=>false
 | _=>false
def c3V(r:Rs)(n:Nat):Bool:=match r with
 | .ok v _=>c2R v n
 | .th v _=>c2R v n
 | _=>false
def c4b(r:Rs)(n:Int):Bool:=match r with
 | .ok (.int .i64 m) _=>decide (m=n)
 | .th (.int .i64 m) _=>decide (m=n)
 | _=>false
noncomputable def c6h (ps:List Nat):Bool:=rY prog [140,192,157,115,158,188,201,202,203,204,230,231,232,233,248] .e fun T=>ps.all fun x=>c0x (nT T (exF prog T 4000) [] (kW 192) [.int .i64 x] gH) x
def fsP:List Nat:=[140,100,101,102,253,191,157,141,142,257,258,221,222,223,224,227,180,181,240,241,242,243,244,245,246,251,252,254,255,201,202,203,204,230,231,232,233,248]
noncomputable def c5T (ps:List Nat):Bool:=rY prog fsP .e fun T=>ps.all fun x=>c3V (nT T (exF prog T 4000) [] (kW 191) [.string (b5w x),.int .i64 24] gH) (x^24)
def fsM:List Nat:=[140,100,101,102,253,192,193,157,115,141,142,257,258,221,222,223,224,225,227,158,180,181,240,241,242,243,244,245,246,188,251,252,254,255,201,202,203,204,230,231,232,233,248]
noncomputable def c5f (ps:List (Nat×Nat)):Bool:=rY prog fsM .e fun T=>ps.all fun x=>c0x (nT T (exF prog T 4000) [] (kW 193) [.string (b5w x.1),.string (b5w x.2)] gH) (x.1*x.2)
def c5p(a b:Nat):Int:=if a<b then -1 else if b<a then 1 else 0
noncomputable def c5J (ps:List (Nat×Nat)):Bool:=rY prog [194,226,227,228,245,246,247,255,256] .e fun T=>ps.all fun x=>c4b (nT T (exF prog T 4000) [] (kW 194) [.string (b5w x.1),.string (b5w x.2)] gH) (c5p x.1 x.2)
end Go.Ds
namespace Go.Ds
open Go.RowKit Go.Proofs
section
variable {P:Program} {ρ:Rho} {H:Heap} {w:World}
theorem a3H{name:String}{g:Nat}{k:IntKind}{zs:List Int}(hg:P.globalNamed name=some g)(ht:Lib.TabIs P w name k zs):∃t fr,w.heap[g]? =some (.cells (zs.map fun z=>Value.int k z).toArray t fr):=by
 unfold Lib.TabIs World.var? at ht
 rw[hg,dh]at ht
 split at ht
 ·rename_i cs t fr hb
  obtain rfl:=dc ht
  exact⟨t,fr,hb⟩
 ·cases ht
theorem InW.cS(h:InW P ρ H w){name:String}{g:Nat}{k:IntKind}{zs:List Int}{ty:TypeId}(hg:P.globalNamed name=some g)(ht:Lib.TabIs P w name k zs)(hgH:g=H.length)(hty:iJ P ty=some 1):
 InW P (ρ.put H.length (zs.map fun z=>Value.int k z).length ⟨g,0,zs.length,1⟩) (H.cons (.cells (zs.map fun z=>Value.int k z) ty false 0 1)) w:=by
 obtain⟨t,fr,hb⟩:=a3H hg ht
 refine(h.row ⟨g,0,zs.length,1⟩ hb (ty:=ty) hty (by simp) (zs.map fun z=>Value.int k z) 1 (fun _=>⟨hgH,rfl⟩) (by simp) fun i c hi _ hc=>⟨c,?_,?_⟩).1
 ·have:(⟨g,0,zs.length,1⟩:Place).at i=i:=by simp[Place.at]
  rw[this]
  simpa using hc
 ·rw[eI]at hc
  obtain⟨z,_,rfl⟩:=dq.1 hc
  exact .c0 (.flat rfl)
end
theorem c3F:∀A b,iT gH A=some b→∃cs ty lo,b=.cells cs ty false lo 1∧kM cs=true:=by
 intro A b h
 unfold gH at h
 have hn:∀(H:Heap)(c:Blk),iT (H.cons c) A=some b→(A=H.length∧b=c)∨iT H A=some b:=fun H c h=>by
  by_cases he:A=H.length
  ·subst he;rw[iQ]at h;exact .inl ⟨rfl,(dc h).symm⟩
  ·have hA:A<(H.cons c).length:=jP h
   rw[length_cons]at hA
   rw[jU _ (by omega)]at h
   exact .inr h
 rcases hn _ _ h with⟨_,rfl⟩|h
 ·exact⟨_,_,_,rfl,by kernel_rfl⟩
 rcases hn _ _ h with⟨_,rfl⟩|h
 ·exact⟨_,_,_,rfl,by kernel_rfl⟩
 rcases hn _ _ h with⟨_,rfl⟩|h
 ·exact⟨_,_,_,rfl,by kernel_rfl⟩
 rcases hn _ _ h with⟨_,rfl⟩|h
 ·exact⟨_,_,_,rfl,by kernel_rfl⟩
 ·have:A<0:=jP h
  omega
theorem ExtW.glob{ρ ρ':Rho}{H':Heap}(h:ExtW ρ gH ρ' H'):Glob gH H':=⟨h.len,fun A hA=>h.old A hA,c3F⟩
def p10:List Int:=[1,10,100,1000,10000,100000,1000000,10000000,100000000,1000000000,10000000000,100000000000,1000000000000,10000000000000,100000000000000,1000000000000000,10000000000000000,100000000000000000,1000000000000000000,10000000000000000000]
theorem g64:Tryz.prog.globalNamed "math/bits.deBruijn64tab" =some 0:=by kernel_rfl
theorem yT:Tryz.prog.globalNamed "internal/strconv.uint64pow10" =some 2:=by kernel_rfl
theorem g32:Tryz.prog.globalNamed "math/bits.deBruijn32tab" =some 3:=by kernel_rfl
theorem b8y{w:World}(h64:Lib.TabIs Tryz.prog w "math/bits.deBruijn64tab" .u8 (t64.map Int.ofNat))(h10:Lib.TabIs Tryz.prog w "internal/strconv.uint64pow10" .u64 p10)
 (h32:Lib.TabIs Tryz.prog w "math/bits.deBruijn32tab" .u8 (t32.map Int.ofNat)) (h1001:∃cs t fr,w.heap[1]? =some (.cells cs t fr)):∃ρ,InW Tryz.prog ρ gH w:=by
 have a0:=(InW.none (P:=Tryz.prog) w).cS g64 h64 (ty:=5) rfl (by kernel_rfl)
 obtain⟨cs1,t1,fr1,hb1⟩:=h1001
 have a1:=(a0.row ⟨1,0,cs1.size,1⟩ hb1 (ty:=3) (by kernel_rfl) rfl [] 1 (fun _=>⟨rfl,rfl⟩) (by simp) (fun i c hi=>by simp at hi)).1
 have a2:=a1.cS yT h10 (ty:=48) rfl (by kernel_rfl)
 have a3:=a2.cS g32 h32 (ty:=5) rfl (by kernel_rfl)
 exact⟨_,a3⟩
end Go.Ds
namespace Go.Ds
noncomputable section
variable {P:Program} {H0:Base} {H:Heap} {os:List Ob} {κ β:Type} [DecidableEq κ] {enc:κ→Value} {f:β→Value} {t:TypeId} {z:Value}
structure MapK(P:Program)(t:TypeId){κ:Type}[DecidableEq κ](enc:κ→Value)(z:Value):Prop where
 ex:∃kt et,yI P t=some (kt,et)∧jG P et=some z∧jJ z=true∧(∀b k,xS P b kt (enc k)=true)∧
  (∀k(es:List MapEntry)(ks:List κ),es.map (·.key)=ks.map enc→rO P kt (enc k) es=some (ks.findIdx? fun x=>decide (x=k)))∧∀k,Instr.sameBits 10000 (enc k) (enc k)=true
def kcs(enc:κ→Value)(f:β→Value)(kvs:List (κ×β)):List Value:=kvs.flatMap fun p=>[enc p.1,f p.2]
def vL(kvs:List (κ×β))(k:κ):Option β:=(kvs.find? fun p=>decide (p.1=k)).map (·.2)
def a2L(kvs:List (κ×β))(k:κ)(v:β):List (κ×β):=match kvs.findIdx? (fun p=>decide (p.1=k))with
 | some j=>kvs.set j (k,v)
 | none=>kvs++[(k,v)]
theorem a4S:∀(es:List MapEntry)(kvs:List (κ×β)),kcs enc f kvs=mcs es→es.map (·.key)=kvs.map (fun p=>enc p.1)∧es.map (·.val)=kvs.map (fun p=>f p.2)
 | [],[],_=>⟨rfl,rfl⟩
 | [],p::kvs,h=>by simp[kcs,mcs]at h
 | e::es,[],h=>by simp[kcs,mcs]at h
 | e::es,p::kvs,h=>by
   simp only[kcs,mcs,dL,fJ,fF,fi]at h
   obtain⟨h1,h2,h3⟩:=h
   obtain⟨h4,h5⟩:=a4S es kvs h3
   simp only[dY]
   exact⟨by rw[h4,h1],by rw[h5,h2]⟩
theorem a8g:∀(es:List MapEntry)(kvs:List (κ×β)),es.map (·.key)=kvs.map (fun p=>enc p.1)→es.map (·.val)=kvs.map (fun p=>f p.2)→kcs enc f kvs=mcs es
 | [],[],_,_=>rfl
 | [],p::kvs,h,_=>by simp at h
 | e::es,[],h,_=>by simp at h
 | e::es,p::kvs,h,h'=>by
   simp only[dY,fi]at h h'
   have:=a8g es kvs h.2 h'.2
   simp only[kcs,mcs,dL]at this ⊢
   rw[this,h.1,h'.1]
theorem St.cg(hS:St P H0 H os)(i:Nat){A:Nat}{cs:List Value}(ho:os[i]? =some ⟨.map (some A),0,cs⟩):∃es ck ver,iT H A=some (.map es ck ver)∧cs=mcs es∧Stamps es ck:=by
 have:=hS.own _ (dB ho)
 unfold OwnAt at this
 rw[if_pos rfl]at this
 rcases this with⟨_,_,_,_,_,_,h⟩|⟨A',es,ck,ver,h1,h2,h3,h4⟩
 ·cases h
 ·simp only[Value.map.injEq,dH]at h3
  subst h3
  exact⟨es,ck,ver,h1,h2,h4⟩
theorem b0n(kvs:List (κ×β))(k:κ):(∃j x,(kvs.map (·.1)).findIdx? (fun x=>decide (x=k))=some j∧kvs[j]? =some x∧kvs.find? (fun p=>decide (p.1=k))=some x)∨((kvs.map (·.1)).findIdx? (fun x=>decide (x=k))=none∧kvs.find? (fun p=>decide (p.1=k))=none):=by
 induction kvs with
 | nil=>exact .inr ⟨rfl,rfl⟩
 | cons p kvs ih=>
   by_cases h:p.1=k
   ·exact .inl ⟨0,p,by simp[fu,h],rfl,by simp[h]⟩
   ·rcases ih with⟨j,x,h1,h2,h3⟩|⟨h1,h2⟩
    ·exact .inl ⟨j+1,x,by simp[fu,h,h1],by simpa using h2,by simp[h,h3]⟩
    ·exact .inr ⟨by simp[fu,h,h1],by simp[h,h2]⟩
theorem St.cZ(hS:St P H0 H os)(i:Nat){A:Nat}{kvs:List (κ×β)}(ho:os[i]? =some ⟨.map (some A),0,kcs enc f kvs⟩)(hk:MapK P t enc z)(hf:∀b,nC (f b)=true)(c:Bool)(k:κ):
 pE P H t (.map (some A)) (enc k) c=some (pairV c (((vL kvs k).map f).getD z) (vL kvs k).isSome):=by
 obtain⟨kt,et,h1,h2,h3,h4,h5,h6⟩:=hk.ex
 obtain⟨es,ck,ver,h7,h8,_⟩:=hS.cg i ho
 obtain⟨h9,h10⟩:=a4S es kvs h8
 have hi:=h5 k es (kvs.map (·.1)) (by rw[h9];simp[im])
 simp only[pE,h1,dh,a1D,h7,h4,if_true,hi,vL]
 rcases b0n kvs k with⟨j,x,e1,e2,e3⟩|⟨e1,e3⟩
 ·have hj:es[j]?.map (·.val)=some (f x.2):=by
   rw[←eI,h10,eI,e2];rfl
  cases he:es[j]? with
  | none=>rw[he]at hj;simp at hj
  | some e=>
    rw[he]at hj
    simp only[dS,dH]at hj
    simp only[e1,he,dh,hj,hf,if_true,e3,dS,dO,Option.isSome_some]
 ·simp only[e1,e3,Option.map_none,Option.getD_none,Option.isSome_none,h2,dh,h3,if_true]
def a7v(P:Program)(H:Heap)(t:TypeId)(x k:Value)(c:Bool)(K:Value→Prop)(_k:Keep K:=⟨⟩):Prop:=∃v,pE P H t x k c=some v∧K v
theorem a5y{t:TypeId}{x x' k k':Value}{c:Bool}{K:Value→Prop}(h:x=x')(h2:k=k'):a7v P H t x k c K=a7v P H t x' k' c K:=by rw[h,h2]
attribute [congr] a5y
theorem a8R(d ty pos af g)(t:TypeId)(x k:Operand)(c:Bool)(l:List Value)(K:Value→Heap→Prop):
 mD P ⟨d,.lookup t x k c,ty,pos,af,g⟩ l H K=jN x l fun x=>jN k l fun k=>a7v P H t x k c fun v=>K v H:=by
 have h2:jZ ((pE P H t (ev l x) (ev l k) c).map fun v=>(v,H)) K=∃v,pE P H t (ev l x) (ev l k) c=some v∧K v H:=by
  cases pE P H t (ev l x) (ev l k) c<;>simp[jZ]
 simp only[mD,opD,jN,Op.operands,a7v,h2]
 simp[and_assoc]
theorem St.aX(hS:St P H0 H os)(i:Nat){A:Nat}{kvs:List (κ×β)}(ho:os[i]? =some ⟨.map (some A),0,kcs enc f kvs⟩)(hk:MapK P t enc z)(hf:∀b,nC (f b)=true){c:Bool}{k:κ}{K:Value→Prop}
 (h:K (pairV c (((vL kvs k).map f).getD z) (vL kvs k).isSome)):a7v P H t (.map (some A)) (enc k) c K:=⟨_,hS.cZ i ho hk hf c k,h⟩
def a4y(P:Program)(H:Heap)(t:TypeId)(K:Value→Heap→Prop)(_k:Keep K:=⟨⟩):Prop:=∃v H1,pI P H t none=some (v,H1)∧K v H1
theorem a7B(d ty pos af g)(t:TypeId)(l:List Value)(K:Value→Heap→Prop):mD P ⟨d,.makeMap t none,ty,pos,af,g⟩ l H K=a4y P H t K:=by
 simp only[mD,opD,Op.operands,a4y,mY]
 simp
theorem St.bV(hS:St P H0 H os)(hk:MapK P t enc z){K:Value→Heap→Prop}(h:∀A H1,St P H0 H1 (os++[⟨.map (some A),0,[]⟩])→K (.map (some A)) H1):a4y P H t K:=by
 obtain⟨kt,et,h1,_⟩:=hk.ex
 refine⟨.map (some H.length),H.cons (.map [] 0 0),by simp[pI,h1],h _ _ (hS.add ?_ ?_ ?_ ?_)⟩
 ·unfold OwnAt
  rw[if_pos rfl]
  exact .inr ⟨_,[],0,0,iQ H _,rfl,rfl,.nil 0⟩
 ·simp[pD]
 ·exact fun B hB=>jU _ hB
 ·intro B hB
  simp[jY]at hB
  omega
def b4A(P:Program)(H:Heap)(t:TypeId)(m k v:Value)(K:Heap→Prop)(_k:Keep K:=⟨⟩):Prop:=∃H1,a0S P H t m k v=some H1∧K H1
theorem a8v{t:TypeId}{m m' k k' v v':Value}{K:Heap→Prop}(h:m=m')(h2:k=k')(h3:v=v'):b4A P H t m k v K=b4A P H t m' k' v' K:=by rw[h,h2,h3]
attribute [congr] a8v
theorem a2B(d ty pos af g)(t:TypeId)(m k v:Operand)(l:List Value)(K:Value→Heap→Prop):
 mD P ⟨d,.mapUpdate t m k v,ty,pos,af,g⟩ l H K=jN m l fun m=>jN k l fun k=>jN v l fun v=>b4A P H t m k v fun H1=>K undef H1:=by
 have h2:jZ ((a0S P H t (ev l m) (ev l k) (ev l v)).map fun H=>(undef,H)) K=∃H1,a0S P H t (ev l m) (ev l k) (ev l v)=some H1∧K undef H1:=by
  cases a0S P H t (ev l m) (ev l k) (ev l v)<;>simp[jZ]
 simp only[mD,opD,jN,Op.operands,b4A,h2]
 simp[and_assoc]
theorem b0L(kvs:List (κ×β))(k:κ)(v:β):a2L kvs k v=match (kvs.map (·.1)).findIdx? (fun x=>decide (x=k))with|some j=>kvs.set j (k,v)|none=>kvs++[(k,v)]:=by
 unfold a2L
 rw[List.findIdx?_map]
 rfl
theorem St.cu(hS:St P H0 H os)(i:Nat){A:Nat}{kvs:List (κ×β)}(ho:os[i]? =some ⟨.map (some A),0,kcs enc f kvs⟩)(hk:MapK P t enc z){k:κ}{v:β}{K:Heap→Prop}
 (h:∀H1,St P H0 H1 (os.set i ⟨.map (some A),0,kcs enc f (a2L kvs k v)⟩)→K H1):b4A P H t (.map (some A)) (enc k) (f v) K:=by
 obtain⟨kt,et,h1,h2,h3,h4,h5,h6⟩:=hk.ex
 obtain⟨es,ck,ver,h7,h8,hst⟩:=hS.cg i ho
 obtain⟨h9,h10⟩:=a4S es kvs h8
 have hi:=h5 k es (kvs.map (·.1)) (by rw[h9];simp[im])
 have fin:∀es' ck',mcs es'=kcs enc f (a2L kvs k v)→Stamps es' ck'→St P H0 (hset H A (.map es' ck' (ver+1))) (os.set i ⟨.map (some A),0,kcs enc f (a2L kvs k v)⟩):=by
  intro es' ck' he hst'
  refine hS.put i ho ?_ ?_ ?_ ?_
  ·unfold OwnAt
   rw[if_pos rfl]
   exact .inr ⟨A,es',ck',_,iU _ (jP h7),he.symm,rfl,hst'⟩
  ·rw[jR];exact dm _
  ·intro B hB hne
   exact pM fun hh=>hne (by simp[jY,hh])
  ·exact fun B hB=>.inl hB
 rcases b0n kvs k with⟨j,x,e1,e2,_⟩|⟨e1,_⟩
 ·have hj:es[j]?.map (·.key)=some (enc x.1):=by
   rw[←eI,h9,eI,e2];rfl
  have hx:x.1=k:=by
   have:=List.findIdx?_eq_some_iff_getElem.1 e1
   obtain⟨hlt,hd,_⟩:=this
   have hlt':j<kvs.length:=by simpa using hlt
   have:kvs[j]=x:=by
    rw[dx hlt']at e2
    exact dc e2
   simp[this]at hd
   exact hd
  cases he:es[j]? with
  | none=>rw[he]at hj;simp at hj
  | some e=>
    rw[he]at hj
    simp only[dS,dH]at hj
    refine⟨hset H A (.map (es.set j {e with key:=enc k,val:=f v}) ck (ver+1)),?_,h _ (fin _ _ ?_ (hst.set he _ rfl))⟩
    ·have hsb:Instr.sameBits 10000 e.key (enc k)=true:=by rw[hj,hx];exact h6 k
     simp only[a0S,h1,dh,h7,h4,if_true,hi,e1,he,hsb]
    ·symm
     rw[b0L,e1]
     refine a8g _ _ ?_ ?_
     ·rw[List.map_set,List.map_set,h9]
     ·rw[List.map_set,List.map_set,h10]
 ·refine⟨hset H A (.map (es++[{key:=enc k,val:=f v,born:=ck}]) (ck+1) (ver+1)),?_,h _ (fin _ _ ?_ (hst.push _ rfl))⟩
  ·simp only[a0S,h1,dh,h7,h4,if_true,hi,e1]
  ·symm
   rw[b0L,e1]
   refine a8g _ _ ?_ ?_
   ·rw[dN,dN,h9];rfl
   ·rw[dN,dN,h10];rfl
def b9V(P:Program)(H:Heap)(t:TypeId)(m k:Value)(K:Value→Heap→Prop)(_k:Keep K:=⟨⟩):Prop:=∃v H1,sN P H t m k=some (v,H1)∧K v H1
theorem a9c{t:TypeId}{m m' k k':Value}{K:Value→Heap→Prop}(h:m=m')(h2:k=k'):b9V P H t m k K=b9V P H t m' k' K:=by rw[h,h2]
attribute [congr] a9c
def b1g(H:Heap)(m b v:Value)(K:Heap→Prop)(_k:Keep K:=⟨⟩):Prop:=∃H1,rL H m b v=some H1∧K H1
theorem a7H{m m' b b' v v':Value}{K:Heap→Prop}(h:m=m')(h2:b=b')(h3:v=v'):b1g H m b v K=b1g H m' b' v' K:=by rw[h,h2,h3]
attribute [congr] a7H
theorem a4H(d ty pos af g)(t:TypeId)(m k:Operand)(l:List Value)(K:Value→Heap→Prop):
 mD P ⟨d,.mapEntry t m k,ty,pos,af,g⟩ l H K=jN m l fun m=>jN k l fun k=>b9V P H t m k K:=by
 have h2:jZ (sN P H t (ev l m) (ev l k)) K=∃v H1,sN P H t (ev l m) (ev l k)=some (v,H1)∧K v H1:=mY ..
 simp only[mD,opD,jN,Op.operands,b9V,h2]
 simp[and_assoc]
theorem a2l(d ty pos af g)(t:TypeId)(m b v:Operand)(l:List Value)(K:Value→Heap→Prop):
 mD P ⟨d,.entryStore t m b v,ty,pos,af,g⟩ l H K=jN m l fun m=>jN b l fun b=>jN v l fun v=>b1g H m b v fun H1=>K undef H1:=by
 have h2:jZ ((rL H (ev l m) (ev l b) (ev l v)).map fun H=>(undef,H)) K=∃H1,rL H (ev l m) (ev l b) (ev l v)=some H1∧K undef H1:=by
  cases rL H (ev l m) (ev l b) (ev l v)<;>simp[jZ]
 simp only[mD,opD,jN,Op.operands,b1g,h2]
 simp[and_assoc]
theorem a7e(kvs:List (κ×β))(k k':κ)(v:β):vL (a2L kvs k v) k'=if k'=k then some v else vL kvs k':=by
 unfold vL a2L
 induction kvs with
 | nil=>
   by_cases h:k'=k
   ·simp[h]
   ·simp[h,fm h]
 | cons p kvs ih=>
   by_cases hp:p.1=k
   ·simp only[fu,hp,decide_true,if_true,gf,List.find?_cons]
    by_cases h:k'=k
    ·simp[h]
    ·simp[h,fm h]
   ·have hd:decide (p.1=k)=false:=by simp[hp]
    simp only[fu,hd,ef,if_false]
    by_cases hq:p.1=k'
    ·have hne:¬k'=k:=fun e=>hp (hq.trans e)
     cases hh:kvs.findIdx? (fun p=>decide (p.1=k))with
     | none=>simp[hq,hne]
     | some j=>simp[hq,hne]
    ·cases hh:kvs.findIdx? (fun p=>decide (p.1=k))with
     | none=>
       rw[hh]at ih
       simpa [hq,List.find?_cons]using ih
     | some j=>
       rw[hh]at ih
       simpa [hq,List.find?_cons]using ih
end
end Go.Ds
namespace Go.Ds
noncomputable section
variable {P:Program} {H:Heap}
theorem kQ{α:Type}(P:Program)(x:α):iP P (pure x)=some x:=rfl
theorem jX{t:TypeId}{d:TypeDesc}(h:P.underlying t=some d):iP P (underlying t)=some d:=by
 unfold underlying
 rw[iN]
 have:iP P program=some P:=rfl
 rw[this,dh,h]
 rfl
def lJ:Operand→Bool
 | .const _=>true
 | _=>false
def oQ(c:Bool)(i:Nat)(v:Value):Operand:=if c then .const v else .tmp i
def kN(P:Program)(op:BinOp)(t t2:TypeId)(cx cy:Bool)(x y:Value):Option Value:=(opD P ⟨none,.binOp op t (oQ cx 0 x) (oQ cy 1 y) t2,t,"",#[],none⟩ [x,y] .nil).map (·.1)
def kY(P:Program)(op:BinOp)(t t2:TypeId)(cx cy:Bool)(x y:Value)(K:Value→Prop)(_k:Keep K:=⟨⟩):Prop:=match x,y with
 | .int k a,.int k' b=>(match (if k=k' then mV op k a b else none)with|some v=>K v|none=>jT (kN P op t t2 cx cy (.int k a) (.int k' b)) K)
 | x,y=>jT (kN P op t t2 cx cy x y) K
theorem a5D{op:BinOp}{t t2:TypeId}{cx cy:Bool}{x x' y y':Value}{K:Value→Prop}(h:x=x')(h2:y=y'):kY P op t t2 cx cy x y K=kY P op t t2 cx cy x' y' K:=by rw[h,h2]
attribute [congr] a5D
theorem a8k(x:Operand)(l m:List Value):ev (ev l x::m) (oQ (lJ x) 0 (ev l x))=ev l x:=by cases x<;>rfl
theorem a9b(x:Operand)(l m:List Value)(a:Value):ev (a::ev l x::m) (oQ (lJ x) 1 (ev l x))=ev l x:=by cases x<;>rfl
theorem b7w(op:BinOp)(t:TypeId)(x y:Operand)(l:List Value):eqGuard op t x y (ev l x) (ev l y)=eqGuard op t (oQ (lJ x) 0 (ev l x)) (oQ (lJ y) 1 (ev l y)) (ev l x) (ev l y):=by
 generalize hx:ev l x=vx
 generalize hy:ev l y=vy
 cases x<;>cases y<;>rfl
theorem b7Y(d ty pos af g)(op:BinOp)(t:TypeId)(x y:Operand)(t2:TypeId)(l:List Value)(H:Heap):
 opD P ⟨d,.binOp op t x y t2,ty,pos,af,g⟩ l H=(kN P op t t2 (lJ x) (lJ y) (ev l x) (ev l y)).map fun v=>(v,H):=by
 have hp:kT P ⟨d,.binOp op t x y t2,ty,pos,af,g⟩ l H=_:=nE (P:=P) ⟨d,.binOp op t x y t2,ty,pos,af,g⟩ ⟨none,.binOp op t (oQ (lJ x) 0 (ev l x)) (oQ (lJ y) 1 (ev l y)) t2,t,"",#[],none⟩ l [ev l x,ev l y] H
  (by simp only[Op.operands,dY,fN,a8k,a9b]) (by
    simp only[execOp]
    rw[a8k,a9b,←b7w])
 simp only[opD,kN,hp,a8k,a9b]
 generalize kT P _ _ _=r
 generalize ev l x=vx
 generalize ev l y=vy
 split
 all_goals first
  | (split<;>first|rfl|(split<;>first|rfl|(cases r<;>rfl))|(cases r<;>rfl))
  | (cases r<;>rfl)
theorem b7n(d ty pos af g)(op:BinOp)(t:TypeId)(x y:Operand)(t2:TypeId)(l:List Value)(K:Value→Heap→Prop):
 mD P ⟨d,.binOp op t x y t2,ty,pos,af,g⟩ l H K=jN x l fun x'=>jN y l fun y'=>kY P op t t2 (lJ x) (lJ y) x' y' fun v=>K v H:=by
 have h:jZ (opD P ⟨d,.binOp op t x y t2,ty,pos,af,g⟩ l H) K=kY P op t t2 (lJ x) (lJ y) (ev l x) (ev l y) fun v=>K v H:=by
  have key:jZ ((kN P op t t2 (lJ x) (lJ y) (ev l x) (ev l y)).map fun v=>(v,H)) K=jT (kN P op t t2 (lJ x) (lJ y) (ev l x) (ev l y)) fun v=>K v H:=by
   cases kN P op t t2 (lJ x) (lJ y) (ev l x) (ev l y)<;>rfl
  rw[b7Y,key]
  unfold kY
  split
  ·rename_i k a k' b hx hy
   split
   ·rename_i v hv
    split at hv
    ·rename_i hk
     subst hk
     have:kN P op t t2 (lJ x) (lJ y) (.int k a) (.int k b)=some v:=by
      have h1:∀m,ev ((.int k a:Value)::m) (oQ (lJ x) 0 (.int k a))=.int k a:=fun m=>by cases lJ x<;>rfl
      have h2:∀m c,ev (c::(.int k b:Value)::m) (oQ (lJ y) 1 (.int k b))=.int k b:=fun m c=>by cases lJ y<;>rfl
      cases op<;>simp only[mV]at hv<;>first|(cases hv;done)|(simp only[kN,opD,h1,h2,mV,if_true,hv];rfl)
     rw[hx,hy,this]
     rfl
    ·cases hv
   ·rw[hx,hy]
  ·rfl
 simp only[mD,h,jN,Op.operands]
 simp[and_assoc]
theorem mH(op:BinOp)(t t2:TypeId)(cx cy:Bool)(k:IntKind)(a b:Int){v:Value}(K:Value→Prop)(h:mV op k a b=some v):kY P op t t2 cx cy (.int k a) (.int k b) K=nH v K:=by
 simp[kY,h,nH]
section
theorem b2A(t t2:TypeId)(cx cy:Bool)(k:IntKind)(a b:Int)(K:Value→Prop):kY P .add t t2 cx cy (.int k a) (.int k b) K=nH (.int k (k.wrap (a+b))) K:=mH _ _ _ _ _ _ _ _ _ (by simp[mV,b1a,uV])
theorem b3p(t t2:TypeId)(cx cy:Bool)(k:IntKind)(a b:Int)(K:Value→Prop):kY P .sub t t2 cx cy (.int k a) (.int k b) K=nH (.int k (k.wrap (a-b))) K:=mH _ _ _ _ _ _ _ _ _ (by simp[mV,b0Y,uV])
theorem b2l(t t2:TypeId)(cx cy:Bool)(k:IntKind)(a b:Int)(K:Value→Prop):kY P .mul t t2 cx cy (.int k a) (.int k b) K=nH (.int k (k.wrap (a*b))) K:=mH _ _ _ _ _ _ _ _ _ (by simp[mV,uV])
theorem b2V(t t2:TypeId)(cx cy:Bool)(k:IntKind)(a b:Int)(K:Value→Prop):kY P .eql t t2 cx cy (.int k a) (.int k b) K=nH (.bool (decide (a=b))) K:=mH _ _ _ _ _ _ _ _ _ (by simp[mV,a1H];rfl)
theorem b1r(t t2:TypeId)(cx cy:Bool)(k:IntKind)(a b:Int)(K:Value→Prop):kY P .neq t t2 cx cy (.int k a) (.int k b) K=nH (.bool (decide (¬a=b))) K:=mH _ _ _ _ _ _ _ _ _ (by simp[mV,a1H];rfl)
theorem b2k(t t2:TypeId)(cx cy:Bool)(k:IntKind)(a b:Int)(K:Value→Prop):kY P .lss t t2 cx cy (.int k a) (.int k b) K=nH (.bool (decide (a<b))) K:=mH _ _ _ _ _ _ _ _ _ (by simp[mV,zY])
theorem b2Y(t t2:TypeId)(cx cy:Bool)(k:IntKind)(a b:Int)(K:Value→Prop):kY P .leq t t2 cx cy (.int k a) (.int k b) K=nH (.bool (decide (a≤b))) K:=mH _ _ _ _ _ _ _ _ _ (by simp[mV,zY,←Int.not_lt])
theorem b2d(t t2:TypeId)(cx cy:Bool)(k:IntKind)(a b:Int)(K:Value→Prop):kY P .gtr t t2 cx cy (.int k a) (.int k b) K=nH (.bool (decide (b<a))) K:=mH _ _ _ _ _ _ _ _ _ (by simp[mV,zY])
theorem b2f(t t2:TypeId)(cx cy:Bool)(k:IntKind)(a b:Int)(K:Value→Prop):kY P .geq t t2 cx cy (.int k a) (.int k b) K=nH (.bool (decide (b≤a))) K:=mH _ _ _ _ _ _ _ _ _ (by simp[mV,zY,←Int.not_lt])
theorem b2t(t t2:TypeId)(cx cy:Bool)(k:IntKind)(a b:Int)(K:Value→Prop)(hb:b≠0):kY P .rem t t2 cx cy (.int k a) (.int k b) K=nH (.int k (a.tmod b)) K:=mH _ _ _ _ _ _ _ _ _ (by
 have:(b==0)=false:=by simp[hb]
 simp[mV,a1H,this])
theorem b2o(t t2:TypeId)(cx cy:Bool)(k:IntKind)(a b:Int)(K:Value→Prop)(hb:b≠0):kY P .quo t t2 cx cy (.int k a) (.int k b) K=nH (.int k (k.wrap (a.tdiv b))) K:=mH _ _ _ _ _ _ _ _ _ (by
 have:(b==0)=false:=by simp[hb]
 simp[mV,a1H,uV,this])
end
theorem lQ{op:BinOp}{t t2:TypeId}{cx cy:Bool}{x y v:Value}(hx:flat x=true)(hy:flat y=true)(hg:iP P (eqGuard op t (oQ cx 0 x) (oQ cy 1 y) x y)=some ())
 (hv:iP P (binOp op t x y)=some v) (hf:flat v=true) (hs:∀a n c,x≠.slice (some a) n c) (hp:∀a,x≠.pointer (some a)) (hi:∀k a b,x=.int k a→y=.int k b→mV op k a b=none):kN P op t t2 cx cy x y=some v:=by
 have h1:∀m,ev (x::m) (oQ cx 0 x)=x:=fun m=>by cases cx<;>rfl
 have h2:∀m c,ev (c::y::m) (oQ cy 1 y)=y:=fun m c=>by cases cy<;>rfl
 have hpl:kT P ⟨none,.binOp op t (oQ cx 0 x) (oQ cy 1 y) t2,t,"",#[],none⟩ [x,y] .nil=some (v,.nil):=by
  unfold kT
  rw[if_pos (by simp[Op.operands,h1,h2,hx,hy])]
  have:execOp (ev [x,y]) ⟨none,.binOp op t (oQ cx 0 x) (oQ cy 1 y) t2,t,"",#[],none⟩=(do let v ←(do eqGuard op t (oQ cx 0 x) (oQ cy 1 y) x y;binOp op t x y);pure (.value v)):=by
   simp only[execOp,h1,h2]
  rw[this,iN,iN,hg,dh,hv,dh,kQ]
  simp only[hf,if_true]
 simp only[kN,opD,h1,h2,hpl]
 split
 ·exact absurd rfl (hs _ _ _)
 ·exact absurd rfl (hs _ _ _)
 ·rename_i k a k' b
  split
  ·rename_i hk
   subst hk
   rw[hi _ _ _ rfl rfl]
   rfl
  ·rfl
 ·exact absurd rfl (hp _)
 ·exact absurd rfl (hp _)
 ·exact absurd rfl (hp _)
 ·exact absurd rfl (hp _)
 ·rfl
theorem qM{op:BinOp}{t:TypeId}{x y:Operand}{k k':IntKind}{a b:Int}:iP P (eqGuard op t x y (.int k a) (.int k' b))=some ():=by
 unfold eqGuard
 split<;>rfl
section
theorem b5K(t t2:TypeId)(cx cy:Bool)(a b:Int){k k':IntKind}(hb:0≤b):kN P .shr t t2 cx cy (.int k a) (.int k' b)=some (.int k (a.fdiv (2^(min b.toNat k.bits)))):=
 lQ rfl rfl qM (by simp only[binOp,Op.shift];rw[if_neg (by omega)];rfl) rfl (by simp) (by simp) (by intros;rfl)
theorem b3Y(t t2:TypeId)(cx cy:Bool)(a b:Int){k k':IntKind}(hb:0≤b):kN P .shl t t2 cx cy (.int k a) (.int k' b)=some (.int k (k.wrap (a*2^(min b.toNat k.bits)))):=
 lQ rfl rfl qM (by simp only[binOp,Op.shift];rw[if_neg (by omega)];rfl) rfl (by simp) (by simp) (by intros;rfl)
theorem b6s(t t2:TypeId)(cx cy:Bool)(a b:Int)(k:IntKind):kN P .and t t2 cx cy (.int k a) (.int k b)=some (.int k (k.wrap (BitVec.ofInt k.bits a&&&BitVec.ofInt k.bits b).toNat)):=
 lQ rfl rfl qM (by simp only[binOp];rw[if_neg (by simp)];rfl) rfl (by simp) (by simp) (by intros;rfl)
theorem b8E(t t2:TypeId)(cx cy:Bool)(a b:Int)(k:IntKind):kN P .or t t2 cx cy (.int k a) (.int k b)=some (.int k (k.wrap (BitVec.ofInt k.bits a|||BitVec.ofInt k.bits b).toNat)):=
 lQ rfl rfl qM (by simp only[binOp];rw[if_neg (by simp)];rfl) rfl (by simp) (by simp) (by intros;rfl)
theorem b3W(t t2:TypeId)(cx cy:Bool)(a b:Int)(k:IntKind):kN P .xor t t2 cx cy (.int k a) (.int k b)=some (.int k (k.wrap (BitVec.ofInt k.bits a^^^BitVec.ofInt k.bits b).toNat)):=
 lQ rfl rfl qM (by simp only[binOp];rw[if_neg (by simp)];rfl) rfl (by simp) (by simp) (by intros;rfl)
theorem a6u(t t2:TypeId)(cx cy:Bool)(a b:Int)(k:IntKind):kN P .andNot t t2 cx cy (.int k a) (.int k b)=some (.int k (k.wrap (BitVec.ofInt k.bits a&&&~~~ BitVec.ofInt k.bits b).toNat)):=
 lQ rfl rfl qM (by simp only[binOp];rw[if_neg (by simp)];rfl) rfl (by simp) (by simp) (by intros;rfl)
end
section
variable (a b:ByteArray)
theorem zP{op:BinOp}{t:TypeId}{x y:Operand}:iP P (eqGuard op t x y (.string a) (.string b))=some ():=by
 unfold eqGuard
 split<;>rfl
theorem a0y(h:a.data.toList=b.data.toList):a=b:=by
 cases a;cases b
 simp only[ByteArray.mk.injEq]
 exact Array.toList_inj.1 h
theorem a1N:(a.toList==b.toList)=decide (a=b):=by
 rw[ByteArray.toList_eq,ByteArray.toList_eq,eu,beq_iff_eq,decide_eq_true_iff]
 exact⟨a0y a b,fun h=>by rw[h]⟩
theorem a9I(t t2:TypeId)(cx cy:Bool)(a b:ByteArray):kN P .eql t t2 cx cy (.string a) (.string b)=some (.bool (decide (a=b))):=
 lQ rfl rfl (zP a b) (by rw[←a1N];rfl) rfl (by simp) (by simp) (by intro _ _ _ h;cases h)
theorem a8t(t t2:TypeId)(cx cy:Bool)(a b:ByteArray):kN P .neq t t2 cx cy (.string a) (.string b)=some (.bool (decide (¬a=b))):=
 lQ rfl rfl (zP a b) (by
  have:decide (¬a=b)= !(a.toList==b.toList):=by rw[a1N];simp
  rw[this];rfl) rfl (by simp) (by simp) (by intro _ _ _ h;cases h)
theorem nW(t t2:TypeId)(cx cy:Bool)(a b:ByteArray)(h:a.size+b.size<9223372036854775808):kN P .add t t2 cx cy (.string a) (.string b)=some (.string (a++b)):=
 lQ rfl rfl (zP a b) (by
  simp only[binOp,Op.stringOp]
  rw[if_neg]
  ·rfl
  ·have:IntKind.i64.max=9223372036854775807:=by decide
   rw[this];omega) rfl (by simp) (by simp) (by intro _ _ _ h;cases h)
end
theorem b7i{t:TypeId}(s:ByteArray)(ht:pW P t=true):a0d P H t (.string s)=some (.int .i64 s.size):=by
 unfold pW at ht
 unfold a0d
 split at ht
 ·rename_i h;rw[h];simp[wT,goInt]
 ·cases ht
def oX(P:Program)(t:TypeId)(x i:Value):Option Value:=(opD P ⟨none,.index t (.const x) (.const i),t,"",#[],none⟩ [] .nil).map (·.1)
theorem b3b(d ty pos af g)(t:TypeId)(x i:Operand)(l:List Value)(K:Value→Heap→Prop):
 mD P ⟨d,.index t x i,ty,pos,af,g⟩ l H K=jN x l fun x=>jN i l fun i=>jT (oX P t x i) fun v=>K v H:=by
 have h:opD P ⟨d,.index t x i,ty,pos,af,g⟩ l H=(oX P t (ev l x) (ev l i)).map fun v=>(v,H):=by
  have hp:=nE (P:=P) ⟨d,.index t x i,ty,pos,af,g⟩ ⟨none,.index t (.const (ev l x)) (.const (ev l i)),t,"",#[],none⟩ l [] H rfl rfl
  simp only[opD,oX]
  exact hp
 have h2:jZ ((oX P t (ev l x) (ev l i)).map fun v=>(v,H)) K=jT (oX P t (ev l x) (ev l i)) fun v=>K v H:=by cases oX P t (ev l x) (ev l i)<;>rfl
 simp only[mD,h,jN,Op.operands,h2]
 simp[and_assoc]
def oA(s:ByteArray)(i:Nat):Nat:=(s.data.toList.getD i 0).toNat
theorem a8q{t:TypeId}(s:ByteArray)(k:IntKind)(i:Int)(ht:pW P t=true)(h0:0≤i)(h1:i<s.size):oX P t (.string s) (.int k i)=some (.int .u8 (oA s i.toNat)):=by
 have hu:P.underlying t=some .string:=by
  unfold pW at ht
  split at ht
  ·rename_i h;exact h
  ·cases ht
 have hr:iP P (Instr.index t (.string s) (.int k i))=some (.int .u8 (oA s i.toNat)):=by
  unfold Instr.index
  rw[iN]
  have e1:iP P (asIntOf (.int k i))=some (k,i):=rfl
  rw[e1,dh]
  simp only[iN,jX hu,dh]
  rw[if_pos h0]
  have hlt:i.toNat<s.size:=by omega
  have hb:s[i.toNat]? =some s[i.toNat]:=by simp[getElem?_pos,hlt]
  simp only[hb]
  rw[kQ]
  congr 3
  unfold oA
  rw[dj]
  have hl:i.toNat<s.data.toList.length:=by simpa using hlt
  rw[dx hl]
  rfl
 have hpl:kT P ⟨none,.index t (.const (.string s)) (.const (.int k i)),t,"",#[],none⟩ [] .nil=some (.int .u8 (oA s i.toNat),.nil):=by
  unfold kT
  rw[if_pos (by rfl)]
  have:execOp (ev []) ⟨none,.index t (.const (.string s)) (.const (.int k i)),t,"",#[],none⟩=(do let v ←Instr.index t (.string s) (.int k i);pure (.value v)):=rfl
  rw[this,iN,hr,dh,kQ]
  rfl
 simp only[oX,opD,hpl]
 rfl
def a2V(P:Program)(t:TypeId):Option IntKind:=match P.underlying t with|some (.int k)=>some k|_=>none
theorem a0r{t:TypeId}{k:IntKind}(h:a2V P t=some k):P.underlying t=some (.int k):=by
 unfold a2V at h
 split at h
 ·rename_i h2;rw[h2];injection h with h;rw[h]
 ·cases h
theorem b2r{s t:TypeId}{k k':IntKind}(a:Int)(hs:a2V P s=some k)(ht:a2V P t=some k'):a2u P s t (.int k a)=some (.int k' (k'.wrap a)):=by
 have hr:iP P (convert s t (.int k a))=some (.int k' (k'.wrap a)):=by
  unfold convert
  simp only[iN,jX (a0r hs),jX (a0r ht),dh]
  rfl
 have hpl:kT P ⟨none,.convert s t (.const (.int k a)),t,"",#[],none⟩ [] .nil=some (.int k' (k'.wrap a),.nil):=by
  unfold kT
  rw[if_pos (by rfl)]
  have:execOp (ev []) ⟨none,.convert s t (.const (.int k a)),t,"",#[],none⟩=(do let v ←convert s t (.int k a);pure (.value v)):=rfl
  rw[this,iN,hr,dh,kQ]
  rfl
 simp only[a2u,hpl]
 rfl
def a4P(P:Program)(d:Nat)(xs ys:Array Value)(fs:List Field):Option Bool:=
 (iP P (forIn fs ((none,()):Option Bool×Unit) fun f _=>
   if f.name≠ "_" then do
    let a ←part f.type xs f.offset
    let b ←part f.type ys f.offset
    let c ←Op.equalIn d f.type a b
    if(!c)=true then pure (ForInStep.done (some false,()))else pure (ForInStep.yield (none,()))
   else pure (ForInStep.yield (none,())))).bind fun x=>iP P (match x.fst with|some r=>pure r|none=>pure true)
theorem a1S{d:Nat}{xs ys:Array Value}(g:Field→Bool):∀(fs:List Field),(∀f∈fs,f.name≠ "_" ∧iP P (part f.type xs f.offset>>=fun x=>part f.type ys f.offset>>=fun y=>Op.equalIn d f.type x y)=some (g f))→
 a4P P d xs ys fs=some (fs.all g)
 | [],_=>rfl
 | f::fs,hg=>by
   obtain⟨h1,h2⟩:=hg f (eX ..)
   have ih:=a1S g fs fun f' h=>hg f' (eH _ h)
   unfold a4P at ih ⊢
   rw[iN]at h2
   simp only[List.forIn_cons,h1,ne_eq,not_false_eq_true,if_true,iN]
   cases hx:iP P (part f.type xs f.offset)with
   | none=>rw[hx]at h2;cases h2
   | some x=>
     rw[hx,dh,iN]at h2
     cases hy:iP P (part f.type ys f.offset)with
     | none=>rw[hy]at h2;cases h2
     | some y=>
       rw[hy,dh]at h2
       simp only[dh,h2]
       cases hgf:g f with
       | false=>
         simp only[Bool.not_false,if_true,kQ,dh,fK,hgf,gg]
       | true=>
         simp only[Bool.not_true,ef,if_false,kQ,dh,fK,hgf,fT]
         exact ih
theorem b4u{d:Nat}{t:TypeId}{fs:List Field}{xs ys:Array Value}(hu:P.underlying t=some (.struct fs.toArray))(hst:P.stoodInHeld t=false)(g:Field→Bool)
 (hg:∀f∈fs,f.name≠ "_" ∧iP P (part f.type xs f.offset>>=fun x=>part f.type ys f.offset>>=fun y=>Op.equalIn d f.type x y)=some (g f)):iP P (Op.equalIn (d+1) t (.agg xs) (.agg ys))=some (fs.all g):=by
 rw[Op.equalIn,iN,jX hu,dh]
 have hp:iP P program=some P:=rfl
 simp only[iN,hp,dh,hst,ef,if_false,List.forIn_toArray]
 refine Eq.trans ?_ (a1S g fs hg)
 unfold a4P
 congr 1
 funext x
 cases x.fst<;>rfl
theorem a3m{op:BinOp}{t:TypeId}(ht:P.eqGuardType P.depth t=false){x y:Operand}{a b:Array Value}:iP P (eqGuard op t x y (.agg a) (.agg b))=some ():=by
 have hp:iP P program=some P:=rfl
 unfold eqGuard
 cases op<;>simp[iN,hp,ht,kQ]
theorem b7c{t t2:TypeId}{cx cy:Bool}{xs ys:List Value}(b:Bool)(ht:P.eqGuardType P.depth t=false)(hx:xs.all iZ=true)(hy:ys.all iZ=true)(h:iP P (Op.equalIn (9999+1) t (.agg xs.toArray) (.agg ys.toArray))=some b):
 kN P .eql t t2 cx cy (.agg xs.toArray) (.agg ys.toArray)=some (.bool b):=
 lQ (by simp[flat,jJ,kM,hx]) (by simp[flat,jJ,kM,hy]) (a3m ht) (by
  have hmd:Op.maxDepth=9999+1:=by decide
  simp only[binOp,iN,Op.equal]
  rw[hmd,h,dh,kQ]) rfl (by simp) (by simp) (by intro _ _ _ h;cases h)
theorem b5A{t t2:TypeId}{cx cy:Bool}{xs ys:List Value}(b:Bool)(ht:P.eqGuardType P.depth t=false)(hx:xs.all iZ=true)(hy:ys.all iZ=true)(h:iP P (Op.equalIn (9999+1) t (.agg xs.toArray) (.agg ys.toArray))=some b):
 kN P .neq t t2 cx cy (.agg xs.toArray) (.agg ys.toArray)=some (.bool (!b)):=
 lQ (by simp[flat,jJ,kM,hx]) (by simp[flat,jJ,kM,hy]) (a3m ht) (by
  have hmd:Op.maxDepth=9999+1:=by decide
  simp only[binOp,iN,Op.equal]
  rw[hmd,h,dh,kQ]) rfl (by simp) (by simp) (by intro _ _ _ h;cases h)
end
end Go.Ds
namespace Go.Ds
noncomputable section
variable {P:Program} {H:Heap}
theorem a1O(a b:ByteArray):(a==b)=decide (b=a):=by
 obtain⟨x⟩:=a
 obtain⟨y⟩:=b
 rw[eu,decide_eq_true_iff]
 constructor
 ·intro h
  have e:x=y:=by simpa using(show(x==y)=true from h)
  rw[e]
 ·intro h
  cases h
  show(x==x)=true
  simp
theorem a3h(o:Option Nat)(i:Nat):o.map (i+1+·)=(o.map (·+1)).map (i+·):=by
 cases o with
 | none=>rfl
 | some j=>simp only[dS];congr 1;omega
theorem a0H(k:ByteArray):∀(es:List MapEntry)(ks:List ByteArray)(i:Nat),es.map (·.key)=ks.map Value.string→
 (Instr.findNow .string (.string k) (es.map wJ) i).map (·.map (·.1))=some ((ks.findIdx? fun x=>decide (x=k)).map (i+·))
 | [],[],i,_=>rfl
 | [],_::_,_,h=>by simp at h
 | _::_,[],_,h=>by simp at h
 | e::es,s::ks,i,h=>by
   simp only[dY,fi]at h
   have hs:Instr.sameNow .string (.string k) e.key=some (decide (s=k)):=by
    rw[h.1]
    show some (k==s)=_
    rw[a1O]
   simp only[dY,Instr.findNow,wJ,hs,fu]
   by_cases hd:s=k
   ·simp[hd]
   ·simp only[hd,decide_false,ef,if_false]
    have:=a0H k es ks (i+1) h.2
    rw[a3h]at this
    exact this
theorem b0w{κ:Type}[DecidableEq κ]{enc:κ→Value}{kt:TypeId}(heq:∀a b,iP P (Op.equal kt (enc a) (enc b))=some (decide (b=a)))(k:κ):∀(es:List MapEntry)(ks:List κ)(i:Nat),es.map (·.key)=ks.map enc→
 (iP P (Instr.findAsking kt (enc k) (es.map wJ) i)).map (·.map (·.1))=some ((ks.findIdx? fun x=>decide (x=k)).map (i+·))
 | [],[],i,_=>rfl
 | [],_::_,_,h=>by simp at h
 | _::_,[],_,h=>by simp at h
 | e::es,s::ks,i,h=>by
   simp only[dY,fi]at h
   simp only[dY,Instr.findAsking,wJ,iN,fu]
   rw[h.1,heq,dh]
   by_cases hd:s=k
   ·simp[hd,kQ]
   ·simp only[hd,decide_false,ef,if_false]
    have:=b0w heq k es ks (i+1) h.2
    rw[a3h]at this
    exact this
theorem MapK.str{t kt et:TypeId}{z:Value}(hm:yI P t=some (kt,et))(hu:P.underlying kt=some .string)(hz:jG P et=some z)(hf:jJ z=true):MapK P t Value.string z where
 ex:=by
  refine⟨kt,et,hm,hz,hf,?_,?_,?_⟩
  ·intro b k
   have:iP P (Instr.checkKey b 10000 kt (.string k))=some ():=by
    show iP P (Instr.checkKey b (9999+1) kt (.string k))=some ()
    unfold Instr.checkKey
    rw[iN,jX hu,dh]
    rfl
   simp only[xS,this]
   rfl
  ·intro k es ks h
   have h1:=a0H k es ks 0 h
   unfold rO Instr.findKey
   rw[iN,jX hu,dh]
   cases hn:Instr.findNow .string (.string k) (es.map wJ) 0 with
   | none=>rw[hn]at h1;cases h1
   | some r=>
     rw[hn]at h1
     simp only[kQ]
     simpa using h1
  ·intro k
   show(k==k)=true
   rw[a1O]
   simp
theorem MapK.struct{κ:Type}[DecidableEq κ]{enc:κ→Value}{t kt et:TypeId}{z:Value}{fs:Array Field}(hm:yI P t=some (kt,et))(hu:P.underlying kt=some (.struct fs))(hz:jG P et=some z)(hf:jJ z=true)
 (hk:∀b k,xS P b kt (enc k)=true) (heq:∀a b,iP P (Op.equal kt (enc a) (enc b))=some (decide (b=a))) (hsb:∀k,Instr.sameBits 10000 (enc k) (enc k)=true):MapK P t enc z where
 ex:=by
  refine⟨kt,et,hm,hz,hf,hk,?_,hsb⟩
  intro k es ks h
  have h1:=b0w heq k es ks 0 h
  unfold rO Instr.findKey
  rw[iN,jX hu,dh]
  have key:∀(l:List MapEntry),Instr.findNow (.struct fs) (enc k) l 0=none∨l=[]:=by
   intro l
   cases l with
   | nil=>exact .inr rfl
   | cons e l=>exact .inl rfl
  rcases key (es.map wJ)with hn|hn
  ·rw[hn]
   simpa using h1
  ·rw[hn]
   have:es=[]:=by simpa using hn
   subst this
   have:ks=[]:=by cases ks with|nil=>rfl|cons a ks=>simp at h
   subst this
   rfl
end
end Go.Ds
namespace Go.Ds
noncomputable section
variable {P:Program} {H:Heap}
def a1I(o:Option (Nat×TypeId))(P:Program)(H:Heap)(t:TypeId)(z:Value)(K:Value→Heap→Prop)(_k:Keep K:=⟨⟩):Prop:=match o with
 | none=>uQ (jJ z) (a4Q P H t z K)
 | some _=>uQ (jJ z) (b0b P H t z K)
theorem a5b{o o':Option (Nat×TypeId)}{t:TypeId}{z:Value}{K:Value→Heap→Prop}(h:o=o'):a1I o P H t z K=a1I o' P H t z K:=by rw[h]
attribute [congr] a5b
theorem b4o{t:TypeId}(z:Value)(K:Value→Heap→Prop):uE P H t (some z) K=a1I (kD P t) P H t z K:=by
 cases h:kD P t with
 | none=>exact a7r z K h
 | some n=>exact a9L z K h
theorem a5Q{t:TypeId}(z:Value)(K:Value→Heap→Prop):a1I none P H t z K=uQ (jJ z) (a4Q P H t z K):=rfl
theorem a6v{t:TypeId}(n:Nat×TypeId)(z:Value)(K:Value→Heap→Prop):a1I (some n) P H t z K=uQ (jJ z) (b0b P H t z K):=rfl
theorem a6j{t:TypeId}{k:IntKind}(h:a2V P t=some k):mC P t=false:=by
 simp[mC,a0r h]
def a3Y(ks kt:Option IntKind)(P:Program)(s t:TypeId)(H:Heap)(k:IntKind)(a:Int)(K:Value→Heap→Prop)(_k:Keep K:=⟨⟩):Prop:=match ks,kt with
 | some k0,some k'=>if k0=k then K (.int k' (k'.wrap a)) H else vN P s t H (.int k a) K
 | _,_=>vN P s t H (.int k a) K
theorem a7g{ks ks' kt kt':Option IntKind}{s t:TypeId}{k:IntKind}{a:Int}{K:Value→Heap→Prop}(h:ks=ks')(h2:kt=kt'):a3Y ks kt P s t H k a K=a3Y ks' kt' P s t H k a K:=by rw[h,h2]
attribute [congr] a7g
theorem b8H{s t:TypeId}(k:IntKind)(a:Int)(K:Value→Heap→Prop):vN P s t H (.int k a) K=a3Y (a2V P s) (a2V P t) P s t H k a K:=by
 unfold a3Y
 split
 ·rename_i k0 k' hs ht
  split
  ·rename_i hk
   subst hk
   rw[b3i k0 a K (a6j ht),b2r a hs ht]
   rfl
  ·rfl
 ·rfl
theorem b1i{s t:TypeId}(k k':IntKind)(a:Int)(K:Value→Heap→Prop):a3Y (some k) (some k') P s t H k a K=nH (.int k' (k'.wrap a)) fun v=>K v H:=by simp[a3Y,nH]
def c1h(b:Bool)(P:Program)(H:Heap)(t:TypeId)(v:Value):Option Value:=match b with
 | true=>(match v with|.string s=>some (.int .i64 s.size)|_=>a0d P H t v)
 | false=>a0d P H t v
theorem c0Y(t:TypeId)(v:Value):a6t none P H t v=c1h (pW P t) P H t v:=by
 unfold c1h
 split
 ·rename_i h
  split
  ·exact b7i _ h
  ·rfl
 ·rfl
theorem b4N(t:TypeId)(s:ByteArray):c1h true P H t (.string s)=some (.int .i64 s.size):=rfl
def a1s(b:Bool)(P:Program)(t:TypeId)(x i:Value):Option Value:=match b,x,i with
 | true,.string s,.int k i=>if 0≤i∧i<s.size then some (.int .u8 (oA s i.toNat))else oX P t (.string s) (.int k i)
 | _,x,i=>oX P t x i
theorem a6z(t:TypeId)(x i:Value):oX P t x i=a1s (pW P t) P t x i:=by
 unfold a1s
 split
 ·rename_i h
  split
  ·rename_i h2;exact a8q _ _ _ h h2.1 h2.2
  ·rfl
 ·rfl
theorem a8Q(t:TypeId)(s:ByteArray)(k:IntKind)(i:Int)(h0:0≤i)(h1:i<s.size):a1s true P t (.string s) (.int k i)=some (.int .u8 (oA s i.toNat)):=by
 simp[a1s,h0,h1]
theorem OC:(∀k n,oneCell (.int k n)=true)∧(∀b,oneCell (.bool b)=true)∧(∀s,oneCell (.string s)=true)∧(∀a,oneCell (.pointer a)=true)∧(∀a n c,oneCell (.slice a n c)=true)∧(∀r,oneCell (.map r)=true)∧(∀f a b,oneCell (.func f a b)=true)∧oneCell .nilFunc=true:=
 ⟨fun _ _=>rfl,fun _=>rfl,fun _=>rfl,fun _=>rfl,fun _ _ _=>rfl,fun _=>rfl,fun _ _ _=>rfl,rfl⟩
theorem c3D(o:Option Bool):(o.map Value.bool).getD (.bool false)=.bool (o.getD false):=by cases o<;>rfl
theorem c4q(k:IntKind)(o:Option Int):(o.map (Value.int k)).getD (.int k 0)=.int k (o.getD 0):=by cases o<;>rfl
theorem b8g(v:Value)(b:Bool):pairV false v b=v:=rfl
theorem b8v(v:Value)(b:Bool):pairV true v b=.tuple #[v,.bool b]:=rfl
theorem b3R(t:Tmp):lJ (.tmp t)=false:=rfl
theorem a8r(v:Value):lJ (.const v)=true:=rfl
theorem b5y(s:ByteArray):flat (.string s)=true:=rfl
theorem b2u(s:ByteArray):jJ (.string s)=true:=rfl
theorem a9V(s:ByteArray):iZ (.string s)=true:=rfl
theorem a5T(s:ByteArray):jL (.string s)=true:=rfl
theorem b7y(k:IntKind)(n:Int):mK (.int k n)=true:=rfl
theorem b3y(b:Bool):mK (.bool b)=true:=rfl
theorem b5o(s:ByteArray):mK (.string s)=true:=rfl
theorem kL{c b:Bool}{p q:Prop}(h1:c=true→rW (.bool true) b p q)(h2:c=false→rW (.bool false) b p q):rW (.bool c) b p q:=by
 cases c
 ·exact h2 rfl
 ·exact h1 rfl
theorem St.pick{H0:Base}{os os':List Ob}(hS:St P H0 H os)(idx:List Nat)(hn:idx.Nodup)(h:idx.map (os[·]?)=os'.map some):St P H0 H os':=by
 have hmem:∀o∈os',o∈os:=by
  intro o ho
  have:some o∈idx.map (os[·]?):=by rw[h];exact gx ho
  obtain⟨i,_,hi⟩:=dE.1 this
  exact dB hi
 refine⟨hS.len,hS.old,fun o ho=>hS.own o (hmem o ho),fun o ho=>hS.new o (hmem o ho),?_⟩
 have hpw:=eK.1 hS.sep
 rw[eK]
 intro i j hi hj hij
 have hl:idx.length=os'.length:=by simpa using congrArg List.length h
 have key:∀i(hi:i<os'.length),∃hk:idx[i]'(by omega)<os.length,os[idx[i]'(by omega)]=os'[i]:=by
  intro i hi
  have h1:(idx.map (os[·]?))[i]? =(os'.map some)[i]?:=by rw[h]
  rw[eI,eI,dx (by omega),dx hi]at h1
  simp only[dS,dH]at h1
  exact dy.1 h1
 obtain⟨h1,e1⟩:=key i hi
 obtain⟨h2,e2⟩:=key j hj
 have hne:idx[i]'(by omega)≠idx[j]'(by omega):=by
  have:=eK.1 hn i j (by omega) (by omega) hij
  exact this
 rcases gZ hne with hh|hh
 ·have:=hpw _ _ h1 h2 hh
  rw[e1,e2]at this
  exact this
 ·have:=hpw _ _ h2 h1 hh
  rw[e1,e2]at this
  intro B hb hb'
  exact this B hb' hb
theorem St.frame{H1:Heap}{H0:Base}{ls rest ls':List Ob}(hS:St P H0 H (ls++rest))(h1:St P ⟨H,qY ls⟩ H1 ls'):St P H0 H1 (ls'++rest):=by
 have hls:St P H0 H ls:=hS.sub (List.sublist_append_left ..)
 have h2:=hls.bC h1
 have hsep:=eV.1 hS.sep
 have hkeep:∀o∈rest,∀B,jY o.v=some B→iT H1 B=iT H B:=by
  intro o ho B hB
  have hlt:=(hS.own o (gk _ ho)).lt hB
  exact h1.old B hlt fun⟨x,hx,hxb⟩=>hsep.2.2 x hx o ho B hxb hB
 refine⟨h2.len,h2.old,?_,?_,?_⟩
 ·intro o ho
  rcases dP.1 ho with ho|ho
  ·exact h2.own o ho
  ·exact(hS.own o (gk _ ho)).ag (hkeep o ho)
 ·intro o ho B hB
  rcases dP.1 ho with ho|ho
  ·exact h2.new o ho B hB
  ·exact hS.new o (gk _ ho) B hB
 ·rw[eV]
  refine⟨h2.sep,hsep.2.1,?_⟩
  intro x hx y hy B hb hb'
  rcases h1.new x hx B hb with hh|⟨z,hz,hzb⟩
  ·have:=(hS.own y (gk _ hy)).lt hb'
   have hh:H.length≤B:=hh
   omega
  ·exact hsep.2.2 z hz y hy B hzb hb'
theorem b7M(t:TypeId)(k:IntKind)(n:Int):unV P .neg t (.int k n)=some (.int k (k.wrap (0-n))):=rfl
theorem b2b(ops:Array Oper)(d:Option Tmp)(op:Op)(ty:TypeId)(pos:String)(af:Array Edge)(j:Nat)(b:Bool)(l:List Value)(H':Heap)(v:Value):
 rdW P ops (some ⟨d,op,ty,pos,af,some (j,b)⟩) (some (l,H',v)) H=tX (xW ops j) l b (mD P ⟨d,op,ty,pos,af,some (j,b)⟩ l H fun v' _=>v'=v) True:=by
 rw[←sY ops l d op ty pos af]
 unfold rdW
 split
 ·rename_i h1 h2
  cases h1;cases h2
  split
  ·rename_i h;simp[h]
  ·rename_i h;simp[h]
 ·rename_i h
  exact(h _ _ _ _ rfl rfl).elim
theorem b1n(t t2:TypeId)(cx cy:Bool)(k:IntKind)(a b:Int)(K:Value→Prop):kY P .and t t2 cx cy (.int k a) (.int k b) K=jT (kN P .and t t2 cx cy (.int k a) (.int k b)) K:=by
 have h:(if k=k then mV .and k a b else none)=none:=by split<;>rfl
 unfold kY;dsimp only
 rw[h]
theorem b6k(t t2:TypeId)(cx cy:Bool)(k:IntKind)(a b:Int)(K:Value→Prop):kY P .or t t2 cx cy (.int k a) (.int k b) K=jT (kN P .or t t2 cx cy (.int k a) (.int k b)) K:=by
 have h:(if k=k then mV .or k a b else none)=none:=by split<;>rfl
 unfold kY;dsimp only
 rw[h]
theorem b1W(t t2:TypeId)(cx cy:Bool)(k:IntKind)(a b:Int)(K:Value→Prop):kY P .xor t t2 cx cy (.int k a) (.int k b) K=jT (kN P .xor t t2 cx cy (.int k a) (.int k b)) K:=by
 have h:(if k=k then mV .xor k a b else none)=none:=by split<;>rfl
 unfold kY;dsimp only
 rw[h]
theorem a5r(t t2:TypeId)(cx cy:Bool)(k:IntKind)(a b:Int)(K:Value→Prop):kY P .andNot t t2 cx cy (.int k a) (.int k b) K=jT (kN P .andNot t t2 cx cy (.int k a) (.int k b)) K:=by
 have h:(if k=k then mV .andNot k a b else none)=none:=by split<;>rfl
 unfold kY;dsimp only
 rw[h]
theorem b1q(t t2:TypeId)(cx cy:Bool)(k k':IntKind)(a b:Int)(K:Value→Prop):kY P .shl t t2 cx cy (.int k a) (.int k' b) K=jT (kN P .shl t t2 cx cy (.int k a) (.int k' b)) K:=by
 have h:(if k=k' then mV .shl k a b else none)=none:=by split<;>rfl
 unfold kY;dsimp only
 rw[h]
theorem b3x(t t2:TypeId)(cx cy:Bool)(k k':IntKind)(a b:Int)(K:Value→Prop):kY P .shr t t2 cx cy (.int k a) (.int k' b) K=jT (kN P .shr t t2 cx cy (.int k a) (.int k' b)) K:=by
 have h:(if k=k' then mV .shr k a b else none)=none:=by split<;>rfl
 unfold kY;dsimp only
 rw[h]
theorem b1v(op:BinOp)(t t2:TypeId)(cx cy:Bool)(a b:ByteArray)(K:Value→Prop):kY P op t t2 cx cy (.string a) (.string b) K=jT (kN P op t t2 cx cy (.string a) (.string b)) K:=rfl
theorem b2w(op:BinOp)(t t2:TypeId)(cx cy:Bool)(a b:Array Value)(K:Value→Prop):kY P op t t2 cx cy (.agg a) (.agg b) K=jT (kN P op t t2 cx cy (.agg a) (.agg b)) K:=rfl
theorem b1J(op:BinOp)(t t2:TypeId)(cx cy:Bool)(a b:Bool)(K:Value→Prop):kY P op t t2 cx cy (.bool a) (.bool b) K=jT (kN P op t t2 cx cy (.bool a) (.bool b)) K:=rfl
theorem b6m(n:Int)(h1: -9223372036854775808≤n)(h2:n<9223372036854775808):IntKind.wrap .i64 n=n:=by
 show(if(true&&decide (n%18446744073709551616≥9223372036854775808))=true then n%18446744073709551616-18446744073709551616 else n%18446744073709551616)=n
 simp only[fT,decide_eq_true_eq]
 omega
theorem b7E(n:Int)(h1: -128≤n)(h2:n<128):IntKind.wrap .i8 n=n:=by
 show(if(true&&decide (n%256≥128))=true then n%256-256 else n%256)=n
 simp only[fT,decide_eq_true_eq]
 omega
theorem qS(n:Int)(h1:0≤n)(h2:n<18446744073709551616):IntKind.wrap .u64 n=n:=by
 show(if(false&&decide (n%18446744073709551616≥9223372036854775808))=true then n%18446744073709551616-18446744073709551616 else n%18446744073709551616)=n
 simp only[gg]
 rw[if_neg (by simp)]
 omega
theorem b6t(n:Int)(h1:0≤n)(h2:n<4294967296):IntKind.wrap .u32 n=n:=by
 show(if(false&&decide (n%4294967296≥2147483648))=true then n%4294967296-4294967296 else n%4294967296)=n
 simp only[gg]
 rw[if_neg (by simp)]
 omega
theorem b7t(n:Int)(h1:0≤n)(h2:n<65536):IntKind.wrap .u16 n=n:=by
 show(if(false&&decide (n%65536≥32768))=true then n%65536-65536 else n%65536)=n
 simp only[gg]
 rw[if_neg (by simp)]
 omega
theorem b9H(n:Int)(h1:0≤n)(h2:n<256):IntKind.wrap .u8 n=n:=by
 show(if(false&&decide (n%256≥128))=true then n%256-256 else n%256)=n
 simp only[gg]
 rw[if_neg (by simp)]
 omega
end
end Go.Ds
namespace Go.Ds
noncomputable section
variable {P:Program}
def zI(P:Program)(t:TypeId):List Field:=match P.underlying t with|some (.struct fs)=>fs.toList|_=>[]
def yU:Value→Value→Bool
 | .int _ a,.int _ b=>a==b
 | .bool a,.bool b=>a==b
 | .string a,.string b=>decide (a=b)
 | _,_=>false
def okC(P:Program)(t:TypeId)(x y:Value):Bool:=match P.underlying t with
 | some (.int _)=>(match x,y with|.int k _,.int k' _=>decide (k=k')|_,_=>false)
 | some .bool=>(match x,y with|.bool _,.bool _=>true|_,_=>false)
 | some .string=>(match x,y with|.string _,.string _=>true|_,_=>false)
 | _=>false
theorem eq1{t:TypeId}{x y:Value}(d:Nat)(h:okC P t x y=true):iP P (Op.equalIn (d+1) t x y)=some (yU x y):=by
 unfold okC at h
 split at h
 ·rename_i k0 hu
  split at h
  ·rename_i k a k' b
   have hk:k=k':=by simpa using h
   subst hk
   rw[Op.equalIn,iN,jX hu,dh]
   simp only[if_true]
   rfl
  ·cases h
 ·rename_i hu
  split at h
  ·rw[Op.equalIn,iN,jX hu,dh];rfl
  ·cases h
 ·rename_i hu
  split at h
  ·rename_i a b
   rw[Op.equalIn,iN,jX hu,dh]
   show some (a==b)=some (decide (a=b))
   rw[a1O]
   congr 1
   simp[eq_comm]
  ·cases h
 ·cases h
theorem c0q{t:TypeId}{x y v:Value}{cs:Array Value}{off:Nat}(h:okC P t x y=true)(hc:cs[off]? =some v):iP P (part t cs off)=some v:=by
 have ha:iP P (isAgg t)=some false:=by
  unfold isAgg
  unfold okC at h
  split at h
  ·rename_i hu;rw[iN,jX hu,dh];rfl
  ·rename_i hu;rw[iN,jX hu,dh];rfl
  ·rename_i hu;rw[iN,jX hu,dh];rfl
  ·cases h
 unfold part
 rw[iN,ha,dh]
 simp only[ef,if_false,hc]
 rfl
theorem a2r{t:TypeId}{xs ys:List Value}(d:Nat)(hu:P.underlying t=some (.struct (zI P t).toArray))(hst:P.stoodInHeld t=false)
 (hf:((zI P t).map fun f=>(f.name != "_",f.offset))=(List.range xs.length).map fun j=>(true,j)) (hy:ys.length=xs.length)
 (hok:((zI P t).all fun f=>okC P f.type (xs.getD f.offset undef) (ys.getD f.offset undef))=true):
 iP P (Op.equalIn (d+2) t (.agg xs.toArray) (.agg ys.toArray))=some ((List.range xs.length).all fun j=>yU (xs.getD j undef) (ys.getD j undef)):=by
 rw[dJ]at hok
 have hmem:∀f∈zI P t,(f.name != "_")=true∧f.offset<xs.length:=fun f hf'=>by
  have:(f.name != "_",f.offset)∈(List.range xs.length).map fun j=>(true,j):=by rw[←hf];exact gx hf'
  obtain⟨j,hj,he⟩:=dE.1 this
  simp only[gE]at he
  exact⟨he.1.symm,by rw[←he.2];exact dG.1 hj⟩
 rw[b4u hu hst (fun f=>yU (xs.getD f.offset undef) (ys.getD f.offset undef)) ?_]
 ·congr 1
  have h1:(zI P t).all (fun f=>yU (xs.getD f.offset undef) (ys.getD f.offset undef))=((zI P t).map fun f=>(f.name != "_",f.offset)).all fun p=>yU (xs.getD p.2 undef) (ys.getD p.2 undef):=by
   rw[List.all_map];rfl
  rw[h1,hf,List.all_map]
  rfl
 ·intro f hf'
  obtain⟨h1,h2⟩:=hmem f hf'
  refine⟨by simpa using h1,?_⟩
  have hx:xs.toArray[f.offset]? =some (xs.getD f.offset undef):=by
   rw[fC,dj,dx h2];rfl
  have hy':ys.toArray[f.offset]? =some (ys.getD f.offset undef):=by
   rw[fC,dj,dx (by omega)];rfl
  rw[iN,c0q (hok f hf') hx,dh,iN,c0q (hok f hf') hy',dh]
  exact eq1 d (hok f hf')
theorem tW{t t2:TypeId}{cx cy:Bool}{xs ys:List Value}(hu:P.underlying t=some (.struct (zI P t).toArray))(hst:P.stoodInHeld t=false)(hg:P.eqGuardType P.depth t=false)
 (hf:((zI P t).map fun f=>(f.name != "_",f.offset))=(List.range xs.length).map fun j=>(true,j)) (hy:ys.length=xs.length)
 (hok:((zI P t).all fun f=>okC P f.type (xs.getD f.offset undef) (ys.getD f.offset undef))=true) (hx:xs.all iZ=true) (hys:ys.all iZ=true):
 kN P .eql t t2 cx cy (.agg xs.toArray) (.agg ys.toArray)=some (.bool ((List.range xs.length).all fun j=>yU (xs.getD j undef) (ys.getD j undef)))∧
 kN P .neq t t2 cx cy (.agg xs.toArray) (.agg ys.toArray)=some (.bool (!((List.range xs.length).all fun j=>yU (xs.getD j undef) (ys.getD j undef)))):=
 ⟨b7c _ hg hx hys (a2r 9998 hu hst hf hy hok),b5A _ hg hx hys (a2r 9998 hu hst hf hy hok)⟩
theorem c1L{t:TypeId}{k:IntKind}(hu:P.underlying t=some (.struct (zI P t).toArray))(hst:P.stoodInHeld t=false)
 (hf:((zI P t).map fun f=>(f.name != "_",f.offset))=(List.range 2).map fun j=>(true,j))
 (hok:∀a b c d:Int,((zI P t).all fun f=>okC P f.type ([Value.int k a,.int k b].getD f.offset undef) ([Value.int k c,.int k d].getD f.offset undef))=true) (a b:Int×Int):
 iP P (Op.equal t (.agg #[.int k a.1,.int k a.2]) (.agg #[.int k b.1,.int k b.2]))=some (decide (b=a)):=by
 have hmd:Op.maxDepth=9998+2:=by decide
 unfold Op.equal
 rw[hmd,a2r (xs:=[.int k a.1,.int k a.2]) (ys:=[.int k b.1,.int k b.2]) 9998 hu hst hf rfl (hok _ _ _ _)]
 congr 1
 show((a.1==b.1)&&((a.2==b.2)&&true))=_
 rw[eu]
 simp only[fL,de,beq_iff_eq,decide_eq_true_eq,Prod.ext_iff]
 constructor
 ·rintro⟨h1,h2⟩;exact⟨h1.symm,h2.symm⟩
 ·rintro⟨h1,h2⟩;exact⟨h1.symm,h2.symm⟩
theorem c1c{k:IntKind}(a:Int×Int):Instr.sameBits 10000 (.agg #[.int k a.1,.int k a.2]) (.agg #[.int k a.1,.int k a.2])=true:=by
 show((2:Nat)==2&&([(Value.int k a.1,Value.int k a.1),(Value.int k a.2,Value.int k a.2)]).all fun(x,y)=>Instr.sameBits 9999 x y)=true
 have h:∀n,Instr.sameBits 9999 (.int k n) (.int k n)=true:=fun n=>by
  show(k==k&&n==n)=true
  cases k<;>simp<;>rfl
 simp[h]
section
variable {H:Heap} {α:Type} {n:Nat} {cel:α→List Value} {v:Value} {xs:List α}
theorem Sl.aP(h:Sl n cel H v xs)(o:Oper)(l:List Value)(H':Heap)(k:IntKind)(a:Int)(K:Value→Heap→Prop)(h0:0<xs.length)(h1:0≤a)(h2:a≤xs.length):
 nO P o l H' (some n) v none (some (.int k a)) K=nH (kS v n 0 a.toNat) fun v=>K v H':=by
 obtain⟨m,rfl⟩:∃m,n=m+1:=⟨n-1,by have:=h.pos;omega⟩
 exact h.rd.aP (jF h.hc xs) o l H' k a K h0 h1 h2
theorem Sl.aD(h:Sl n cel H v xs)(o:Oper)(l:List Value)(H':Heap)(k:IntKind)(a:Int)(K:Value→Heap→Prop)(h0:0<xs.length)(h1:0≤a)(h2:a≤xs.length):
 nO P o l H' (some n) v (some (.int k a)) none K=nH (kS v n a.toNat (xs.length-a).toNat) fun v=>K v H':=by
 obtain⟨m,rfl⟩:∃m,n=m+1:=⟨n-1,by have:=h.pos;omega⟩
 rw[h.rd.aD (jF h.hc xs) o l H' k a K h0 h1 h2]
 congr 2
 omega
theorem Sl.sub(h:Sl n cel H v xs)(lo k:Nat)(hk:lo+k≤xs.length)(h0:0<xs.length):Sl n cel H (kS v n lo k) ((xs.drop lo).take k):=by
 refine⟨?_,h.hc,h.pos⟩
 have hne:xs.flatMap cel≠[]:=fun e=>by
  have:=jF h.hc xs
  rw[e,dZ]at this
  have hp:=ia h0 h.pos
  omega
 have:=h.rd.sub lo k (by rw[jF h.hc,←ft];exact dU _ hk) hne
 rw[tD h.hc,a1w h.hc]at this
 exact this
theorem Sl.cJ(h:Sl n cel H v xs)(k:Nat)(hk:k≤xs.length)(h0:0<xs.length):Sl n cel H (kS v n 0 k) (xs.take k):=by
 simpa using h.sub 0 k (by omega) h0
theorem Sl.bW(h:Sl n cel H v xs)(lo:Nat)(hk:lo≤xs.length)(h0:0<xs.length):Sl n cel H (kS v n lo (xs.length-lo)) (xs.drop lo):=by
 have:=h.sub lo (xs.length-lo) (by omega) h0
 rwa [List.take_of_length_le (by simp)]at this
end
def a9Z(P:Program)(ts:Array TypeId)(ty:TypeId)(cx cy:Bool)(x y:Value):Option Value:=(kT P ⟨none,.call {callee:=.builtin .max,args:=#[oQ cx 0 x,oQ cy 1 y],argTypes:=ts},ty,"",#[],none⟩ [x,y] .nil).map (·.1)
theorem b9C(d:Option Tmp)(ty:TypeId)(pos:String)(af:Array Edge)(g:Option (Nat×Bool))(ts:Array TypeId)(x y:Operand)(l:List Value)(H:Heap)(K:Value→Heap→Prop):
 mD P ⟨d,.call {callee:=.builtin .max,args:=#[x,y],argTypes:=ts},ty,pos,af,g⟩ l H K=jN x l fun x'=>jN y l fun y'=>jT (a9Z P ts ty (lJ x) (lJ y) x' y') fun v=>K v H:=by
 have h:opD P ⟨d,.call {callee:=.builtin .max,args:=#[x,y],argTypes:=ts},ty,pos,af,g⟩ l H=(a9Z P ts ty (lJ x) (lJ y) (ev l x) (ev l y)).map fun v=>(v,H):=
  nE (P:=P) ⟨d,.call {callee:=.builtin .max,args:=#[x,y],argTypes:=ts},ty,pos,af,g⟩ ⟨none,.call {callee:=.builtin .max,args:=#[oQ (lJ x) 0 (ev l x),oQ (lJ y) 1 (ev l y)],argTypes:=ts},ty,"",#[],none⟩ l [ev l x,ev l y] H
   (by cases x<;>cases y<;>rfl) (by cases x<;>cases y<;>kernel_rfl)
 have h2:jZ ((a9Z P ts ty (lJ x) (lJ y) (ev l x) (ev l y)).map fun v=>(v,H)) K=jT (a9Z P ts ty (lJ x) (lJ y) (ev l x) (ev l y)) fun v=>K v H:=by cases a9Z P ts ty (lJ x) (lJ y) (ev l x) (ev l y)<;>rfl
 simp only[mD,h,jN,Op.operands,Call.operands,h2]
 simp[and_assoc]
theorem b7u(ts:Array TypeId)(ty:TypeId)(cx cy:Bool)(a b:Int):a9Z P ts ty cx cy (.int .i64 a) (.int .i64 b)=some (.int .i64 (max a b)):=by
 have h:a9Z P ts ty cx cy (.int .i64 a) (.int .i64 b)=some (.int .i64 (if b>a then b else a)):=by cases cx<;>cases cy<;>kernel_rfl
 rw[h]
 congr 2
 split<;>omega
def a9Y(P:Program)(ts:Array TypeId)(ty:TypeId)(cx cy:Bool)(x y:Value):Option Value:=(kT P ⟨none,.call {callee:=.builtin .min,args:=#[oQ cx 0 x,oQ cy 1 y],argTypes:=ts},ty,"",#[],none⟩ [x,y] .nil).map (·.1)
theorem b9U(d:Option Tmp)(ty:TypeId)(pos:String)(af:Array Edge)(g:Option (Nat×Bool))(ts:Array TypeId)(x y:Operand)(l:List Value)(H:Heap)(K:Value→Heap→Prop):
 mD P ⟨d,.call {callee:=.builtin .min,args:=#[x,y],argTypes:=ts},ty,pos,af,g⟩ l H K=jN x l fun x'=>jN y l fun y'=>jT (a9Y P ts ty (lJ x) (lJ y) x' y') fun v=>K v H:=by
 have h:opD P ⟨d,.call {callee:=.builtin .min,args:=#[x,y],argTypes:=ts},ty,pos,af,g⟩ l H=(a9Y P ts ty (lJ x) (lJ y) (ev l x) (ev l y)).map fun v=>(v,H):=
  nE (P:=P) ⟨d,.call {callee:=.builtin .min,args:=#[x,y],argTypes:=ts},ty,pos,af,g⟩ ⟨none,.call {callee:=.builtin .min,args:=#[oQ (lJ x) 0 (ev l x),oQ (lJ y) 1 (ev l y)],argTypes:=ts},ty,"",#[],none⟩ l [ev l x,ev l y] H
   (by cases x<;>cases y<;>rfl) (by cases x<;>cases y<;>kernel_rfl)
 have h2:jZ ((a9Y P ts ty (lJ x) (lJ y) (ev l x) (ev l y)).map fun v=>(v,H)) K=jT (a9Y P ts ty (lJ x) (lJ y) (ev l x) (ev l y)) fun v=>K v H:=by cases a9Y P ts ty (lJ x) (lJ y) (ev l x) (ev l y)<;>rfl
 simp only[mD,h,jN,Op.operands,Call.operands,h2]
 simp[and_assoc]
theorem b7k(ts:Array TypeId)(ty:TypeId)(cx cy:Bool)(a b:Int):a9Y P ts ty cx cy (.int .i64 a) (.int .i64 b)=some (.int .i64 (min a b)):=by
 have h:a9Y P ts ty cx cy (.int .i64 a) (.int .i64 b)=some (.int .i64 (if b<a then b else a)):=by cases cx<;>cases cy<;>kernel_rfl
 rw[h]
 congr 2
 split<;>omega
section
variable {H:Heap}
def Var(H:Heap)(A n:Nat)(cs:List Value):Prop:=n=cs.length∧∃ty rw lo ver,iT H A=some (.cells cs ty rw lo ver)∧lo≤cs.length
theorem Var.ag{H':Heap}{A n:Nat}{cs:List Value}(h:Var H A n cs)(hk:∀B,B<H.length→iT H' B=iT H B):Var H' A n cs:=by
 obtain⟨h1,ty,rw,lo,ver,h2,h3⟩:=h
 exact⟨h1,ty,rw,lo,ver,by rw[hk A (jP h2),h2],h3⟩
theorem Var.ld{A n:Nat}{cs:List Value}(h:Var H A n cs)(s:Option Nat)(off:Nat):qC (some false) s H (ptr A off n)=cs[off]?:=by
 obtain⟨rfl,ty,rw,lo,ver,h1,h2⟩:=h
 simp only[qC,jK,h1]
 by_cases h:off<cs.length
 ·rw[if_pos (by simp;omega)]
  simp only[dh]
  rw[dR (by omega),dF]
  simp
 ·rw[if_neg (by simp;omega),eZ (by omega)]
  rfl
theorem Var.ae{A n:Nat}{cs:List Value}(h:Var H A n cs)(m off:Nat):qC (some true) (some m) H (ptr A off n)=if off+m≤cs.length then some (.agg ((cs.drop off).take m).toArray)else none:=by
 obtain⟨rfl,ty,rw,lo,ver,h1,h2⟩:=h
 simp only[qC,jK,h1,dh]
 by_cases h:off+m≤cs.length
 ·rw[if_pos (by simp;omega),if_pos h]
  rfl
 ·rw[if_neg (by simp;omega),if_neg h]
  rfl
theorem St.var{P:Program}{H0:Base}{os:List Ob}(hS:St P H0 H os)(i:Nat){A n:Nat}{cs:List Value}(ho:os[i]? =some ⟨ptr A 0 n,0,cs⟩):Var H A n cs:=by
 obtain⟨h1,ty,lo,ver,h2,h3⟩:=hS.cell i ho
 exact⟨h1,ty,true,lo,ver,h2,h3⟩
theorem St.va{H0:Heap}{os:List Ob}(hS:St P H0 H os){A n:Nat}{cs:List Value}(h:Var H0 A n cs):Var H A n cs:=h.ag hS.ag
end
theorem b7T{P:Program}{t:TypeId}{n:Nat}{elem:TypeId}{size:Nat}(ha:P.underlying t=some (.array n elem))(hs:iJ P elem=some size)(A i e:Nat)(k:IntKind)(j:Int)(h0:0≤j)(h1:j<n):
 wG (jB P t) P t (ptr A i e) (.int k j)=some (ptr A (i+j.toNat*size) e):=by
 have hn:jB P t=none:=by simp[jB,iL,ha]
 rw[hn]
 simp only[wG,a1n,ha,ptr,hs,dh]
 rw[if_pos (by simp[h0,h1])]
end
end Go.Ds
namespace Go.Ds
section
variable {P:Program}
structure Perm(π inv:List Nat)(ops:Array Oper):Prop where
 len:π.length=ops.size
 pi:∀i,i<ops.size→π.getD i 0<ops.size
 iv:∀i,i<ops.size→inv.getD i 0<ops.size
 ip:∀i,i<ops.size→inv.getD (π.getD i 0) 0=i
 pv:∀i,i<ops.size→π.getD (inv.getD i 0) 0=i
 edge:∀(i:Nat)(o:Oper),ops[i]? =some o→∀e∈o.after,e.on<ops.size
 guard:∀(i:Nat)(o:Oper)(g:Nat×Bool),ops[i]? =some o→o.guard=some g→g.1<ops.size
variable {π inv:List Nat} {ops:Array Oper}
end
section
variable {P:Program} {H:Heap} {π inv:List Nat} {ops:Array Oper}
def c1S(o:Option Oper)(os:List Oper):List Oper:=match o with|some o=>o::os|none=>os
def sel(os:List Oper):List Nat→List Oper
 | []=>[]
 | i::π=>c1S os[i]? (sel os π)
theorem b9o(os:List Oper):sel os []=[]:=rfl
theorem b3I(os:List Oper)(i:Nat)(π:List Nat):sel os (i::π)=c1S os[i]? (sel os π):=rfl
theorem b1m(o:Oper)(os:List Oper):c1S (some o) os=o::os:=rfl
def a5e(P:Program)(os:List Oper)(tr:List (List Value×Heap×Value))(H1:Heap)(π:List Nat):List (Nat×Nat)→Prop
 | []=>True
 | (p,m)::r=>rdW P os.toArray (os[π.getD p 0]?) tr[p]? (trH tr[m]? H1)∧a5e P os tr H1 π r
theorem a9X(os:List Oper)(tr)(H1:Heap)(π:List Nat):a5e P os tr H1 π []=True:=rfl
theorem a7h(os:List Oper)(tr)(H1:Heap)(π:List Nat)(p m:Nat)(r:List (Nat×Nat)):a5e P os tr H1 π ((p,m)::r)=(rdW P os.toArray (os[π.getD p 0]?) tr[p]? (trH tr[m]? H1)∧a5e P os tr H1 π r):=rfl
end
def RA:=
 And.intro @b8d<|And.intro @b6h<|And.intro @b9n<|And.intro @c1k<|And.intro @c1G<|And.intro @b4v<|And.intro @b9m<|And.intro @c2m<|And.intro @b9T<|And.intro @b7I<|And.intro @b4b<|And.intro @a5L<|And.intro @b2B<|And.intro @b5N<|And.intro @b1Q<|And.intro @a8B<|And.intro @a9w<|And.intro @a6Z<|And.intro @b4M<|And.intro @a9R<|And.intro @b4H<|And.intro @b4m<|And.intro @b1z<|And.intro @b2R<|And.intro @b9u<|And.intro @b3w<|And.intro @a1h<|And.intro @a2J<|And.intro @b0d<|And.intro @b4E<|And.intro @b3v<|And.intro @b8h<|And.intro @a2N<|And.intro @a2G<|And.intro @b7n<|And.intro @c2t<|And.intro @a6O<|And.intro @a6m<|And.intro @b1w<|And.intro @b4p<|And.intro @a5h<|And.intro @a9k<|And.intro @a8m<|And.intro @a9t<|And.intro @a8R<|And.intro @a7B<|And.intro @a2B<|And.intro @a4H<|And.intro @a2l<|And.intro @b3b<|And.intro @b9C<|And.intro @b9U<|And.intro @b4G<|And.intro @a7Y<|And.intro @b1s<|And.intro @b3z<|And.intro @a8F<|And.intro @a9m<|And.intro @a7W<|And.intro @a5X<|And.intro @b5M<|And.intro @b2N<|And.intro @a2H<|And.intro @a9f<|And.intro @a5I<|And.intro @a2M<|And.intro @a7M<|And.intro @a9E<|And.intro @a6q<| @b6d
def RB:=
 And.intro @b9O<|And.intro @a8l<|And.intro @a8x<|And.intro @b2I<|And.intro @a9P<|And.intro @a7N<|And.intro @a6b<|And.intro @b4o<|And.intro @a5Q<|And.intro @a6v<|And.intro @b8H<|And.intro @b1i<|And.intro @a7Z<|And.intro @b7R<|And.intro @b8V<|And.intro @b9e<|And.intro @b8k<|And.intro @a8P<|And.intro @a5E<|And.intro @b8j<|And.intro @c0Y<|And.intro @b4N<|And.intro @a6z<|And.intro @a8Q<|And.intro @b8x<|And.intro @b7O<|And.intro @b3S<|And.intro @b2A<|And.intro @b3p<|And.intro @b2l<|And.intro @b2V<|And.intro @b1r<|And.intro @b2k<|And.intro @b2Y<|And.intro @b2d<|And.intro @b2f<|And.intro @b2t<|And.intro @b2o<|And.intro @b1n<|And.intro @b6k<|And.intro @b1W<|And.intro @a5r<|And.intro @b1q<|And.intro @b3x<|And.intro @b1v<|And.intro @b2w<|And.intro @b1J<|And.intro @b5K<|And.intro @b3Y<|And.intro @b6s<|And.intro @b8E<|And.intro @b3W<|And.intro @a6u<|And.intro @a9I<|And.intro @a8t<|And.intro @b9J<|And.intro @b4U<|And.intro @a6k<|And.intro @b5J<|And.intro @b6l<|And.intro @b2Q<|And.intro @a8u<|And.intro @b5y<|And.intro @b2Z<|And.intro @a9s<|And.intro @b2u<|And.intro @b5F<|And.intro @a9C<|And.intro @b3t<|And.intro @b1T<|And.intro @a8I<|And.intro @b3g<|And.intro @a9Q<|And.intro @b9o<|And.intro @b3I<|And.intro @b1m<|And.intro @a9X<|And.intro @a7h<|And.intro @b9x<|And.intro @b3L<|And.intro @b2b<|And.intro @b7h<|And.intro @b5z<|And.intro @b3q<|And.intro @b6X<|And.intro @b2q<|And.intro @a5o<|And.intro @a9B<|And.intro @a7n<|And.intro @a9A<|And.intro @a9V<|And.intro @b6E<|And.intro @b7y<|And.intro @b3y<|And.intro @b5o<|And.intro @a5U<|And.intro @a4d<|And.intro @a6h<|And.intro @a6a<|And.intro @a5T<|And.intro @c3D<|And.intro @c4q<|And.intro @b8g<|And.intro @b8v<|And.intro @b7u<|And.intro @b7k<|And.intro @b3R<|And.intro @a8r<|And.intro @b7M<|And.intro @b6m<|And.intro @b7E<|And.intro @qS<|And.intro @b6t<|And.intro @b7t<| @b9H
theorem RT:
 (∀{α:Type}(l:List α),[]++l=l)∧
 (∀{α:Type}(l:List α),l++[]=l)∧
 (∀{α:Type}{a:α}{l m:List α},a::l++m=a::(l++m))∧
 (∀(cs:List Value)(i:Nat)(v:Value)(vs:List Value),jC cs i (v::vs)=jC (cs.set i v) (i+1) vs)∧
 (∀(cs:List Value)(i:Nat),jC cs i []=cs)∧
 (∀{α:Type}{x:α}{xs:List α}{a:α},(x::xs).set 0 a=a::xs)∧
 (∀{α:Type}{x:α}{xs:List α}{i:Nat}{a:α},(x::xs).set (i+1) a=x::xs.set i a)∧
 (∀(n:Nat),0+n=n)∧
 (∀(n:Nat),n*1=n)∧
 (∀(n:Nat),n+0=n):=
 ⟨@List.nil_append, @List.append_nil, @List.cons_append, @qJ, @uI, @List.set_cons_zero, @List.set_cons_succ, @Nat.zero_add, @Nat.mul_one, @Nat.add_zero⟩
end Go.Ds
namespace Go.Ds
open Go.Proofs Go.Proofs.Tryz
abbrev I(n:Int):Value:=.int .i64 n
theorem sR(H:Heap):St prog H H []:=.refl ..
theorem kJ:prog.follows .mixedOrders=true:=by kernel_rfl
theorem a2c(place:Nat→Option (Nat×Nat)):∀(ps ps':List (Nat×Value))(cs:Array Value),ps.map (fun x=>(x.1,x.2.cells))=ps'.map (fun x=>(x.1,x.2.cells))→Instr.fill place cs ps=Instr.fill place cs ps'
 | [],[],_,_=>rfl
 | [],_::_,_,h=>by cases h
 | _::_,[],_,h=>by cases h
 | (i,a)::ps,(j,b)::ps',cs,h=>by
   simp only[dY,fi,gE]at h
   obtain⟨⟨rfl,h1⟩,h2⟩:=h
   simp only[Instr.fill,h1]
   split
   ·rfl
   ·split
    ·rfl
    ·exact a2c place ps ps' _ h2
theorem vG(a:Array Value):Value.cells (.agg a)=a:=rfl
theorem vD(k:IntKind)(a:Int):Value.cells (.int k a)=#[.int k a]:=rfl
theorem b4l(a:ByteArray):oneCell (.string a)=true:=rfl
theorem b4d(k:IntKind)(a:Int):oneCell (.int k a)=true:=rfl
theorem b0E(a:Bool):oneCell (.bool a)=true:=rfl
theorem a3z{P:Program}{t:TypeId}{ps ps':List (Nat×Value)}{cs:Array Value}(hz:(jG P t).any jJ=true)(hm:ps.map (fun x=>(x.1,x.2.cells))=ps'.map (fun x=>(x.1,x.2.cells)))(ho:(ps.all fun x=>x.2.cells.toList.all oneCell)=true)(hb:P.built t ps'=some cs):kK P t ps=some (.agg cs):=by
 have e:P.built t ps=P.built t ps':=by
  unfold Program.built
  simp only[a2c _ ps ps' _ hm]
 unfold kK
 rw[hz,ho,e,hb]
 rfl
theorem tS3:iJ prog 3=some 1:=by kernel_rfl
theorem tS4:iJ prog 4=some 1:=by kernel_rfl
theorem lG:iJ prog 23=some 2:=by kernel_rfl
theorem b4P:iJ prog 24=some 1:=by kernel_rfl
theorem nP:iJ prog 26=some 6:=by kernel_rfl
theorem a5Y:iJ prog 46=some 4:=by kernel_rfl
theorem c1X:iJ prog 48=some 1:=by kernel_rfl
theorem c2I:iJ prog 50=some 3:=by kernel_rfl
theorem wH:iJ prog 54=some 2:=by kernel_rfl
theorem rQ:iJ prog 56=some 10:=by kernel_rfl
theorem a7F:iJ prog 63=some 3:=by kernel_rfl
theorem pA:iJ prog 73=some 2:=by kernel_rfl
theorem c2j:iJ prog 75=some 1:=by kernel_rfl
theorem sG:iJ prog 102=some 2:=by kernel_rfl
theorem rF:iJ prog 105=some 5:=by kernel_rfl
theorem b5B:iJ prog 119=some 2:=by kernel_rfl
theorem a0A:iJ prog 121=some 6:=by kernel_rfl
theorem a3I:iJ prog 129=some 4:=by kernel_rfl
theorem a0G:iJ prog 131=some 5:=by kernel_rfl
theorem c0t:iJ prog 139=some 13:=by kernel_rfl
theorem a0F:iJ prog 176=some 2:=by kernel_rfl
theorem a2s:iJ prog 179=some 3:=by kernel_rfl
theorem b0T:iJ prog 240=some 3:=by kernel_rfl
theorem c3K(A i e:Nat)(k:IntKind)(j:Int)(h0:0≤j)(h1:j<64):wG (jB prog 294) prog 294 (ptr A i e) (.int k j)=some (ptr A (i+j.toNat*1) e):=b7T (n:=64) (elem:=5) (size:=1) (by kernel_rfl) (by kernel_rfl) A i e k j h0 h1
theorem pZ:nF prog 24=some (1,8):=by kernel_rfl
theorem wS:((iL prog 24).bind (jG prog)).any jJ=true:=by kernel_rfl
theorem b1l:nF prog 40=some (3,24):=by kernel_rfl
theorem c1K:((iL prog 40).bind (jG prog)).any jJ=true:=by kernel_rfl
theorem c5b:nF prog 42=some (6,80):=by kernel_rfl
theorem c4T:((iL prog 42).bind (jG prog)).any jJ=true:=by kernel_rfl
theorem c5v:nF prog 43=some (5,64):=by kernel_rfl
theorem c4U:((iL prog 43).bind (jG prog)).any jJ=true:=by kernel_rfl
theorem c4K:nF prog 44=some (5,48):=by kernel_rfl
theorem c5A:((iL prog 44).bind (jG prog)).any jJ=true:=by kernel_rfl
theorem c5V:nF prog 47=some (1,8):=by kernel_rfl
theorem c5j:((iL prog 47).bind (jG prog)).any jJ=true:=by kernel_rfl
theorem c5Y:nF prog 52=some (2,16):=by kernel_rfl
theorem c5E:((iL prog 52).bind (jG prog)).any jJ=true:=by kernel_rfl
theorem b8C:nF prog 75=some (6,64):=by kernel_rfl
theorem c3A:((iL prog 75).bind (jG prog)).any jJ=true:=by kernel_rfl
theorem c2D:nF prog 97=some (2,16):=by kernel_rfl
theorem c4V:((iL prog 97).bind (jG prog)).any jJ=true:=by kernel_rfl
theorem c4g:nF prog 103=some (4,56):=by kernel_rfl
theorem c2P:((iL prog 103).bind (jG prog)).any jJ=true:=by kernel_rfl
theorem b6S:nF prog 124=some (1,16):=by kernel_rfl
theorem c0I:((iL prog 124).bind (jG prog)).any jJ=true:=by kernel_rfl
theorem c0z:nF prog 126=some (2,16):=by kernel_rfl
theorem c3g:((iL prog 126).bind (jG prog)).any jJ=true:=by kernel_rfl
theorem c4n:nF prog 127=some (3,40):=by kernel_rfl
theorem c4m:((iL prog 127).bind (jG prog)).any jJ=true:=by kernel_rfl
theorem tH:nF prog 140=some (2,16):=by kernel_rfl
theorem a7u:((iL prog 140).bind (jG prog)).any jJ=true:=by kernel_rfl
theorem b0g:nF prog 154=some (1,24):=by kernel_rfl
theorem c0p:((iL prog 154).bind (jG prog)).any jJ=true:=by kernel_rfl
theorem c4p:nF prog 177=some (2,16):=by kernel_rfl
theorem c2N:((iL prog 177).bind (jG prog)).any jJ=true:=by kernel_rfl
theorem c4L:c0U prog 24=some (8,.int .i64 0):=by kernel_rfl
theorem c3r(t2:TypeId)(cx cy:Bool)(a0:Int)(a1:Int)(b0:Int)(b1:Int):kN prog .eql 23 t2 cx cy (.agg #[.int .i64 a0,.int .i64 a1]) (.agg #[.int .i64 b0,.int .i64 b1])=some (.bool (decide (a0=b0∧a1=b1)))∧kN prog .neq 23 t2 cx cy (.agg #[.int .i64 a0,.int .i64 a1]) (.agg #[.int .i64 b0,.int .i64 b1])=some (.bool (decide (¬(a0=b0∧a1=b1)))):=by
 have h:=tW (P:=prog) (t:=23) (t2:=t2) (cx:=cx) (cy:=cy) (xs:=[.int .i64 a0,.int .i64 a1]) (ys:=[.int .i64 b0,.int .i64 b1]) (by kernel_rfl) (by kernel_rfl) (by kernel_rfl) (by kernel_rfl) rfl (by kernel_rfl) rfl rfl
 have e:((List.range [Value.int .i64 a0,.int .i64 a1].length).all fun j=>yU ([Value.int .i64 a0,.int .i64 a1].getD j undef) ([Value.int .i64 b0,.int .i64 b1].getD j undef))=decide (a0=b0∧a1=b1):=by
  show(yU (Value.int .i64 a0) (.int .i64 b0)&&(yU (Value.int .i64 a1) (.int .i64 b1)&&true))=_
  rw[eu]
  simp[yU]
 rw[e]at h
 exact⟨h.1,by rw[h.2];simp⟩
theorem c2J(t2:TypeId)(cx cy:Bool)(a0:Int)(a1:Int)(b0:Int)(b1:Int):kN prog .eql 23 t2 cx cy (.agg #[.int .i64 a0,.int .i64 a1]) (.agg #[.int .i64 b0,.int .i64 b1])=some (.bool (decide (a0=b0∧a1=b1))):=(c3r t2 cx cy a0 a1 b0 b1).1
theorem c2C(t2:TypeId)(cx cy:Bool)(a0:Int)(a1:Int)(b0:Int)(b1:Int):kN prog .neq 23 t2 cx cy (.agg #[.int .i64 a0,.int .i64 a1]) (.agg #[.int .i64 b0,.int .i64 b1])=some (.bool (decide (¬(a0=b0∧a1=b1)))):=(c3r t2 cx cy a0 a1 b0 b1).2
theorem c2V(t2:TypeId)(cx cy:Bool)(a0:Int)(a1:Int)(b0:Int)(b1:Int):kN prog .eql 54 t2 cx cy (.agg #[.int .i64 a0,.int .i64 a1]) (.agg #[.int .i64 b0,.int .i64 b1])=some (.bool (decide (a0=b0∧a1=b1)))∧kN prog .neq 54 t2 cx cy (.agg #[.int .i64 a0,.int .i64 a1]) (.agg #[.int .i64 b0,.int .i64 b1])=some (.bool (decide (¬(a0=b0∧a1=b1)))):=by
 have h:=tW (P:=prog) (t:=54) (t2:=t2) (cx:=cx) (cy:=cy) (xs:=[.int .i64 a0,.int .i64 a1]) (ys:=[.int .i64 b0,.int .i64 b1]) (by kernel_rfl) (by kernel_rfl) (by kernel_rfl) (by kernel_rfl) rfl (by kernel_rfl) rfl rfl
 have e:((List.range [Value.int .i64 a0,.int .i64 a1].length).all fun j=>yU ([Value.int .i64 a0,.int .i64 a1].getD j undef) ([Value.int .i64 b0,.int .i64 b1].getD j undef))=decide (a0=b0∧a1=b1):=by
  show(yU (Value.int .i64 a0) (.int .i64 b0)&&(yU (Value.int .i64 a1) (.int .i64 b1)&&true))=_
  rw[eu]
  simp[yU]
 rw[e]at h
 exact⟨h.1,by rw[h.2];simp⟩
theorem c3M(t2:TypeId)(cx cy:Bool)(a0:Int)(a1:Int)(b0:Int)(b1:Int):kN prog .eql 54 t2 cx cy (.agg #[.int .i64 a0,.int .i64 a1]) (.agg #[.int .i64 b0,.int .i64 b1])=some (.bool (decide (a0=b0∧a1=b1))):=(c2V t2 cx cy a0 a1 b0 b1).1
theorem c3y(t2:TypeId)(cx cy:Bool)(a0:Int)(a1:Int)(b0:Int)(b1:Int):kN prog .neq 54 t2 cx cy (.agg #[.int .i64 a0,.int .i64 a1]) (.agg #[.int .i64 b0,.int .i64 b1])=some (.bool (decide (¬(a0=b0∧a1=b1)))):=(c2V t2 cx cy a0 a1 b0 b1).2
theorem c4h(t2:TypeId)(cx cy:Bool)(a0:Int)(a1:Int)(a2:Int)(b0:Int)(b1:Int)(b2:Int):kN prog .eql 63 t2 cx cy (.agg #[.int .i64 a0,.int .i64 a1,.int .i64 a2]) (.agg #[.int .i64 b0,.int .i64 b1,.int .i64 b2])=some (.bool (decide (a0=b0∧a1=b1∧a2=b2)))∧kN prog .neq 63 t2 cx cy (.agg #[.int .i64 a0,.int .i64 a1,.int .i64 a2]) (.agg #[.int .i64 b0,.int .i64 b1,.int .i64 b2])=some (.bool (decide (¬(a0=b0∧a1=b1∧a2=b2)))):=by
 have h:=tW (P:=prog) (t:=63) (t2:=t2) (cx:=cx) (cy:=cy) (xs:=[.int .i64 a0,.int .i64 a1,.int .i64 a2]) (ys:=[.int .i64 b0,.int .i64 b1,.int .i64 b2]) (by kernel_rfl) (by kernel_rfl) (by kernel_rfl) (by kernel_rfl) rfl (by kernel_rfl) rfl rfl
 have e:((List.range [Value.int .i64 a0,.int .i64 a1,.int .i64 a2].length).all fun j=>yU ([Value.int .i64 a0,.int .i64 a1,.int .i64 a2].getD j undef) ([Value.int .i64 b0,.int .i64 b1,.int .i64 b2].getD j undef))=decide (a0=b0∧a1=b1∧a2=b2):=by
  show(yU (Value.int .i64 a0) (.int .i64 b0)&&(yU (Value.int .i64 a1) (.int .i64 b1)&&(yU (Value.int .i64 a2) (.int .i64 b2)&&true)))=_
  rw[eu]
  simp[yU]
 rw[e]at h
 exact⟨h.1,by rw[h.2];simp⟩
theorem c2L(t2:TypeId)(cx cy:Bool)(a0:Int)(a1:Int)(a2:Int)(b0:Int)(b1:Int)(b2:Int):kN prog .eql 63 t2 cx cy (.agg #[.int .i64 a0,.int .i64 a1,.int .i64 a2]) (.agg #[.int .i64 b0,.int .i64 b1,.int .i64 b2])=some (.bool (decide (a0=b0∧a1=b1∧a2=b2))):=(c4h t2 cx cy a0 a1 a2 b0 b1 b2).1
theorem c2Y(t2:TypeId)(cx cy:Bool)(a0:Int)(a1:Int)(a2:Int)(b0:Int)(b1:Int)(b2:Int):kN prog .neq 63 t2 cx cy (.agg #[.int .i64 a0,.int .i64 a1,.int .i64 a2]) (.agg #[.int .i64 b0,.int .i64 b1,.int .i64 b2])=some (.bool (decide (¬(a0=b0∧a1=b1∧a2=b2)))):=(c4h t2 cx cy a0 a1 a2 b0 b1 b2).2
theorem c3h(t2:TypeId)(cx cy:Bool)(a0:Int)(a1:Int)(b0:Int)(b1:Int):kN prog .eql 73 t2 cx cy (.agg #[.int .u64 a0,.int .u64 a1]) (.agg #[.int .u64 b0,.int .u64 b1])=some (.bool (decide (a0=b0∧a1=b1)))∧kN prog .neq 73 t2 cx cy (.agg #[.int .u64 a0,.int .u64 a1]) (.agg #[.int .u64 b0,.int .u64 b1])=some (.bool (decide (¬(a0=b0∧a1=b1)))):=by
 have h:=tW (P:=prog) (t:=73) (t2:=t2) (cx:=cx) (cy:=cy) (xs:=[.int .u64 a0,.int .u64 a1]) (ys:=[.int .u64 b0,.int .u64 b1]) (by kernel_rfl) (by kernel_rfl) (by kernel_rfl) (by kernel_rfl) rfl (by kernel_rfl) rfl rfl
 have e:((List.range [Value.int .u64 a0,.int .u64 a1].length).all fun j=>yU ([Value.int .u64 a0,.int .u64 a1].getD j undef) ([Value.int .u64 b0,.int .u64 b1].getD j undef))=decide (a0=b0∧a1=b1):=by
  show(yU (Value.int .u64 a0) (.int .u64 b0)&&(yU (Value.int .u64 a1) (.int .u64 b1)&&true))=_
  rw[eu]
  simp[yU]
 rw[e]at h
 exact⟨h.1,by rw[h.2];simp⟩
theorem c2Z(t2:TypeId)(cx cy:Bool)(a0:Int)(a1:Int)(b0:Int)(b1:Int):kN prog .eql 73 t2 cx cy (.agg #[.int .u64 a0,.int .u64 a1]) (.agg #[.int .u64 b0,.int .u64 b1])=some (.bool (decide (a0=b0∧a1=b1))):=(c3h t2 cx cy a0 a1 b0 b1).1
theorem c2G(t2:TypeId)(cx cy:Bool)(a0:Int)(a1:Int)(b0:Int)(b1:Int):kN prog .neq 73 t2 cx cy (.agg #[.int .u64 a0,.int .u64 a1]) (.agg #[.int .u64 b0,.int .u64 b1])=some (.bool (decide (¬(a0=b0∧a1=b1)))):=(c3h t2 cx cy a0 a1 b0 b1).2
theorem c0C(t2:TypeId)(cx cy:Bool)(a0:Int)(a1:Int)(b0:Int)(b1:Int):kN prog .eql 176 t2 cx cy (.agg #[.int .i64 a0,.int .i64 a1]) (.agg #[.int .i64 b0,.int .i64 b1])=some (.bool (decide (a0=b0∧a1=b1)))∧kN prog .neq 176 t2 cx cy (.agg #[.int .i64 a0,.int .i64 a1]) (.agg #[.int .i64 b0,.int .i64 b1])=some (.bool (decide (¬(a0=b0∧a1=b1)))):=by
 have h:=tW (P:=prog) (t:=176) (t2:=t2) (cx:=cx) (cy:=cy) (xs:=[.int .i64 a0,.int .i64 a1]) (ys:=[.int .i64 b0,.int .i64 b1]) (by kernel_rfl) (by kernel_rfl) (by kernel_rfl) (by kernel_rfl) rfl (by kernel_rfl) rfl rfl
 have e:((List.range [Value.int .i64 a0,.int .i64 a1].length).all fun j=>yU ([Value.int .i64 a0,.int .i64 a1].getD j undef) ([Value.int .i64 b0,.int .i64 b1].getD j undef))=decide (a0=b0∧a1=b1):=by
  show(yU (Value.int .i64 a0) (.int .i64 b0)&&(yU (Value.int .i64 a1) (.int .i64 b1)&&true))=_
  rw[eu]
  simp[yU]
 rw[e]at h
 exact⟨h.1,by rw[h.2];simp⟩
theorem c1n(t2:TypeId)(cx cy:Bool)(a0:Int)(a1:Int)(b0:Int)(b1:Int):kN prog .eql 176 t2 cx cy (.agg #[.int .i64 a0,.int .i64 a1]) (.agg #[.int .i64 b0,.int .i64 b1])=some (.bool (decide (a0=b0∧a1=b1))):=(c0C t2 cx cy a0 a1 b0 b1).1
theorem c1P(t2:TypeId)(cx cy:Bool)(a0:Int)(a1:Int)(b0:Int)(b1:Int):kN prog .neq 176 t2 cx cy (.agg #[.int .i64 a0,.int .i64 a1]) (.agg #[.int .i64 b0,.int .i64 b1])=some (.bool (decide (¬(a0=b0∧a1=b1)))):=(c0C t2 cx cy a0 a1 b0 b1).2
theorem c3C:kK prog 23 []=some (.agg #[.int .i64 0,.int .i64 0]):=by kernel_rfl
theorem xN{a1:Int}{a2:Int}:kK prog 23 [(0,.int .i64 a1),(1,.int .i64 a2)]=some (.agg #[.int .i64 a1,.int .i64 a2]):=by kernel_rfl
theorem c0B:kK prog 26 []=some (.agg #[.int .i64 0,.int .i64 0,.slice none 0 0,.int .i64 0,.int .i64 0,.int .i64 0]):=by kernel_rfl
theorem a8f{a1:Int}{a2:Int}{a3:Value}{a4:Int}{a5:Int}(h3:a3.cells=#[a3]∧oneCell a3=true∧mK a3=true):kK prog 26 [(0,.agg #[.int .i64 a1,.int .i64 a2]),(1,a3),(2,.agg #[.int .i64 a4,.int .i64 a5])]=some (.agg #[.int .i64 a1,.int .i64 a2,a3,.int .i64 a4,.int .i64 a5,.int .i64 0]):=by cases a3<;>first|(exfalso;simp[oneCell]at h3;done)|kernel_rfl
theorem a6l{a1:Int}{a2:Int}{a3:Int}{a4:Int}:kK prog 26 [(0,.agg #[.int .i64 a1,.int .i64 a2]),(2,.agg #[.int .i64 a3,.int .i64 a4])]=some (.agg #[.int .i64 a1,.int .i64 a2,.slice none 0 0,.int .i64 a3,.int .i64 a4,.int .i64 0]):=by kernel_rfl
theorem a4b{a1:ByteArray}{a2:Value}{a3:Value}{a4:Value}(h2:a2.cells=#[a2]∧oneCell a2=true∧mK a2=true)(h3:a3.cells=#[a3]∧oneCell a3=true∧mK a3=true)(h4:a4.cells=#[a4]∧oneCell a4=true∧mK a4=true):kK prog 46 [(0,.string a1),(1,a2),(2,a3),(3,a4)]=some (.agg #[.string a1,a2,a3,a4]):=by cases a2<;>cases a3<;>cases a4<;>first|(exfalso;simp[oneCell]at h2;done)|(exfalso;simp[oneCell]at h3;done)|(exfalso;simp[oneCell]at h4;done)|kernel_rfl
theorem b4h{a1:Value}{a2:Int}(h1:a1.cells=#[a1]∧oneCell a1=true∧mK a1=true):kK prog 50 [(0,a1),(1,.int .u64 a2)]=some (.agg #[a1,.int .u64 a2,.int .u64 0]):=by cases a1<;>first|(exfalso;simp[oneCell]at h1;done)|kernel_rfl
theorem c0i:kK prog 54 []=some (.agg #[.int .i64 0,.int .i64 0]):=by kernel_rfl
theorem a5t{a1:Int}{a2:Int}:kK prog 54 [(0,.int .i64 a1),(1,.int .i64 a2)]=some (.agg #[.int .i64 a1,.int .i64 a2]):=by kernel_rfl
theorem a4e{a1:ByteArray}{a2:Value}{a3:Value}{a4:Value}{a5:Value}{a6:Int}{a7:Int}{a8:Value}{a9:Int}{a10:Int}(h2:a2.cells=#[a2]∧oneCell a2=true∧mK a2=true)(h3:a3.cells=#[a3]∧oneCell a3=true∧mK a3=true)(h4:a4.cells=#[a4]∧oneCell a4=true∧mK a4=true)(h5:a5.cells=#[a5]∧oneCell a5=true∧mK a5=true)(h8:a8.cells=#[a8]∧oneCell a8=true∧mK a8=true):kK prog 56 [(0,.agg #[.string a1,a2,a3,a4]),(1,.agg #[a5,.int .u64 a6,.int .u64 a7]),(2,a8),(3,.agg #[.int .i64 a9,.int .i64 a10])]=some (.agg #[.string a1,a2,a3,a4,a5,.int .u64 a6,.int .u64 a7,a8,.int .i64 a9,.int .i64 a10]):=a3z (ps':=[(0,.agg #[.string a1,a2,a3,a4]),(1,.agg #[a5,.int .u64 a6,.int .u64 a7]),(2,.agg #[a8]),(3,.agg #[.int .i64 a9,.int .i64 a10])]) (by kernel_rfl) (by simp[vG,vD,h2.1,h3.1,h4.1,h5.1,h8.1]) (by simp[vG,vD,b4l,b4d,b0E,h2.1,h2.2.1,h3.1,h3.2.1,h4.1,h4.2.1,h5.1,h5.2.1,h8.1,h8.2.1]) (by kernel_rfl)
theorem b7o{a1:Int}{a2:Int}:kK prog 63 [(0,.int .i64 a1),(1,.int .i64 a2)]=some (.agg #[.int .i64 a1,.int .i64 a2,.int .i64 0]):=by kernel_rfl
theorem a8d{a1:Int}{a2:Int}{a3:Int}:kK prog 63 [(0,.int .i64 a1),(1,.int .i64 a2),(2,.int .i64 a3)]=some (.agg #[.int .i64 a1,.int .i64 a2,.int .i64 a3]):=by kernel_rfl
theorem b5s{a1:Int}{a2:Int}:kK prog 63 [(0,.int .i64 a1),(2,.int .i64 a2)]=some (.agg #[.int .i64 a1,.int .i64 0,.int .i64 a2]):=by kernel_rfl
theorem c0H:kK prog 73 []=some (.agg #[.int .u64 0,.int .u64 0]):=by kernel_rfl
theorem b5O{a1:Int}{a2:Int}:kK prog 73 [(0,.int .u64 a1),(1,.int .u64 a2)]=some (.agg #[.int .u64 a1,.int .u64 a2]):=by kernel_rfl
theorem b1N{a1:Int}{a2:Int}:kK prog 102 [(0,.int .i64 a1),(1,.int .i64 a2)]=some (.agg #[.int .i64 a1,.int .i64 a2]):=by kernel_rfl
theorem a7G{a1:ByteArray}{a2:Int}{a3:Int}{a4:Value}(h4:a4.cells=#[a4]∧oneCell a4=true∧mK a4=true):kK prog 105 [(0,.string a1),(2,.agg #[.int .i64 a2,.int .i64 a3]),(3,a4)]=some (.agg #[.string a1,.bool false,.int .i64 a2,.int .i64 a3,a4]):=by cases a4<;>first|(exfalso;simp[oneCell]at h4;done)|kernel_rfl
theorem a3n{a1:Int}{a2:Int}:kK prog 119 [(0,.int .i64 a1),(1,.int .i64 a2)]=some (.agg #[.int .i64 a1,.int .i64 a2]):=by kernel_rfl
theorem a0Q{a1:ByteArray}{a2:ByteArray}{a3:Int}{a4:Int}{a5:Int}{a6:Value}(h6:a6.cells=#[a6]∧oneCell a6=true∧mK a6=true):kK prog 121 [(0,.string a1),(1,.string a2),(2,.agg #[.int .i64 a3,.int .i64 a4]),(3,.int .i64 a5),(4,a6)]=some (.agg #[.string a1,.string a2,.int .i64 a3,.int .i64 a4,.int .i64 a5,a6]):=by cases a6<;>first|(exfalso;simp[oneCell]at h6;done)|kernel_rfl
theorem a6f{a1:ByteArray}{a2:Int}{a3:Int}{a4:Value}(h4:a4.cells=#[a4]∧oneCell a4=true∧mK a4=true):kK prog 129 [(0,.string a1),(1,.agg #[.int .i64 a2,.int .i64 a3]),(2,a4)]=some (.agg #[.string a1,.int .i64 a2,.int .i64 a3,a4]):=by cases a4<;>first|(exfalso;simp[oneCell]at h4;done)|kernel_rfl
theorem a6g{a1:ByteArray}{a2:Int}{a3:Int}:kK prog 131 [(0,.string a1),(1,.int .i64 a2),(2,.int .i64 a3)]=some (.agg #[.string a1,.int .i64 a2,.int .i64 a3,.int .i64 0,.bool false]):=by kernel_rfl
theorem b3A{a1:ByteArray}{a2:Value}{a3:Value}{a4:Value}{a5:Value}{a6:Int}{a7:Int}{a8:Value}{a9:Int}{a10:Int}{a11:Value}(h2:a2.cells=#[a2]∧oneCell a2=true∧mK a2=true)(h3:a3.cells=#[a3]∧oneCell a3=true∧mK a3=true)(h4:a4.cells=#[a4]∧oneCell a4=true∧mK a4=true)(h5:a5.cells=#[a5]∧oneCell a5=true∧mK a5=true)(h8:a8.cells=#[a8]∧oneCell a8=true∧mK a8=true)(h11:a11.cells=#[a11]∧oneCell a11=true∧mK a11=true):kK prog 139 [(0,.agg #[.string a1,a2,a3,a4,a5,.int .u64 a6,.int .u64 a7,a8,.int .i64 a9,.int .i64 a10]),(1,a11)]=some (.agg #[.string a1,a2,a3,a4,a5,.int .u64 a6,.int .u64 a7,a8,.int .i64 a9,.int .i64 a10,a11,.slice none 0 0,.bool false]):=a3z (ps':=[(0,.agg #[.string a1,a2,a3,a4,a5,.int .u64 a6,.int .u64 a7,a8,.int .i64 a9,.int .i64 a10]),(1,.agg #[a11])]) (by kernel_rfl) (by simp[vG,vD,h2.1,h3.1,h4.1,h5.1,h8.1,h11.1]) (by simp[vG,vD,b4l,b4d,b0E,h2.1,h2.2.1,h3.1,h3.2.1,h4.1,h4.2.1,h5.1,h5.2.1,h8.1,h8.2.1,h11.1,h11.2.1]) (by kernel_rfl)
theorem b9s{a1:Int}:kK prog 176 [(0,.int .i64 a1)]=some (.agg #[.int .i64 a1,.int .i64 0]):=by kernel_rfl
theorem c1x:kK prog 179 []=some (.agg #[.int .i64 0,.int .i64 0,.slice none 0 0]):=by kernel_rfl
theorem a6D{a1:Int}{a2:Int}{a3:Value}(h3:a3.cells=#[a3]∧oneCell a3=true∧mK a3=true):kK prog 179 [(0,.int .i64 a1),(1,.int .i64 a2),(2,a3)]=some (.agg #[.int .i64 a1,.int .i64 a2,a3]):=by cases a3<;>first|(exfalso;simp[oneCell]at h3;done)|kernel_rfl
theorem b2U{a1:Value}{a2:Int}{a3:Int}(h1:a1.cells=#[a1]∧oneCell a1=true∧mK a1=true):kK prog 240 [(0,a1),(1,.agg #[.int .i64 a2,.int .i64 a3])]=some (.agg #[a1,.int .i64 a2,.int .i64 a3]):=by cases a1<;>first|(exfalso;simp[oneCell]at h1;done)|kernel_rfl
theorem b3c{a1:Int}{a2:Int}:kK prog 267 [(0,.int .u64 a1),(1,.int .u64 a2)]=some (.agg #[.int .u64 a1,.int .u64 a2]):=by kernel_rfl
theorem tR3(l:List Value)(H:Heap):iI prog Tryz.f3 l H=some (get l 4):=rfl
theorem c5P(l:List Value)(H:Heap):iI prog Tryz.f10 l H=some (get l 0):=rfl
theorem c4P(l:List Value)(H:Heap):iI prog Tryz.f11 l H=some (get l 4):=rfl
theorem c0S(l:List Value)(H:Heap):iI prog Tryz.f12 l H=some (get l 4):=rfl
theorem a9H(l:List Value)(H:Heap):iI prog Tryz.f20 l H=some (get l 2):=rfl
theorem c1D(l:List Value)(H:Heap):iI prog Tryz.f21 l H=if(jL (get l 2)&&(jL (get l 3)&&true))=true then some (.tuple #[get l 2,get l 3])else none:=rfl
theorem c3o(l:List Value)(H:Heap):iI prog Tryz.f22 l H=(qC (kH prog 26) (iJ prog 26) H (get l 2)).bind fun v=>if(jL v&&(jL (get l 3)&&(jL (get l 4)&&true)))=true then some (.tuple #[v,get l 3,get l 4])else none:=by
 show(Option.bind (Option.bind (mJ prog H 26 (get l 2)) fun v=>some [v,get l 3,get l 4]) fun vs=>_)=_
 rw[mE]
 cases qC _ _ H (get l 2)<;>rfl
theorem c2W(l:List Value)(H:Heap):iI prog Tryz.f23 l H=if(jL (get l 4)&&(jL (get l 5)&&true))=true then some (.tuple #[get l 4,get l 5])else none:=rfl
theorem c0a(l:List Value)(H:Heap):iI prog Tryz.f26 l H=if(jL (get l 2)&&(jL (get l 3)&&(jL (get l 4)&&true)))=true then some (.tuple #[get l 2,get l 3,get l 4])else none:=rfl
theorem a7P(l:List Value)(H:Heap):iI prog Tryz.f28 l H=some (get l 4):=rfl
theorem c4M(l:List Value)(H:Heap):iI prog Tryz.f38 l H=qC (kH prog 56) (iJ prog 56) H (get l 0):=by
 show(Option.bind (Option.bind (mJ prog H 56 (get l 0)) fun v=>some [v]) fun vs=>_)=_
 rw[mE]
 cases qC _ _ H (get l 0)<;>rfl
theorem c2F(l:List Value)(H:Heap):iI prog Tryz.f39 l H=some (get l 2):=rfl
theorem c2l(l:List Value)(H:Heap):iI prog Tryz.f40 l H=some (get l 4):=rfl
theorem c5U(l:List Value)(H:Heap):iI prog Tryz.f41 l H=some (get l 4):=rfl
theorem b7U(l:List Value)(H:Heap):iI prog Tryz.f42 l H=some (get l 4):=rfl
theorem c1u(l:List Value)(H:Heap):iI prog Tryz.f46 l H=some (get l 4):=rfl
theorem a2P(l:List Value)(H:Heap):iI prog Tryz.f47 l H=some (get l 2):=rfl
theorem b1S(l:List Value)(H:Heap):iI prog Tryz.f48 l H=some (get l 4):=rfl
theorem b9R(l:List Value)(H:Heap):iI prog Tryz.f49 l H=some (get l 4):=rfl
theorem c4Y(l:List Value)(H:Heap):iI prog Tryz.f50 l H=some (get l 2):=rfl
theorem c5u(l:List Value)(H:Heap):iI prog Tryz.f51 l H=some (get l 2):=rfl
theorem c4s(l:List Value)(H:Heap):iI prog Tryz.f52 l H=some (.tuple #[]):=rfl
theorem c2q(l:List Value)(H:Heap):iI prog Tryz.f54 l H=(qC (kH prog 26) (iJ prog 26) H (get l 6)).bind fun v=>if(jL v&&(jL (get l 7)&&true))=true then some (.tuple #[v,get l 7])else none:=by
 show(Option.bind (Option.bind (mJ prog H 26 (get l 6)) fun v=>some [v,get l 7]) fun vs=>_)=_
 rw[mE]
 cases qC _ _ H (get l 6)<;>rfl
theorem c5c(l:List Value)(H:Heap):iI prog Tryz.f55 l H=some (get l 4):=rfl
theorem c1f(l:List Value)(H:Heap):iI prog Tryz.f56 l H=if(jL (get l 4)&&(jL (get l 5)&&true))=true then some (.tuple #[get l 4,get l 5])else none:=rfl
theorem c4H(l:List Value)(H:Heap):iI prog Tryz.f58 l H=some (get l 2):=rfl
theorem c5M(l:List Value)(H:Heap):iI prog Tryz.f61 l H=some (get l 4):=rfl
theorem c5G(l:List Value)(H:Heap):iI prog Tryz.f63 l H=some (get l 4):=rfl
theorem c1O(l:List Value)(H:Heap):iI prog Tryz.f64 l H=some (get l 2):=rfl
theorem b8U(l:List Value)(H:Heap):iI prog Tryz.f65 l H=if(jL (get l 6)&&(jL (get l 7)&&true))=true then some (.tuple #[get l 6,get l 7])else none:=rfl
theorem c5k(l:List Value)(H:Heap):iI prog Tryz.f66 l H=some (get l 4):=rfl
theorem c5x(l:List Value)(H:Heap):iI prog Tryz.f67 l H=some (get l 4):=rfl
theorem b8o(l:List Value)(H:Heap):iI prog Tryz.f68 l H=some (get l 6):=rfl
theorem c5W(l:List Value)(H:Heap):iI prog Tryz.f69 l H=some (get l 2):=rfl
theorem c5X(l:List Value)(H:Heap):iI prog Tryz.f81 l H=qC (kH prog 121) (iJ prog 121) H (get l 2):=by
 show(Option.bind (Option.bind (mJ prog H 121 (get l 2)) fun v=>some [v]) fun vs=>_)=_
 rw[mE]
 cases qC _ _ H (get l 2)<;>rfl
theorem c4Z(l:List Value)(H:Heap):iI prog Tryz.f82 l H=qC (kH prog 105) (iJ prog 105) H (get l 7):=by
 show(Option.bind (Option.bind (mJ prog H 105 (get l 7)) fun v=>some [v]) fun vs=>_)=_
 rw[mE]
 cases qC _ _ H (get l 7)<;>rfl
theorem c4I(l:List Value)(H:Heap):iI prog Tryz.f83 l H=(qC (kH prog 73) (iJ prog 73) H (get l 2)).bind fun v=>if(jL v&&(jL (get l 3)&&true))=true then some (.tuple #[v,get l 3])else none:=by
 show(Option.bind (Option.bind (mJ prog H 73 (get l 2)) fun v=>some [v,get l 3]) fun vs=>_)=_
 rw[mE]
 cases qC _ _ H (get l 2)<;>rfl
theorem c5i(l:List Value)(H:Heap):iI prog Tryz.f84 l H=some (get l 2):=rfl
theorem b1Y(l:List Value)(H:Heap):iI prog Tryz.f87 l H=some (get l 2):=rfl
theorem a9r(l:List Value)(H:Heap):iI prog Tryz.f88 l H=some (get l 2):=rfl
theorem c3W(l:List Value)(H:Heap):iI prog Tryz.f89 l H=some (get l 4):=rfl
theorem b6Q(l:List Value)(H:Heap):iI prog Tryz.f90 l H=some (get l 4):=rfl
theorem a0e(l:List Value)(H:Heap):iI prog Tryz.f91 l H=some (get l 4):=rfl
theorem c5l(l:List Value)(H:Heap):iI prog Tryz.f92 l H=(qC (kH prog 73) (iJ prog 73) H (get l 2)).bind fun v=>if(jL v&&(jL (get l 3)&&true))=true then some (.tuple #[v,get l 3])else none:=by
 show(Option.bind (Option.bind (mJ prog H 73 (get l 2)) fun v=>some [v,get l 3]) fun vs=>_)=_
 rw[mE]
 cases qC _ _ H (get l 2)<;>rfl
theorem c4F(l:List Value)(H:Heap):iI prog Tryz.f93 l H=some (get l 4):=rfl
theorem c5D(l:List Value)(H:Heap):iI prog Tryz.f94 l H=some (get l 4):=rfl
theorem a9a(l:List Value)(H:Heap):iI prog Tryz.f95 l H=(qC (kH prog 23) (iJ prog 23) H (get l 8)).bind fun v=>if(jL v&&(jL (get l 9)&&true))=true then some (.tuple #[v,get l 9])else none:=by
 show(Option.bind (Option.bind (mJ prog H 23 (get l 8)) fun v=>some [v,get l 9]) fun vs=>_)=_
 rw[mE]
 cases qC _ _ H (get l 8)<;>rfl
theorem c2T(l:List Value)(H:Heap):iI prog Tryz.f96 l H=some (get l 2):=rfl
theorem c3f(l:List Value)(H:Heap):iI prog Tryz.f97 l H=some (get l 2):=rfl
theorem c0J(l:List Value)(H:Heap):iI prog Tryz.f104 l H=some (get l 4):=rfl
theorem c0o(l:List Value)(H:Heap):iI prog Tryz.f106 l H=some (get l 4):=rfl
theorem c3j(l:List Value)(H:Heap):iI prog Tryz.f107 l H=some (get l 4):=rfl
theorem c3s(l:List Value)(H:Heap):iI prog Tryz.f108 l H=some (get l 6):=rfl
theorem c3Q(l:List Value)(H:Heap):iI prog Tryz.f109 l H=some (get l 2):=rfl
theorem c3T(l:List Value)(H:Heap):iI prog Tryz.f110 l H=some (get l 2):=rfl
theorem c4l(l:List Value)(H:Heap):iI prog Tryz.f112 l H=some (get l 2):=rfl
theorem c0O(l:List Value)(H:Heap):iI prog Tryz.f113 l H=qC (kH prog 73) (iJ prog 73) H (get l 4):=by
 show(Option.bind (Option.bind (mJ prog H 73 (get l 4)) fun v=>some [v]) fun vs=>_)=_
 rw[mE]
 cases qC _ _ H (get l 4)<;>rfl
theorem a6y(l:List Value)(H:Heap):iI prog Tryz.f122 l H=some (get l 2):=rfl
theorem a5s(l:List Value)(H:Heap):iI prog Tryz.f123 l H=some (get l 2):=rfl
theorem c0k(l:List Value)(H:Heap):iI prog Tryz.f124 l H=some (get l 2):=rfl
theorem c0K(l:List Value)(H:Heap):iI prog Tryz.f125 l H=some (get l 2):=rfl
theorem b0R(l:List Value)(H:Heap):iI prog Tryz.f126 l H=some (get l 2):=rfl
theorem tL(l:List Value)(H:Heap):iI prog Tryz.f127 l H=some (get l 4):=rfl
theorem c2H(l:List Value)(H:Heap):iI prog Tryz.f128 l H=some (get l 4):=rfl
theorem c3B(l:List Value)(H:Heap):iI prog Tryz.f129 l H=some (get l 3):=rfl
theorem c3H(l:List Value)(H:Heap):iI prog Tryz.f130 l H=qC (kH prog 73) (iJ prog 73) H (get l 4):=by
 show(Option.bind (Option.bind (mJ prog H 73 (get l 4)) fun v=>some [v]) fun vs=>_)=_
 rw[mE]
 cases qC _ _ H (get l 4)<;>rfl
theorem c0M(l:List Value)(H:Heap):iI prog Tryz.f151 l H=some (get l 4):=rfl
theorem c0L(l:List Value)(H:Heap):iI prog Tryz.f152 l H=qC (kH prog 179) (iJ prog 179) H (get l 4):=by
 show(Option.bind (Option.bind (mJ prog H 179 (get l 4)) fun v=>some [v]) fun vs=>_)=_
 rw[mE]
 cases qC _ _ H (get l 4)<;>rfl
theorem b0i(l:List Value)(H:Heap):iI prog Tryz.f153 l H=(qC (kH prog 54) (iJ prog 54) H (get l 6)).bind fun v=>if(jL v&&(jL (get l 7)&&true))=true then some (.tuple #[v,get l 7])else none:=by
 show(Option.bind (Option.bind (mJ prog H 54 (get l 6)) fun v=>some [v,get l 7]) fun vs=>_)=_
 rw[mE]
 cases qC _ _ H (get l 6)<;>rfl
theorem c2K(l:List Value)(H:Heap):iI prog Tryz.f154 l H=some (get l 2):=rfl
theorem c3q(l:List Value)(H:Heap):iI prog Tryz.f155 l H=some (get l 4):=rfl
theorem c4c(l:List Value)(H:Heap):iI prog Tryz.f156 l H=some (.tuple #[]):=rfl
theorem c3G(l:List Value)(H:Heap):iI prog Tryz.f157 l H=some (get l 2):=rfl
theorem b6H(l:List Value)(H:Heap):iI prog Tryz.f161 l H=some (get l 2):=rfl
theorem a5N(l:List Value)(H:Heap):iI prog Tryz.f163 l H=some (get l 4):=rfl
theorem c2U(l:List Value)(H:Heap):iI prog Tryz.f165 l H=some (get l 4):=rfl
theorem b4g(l:List Value)(H:Heap):iI prog Tryz.f166 l H=some (get l 2):=rfl
theorem a3k(l:List Value)(H:Heap):iI prog Tryz.f169 l H=some (get l 2):=rfl
theorem c3e(l:List Value)(H:Heap):iI prog Tryz.f170 l H=some (get l 4):=rfl
theorem c0P(l:List Value)(H:Heap):iI prog Tryz.f171 l H=some (get l 2):=rfl
theorem b6Y(l:List Value)(H:Heap):iI prog Tryz.f172 l H=some (get l 2):=rfl
theorem a1M(l:List Value)(H:Heap):iI prog Tryz.f173 l H=some (get l 4):=rfl
theorem c0E(l:List Value)(H:Heap):iI prog Tryz.f174 l H=some (get l 4):=rfl
theorem c0l(l:List Value)(H:Heap):iI prog Tryz.f185 l H=some (get l 4):=rfl
theorem c0G(l:List Value)(H:Heap):iI prog Tryz.f186 l H=some (get l 3):=rfl
theorem c3d(l:List Value)(H:Heap):iI prog Tryz.f187 l H=some (get l 4):=rfl
theorem c3u(l:List Value)(H:Heap):iI prog Tryz.f195 l H=some (get l 4):=rfl
theorem c0s(l:List Value)(H:Heap):iI prog Tryz.f196 l H=some (get l 2):=rfl
theorem c0D(l:List Value)(H:Heap):iI prog Tryz.f197 l H=some (get l 4):=rfl
theorem c3P(l:List Value)(H:Heap):iI prog Tryz.f198 l H=some (get l 4):=rfl
theorem c0F(l:List Value)(H:Heap):iI prog Tryz.f229 l H=some (get l 4):=rfl
theorem uT:MapK prog 136 (fun p:Int×Int=>.agg #[I p.1,I p.2]) (.int .i64 0):=MapK.struct (kt:=23) (et:=3) (fs:=(zI prog 23).toArray) (by kernel_rfl) (by kernel_rfl) (by kernel_rfl) rfl (fun b k=>by cases b<;>kernel_rfl) (fun a b=>c1L (by kernel_rfl) (by kernel_rfl) (by kernel_rfl) (fun _ _ _ _=>by kernel_rfl) a b) (fun k=>c1c k)
theorem a6R:MapK prog 193 Value.string (.bool false):=MapK.str (kt:=9) (et:=4) (by kernel_rfl) (by kernel_rfl) (by kernel_rfl) rfl
theorem tt0:kH prog 3=some false∧kH prog 4=some false∧kH prog 5=some false∧iJ prog 5=some 1∧kH prog 9=some false∧iJ prog 9=some 1∧kH prog 23=some true∧kH prog 24=some false∧kH prog 26=some true∧kH prog 40=some false∧iJ prog 40=some 1∧kH prog 42=some false∧iJ prog 42=some 1∧kH prog 43=some false∧iJ prog 43=some 1∧kH prog 44=some false∧iJ prog 44=some 1∧kH prog 46=some true∧kH prog 47=some false∧iJ prog 47=some 1∧kH prog 48=some false∧kH prog 50=some true∧kH prog 52=some false∧iJ prog 52=some 1∧kH prog 54=some true∧kH prog 56=some true∧kH prog 63=some true∧kH prog 73=some true∧kH prog 75=some false∧kH prog 102=some true∧kH prog 103=some false∧iJ prog 103=some 1∧kH prog 105=some true∧kH prog 119=some true∧kH prog 121=some true∧kH prog 127=some false∧iJ prog 127=some 1∧kH prog 129=some true∧kH prog 131=some true∧kH prog 136=some false:=by and_intros<;>kernel_rfl
theorem tt1:iJ prog 136=some 1∧kH prog 139=some true∧kH prog 176=some true∧kH prog 177=some false∧iJ prog 177=some 1∧kH prog 179=some true∧kH prog 240=some true∧jB prog 24=some 1∧jB prog 40=some 3∧jB prog 42=some 6∧jB prog 43=some 5∧jB prog 44=some 5∧jB prog 47=some 1∧jB prog 52=some 2∧jB prog 75=some 6∧jB prog 97=some 2∧jB prog 103=some 4∧jB prog 124=some 1∧jB prog 126=some 2∧jB prog 127=some 3∧jB prog 140=some 2∧jB prog 154=some 1∧jB prog 177=some 2∧lT prog 24=true∧lT prog 40=true∧lT prog 42=true∧lT prog 43=true∧lT prog 44=true∧lT prog 47=true∧lT prog 52=true∧lT prog 75=true∧lT prog 97=true∧lT prog 103=true∧lT prog 124=true∧lT prog 126=true∧lT prog 127=true∧lT prog 140=true∧lT prog 154=true∧lT prog 177=true∧jB prog 9=none:=by and_intros<;>kernel_rfl
theorem tt2:pW prog 9=true∧iY prog 23 0=some 0∧iY prog 23 1=some 1∧iY prog 26 0=some 0∧iY prog 26 1=some 2∧iY prog 26 2=some 3∧iY prog 26 3=some 5∧iY prog 46 0=some 0∧iY prog 46 1=some 1∧iY prog 46 2=some 2∧iY prog 46 3=some 3∧iY prog 50 0=some 0∧iY prog 50 1=some 1∧iY prog 50 2=some 2∧iY prog 54 0=some 0∧iY prog 54 1=some 1∧iY prog 56 0=some 0∧iY prog 56 1=some 4∧iY prog 56 2=some 7∧iY prog 56 3=some 8∧iY prog 63 0=some 0∧iY prog 63 1=some 1∧iY prog 63 2=some 2∧iY prog 73 0=some 0∧iY prog 73 1=some 1∧iY prog 102 0=some 0∧iY prog 102 1=some 1∧iY prog 105 0=some 0∧iY prog 105 2=some 2∧iY prog 105 3=some 4∧iY prog 119 0=some 0∧iY prog 119 1=some 1∧iY prog 121 0=some 0∧iY prog 121 1=some 1∧iY prog 121 2=some 2∧iY prog 121 3=some 4∧iY prog 121 4=some 5∧iY prog 129 0=some 0∧iY prog 129 1=some 1∧iY prog 129 2=some 3:=by and_intros<;>kernel_rfl
theorem tt3:iY prog 131 0=some 0∧iY prog 131 1=some 1∧iY prog 131 2=some 2∧iY prog 131 3=some 3∧iY prog 131 4=some 4∧iY prog 139 0=some 0∧iY prog 139 1=some 10∧iY prog 139 2=some 11∧iY prog 139 3=some 12∧iY prog 176 0=some 0∧iY prog 176 1=some 1∧iY prog 179 0=some 0∧iY prog 179 1=some 1∧iY prog 179 2=some 2∧iY prog 240 0=some 0∧iY prog 240 1=some 1∧jG prog 23=some (.agg #[.int .i64 0,.int .i64 0])∧kD prog 23=none∧jG prog 26=some (.agg #[.int .i64 0,.int .i64 0,.slice none 0 0,.int .i64 0,.int .i64 0,.int .i64 0])∧kD prog 26=none∧jG prog 46=some (.agg #[.string ⟨#[]⟩,.slice none 0 0,.slice none 0 0,.slice none 0 0])∧kD prog 46=none∧jG prog 54=some (.agg #[.int .i64 0,.int .i64 0])∧kD prog 54=none∧jG prog 56=some (.agg #[.string ⟨#[]⟩,.slice none 0 0,.slice none 0 0,.slice none 0 0,.slice none 0 0,.int .u64 0,.int .u64 0,.slice none 0 0,.int .i64 0,.int .i64 0])∧kD prog 56=none∧jG prog 63=some (.agg #[.int .i64 0,.int .i64 0,.int .i64 0])∧kD prog 63=none∧jG prog 73=some (.agg #[.int .u64 0,.int .u64 0])∧kD prog 73=none∧jG prog 102=some (.agg #[.int .i64 0,.int .i64 0])∧kD prog 102=none∧jG prog 105=some (.agg #[.string ⟨#[]⟩,.bool false,.int .i64 0,.int .i64 0,.slice none 0 0])∧kD prog 105=none∧jG prog 121=some (.agg #[.string ⟨#[]⟩,.string ⟨#[]⟩,.int .i64 0,.int .i64 0,.int .i64 0,.slice none 0 0])∧kD prog 121=none∧jG prog 129=some (.agg #[.string ⟨#[]⟩,.int .i64 0,.int .i64 0,.slice none 0 0])∧kD prog 129=none∧jG prog 131=some (.agg #[.string ⟨#[]⟩,.int .i64 0,.int .i64 0,.int .i64 0,.bool false])∧kD prog 131=none:=by and_intros<;>kernel_rfl
theorem tt4:jG prog 176=some (.agg #[.int .i64 0,.int .i64 0])∧kD prog 176=none∧jG prog 179=some (.agg #[.int .i64 0,.int .i64 0,.slice none 0 0])∧kD prog 179=none∧a2V prog 3=some .i64∧a2V prog 5=some .u8∧a2V prog 48=some .u64:=by and_intros<;>kernel_rfl
def TS:=(And.intro (And.intro (And.intro (And.intro (And.intro @tt0 @tt1) (And.intro @tt2 @tt3)) (And.intro (And.intro @tt4 @tS3) (And.intro @tS4 (And.intro @lG @b4P)))) (And.intro (And.intro (And.intro @nP @a5Y) (And.intro @c1X (And.intro @c2I @wH))) (And.intro (And.intro @rQ @a7F) (And.intro @pA (And.intro @c2j @sG))))) (And.intro (And.intro (And.intro (And.intro @rF @b5B) (And.intro @a0A (And.intro @a3I @a0G))) (And.intro (And.intro @c0t @a0F) (And.intro @a2s (And.intro @b0T @c3K)))) (And.intro (And.intro (And.intro @c2J @c2C) (And.intro @c3M (And.intro @c3y @c2L))) (And.intro (And.intro @c2Y @c2Z) (And.intro @c2G (And.intro @c1n @c1P))))))
def RZ:=And.intro @RB (And.intro @RC @TS)
end Go.Ds
namespace Go.Ds
open Go.Proofs
variable {P:Program} {H:Heap}
structure Drw where
 rank:Int
 shift:Int
 deriving DecidableEq,Inhabited
structure Seg where
 lo:Int
 hi:Int
 dv:Value
 draws:List Drw
 deriving Inhabited
structure Stp where
 name:ByteArray
 num:Int
 den:Int
 gv:Value
 segs:List Seg
 deriving Inhabited
structure Dvn where
 name:ByteArray
 pedal:Bool
 lo:Int
 hi:Int
 sv:Value
 stops:List Stp
 deriving Inhabited
structure Rk where
 name:ByteArray
 tone:ByteArray
 num:Int
 den:Int
 first:Int
 wv:Value
 wind:List Int
 deriving Inhabited
structure Cpl where
 name:ByteArray
 src:Int
 dst:Int
 shift:Int
 thr:Bool
 deriving Inhabited
structure Org where
 name:ByteArray
 rv:Value
 ranks:List Rk
 dv:Value
 dvs:List Dvn
 cv:Value
 cpls:List Cpl
 deriving Inhabited
def Drw.cells(d:Drw):List Value:=[I d.rank,I d.shift]
def Seg.cells(s:Seg):List Value:=[I s.lo,I s.hi,s.dv]
def Stp.cells(s:Stp):List Value:=[.string s.name,I s.num,I s.den,s.gv]
def Dvn.cells(d:Dvn):List Value:=[.string d.name,.bool d.pedal,I d.lo,I d.hi,d.sv]
def Rk.cells(r:Rk):List Value:=[.string r.name,.string r.tone,I r.num,I r.den,I r.first,r.wv]
def Cpl.cells(c:Cpl):List Value:=[.string c.name,I c.src,I c.dst,I c.shift,.bool c.thr]
def Org.cells(o:Org):List Value:=[.string o.name,o.rv,o.dv,o.cv]
def Seg.In(H:Heap)(s:Seg):Prop:=Sl 2 Drw.cells H s.dv s.draws∧s.draws.length<1000000000
def Stp.In(H:Heap)(s:Stp):Prop:=Sl 3 Seg.cells H s.gv s.segs∧(∀g∈s.segs,g.In H)∧s.segs.length<1000000000
def Dvn.In(H:Heap)(d:Dvn):Prop:=Sl 4 Stp.cells H d.sv d.stops∧(∀s∈d.stops,s.In H)∧d.stops.length<1000000000
def Rk.In(H:Heap)(r:Rk):Prop:=Sl 1 (one I) H r.wv r.wind∧r.wind.length<1000000000
def Org.In(H:Heap)(o:Org):Prop:=Sl 6 Rk.cells H o.rv o.ranks∧(∀r∈o.ranks,r.In H)∧Sl 5 Dvn.cells H o.dv o.dvs∧(∀d∈o.dvs,d.In H)∧Sl 5 Cpl.cells H o.cv o.cpls∧o.ranks.length<1000000000∧o.dvs.length<1000000000∧o.cpls.length<1000000000
section
variable {H0:Heap} {os:List Ob}
theorem Seg.In.ag{s:Seg}(h:s.In H0)(hS:St P H0 H os):s.In H:=⟨hS.sl h.1,h.2⟩
theorem Stp.In.ag{s:Stp}(h:s.In H0)(hS:St P H0 H os):s.In H:=⟨hS.sl h.1,fun g hg=>(h.2.1 g hg).ag hS,h.2.2⟩
theorem Dvn.In.ag{d:Dvn}(h:d.In H0)(hS:St P H0 H os):d.In H:=⟨hS.sl h.1,fun g hg=>(h.2.1 g hg).ag hS,h.2.2⟩
theorem Rk.In.ag{r:Rk}(h:r.In H0)(hS:St P H0 H os):r.In H:=⟨hS.sl h.1,h.2⟩
theorem Org.In.ag{o:Org}(h:o.In H0)(hS:St P H0 H os):o.In H:=⟨hS.sl h.1,fun r hr=>(h.2.1 r hr).ag hS,hS.sl h.2.2.1,fun d hd=>(h.2.2.2.1 d hd).ag hS,hS.sl h.2.2.2.2.1,h.2.2.2.2.2⟩
end
def c3S(n:Int):Prop:=-9223372036854775808≤n∧n<9223372036854775808
end Go.Ds
namespace Go.Ds
open Go.Proofs Go.Proofs.Tryz
variable {H:Heap}
def qI(b:Int):Bool:=(decide (65≤b)&&decide (b≤90))||(decide (97≤b)&&decide (b≤122))
theorem a3K(b:Int):Fn prog 122 [.int .u8 b] H fun r H'=>r=.bool (qI b)∧St prog H H' []:=by
 refine .aS func122 rfl (by kernel_rfl) (m:=17) rfl fun l hn g0=> ?_
 simp(disch:=omega) only[↓RA,RZ,simprocAttr,hn,g0]
 refine jQ (fun h1=> ?_) (fun h1=> ?_)
 ·simp(disch:=omega) only[↓RA,RZ,simprocAttr,hn,g0,h1]
  refine iS (fun h2=> ?_) (fun h2=> ?_)
  ·simp(disch:=omega) only[↓RA,RZ,simprocAttr,hn,a6y,h1,h2]
   first|exact(sR H)|exact⟨by simp[qI,h1,h2],(sR H)⟩
  simp(disch:=omega) only[↓RA,RZ,simprocAttr,hn,g0,h1,h2]
  refine jQ (fun h3=> ?_) (fun h3=> ?_)
  ·simp(disch:=omega) only[↓RA,RZ,simprocAttr,hn,g0,a6y,h1,h2,h3]
   first|exact(sR H)|exact⟨by simp[qI,h1,h2,h3],(sR H)⟩
  simp(disch:=omega) only[↓RA,RZ,simprocAttr,hn,a6y,h1,h2,h3]
  first|exact(sR H)|exact⟨by simp[qI,h1,h2,h3],(sR H)⟩
 simp(disch:=omega) only[↓RA,RZ,simprocAttr,hn,g0,h1]
 refine jQ (fun h4=> ?_) (fun h4=> ?_)
 ·simp(disch:=omega) only[↓RA,RZ,simprocAttr,hn,g0,a6y,h1,h4]
  first|exact(sR H)|exact⟨by simp[qI,h1,h4],(sR H)⟩
 simp(disch:=omega) only[↓RA,RZ,simprocAttr,hn,a6y,h1,h4]
 first|exact(sR H)|exact⟨by simp[qI,h1,h4],(sR H)⟩
theorem b5U(b:Int):Fn prog 124 [I b] H fun r H'=>r=.bool (decide (-256≤b)&&decide (b≤256))∧St prog H H' []:=by
 refine .aS func124 rfl (by kernel_rfl) (m:=9) rfl fun l hn g0=> ?_
 simp(disch:=omega) only[↓RA,RZ,simprocAttr,hn,g0]
 refine jQ (fun h1=> ?_) (fun h1=> ?_)
 ·simp(disch:=omega) only[↓RA,RZ,simprocAttr,hn,g0,c0k,h1]
  first|exact(sR H)|exact⟨by simp[h1],(sR H)⟩
 simp(disch:=omega) only[↓RA,RZ,simprocAttr,hn,c0k,h1]
 first|exact(sR H)|exact⟨by simp[],(sR H)⟩
theorem b4f(b:Int):Fn prog 171 [I b] H fun r H'=>r=.bool (decide (b<0)||decide (1000000<b))∧St prog H H' []:=by
 refine .aS func171 rfl (by kernel_rfl) (m:=9) rfl fun l hn g0=> ?_
 simp(disch:=omega) only[↓RA,RZ,simprocAttr,hn,g0]
 refine iS (fun h1=> ?_) (fun h1=> ?_)
 ·simp(disch:=omega) only[↓RA,RZ,simprocAttr,hn,c0P,h1]
  first|exact(sR H)|exact⟨by simp[],(sR H)⟩
 simp(disch:=omega) only[↓RA,RZ,simprocAttr,hn,g0,c0P,h1]
 first|exact(sR H)|exact⟨by simp[],(sR H)⟩
theorem a4I(n:Int)(h: -9223372036854775808≤n)(h0:n<0):IntKind.wrap .u64 (0-IntKind.wrap .u64 n)=n.natAbs:=by
 have e:∀m:Int,IntKind.wrap .u64 m=m%18446744073709551616:=fun m=>by
  show(if(false&&decide (m%18446744073709551616≥9223372036854775808))=true then m%18446744073709551616-18446744073709551616 else m%18446744073709551616)=_
  simp
 rw[e,e]
 omega
theorem a4s(n:Int)(hn0:c3S n):Fn prog 196 [I n] H fun r H'=>r=.int .u64 n.natAbs∧St prog H H' []:=by
 refine .aS func196 rfl (by kernel_rfl) (m:=10) rfl fun l hn g0=> ?_
 simp(disch:=omega) only[↓RA,RB,simprocAttr,hn,g0]
 refine iF (fun h=> ?_) (fun h=> ?_)
 ·simp(disch:=omega) only[↓RA,RZ,simprocAttr,hn,g0,c0s,h]
  exact⟨by rw[a4I n hn0.1 h],(sR H)⟩
 simp(disch:=omega) only[↓RA,RZ,simprocAttr,hn,g0,c0s,h]
 refine⟨?_,(sR H)⟩
 have:=hn0.2
 rw[qS n (by omega) (by omega)]
 congr 1
 omega
theorem c1i(a b:Nat)(ha:a<18446744073709551616)(hb:b<18446744073709551616):Fn prog 195 [.int .u64 a,.int .u64 b] H fun r H'=>r=.int .u64 (Nat.gcd a b)∧St prog H H' []:=by
 refine .aH func195 rfl (by kernel_rfl) (m:=12) rfl fun l hn g0 g1=> ?_
 simp(disch:=omega) only[↓RA,RB,simprocAttr]
 refine Wp.aj (fun n l H'=>l.length=12∧get l 4=(.int .u64 0)∧∃(x y:Nat),(n=y∧x<18446744073709551616∧y<18446744073709551616∧Nat.gcd a b=Nat.gcd x y)∧get l 0=(.int .u64 x)∧get l 1=(.int .u64 y)∧St prog H H' []) b ?_ ?_
 ·simp(disch:=omega) only[RB,RC,simprocAttr,hn,g0,g1]
  exact⟨a,b,⟨rfl,ha,hb,rfl⟩,rfl,rfl,(sR H)⟩
 rintro n l H1⟨hn,g4,x,y,⟨hy,hx1,hy1,hg⟩,g0,g1,hS1⟩
 simp(disch:=omega) only[↓RA,RB,simprocAttr,hn,g1]
 refine iF (fun h=> ?_) (fun h=> ?_)
 ·simp(disch:=omega) only[↓RA,RC,simprocAttr,h]
  refine Wp.drw kJ (by kernel_rfl) ?_
  simp(disch:=omega) only[↓RA,RZ,simprocAttr,hn,g4,g0,g1]
  refine⟨x%y,?_,y,x%y,⟨rfl,hy1,?_,?_⟩,rfl,?_,hS1⟩
  ·rw[hy];exact iD _ (by omega)
  ·exact dV (iD _ (by omega)) (by omega)
  ·rw[hg,Nat.gcd_comm x y,Nat.gcd_rec]
   exact Nat.gcd_comm _ _
  ·rw[Int.ofNat_tmod]
 simp(disch:=omega) only[↓RA,RZ,simprocAttr,hn,g0,c3u,h]
 have h0:y=0:=by omega
 subst h0
 exact⟨by rw[hg,Nat.gcd_zero_right],hS1⟩
theorem b8f(a b:Int)(ha0:0≤a)(ha:a<18446744073709551616)(hb0:0≤b)(hb:b<18446744073709551616):Fn prog 195 [.int .u64 a,.int .u64 b] H fun r H'=>r=.int .u64 (Nat.gcd a.toNat b.toNat)∧St prog H H' []:=by
 have:=c1i (H:=H) a.toNat b.toNat (by omega) (by omega)
 rwa [gR ha0,gR hb0]at this
def vS(num den:Int):Int:=if 0<den∧den≤1000000∧-1000000≤num∧num≤1000000∧Nat.gcd num.natAbs den.toNat=1 then 0 else 2
theorem b9p(num den:Int):Fn prog 169 [.agg #[I num,I den]] H fun r H'=>r=I (vS num den)∧St prog H H' []:=by
 refine .aS func169 rfl (by kernel_rfl) (m:=31) rfl fun l hn g0=> ?_
 simp(disch:=omega) only[↓RA,RB,simprocAttr,g0]
 refine(sR H).eNew 2 [I num,I den] rfl rfl rfl b5B fun A1 H1 hS1=> ?_
 simp only[RT]at hS1
 simp(disch:=omega) only[↓RA,RB,simprocAttr]
 refine Wp.aL kJ [(23,0),(24,0)] (by kernel_rfl) (by kernel_rfl) ?_
 simp(disch:=omega) only[↓RA,RZ,simprocAttr,hn,hS1.ld 0 rfl]
 refine iS (fun h1=> ?_) (fun h1=> ?_)
 ·simp(disch:=omega) only[↓RA,RZ,simprocAttr,hn,a3k,h1]
  refine⟨?_,hS1.forget⟩;unfold vS;(repeat' split);all_goals first|rfl|omega
 simp(disch:=omega) only[↓RA,RZ,simprocAttr,hn,hS1.ld 0 rfl,h1]
 refine iS (fun h2=> ?_) (fun h2=> ?_)
 ·simp(disch:=omega) only[↓RA,RZ,simprocAttr,hn,a3k,h1,h2]
  refine⟨?_,hS1.forget⟩;unfold vS;(repeat' split);all_goals first|rfl|omega
 simp(disch:=omega) only[↓RA,RZ,simprocAttr,hn,hS1.ld 0 rfl,h1,h2]
 refine iS (fun h3=> ?_) (fun h3=> ?_)
 ·simp(disch:=omega) only[↓RA,RZ,simprocAttr,hn,a3k,h1,h2,h3]
  refine⟨?_,hS1.forget⟩;unfold vS;(repeat' split);all_goals first|rfl|omega
 simp(disch:=omega) only[↓RA,RZ,simprocAttr,hn,hS1.ld 0 rfl,h1,h2,h3]
 refine iS (fun h4=> ?_) (fun h4=> ?_)
 ·simp(disch:=omega) only[↓RA,RZ,simprocAttr,hn,a3k,h1,h2,h3,h4]
  refine⟨?_,hS1.forget⟩;unfold vS;(repeat' split);all_goals first|rfl|omega
 simp(disch:=omega) only[↓RA,RZ,simprocAttr,hn,hS1.ld 0 rfl,h1,h2,h3,h4]
 refine hS1.cF (a4s num ⟨by omega,by omega⟩) fun H2 hS2=> ?_
 simp(disch:=omega) only[↓RA,RZ,simprocAttr,hn,hS2.ld 0 rfl,h1,h2,h3,h4]
 refine hS2.cF (b8f _ _ (by omega) (by omega) (by omega) (by omega)) fun H3 hS3=> ?_
 simp(disch:=omega) only[↓RA,RZ,simprocAttr,hn,hS1.ld 0 rfl,h1,h2,h3,h4]
 refine iF (fun h5=> ?_) (fun h5=> ?_)
 ·simp(disch:=omega) only[↓RA,RZ,simprocAttr,hn,a3k,h1,h2,h3,h4,h5]
  refine⟨?_,hS3.forget⟩;unfold vS;(repeat' split);all_goals first|rfl|omega
 simp(disch:=omega) only[↓RA,RZ,simprocAttr,hn,a3k,h1,h2,h3,h4,h5]
 refine⟨?_,hS3.forget⟩;unfold vS;(repeat' split);all_goals first|rfl|omega
def rK(num den:Int):Int:=if vS num den≠0 then 2 else if num≤0∨128*den<num then 3 else if 128<den then 4 else 0
theorem b6b{num den:Int}(h:vS num den=0):0<den∧den≤1000000∧-1000000≤num∧num≤1000000∧Nat.gcd num.natAbs den.toNat=1:=by
 unfold vS at h
 split at h
 ·assumption
 ·cases h
theorem b0o(num den:Int):Fn prog 123 [.agg #[I num,I den]] H fun r H'=>r=I (rK num den)∧St prog H H' []:=by
 refine .aS func123 rfl (by kernel_rfl) (m:=23) rfl fun l hn g0=> ?_
 simp(disch:=omega) only[↓RA,RB,simprocAttr,g0]
 refine(sR H).eNew 2 [I num,I den] rfl rfl rfl b5B fun A1 H1 hS1=> ?_
 simp only[RT]at hS1
 simp(disch:=omega) only[↓RA,RZ,simprocAttr,hn,hS1.ae 0 rfl]
 refine hS1.cF (b9p num den) fun H2 hS2=> ?_
 simp(disch:=omega) only[↓RA,RB,simprocAttr,hn]
 refine iF (fun h=> ?_) (fun h=> ?_)
 ·simp(disch:=omega) only[↓RA,RZ,simprocAttr,hn,a5s,h]
  exact⟨by rw[rK,if_pos h],hS2.forget⟩
 have hf:=b6b (dI.1 h)
 simp(disch:=omega) only[↓RA,RZ,simprocAttr,hn,hS2.ld 0 rfl,h]
 refine iS (fun h1=> ?_) (fun h1=> ?_)
 ·simp(disch:=omega) only[↓RA,RZ,simprocAttr,hn,a5s,h,h1]
  refine⟨?_,hS2.forget⟩;unfold rK;(repeat' split);all_goals first|rfl|omega
 simp(disch:=omega) only[↓RA,RZ,simprocAttr,hn,hS2.ld 0 rfl,h,h1]
 refine iF (fun h2=> ?_) (fun h2=> ?_)
 ·simp(disch:=omega) only[↓RA,RZ,simprocAttr,hn,a5s,h,h1,h2]
  refine⟨?_,hS2.forget⟩;unfold rK;(repeat' split);all_goals first|rfl|omega
 simp(disch:=omega) only[↓RA,RZ,simprocAttr,hn,hS2.ld 0 rfl,h,h1,h2]
 refine iF (fun h3=> ?_) (fun h3=> ?_)
 ·simp(disch:=omega) only[↓RA,RZ,simprocAttr,hn,a5s,h,h1,h2,h3]
  refine⟨?_,hS2.forget⟩;unfold rK;(repeat' split);all_goals first|rfl|omega
 simp(disch:=omega) only[↓RA,RZ,simprocAttr,hn,a5s,h,h1,h2,h3]
 refine⟨?_,hS2.forget⟩;unfold rK;(repeat' split);all_goals first|rfl|omega
def oY(p:Nat→Bool)(n:Nat):Int:=match (List.range n).find? p with|some j=>j|none=>-1
theorem vQ(p:Nat→Bool)(n i:Nat)(hi:i<n)(hp:p i=true)(h0:∀j,j<i→p j=false):(List.range n).find? p=some i:=by
 rw[List.find?_eq_some_iff_getElem]
 refine⟨hp,i,by simpa using hi,by simp,fun j hj=>by simp[h0 j hj]⟩
theorem sP(p:Nat→Bool)(n i:Nat)(hi:i<n)(hp:p i=true)(h0:∀j,j<i→p j=false):oY p n=i:=by
 unfold oY
 rw[vQ p n i hi hp h0]
theorem sV(p:Nat→Bool)(n:Nat)(h0:∀j,j<n→p j=false):oY p n=-1:=by
 unfold oY
 have:(List.range n).find? p=none:=by
  rw[gh]
  intro j hj
  simp[h0 j (dG.1 hj)]
 rw[this]
theorem vA(p:Nat→Bool)(n:Nat):(0≤oY p n)↔∃j,j<n∧p j=true:=by
 unfold oY
 cases h:(List.range n).find? p with
 | none=>
   rw[gh]at h
   simp only[dG]at h
   constructor
   ·intro hh;exact absurd hh (by decide)
   ·rintro⟨j,hj,hp⟩;exact absurd hp (h j hj)
 | some j=>
   constructor
   ·intro _
    exact⟨j,dG.1 (gQ h),List.find?_some h⟩
   ·intro _;show(0:Int)≤(j:Int);omega
theorem b8b(v:Value)(xs:List Int)(hv:Sl 1 (one I) H v xs)(hl:xs.length<1000000000)(k:FuncId)(caps:List Value)(p:Nat→Bool)
 (hf:∀j H1,j<xs.length→St prog H H1 []→Fn prog k (I (iG xs j)::caps) H1 fun r H2=>r=.bool (p j)∧St prog H1 H2 []):
 Fn prog 197 [v,.func (.func k) #[] caps.toArray] H fun r H'=>r=I (oY p xs.length)∧St prog H H' []:=by
 refine .aH func197 rfl (by kernel_rfl) (m:=19) rfl fun l hn g0 g1=> ?_
 simp(disch:=omega) only[↓RA,RZ,simprocAttr,hn,g0,((sR H).sl hv).len]
 refine Wp.aj (fun n l H'=>l.length=19∧get l 0=v∧get l 1=.func (.func k) #[] caps.toArray∧get l 7=I xs.length∧∃(j:Nat),(n+j=xs.length∧∀q,q<j→p q=false)∧get l 8=I j∧St prog H H' []) xs.length ?_ ?_
 ·simp(disch:=omega) only[RB,RC,simprocAttr,hn,g0,g1]
  exact⟨0,⟨by omega,fun q hq=>absurd hq (dX _)⟩,rfl,(sR H)⟩
 rintro n l H1⟨hn,g0,g1,g7,j,⟨hi,h0⟩,g8,hS1⟩
 simp(disch:=omega) only[↓RA,RB,simprocAttr,hn,g7,g8]
 refine iF (fun h=> ?_) (fun h=> ?_)
 ·simp(disch:=omega) only[↓RA,RZ,simprocAttr,hn,g0,g1,g8,(hS1.sl hv).idx,(hS1.sl hv).ld,one,h]
  refine hS1.cF (hf j _ (by omega) hS1) fun H2 hS2=> ?_
  simp(disch:=omega) only[↓RA,RZ,simprocAttr,hn,h]
  refine jD (fun hp=> ?_) (fun hp=> ?_)
  ·simp(disch:=omega) only[↓RA,RZ,simprocAttr,hn,c0D,h,hp]
   exact⟨by rw[sP p xs.length j (by omega) hp h0],hS2⟩
  simp(disch:=omega) only[↓RA,RZ,simprocAttr,hn,g0,g1,g7,g8,h,hp]
  exact⟨n-1,by omega,j+1,⟨by omega,fun q hq=>by rcases dw.1 hq with e|e;(· exact h0 q e);(· rw[e];exact hp)⟩,by simp,hS2⟩
 simp(disch:=omega) only[↓RA,RZ,simprocAttr,hn,c0D,h]
 exact⟨by rw[sV p xs.length fun q hq=>h0 q (by omega)],hS1⟩
theorem b9d(v:Value)(xs:List Int)(hv:Sl 1 (one I) H v xs)(hl:xs.length<1000000000)(k:FuncId)(caps:List Value)(p:Nat→Bool)
 (hf:∀j H1,j<xs.length→St prog H H1 []→Fn prog k (I (iG xs j)::caps) H1 fun r H2=>r=.bool (p j)∧St prog H1 H2 []):
 Fn prog 170 [v,.func (.func k) #[] caps.toArray] H fun r H'=>r=.bool (decide (0≤oY p xs.length))∧St prog H H' []:=by
 refine .aH func170 rfl (by kernel_rfl) (m:=9) rfl fun l hn g0 g1=> ?_
 simp(disch:=omega) only[↓RA,RZ,simprocAttr,hn,g0,g1]
 refine(sR H).cF (b8b v xs hv hl k caps p hf) fun H1 hS1=> ?_
 simp(disch:=omega) only[↓RA,RZ,simprocAttr,hn,c3e]
 first|exact hS1|exact⟨rfl,hS1⟩
def zF(xs:List Int):Int:=if xs.any fun w=>decide (w<0)||decide (1000000<w)then 3 else 0
theorem b6o(v:Value)(xs:List Int)(hv:Sl 1 (one I) H v xs)(hl:xs.length<1000000000):Fn prog 125 [v] H fun r H'=>r=I (zF xs)∧St prog H H' []:=by
 have key:(0≤oY (fun j=>decide (iG xs j<0)||decide (1000000<iG xs j)) xs.length)↔(xs.any fun w=>decide (w<0)||decide (1000000<w))=true:=by
  rw[vA,iA]
  constructor
  ·rintro⟨j,hj,hp⟩;exact⟨_,iM hj,hp⟩
  ·rintro⟨x,hx,hp⟩
   obtain⟨j,hj,rfl⟩:=ek.1 hx
   exact⟨j,hj,by rw[jV xs j hj];exact hp⟩
 refine .aS func125 rfl (by kernel_rfl) (m:=5) rfl fun l hn g0=> ?_
 simp(disch:=omega) only[↓RA,RZ,simprocAttr,hn,g0]
 refine(sR H).cF (b9d v xs hv hl 171 [] _ (fun j H1 hj hS=>b4f (iG xs j))) fun H1 hS1=> ?_
 simp(disch:=omega) only[↓RA,RB,simprocAttr,hn]
 refine iF (fun h=> ?_) (fun h=> ?_)
 ·simp(disch:=omega) only[↓RA,RZ,simprocAttr,hn,c0K,h]
  exact⟨by rw[zF,if_pos (key.1 h)],hS1⟩
 simp(disch:=omega) only[↓RA,RZ,simprocAttr,hn,c0K,h]
 exact⟨by rw[zF,if_neg (fun hh=>h (key.2 hh))],hS1⟩
def ncF(b:Int):Bool:=qI b||(decide (48≤b)&&decide (b≤57))||decide (b=95)
def kP(s:ByteArray):Bool:=decide (0<s.size)&&decide (s.size≤32)&&qI (oA s 0)&&(List.range (s.size-1)).all fun j=>ncF (oA s (j+1))
theorem c3c(s z:ByteArray)(hz:z.size=0):s=z↔s.size=0:=⟨fun h=>by rw[h,hz],fun h=>by
 apply a0y
 have h1:s.data.toList=[]:=fB (by simpa using h)
 have h2:z.data.toList=[]:=fB (by simpa using hz)
 rw[h1,h2]⟩
theorem qN(s:ByteArray):Fn prog 87 [.string s] H fun r H'=>r=.bool (kP s)∧St prog H H' []:=by
 have hz:=c3c s {data:=#[]} rfl
 refine .aS func87 rfl (by kernel_rfl) (m:=42) rfl fun l hn g0=> ?_
 simp(disch:=omega) only[↓RA,RZ,simprocAttr,hn,g0,hz]
 refine iS (fun h1=> ?_) (fun h1=> ?_)
 ·simp(disch:=omega) only[↓RA,RZ,simprocAttr,hn,b1Y,h1]
  first|exact(sR H)|exact⟨by simp[kP,h1],(sR H)⟩
 simp(disch:=omega) only[↓RA,RZ,simprocAttr,hn,g0,h1]
 refine iS (fun h2=> ?_) (fun h2=> ?_)
 ·simp(disch:=omega) only[↓RA,RZ,simprocAttr,hn,b1Y,h1,h2]
  first|exact(sR H)|exact⟨by simp[kP,show¬s.size≤32 by omega],(sR H)⟩
 simp(disch:=omega) only[↓RA,RZ,simprocAttr,hn,g0,h1,h2]
 refine(sR H).cF (a3K _) fun H1 hS1=> ?_
 simp(disch:=omega) only[↓RA,RZ,simprocAttr,hn,h1,h2]
 refine jD (fun h3=> ?_) (fun h3=> ?_)
 ·simp(disch:=omega) only[↓RA,RZ,simprocAttr,hn,b1Y,h1,h2,h3]
  first|exact hS1|exact⟨by simp at h3;simp[kP,h3],hS1⟩
 simp(disch:=omega) only[↓RA,RZ,simprocAttr,h1,h2,h3]
 have h4:qI (oA s 0)=true:=by simpa using h3
 have hA:kP s=(List.range (s.size-1)).all fun j=>ncF (oA s (j+1)):=by simp[kP,h4,show 0<s.size by omega,show s.size≤32 by omega]
 refine Wp.aj (fun n l H'=>l.length=42∧get l 0=(.string s)∧∃(i:Nat),(n+i=s.size∧1≤i∧∀j,1≤j→j<i→ncF (oA s j)=true)∧get l 3=I i∧St prog H H' []) (s.size-1) ?_ ?_
 ·simp(disch:=omega) only[RB,RC,simprocAttr,hn,g0]
  exact⟨1,⟨by omega,by omega,fun j h1 h2=>by omega⟩,rfl,hS1⟩
 rintro n l H2⟨hn,g0,i,⟨hi,hi1,h0⟩,g3,hS2⟩
 simp(disch:=omega) only[↓RA,RZ,simprocAttr,hn,g0,g3]
 refine iF (fun h5=> ?_) (fun h5=> ?_)
 ·simp(disch:=omega) only[↓RA,RZ,simprocAttr,hn,g0,g3,h5]
  refine hS2.cF (a3K _) fun H3 hS3=> ?_
  have hF:ncF (oA s i)=false→kP s=false:=fun hh=>by
   rw[hA,List.all_eq_false]
   exact⟨i-1,dG.2 (by omega),by rw[show i-1+1=i by omega,hh];simp⟩
  have hT:ncF (oA s i)=true→∀j,1≤j→j<i+1→ncF (oA s j)=true:=fun hh j h1 h2=>by
   by_cases e:j=i
   ·rw[e];exact hh
   ·exact h0 j h1 (by omega)
  simp(disch:=omega) only[↓RA,RZ,simprocAttr,hn,h5]
  refine kL (fun h1=> ?_) (fun h1=> ?_)
  ·simp(disch:=omega) only[↓RA,RZ,simprocAttr,hn,h5,h1]
   refine iS (fun h2=> ?_) (fun h2=> ?_)
   ·simp(disch:=omega) only[↓RA,RZ,simprocAttr,hn,h5,h1,h2]
    refine iF (fun h3=> ?_) (fun h3=> ?_)
    ·simp(disch:=omega) only[↓RA,RZ,simprocAttr,hn,b1Y,h5,h1,h2,h3]
     exact⟨by rw[hF (by simp_all [ncF]<;>omega)],hS3⟩
    simp(disch:=omega) only[↓RA,RZ,simprocAttr,hn,g0,g3,h5,h1,h2,h3]
    exact⟨n-1,by omega,i+1,⟨by omega,by omega,hT (by simp_all [ncF]<;>omega)⟩,by simp,hS3⟩
   simp(disch:=omega) only[↓RA,RZ,simprocAttr,hn,h5,h1,h2]
   refine jQ (fun h4=> ?_) (fun h4=> ?_)
   ·simp(disch:=omega) only[↓RA,RZ,simprocAttr,hn,h5,h1,h2,h4]
    refine iF (fun h5=> ?_) (fun h5=> ?_)
    ·simp(disch:=omega) only[↓RA,RZ,simprocAttr,hn,b1Y,h1,h2,h4,h5]
     exact⟨by rw[hF (by simp_all [ncF]<;>omega)],hS3⟩
    simp(disch:=omega) only[↓RA,RZ,simprocAttr,hn,g0,g3,h1,h2,h4,h5]
    exact⟨n-1,by omega,i+1,⟨by omega,by omega,hT (by simp_all [ncF]<;>omega)⟩,by simp,hS3⟩
   simp(disch:=omega) only[↓RA,RZ,simprocAttr,hn,g0,g3,h5,h1,h2,h4]
   exact⟨n-1,by omega,i+1,⟨by omega,by omega,hT (by simp_all [ncF]<;>omega)⟩,by simp,hS3⟩
  simp(disch:=omega) only[↓RA,RZ,simprocAttr,hn,g0,g3,h5,h1]
  exact⟨n-1,by omega,i+1,⟨by omega,by omega,hT (by simp_all [ncF]<;>omega)⟩,by simp,hS3⟩
 simp(disch:=omega) only[↓RA,RZ,simprocAttr,hn,b1Y,h5]
 refine⟨?_,hS2⟩
 rw[hA]
 congr 1
 symm
 rw[dJ]
 intro j hj
 exact h0 (j+1) (by omega) (by have:=dG.1 hj;omega)
def rankE(r:Rk):Int:=if kP r.name=false∨kP r.tone=false then 8 else if rK r.num r.den≠0 then rK r.num r.den else if¬(-256≤r.first∧r.first≤256)then 3 else if r.wind.length=0 then 13 else if 128<r.wind.length then 4 else zF r.wind
theorem b1f(r:Rk)(hr:r.In H):Fn prog 88 [.agg #[.string r.name,.string r.tone,I r.num,I r.den,I r.first,r.wv]] H fun v H'=>v=I (rankE r)∧St prog H H' []:=by
 have hl:=hr.2
 refine .aS func88 rfl (by kernel_rfl) (m:=38) rfl fun l hn g0=> ?_
 simp(disch:=omega) only[↓RA,RB,simprocAttr,g0]
 refine(sR H).eNew 6 [(.string r.name),(.string r.tone),I r.num,I r.den,I r.first,r.wv] rfl rfl (by simp[OC,((sR H).sl hr.1).cells.2.1]) a0A fun A1 H1 hS1=> ?_
 simp only[RT]at hS1
 simp(disch:=omega) only[↓RA,RZ,simprocAttr,hn,hS1.ld 0 rfl]
 refine hS1.cF (qN _) fun H2 hS2=> ?_
 simp(disch:=omega) only[↓RA,RZ,simprocAttr,hn]
 refine kL (fun h1=> ?_) (fun h1=> ?_)
 ·simp(disch:=omega) only[↓RA,RZ,simprocAttr,hn,a9r,h1]
  refine⟨?_,hS2.forget⟩;clear hS1;unfold rankE;(try simp only[dW]at*);(repeat' split);all_goals first|rfl|omega|simp_all
 simp(disch:=omega) only[↓RA,RZ,simprocAttr,hn,hS2.ld 0 rfl,h1]
 refine hS2.cF (qN _) fun H3 hS3=> ?_
 simp(disch:=omega) only[↓RA,RZ,simprocAttr,hn,h1]
 refine jD (fun h2=> ?_) (fun h2=> ?_)
 ·simp(disch:=omega) only[↓RA,RB,simprocAttr,hn,a9r,h1,h2]
  refine⟨?_,hS3.forget⟩;clear hS1;unfold rankE;(try simp only[dW]at*);(repeat' split);all_goals first|rfl|omega|simp_all
 simp(disch:=omega) only[↓RA,RZ,simprocAttr,hn,hS3.ae 0 rfl,h1,h2]
 refine hS3.cF (b0o _ _) fun H4 hS4=> ?_
 simp(disch:=omega) only[↓RA,RB,simprocAttr,hn,h1,h2]
 refine iF (fun h3=> ?_) (fun h3=> ?_)
 ·simp(disch:=omega) only[↓RA,RZ,simprocAttr,hn,a9r,h1,h2,h3]
  refine⟨?_,hS4.forget⟩;clear hS1;unfold rankE;(try simp only[gA,dW,de,decide_eq_true_eq,gG,gm,decide_eq_false_iff_not]at*);(repeat' split);all_goals first|rfl|omega|simp_all
 simp(disch:=omega) only[↓RA,RZ,simprocAttr,hn,hS4.ld 0 rfl,h1,h2,h3]
 refine hS4.cF (b5U _) fun H5 hS5=> ?_
 simp(disch:=omega) only[↓RA,RZ,simprocAttr,hn,h1,h2,h3]
 refine jD (fun h4=> ?_) (fun h4=> ?_)
 ·simp(disch:=omega) only[↓RA,RZ,simprocAttr,hn,a9r,h1,h2,h3,h4]
  refine⟨?_,hS5.forget⟩;clear hS1;unfold rankE;(try simp only[dW,gm,decide_eq_false_iff_not]at*);(repeat' split);all_goals first|rfl|omega|simp_all
 simp(disch:=omega) only[↓RA,RZ,simprocAttr,hn,hS5.ld 0 rfl,(hS5.sl hr.1).len,h1,h2,h3,h4]
 refine iF (fun h5=> ?_) (fun h5=> ?_)
 ·simp(disch:=omega) only[↓RA,RZ,simprocAttr,hn,a9r,h1,h2,h3,h4,h5]
  refine⟨?_,hS5.forget⟩;clear hS1;unfold rankE;(try simp only[gA,dW,de,decide_eq_true_eq,gG,gm,decide_eq_false_iff_not]at*);(repeat' split);all_goals first|rfl|omega|simp_all
 simp(disch:=omega) only[↓RA,RZ,simprocAttr,hn,hS5.ld 0 rfl,(hS5.sl hr.1).len,h1,h2,h3,h4,h5]
 refine iF (fun h6=> ?_) (fun h6=> ?_)
 ·simp(disch:=omega) only[↓RA,RZ,simprocAttr,hn,a9r,h1,h2,h3,h4,h5,h6]
  refine⟨?_,hS5.forget⟩;clear hS1;unfold rankE;(try simp only[gA,dW,de,decide_eq_true_eq,gG,gm,decide_eq_false_iff_not]at*);(repeat' split);all_goals first|rfl|omega|simp_all
 simp(disch:=omega) only[↓RA,RZ,simprocAttr,hn,hS5.ld 0 rfl,h1,h2,h3,h4,h5,h6]
 refine hS5.cF (b6o r.wv r.wind (hS5.sl hr.1) (by have:=hr.2;omega)) fun H6 hS6=> ?_
 simp(disch:=omega) only[↓RA,RZ,simprocAttr,hn,a9r,h1,h2,h3,h4,h5,h6]
 refine⟨?_,hS6.forget⟩;clear hS1;unfold rankE;(try simp only[gA,dW,de,decide_eq_true_eq,gG,gm,decide_eq_false_iff_not]at*);(repeat' split);all_goals first|rfl|omega|simp_all
abbrev KS(kvs:List (ByteArray×Bool)):List Value:=kcs Value.string Value.bool kvs
def qD(kvs:List (ByteArray×Bool))(s:ByteArray):Bool:=(vL kvs s).getD false
theorem a1E(B:Base)(A:Nat)(kvs:List (ByteArray×Bool))(s:ByteArray)(hS:St prog B H [⟨.map (some A),0,KS kvs⟩]):
 Fn prog 89 [.map (some A),.string s] H fun r H'=>r=I (if qD kvs s=true then 9 else 0)∧∃kvs',(∀t,qD kvs' t=(qD kvs t||decide (t=s)))∧St prog B H' [⟨.map (some A),0,KS kvs'⟩]:=by
 refine .aH func89 rfl (by kernel_rfl) (m:=10) rfl fun l hn g0 g1=> ?_
 simp(disch:=omega) only[↓RA,RB,simprocAttr,hn,g0,g1]
 refine hS.aX 0 rfl a6R (fun _=>rfl) ?_
 simp(disch:=omega) only[↓RA,RB,simprocAttr,hn]
 refine jD (fun h=> ?_) (fun h=> ?_)
 ·simp(disch:=omega) only[↓RA,RB,simprocAttr,hn,c3W,h]
  refine⟨by simp[qD,h],kvs,fun t=> ?_,hS⟩
  by_cases e:t=s
  ·subst e;simp[qD,h]
  ·simp[e]
 simp(disch:=omega) only[↓RA,RB,simprocAttr,hn,g0,g1,h]
 refine hS.cu 0 rfl a6R fun H1 hS1=> ?_
 simp only[RT]at hS1
 simp(disch:=omega) only[↓RA,RB,simprocAttr,hn,c3W,h]
 refine⟨by simp[qD,h],_,fun t=> ?_,hS1⟩
 unfold qD
 rw[a7e]
 by_cases e:t=s
 ·simp[e]
 ·simp[e]
def qV(lo hi:Int):Int:=if lo<0∨127<hi then 3 else if hi<lo then 23 else 0
theorem a1c(lo hi:Int):Fn prog 126 [.agg #[I lo,I hi]] H fun r H'=>r=I (qV lo hi)∧St prog H H' []:=by
 refine .aS func126 rfl (by kernel_rfl) (m:=18) rfl fun l hn g0=> ?_
 simp(disch:=omega) only[↓RA,RB,simprocAttr,g0]
 refine(sR H).eNew 2 [I lo,I hi] rfl rfl rfl sG fun A1 H1 hS1=> ?_
 simp only[RT]at hS1
 simp(disch:=omega) only[↓RA,RZ,simprocAttr,hn,hS1.ld 0 rfl]
 refine iS (fun h1=> ?_) (fun h1=> ?_)
 ·simp(disch:=omega) only[↓RA,RZ,simprocAttr,hn,b0R,h1]
  refine⟨?_,hS1.forget⟩;unfold qV;(repeat' split);all_goals first|rfl|omega
 simp(disch:=omega) only[↓RA,RZ,simprocAttr,hn,hS1.ld 0 rfl,h1]
 refine iF (fun h2=> ?_) (fun h2=> ?_)
 ·simp(disch:=omega) only[↓RA,RZ,simprocAttr,hn,b0R,h1,h2]
  refine⟨?_,hS1.forget⟩;unfold qV;(repeat' split);all_goals first|rfl|omega
 simp(disch:=omega) only[↓RA,RZ,simprocAttr,hn,hS1.ld 0 rfl,h1,h2]
 refine iF (fun h3=> ?_) (fun h3=> ?_)
 ·simp(disch:=omega) only[↓RA,RZ,simprocAttr,hn,b0R,h1,h2,h3]
  refine⟨?_,hS1.forget⟩;unfold qV;(repeat' split);all_goals first|rfl|omega
 simp(disch:=omega) only[↓RA,RZ,simprocAttr,hn,b0R,h1,h2,h3]
 refine⟨?_,hS1.forget⟩;unfold qV;(repeat' split);all_goals first|rfl|omega
def mL(f:Nat→Int)(n:Nat):Int:=match (List.range n).find? (fun j=>decide (f j≠0))with|some j=>f j|none=>0
theorem rB(f:Nat→Int)(n i:Nat)(hi:i<n)(hp:f i≠0)(h0:∀j,j<i→f j=0):mL f n=f i:=by
 unfold mL
 rw[vQ _ n i hi (by simpa using hp) (fun j hj=>by simpa using h0 j hj)]
theorem mN(f:Nat→Int)(n:Nat)(h0:∀j,j<n→f j=0):mL f n=0:=by
 unfold mL
 have:(List.range n).find? (fun j=>decide (f j≠0))=none:=by
  rw[gh]
  intro j hj
  simpa using h0 j (dG.1 hj)
 rw[this]
def sW(rs:List Rk)(lo hi:Int):Int:=if 60<rs.length then 4 else if mL (fun j=>rankE (iG rs j)) rs.length≠0 then mL (fun j=>rankE (iG rs j)) rs.length else qV lo hi
theorem b6a(rv:Value)(rs:List Rk)(lo hi:Int)(hr:Sl 6 Rk.cells H rv rs)(hrk:∀r∈rs,r.In H)(hl:rs.length<1000000000):
 Fn prog 172 [.agg #[rv,I lo,I hi]] H fun v H'=>v=I (sW rs lo hi)∧St prog H H' []:=by
 refine .aS func172 rfl (by kernel_rfl) (m:=26) rfl fun l hn g0=> ?_
 simp(disch:=omega) only[↓RA,RB,simprocAttr,g0]
 refine(sR H).eNew 3 [rv,I lo,I hi] rfl rfl (by simp[OC,((sR H).sl hr).cells.2.1]) b0T fun A1 H1 hS1=> ?_
 simp only[RT]at hS1
 simp(disch:=omega) only[↓RA,RZ,simprocAttr,hn,hS1.ld 0 rfl,(hS1.sl hr).len]
 refine iF (fun h=> ?_) (fun h=> ?_)
 ·simp(disch:=omega) only[↓RA,RZ,simprocAttr,hn,b6Y,h]
  exact⟨by rw[sW,if_pos (by omega)],hS1.forget⟩
 simp(disch:=omega) only[↓RA,RZ,simprocAttr,hn,hS1.ld 0 rfl,(hS1.sl hr).len,h]
 refine Wp.aj (fun n l H'=>l.length=26∧get l 1=(ptr A1 0 3)∧get l 11=rv∧get l 12=I rs.length∧∃(i:Nat),(n+i=rs.length∧∀j,j<i→rankE (iG rs j)=0)∧get l 13=I i∧St prog H H' [⟨ptr A1 0 3,0,[rv,I lo,I hi]⟩]) rs.length ?_ ?_
 ·simp(disch:=omega) only[RB,RC,simprocAttr,hn]
  exact⟨0,⟨by omega,by simp⟩,rfl,hS1⟩
 rintro n l H2⟨hn,g1,g11,g12,i,⟨hi1,h0⟩,g13,hS2⟩
 simp(disch:=omega) only[↓RA,RB,simprocAttr,hn,g12,g13]
 refine iF (fun h1=> ?_) (fun h1=> ?_)
 ·simp(disch:=omega) only[↓RA,RZ,simprocAttr,hn,g11,g13,(hS2.sl hr).idx,(hS2.sl hr).ae,Rk.cells,h1]
  refine hS2.eNew 6 [(.string ⟨#[]⟩),(.string ⟨#[]⟩),I 0,I 0,I 0,(.slice none 0 0)] rfl rfl rfl a0A fun A2 H3 hS3=> ?_
  simp only[RT]at hS3
  simp(disch:=omega) only[↓RA,RZ,simprocAttr,hn,h1]
  refine hS3.aa 1 rfl [(.string (iG rs i).name),(.string (iG rs i).tone),I (iG rs i).num,I (iG rs i).den,I (iG rs i).first,(iG rs i).wv] rfl (by simp[OC,(hS3.sl (hrk (iG rs i) (iM (by omega))).1).cells.2.1]) a0A (by simp) fun H4 hS4=> ?_
  simp only[RT]at hS4
  simp(disch:=omega) only[↓RA,RZ,simprocAttr,hn,hS4.ae 1 rfl,h1]
  refine hS4.cF (b1f (iG rs i) ((hrk _ (iM (by omega))).ag hS4)) fun H5 hS5=> ?_
  simp(disch:=omega) only[↓RA,RZ,simprocAttr,hn,h1]
  refine iF (fun h2=> ?_) (fun h2=> ?_)
  ·simp(disch:=omega) only[↓RA,RZ,simprocAttr,hn,b6Y,h1,h2]
   refine⟨?_,hS5.forget⟩
   rw[sW,if_neg (by omega),rB _ rs.length i (by omega) h2 h0,if_pos h2]
  simp(disch:=omega) only[↓RA,RZ,simprocAttr,hn,g1,g11,g12,g13,h1,h2]
  exact⟨n-1,by omega,i+1,⟨by omega,fun j hj=>by rcases dw.1 hj with e|e;(· exact h0 j e);(· rw[e];exact dI.1 h2)⟩,by simp,hS5.sub (by simp)⟩
 simp(disch:=omega) only[↓RA,RZ,simprocAttr,hn,g1,hS2.ae 0 rfl,h1]
 refine hS2.cF (a1c lo hi) fun H6 hS6=> ?_
 simp(disch:=omega) only[↓RA,RZ,simprocAttr,hn,b6Y,h1]
 refine⟨?_,hS6.forget⟩
 have e:=mN (fun j=>rankE (iG rs j)) rs.length fun j hj=>h0 j (by omega)
 rw[sW,if_neg (by omega),if_neg (by rw[e];simp)]
theorem Drw.eq(a b:Drw):(a.rank=b.rank∧a.shift=b.shift)↔b=a:=by
 cases a;cases b;simp[eq_comm]
theorem b1F(v:Value)(xs:List Drw)(hv:Sl 2 Drw.cells H v xs)(hl:xs.length<1000000000)(d:Drw):
 Fn prog 229 [v,.agg #[I d.rank,I d.shift]] H fun r H'=>r=I (oY (fun j=>decide (iG xs j=d)) xs.length)∧St prog H H' []:=by
 refine .aH func229 rfl (by kernel_rfl) (m:=19) rfl fun l hn g0 g1=> ?_
 simp(disch:=omega) only[↓RA,RB,simprocAttr,g1]
 refine(sR H).eNew 2 [I d.rank,I d.shift] rfl rfl rfl a0F fun A1 H1 hS1=> ?_
 simp only[RT]at hS1
 simp(disch:=omega) only[↓RA,RZ,simprocAttr,hn,g0,(hS1.sl hv).len]
 refine Wp.aj (fun n l H'=>l.length=19∧get l 0=v∧get l 3=(ptr A1 0 2)∧get l 7=I xs.length∧∃(j:Nat),(n+j=xs.length∧∀q,q<j→decide (iG xs q=d)=false)∧get l 8=I j∧St prog H H' [⟨ptr A1 0 2,0,[I d.rank,I d.shift]⟩]) xs.length ?_ ?_
 ·simp(disch:=omega) only[RB,RC,simprocAttr,hn,g0]
  exact⟨0,⟨by omega,fun q hq=>absurd hq (dX _)⟩,rfl,hS1⟩
 rintro n l H2⟨hn,g0,g3,g7,j,⟨hi,h0⟩,g8,hS2⟩
 simp(disch:=omega) only[↓RA,RB,simprocAttr,hn,g7,g8]
 refine iF (fun h=> ?_) (fun h=> ?_)
 ·simp(disch:=omega) only[↓RA,RZ,simprocAttr,hn,g8,h]
  refine Wp.drw kJ (by kernel_rfl) ?_
  simp(disch:=omega) only[↓RA,RZ,simprocAttr,hn,g0,g3,hS2.ae 0 rfl,(hS2.sl hv).idx,(hS2.sl hv).ae,Drw.cells]
  refine iF (fun hp=> ?_) (fun hp=> ?_)
  ·simp(disch:=omega) only[↓RA,RZ,simprocAttr,hn,c0F,hp]
   exact⟨by rw[sP _ xs.length j (by omega) (by simpa using(Drw.eq _ _).1 hp) h0],hS2.forget⟩
  simp(disch:=omega) only[↓RA,RZ,simprocAttr,hn,g0,g3,g7,g8,hp]
  exact⟨n-1,by omega,j+1,⟨by omega,fun q hq=>by rcases dw.1 hq with e|e;(· exact h0 q e);(· rw[e];simpa using fun hh=>hp ((Drw.eq _ _).2 hh))⟩,by simp,hS2⟩
 simp(disch:=omega) only[↓RA,RZ,simprocAttr,hn,c0F,h]
 exact⟨by rw[sV _ xs.length fun q hq=>h0 q (by omega)],hS2.forget⟩
theorem b8i(v:Value)(xs:List Drw)(hv:Sl 2 Drw.cells H v xs)(hl:xs.length<1000000000)(d:Drw):
 Fn prog 198 [v,.agg #[I d.rank,I d.shift]] H fun r H'=>r=.bool (decide (d∈xs))∧St prog H H' []:=by
 have e:decide (0≤oY (fun j=>decide (iG xs j=d)) xs.length)=decide (d∈xs):=by
  rw[eu,decide_eq_true_iff,decide_eq_true_iff,vA]
  constructor
  ·rintro⟨j,hj,hp⟩
   rw[←of_decide_eq_true hp];exact iM hj
  ·intro hx
   obtain⟨j,hj,rfl⟩:=ek.1 hx
   exact⟨j,hj,by rw[jV xs j hj];simp⟩
 refine .aH func198 rfl (by kernel_rfl) (m:=9) rfl fun l hn g0 g1=> ?_
 simp(disch:=omega) only[↓RA,RB,simprocAttr,g1]
 refine(sR H).eNew 2 [I d.rank,I d.shift] rfl rfl rfl a0F fun A1 H1 hS1=> ?_
 simp only[RT]at hS1
 simp(disch:=omega) only[↓RA,RZ,simprocAttr,hn,g0,hS1.ae 0 rfl]
 refine hS1.cF (b1F v xs (hS1.sl hv) hl d) fun H2 hS2=> ?_
 simp(disch:=omega) only[↓RA,RB,simprocAttr,hn,c3P]
 rw[←e]
 first|exact hS2.forget|exact⟨rfl,hS2.forget⟩
def kZ(m:Nat)(l:List Drw)(j:Nat):Int:=if(iG l j).rank<0∨m≤(iG l j).rank then 10 else if(iG l j).shift< -127∨127<(iG l j).shift then 3 else if iG l j∈l.take j then 9 else 0
def oD(m:Nat)(l:List Drw):Int:=if 8<l.length then 4 else mL (kZ m l) l.length
theorem a6Q(rv:Value)(rs:List Rk)(lo hi:Int)(hr:Sl 6 Rk.cells H rv rs)(hl:rs.length<1000000000)(dv:Value)(ds:List Drw)(hd:Sl 2 Drw.cells H dv ds)(hl2:ds.length<1000000000):
 Fn prog 173 [.agg #[rv,I lo,I hi],dv] H fun v H'=>v=I (oD rs.length ds)∧St prog H H' []:=by
 refine .aH func173 rfl (by kernel_rfl) (m:=45) rfl fun l hn g0 g1=> ?_
 simp(disch:=omega) only[↓RA,RB,simprocAttr,g0]
 refine(sR H).eNew 3 [rv,I lo,I hi] rfl rfl (by simp[OC,((sR H).sl hr).cells.2.1]) b0T fun A1 H1 hS1=> ?_
 simp only[RT]at hS1
 simp(disch:=omega) only[↓RA,RZ,simprocAttr,hn,g1,(hS1.sl hd).len]
 refine iF (fun h=> ?_) (fun h=> ?_)
 ·simp(disch:=omega) only[↓RA,RZ,simprocAttr,hn,a1M,h]
  exact⟨by rw[oD,if_pos (by omega)],hS1.forget⟩
 simp(disch:=omega) only[↓RA,RZ,simprocAttr,hn,g1,(hS1.sl hd).len,h]
 refine Wp.aj (fun n l H'=>l.length=45∧get l 1=dv∧get l 2=(ptr A1 0 3)∧get l 10=dv∧get l 11=I ds.length∧∃(i:Nat),(n+i=ds.length∧∀j,j<i→kZ rs.length ds j=0)∧get l 12=I i∧St prog H H' [⟨ptr A1 0 3,0,[rv,I lo,I hi]⟩]) ds.length ?_ ?_
 ·simp(disch:=omega) only[RB,RC,simprocAttr,hn,g1]
  exact⟨0,⟨by omega,by simp⟩,rfl,hS1⟩
 rintro n l H2⟨hn,g1,g2,yT,g11,i,⟨hi1,h0⟩,g12,hS2⟩
 simp(disch:=omega) only[↓RA,RB,simprocAttr,hn,g11,g12]
 refine iF (fun h1=> ?_) (fun h1=> ?_)
 ·have key:kZ rs.length ds i≠0→oD rs.length ds=kZ rs.length ds i:=fun hne=>by rw[oD,if_neg (by omega),rB _ ds.length i (by omega) hne h0]
  simp(disch:=omega) only[↓RA,RZ,simprocAttr,hn,yT,g12,(hS2.sl hd).idx,(hS2.sl hd).ae,Drw.cells,h1]
  refine hS2.eNew 2 [I 0,I 0] rfl rfl rfl a0F fun A2 H3 hS3=> ?_
  simp only[RT]at hS3
  simp(disch:=omega) only[↓RA,RZ,simprocAttr,hn,h1]
  refine hS3.aa 1 rfl [I (iG ds i).rank,I (iG ds i).shift] rfl rfl a0F (by simp) fun H4 hS4=> ?_
  simp only[RT]at hS4
  simp(disch:=omega) only[↓RA,RZ,simprocAttr,hn,hS4.ld 1 rfl,h1]
  refine iS (fun h1=> ?_) (fun h1=> ?_)
  ·simp(disch:=omega) only[↓RA,RZ,simprocAttr,hn,a1M,h1]
   (first|(have e1:kZ rs.length ds i=10:=by rw[kZ,if_pos (by omega)]);exact⟨by rw[key (by rw[e1];decide),e1],hS4.forget⟩|(have e1:kZ rs.length ds i=3:=by rw[kZ,if_neg (by omega),if_pos (by omega)]);exact⟨by rw[key (by rw[e1];decide),e1],hS4.forget⟩|(have e1:kZ rs.length ds i=9:=by rw[kZ,if_neg (by omega),if_neg (by omega),if_pos (by simp_all)]);exact⟨by rw[key (by rw[e1];decide),e1],hS4.forget⟩)
  simp(disch:=omega) only[↓RA,RZ,simprocAttr,hn,g2,hS4.ld 1 rfl,hS4.ld 0 rfl,(hS4.sl hr).len,h1]
  refine iF (fun h2=> ?_) (fun h2=> ?_)
  ·simp(disch:=omega) only[↓RA,RZ,simprocAttr,hn,a1M,h1,h2]
   (first|(have e1:kZ rs.length ds i=10:=by rw[kZ,if_pos (by omega)]);exact⟨by rw[key (by rw[e1];decide),e1],hS4.forget⟩|(have e1:kZ rs.length ds i=3:=by rw[kZ,if_neg (by omega),if_pos (by omega)]);exact⟨by rw[key (by rw[e1];decide),e1],hS4.forget⟩|(have e1:kZ rs.length ds i=9:=by rw[kZ,if_neg (by omega),if_neg (by omega),if_pos (by simp_all)]);exact⟨by rw[key (by rw[e1];decide),e1],hS4.forget⟩)
  simp(disch:=omega) only[↓RA,RZ,simprocAttr,hn,hS4.ld 1 rfl,h1,h2]
  refine iS (fun h3=> ?_) (fun h3=> ?_)
  ·simp(disch:=omega) only[↓RA,RZ,simprocAttr,hn,a1M,h1,h2,h3]
   (first|(have e1:kZ rs.length ds i=10:=by rw[kZ,if_pos (by omega)]);exact⟨by rw[key (by rw[e1];decide),e1],hS4.forget⟩|(have e1:kZ rs.length ds i=3:=by rw[kZ,if_neg (by omega),if_pos (by omega)]);exact⟨by rw[key (by rw[e1];decide),e1],hS4.forget⟩|(have e1:kZ rs.length ds i=9:=by rw[kZ,if_neg (by omega),if_neg (by omega),if_pos (by simp_all)]);exact⟨by rw[key (by rw[e1];decide),e1],hS4.forget⟩)
  simp(disch:=omega) only[↓RA,RZ,simprocAttr,hn,hS4.ld 1 rfl,h1,h2,h3]
  refine iF (fun h4=> ?_) (fun h4=> ?_)
  ·simp(disch:=omega) only[↓RA,RZ,simprocAttr,hn,a1M,h1,h2,h3,h4]
   (first|(have e1:kZ rs.length ds i=10:=by rw[kZ,if_pos (by omega)]);exact⟨by rw[key (by rw[e1];decide),e1],hS4.forget⟩|(have e1:kZ rs.length ds i=3:=by rw[kZ,if_neg (by omega),if_pos (by omega)]);exact⟨by rw[key (by rw[e1];decide),e1],hS4.forget⟩|(have e1:kZ rs.length ds i=9:=by rw[kZ,if_neg (by omega),if_neg (by omega),if_pos (by simp_all)]);exact⟨by rw[key (by rw[e1];decide),e1],hS4.forget⟩)
  simp(disch:=omega) only[↓RA,RZ,simprocAttr,h1,h2,h3,h4]
  refine Wp.drw kJ (by kernel_rfl) ?_
  simp(disch:=omega) only[↓RA,RZ,simprocAttr,hn,g1,(hS4.sl hd).aP,hS4.ae 1 rfl]
  refine hS4.cF (b8i _ (ds.take i) ((hS4.sl hd).cJ i (by omega) (by omega)) (by simp;omega) (iG ds i)) fun H5 hS5=> ?_
  simp(disch:=omega) only[↓RA,RB,simprocAttr,hn]
  refine iF (fun h5=> ?_) (fun h5=> ?_)
  ·simp(disch:=omega) only[↓RA,RZ,simprocAttr,hn,a1M,h5]
   (first|(have e1:kZ rs.length ds i=10:=by rw[kZ,if_pos (by omega)]);exact⟨by rw[key (by rw[e1];decide),e1],hS5.forget⟩|(have e1:kZ rs.length ds i=3:=by rw[kZ,if_neg (by omega),if_pos (by omega)]);exact⟨by rw[key (by rw[e1];decide),e1],hS5.forget⟩|(have e1:kZ rs.length ds i=9:=by rw[kZ,if_neg (by omega),if_neg (by omega),if_pos (by simp_all)]);exact⟨by rw[key (by rw[e1];decide),e1],hS5.forget⟩)
  simp(disch:=omega) only[↓RA,RZ,simprocAttr,hn,g1,g2,yT,g11,g12,h5]
  have e0:kZ rs.length ds i=0:=by rw[kZ,if_neg (by omega),if_neg (by omega),if_neg (by simp_all)]
  exact⟨n-1,by omega,i+1,⟨by omega,fun j hj=>by rcases dw.1 hj with e|e;(· exact h0 j e);(· rw[e];exact e0)⟩,by simp,hS5.sub (by simp)⟩
 simp(disch:=omega) only[↓RA,RZ,simprocAttr,hn,a1M,h1]
 exact⟨by rw[oD,if_neg (by omega),mN _ _ fun j hj=>h0 j (by omega)],hS2.forget⟩
def lS(lo hi:Int)(m:Nat)(gs:List Seg)(j:Nat):Int:=if min (iG gs j).lo (iG gs j).hi<lo∨hi<max (iG gs j).lo (iG gs j).hi then 23 else if(iG gs j).hi<(iG gs j).lo∨(0<j∧(iG gs j).lo≤(iG gs (j-1)).hi)then 6 else oD m (iG gs j).draws
def stopE(rs:List Rk)(lo hi:Int)(s:Stp):Int:=if sW rs lo hi≠0 then sW rs lo hi else if kP s.name=false then 8 else if rK s.num s.den≠0 then rK s.num s.den else if s.segs.length=0 then 13 else if 12<s.segs.length then 4 else mL (lS lo hi rs.length s.segs) s.segs.length
theorem b9f(rv:Value)(rs:List Rk)(lo hi:Int)(hr:Sl 6 Rk.cells H rv rs)(hrk:∀r∈rs,r.In H)(hl:rs.length<1000000000)(s:Stp)(hs:s.In H):
 Fn prog 127 [.agg #[rv,I lo,I hi],.agg #[.string s.name,I s.num,I s.den,s.gv]] H fun v H'=>v=I (stopE rs lo hi s)∧St prog H H' []:=by
 have hl2:=hs.2.2
 refine .aH func127 rfl (by kernel_rfl) (m:=94) rfl fun l hn g0 g1=> ?_
 simp(disch:=omega) only[↓RA,RB,simprocAttr,g0]
 refine(sR H).eNew 3 [rv,I lo,I hi] rfl rfl (by simp[OC,((sR H).sl hr).cells.2.1]) b0T fun A1 H1 hS1=> ?_
 simp only[RT]at hS1
 simp(disch:=omega) only[↓RA,RB,simprocAttr,g1]
 refine hS1.eNew 4 [(.string s.name),I s.num,I s.den,s.gv] rfl rfl (by simp[OC,(hS1.sl hs.1).cells.2.1]) a3I fun A2 H2 hS2=> ?_
 simp only[RT]at hS2
 simp(disch:=omega) only[↓RA,RZ,simprocAttr,hn,hS2.ae 0 rfl]
 refine hS2.cF (b6a rv rs lo hi (hS2.sl hr) (fun r h=>(hrk r h).ag hS2) hl) fun H3 hS3=> ?_
 simp(disch:=omega) only[↓RA,RB,simprocAttr,hn]
 refine iF (fun p1=> ?_) (fun p1=> ?_)
 ·simp(disch:=omega) only[↓RA,RZ,simprocAttr,hn,tL,p1]
  exact⟨by rw[stopE,if_pos p1],hS3.forget⟩
 simp(disch:=omega) only[↓RA,RZ,simprocAttr,hn,hS3.ld 1 rfl,p1]
 refine hS3.cF (qN s.name) fun H4 hS4=> ?_
 simp(disch:=omega) only[↓RA,RZ,simprocAttr,hn,p1]
 refine jD (fun p2=> ?_) (fun p2=> ?_)
 ·simp(disch:=omega) only[↓RA,RZ,simprocAttr,hn,tL,p1,p2]
  exact⟨by rw[stopE,if_neg p1,if_pos (by simpa using p2)],hS4.forget⟩
 have p2':¬kP s.name=false:=by simpa using p2
 simp(disch:=omega) only[↓RA,RZ,simprocAttr,hn,hS4.ae 1 rfl,p1,p2]
 refine hS4.cF (b0o s.num s.den) fun H5 hS5=> ?_
 simp(disch:=omega) only[↓RA,RZ,simprocAttr,hn,p1,p2]
 refine iF (fun p3=> ?_) (fun p3=> ?_)
 ·simp(disch:=omega) only[↓RA,RZ,simprocAttr,hn,tL,p1,p2,p3]
  exact⟨by rw[stopE,if_neg p1,if_neg p2',if_pos p3],hS5.forget⟩
 simp(disch:=omega) only[↓RA,RZ,simprocAttr,hn,hS5.ld 1 rfl,(hS5.sl hs.1).len,p1,p2,p3]
 refine iF (fun p4=> ?_) (fun p4=> ?_)
 ·simp(disch:=omega) only[↓RA,RZ,simprocAttr,hn,tL,p1,p2,p3,p4]
  exact⟨by rw[stopE,if_neg p1,if_neg p2',if_neg p3,if_pos (by omega)],hS5.forget⟩
 simp(disch:=omega) only[↓RA,RZ,simprocAttr,hn,hS5.ld 1 rfl,(hS5.sl hs.1).len,p1,p2,p3,p4]
 refine iF (fun p5=> ?_) (fun p5=> ?_)
 ·simp(disch:=omega) only[↓RA,RZ,simprocAttr,hn,tL,p1,p2,p3,p4,p5]
  exact⟨by rw[stopE,if_neg p1,if_neg p2',if_neg p3,if_neg (by omega),if_pos (by omega)],hS5.forget⟩
 have hE:stopE rs lo hi s=mL (lS lo hi rs.length s.segs) s.segs.length:=by rw[stopE,if_neg p1,if_neg p2',if_neg p3,if_neg (by omega),if_neg (by omega)]
 simp(disch:=omega) only[↓RA,RZ,simprocAttr,hn,hS5.ld 1 rfl,(hS5.sl hs.1).len,p1,p2,p3,p4,p5]
 refine Wp.aj (fun n l H'=>l.length=94∧get l 2=(ptr A1 0 3)∧get l 3=(ptr A2 0 4)∧get l 36=s.gv∧get l 37=I s.segs.length∧∃(i:Nat),(n+i=s.segs.length∧∀j,j<i→lS lo hi rs.length s.segs j=0)∧get l 38=I i∧St prog H H' [⟨ptr A1 0 3,0,[rv,I lo,I hi]⟩,⟨ptr A2 0 4,0,[(.string s.name),I s.num,I s.den,s.gv]⟩]) s.segs.length ?_ ?_
 ·simp(disch:=omega) only[RB,RC,simprocAttr,hn]
  exact⟨0,⟨by omega,by simp⟩,rfl,hS5⟩
 rintro n l H6⟨hn,g2,g3,g36,g37,i,⟨hi1,h0⟩,g38,hS6⟩
 simp(disch:=omega) only[↓RA,RB,simprocAttr,hn,g37,g38]
 refine iF (fun q1=> ?_) (fun q1=> ?_)
 ·have key:lS lo hi rs.length s.segs i≠0→stopE rs lo hi s=lS lo hi rs.length s.segs i:=fun hne=>by rw[hE,rB _ _ i (by omega) hne h0]
  have ei:((i:Int)-1).toNat=i-1:=by omega
  simp(disch:=omega) only[↓RA,RZ,simprocAttr,hn,g36,g38,(hS6.sl hs.1).idx,(hS6.sl hs.1).ae,Seg.cells,q1]
  refine hS6.eNew 3 [I 0,I 0,(.slice none 0 0)] rfl rfl rfl a2s fun A3 H7 hS7=> ?_
  simp only[RT]at hS7
  simp(disch:=omega) only[↓RA,RZ,simprocAttr,hn,q1]
  refine hS7.aa 2 rfl [I (iG s.segs i).lo,I (iG s.segs i).hi,(iG s.segs i).dv] rfl (by simp[OC,(hS7.sl (hs.2.1 (iG s.segs i) (iM (by omega))).1).cells.2.1]) a2s (by simp) fun H8 hS8=> ?_
  simp only[RT]at hS8
  simp(disch:=omega) only[↓RA,RZ,simprocAttr,hn,g2,hS8.ld 2 rfl,hS8.ld 0 rfl,q1]
  refine iS (fun h1=> ?_) (fun h1=> ?_)
  ·simp(disch:=omega) only[↓RA,RZ,simprocAttr,hn,tL,q1,h1]
   (first|(have e1:lS lo hi rs.length s.segs i=23:=by rw[lS,if_pos (by omega)]);exact⟨by rw[key (by rw[e1];decide),e1],hS8.forget⟩|(have e1:lS lo hi rs.length s.segs i=6:=by rw[lS,if_neg (by omega),if_pos (by omega)]);exact⟨by rw[key (by rw[e1];decide),e1],hS8.forget⟩|(have e1:lS lo hi rs.length s.segs i=oD rs.length (iG s.segs i).draws:=by rw[lS,if_neg (by omega),if_neg (by omega)]);exact⟨by rw[key (by rw[e1];assumption),e1],hS8.forget⟩)
  simp(disch:=omega) only[↓RA,RZ,simprocAttr,hn,g2,hS8.ld 2 rfl,hS8.ld 0 rfl,q1,h1]
  refine iF (fun h2=> ?_) (fun h2=> ?_)
  ·simp(disch:=omega) only[↓RA,RZ,simprocAttr,hn,tL,q1,h1,h2]
   (first|(have e1:lS lo hi rs.length s.segs i=23:=by rw[lS,if_pos (by omega)]);exact⟨by rw[key (by rw[e1];decide),e1],hS8.forget⟩|(have e1:lS lo hi rs.length s.segs i=6:=by rw[lS,if_neg (by omega),if_pos (by omega)]);exact⟨by rw[key (by rw[e1];decide),e1],hS8.forget⟩|(have e1:lS lo hi rs.length s.segs i=oD rs.length (iG s.segs i).draws:=by rw[lS,if_neg (by omega),if_neg (by omega)]);exact⟨by rw[key (by rw[e1];assumption),e1],hS8.forget⟩)
  simp(disch:=omega) only[↓RA,RZ,simprocAttr,q1,h1,h2]
  refine Wp.drw kJ (by kernel_rfl) ?_
  simp(disch:=omega) only[↓RA,RZ,simprocAttr,hn,hS8.ld 2 rfl]
  refine iS (fun h3=> ?_) (fun h3=> ?_)
  ·simp(disch:=omega) only[↓RA,RZ,simprocAttr,hn,tL,h3]
   (first|(have e1:lS lo hi rs.length s.segs i=23:=by rw[lS,if_pos (by omega)]);exact⟨by rw[key (by rw[e1];decide),e1],hS8.forget⟩|(have e1:lS lo hi rs.length s.segs i=6:=by rw[lS,if_neg (by omega),if_pos (by omega)]);exact⟨by rw[key (by rw[e1];decide),e1],hS8.forget⟩|(have e1:lS lo hi rs.length s.segs i=oD rs.length (iG s.segs i).draws:=by rw[lS,if_neg (by omega),if_neg (by omega)]);exact⟨by rw[key (by rw[e1];assumption),e1],hS8.forget⟩)
  simp(disch:=omega) only[↓RA,RZ,simprocAttr,hn,h3]
  refine jQ (fun h4=> ?_) (fun h4=> ?_)
  ·simp(disch:=omega) only[↓RA,RZ,simprocAttr,hn,g3,hS8.ld 2 rfl,hS8.ld 1 rfl,(hS8.sl hs.1).idx,(hS8.sl hs.1).bp,(hS8.sl hs.1).ld,Seg.cells,ei,h3,h4]
   refine iF (fun h5=> ?_) (fun h5=> ?_)
   ·simp(disch:=omega) only[↓RA,RZ,simprocAttr,hn,tL,h3,h4,h5]
    (first|(have e1:lS lo hi rs.length s.segs i=23:=by rw[lS,if_pos (by omega)]);exact⟨by rw[key (by rw[e1];decide),e1],hS8.forget⟩|(have e1:lS lo hi rs.length s.segs i=6:=by rw[lS,if_neg (by omega),if_pos (by omega)]);exact⟨by rw[key (by rw[e1];decide),e1],hS8.forget⟩|(have e1:lS lo hi rs.length s.segs i=oD rs.length (iG s.segs i).draws:=by rw[lS,if_neg (by omega),if_neg (by omega)]);exact⟨by rw[key (by rw[e1];assumption),e1],hS8.forget⟩)
   simp(disch:=omega) only[↓RA,RZ,simprocAttr,hn,g2,hS8.ae 0 rfl,hS8.ld 2 rfl,h3,h4,h5]
   refine hS8.cF (a6Q rv rs lo hi (hS8.sl hr) hl _ _ (hS8.sl (hs.2.1 _ (iM (by omega))).1) (hs.2.1 _ (iM (by omega))).2) fun H9 hS9=> ?_
   simp(disch:=omega) only[↓RA,RZ,simprocAttr,hn,h3,h4,h5]
   refine iF (fun h6=> ?_) (fun h6=> ?_)
   ·simp(disch:=omega) only[↓RA,RZ,simprocAttr,hn,tL,h3,h4,h5,h6]
    (first|(have e1:lS lo hi rs.length s.segs i=23:=by rw[lS,if_pos (by omega)]);exact⟨by rw[key (by rw[e1];decide),e1],hS9.forget⟩|(have e1:lS lo hi rs.length s.segs i=6:=by rw[lS,if_neg (by omega),if_pos (by omega)]);exact⟨by rw[key (by rw[e1];decide),e1],hS9.forget⟩|(have e1:lS lo hi rs.length s.segs i=oD rs.length (iG s.segs i).draws:=by rw[lS,if_neg (by omega),if_neg (by omega)]);exact⟨by rw[key (by rw[e1];assumption),e1],hS9.forget⟩)
   simp(disch:=omega) only[↓RA,RZ,simprocAttr,hn,g2,g3,g36,g37,g38,h3,h4,h5,h6]
   have e0:lS lo hi rs.length s.segs i=0:=by rw[lS,if_neg (by omega),if_neg (by omega)];omega
   exact⟨n-1,by omega,i+1,⟨by omega,fun j hj=>by rcases dw.1 hj with e|e;(· exact h0 j e);(· rw[e];exact e0)⟩,by simp,hS9.sub (by simp)⟩
  simp(disch:=omega) only[↓RA,RZ,simprocAttr,hn,g2,hS8.ae 0 rfl,hS8.ld 2 rfl,h3,h4]
  refine hS8.cF (a6Q rv rs lo hi (hS8.sl hr) hl _ _ (hS8.sl (hs.2.1 _ (iM (by omega))).1) (hs.2.1 _ (iM (by omega))).2) fun H10 hS10=> ?_
  simp(disch:=omega) only[↓RA,RZ,simprocAttr,hn,h3,h4]
  refine iF (fun h7=> ?_) (fun h7=> ?_)
  ·simp(disch:=omega) only[↓RA,RZ,simprocAttr,hn,tL,h3,h4,h7]
   (first|(have e1:lS lo hi rs.length s.segs i=23:=by rw[lS,if_pos (by omega)]);exact⟨by rw[key (by rw[e1];decide),e1],hS10.forget⟩|(have e1:lS lo hi rs.length s.segs i=6:=by rw[lS,if_neg (by omega),if_pos (by omega)]);exact⟨by rw[key (by rw[e1];decide),e1],hS10.forget⟩|(have e1:lS lo hi rs.length s.segs i=oD rs.length (iG s.segs i).draws:=by rw[lS,if_neg (by omega),if_neg (by omega)]);exact⟨by rw[key (by rw[e1];assumption),e1],hS10.forget⟩)
  simp(disch:=omega) only[↓RA,RZ,simprocAttr,hn,g2,g3,g36,g37,g38,h3,h4,h7]
  have e0:lS lo hi rs.length s.segs i=0:=by rw[lS,if_neg (by omega),if_neg (by omega)];omega
  exact⟨n-1,by omega,i+1,⟨by omega,fun j hj=>by rcases dw.1 hj with e|e;(· exact h0 j e);(· rw[e];exact e0)⟩,by simp,hS10.sub (by simp)⟩
 simp(disch:=omega) only[↓RA,RZ,simprocAttr,hn,tL,q1]
 exact⟨by rw[hE,mN _ _ fun j hj=>h0 j (by omega)],hS6.forget⟩
theorem b9D(v:Value)(xs:List Cpl)(hv:Sl 5 Cpl.cells H v xs)(hl:xs.length<1000000000)(k:FuncId)(caps:List Value)(p:Nat→Bool)
 (hf:∀j H1,j<xs.length→St prog H H1 []→Fn prog k (.agg #[.string (iG xs j).name,I (iG xs j).src,I (iG xs j).dst,I (iG xs j).shift,.bool (iG xs j).thr]::caps) H1 fun r H2=>r=.bool (p j)∧St prog H1 H2 []):
 Fn prog 174 [v,.func (.func k) #[] caps.toArray] H fun r H'=>r=I (oY p xs.length)∧St prog H H' []:=by
 refine .aH func174 rfl (by kernel_rfl) (m:=19) rfl fun l hn g0 g1=> ?_
 simp(disch:=omega) only[↓RA,RZ,simprocAttr,hn,g0,((sR H).sl hv).len]
 refine Wp.aj (fun n l H'=>l.length=19∧get l 0=v∧get l 1=.func (.func k) #[] caps.toArray∧get l 7=I xs.length∧∃(j:Nat),(n+j=xs.length∧∀q,q<j→p q=false)∧get l 8=I j∧St prog H H' []) xs.length ?_ ?_
 ·simp(disch:=omega) only[RB,RC,simprocAttr,hn,g0,g1]
  exact⟨0,⟨by omega,fun q hq=>absurd hq (dX _)⟩,rfl,(sR H)⟩
 rintro n l H1⟨hn,g0,g1,g7,j,⟨hi,h0⟩,g8,hS1⟩
 simp(disch:=omega) only[↓RA,RB,simprocAttr,hn,g7,g8]
 refine iF (fun h=> ?_) (fun h=> ?_)
 ·simp(disch:=omega) only[↓RA,RZ,simprocAttr,hn,g0,g1,g8,(hS1.sl hv).idx,(hS1.sl hv).ae,Cpl.cells,h]
  refine hS1.cF (hf j _ (by omega) hS1) fun H2 hS2=> ?_
  simp(disch:=omega) only[↓RA,RZ,simprocAttr,hn,h]
  refine jD (fun hp=> ?_) (fun hp=> ?_)
  ·simp(disch:=omega) only[↓RA,RZ,simprocAttr,hn,c0E,h,hp]
   exact⟨by rw[sP p xs.length j (by omega) hp h0],hS2⟩
  simp(disch:=omega) only[↓RA,RZ,simprocAttr,hn,g0,g1,g7,g8,h,hp]
  exact⟨n-1,by omega,j+1,⟨by omega,fun q hq=>by rcases dw.1 hq with e|e;(· exact h0 q e);(· rw[e];exact hp)⟩,by simp,hS2⟩
 simp(disch:=omega) only[↓RA,RZ,simprocAttr,hn,c0E,h]
 exact⟨by rw[sV p xs.length fun q hq=>h0 q (by omega)],hS1⟩
theorem b8K(v:Value)(xs:List Cpl)(hv:Sl 5 Cpl.cells H v xs)(hl:xs.length<1000000000)(k:FuncId)(caps:List Value)(p:Nat→Bool)
 (hf:∀j H1,j<xs.length→St prog H H1 []→Fn prog k (.agg #[.string (iG xs j).name,I (iG xs j).src,I (iG xs j).dst,I (iG xs j).shift,.bool (iG xs j).thr]::caps) H1 fun r H2=>r=.bool (p j)∧St prog H1 H2 []):
 Fn prog 128 [v,.func (.func k) #[] caps.toArray] H fun r H'=>r=.bool (decide (0≤oY p xs.length))∧St prog H H' []:=by
 refine .aH func128 rfl (by kernel_rfl) (m:=9) rfl fun l hn g0 g1=> ?_
 simp(disch:=omega) only[↓RA,RZ,simprocAttr,hn,g0,g1]
 refine(sR H).cF (b9D v xs hv hl k caps p hf) fun H1 hS1=> ?_
 simp(disch:=omega) only[↓RA,RZ,simprocAttr,hn,c2H]
 first|exact hS1|exact⟨rfl,hS1⟩
theorem a9u(c:Cpl)(A:Nat)(d:Cpl)(hA:Var H A 5 d.cells):Fn prog 129 [.agg #[.string c.name,I c.src,I c.dst,I c.shift,.bool c.thr],ptr A 0 5] H fun r H'=>r=.bool (decide (c.name=d.name))∧St prog H H' []:=by
 refine .aH func129 rfl (by kernel_rfl) (m:=9) rfl fun l hn g0 g1=> ?_
 simp(disch:=omega) only[↓RA,RB,simprocAttr,g0]
 refine(sR H).eNew 5 [(.string c.name),I c.src,I c.dst,I c.shift,(.bool c.thr)] rfl rfl rfl a0G fun A1 H1 hS1=> ?_
 simp only[RT]at hS1
 simp(disch:=omega) only[↓RA,RZ,simprocAttr,hn,g1,hS1.ld 0 rfl,(hS1.va hA).ld,c3B,Cpl.cells]
 first|exact hS1.forget|exact⟨rfl,hS1.forget⟩
def mT(m:Nat)(cs:List Cpl)(j:Nat):Int:=
 let c:=iG cs j
 if kP c.name=false then 8 else if ∃q,q<j∧(iG cs q).name=c.name then 9 else if c.src<0∨m≤c.src∨c.dst<0∨m≤c.dst then 10 else if c.shift< -127∨127<c.shift then 3 else if c.src=c.dst∧c.shift=0 then 7 else 0
def rJ(ks:List (Int×Int))(cs:List Cpl):Int:=if 8<ks.length∨40<cs.length then 4 else if ∃k∈ks,qV k.1 k.2≠0 then 23 else mL (mT ks.length cs) cs.length
def kpc(k:Int×Int):List Value:=[I k.1,I k.2]
theorem a7y{α:Type}[Inhabited α](xs:List α)(i j:Nat)(h:j<i):iG (xs.take i) j=iG xs j:=by
 unfold iG
 rw[dj,dj,dR h]
theorem a6n(kv cv:Value)(ks:List (Int×Int))(cs:List Cpl)(hk:Sl 2 kpc H kv ks)(hc:Sl 5 Cpl.cells H cv cs)(hl:ks.length<1000000000)(hl2:cs.length<1000000000):
 Fn prog 91 [kv,cv] H fun v H'=>v=I (rJ ks cs)∧St prog H H' []:=by
 refine .aH func91 rfl (by kernel_rfl) (m:=89) rfl fun l hn g0 g1=> ?_
 simp(disch:=omega) only[↓RA,RZ,simprocAttr,hn,g0,((sR H).sl hk).len]
 refine iS (fun p1=> ?_) (fun p1=> ?_)
 ·simp(disch:=omega) only[↓RA,RZ,simprocAttr,hn,a0e,p1]
  exact⟨by rw[rJ,if_pos (by omega)],(sR H)⟩
 simp(disch:=omega) only[↓RA,RZ,simprocAttr,hn,g1,((sR H).sl hc).len,p1]
 refine iF (fun p2=> ?_) (fun p2=> ?_)
 ·simp(disch:=omega) only[↓RA,RZ,simprocAttr,hn,a0e,p1,p2]
  exact⟨by rw[rJ,if_pos (by omega)],(sR H)⟩
 simp(disch:=omega) only[↓RA,RZ,simprocAttr,hn,g0,((sR H).sl hk).len,p1,p2]
 refine Wp.aj (fun n l H'=>l.length=89∧get l 0=kv∧get l 1=cv∧get l 17=kv∧get l 18=I ks.length∧∃(i:Nat),(n+i=ks.length∧∀j,j<i→qV (iG ks j).1 (iG ks j).2=0)∧get l 19=I i∧St prog H H' []) ks.length ?_ ?_
 ·simp(disch:=omega) only[RB,RC,simprocAttr,hn,g0,g1]
  exact⟨0,⟨by omega,by simp⟩,rfl,(sR H)⟩
 rintro n l H1⟨hn,g0,g1,g17,g18,i,⟨hi1,h0⟩,g19,hS1⟩
 simp(disch:=omega) only[↓RA,RB,simprocAttr,hn,g18,g19]
 refine iF (fun p3=> ?_) (fun p3=> ?_)
 ·simp(disch:=omega) only[↓RA,RZ,simprocAttr,hn,g17,g19,(hS1.sl hk).idx,(hS1.sl hk).ae,kpc,p3]
  refine hS1.eNew 2 [I 0,I 0] rfl rfl rfl sG fun A1 H2 hS2=> ?_
  simp only[RT]at hS2
  simp(disch:=omega) only[↓RA,RZ,simprocAttr,hn,p3]
  refine hS2.aa 0 rfl [I (iG ks i).1,I (iG ks i).2] rfl rfl sG (by simp) fun H3 hS3=> ?_
  simp only[RT]at hS3
  simp(disch:=omega) only[↓RA,RZ,simprocAttr,hn,hS3.ae 0 rfl,p3]
  refine hS3.cF (a1c _ _) fun H4 hS4=> ?_
  simp(disch:=omega) only[↓RA,RZ,simprocAttr,hn,p3]
  refine iF (fun p4=> ?_) (fun p4=> ?_)
  ·simp(disch:=omega) only[↓RA,RZ,simprocAttr,hn,a0e,p3,p4]
   exact⟨by rw[rJ,if_neg (by omega),if_pos ⟨_,iM (by omega),p4⟩],hS4.forget⟩
  simp(disch:=omega) only[↓RA,RZ,simprocAttr,hn,g0,g1,g17,g18,g19,p3,p4]
  exact⟨n-1,by omega,i+1,⟨by omega,fun j hj=>by rcases dw.1 hj with e|e;(· exact h0 j e);(· rw[e];exact dI.1 p4)⟩,by simp,hS4.sub (by simp)⟩
 have hE:rJ ks cs=mL (mT ks.length cs) cs.length:=by
  rw[rJ,if_neg (by omega),if_neg]
  rintro⟨k,hk,hne⟩
  obtain⟨j,hj,rfl⟩:=ek.1 hk
  rw[←jV ks j hj]at hne
  exact hne (h0 j (by omega))
 simp(disch:=omega) only[↓RA,RZ,simprocAttr,hn,g1,(hS1.sl hc).len,p3]
 refine Wp.aj (fun n l H'=>l.length=89∧get l 0=kv∧get l 1=cv∧get l 27=cv∧get l 28=I cs.length∧∃(i:Nat),(n+i=cs.length∧∀j,j<i→mT ks.length cs j=0)∧get l 29=I i∧St prog H H' []) cs.length ?_ ?_
 ·simp(disch:=omega) only[RB,RC,simprocAttr,hn,g0,g1]
  exact⟨0,⟨by omega,by simp⟩,rfl,hS1⟩
 rintro n l H5⟨hn,g0,g1,g27,g28,i,⟨hi2,hz⟩,g29,hS5⟩
 simp(disch:=omega) only[↓RA,RB,simprocAttr,hn,g28,g29]
 refine iF (fun q1=> ?_) (fun q1=> ?_)
 ·have key:mT ks.length cs i≠0→rJ ks cs=mT ks.length cs i:=fun hne=>by rw[hE,rB _ _ i (by omega) hne hz]
  simp(disch:=omega) only[↓RA,RZ,simprocAttr,hn,g27,g29,(hS5.sl hc).idx,(hS5.sl hc).ae,Cpl.cells,q1]
  refine hS5.eNew 5 [(.string ⟨#[]⟩),I 0,I 0,I 0,(.bool false)] rfl rfl rfl a0G fun A2 H6 hS6=> ?_
  simp only[RT]at hS6
  simp(disch:=omega) only[↓RA,RZ,simprocAttr,hn,q1]
  refine hS6.aa 0 rfl [(.string (iG cs i).name),I (iG cs i).src,I (iG cs i).dst,I (iG cs i).shift,(.bool (iG cs i).thr)] rfl rfl a0G (by simp) fun H7 hS7=> ?_
  simp only[RT]at hS7
  simp(disch:=omega) only[↓RA,RZ,simprocAttr,hn,hS7.ld 0 rfl,q1]
  refine hS7.cF (qN _) fun H8 hS8=> ?_
  simp(disch:=omega) only[↓RA,RZ,simprocAttr,hn,q1]
  refine jD (fun q2=> ?_) (fun q2=> ?_)
  ·have e1:mT ks.length cs i=8:=by unfold mT;simp only;rw[if_pos (by simpa using q2)]
   simp(disch:=omega) only[↓RA,RZ,simprocAttr,hn,a0e,q1,q2]
   exact⟨by rw[key (by rw[e1];decide),e1],hS8.forget⟩
  have q2':¬kP (iG cs i).name=false:=by simpa using q2
  simp(disch:=omega) only[↓RA,RZ,simprocAttr,hn,g1,(hS8.sl hc).aP,q1,q2]
  have hA:=hS8.var 0 rfl
  refine hS8.cF (b8K _ (cs.take i) ((hS8.sl hc).cJ i (by omega) (by omega)) (by simp;omega) 129 [ptr A2 0 5] (fun j=>decide ((iG (cs.take i) j).name=(iG cs i).name)) (fun j H1 hj hS'=>a9u _ A2 (iG cs i) (hS'.va hA))) fun H9 hS9=> ?_
  have hx:0≤oY (fun j=>decide ((iG (cs.take i) j).name=(iG cs i).name)) (cs.take i).length↔∃q,q<i∧(iG cs q).name=(iG cs i).name:=by
   rw[vA]
   constructor
   ·rintro⟨j,hj,hp⟩
    have hj':j<i:=by simp at hj;omega
    exact⟨j,hj',by rw[←a7y cs i j hj'];exact of_decide_eq_true hp⟩
   ·rintro⟨j,hj,hp⟩
    exact⟨j,by simp;omega,decide_eq_true (by rw[a7y cs i j hj];exact hp)⟩
  simp(disch:=omega) only[↓RA,RZ,simprocAttr,hn,q1,q2]
  refine iF (fun q3=> ?_) (fun q3=> ?_)
  ·have e1:mT ks.length cs i=9:=by unfold mT;simp only;rw[if_neg q2',if_pos (hx.1 q3)]
   simp(disch:=omega) only[↓RA,RZ,simprocAttr,hn,a0e,q1,q2,q3]
   exact⟨by rw[key (by rw[e1];decide),e1],hS9.forget⟩
  have q3':¬∃q,q<i∧(iG cs q).name=(iG cs i).name:=fun hh=>q3 (hx.2 hh)
  have hC:mT ks.length cs i=if(iG cs i).src<0∨ks.length≤(iG cs i).src∨(iG cs i).dst<0∨ks.length≤(iG cs i).dst then 10 else if(iG cs i).shift< -127∨127<(iG cs i).shift then 3 else if(iG cs i).src=(iG cs i).dst∧(iG cs i).shift=0 then 7 else 0:=by
   unfold mT;simp only;rw[if_neg q2',if_neg q3']
  clear hx
  simp(disch:=omega) only[↓RA,RZ,simprocAttr,hn,hS9.ld 0 rfl,q1,q2,q3]
  refine iS (fun h1=> ?_) (fun h1=> ?_)
  ·simp(disch:=omega) only[↓RA,RZ,simprocAttr,hn,a0e,q1,q2,q3,h1]
   (first|(have e1:mT ks.length cs i=10:=by rw[hC,if_pos (by omega)]);exact⟨by rw[key (by rw[e1];decide),e1],hS9.forget⟩|(have e1:mT ks.length cs i=3:=by rw[hC,if_neg (by omega),if_pos (by omega)]);exact⟨by rw[key (by rw[e1];decide),e1],hS9.forget⟩|(have e1:mT ks.length cs i=7:=by rw[hC,if_neg (by omega),if_neg (by omega),if_pos (by omega)]);exact⟨by rw[key (by rw[e1];decide),e1],hS9.forget⟩)
  simp(disch:=omega) only[↓RA,RZ,simprocAttr,hn,g0,hS9.ld 0 rfl,(hS9.sl hk).len,q1,q2,q3,h1]
  refine iS (fun h2=> ?_) (fun h2=> ?_)
  ·simp(disch:=omega) only[↓RA,RZ,simprocAttr,hn,a0e,q1,q2,q3,h1,h2]
   (first|(have e1:mT ks.length cs i=10:=by rw[hC,if_pos (by omega)]);exact⟨by rw[key (by rw[e1];decide),e1],hS9.forget⟩|(have e1:mT ks.length cs i=3:=by rw[hC,if_neg (by omega),if_pos (by omega)]);exact⟨by rw[key (by rw[e1];decide),e1],hS9.forget⟩|(have e1:mT ks.length cs i=7:=by rw[hC,if_neg (by omega),if_neg (by omega),if_pos (by omega)]);exact⟨by rw[key (by rw[e1];decide),e1],hS9.forget⟩)
  simp(disch:=omega) only[↓RA,RZ,simprocAttr,hn,hS9.ld 0 rfl,q1,q2,q3,h1,h2]
  refine iS (fun h3=> ?_) (fun h3=> ?_)
  ·simp(disch:=omega) only[↓RA,RZ,simprocAttr,hn,a0e,q1,q2,q3,h1,h2,h3]
   (first|(have e1:mT ks.length cs i=10:=by rw[hC,if_pos (by omega)]);exact⟨by rw[key (by rw[e1];decide),e1],hS9.forget⟩|(have e1:mT ks.length cs i=3:=by rw[hC,if_neg (by omega),if_pos (by omega)]);exact⟨by rw[key (by rw[e1];decide),e1],hS9.forget⟩|(have e1:mT ks.length cs i=7:=by rw[hC,if_neg (by omega),if_neg (by omega),if_pos (by omega)]);exact⟨by rw[key (by rw[e1];decide),e1],hS9.forget⟩)
  simp(disch:=omega) only[↓RA,RZ,simprocAttr,hn,g0,hS9.ld 0 rfl,(hS9.sl hk).len,q1,q2,q3,h1,h2,h3]
  refine iF (fun h4=> ?_) (fun h4=> ?_)
  ·simp(disch:=omega) only[↓RA,RZ,simprocAttr,hn,a0e,q1,q2,q3,h1,h2,h3,h4]
   (first|(have e1:mT ks.length cs i=10:=by rw[hC,if_pos (by omega)]);exact⟨by rw[key (by rw[e1];decide),e1],hS9.forget⟩|(have e1:mT ks.length cs i=3:=by rw[hC,if_neg (by omega),if_pos (by omega)]);exact⟨by rw[key (by rw[e1];decide),e1],hS9.forget⟩|(have e1:mT ks.length cs i=7:=by rw[hC,if_neg (by omega),if_neg (by omega),if_pos (by omega)]);exact⟨by rw[key (by rw[e1];decide),e1],hS9.forget⟩)
  simp(disch:=omega) only[↓RA,RZ,simprocAttr,hn,hS9.ld 0 rfl,q1,q2,q3,h1,h2,h3,h4]
  refine iS (fun h5=> ?_) (fun h5=> ?_)
  ·simp(disch:=omega) only[↓RA,RZ,simprocAttr,hn,a0e,q1,q2,q3,h1,h2,h3,h4,h5]
   (first|(have e1:mT ks.length cs i=10:=by rw[hC,if_pos (by omega)]);exact⟨by rw[key (by rw[e1];decide),e1],hS9.forget⟩|(have e1:mT ks.length cs i=3:=by rw[hC,if_neg (by omega),if_pos (by omega)]);exact⟨by rw[key (by rw[e1];decide),e1],hS9.forget⟩|(have e1:mT ks.length cs i=7:=by rw[hC,if_neg (by omega),if_neg (by omega),if_pos (by omega)]);exact⟨by rw[key (by rw[e1];decide),e1],hS9.forget⟩)
  simp(disch:=omega) only[↓RA,RZ,simprocAttr,hn,hS9.ld 0 rfl,q1,q2,q3,h1,h2,h3,h4,h5]
  refine iF (fun h6=> ?_) (fun h6=> ?_)
  ·simp(disch:=omega) only[↓RA,RZ,simprocAttr,hn,a0e,q1,q2,q3,h1,h2,h3,h4,h5,h6]
   (first|(have e1:mT ks.length cs i=10:=by rw[hC,if_pos (by omega)]);exact⟨by rw[key (by rw[e1];decide),e1],hS9.forget⟩|(have e1:mT ks.length cs i=3:=by rw[hC,if_neg (by omega),if_pos (by omega)]);exact⟨by rw[key (by rw[e1];decide),e1],hS9.forget⟩|(have e1:mT ks.length cs i=7:=by rw[hC,if_neg (by omega),if_neg (by omega),if_pos (by omega)]);exact⟨by rw[key (by rw[e1];decide),e1],hS9.forget⟩)
  simp(disch:=omega) only[↓RA,RZ,simprocAttr,hn,hS9.ld 0 rfl,q1,q2,q3,h1,h2,h3,h4,h5,h6]
  refine jQ (fun h7=> ?_) (fun h7=> ?_)
  ·simp(disch:=omega) only[↓RA,RZ,simprocAttr,hn,hS9.ld 0 rfl,q1,q2,q3,h3,h4,h5,h6,h7]
   refine iF (fun h8=> ?_) (fun h8=> ?_)
   ·simp(disch:=omega) only[↓RA,RZ,simprocAttr,hn,a0e,q1,q2,q3,h3,h4,h7,h8]
    (first|(have e1:mT ks.length cs i=10:=by rw[hC,if_pos (by omega)]);exact⟨by rw[key (by rw[e1];decide),e1],hS9.forget⟩|(have e1:mT ks.length cs i=3:=by rw[hC,if_neg (by omega),if_pos (by omega)]);exact⟨by rw[key (by rw[e1];decide),e1],hS9.forget⟩|(have e1:mT ks.length cs i=7:=by rw[hC,if_neg (by omega),if_neg (by omega),if_pos (by omega)]);exact⟨by rw[key (by rw[e1];decide),e1],hS9.forget⟩)
   simp(disch:=omega) only[↓RA,RZ,simprocAttr,hn,g0,g1,g27,g28,g29,q1,q2,q3,h3,h4,h5,h6,h7,h8]
   have e0:mT ks.length cs i=0:=by rw[hC,if_neg (by omega),if_neg (by omega),if_neg (by omega)]
   exact⟨n-1,by omega,i+1,⟨by omega,fun j hj=>by rcases dw.1 hj with e|e;(· exact hz j e);(· rw[e];exact e0)⟩,by simp,hS9.sub (by simp)⟩
  simp(disch:=omega) only[↓RA,RZ,simprocAttr,hn,g0,g1,g27,g28,g29,q1,q2,q3,h1,h2,h3,h4,h5,h6,h7]
  have e0:mT ks.length cs i=0:=by rw[hC,if_neg (by omega),if_neg (by omega),if_neg (by omega)]
  exact⟨n-1,by omega,i+1,⟨by omega,fun j hj=>by rcases dw.1 hj with e|e;(· exact hz j e);(· rw[e];exact e0)⟩,by simp,hS9.sub (by simp)⟩
 simp(disch:=omega) only[↓RA,RZ,simprocAttr,hn,a0e,q1]
 exact⟨by rw[hE,mN _ _ fun j hj=>hz j (by omega)],hS5.forget⟩
def oL(rs:List Rk)(lo hi:Int)(l:List Stp)(j:Nat):Int:=if stopE rs lo hi (iG l j)≠0 then stopE rs lo hi (iG l j)else if ∃q,q<j∧(iG l q).name=(iG l j).name then 9 else 0
def divE(rs:List Rk)(d:Dvn):Int:=if qV d.lo d.hi≠0 then qV d.lo d.hi else if 60<d.stops.length then 4 else mL (oL rs d.lo d.hi d.stops) d.stops.length
theorem zG{kvs kvs':List (ByteArray×Bool)}{f:Nat→ByteArray}{i:Nat}(h:∀t,qD kvs t=true↔∃q,q<i∧f q=t)(h':∀t,qD kvs' t=(qD kvs t||decide (t=f i))):∀t,qD kvs' t=true↔∃q,q<i+1∧f q=t:=by
 intro t
 rw[h',eG,h,decide_eq_true_iff]
 constructor
 ·rintro(⟨q,hq,e⟩|e)
  ·exact⟨q,by omega,e⟩
  ·exact⟨i,by omega,e.symm⟩
 ·rintro⟨q,hq,e⟩
  rcases dw.1 hq with hh|hh
  ·exact .inl ⟨q,hh,e⟩
  ·right;rw[←e,hh]
theorem a1F(t:ByteArray):qD [] t=false:=rfl
theorem c2u(o:Org)(ho:o.In H)(d:Dvn)(hd:d.In H):
 Fn prog 90 [.agg #[.string o.name,o.rv,o.dv,o.cv],.agg #[.string d.name,.bool d.pedal,I d.lo,I d.hi,d.sv]] H fun v H'=>v=I (divE o.ranks d)∧St prog H H' []:=by
 have hl:=hd.2.2
 refine .aH func90 rfl (by kernel_rfl) (m:=47) rfl fun l hn g0 g1=> ?_
 simp(disch:=omega) only[↓RA,RB,simprocAttr,g0]
 refine(sR H).eNew 4 [(.string o.name),o.rv,o.dv,o.cv] rfl rfl (by simp[OC,((sR H).sl ho.1).cells.2.1,((sR H).sl ho.2.2.1).cells.2.1,((sR H).sl ho.2.2.2.2.1).cells.2.1]) a5Y fun A1 H1 hS1=> ?_
 simp only[RT]at hS1
 simp(disch:=omega) only[↓RA,RB,simprocAttr,g1]
 refine hS1.eNew 5 [(.string d.name),(.bool d.pedal),I d.lo,I d.hi,d.sv] rfl rfl (by simp[OC,(hS1.sl hd.1).cells.2.1]) rF fun A2 H2 hS2=> ?_
 simp only[RT]at hS2
 simp(disch:=omega) only[↓RA,RZ,simprocAttr,hn,hS2.ae 1 rfl]
 refine hS2.cF (a1c d.lo d.hi) fun H3 hS3=> ?_
 simp(disch:=omega) only[↓RA,RB,simprocAttr,hn]
 refine iF (fun p1=> ?_) (fun p1=> ?_)
 ·simp(disch:=omega) only[↓RA,RZ,simprocAttr,hn,b6Q,p1]
  exact⟨by rw[divE,if_pos p1],hS3.forget⟩
 simp(disch:=omega) only[↓RA,RZ,simprocAttr,hn,hS3.ld 1 rfl,(hS3.sl hd.1).len,p1]
 refine iF (fun p2=> ?_) (fun p2=> ?_)
 ·simp(disch:=omega) only[↓RA,RZ,simprocAttr,hn,b6Q,p1,p2]
  exact⟨by rw[divE,if_neg p1,if_pos (by omega)],hS3.forget⟩
 have hE:divE o.ranks d=mL (oL o.ranks d.lo d.hi d.stops) d.stops.length:=by rw[divE,if_neg p1,if_neg (by omega)]
 simp(disch:=omega) only[↓RA,simprocAttr]
 refine hS3.bV a6R fun M1 H4 hS4=> ?_
 simp only[RT]at hS4
 simp(disch:=omega) only[↓RA,RZ,simprocAttr,hn,hS4.ld 1 rfl,(hS4.sl hd.1).len,p1,p2]
 refine Wp.aj (fun n l H'=>l.length=47∧get l 2=(ptr A1 0 4)∧get l 3=(ptr A2 0 5)∧get l 6=(.map (some M1))∧get l 23=d.sv∧get l 24=I d.stops.length∧∃(i:Nat)(kvs:List (ByteArray×Bool)),(n+i=d.stops.length∧(∀j,j<i→oL o.ranks d.lo d.hi d.stops j=0)∧(∀t,qD kvs t=true↔∃q,q<i∧(iG d.stops q).name=t))∧get l 25=I i∧St prog H H' [⟨ptr A1 0 4,0,[(.string o.name),o.rv,o.dv,o.cv]⟩,⟨ptr A2 0 5,0,[(.string d.name),(.bool d.pedal),I d.lo,I d.hi,d.sv]⟩,⟨.map (some M1),0,KS kvs⟩]) d.stops.length ?_ ?_
 ·simp(disch:=omega) only[RB,RC,simprocAttr,hn]
  exact⟨0,[],⟨by omega,by simp,by simp[a1F]⟩,rfl,hS4⟩
 rintro n l H5⟨hn,g2,g3,g6,g23,g24,i,kvs,⟨hi1,hz,hk⟩,g25,hS5⟩
 simp(disch:=omega) only[↓RA,RB,simprocAttr,hn,g24,g25]
 refine iF (fun q1=> ?_) (fun q1=> ?_)
 ·have key:oL o.ranks d.lo d.hi d.stops i≠0→divE o.ranks d=oL o.ranks d.lo d.hi d.stops i:=fun hne=>by rw[hE,rB _ _ i (by omega) hne hz]
  simp(disch:=omega) only[↓RA,RZ,simprocAttr,hn,g23,g25,(hS5.sl hd.1).idx,(hS5.sl hd.1).ae,Stp.cells,q1]
  refine hS5.eNew 4 [(.string ⟨#[]⟩),I 0,I 0,(.slice none 0 0)] rfl rfl rfl a3I fun A3 H6 hS6=> ?_
  simp only[RT]at hS6
  simp(disch:=omega) only[↓RA,RZ,simprocAttr,hn,q1]
  refine hS6.aa 3 rfl [(.string (iG d.stops i).name),I (iG d.stops i).num,I (iG d.stops i).den,(iG d.stops i).gv] rfl (by simp[OC,(hS6.sl (hd.2.1 (iG d.stops i) (iM (by omega))).1).cells.2.1]) a3I (by simp) fun H7 hS7=> ?_
  simp only[RT]at hS7
  simp(disch:=omega) only[↓RA,RZ,simprocAttr,hn,g2,g3,hS7.ld 0 rfl,hS7.ae 1 rfl,b2U (hS7.sl ho.1).cells,hS7.ae 3 rfl,q1]
  refine hS7.cF (b9f o.rv o.ranks d.lo d.hi (hS7.sl ho.1) (fun r h=>(ho.2.1 r h).ag hS7) ho.2.2.2.2.2.1 (iG d.stops i) ((hd.2.1 _ (iM (by omega))).ag hS7)) fun H8 hS8=> ?_
  simp(disch:=omega) only[↓RA,RZ,simprocAttr,hn,q1]
  refine iF (fun q2=> ?_) (fun q2=> ?_)
  ·have e1:oL o.ranks d.lo d.hi d.stops i=stopE o.ranks d.lo d.hi (iG d.stops i):=by rw[oL,if_pos q2]
   simp(disch:=omega) only[↓RA,RZ,simprocAttr,hn,b6Q,q1,q2]
   exact⟨by rw[key (by rw[e1];exact q2),e1],hS8.forget⟩
  simp(disch:=omega) only[↓RA,RZ,simprocAttr,hn,g6,hS8.ld 3 rfl,q1,q2]
  have hM1:=hS8.pick (os':=[⟨.map (some M1),0,_⟩]) [2] (by decide) rfl
  have hR1:=hS8.pick (os':=[⟨.map (some M1),0,_⟩,⟨ptr A1 0 4,0,_⟩,⟨ptr A2 0 5,0,_⟩,⟨ptr A3 0 4,0,_⟩]) [2,0,1,3] (by decide) rfl
  refine iR (a1E _ M1 kvs (iG d.stops i).name hM1.aO) ?_
  rintro r H9⟨rfl,kvs',hk',hT3⟩
  have hS9:=hR1.frame hT3
  simp only[RT]at hS9
  simp(disch:=omega) only[↓RA,RZ,simprocAttr,hn,q1,q2]
  refine iF (fun q3=> ?_) (fun q3=> ?_)
  ·have q3':qD kvs (iG d.stops i).name=true:=by
    by_cases hh:qD kvs (iG d.stops i).name=true
    ·exact hh
    ·rw[if_neg hh]at q3;exact absurd rfl q3
   have e1:oL o.ranks d.lo d.hi d.stops i=9:=by rw[oL,if_neg q2,if_pos ((hk _).1 q3')]
   simp(disch:=omega) only[↓RA,RZ,simprocAttr,hn,b6Q,q1,q2,q3]
   exact⟨by rw[key (by rw[e1];decide),e1,if_pos q3'],hS9.forget⟩
  have q3':¬qD kvs (iG d.stops i).name=true:=fun hh=>q3 (by rw[if_pos hh];decide)
  have e0:oL o.ranks d.lo d.hi d.stops i=0:=by rw[oL,if_neg q2,if_neg (fun hh=>q3' ((hk _).2 hh))]
  simp(disch:=omega) only[↓RA,RZ,simprocAttr,hn,g2,g3,g6,g23,g24,g25,q1,q2,q3]
  exact⟨n-1,by omega,i+1,kvs',⟨by omega,fun j hj=>by rcases dw.1 hj with e|e;(· exact hz j e);(· rw[e];exact e0),zG (f:=fun q=>(iG d.stops q).name) hk hk'⟩,by simp,hS9.pick [1,2,0] (by decide) rfl⟩
 simp(disch:=omega) only[↓RA,RZ,simprocAttr,hn,b6Q,q1]
 exact⟨by rw[hE,mN _ _ fun j hj=>hz j (by omega)],hS5.forget⟩
def oE(l:List Rk)(j:Nat):Int:=if rankE (iG l j)≠0 then rankE (iG l j)else if ∃q,q<j∧(iG l q).name=(iG l j).name then 9 else 0
def tG(rs:List Rk)(l:List Dvn)(j:Nat):Int:=if kP (iG l j).name=false then 8 else if ∃q,q<j∧(iG l q).name=(iG l j).name then 9 else divE rs (iG l j)
def kps(l:List Dvn):List (Int×Int):=l.map fun d=>(d.lo,d.hi)
def organE(o:Org):Int:=if kP o.name=false then 8 else if 60<o.ranks.length then 4 else if mL (oE o.ranks) o.ranks.length≠0 then mL (oE o.ranks) o.ranks.length else
 if o.dvs.length=0 then 13 else if 8<o.dvs.length then 4 else if mL (tG o.ranks o.dvs) o.dvs.length≠0 then mL (tG o.ranks o.dvs) o.dvs.length else rJ (kps o.dvs) o.cpls
theorem b0J(k:Int×Int):(kpc k).length=2:=rfl
theorem b5d(l:List Dvn)(i:Nat)(h:i<l.length):(kps (l.take (i+1))).flatMap kpc=(kps (l.take i)).flatMap kpc++[I (iG l i).lo,I (iG l i).hi]:=by
 unfold kps
 rw[a2C l i h,dN,dD]
 rfl
theorem a6P(o:Org)(ho:o.In H):Fn prog 47 [.agg #[.string o.name,o.rv,o.dv,o.cv]] H fun v H'=>v=I (organE o)∧St prog H H' []:=by
 have hlr:=ho.2.2.2.2.2.1
 have hld:=ho.2.2.2.2.2.2.1
 have hlc:=ho.2.2.2.2.2.2.2
 refine .aS func47 rfl (by kernel_rfl) (m:=89) rfl fun l hn g0=> ?_
 simp(disch:=omega) only[↓RA,RB,simprocAttr,g0]
 refine(sR H).eNew 4 [(.string o.name),o.rv,o.dv,o.cv] rfl rfl (by simp[OC,((sR H).sl ho.1).cells.2.1,((sR H).sl ho.2.2.1).cells.2.1,((sR H).sl ho.2.2.2.2.1).cells.2.1]) a5Y fun A1 H1 hS1=> ?_
 simp only[RT]at hS1
 simp(disch:=omega) only[↓RA,RZ,simprocAttr,hn,hS1.ld 0 rfl]
 refine hS1.cF (qN _) fun H2 hS2=> ?_
 simp(disch:=omega) only[↓RA,RB,simprocAttr,hn]
 refine jD (fun p1=> ?_) (fun p1=> ?_)
 ·simp(disch:=omega) only[↓RA,RB,simprocAttr,hn,a2P,p1]
  exact⟨by rw[organE,if_pos (by simpa using p1)],hS2.forget⟩
 have p1':¬kP o.name=false:=by simpa using p1
 simp(disch:=omega) only[↓RA,RZ,simprocAttr,hn,hS2.ld 0 rfl,(hS2.sl ho.1).len,p1]
 refine iF (fun p2=> ?_) (fun p2=> ?_)
 ·simp(disch:=omega) only[↓RA,RZ,simprocAttr,hn,a2P,p1,p2]
  exact⟨by rw[organE,if_neg p1',if_pos (by omega)],hS2.forget⟩
 simp(disch:=omega) only[↓RA,simprocAttr]
 refine hS2.bV a6R fun M1 H3 hS3=> ?_
 simp only[RT]at hS3
 simp(disch:=omega) only[↓RA,RZ,simprocAttr,hn,hS3.ld 0 rfl,(hS3.sl ho.1).len,p1,p2]
 refine Wp.aj (fun n l H'=>l.length=89∧get l 1=(ptr A1 0 4)∧get l 3=(.map (some M1))∧get l 25=o.rv∧get l 26=I o.ranks.length∧∃(i:Nat)(kvs:List (ByteArray×Bool)),(n+i=o.ranks.length∧(∀j,j<i→oE o.ranks j=0)∧(∀t,qD kvs t=true↔∃q,q<i∧(iG o.ranks q).name=t))∧get l 27=I i∧St prog H H' [⟨ptr A1 0 4,0,[(.string o.name),o.rv,o.dv,o.cv]⟩,⟨.map (some M1),0,KS kvs⟩]) o.ranks.length ?_ ?_
 ·simp(disch:=omega) only[RB,RC,simprocAttr,hn]
  exact⟨0,[],⟨by omega,by simp,by simp[a1F]⟩,rfl,hS3⟩
 rintro n l H4⟨hn,g1,g3,g25,g26,i,kvs,⟨hi1,hz,hk⟩,g27,hS4⟩
 simp(disch:=omega) only[↓RA,RB,simprocAttr,hn,g26,g27]
 refine iF (fun q1=> ?_) (fun q1=> ?_)
 ·have key:oE o.ranks i≠0→organE o=oE o.ranks i:=fun hne=>by rw[organE,if_neg p1',if_neg (by omega),rB _ _ i (by omega) hne hz,if_pos hne]
  simp(disch:=omega) only[↓RA,RZ,simprocAttr,hn,g25,g27,(hS4.sl ho.1).idx,(hS4.sl ho.1).ae,Rk.cells,q1]
  refine hS4.eNew 6 [(.string ⟨#[]⟩),(.string ⟨#[]⟩),I 0,I 0,I 0,(.slice none 0 0)] rfl rfl rfl a0A fun A2 H5 hS5=> ?_
  simp only[RT]at hS5
  simp(disch:=omega) only[↓RA,RZ,simprocAttr,hn,q1]
  refine hS5.aa 2 rfl [(.string (iG o.ranks i).name),(.string (iG o.ranks i).tone),I (iG o.ranks i).num,I (iG o.ranks i).den,I (iG o.ranks i).first,(iG o.ranks i).wv] rfl (by simp[OC,(hS5.sl (ho.2.1 (iG o.ranks i) (iM (by omega))).1).cells.2.1]) a0A (by simp) fun H6 hS6=> ?_
  simp only[RT]at hS6
  simp(disch:=omega) only[↓RA,RZ,simprocAttr,hn,hS6.ae 2 rfl,q1]
  refine hS6.cF (b1f (iG o.ranks i) ((ho.2.1 _ (iM (by omega))).ag hS6)) fun H7 hS7=> ?_
  simp(disch:=omega) only[↓RA,RZ,simprocAttr,hn,q1]
  refine iF (fun q2=> ?_) (fun q2=> ?_)
  ·have e1:oE o.ranks i=rankE (iG o.ranks i):=by rw[oE,if_pos q2]
   simp(disch:=omega) only[↓RA,RZ,simprocAttr,hn,a2P,q1,q2]
   exact⟨by rw[key (by rw[e1];exact q2),e1],hS7.forget⟩
  simp(disch:=omega) only[↓RA,RZ,simprocAttr,hn,g3,hS7.ld 2 rfl,q1,q2]
  have hM1:=hS7.pick (os':=[⟨.map (some M1),0,_⟩]) [1] (by decide) rfl
  have hR1:=hS7.pick (os':=[⟨.map (some M1),0,_⟩,⟨ptr A1 0 4,0,_⟩,⟨ptr A2 0 6,0,_⟩]) [1,0,2] (by decide) rfl
  refine iR (a1E _ M1 kvs (iG o.ranks i).name hM1.aO) ?_
  rintro r H8⟨rfl,kvs',hk',hT3⟩
  have hS8:=hR1.frame hT3
  simp only[RT]at hS8
  simp(disch:=omega) only[↓RA,RZ,simprocAttr,hn,q1,q2]
  refine iF (fun q3=> ?_) (fun q3=> ?_)
  ·have q3':qD kvs (iG o.ranks i).name=true:=by
    by_cases hh:qD kvs (iG o.ranks i).name=true
    ·exact hh
    ·rw[if_neg hh]at q3;exact absurd rfl q3
   have e1:oE o.ranks i=9:=by rw[oE,if_neg q2,if_pos ((hk _).1 q3')]
   simp(disch:=omega) only[↓RA,RZ,simprocAttr,hn,a2P,q1,q2,q3]
   exact⟨by rw[key (by rw[e1];decide),e1,if_pos q3'],hS8.forget⟩
  have q3':¬qD kvs (iG o.ranks i).name=true:=fun hh=>q3 (by rw[if_pos hh];decide)
  have e0:oE o.ranks i=0:=by rw[oE,if_neg q2,if_neg (fun hh=>q3' ((hk _).2 hh))]
  simp(disch:=omega) only[↓RA,RZ,simprocAttr,hn,g1,g3,g25,g26,g27,q1,q2,q3]
  exact⟨n-1,by omega,i+1,kvs',⟨by omega,fun j hj=>by rcases dw.1 hj with e|e;(· exact hz j e);(· rw[e];exact e0),zG (f:=fun q=>(iG o.ranks q).name) hk hk'⟩,by simp,hS8.pick [1,0] (by decide) rfl⟩
 have hR:mL (oE o.ranks) o.ranks.length=0:=mN _ _ fun j hj=>hz j (by omega)
 clear hk hz
 simp(disch:=omega) only[↓RA,RZ,simprocAttr,hn,g1,hS4.ld 0 rfl,(hS4.sl ho.2.2.1).len,q1]
 refine iF (fun p4=> ?_) (fun p4=> ?_)
 ·simp(disch:=omega) only[↓RA,RZ,simprocAttr,hn,a2P,q1,p4]
  exact⟨by rw[organE,if_neg p1',if_neg (by omega),if_neg (by rw[hR];simp),if_pos (by omega)],hS4.forget⟩
 simp(disch:=omega) only[↓RA,RZ,simprocAttr,hn,g1,hS4.ld 0 rfl,(hS4.sl ho.2.2.1).len,q1,p4]
 refine iF (fun p5=> ?_) (fun p5=> ?_)
 ·simp(disch:=omega) only[↓RA,RZ,simprocAttr,hn,a2P,q1,p4,p5]
  exact⟨by rw[organE,if_neg p1',if_neg (by omega),if_neg (by rw[hR];simp),if_neg (by omega),if_pos (by omega)],hS4.forget⟩
 have hE:organE o=if mL (tG o.ranks o.dvs) o.dvs.length≠0 then mL (tG o.ranks o.dvs) o.dvs.length else rJ (kps o.dvs) o.cpls:=by
  rw[organE,if_neg p1',if_neg (by omega),if_neg (by rw[hR];simp),if_neg (by omega),if_neg (by omega)]
 clear hR
 simp(disch:=omega) only[↓RA,simprocAttr]
 refine hS4.bV a6R fun M2 H9 hS9=> ?_
 simp only[RT]at hS9
 simp(disch:=omega) only[↓RA,RZ,simprocAttr,hn,g1,hS9.ld 0 rfl,(hS9.sl ho.2.2.1).len,q1,p4,p5]
 have hS10:=hS9.pick (os':=[⟨ptr A1 0 4,0,_⟩,⟨.map (some M2),0,_⟩]) [0,2] (by decide) rfl
 have hS11:=hS10.nil 1
 simp only[RT]at hS11
 refine Wp.aj (fun n l H'=>l.length=89∧get l 1=(ptr A1 0 4)∧get l 3=(.map (some M2))∧get l 56=o.dv∧get l 57=I o.dvs.length∧∃(i:Nat)(kvs:List (ByteArray×Bool))(w:Value),(n+i=o.dvs.length∧(∀j,j<i→tG o.ranks o.dvs j=0)∧(∀t,qD kvs t=true↔∃q,q<i∧(iG o.dvs q).name=t))∧get l 58=I i∧get l 8=w∧St prog H H' [⟨ptr A1 0 4,0,[(.string o.name),o.rv,o.dv,o.cv]⟩,⟨.map (some M2),0,KS kvs⟩,⟨w,2,(kps (o.dvs.take i)).flatMap kpc⟩]) o.dvs.length ?_ ?_
 ·simp(disch:=omega) only[RB,RC,simprocAttr,hn,g1]
  exact⟨0,[],_,⟨by omega,by simp,by simp[a1F]⟩,rfl,rfl,hS11⟩
 rintro n l H10⟨hn,g1,g3,g56,g57,i,kvs,w,⟨hi1,hz,hk⟩,g58,g8,hS12⟩
 simp(disch:=omega) only[↓RA,RB,simprocAttr,hn,g57,g58]
 refine iF (fun q1=> ?_) (fun q1=> ?_)
 ·have key:tG o.ranks o.dvs i≠0→organE o=tG o.ranks o.dvs i:=fun hne=>by rw[hE,rB _ _ i (by omega) hne hz,if_pos hne]
  simp(disch:=omega) only[↓RA,RZ,simprocAttr,hn,g56,g58,(hS12.sl ho.2.2.1).idx,(hS12.sl ho.2.2.1).ae,Dvn.cells,q1]
  refine hS12.eNew 5 [(.string ⟨#[]⟩),(.bool false),I 0,I 0,(.slice none 0 0)] rfl rfl rfl rF fun A3 H11 hS13=> ?_
  simp only[RT]at hS13
  simp(disch:=omega) only[↓RA,RZ,simprocAttr,hn,q1]
  refine hS13.aa 3 rfl [(.string (iG o.dvs i).name),(.bool (iG o.dvs i).pedal),I (iG o.dvs i).lo,I (iG o.dvs i).hi,(iG o.dvs i).sv] rfl (by simp[OC,(hS13.sl (ho.2.2.2.1 (iG o.dvs i) (iM (by omega))).1).cells.2.1]) rF (by simp) fun H12 hS14=> ?_
  simp only[RT]at hS14
  simp(disch:=omega) only[↓RA,RZ,simprocAttr,hn,hS14.ld 3 rfl,q1]
  refine hS14.cF (qN _) fun H13 hS15=> ?_
  simp(disch:=omega) only[↓RA,RZ,simprocAttr,hn,q1]
  refine jD (fun q2=> ?_) (fun q2=> ?_)
  ·have e1:tG o.ranks o.dvs i=8:=by rw[tG,if_pos (by simpa using q2)]
   simp(disch:=omega) only[↓RA,RZ,simprocAttr,hn,a2P,q1,q2]
   exact⟨by rw[key (by rw[e1];decide),e1],hS15.forget⟩
  have q2':¬kP (iG o.dvs i).name=false:=by simpa using q2
  simp(disch:=omega) only[↓RA,RZ,simprocAttr,hn,g3,hS15.ld 3 rfl,q1,q2]
  have hM2:=hS15.pick (os':=[⟨.map (some M2),0,_⟩]) [1] (by decide) rfl
  have hR2:=hS15.pick (os':=[⟨.map (some M2),0,_⟩,⟨ptr A1 0 4,0,_⟩,⟨w,2,_⟩,⟨ptr A3 0 5,0,_⟩]) [1,0,2,3] (by decide) rfl
  refine iR (a1E _ M2 kvs (iG o.dvs i).name hM2.aO) ?_
  rintro r H14⟨rfl,kvs',hk',hT5⟩
  have hS16:=hR2.frame hT5
  simp only[RT]at hS16
  simp(disch:=omega) only[↓RA,RZ,simprocAttr,hn,q1,q2]
  refine iF (fun q3=> ?_) (fun q3=> ?_)
  ·have q3':qD kvs (iG o.dvs i).name=true:=by
    by_cases hh:qD kvs (iG o.dvs i).name=true
    ·exact hh
    ·rw[if_neg hh]at q3;exact absurd rfl q3
   have e1:tG o.ranks o.dvs i=9:=by rw[tG,if_neg q2',if_pos ((hk _).1 q3')]
   simp(disch:=omega) only[↓RA,RZ,simprocAttr,hn,a2P,q1,q2,q3]
   exact⟨by rw[key (by rw[e1];decide),e1,if_pos q3'],hS16.forget⟩
  have q3':¬qD kvs (iG o.dvs i).name=true:=fun hh=>q3 (by rw[if_pos hh];decide)
  simp(disch:=omega) only[↓RA,RZ,simprocAttr,hn,g1,hS16.ae 1 rfl,hS16.ae 3 rfl,q1,q2,q3]
  refine hS16.cF (c2u o (ho.ag hS16) (iG o.dvs i) ((ho.2.2.2.1 _ (iM (by omega))).ag hS16)) fun H15 hS17=> ?_
  have e0:tG o.ranks o.dvs i=divE o.ranks (iG o.dvs i):=by rw[tG,if_neg q2',if_neg (fun hh=>q3' ((hk _).2 hh))]
  simp(disch:=omega) only[↓RA,RZ,simprocAttr,hn,q1,q2,q3]
  refine iF (fun q4=> ?_) (fun q4=> ?_)
  ·simp(disch:=omega) only[↓RA,RZ,simprocAttr,hn,a2P,q1,q2,q3,q4]
   exact⟨by rw[key (by rw[e0];exact q4),e0],hS17.forget⟩
  have e2:tG o.ranks o.dvs i=0:=by rw[e0];exact dI.1 q4
  simp(disch:=omega) only[↓RA,RZ,simprocAttr,hn,g8,hS17.ae 3 rfl,q1,q2,q3,q4]
  refine hS17.ak [I (iG o.dvs i).lo,I (iG o.dvs i).hi] c0z c3g rfl rfl (by simp[Value.cells]) rfl rfl (by decide) (by decide) fun w1 H16 hS18=> ?_
  simp only[RT]at hS18
  simp(disch:=omega) only[↓RA,RZ,simprocAttr,hn,q1,q2,q3,q4]
  refine hS18.av 2 rfl (hS18.rd 4 rfl) c0z (by rw[jF b0J];simp[kps];omega) fun w2 H17 hS19=> ?_
  simp only[RT]at hS19
  simp(disch:=omega) only[↓RA,RZ,simprocAttr,hn,g1,g3,g56,g57,g58,q1,q2,q3,q4]
  refine⟨n-1,by omega,i+1,kvs',_,⟨by omega,fun j hj=>by rcases dw.1 hj with e|e;(· exact hz j e);(· rw[e];exact e2),zG (f:=fun q=>(iG o.dvs q).name) hk hk'⟩,by simp,rfl,?_⟩
  rw[b5d _ _ (by omega)]
  exact hS19.pick [1,0,2] (by decide) rfl
 have hD:mL (tG o.ranks o.dvs) o.dvs.length=0:=mN _ _ fun j hj=>hz j (by omega)
 have hi:i=o.dvs.length:=by omega
 subst hi
 rw[eo]at hS12
 simp(disch:=omega) only[↓RA,RZ,simprocAttr,hn,g1,g8,hS12.ld 0 rfl,q1]
 refine hS12.cF (a6n w o.cv (kps o.dvs) o.cpls (hS12.az 2 rfl b0J) (hS12.sl ho.2.2.2.2.1) (by simp[kps];omega) hlc) fun H18 hS20=> ?_
 simp(disch:=omega) only[↓RA,RZ,simprocAttr,hn,a2P,q1]
 exact⟨by rw[hE,if_neg (by rw[hD];simp)],hS20.forget⟩
end Go.Ds
namespace Go.Ds
open Go.Proofs
variable {H:Heap}
def b5W:List (Int×Int):=[(8,1),(4,1),(16,1),(8,3),(2,1),(8,5)]
def b6r:List (Int×Int):=[(8,1),(4,1),(16,1),(2,1),(8,3),(8,5),(4,3),(1,1),(32,1),(16,3),(16,5),(32,3),(8,7),(2,3),(1,2),(64,1)]
end Go.Ds
namespace Go.Ds
open Go.Proofs
variable {H:Heap}
set_option maxRecDepth 10000
structure RPl where
 tone:Nat
 feet:Nat
 first:Int
 pipes:Nat
 w0:Nat
 w1:Nat
 w2:Nat
 w3:Nat
 w4:Nat
 deriving Inhabited
def RPl.cells(p:RPl):List Value:=[.int .u8 p.tone,.int .u8 p.feet,.int .i8 p.first,.int .u8 p.pipes,.int .u8 p.w0,.int .u8 p.w1,.int .u8 p.w2,.int .u8 p.w3,.int .u8 p.w4]
def RPl.Ok(p:RPl):Prop:=p.tone<256∧p.feet<256∧-128≤p.first∧p.first<128∧p.pipes<256∧p.w0<256∧p.w1<256∧p.w2<256∧p.w3<256∧p.w4<256
def RPl.wind(p:RPl)(j:Nat):Nat:=iG [p.w0,p.w1,p.w2,p.w3,p.w4] (j%5)
theorem RPl.Ok.wind{p:RPl}(hp:p.Ok)(j:Nat):p.wind j<256:=by
 obtain⟨_,_,_,_,_,h0,h1,h2,h3,h4⟩:=hp
 have:j%5=0∨j%5=1∨j%5=2∨j%5=3∨j%5=4:=by omega
 unfold RPl.wind
 rcases this with e|e|e|e|e<;>rw[e]<;>assumption
def b7m:List ByteArray:=[⟨#[79,112,101,110]⟩,⟨#[70,108,117,116,101]⟩,⟨#[82,101,101,100]⟩]
end Go.Ds
namespace Go.Ds
open Go.Proofs
variable {P:Program} {H:Heap} {α:Type} {n:Nat} {cel:α→List Value} {v:Value} {xs:List α} {X Y:Nat→Prop}
theorem RdAt.lt{size:Nat}{cs:List Value}(h:RdAt H v size cs){B:Nat}(hb:jY v=some B):B<H.length:=by
 rcases h with⟨h1,_⟩|⟨A,i,e,row,ty,rw,lo,ver,n,h,_,_,_,_,_,h7⟩
 ·rw[h1]at hb;simp[jY]at hb
 ·rw[h7]at hb
  simp[jY]at hb
  exact hb▸jP h
theorem RdAt.cK{H':Heap}{size:Nat}{cs:List Value}(h:RdAt H v size cs)(hk:∀B,jY v=some B→iT H' B=iT H B):RdAt H' v size cs:=by
 rcases h with h|⟨A,i,e,row,ty,rw,lo,ver,n,h,h2,h3,h4,h5,h6,h7⟩
 ·exact .inl h
 ·exact .inr ⟨A,i,e,row,ty,rw,lo,ver,n,by rw[hk A (by rw[h7];rfl),h],h2,h3,h4,h5,h6,h7⟩
theorem St.aQ{B0:Base}{os:List Ob}(hS:St P B0 H os):∃B:Base,B=⟨H,qY os⟩∧St P B H os:=⟨_,rfl,hS.aO⟩
theorem St.ax{B0 B:Base}{H1:Heap}{os os1:List Ob}(hS:St P B0 H os)(hB:B=⟨H,qY os⟩)(h1:St P B H1 os1):St P B0 H1 os1:=by
 subst hB
 exact hS.bC h1
def Slx(n:Nat)(cel:α→List Value)(H:Heap)(X:Nat→Prop)(v:Value)(xs:List α):Prop:=Sl n cel H v xs∧∀B,jY v=some B→X B
def Kept(H:Heap)(X:Nat→Prop)(H':Heap)(Y:Nat→Prop):Prop:=∀B,X B→B<H.length→iT H' B=iT H B∧Y B
theorem Slx.step{H':Heap}(h:Slx n cel H X v xs)(hk:Kept H X H' Y):Slx n cel H' Y v xs:=
 ⟨⟨h.1.rd.cK fun B hb=>(hk B (h.2 B hb) (h.1.rd.lt hb)).1,h.1.hc,h.1.pos⟩,fun B hb=>(hk B (h.2 B hb) (h.1.rd.lt hb)).2⟩
def nb(vs:List Value):Nat→Prop:=fun B=>∀v∈vs,jY v≠some B
theorem a9e(os:List Ob)(B:Nat):nb (os.map (·.v)) B↔¬qY os B:=by
 unfold nb qY
 constructor
 ·rintro h⟨o,ho,hb⟩
  exact h o.v (gx ho) hb
 ·intro h v hv hb
  obtain⟨o,ho,rfl⟩:=dE.1 hv
  exact h ⟨o,ho,hb⟩
theorem St.kept{B:Base}{H':Heap}{os os':List Ob}(hS:St P B H' os')(hB:B=⟨H,qY os⟩):Kept H (nb (os.map (·.v))) H' (nb (os'.map (·.v))):=by
 subst hB
 intro B hX hB
 rw[a9e]at hX ⊢
 exact⟨hS.old B hB hX,fun⟨o,ho,hb⟩=>by
  rcases hS.new o ho B hb with h|h
  ·have h:H.length≤B:=h
   omega
  ·exact hX h⟩
theorem St.bX{H0:Base}{H':Heap}{os:List Ob}(hS:St P H0 H os):Kept H' (fun B=>H.length≤B) H' (nb (os.map (·.v))):=by
 intro B hX hB
 rw[a9e]
 exact⟨rfl,fun⟨o,ho,hb⟩=>by
  have:=(hS.own o ho).lt hb
  omega⟩
theorem Kept.trans{H' H'':Heap}{X Y Z:Nat→Prop}(h:Kept H X H' Y)(h':Kept H' Y H'' Z)(hl:H.length≤H'.length):Kept H X H'' Z:=
 fun B hX hB=>by
  obtain⟨e,hY⟩:=h B hX hB
  obtain⟨e',hZ⟩:=h' B hY (dV hB hl)
  exact⟨e'.trans e,hZ⟩
theorem Slx.any(h:Slx n cel H X v xs):Slx n cel H (fun _=>True) v xs:=⟨h.1,fun _ _=>trivial⟩
def Seg.Ix(H:Heap)(X:Nat→Prop)(s:Seg):Prop:=Slx 2 Drw.cells H X s.dv s.draws∧s.draws.length<1000000000
def Stp.Ix(H:Heap)(X:Nat→Prop)(s:Stp):Prop:=Slx 3 Seg.cells H X s.gv s.segs∧(∀g∈s.segs,g.Ix H X)∧s.segs.length<1000000000
def Dvn.Ix(H:Heap)(X:Nat→Prop)(d:Dvn):Prop:=Slx 4 Stp.cells H X d.sv d.stops∧(∀s∈d.stops,s.Ix H X)∧d.stops.length<1000000000
def Rk.Ix(H:Heap)(X:Nat→Prop)(r:Rk):Prop:=Slx 1 (one I) H X r.wv r.wind∧r.wind.length<1000000000
section
variable {H':Heap}
theorem Seg.Ix.step{s:Seg}(h:s.Ix H X)(hk:Kept H X H' Y):s.Ix H' Y:=⟨h.1.step hk,h.2⟩
theorem Stp.Ix.step{s:Stp}(h:s.Ix H X)(hk:Kept H X H' Y):s.Ix H' Y:=⟨h.1.step hk,fun g hg=>(h.2.1 g hg).step hk,h.2.2⟩
theorem Dvn.Ix.step{d:Dvn}(h:d.Ix H X)(hk:Kept H X H' Y):d.Ix H' Y:=⟨h.1.step hk,fun g hg=>(h.2.1 g hg).step hk,h.2.2⟩
theorem Rk.Ix.step{r:Rk}(h:r.Ix H X)(hk:Kept H X H' Y):r.Ix H' Y:=⟨h.1.step hk,h.2⟩
theorem Seg.Ix.in{s:Seg}(h:s.Ix H X):s.In H:=⟨h.1.1,h.2⟩
theorem Stp.Ix.in{s:Stp}(h:s.Ix H X):s.In H:=⟨h.1.1,fun g hg=>(h.2.1 g hg).in,h.2.2⟩
theorem Dvn.Ix.in{d:Dvn}(h:d.Ix H X):d.In H:=⟨h.1.1,fun g hg=>(h.2.1 g hg).in,h.2.2⟩
theorem Rk.Ix.in{r:Rk}(h:r.Ix H X):r.In H:=⟨h.1.1,h.2⟩
end
theorem lN{α:Type}(f:α→Value)(l:List α):l.flatMap (one f)=l.map f:=by
 induction l with
 | nil=>rfl
 | cons a l ih=>rw[dL,ih];rfl
end Go.Ds
namespace Go.Ds
open Go.Proofs
def nm(c:UInt8)(i:Nat):ByteArray:=⟨#[c,UInt8.ofNat (48+i)]⟩
theorem a4z{c:UInt8}{i j:Nat}(hi:i<10)(hj:j<10)(h:nm c i=nm c j):i=j:=by
 unfold nm at h
 have h2:(#[c,UInt8.ofNat (48+i)]:Array UInt8)=#[c,UInt8.ofNat (48+j)]:=congrArg ByteArray.data h
 have h3:UInt8.ofNat (48+i)=UInt8.ofNat (48+j):=by simpa using h2
 have h4:=congrArg UInt8.toNat h3
 simp only[UInt8.toNat_ofNat']at h4
 omega
theorem a0U{c:UInt8}(hc:c=82∨c=68∨c=83∨c=67){i:Nat}(hi:i<10):kP (nm c i)=true:=by
 have h:i=0∨i=1∨i=2∨i=3∨i=4∨i=5∨i=6∨i=7∨i=8∨i=9:=by omega
 rcases hc with rfl|rfl|rfl|rfl<;>rcases h with rfl|rfl|rfl|rfl|rfl|rfl|rfl|rfl|rfl|rfl<;>decide
structure StpOk(m:Nat)(lo hi:Int)(i:Nat)(s:Stp):Prop where
 name:s.name=nm 83 i
 feet:(s.num,s.den)∈b5W
 pos:0<s.segs.length
 len:s.segs.length≤2
 segs:mL (lS lo hi m s.segs) s.segs.length=0
theorem b7g{p:Int×Int}(h:p∈b5W):rK p.1 p.2=0:=by
 have:b5W.all (fun p=>decide (rK p.1 p.2=0))=true:=by decide
 exact of_decide_eq_true (dJ.1 this p h)
theorem b4L{p:Int×Int}(h:p∈b6r):rK p.1 p.2=0:=by
 have:b6r.all (fun p=>decide (rK p.1 p.2=0))=true:=by decide
 exact of_decide_eq_true (dJ.1 this p h)
theorem StpOk.stopE{rs:List Rk}{lo hi:Int}{i:Nat}{s:Stp}(h:StpOk rs.length lo hi i s)(hi10:i<10)(hp:sW rs lo hi=0):stopE rs lo hi s=0:=by
 unfold Go.Ds.stopE
 rw[if_neg (by rw[hp];simp),if_neg (by rw[h.name,a0U (by simp) hi10];simp),if_neg (by rw[b7g h.feet];simp),if_neg (by have:=h.pos;omega),if_neg (by have:=h.len;omega)]
 exact h.segs
structure RkOk(i:Nat)(r:Rk):Prop where
 name:r.name=nm 82 i
 tone:r.tone∈b7m
 feet:(r.num,r.den)∈b6r
 first: -128≤r.first∧r.first<128
 pos:0<r.wind.length
 len:r.wind.length≤25
 wind:∀x∈r.wind,0≤x∧x<256
theorem b3Z{s:ByteArray}(h:s∈b7m):kP s=true:=by
 have:b7m.all (fun s=>kP s)=true:=by decide
 exact dJ.1 this s h
theorem RkOk.rankE{i:Nat}{r:Rk}(h:RkOk i r)(hi:i<10):rankE r=0:=by
 have hf:=h.first
 have hp:=h.pos
 have hl:=h.len
 have hw:zF r.wind=0:=by
  unfold zF
  rw[if_neg]
  intro hh
  rw[iA]at hh
  obtain⟨x,hx,hp⟩:=hh
  have:=h.wind x hx
  simp only[eG,decide_eq_true_eq]at hp
  omega
 unfold Go.Ds.rankE
 rw[if_neg (by rw[h.name,a0U (by simp) hi,b3Z h.tone];simp),if_neg (by rw[b4L h.feet];simp),if_neg (by omega),if_neg (by omega),if_neg (by omega),hw]
theorem a1m{lo hi:Int}(h0:0≤lo)(h1:lo≤hi)(h2:hi≤127):qV lo hi=0:=by
 unfold qV
 rw[if_neg (by omega),if_neg (by omega)]
theorem c2f{rs:List Rk}{lo hi:Int}(hl:rs.length≤3)(hr:∀j,j<rs.length→RkOk j (iG rs j))(h0:0≤lo)(h1:lo≤hi)(h2:hi≤127):sW rs lo hi=0:=by
 have e:=mN (fun j=>Go.Ds.rankE (iG rs j)) rs.length fun j hj=>(hr j hj).rankE (by omega)
 unfold sW
 rw[if_neg (by omega),if_neg (by rw[e];simp)]
 exact a1m h0 h1 h2
structure DvOk(m i:Nat)(d:Dvn):Prop where
 name:d.name=nm 68 i
 lo:36≤d.lo
 le:d.lo≤d.hi
 hi:d.hi≤60
 wide:d.hi≤d.lo+8
 len:d.stops.length≤3
 stops:∀k,k<d.stops.length→StpOk m d.lo d.hi k (iG d.stops k)
structure CpOk(n i:Nat)(c:Cpl):Prop where
 name:c.name=nm 67 i
 src:0≤c.src∧c.src<n
 dst:0≤c.dst∧c.dst<n
 shift: -24≤c.shift∧c.shift≤24
 ne:¬(c.src=c.dst∧c.shift=0)
def b4V:ByteArray:=⟨#[79,114,103,97,110]⟩
structure OrgOk(o:Org):Prop where
 name:o.name=b4V
 rpos:0<o.ranks.length
 rlen:o.ranks.length≤3
 ranks:∀j,j<o.ranks.length→RkOk j (iG o.ranks j)
 dpos:0<o.dvs.length
 dlen:o.dvs.length≤3
 dvs:∀j,j<o.dvs.length→DvOk o.ranks.length j (iG o.dvs j)
 clen:o.cpls.length≤3
 cpls:∀j,j<o.cpls.length→CpOk o.dvs.length j (iG o.cpls j)
theorem b2C:kP b4V=true:=by decide
theorem DvOk.divE{rs:List Rk}{i:Nat}{d:Dvn}(h:DvOk rs.length i d)(hl:rs.length≤3)(hr:∀j,j<rs.length→RkOk j (iG rs j)):divE rs d=0:=by
 have h1:=h.lo
 have h2:=h.le
 have h3:=h.hi
 have h4:=h.len
 unfold Go.Ds.divE
 rw[if_neg (by rw[a1m (by omega) h2 (by omega)];simp),if_neg (by omega)]
 refine mN _ _ fun j hj=> ?_
 have hs:=h.stops j hj
 unfold oL
 rw[if_neg (by rw[hs.stopE (by omega) (c2f hl hr (by omega) h2 (by omega))];simp),if_neg]
 rintro⟨q,hq,e⟩
 rw[hs.name,(h.stops q (by omega)).name]at e
 have:=a4z (by omega) (by omega) e
 omega
theorem OrgOk.organE{o:Org}(h:OrgOk o):organE o=0:=by
 have h1:=h.rpos
 have h2:=h.rlen
 have h3:=h.dpos
 have h4:=h.dlen
 have h5:=h.clen
 have e1:mL (oE o.ranks) o.ranks.length=0:=mN _ _ fun j hj=>by
  unfold oE
  rw[if_neg (by rw[(h.ranks j hj).rankE (by omega)];simp),if_neg]
  rintro⟨q,hq,e⟩
  rw[(h.ranks j hj).name,(h.ranks q (by omega)).name]at e
  have:=a4z (by omega) (by omega) e
  omega
 have e2:mL (tG o.ranks o.dvs) o.dvs.length=0:=mN _ _ fun j hj=>by
  unfold tG
  rw[if_neg (by rw[(h.dvs j hj).name,a0U (by simp) (by omega)];simp),if_neg]
  ·exact(h.dvs j hj).divE h2 h.ranks
  rintro⟨q,hq,e⟩
  rw[(h.dvs j hj).name,(h.dvs q (by omega)).name]at e
  have:=a4z (by omega) (by omega) e
  omega
 have e3:rJ (kps o.dvs) o.cpls=0:=by
  have hk:(kps o.dvs).length=o.dvs.length:=by simp[kps]
  unfold rJ
  rw[if_neg (by omega),if_neg]
  ·refine mN _ _ fun j hj=> ?_
   have hc:=h.cpls j hj
   have c1:=hc.src
   have c2:=hc.dst
   have c3:=hc.shift
   unfold mT
   simp only
   rw[if_neg (by rw[hc.name,a0U (by simp) (by omega)];simp),if_neg,if_neg (by rw[hk];omega),if_neg (by omega),if_neg hc.ne]
   rintro⟨q,hq,e⟩
   rw[hc.name,(h.cpls q (by omega)).name]at e
   have:=a4z (by omega) (by omega) e
   omega
  ·rintro⟨k,hk,hne⟩
   unfold kps at hk
   obtain⟨d,hd,rfl⟩:=dE.1 hk
   obtain⟨j,hj,rfl⟩:=ek.1 hd
   have hd:=h.dvs j hj
   rw[jV o.dvs j hj]at hd
   have h1:=hd.lo
   have h2:=hd.le
   have h3:=hd.hi
   exact hne (a1m (by omega) h2 (by omega))
 unfold Go.Ds.organE
 rw[if_neg (by rw[h.name,b2C];simp),if_neg (by omega),if_neg (by rw[e1];simp),if_neg (by omega),if_neg (by omega),if_neg (by rw[e2];simp)]
 exact e3
def lE(x:Int×Int):List Value:=[I x.1,I x.2]
def pr(l:List (Int×Int)):List Value:=l.flatMap lE
theorem kI(x:Int×Int):(lE x).length=2:=rfl
theorem iO(l:List (Int×Int)):(pr l).length=l.length*2:=jF kI l
def le2(x y:Int×Int):Bool:=decide (x.1<y.1)||(decide (x.1=y.1)&&decide (x.2≤y.2))
theorem b0Z(x y:Int×Int):le2 x y=true↔x.1<y.1∨(x.1=y.1∧x.2≤y.2):=by
 unfold le2
 simp only[eG,de,decide_eq_true_eq]
def srt(es:List (Int×Int)):List (Int×Int):=es.mergeSort le2
theorem sF(es:List (Int×Int)):(srt es).Perm es:=List.mergeSort_perm _ _
theorem a1o(es:List (Int×Int)):(srt es).length=es.length:=(sF es).length_eq
def cf2(x y:Int×Int):Int:=if x.1<y.1 then -1 else if y.1<x.1 then 1 else if x.2<y.2 then -1 else if y.2<x.2 then 1 else 0
def tQ{α:Type}[Inhabited α][DecidableEq α](es:List α)(m:Nat):List α:=((List.range m).filter fun i=>decide (i=0∨iG es i≠iG es (i-1))).map fun i=>iG es i
def dd{α:Type}[Inhabited α][DecidableEq α](es:List α):List α:=tQ es es.length
section
variable {α:Type} [Inhabited α] [DecidableEq α]
theorem oI(es:List α)(m:Nat):tQ es (m+1)=tQ es m++(if m=0∨iG es m≠iG es (m-1)then[iG es m]else[]):=by
 unfold tQ
 rw[eN,fw,dN]
 congr 1
 by_cases h:m=0∨iG es m≠iG es (m-1)
 ·rw[if_pos h]
  simp only[List.filter_cons,List.filter_nil,decide_eq_true h,if_true,dY,fN]
 ·rw[if_neg h]
  simp only[List.filter_cons,List.filter_nil,decide_eq_false h,ef,if_false,fN]
theorem b6O(es:List α)(m:Nat):(tQ es m).length≤m:=by
 unfold tQ
 rw[dC]
 refine dK (fc _ _) ?_
 simp
theorem mS(es:List α)(m:Nat)(h:m<es.length):es.take (m+1)=es.take m++[iG es m]:=by
 rw[jV es m h,gq h]
theorem pC(es:List α):∀m,m≤es.length→(∀j,0<j→j<m→iG es j≠iG es (j-1))→tQ es m=es.take m
 | 0,_,_=>by simp[tQ]
 | m+1,hm,h=>by
   have ih:=pC es m (by omega) fun j h1 h2=>h j h1 (by omega)
   rw[oI,ih,mS es m (by omega),if_pos]
   by_cases h0:m=0
   ·exact .inl h0
   ·exact .inr (h m (by omega) (by omega))
end
theorem a1A{v:Value}{n lo k b:Nat}(h:jY (kS v n lo k)=some b):jY v=some b:=by
 unfold kS at h
 split at h<;>exact h
theorem lF(a b:List (Int×Int)):pr (a++b)=pr a++pr b:=dD
end Go.Ds
