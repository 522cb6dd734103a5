/-
  A part of the proof of SoundSpeaks.
-/
import Derived.Test.YtkklaffajfjopaaGreatDoorVB
import Derived.Test.YtkklaffajfjopaaGreatDoorProg
import Derived.KernelRfl
import Derived.Lib.LaidTab
import Derived.Stop.LaidErr
import Derived.Laws.Strings
set_option linter.unusedVariables false
set_option linter.unusedSimpArgs false
set_option linter.defProp false
set_option linter.unusedSectionVars false
namespace Go.Ds
variable {P:Program}
structure CallsOk(P:Program)(C:Calls')(H0:Heap):Prop where
 fn:∀p f args H v H1,LK H0 H→(C.fn p f args H).Is v H1→p=kM f→(FnS P f args H (fun v' H'=>v'=v∧H'=H1)∨qC P f args H=some (v,H1))∧LK H H1
 rd:∀L args H v H1,LK H0 H→(C.rd L args H).Is v H1→zE P L args H v H1∧LK H H1
noncomputable def iW (x:Operand):LArg:=match x with
 | .tmp t=>.t (kM t)
 | .const v=>.c v
 | .global g=>.c (.pointer (some ⟨g,0,none⟩))
 | .func k=>.c (.func (.func k) #[] #[])
theorem kX{α:Type}(x:Operand)(K:LArg→α):lP x K=K (iW x):=by
 cases x with
 | tmp t=>exact lK _ _
 | _=>rfl
theorem jR{f:Fr}{l:List Value}(h:FAg f l)(x:Operand):mK f (iW x)=ev l x:=by
 cases x with
 | tmp t=>exact h t
 | _=>rfl
theorem a3Z{α:Type}(l:List Operand)(K:List LArg→α):a5R l K=K (l.map iW):=by
 induction l generalizing K with
 | nil=>rfl
 | cons x l ih=>
   show lP x (fun x=>a5R l fun l=>K (x::l))=_
   rw[kX,ih];rfl
theorem a6M{α:Type}{f:Fr}{l:List Value}(h:FAg f l)(xs:List Operand)(K:List Value→α):a4z f (xs.map iW) K=K (xs.map (ev l)):=by
 induction xs generalizing K with
 | nil=>rfl
 | cons x xs ih=>
   show oG (mK f (iW x)) (fun v=>a4z f (xs.map iW) fun l=>K (v::l))=_
   rw[mO,ih,jR h];rfl
theorem c2C{f:Fr}{l:List Value}(h:FAg f l):evF f=ev l:=by
 funext x
 cases x with
 | tmp t=>exact h t
 | _=>rfl
def wH(P:Program)(o:Oper)(lo:LOp):Prop:=∀C H0 f l H v H1,CallsOk P C H0→LK H0 H→FAg f l→(opF P C lo f H).Is v H1→StepR P o l H v H1∧LK H H1
def LowPl(P:Program)(o:Oper)(lo:LOp):Prop:=∀C f l H v H1,FAg f l→(opF P C lo f H).Is v H1→opD P o l H=some (v,H1)
theorem LowPl.low{o:Oper}{lo:LOp}(hok:o.op.operands.toList.all iP=true)(h:LowPl P o lo):wH P o lo:=
 fun C _ f l H v H1 _ _ hf hr=>by have:=h C f l H v H1 hf hr;exact⟨.op hok this,b6c this⟩
theorem b8A(o:Oper):wH P o .bad:=fun _ _ _ _ _ _ _ _ _ _ h=>absurd h Rs.ar
theorem c0t(o:Oper):LowPl P o (.gen o):=fun C f l H v H1 hf hr=>by
 have hr:(match c1K P o (evF f) H with|some (v,H1)=>Rs.th v H1|none=>.no).Is v H1:=hr
 rw[c2C hf]at hr
 have e:c1K P o (ev l) H=opD P o l H:=rfl
 rw[e]at hr
 split at hr
 ·rename_i v2 H2 h2
  obtain⟨rfl,rfl⟩:=Rs.aN hr
  exact h2
 ·exact absurd hr Rs.ar
section
variable {dst:Option Tmp} {type:TypeId} {pos:String} {after:Array Edge} {guard:Option (Nat×Bool)}
theorem c2F(x:Operand):LowPl P ⟨dst,.move x,type,pos,after,guard⟩ (.mv (iW x)):=fun C f l H v H1 hf hr=>by
 have hr:(oG (mK f (iW x)) fun v=>Rs.ok v H).Is v H1:=hr
 rw[mO,jR hf]at hr
 obtain⟨rfl,rfl⟩:=Rs.aL hr
 rfl
theorem c2G(x:Operand):LowPl P ⟨dst,.assign x,type,pos,after,guard⟩ (.mv (iW x)):=fun C f l H v H1 hf hr=>by
 have hr:(oG (mK f (iW x)) fun v=>Rs.ok v H).Is v H1:=hr
 rw[mO,jR hf]at hr
 obtain⟨rfl,rfl⟩:=Rs.aL hr
 rfl
theorem b7z(c a b:Operand):LowPl P ⟨dst,.pick c a b,type,pos,after,guard⟩ (.pick (iW c) (iW a) (iW b)):=fun C f l H v H1 hf hr=>by
 have hr:(b5g (iW c) (iW a) (iW b) f H).Is v H1:=hr
 unfold b5g at hr
 rw[jR hf]at hr
 split at hr
 ·rename_i t ht
  rw[mO]at hr
  simp only[opD,ht]
  cases t
  ·have hr:(Rs.ok (mK f (iW b)) H).Is v H1:=hr
   rw[jR hf]at hr
   obtain⟨rfl,rfl⟩:=Rs.aL hr;rfl
  ·have hr:(Rs.ok (mK f (iW a)) H).Is v H1:=hr
   rw[jR hf]at hr
   obtain⟨rfl,rfl⟩:=Rs.aL hr;rfl
 ·exact absurd hr Rs.ar
theorem c0F(a b:Int):c5e a b=a*b:=by cases a<;>cases b<;>rfl
theorem a5O(a b:Int):c4d a b=a.tdiv b:=by cases a<;>cases b<;>rfl
theorem a4Q(a b:Int):c5b a b=a.tmod b:=by cases a<;>cases b<;>rfl
theorem b9G{op:BinOp}{g:IntKind→Int→Int→Option Value}(h:b9E op=some g)(k:IntKind)(a b:Int):mJ op k a b=g k a b:=by
 cases op<;>simp only[b9E]at h<;>first|(cases h;done)|(injection h with h;subst h)
 all_goals first
  | rfl
  | (simp only[mJ,c5m,c0F];done)
  | (simp only[mJ,b8p,a5O];done)
  | (simp only[mJ,b8u,a4Q];done)
  | (simp only[mJ,b8p,a5O];rfl)
  | (simp only[mJ,b8u,a4Q];rfl)
  | (simp only[mJ,b8p,a5O];cases eqI b 0<;>rfl)
  | (simp only[mJ,b8u,a4Q];cases eqI b 0<;>rfl)
theorem c4y{o:Option Value}{H H1:Heap}{v:Value}(h:(oV o H).Is v H1):o=some v∧H1=H:=by
 cases o with
 | none=>exact absurd h Rs.ar
 | some w=>obtain⟨rfl,rfl⟩:=Rs.aN h;exact⟨rfl,rfl⟩
theorem b5V{o:Option Value}{H H1:Heap}{v:Value}(h:(okV o H).Is v H1):o=some v∧H1=H:=by
 cases o with
 | none=>exact absurd h Rs.ar
 | some w=>
   have h:(oG w fun v=>Rs.ok v H).Is v H1:=h
   rw[mO]at h
   obtain⟨rfl,rfl⟩:=Rs.aL h;exact⟨rfl,rfl⟩
theorem b8T{op:BinOp}{g:IntKind→Int→Int→Option Value}(hg:b9E op=some g)(t yt:TypeId)(x y:Operand):LowPl P ⟨dst,.binOp op t x y yt,type,pos,after,guard⟩ (.bin g (iW x) (iW y)):=fun C f l H v H1 hf hr=>by
 have hr:(c3p g (iW x) (iW y) f H).Is v H1:=hr
 unfold c3p at hr
 rw[jR hf]at hr
 split at hr
 ·rename_i k a hx
  unfold c0T at hr
  rw[jR hf]at hr
  split at hr
  ·rename_i k' b hy
   obtain⟨hk,hq⟩:=lD hr
   obtain rfl:=b9o hk
   obtain⟨hv,rfl⟩:=c4y hq
   rw[←b9G hg]at hv
   have:opD P ⟨dst,.binOp op t x y yt,type,pos,after,guard⟩ l H1=if k=k then(match mJ op k a b with|some v=>some (v,H1)|none=>kP P ⟨dst,.binOp op t x y yt,type,pos,after,guard⟩ l H1)else kP P ⟨dst,.binOp op t x y yt,type,pos,after,guard⟩ l H1:=by
    simp only[opD,hx,hy]
    cases op<;>rfl
   rw[this,if_pos rfl,hv]
  ·exact absurd hr Rs.ar
 ·exact absurd hr Rs.ar
theorem b9z{b:Option Blk}{i e:Nat}{H H1:Heap}{v:Value}(h:(b8r b i e H).Is v H1):H1=H∧∃cs ty rw lo ver,b=some (.cells cs ty rw lo ver)∧lo≤e∧e≤cs.length∧i+1≤e∧cs[i]? =some v:=by
 unfold b8r at h
 split at h
 ·rename_i cs ty rw lo ver
  obtain⟨h1,h⟩:=lD h
  obtain⟨h2,h⟩:=lD h
  obtain⟨h3,h⟩:=lD h
  have h:(okV (a1n cs i) H).Is v H1:=h
  obtain⟨h4,h5⟩:=b5V h
  rw[zJ]at h2
  rw[yR]at h4
  exact⟨h5,cs,ty,rw,lo,ver,rfl,eo h1,by simpa using h2,eo h3,h4⟩
 ·exact absurd h Rs.ar
theorem b9S{b:Option Blk}{n i e:Nat}{H H1:Heap}{v:Value}(h:(b9k b n i e H).Is v H1):H1=H∧∃cs ty rw lo ver,b=some (.cells cs ty rw lo ver)∧lo≤e∧e≤cs.length∧i+n≤e∧v=.agg ((cs.drop i).take n).toArray:=by
 unfold b9k at h
 split at h
 ·rename_i cs ty rw lo ver
  obtain⟨h1,h⟩:=lD h
  obtain⟨h2,h⟩:=lD h
  obtain⟨h3,h⟩:=lD h
  obtain⟨h4,h⟩:=a8M h
  obtain⟨rfl,rfl⟩:=Rs.aL h
  rw[zJ]at h2
  exact⟨rfl,cs,ty,rw,lo,ver,rfl,eo h1,by simpa using h2,eo h3,by rw[a8s]⟩
 ·exact absurd h Rs.ar
theorem b1X{X:LArg}{f:Fr}{H H1:Heap}{v w:Value}{t:TypeId}(ht:jO P t=some false)(hw:mK f X=w)(h:(b3f X f H).Is v H1):H1=H∧lQ P H t w=some v:=by
 unfold b3f at h
 rw[hw]at h
 split at h
 ·rename_i A i e
  obtain⟨h1,cs,ty,rw',lo,ver,h2,h3,h4,h5,h6⟩:=b9z h
  refine⟨h1,?_⟩
  simp only[lQ,ht,jD,h2]
  rw[if_pos (by simp;omega)]
  simp[h6]
 ·rename_i A i
  unfold c2E at h
  split at h
  ·rename_i cs ty lo hg
   obtain⟨h1,h⟩:=lD h
   rw[zJ]at h1
   have h1:lo≤cs.length:=by simpa using h1
   cases hn:a1n cs i with
   | none=>rw[hn]at h;exact absurd h Rs.ar
   | some c=>
     rw[hn]at h
     have h:(oG c fun v=>Rs.ok v H).Is v H1:=h
     rw[mO]at h
     obtain⟨rfl,rfl⟩:=Rs.aL h
     rw[yR]at hn
     have hi:=(dp.1 hn).1
     refine⟨rfl,?_⟩
     simp only[lQ,ht,jD,hg]
     rw[if_pos (by simp;omega)]
     simp[hn]
  ·exact absurd h Rs.ar
 ·exact absurd h Rs.ar
theorem b2p{X:LArg}{f:Fr}{H H1:Heap}{v w:Value}{t:TypeId}{n:Nat}(ht:jO P t=some true)(hn:iE P t=some n)(hw:mK f X=w)(h:(b2M n X f H).Is v H1):H1=H∧lQ P H t w=some v:=by
 unfold b2M at h
 rw[hw]at h
 split at h
 ·rename_i A i e
  obtain⟨h1,cs,ty,rw',lo,ver,h2,h3,h4,h5,h6⟩:=b9S h
  refine⟨h1,?_⟩
  simp only[lQ,ht,hn,cV,jD,h2]
  rw[if_pos (by simp;omega),h6]
  rfl
 ·exact absurd h Rs.ar
theorem b9B{t:TypeId}(ht:jO P t=some false)(x:Operand):LowPl P ⟨dst,.load t x,type,pos,after,guard⟩ (.ld1 (iW x)):=fun C f l H v H1 hf hr=>by
 obtain⟨rfl,h⟩:=b1X (P:=P) ht (jR hf x) hr
 simp only[opD,h,dI]
theorem b8B{t:TypeId}{n:Nat}(ht:jO P t=some true)(hn:iE P t=some n)(x:Operand):LowPl P ⟨dst,.load t x,type,pos,after,guard⟩ (.ldn n (iW x)):=fun C f l H v H1 hf hr=>by
 obtain⟨rfl,h⟩:=b2p (P:=P) ht hn (jR hf x) hr
 simp only[opD,h,dI]
theorem c1M{t:TypeId}{n:Nat}(hn:iE P t=some n)(x y:Operand):LowPl P ⟨dst,.store t x y,type,pos,after,guard⟩ (.st n (iW x) (iW y)):=fun C f l H v H1 hf hr=>by
 have hr:(hSt n (iW x) (iW y) f H).Is v H1:=hr
 unfold hSt at hr
 rw[jR hf,jR hf]at hr
 split at hr
 ·rename_i A i e hx
  unfold stB at hr
  split at hr
  ·rename_i cs ty lo ver hg
   obtain⟨h1,hr⟩:=lD hr
   obtain⟨h2,hr⟩:=lD hr
   obtain⟨h3,hr⟩:=lD hr
   obtain⟨h4,hr⟩:=lD hr
   obtain⟨h5,hr⟩:=lD hr
   obtain⟨rfl,rfl⟩:=Rs.aN hr
   rw[xW]at h1 h3
   have h1:n=(ev l y).cells.toList.length:=by simpa only[decide_eq_true_eq]using h1
   have h3:e=cs.length:=by simpa only[decide_eq_true_eq]using h3
   have h4:i+n≤e:=eo h4
   have h5:lo≤e:=eo h5
   simp only[opD,qL,hx,hg]
   rw[if_pos ⟨by rw[hn,h1],h2,h3,by omega,h5⟩]
   simp only[dI]
   rw[h3]
  ·exact absurd hr Rs.ar
 ·exact absurd hr Rs.ar
theorem c2j{s:TypeId}{k n:Nat}{fd:Field}(hf':oF P s k=some fd)(hn:iE P fd.type=some n)(hn0:n≠0)(x:Operand):LowPl P ⟨dst,.fieldAddr s x k,type,pos,after,guard⟩ (.fa fd.offset (iW x)):=fun C f l H v H1 hf hr=>by
 have hr:(hFa fd.offset (iW x) f H).Is v H1:=hr
 unfold hFa at hr
 rw[jR hf]at hr
 split at hr
 ·rename_i A i e hx
  rw[jZ]at hr
  obtain⟨rfl,rfl⟩:=Rs.aL hr
  simp only[opD,hx,hf',cV,hn]
  rw[if_neg (by simpa using hn0)];rfl
 ·exact absurd hr Rs.ar
theorem b5h{A i e size n:Nat}{H H1:Heap}{j v:Value}(h:(ixP A i e size n H j).Is v H1):H1=H∧∃k m,j=.int k (.ofNat m)∧m<n∧v=.pointer (some ⟨A,i+m*size,some e⟩):=by
 unfold ixP at h
 split at h
 ·rename_i k m
  obtain⟨h1,h⟩:=lD h
  rw[jZ]at h
  obtain⟨rfl,rfl⟩:=Rs.aL h
  rw[blt_eq]at h1
  exact⟨rfl,k,m,rfl,by simpa using h1,rfl⟩
 ·exact absurd h Rs.ar
theorem b9r{t elem:TypeId}{size:Nat}(ht:P.underlying t=some (.slice elem))(hs:iE P elem=some size)(x i:Operand):LowPl P ⟨dst,.indexAddr t x i,type,pos,after,guard⟩ (.ixs size (iW x) (iW i)):=fun C f l H v H1 hf hr=>by
 have hr:(c3H size (iW x) (iW i) f H).Is v H1:=hr
 unfold c3H at hr
 rw[jR hf,jR hf]at hr
 split at hr
 ·rename_i A a e n c hx
  obtain⟨rfl,k,m,hj,hm,rfl⟩:=b5h hr
  simp only[opD,ht,hx,hj,hs,cV]
  rw[if_pos (by simp;omega)]
  rfl
 ·exact absurd hr Rs.ar
theorem c6D(a b:Nat):Nat.beq a b=(a==b):=by
 cases h:Nat.beq a b with
 | true=>rw[dQ h];simp
 | false=>have:=Nat.ne_of_beq_eq_false h;simp[this]
theorem c1P{A i size n:Nat}{H H1:Heap}{j v:Value}(h:(ixG A i size n H j).Is v H1):H1=H∧∃k m,j=.int k (.ofNat m)∧m<n∧v=.pointer (some ⟨A,i+m*size,none⟩):=by
 unfold ixG at h
 split at h
 ·rename_i k m
  obtain⟨h1,h⟩:=lD h
  rw[jZ]at h
  obtain⟨rfl,rfl⟩:=Rs.aL h
  exact⟨rfl,k,m,rfl,by simpa [gV]using h1,rfl⟩
 ·exact absurd h Rs.ar
theorem b9g{t elem:TypeId}{n size:Nat}(ht:P.underlying t=some (.array n elem))(hs:iE P elem=some size)(x i:Operand):LowPl P ⟨dst,.indexAddr t x i,type,pos,after,guard⟩ (.ixa n size (iW x) (iW i)):=fun C f l H v H1 hf hr=>by
 have hr:(c2g n size (iW x) (iW i) f H).Is v H1:=hr
 unfold c2g at hr
 rw[jR hf,jR hf]at hr
 split at hr
 ·rename_i A a e hx
  obtain⟨rfl,k,m,hj,hm,rfl⟩:=b5h hr
  simp only[opD,ht,hx,hj,hs,cV]
  rw[if_pos (by simp;omega)]
  rfl
 ·rename_i A a hx
  obtain⟨rfl,k,m,hj,hm,rfl⟩:=c1P hr
  simp only[opD,ht,hx,hj,hs,cV]
  rw[if_pos (by simp;omega)]
  rfl
 ·exact absurd hr Rs.ar
theorem c0J(i:Nat)(x:Operand):LowPl P ⟨dst,.extract x i,type,pos,after,guard⟩ (.ext i (iW x)):=fun C f l H v H1 hf hr=>by
 have hr:(c3i i (iW x) f H).Is v H1:=hr
 unfold c3i at hr
 rw[jR hf]at hr
 split at hr
 ·rename_i vs hx
  obtain⟨h1,rfl⟩:=b5V hr
  rw[yR]at h1
  simp only[opD,hx]
  simp[h1]
 ·exact absurd hr Rs.ar
theorem b8Q{c:Call}{elem:TypeId}(hc:c.callee=.builtin .len)(h1:c.args.size=1)(h2:c.argTypes.size=1)(ht:P.underlying (c.argTypes.getD 0 0)=some (.slice elem)):LowPl P ⟨dst,.call c,type,pos,after,guard⟩ (.len (iW (c.args.getD 0 (.tmp 0)))):=fun C f l H v H1 hf hr=>by
 have hr:(c3l (iW (c.args.getD 0 (.tmp 0))) f H).Is v H1:=hr
 unfold c3l at hr
 rw[jR hf]at hr
 split at hr
 ·rename_i a n k hx
  obtain⟨rfl,rfl⟩:=Rs.aN hr
  simp only[opD,hc,h1,h2,ht,hx,wY];rfl
 ·exact absurd hr Rs.ar
theorem b6v{c:Call}(hc:c.callee=.builtin .len)(h1:c.args.size=1)(h2:c.argTypes.size=1)(ht:P.underlying (c.argTypes.getD 0 0)=some .string):LowPl P ⟨dst,.call c,type,pos,after,guard⟩ (.slen (iW (c.args.getD 0 (.tmp 0)))):=fun C f l H v H1 hf hr=>by
 have hr:(b7y (iW (c.args.getD 0 (.tmp 0))) f H).Is v H1:=hr
 unfold b7y at hr
 rw[jR hf]at hr
 split at hr
 ·rename_i s hx
  obtain⟨rfl,rfl⟩:=Rs.aN hr
  simp only[opD,hc,h1,h2,ht,hx,wY];rfl
 ·exact absurd hr Rs.ar
theorem c0z{c:Call}{elem:TypeId}{size bytes:Nat}{z:Value}(hc:c.callee=.builtin .append)(h1:c.args.size=2)(h2:c.argTypes.size=2)(hi:((P.underlying (c.argTypes.getD 1 0)).map pS)=some true)
 (he:iK P (c.argTypes.getD 0 0)=some elem) (hs:iE P elem=some size) (hb:oM P elem=some bytes) (hz:jB P elem=some z) (hzs:z.cells.size=size) (hs0:size≠0):
 LowPl P ⟨dst,.call c,type,pos,after,guard⟩ (.app elem size bytes (iW (c.args.getD 0 (.tmp 0))) (iW (c.args.getD 1 (.tmp 0)))):=fun C f l H v H1 hf hr=>by
 have hr:(c2Q P elem size bytes (iW (c.args.getD 0 (.tmp 0))) (iW (c.args.getD 1 (.tmp 0))) f H).Is v H1:=hr
 unfold c2Q at hr
 rw[jR hf,jR hf]at hr
 have hD:opD P ⟨dst,.call c,type,pos,after,guard⟩ l H=nN P H (c.argTypes.getD 0 0) (ev l (c.args.getD 0 (.tmp 0))) (ev l (c.args.getD 1 (.tmp 0))):=by
  simp only[opD,hc,h1,h2,hi];rfl
 rw[hD]
 unfold nN
 rw[he,cV,hs,cV,hb,cV,hz,cV]
 split at hr
 ·rename_i n m hsrc
  rw[hsrc,cV]
  unfold c5d at hr
  split at hr
  ·rename_i k cc hx
   obtain⟨g1,hq1⟩:=lD hr
   obtain⟨g2,hq2⟩:=lD hq1
   obtain⟨g3,hq⟩:=lD hq2
   clear hr hq1 hq2
   obtain rfl:k=0:=dQ g1
   obtain rfl:cc=0:=dQ g2
   have g3:n*(bytes+1)≤oU:=eo g3
   simp only[hx]
   rw[if_pos (by simp[hs0,hzs,g3])]
   rw[kO]at hq
   by_cases hn:n=0
   ·subst hn
    rw[if_pos (by rfl)]at hq
    obtain⟨rfl,rfl⟩:=Rs.aL hq
    simp
   ·rw[if_neg (fun e=>hn (dQ e))]at hq
    obtain⟨rfl,rfl⟩:=Rs.aN hq
    simp[hn]
  ·rename_i A i e k cc hx
   unfold c4K at hr
   split at hr
   ·rename_i cs ty lo ver hg
    obtain⟨g2,hr⟩:=lD hr
    obtain⟨g4,hr⟩:=lD hr
    obtain⟨g5,hr⟩:=lD hr
    have g2:(ty==elem||iE P ty==some size)=true:=by
     rw[c6D]at g2
     cases hh:(ty==elem)with
     | true=>rfl
     | false=>rw[hh]at g2;exact g2
    rw[xW]at g4
    have g4:e=cs.length:=by simpa only[decide_eq_true_eq]using g4
    have g5:lo≤e:=eo g5
    simp only[hx,hg]
    rw[kO]at hr
    by_cases g3:i+k*size=e
    ·rw[if_pos (by simpa using g3)]at hr
     obtain⟨g1,hr⟩:=lD hr
     obtain⟨rfl,rfl⟩:=Rs.aN hr
     have g1:(k+n)*(bytes+1)≤oU:=eo g1
     have et:(Bool.rec (motive:=fun _=>Nat) 2 ver (Nat.beq ty elem))=(if(ty==elem)=true then ver else 2):=by
      rw[c6D]
      cases hh:(ty==elem)with
      | true=>rfl
      | false=>rfl
     rw[et,if_pos (by simp only[g2,fm,cU,bne_iff_ne,beq_iff_eq,decide_eq_true_eq];exact⟨⟨⟨⟨⟨hs0,g1⟩,by simpa using hzs⟩,g3⟩,g4⟩,g5⟩)]
    ·rw[if_neg (by simpa using g3)]at hr
     rw[kO]at hr
     by_cases hn:n=0
     ·rw[if_pos (by simpa using hn)]at hr
      exact absurd hr Rs.ar
     ·rw[if_neg (by simpa using hn)]at hr
      obtain⟨g6,hr⟩:=lD hr
      obtain⟨rfl,rfl⟩:=Rs.aN hr
      have g6:i+(k+n)*size≤e:=eo g6
      rw[if_neg (by simp[g3]),if_pos (by simp only[g2,fm,cU,bne_iff_ne,beq_iff_eq,decide_eq_true_eq];exact⟨⟨⟨⟨⟨hs0,hn⟩,by simpa using hzs⟩,g6⟩,g4⟩,g5⟩),g4]
   ·exact absurd hr Rs.ar
  ·exact absurd hr Rs.ar
 ·exact absurd hr Rs.ar
theorem b3O{c:Call}{k:FuncId}(hc:c.callee=.value (.func k))(hok:(Op.call c).operands.toList.all iP=true):wH P ⟨dst,.call c,type,pos,after,guard⟩ (.callF k (kM k) (c.args.toList.map iW)):=fun C H0 f l H v H1 hC hk hf hr=>by
 have hr:(a4z f (c.args.toList.map iW) fun l=>C.fn (kM k) k l H).Is v H1:=hr
 rw[a6M hf]at hr
 obtain⟨h1|hx,h2⟩:=hC.fn _ _ _ _ _ _ hk hr rfl
 case inr=>exact⟨.ext hok c (.func k) k #[] #[] rfl hc rfl (by simpa using hx),h2⟩
 obtain⟨he,v',H',hcall,rfl,rfl⟩:=h1.fn
 exact⟨.call hok c (.func k) k #[] #[] rfl hc rfl he (by simpa using hcall),h2⟩
theorem b3J{c:Call}{g:Operand}(hc:c.callee=.value g)(hok:(Op.call c).operands.toList.all iP=true):wH P ⟨dst,.call c,type,pos,after,guard⟩ (.callV (iW g) (c.args.toList.map iW)):=fun C H0 f l H v H1 hC hk hf hr=>by
 have hr:(a4z f (c.args.toList.map iW) fun l=>a9P C l H (mK f (iW g))).Is v H1:=hr
 rw[a6M hf,jR hf]at hr
 unfold a9P at hr
 split at hr
 ·rename_i k a b hg
  rw[jZ,lK]at hr
  obtain⟨h1|hx,h2⟩:=hC.fn _ _ _ _ _ _ hk hr rfl
  case inr=>exact⟨.ext hok c g k ⟨a⟩ ⟨b⟩ rfl hc hg (by simpa [yP]using hx),h2⟩
  obtain⟨he,v',H',hcall,rfl,rfl⟩:=h1.fn
  exact⟨.call hok c g k ⟨a⟩ ⟨b⟩ rfl hc hg he (by simpa [yP]using hcall),h2⟩
 ·rename_i L a b hg
  obtain⟨h1,h2⟩:=hC.rd _ _ _ _ _ hk hr
  exact⟨.round hok c g L _ _ rfl hc hg h1,h2⟩
 ·exact absurd hr Rs.ar
end
set_option maxHeartbeats 1000000 in
theorem b2c{α:Type}(o:Oper)(K:LOp→α):∃lo,wH P o lo∧yB P o K=K lo:=by
 unfold yB
 rw[kO]
 by_cases hok:o.op.operands.toList.all iP=true
 case neg=>rw[if_neg hok];exact⟨_,b8A o,rfl⟩
 rw[if_pos hok]
 have gen:∃lo,wH P o lo∧K (.gen o)=K lo:=⟨_,(c0t o).low hok,rfl⟩
 obtain⟨dst,op,type,pos,after,guard⟩:=o
 unfold c6f
 cases op with
 | move x=>simp only[kX];exact⟨_,(c2F x).low hok,rfl⟩
 | assign x=>simp only[kX];exact⟨_,(c2G x).low hok,rfl⟩
 | pick c a b=>simp only[kX];exact⟨_,(b7z c a b).low hok,rfl⟩
 | binOp op t x y yt=>
   simp only[kX,kO]
   split
   ·split
    ·rename_i g hg;exact⟨_,(b8T hg t yt x y).low hok,rfl⟩
    ·exact gen
   ·exact gen
 | load t x=>
   simp only[kX]
   split
   ·rename_i ht
    cases hn:iE P t with
    | none=>exact gen
    | some n=>rw[pA];exact⟨_,(b8B ht hn x).low hok,rfl⟩
   ·rename_i ht;exact⟨_,(b9B ht x).low hok,rfl⟩
   ·exact gen
 | store t x y=>
   simp only[kX]
   cases hn:iE P t with
   | none=>exact gen
   | some n=>rw[pA];exact⟨_,(c1M hn x y).low hok,rfl⟩
 | fieldAddr s x k=>
   simp only[kX]
   split
   ·rename_i fd hfd
    split
    ·exact gen
    ·rename_i n hn0 hn
     rw[jZ]
     exact⟨_,(c2j hfd hn (fun e=>hn0 e) x).low hok,rfl⟩
    ·exact gen
   ·exact gen
 | indexAddr t x i=>
   simp only[kX]
   split
   ·rename_i elem ht
    cases hs:iE P elem with
    | none=>exact gen
    | some n=>rw[pA];exact⟨_,(b9r ht hs x i).low hok,rfl⟩
   ·rename_i n elem ht
    cases hs:iE P elem with
    | none=>exact gen
    | some m=>rw[pA];exact⟨_,(b9g ht hs x i).low hok,rfl⟩
   ·exact gen
 | extract t i=>simp only[kX];rw[jZ];exact⟨_,(c0J i t).low hok,rfl⟩
 | call c=>
   simp only
   unfold b5o
   split
   ·rename_i k hc
    rw[lK,a3Z]
    exact⟨_,b3O hc hok,rfl⟩
   ·rename_i g _ hc
    rw[kX,a3Z]
    exact⟨_,b3J hc hok,rfl⟩
   ·rename_i hc
    rw[kO]
    split
    ·rename_i h1
     simp only[cU,beq_iff_eq]at h1
     split
     ·rename_i elem ht;rw[kX];exact⟨_,(b8Q hc h1.1 h1.2 ht).low hok,rfl⟩
     ·rename_i ht;rw[kX];exact⟨_,(b6v hc h1.1 h1.2 ht).low hok,rfl⟩
     ·exact gen
    ·exact gen
   ·rename_i hc
    rw[kO]
    split
    ·rename_i h1
     simp only[cU,beq_iff_eq]at h1
     split
     ·rename_i elem he
      cases hs:iE P elem with
      | none=>exact gen
      | some size=>
        rw[pA]
        cases hb:oM P elem with
        | none=>exact gen
        | some bytes=>
          rw[pA]
          split
          ·rename_i z hz
           rw[kO]
           split
           ·rename_i h2
            simp only[cU,beq_iff_eq,bne_iff_ne]at h2
            rw[jZ,kX,kX]
            exact⟨_,(c0z hc h1.1.1 h1.1.2 h1.2 he hs hb hz h2.1 h2.2).low hok,rfl⟩
           ·exact gen
          ·exact gen
     ·exact gen
    ·exact gen
   ·exact gen
 | _=>exact gen
def DOk(k:Nat)(dst:Option Tmp)(d:Option Pth):Prop:=(dst=none∧d=none)∨∃t,dst=some t∧t<k∧d=some (kM t)
inductive LowOps(P:Program)(k:Nat)(ops:Array Oper):List Oper→LOps→Prop
 | nil:LowOps P k ops [] .nil
 | cons {o:Oper} {os:List Oper} {d:Option Pth} {lo:LOp} {r:LOps} (hd:DOk k o.dst d) (ho:wH P o lo) (hg:o.guard=none) (hr:LowOps P k ops os r):LowOps P k ops (o::os) (.cons d lo r)
 | gcons {o:Oper} {os:List Oper} {d:Option Pth} {lo:LOp} {r:LOps} {j t:Nat} {w:Bool} (hd:DOk k o.dst d) (ho:wH P o lo) (hg:o.guard=some (j,w)) (ht:(ops[j]?).bind (·.dst)=some t) (htk:t<k) (hr:LowOps P k ops os r):LowOps P k ops (o::os) (.gcons (kM t) w d lo r)
def GOk(ops:Array Oper)(o:Oper)(g:Option (Pth×Bool)):Prop:=(o.guard=none∧g=none)∨∃j w t,o.guard=some (j,w)∧(ops[j]?).bind (·.dst)=some t∧g=some (kM t,w)
theorem GOk.runs{ops:Array Oper}{o:Oper}{g:Option (Pth×Bool)}(h:GOk ops o g){f:Fr}{l:List Value}(hf:FAg f l)(hw:Region.wanted o (iU ops l)=true):b6r f g=true:=by
 rcases h with⟨_,rfl⟩|⟨j,w,t,hg,ht,rfl⟩
 ·rfl
 ·simp only[Region.wanted,hg,iU,ht]at hw
  show isB (oB (kM t) f) w=true
  rw[hf t,oH,cY]
  cases hl:l[t]? with
  | none=>rw[hl]at hw;simp at hw
  | some v=>
    rw[hl]at hw
    cases v<;>simp at hw
    subst hw
    rename_i b
    cases b<;>rfl
inductive LowTab(P:Program)(ops:Array Oper):List (Nat×Nat)→List (Nat×Option Nat×Option (Pth×Bool)×LOp)→Prop
 | nil:LowTab P ops [] []
 | cons {i m:Nat} {o:Oper} {lo:LOp} {tab:List (Nat×Nat)} {t:List (Nat×Option Nat×Option (Pth×Bool)×LOp)} {g:Option (Pth×Bool)} (ho:ops[i]? =some o) (hgd:GOk ops o g) (hl:wH P o lo) (hr:LowTab P ops tab t):
    LowTab P ops ((i,m)::tab) ((ops.size-1-i,if m<ops.size then some (ops.size-1-m)else none,g,lo)::t)
inductive Low(P:Program)(k:Nat):Code→LCode→Prop
 | bad (c:Code):Low P k c .bad
 | skip:Low P k .skip .skip
 | label (t:Nat):Low P k (.label t) .skip
 | reg {id:Nat} {ops:Array Oper} {d:Bool} {lo:LOps} (h:LowOps P k ops ops.toList lo) (hd:d=true→nB P ops=some []):Low P k (.region id ops d) (.reg lo)
 | drw {id:Nat} {ops:Array Oper} {lo:LOps} {tab:List (Nat×Nat)} {t:List (Nat×Option Nat×Option (Pth×Bool)×LOp)} (h:LowOps P k ops ops.toList lo) (ht:nB P ops=some tab) (hl:LowTab P ops tab t):Low P k (.region id ops true) (.drw lo t)
 | seq {a b:Code} {A B:LCode} (ha:Low P k a A) (hb:Low P k b B):Low P k (.seq a b) (.seq A B)
 | cond {c:Operand} {x y:Code} {X Y:LCode} (hc:iP c=true) (hx:Low P k x X) (hy:Low P k y Y):Low P k (.cond c x y) (.cond (iW c) X Y)
 | block {id:Nat} {b:Code} {B:LCode} (hb:Low P k b B):Low P k (.block id b) (.block id B)
 | loop {b:Code} {B:LCode} (hb:Low P k b B):Low P k (.loop b) (.loop B)
 | exit (id:Nat):Low P k (.exit id) (.exit id)
 | ret:Low P k .ret .ret
 | range {g:Operand} {ps:Array Tmp} {assign body:Code} {A B:LCode} (hg:iP g=true) (hps:∀t∈ps.toList,t<k) (ha:Low P k assign A) (hb:Low P k body B):
    Low P k (.rangeFunc g ps assign body) (.range (iW g) ((List.range k).map kM) (ps.toList.map kM) ps assign body A B)
section
variable {α:Type}
theorem b6i(k:Nat)(dst:Option Tmp)(no:α)(K:Option Pth→α):(∃d,DOk k dst d∧a8p k dst no K=K d)∨a8p k dst no K=no:=by
 cases dst with
 | none=>exact .inl ⟨none,.inl ⟨rfl,rfl⟩,rfl⟩
 | some t=>
   simp only[a8p,kO]
   split
   ·rename_i h
    rw[lK]
    rw[blt_eq]at h
    exact .inl ⟨_,.inr ⟨t,rfl,by simpa using h,rfl⟩,rfl⟩
   ·exact .inr rfl
theorem a2p(k:Nat)(ops:Array Oper)(l:List Oper)(K:LOps→α)(no:α):(∃L,LowOps P k ops l L∧tZ P k ops l K no=K L)∨tZ P k ops l K no=no:=by
 induction l generalizing K with
 | nil=>exact .inl ⟨_,.nil,rfl⟩
 | cons o l ih=>
   let K2:Option Pth→LOp→α:=fun d o'=>match o.guard with
    | none=>tZ P k ops l (fun r=>K (.cons d o' r)) no
    | some (j,w)=>match (ops[j]?).bind (·.dst)with
      | some t=>nX (Nat.blt t k) no (lN (kM t) fun p=>a0l w fun w=>tZ P k ops l (fun r=>K (.gcons p w d o' r)) no)
      | none=>no
   have e:tZ P k ops (o::l) K no=a8p k o.dst no fun d=>yB P o fun o'=>K2 d o':=rfl
   rw[e]
   rcases b6i k o.dst no (fun d=>yB P o fun o'=>K2 d o')with⟨d,hd,h1⟩|h1
   ·rw[h1]
    obtain⟨lo,hlo,h2⟩:=b2c (P:=P) o (fun o'=>K2 d o')
    rw[h2]
    simp only[K2]
    split
    ·rename_i hg
     rcases ih (fun r=>K (.cons d lo r))with⟨L,hL,h3⟩|h3
     ·exact .inl ⟨_,.cons hd hlo hg hL,h3⟩
     ·exact .inr h3
    ·rename_i j w hg
     split
     ·rename_i t ht
      rw[kO]
      split
      ·rename_i htk
       rw[lK,vK]
       rw[blt_eq]at htk
       rcases ih (fun r=>K (.gcons (kM t) w d lo r))with⟨L,hL,h3⟩|h3
       ·exact .inl ⟨_,.gcons hd hlo hg ht (by simpa using htk) hL,h3⟩
       ·exact .inr h3
      ·exact .inr rfl
     ·exact .inr rfl
   ·exact .inr h1
theorem c3Q(k:Nat)(ops:Array Oper)(o:Oper)(no:α)(K:Option (Pth×Bool)→α):(∃g,GOk ops o g∧loG k ops o.guard no K=K g)∨loG k ops o.guard no K=no:=by
 cases hg:o.guard with
 | none=>exact .inl ⟨none,.inl ⟨hg,rfl⟩,rfl⟩
 | some x=>
   obtain⟨j,w⟩:=x
   unfold loG
   cases ht:(ops[j]?).bind (·.dst)with
   | none=>exact .inr (by simp only[ht])
   | some t=>
     simp only[ht,kO]
     split
     ·refine .inl ⟨some (kM t,w),.inr ⟨j,w,t,hg,ht,rfl⟩,?_⟩
      rw[lK,vK]
     ·exact .inr rfl
theorem b5v(k:Nat)(ops:Array Oper)(tab:List (Nat×Nat))(K:List (Nat×Option Nat×Option (Pth×Bool)×LOp)→α)(no:α):(∃t,LowTab P ops tab t∧tO P k ops ops.size tab K no=K t)∨tO P k ops ops.size tab K no=no:=by
 induction tab generalizing K with
 | nil=>exact .inl ⟨_,.nil,rfl⟩
 | cons x tab ih=>
   obtain⟨i,m⟩:=x
   cases ho:ops[i]? with
   | none=>
     refine .inr ?_
     show(match ops[i]? with
      | some o=>_
      | none=>no)=no
     rw[ho]
   | some o=>
     let K2:Option (Pth×Bool)→LOp→α:=fun g o'=>kD (ops.size-1-i) fun i=>nX (Nat.blt m ops.size) (tO P k ops ops.size tab (fun l=>K ((i,none,g,o')::l)) no) (kD (ops.size-1-m) fun m=>tO P k ops ops.size tab (fun l=>K ((i,some m,g,o')::l)) no)
     have e:tO P k ops ops.size ((i,m)::tab) K no=loG k ops o.guard no fun g=>yB P o fun o'=>K2 g o':=by
      show(match ops[i]? with
       | some o=>loG k ops o.guard no fun g=>yB P o fun o'=>K2 g o'
       | none=>no)=_
      rw[ho]
     rw[e]
     rcases c3Q k ops o no (fun g=>yB P o fun o'=>K2 g o')with⟨g,hgd,h1⟩|h1
     ·rw[h1]
      obtain⟨lo,hlo,h2⟩:=b2c (P:=P) o (fun o'=>K2 g o')
      rw[h2]
      show(∃t,_∧kD (ops.size-1-i) (fun i=>nX (Nat.blt m ops.size) (tO P k ops ops.size tab (fun l=>K ((i,none,g,lo)::l)) no) (kD (ops.size-1-m) fun m=>tO P k ops ops.size tab (fun l=>K ((i,some m,g,lo)::l)) no))=K t)∨kD (ops.size-1-i) (fun i=>nX (Nat.blt m ops.size) (tO P k ops ops.size tab (fun l=>K ((i,none,g,lo)::l)) no) (kD (ops.size-1-m) fun m=>tO P k ops ops.size tab (fun l=>K ((i,some m,g,lo)::l)) no))=no
      rw[jZ,kO,jZ,blt_eq]
      by_cases hm:m<ops.size
      ·rw[if_pos (by simpa using hm)]
       rcases ih (fun l=>K ((ops.size-1-i,some (ops.size-1-m),g,lo)::l))with⟨t,ht,h3⟩|h3
       ·have:=LowTab.cons (m:=m) ho hgd hlo ht
        rw[if_pos hm]at this
        exact .inl ⟨_,this,h3⟩
       ·exact .inr h3
      ·rw[if_neg (by simpa using hm)]
       rcases ih (fun l=>K ((ops.size-1-i,none,g,lo)::l))with⟨t,ht,h3⟩|h3
       ·have:=LowTab.cons (m:=m) ho hgd hlo ht
        rw[if_neg hm]at this
        exact .inl ⟨_,this,h3⟩
       ·exact .inr h3
     ·exact .inr h1
theorem b3k(k:Nat)(l:List Tmp)(K:List Pth→α)(no:α):((∀t∈l,t<k)∧wM k l K no=K (l.map kM))∨wM k l K no=no:=by
 induction l generalizing K with
 | nil=>exact .inl ⟨by simp,rfl⟩
 | cons t l ih=>
   show _∨nX (Nat.blt t k) no (lN (kM t) fun p=>wM k l (fun l=>K (p::l)) no)=no
   have e:wM k (t::l) K no=nX (Nat.blt t k) no (lN (kM t) fun p=>wM k l (fun l=>K (p::l)) no):=rfl
   rw[e,kO,lK,blt_eq]
   by_cases h:t<k
   ·rw[if_pos (by simpa using h)]
    rcases ih (fun l=>K (kM t::l))with⟨h1,h2⟩|h2
    ·exact .inl ⟨by simpa using⟨h,h1⟩,h2⟩
    ·exact .inr h2
   ·rw[if_neg (by simpa using h)];exact .inr rfl
theorem b4n(k:Nat)(c:Code)(K:LCode→α):∃C,Low P k c C∧nE P k c K=K C:=by
 induction c generalizing K with
 | skip=>exact⟨_,.skip,rfl⟩
 | region id ops d=>
   cases d with
   | false=>
     show ∃C,_∧tZ P k ops ops.toList (fun l=>K (.reg l)) (K .bad)=K C
     rcases a2p (P:=P) k ops ops.toList (fun l=>K (.reg l)) (K .bad)with⟨L,hL,h⟩|h
     ·exact⟨_,.reg hL (fun h=>by cases h),h⟩
     ·exact⟨_,.bad _,h⟩
   | true=>
     show ∃C,_∧(match nB P ops with
      | some []=>tZ P k ops ops.toList (fun l=>K (.reg l)) (K .bad)
      | some tab=>tZ P k ops ops.toList (fun l=>tO P k ops ops.size tab (fun t=>K (.drw l t)) (K .bad)) (K .bad)
      | none=>K .bad)=K C
     split
     ·rename_i hd
      rcases a2p (P:=P) k ops ops.toList (fun l=>K (.reg l)) (K .bad)with⟨L,hL,h⟩|h
      ·exact⟨_,.reg hL (fun _=>hd),h⟩
      ·exact⟨_,.bad _,h⟩
     ·rename_i tab _ hd
      rcases a2p (P:=P) k ops ops.toList (fun l=>tO P k ops ops.size tab (fun t=>K (.drw l t)) (K .bad)) (K .bad)with⟨L,hL,h⟩|h
      ·rw[h]
       rcases b5v (P:=P) k ops tab (fun t=>K (.drw L t)) (K .bad)with⟨t,ht,h2⟩|h2
       ·exact⟨_,.drw hL hd ht,h2⟩
       ·exact⟨_,.bad _,h2⟩
      ·exact⟨_,.bad _,h⟩
     ·exact⟨_,.bad _,rfl⟩
 | seq a b iha ihb=>
   show ∃C,_∧nE P k a (fun a=>nE P k b fun b=>K (.seq a b))=K C
   obtain⟨A,hA,h1⟩:=iha (fun a=>nE P k b fun b=>K (.seq a b))
   obtain⟨B,hB,h2⟩:=ihb (fun b=>K (.seq A b))
   exact⟨_,.seq hA hB,h1.trans h2⟩
 | cond c x y ihx ihy=>
   show ∃C,_∧nX (iP c) (K .bad) (lP c fun c=>nE P k x fun x=>nE P k y fun y=>K (.cond c x y))=K C
   rw[kO]
   split
   ·rename_i hc
    rw[kX]
    obtain⟨X,hX,h1⟩:=ihx (fun x=>nE P k y fun y=>K (.cond (iW c) x y))
    obtain⟨Y,hY,h2⟩:=ihy (fun y=>K (.cond (iW c) X y))
    exact⟨_,.cond hc hX hY,h1.trans h2⟩
   ·exact⟨_,.bad _,rfl⟩
 | block id b ih=>
   show ∃C,_∧kD id (fun id=>nE P k b fun b=>K (.block id b))=K C
   rw[jZ]
   obtain⟨B,hB,h1⟩:=ih (fun b=>K (.block id b))
   exact⟨_,.block hB,h1⟩
 | loop b ih=>
   show ∃C,_∧nE P k b (fun b=>K (.loop b))=K C
   obtain⟨B,hB,h1⟩:=ih (fun b=>K (.loop b))
   exact⟨_,.loop hB,h1⟩
 | rangeFunc g ps assign body iha ihb=>
   show ∃C,_∧nX (iP g) (K .bad) (lP g fun g'=>b2U k fun pp=>wM k ps.toList (fun q=>nE P k assign fun a=>nE P k body fun b=>K (.range g' pp q ps assign body a b)) (K .bad))=K C
   rw[kO]
   split
   ·rename_i hg
    rw[kX,b1o]
    rcases b3k k ps.toList (fun q=>nE P k assign fun a=>nE P k body fun b=>K (.range (iW g) ((List.range k).map kM) q ps assign body a b)) (K .bad)with⟨hps,h⟩|h
    ·obtain⟨A,hA,h1⟩:=iha (fun a=>nE P k body fun b=>K (.range (iW g) ((List.range k).map kM) (ps.toList.map kM) ps assign body a b))
     obtain⟨B,hB,h2⟩:=ihb (fun b=>K (.range (iW g) ((List.range k).map kM) (ps.toList.map kM) ps assign body A b))
     exact⟨_,.range hg hps hA hB,h.trans (h1.trans h2)⟩
    ·exact⟨_,.bad _,h⟩
   ·exact⟨_,.bad _,rfl⟩
 | exit id=>
   show ∃C,_∧kD id (fun id=>K (.exit id))=K C
   rw[jZ]
   exact⟨_,.exit id,rfl⟩
 | label t=>exact⟨_,.label t,rfl⟩
 | ret=>exact⟨_,.ret,rfl⟩
 | scope b _=>exact⟨_,.bad _,rfl⟩
 | goto t=>exact⟨_,.bad _,rfl⟩
 | refuse w=>exact⟨_,.bad _,rfl⟩
end
theorem vV{α:Type}{k:Nat}{f:Fr}{l:List Value}(h:FRel k f l){dst:Option Tmp}{d:Option Pth}(hd:DOk k dst d)(v:Value)(K:Fr→α):∃f',uQ d v f K=K f'∧FRel k f' (put l dst v):=by
 rcases hd with⟨rfl,rfl⟩|⟨t,rfl,ht,rfl⟩
 ·exact⟨f,rfl,h⟩
 ·exact⟨b7u f t v,sN v (kM t) f K,h.put ht v⟩
theorem yA{ops:Array Oper}{l:List Value}{j t:Nat}(ht:(ops[j]?).bind (·.dst)=some t)(htl:t<l.length)(w:Bool):(iU ops l j==some w)=isB (get l t) w:=by
 have hg:get l t=l[t]:=by rw[oH];simp[htl]
 unfold iU
 rw[ht,hg]
 simp only[dh htl]
 cases hv:l[t]<;>simp[isB]
 rename_i b
 cases b<;>cases w<;>rfl
theorem b8R{k:Nat}{ops:Array Oper}{C:Calls'}{H0:Heap}(hC:CallsOk P C H0){os:List Oper}{lo:LOps}(hlo:LowOps P k ops os lo):∀{i:Nat},ops.toList.drop i=os→∀{f:Fr}{l:List Value}{H:Heap}{f1:Fr}{H1:Heap},
 FRel k f l→LK H0 H→yE P C lo f H=.ok f1 H1→∃l1,FRel k f1 l1∧OpsR P ops (List.range' i os.length) l H l1 H1∧LK H H1:=by
 induction hlo with
 | nil=>
   intro i _ f l H f1 H1 hf _ h
   injection h with h1 h2
   subst h1 h2
   exact⟨l,hf,.nil l H,.refl H⟩
 | @cons o os d lo r hd ho hg hr ih=>
   intro i hi f l H f1 H1 hf hk h
   have hio:ops[i]? =some o:=by
    have:(ops.toList.drop i)[0]? =some o:=by rw[hi];rfl
    rw[dA]at this
    simpa using this
   have hi':ops.toList.drop (i+1)=os:=by rw[←fp,hi];rfl
   have hw:Region.wanted o (iU ops l)=true:=by simp[Region.wanted,hg]
   have h:b2k Rf.no d f (yE P C r) (opF P C lo f H)=.ok f1 H1:=h
   have key:∀v H2,(opF P C lo f H).Is v H2→(uQ d v f fun f=>yE P C r f H2)=.ok f1 H1→∃l1,FRel k f1 l1∧OpsR P ops (List.range' i (o::os).length) l H l1 H1∧LK H H1:=by
    intro v H2 hop hrest
    obtain⟨hs,hk2⟩:=ho C H0 f l H v H2 hC hk hf.2 hop
    obtain⟨f',e,hf'⟩:=vV hf hd v (fun f=>yE P C r f H2)
    rw[e]at hrest
    obtain⟨l1,h1,h2,h3⟩:=ih hi' hf' (hk.trans hk2) hrest
    exact⟨l1,h1,.step hio hw hs h2,hk2.trans h3⟩
   cases hop:opF P C lo f H with
   | no=>rw[hop]at h;cases h
   | ok v H2=>rw[hop]at h;exact key v H2 (.inl hop) h
   | th v H2=>
     rw[hop]at h
     have h:yY v (fun v=>nP H2 fun H2=>uQ d v f fun f=>yE P C r f H2)=.ok f1 H1:=h
     rw[yO,lX]at h
     exact key v H2 (.inr hop) h
 | @gcons o os d lo r j t w hd ho hg ht htk hr ih=>
   intro i hi f l H f1 H1 hf hk h
   have hio:ops[i]? =some o:=by
    have:(ops.toList.drop i)[0]? =some o:=by rw[hi];rfl
    rw[dA]at this
    simpa using this
   have hi':ops.toList.drop (i+1)=os:=by rw[←fp,hi];rfl
   have hwi:Region.wanted o (iU ops l)=isB (oB (kM t) f) w:=by
    simp only[Region.wanted,hg]
    rw[yA ht (by rw[hf.1];exact htk) w,hf.2 t]
   have h:nX (isB (oB (kM t) f) w) (uQ d undef f fun f=>yE P C r f H) (b2k Rf.no d f (yE P C r) (opF P C lo f H))=.ok f1 H1:=h
   rw[kO]at h
   split at h
   ·rename_i hb
    have key:∀v H2,(opF P C lo f H).Is v H2→(uQ d v f fun f=>yE P C r f H2)=.ok f1 H1→∃l1,FRel k f1 l1∧OpsR P ops (List.range' i (o::os).length) l H l1 H1∧LK H H1:=by
     intro v H2 hop hrest
     obtain⟨hs,hk2⟩:=ho C H0 f l H v H2 hC hk hf.2 hop
     obtain⟨f',e,hf'⟩:=vV hf hd v (fun f=>yE P C r f H2)
     rw[e]at hrest
     obtain⟨l1,h1,h2,h3⟩:=ih hi' hf' (hk.trans hk2) hrest
     exact⟨l1,h1,.step hio (by rw[hwi,hb]) hs h2,hk2.trans h3⟩
    cases hop:opF P C lo f H with
    | no=>rw[hop]at h;cases h
    | ok v H2=>rw[hop]at h;exact key v H2 (.inl hop) h
    | th v H2=>
      rw[hop]at h
      have h:yY v (fun v=>nP H2 fun H2=>uQ d v f fun f=>yE P C r f H2)=.ok f1 H1:=h
      rw[yO,lX]at h
      exact key v H2 (.inr hop) h
   ·rename_i hb
    obtain⟨f',e,hf'⟩:=vV hf hd undef (fun f=>yE P C r f H)
    rw[e]at h
    obtain⟨l1,h1,h2,h3⟩:=ih hi' hf' hk h
    exact⟨l1,h1,.past hio (by rw[hwi];simpa using hb) h2,h3⟩
structure Noted(P:Program)(k:Nat)(ops:Array Oper)(H:Heap)(i n:Nat)(T:Nat→List Value×Heap)(val:Nat→Value)(tr0 tr:List (Fr×Heap×Value)):Prop where
 step:∀j,i≤j→j<i+n→vY P ops j (T j) (T (j+1)) (val j)
 new:∀j,i≤j→j<i+n→∃g,tr[i+n-1-j]? =some (g,(T j).2,val j)∧FAg g (T j).1
 old:∀m,tr[n+m]? =tr0[m]?
 lk:∀j,i≤j→j≤i+n→LK H (T j).2
theorem b7B{k:Nat}{ops:Array Oper}{C:Calls'}{H0:Heap}(hC:CallsOk P C H0){os:List Oper}{lo:LOps}(hlo:LowOps P k ops os lo):∀{i:Nat},ops.toList.drop i=os→∀{tr0 tr:List (Fr×Heap×Value)}{f:Fr}{l:List Value}{H:Heap}{f1:Fr}{H1:Heap},
 FRel k f l→LK H0 H→rE P C lo tr0 f H=.ok tr f1 H1→∃T val l1,T i=(l,H)∧T (i+os.length)=(l1,H1)∧FRel k f1 l1∧Noted P k ops H i os.length T val tr0 tr:=by
 have more:∀{i n:Nat}{o:Oper}{tr0 tr:List (Fr×Heap×Value)}{f:Fr}{l:List Value}{H:Heap}{v:Value}{l2:List Value}{H2:Heap}{l1:List Value}{H1:Heap}{f1:Fr},FRel k f l→vY P ops i (l,H) (l2,H2) v→LK H H2→
  (∃T val l1,T (i+1)=(l2,H2)∧T (i+1+n)=(l1,H1)∧FRel k f1 l1∧Noted P k ops H2 (i+1) n T val ((f,H,v)::tr0) tr)→
  ∃T val l1,T i=(l,H)∧T (i+(n+1))=(l1,H1)∧FRel k f1 l1∧Noted P k ops H i (n+1) T val tr0 tr:=by
  intro i n o tr0 tr f l H v l2 H2 _ H1 f1 hf hst hk ⟨T,val,l1,h1,h2,h3,hN⟩
  refine⟨fun j=>if j≤i then(l,H)else T j,fun j=>if j≤i then v else val j,l1,by simp,?_,h3,?_⟩
  ·show(if i+(n+1)≤i then(l,H)else T (i+(n+1)))=_
   rw[if_neg (by omega),←h2];congr 1;omega
  ·refine⟨fun j hj hn=> ?_,fun j hj hn=> ?_,fun m=> ?_,fun j hj hn=> ?_⟩
   ·by_cases he:j=i
    ·subst he
     simp only[db,if_true]
     rw[if_neg (by omega),h1]
     exact hst
    ·rw[if_neg (by omega),if_neg (by omega),if_neg (by omega)]
     exact hN.step j (by omega) (by omega)
   ·by_cases he:j=i
    ·subst he
     simp only[db,if_true]
     refine⟨f,?_,hf.2⟩
     have:=hN.old 0
     rw[show j+(n+1)-1-j=n+0 by omega,this];rfl
    ·rw[if_neg (by omega),if_neg (by omega)]
     obtain⟨g,hg,hag⟩:=hN.new j (by omega) (by omega)
     exact⟨g,by rw[←hg];congr 1;omega,hag⟩
   ·have:=hN.old (m+1)
    rw[show n+1+m=n+(m+1) by omega,this];rfl
   ·by_cases he:j=i
    ·subst he;simp only[db,if_true];exact .refl H
    ·rw[if_neg (by omega)];exact hk.trans (hN.lk j (by omega) (by omega))
 induction hlo with
 | nil=>
   intro i _ tr0 tr f l H f1 H1 hf _ h
   injection h with h1 h2 h3
   subst h1 h2 h3
   exact⟨fun _=>(l,H),fun _=>undef,l,rfl,rfl,hf,fun j _ h=>absurd h (by simp;omega),fun j _ h=>absurd h (by simp;omega),fun m=>by simp,fun _ _ _=>.refl H⟩
 | @cons o os d lo r hd ho hg hr ih=>
   intro i hi tr0 tr f l H f1 H1 hf hk h
   have hio:ops[i]? =some o:=by
    have:(ops.toList.drop i)[0]? =some o:=by rw[hi];rfl
    rw[dA]at this
    simpa using this
   have hi':ops.toList.drop (i+1)=os:=by rw[←fp,hi];rfl
   have hw:Region.wanted o (iU ops l)=true:=by simp[Region.wanted,hg]
   have h:b2j tr0 f H d (rE P C r) (opF P C lo f H)=.ok tr f1 H1:=h
   have key:∀v H2,(opF P C lo f H).Is v H2→(uQ d v f fun f2=>rE P C r ((f,H,v)::tr0) f2 H2)=.ok tr f1 H1→∃T val l1,T i=(l,H)∧T (i+(o::os).length)=(l1,H1)∧FRel k f1 l1∧Noted P k ops H i (o::os).length T val tr0 tr:=by
    intro v H2 hop hrest
    obtain⟨hs,hk2⟩:=ho C H0 f l H v H2 hC hk hf.2 hop
    obtain⟨f',e,hf'⟩:=vV hf hd v (fun f2=>rE P C r ((f,H,v)::tr0) f2 H2)
    rw[e]at hrest
    have:=ih hi' hf' (hk.trans hk2) hrest
    exact more (o:=o) (l1:=l) hf ⟨o,hio,rfl,.inl ⟨hw,hs⟩⟩ hk2 this
   cases hop:opF P C lo f H with
   | no=>rw[hop]at h;cases h
   | ok v H2=>rw[hop]at h;exact key v H2 (.inl hop) h
   | th v H2=>
     rw[hop]at h
     have h:yY v (fun v=>nP H2 fun H2=>uQ d v f fun f2=>rE P C r ((f,H,v)::tr0) f2 H2)=.ok tr f1 H1:=h
     rw[yO,lX]at h
     exact key v H2 (.inr hop) h
 | @gcons o os d lo r j t w hd ho hg ht htk hr ih=>
   intro i hi tr0 tr f l H f1 H1 hf hk h
   have hio:ops[i]? =some o:=by
    have:(ops.toList.drop i)[0]? =some o:=by rw[hi];rfl
    rw[dA]at this
    simpa using this
   have hi':ops.toList.drop (i+1)=os:=by rw[←fp,hi];rfl
   have hwi:Region.wanted o (iU ops l)=isB (oB (kM t) f) w:=by
    simp only[Region.wanted,hg]
    rw[yA ht (by rw[hf.1];exact htk) w,hf.2 t]
   have h:nX (isB (oB (kM t) f) w) (uQ d undef f fun f2=>rE P C r ((f,H,undef)::tr0) f2 H) (b2j tr0 f H d (rE P C r) (opF P C lo f H))=.ok tr f1 H1:=h
   rw[kO]at h
   split at h
   ·rename_i hb
    have key:∀v H2,(opF P C lo f H).Is v H2→(uQ d v f fun f2=>rE P C r ((f,H,v)::tr0) f2 H2)=.ok tr f1 H1→∃T val l1,T i=(l,H)∧T (i+(o::os).length)=(l1,H1)∧FRel k f1 l1∧Noted P k ops H i (o::os).length T val tr0 tr:=by
     intro v H2 hop hrest
     obtain⟨hs,hk2⟩:=ho C H0 f l H v H2 hC hk hf.2 hop
     obtain⟨f',e,hf'⟩:=vV hf hd v (fun f2=>rE P C r ((f,H,v)::tr0) f2 H2)
     rw[e]at hrest
     exact more (o:=o) (l1:=l) hf ⟨o,hio,rfl,.inl ⟨by rw[hwi,hb],hs⟩⟩ hk2 (ih hi' hf' (hk.trans hk2) hrest)
    cases hop:opF P C lo f H with
    | no=>rw[hop]at h;cases h
    | ok v H2=>rw[hop]at h;exact key v H2 (.inl hop) h
    | th v H2=>
      rw[hop]at h
      have h:yY v (fun v=>nP H2 fun H2=>uQ d v f fun f2=>rE P C r ((f,H,v)::tr0) f2 H2)=.ok tr f1 H1:=h
      rw[yO,lX]at h
      exact key v H2 (.inr hop) h
   ·rename_i hb
    obtain⟨f',e,hf'⟩:=vV hf hd undef (fun f2=>rE P C r ((f,H,undef)::tr0) f2 H)
    rw[e]at h
    exact more (o:=o) (l1:=l) hf ⟨o,hio,rfl,.inr ⟨by rw[hwi];simpa using hb,rfl,rfl⟩⟩ (.refl H) (ih hi' hf' hk h)
theorem b2s{α:Type}(p:α→Bool)(l:List α):b5y p l=l.all p:=by
 induction l with
 | nil=>rfl
 | cons x l ih=>
   show nX (p x) false (b5y p l)=_
   rw[kO,ih,fj]
   cases p x<;>rfl
theorem c0h{v:Value}{r:Rs}(h:c0d v r=true):∃H,r.Is v H:=by
 cases r with
 | no=>cases h
 | ok w H=>exact⟨H,.inl (by rw[b6e (show veq w v=true from h)])⟩
 | th w H=>exact⟨H,.inr (by rw[b6e (show veq w v=true from h)])⟩
theorem LowTab.get{ops:Array Oper}{tab:List (Nat×Nat)}{t:List (Nat×Option Nat×Option (Pth×Bool)×LOp)}(h:LowTab P ops tab t){i m:Nat}(hm:(i,m)∈tab):∃o lo g,ops[i]? =some o∧GOk ops o g∧wH P o lo∧(ops.size-1-i,(if m<ops.size then some (ops.size-1-m)else none),g,lo)∈t:=by
 induction h with
 | nil=>cases hm
 | @cons i2 m2 o lo tab t g ho hgd hl hr ih=>
   rcases dS.1 hm with he|hm
   ·injection he with h1 h2
    subst h1 h2
    exact⟨o,lo,g,ho,hgd,hl,by simp⟩
   ·obtain⟨o',lo',g',h1,h0,h2,h3⟩:=ih hm
    exact⟨o',lo',g',h1,h0,h2,dN _ h3⟩
theorem a8Y{fl:Fl}{ops:Array Oper}{i m:Nat}(h:(i,m)∈mH fl ops){o:Oper}(ho:ops[i]? =some o):nS o.op=true:=by
 unfold mH at h
 simp only[dR]at h
 obtain⟨⟨x,j⟩,hx,h⟩:=h
 dsimp only at h
 split at h
 ·rename_i hr
  simp only[dr]at h
  obtain⟨m',_,e⟩:=h
  injection e with e1 e2
  subst e1
  have:=gk.1 hx
  have:ops[j]? =some x:=by simpa using this
  rw[this]at ho
  injection ho with ho
  subst ho
  exact hr
 ·cases h
theorem b8V(jW:P.follows .mixedOrders=true){k id:Nat}{ops:Array Oper}{C:Calls'}{H:Heap}(hC:CallsOk P C H){lo:LOps}{tab:List (Nat×Nat)}{t:List (Nat×Option Nat×Option (Pth×Bool)×LOp)}(hlo:LowOps P k ops ops.toList lo)(htab:nB P ops=some tab)(hl:LowTab P ops tab t)
 {f:Fr} {l:List Value} {e:Ex} {f1:Fr} {H1:Heap} (hf:FRel k f l) (h:c1y P C t (rE P C lo [] f H)=.ok e f1 H1):∃l1,e=.normal∧FRel k f1 l1∧Sim P (.region id ops true) l H .normal l1 H1∧LK H H1:=by
 cases hr:rE P C lo [] f H with
 | no=>rw[hr]at h;cases h
 | ok tr f2 H2=>
   rw[hr]at h
   have h:nX (b5y (b6l P C tr H2) t) Rc.no (.ok .normal f2 H2)=.ok e f1 H1:=h
   rw[kO]at h
   split at h
   case isFalse=>cases h
   rename_i hall
   injection h with h1 h2 h3
   subst h1 h2 h3
   obtain⟨T,val,l1,hT0,hTn,hf1,hN⟩:=b7B hC hlo (i:=0) rfl hf (.refl H) hr
   rw[fu,fS]at hTn
   rw[fu]at hN
   have hlk:LK H H2:=by have:=hN.lk ops.size (eQ _) (by omega);rwa [hTn]at this
   refine⟨l1,rfl,hf1,?_,hlk⟩
   have:=Sim.draw jW (id:=id) htab (T:=T) (val:=val) ⟨fun j hj=>hN.step j (eQ _) (by omega)⟩ ?_
   ·rw[hT0,hTn]at this;exact this
   ·intro i m o hm ho hw
    obtain⟨o',lo',gd,ho',hgd,hlow,hmem⟩:=hl.get hm
    rw[ho]at ho'
    obtain rfl:=cT ho'
    rw[b2s,dj]at hall
    have hrd:=hall _ hmem
    have hi:i<ops.size:=(da.1 ho).1
    obtain⟨g,hg,hag⟩:=hN.new i (eQ _) (by omega)
    have hg:tr[ops.size-1-i]? =some (g,(T i).2,val i):=by rw[←hg];congr 1;omega
    have hread:nS o.op=true:=by
     obtain⟨fl,_,rfl⟩:=qE htab
     exact a8Y hm ho
    have fin:∀H3,LK H H3→c0d (val i) (opF P C lo' g H3)=true→∃H4,opD P o (T i).1 H3=some (val i,H4):=by
     intro H3 hk3 hq
     obtain⟨H4,h4⟩:=c0h hq
     obtain⟨hs,_⟩:=hlow C H g (T i).1 H3 (val i) H4 hC hk3 hag h4
     refine⟨H4,hs.opD fun c fv hc hv=> ?_⟩
     rw[hc]at hread
     simp[nS,hv]at hread
    unfold b6l at hrd
    simp only[yR,hg,hgd.runs hag hw]at hrd
    rw[kO,if_pos rfl]at hrd
    by_cases hms:m<ops.size
    ·rw[if_pos hms]at hrd
     obtain⟨g2,hg2,_⟩:=hN.new m (eQ _) (by omega)
     have hg2:tr[ops.size-1-m]? =some (g2,(T m).2,val m):=by rw[←hg2];congr 1;omega
     simp only[hg2]at hrd
     exact fin _ (hN.lk m (eQ _) (by omega)) hrd
    ·rw[if_neg hms]at hrd
     have hle:m=ops.size:=by
      obtain⟨fl,_,rfl⟩:=qE htab
      have:=a1T hm
      omega
     subst hle
     have:=fin H2 hlk hrd
     rw[hTn];exact this
def uV(P:Program):List ResultVar→List LRes→Prop
 | [],[]=>True
 | r::rs,l::ls=>(match r,l with
   | .tmp t,.t p=>p=kM t
   | .cell a t,.c1 p=>p=kM a∧jO P t=some false
   | .cell a t,.cn n p=>p=kM a∧jO P t=some true∧iE P t=some n
   | _,_=>False)∧uV P rs ls
 | _,_=>False
theorem b6P{α:Type}(l:List ResultVar)(K:List LRes→α)(no:α):(∃r,uV P l r∧a1c P l K no=K r)∨a1c P l K no=no:=by
 induction l generalizing K with
 | nil=>exact .inl ⟨[],trivial,rfl⟩
 | cons r l ih=>
   cases r with
   | tmp t=>
     have e:a1c P (.tmp t::l) K no=lN (kM t) fun p=>a1c P l (fun l=>K (.t p::l)) no:=rfl
     rw[e,lK]
     rcases ih (fun l=>K (.t (kM t)::l))with⟨q,h1,h2⟩|h2
     ·exact .inl ⟨.t (kM t)::q,⟨rfl,h1⟩,h2⟩
     ·exact .inr h2
   | cell a t=>
     have e:a1c P (.cell a t::l) K no=match jO P t with
      | some true=>a3r (iE P t) no fun n=>lN (kM a) fun p=>a1c P l (fun l=>K (.cn n p::l)) no
      | some false=>lN (kM a) fun p=>a1c P l (fun l=>K (.c1 p::l)) no
      | none=>no:=rfl
     rw[e]
     split
     ·rename_i ha
      cases hn:iE P t with
      | none=>exact .inr rfl
      | some n=>
        rw[pA,lK]
        rcases ih (fun l=>K (.cn n (kM a)::l))with⟨q,h1,h2⟩|h2
        ·exact .inl ⟨.cn n (kM a)::q,⟨⟨rfl,ha,hn⟩,h1⟩,h2⟩
        ·exact .inr h2
     ·rename_i ha
      rw[lK]
      rcases ih (fun l=>K (.c1 (kM a)::l))with⟨q,h1,h2⟩|h2
      ·exact .inl ⟨.c1 (kM a)::q,⟨⟨rfl,ha⟩,h1⟩,h2⟩
      ·exact .inr h2
     ·exact .inr rfl
theorem b2b{H H1:Heap}{f:Fr}{l:List Value}(hf:FAg f l){r:ResultVar}{q:LRes}{rs:List ResultVar}{qs:List LRes}(h:uV P (r::rs) (q::qs)){v:Value}(hv:(a4u H f q).Is v H1):H1=H∧a1x P l H r=some v∧uV P rs qs:=by
 obtain⟨h,hr⟩:=h
 cases r with
 | tmp t=>cases q with
   | t p=>
     have h:p=kM t:=h
     subst h
     have hv:(oG (oB (kM t) f) fun v=>Rs.ok v H).Is v H1:=hv
     rw[mO]at hv
     obtain⟨rfl,rfl⟩:=Rs.aL hv
     exact⟨rfl,by rw[hf t];rfl,hr⟩
   | c1 p=>exact h.elim
   | cn n p=>exact h.elim
 | cell a t=>cases q with
   | t p=>exact h.elim
   | c1 p=>
     obtain⟨rfl,ha⟩:=h
     obtain⟨e,h1⟩:=b1X (P:=P) (X:=.t (kM a)) (w:=get l a) ha (hf a) hv
     exact⟨e,h1,hr⟩
   | cn n p=>
     obtain⟨rfl,ha,hn⟩:=h
     obtain⟨e,h1⟩:=b2p (P:=P) (X:=.t (kM a)) (w:=get l a) ha hn (hf a) hv
     exact⟨e,h1,hr⟩
theorem b9I{H:Heap}{f:Fr}{q:LRes}{v:Value}{H1:Heap}:¬(a4u H f q=.th v H1):=by
 intro h
 cases q with
 | t p=>
   have h:(oG (oB p f) fun v=>Rs.ok v H)=.th v H1:=h
   rw[mO]at h;cases h
 | c1 p=>
   have h:b3f (.t p) f H=.th v H1:=h
   unfold b3f at h
   split at h
   ·unfold b8r at h
    split at h
    ·rw[kO,kO,kO]at h
     split at h
     ·split at h
      ·split at h
       ·rename_i cs _ _ _ _ _ _ _ _
        cases hn:a1n cs _ with
        | none=>rw[hn]at h;cases h
        | some w=>rw[hn]at h;have h:(oG w fun v=>Rs.ok v H)=.th v H1:=h;rw[mO]at h;cases h
       ·cases h
      ·cases h
     ·cases h
    ·cases h
   ·unfold c2E at h
    split at h
    ·rw[kO]at h
     split at h
     ·rename_i cs _ _ _ _
      cases hn:a1n cs _ with
      | none=>rw[hn]at h;cases h
      | some w=>rw[hn]at h;have h:(oG w fun v=>Rs.ok v H)=.th v H1:=h;rw[mO]at h;cases h
     ·cases h
    ·cases h
   ·cases h
 | cn n p=>
   have hh:b2M n (.t p) f H=.th v H1:=h
   unfold b2M at hh
   split at hh
   ·unfold b9k at hh
    split at hh
    ·rw[kO,kO,kO]at hh
     split at hh
     ·split at hh
      ·split at hh
       ·have key:∀{cs:List Value}{n:Nat}{pre:List Value},¬(a2S cs n fun l=>Rs.ok (.agg ⟨pre++l⟩) H)=.th v H1:=by
         intro cs
         induction cs with
         | nil=>intro n pre h;cases n<;>cases h
         | cons c cs ih=>
           intro n pre h
           cases n with
           | zero=>cases h
           | succ n=>
             have h:(a2S cs n fun l=>Rs.ok (.agg ⟨pre++(c::l)⟩) H)=.th v H1:=h
             have e:∀l:List Value,pre++(c::l)=(pre++[c])++l:=by intro l;simp
             have h2:(a2S cs n fun l=>Rs.ok (.agg ⟨(pre++[c])++l⟩) H)=.th v H1:=by
              rw[←h];congr 1;funext l;rw[e l]
             exact ih h2
        exact key (pre:=[]) hh
       ·cases hh
      ·cases hh
     ·cases hh
    ·cases hh
   ·cases hh
theorem a6T{H H1:Heap}{f:Fr}{l:List Value}(hf:FAg f l){v:Value}:∀{rs:List ResultVar}{qs:List LRes}{K:List Value→Rs},uV P rs qs→(b5A H f qs K).Is v H1→∃vs,nF P l H rs=some vs∧(K vs).Is v H1
 | [],[],K,_,h=>⟨[],rfl,h⟩
 | [],_::_,_,h,_=>h.elim
 | _::_,[],_,h,_=>h.elim
 | r::rs,q::qs,K,hl,h=>by
   have h:(Rs.rec (motive:=fun _=>Rs) .no (fun v _=>b5A H f qs fun l=>K (v::l)) (fun _ _=>.no) (a4u H f q)).Is v H1:=h
   cases hq:a4u H f q with
   | no=>rw[hq]at h;exact absurd h Rs.ar
   | th w H2=>exact absurd hq b9I
   | ok w H2=>
     rw[hq]at h
     obtain⟨e,h1,h2⟩:=b2b hf hl (.inl hq)
     obtain⟨vs,h3,h4⟩:=a6T hf h2 h
     exact⟨w::vs,by simp[nF,h1,h3],h4⟩
theorem b5L{fn:Func}{H H1:Heap}{f:Fr}{l:List Value}(hf:FAg f l){qs:List LRes}(hl:uV P fn.results.toList qs){v:Value}(h:(a7i qs f H).Is v H1):H1=H∧iC P fn l H=some v:=by
 unfold a7i at h
 split at h
 ·rename_i q
  cases hr:fn.results.toList with
  | nil=>rw[hr]at hl;exact hl.elim
  | cons r rs=>
    rw[hr]at hl
    obtain⟨e,h1,h2⟩:=b2b hf hl h
    cases rs with
    | cons _ _=>exact h2.elim
    | nil=>exact⟨e,by simp[iC,hr,nF,h1]⟩
 ·rename_i hne
  obtain⟨vs,h1,h2⟩:=a6T hf hl h
  obtain⟨h3,h4⟩:=lD h2
  obtain⟨rfl,rfl⟩:=Rs.aL h4
  refine⟨rfl,?_⟩
  have hlen:∀{rs:List ResultVar}{qs:List LRes},uV P rs qs→rs.length=qs.length:=by
   intro rs
   induction rs with
   | nil=>intro qs h;cases qs with|nil=>rfl|cons=>exact h.elim
   | cons r rs ih=>intro qs h;cases qs with|nil=>exact h.elim|cons q qs=>simp[ih h.2]
  have hvl:∀{rs:List ResultVar}{vs:List Value},nF P l H1 rs=some vs→vs.length=rs.length:=by
   intro rs
   induction rs with
   | nil=>intro vs h;injection h with h;subst h;rfl
   | cons r rs ih=>
     intro vs h
     simp only[nF,cW,dc]at h
     obtain⟨w,_,ws,h1,h2⟩:=h
     subst h2
     simp[ih h1]
  have hn1:vs.length≠1:=by
   rw[hvl h1,hlen hl]
   intro h1
   match qs,h1 with
   | [q],_=>exact hne q rfl
  unfold iC
  rw[h1,cV]
  rw[b2s]at h3
  have h3:vs.all kH=true:=by rw[←h3];congr 1
  split
  ·exact absurd rfl hn1
  ·rw[if_pos h3]
structure FuncOk(P:Program)(f:FuncId)(g:LFunc):Prop where
 ex:∃fn c,P.funcs[f]? =some fn∧fn.body=some c∧(fn.name== "runtime.NumGoroutine")=false∧g.ps=(List.range fn.ntmps).map kM∧Low P fn.ntmps c g.body∧uV P fn.results.toList g.res
def TOk(P:Program)(T:LT):Prop:=∀f g,a3l (kM f) T=some g→FuncOk P f g
def EOk(P:Program)(E:List LEnv)(H:Heap):Prop:=∀en∈E,en.L<H.length∧∀r,iR H en.L=some (.loop r)→
 ∃k,en.ps=(List.range k).map kM∧r.tmps.size=k∧en.pp=r.params.toList.map kM∧(∀t∈r.params.toList,t<k)∧Low P k r.assign en.a∧Low P k r.body en.b
theorem EOk.ak{E:List LEnv}{H H':Heap}(h:EOk P E H)(hk:LK H H'):EOk P E H':=fun en hen=>by
 obtain⟨h1,h2⟩:=h en hen
 refine⟨dF h1 hk.1,fun r' hr'=> ?_⟩
 obtain⟨r,hr,ea,eb,ep,et⟩:=hk.2 en.L r' h1 hr'
 obtain⟨k,a,b,c,d,e,f⟩:=h2 r hr
 exact⟨k,a,by rw[et];exact b,by rw[ep];exact c,by rw[ep];exact d,by rw[ea];exact e,by rw[eb];exact f⟩
def a4A(P:Program)(ih:qA):Prop:=∀(E:List LEnv)(C:LCode)(k:Nat)(c:Code)(f:Fr)(l:List Value)(H:Heap)(e:Ex)(f1:Fr)(H1:Heap),Low P k c C→FRel k f l→EOk P E H→ih E C f H=.ok e f1 H1→
 ∃l1,FRel k f1 l1∧Sim P c l H e l1 H1∧LK H H1∧∀b,c=.loop b→∃n,Rounds P b n l H e l1 H1
theorem a0h{α:Type}{no:α}:∀{l:List Value}{i m:Nat}{f:Fr}{K:Fr→α},(oY no l ((List.range' i m).map kM) f K=no)∨(l.length≤m∧∃f',oY no l ((List.range' i m).map kM) f K=K f'∧∀t,oB (kM t) f'=if i≤t∧t<i+l.length then get l (t-i)else oB (kM t) f)
 | [],i,m,f,K=>.inr ⟨eQ _,f,rfl,fun t=>by rw[if_neg (by simp only[dW];omega)]⟩
 | v::l,i,0,f,K=>.inl rfl
 | v::l,i,m+1,f,K=>by
   have e:oY no (v::l) ((List.range' i (m+1)).map kM) f K=pR v (kM i) f fun f=>oY no l ((List.range' (i+1) m).map kM) f K:=by
    rw[gA];rfl
   rw[e,sN]
   rcases a0h (l:=l) (i:=i+1) (m:=m) (f:=b7u f i v) (K:=K)with h|⟨h1,f',h2,h3⟩
   ·exact .inl h
   ·refine .inr ⟨by simp;omega,f',h2,fun t=> ?_⟩
    rw[h3 t,a4l]
    by_cases ht:t=i
    ·subst ht
     rw[if_neg (by omega),if_pos rfl,if_pos (by simp),Nat.sub_self];rfl
    ·rw[if_neg ht]
     by_cases h4:i+1≤t∧t<i+1+l.length
     ·rw[if_pos h4,if_pos (by simp;omega)]
      rw[show t-i=(t-(i+1))+1 by omega];rfl
     ·rw[if_neg h4,if_neg (by simp;omega)]
theorem wC{α:Type}{no:α}{k:Nat}:∀{args:List Value}{ps:List Tmp}{f:Fr}{l:List Value}{K:Fr→α},FRel k f l→(∀t∈ps,t<k)→args.length=ps.length→
 ∃f',oY no args (ps.map kM) f K=K f'∧FRel k f' ((ps.zip args).foldl (fun t(p,v)=>t.set p v) l)
 | [],[],f,l,K,hf,_,_=>⟨f,rfl,hf⟩
 | v::args,p::ps,f,l,K,hf,hp,he=>by
   have e:oY no (v::args) ((p::ps).map kM) f K=pR v (kM p) f fun f=>oY no args (ps.map kM) f K:=rfl
   rw[e,sN]
   exact wC (hf.set (hp p (by simp)) v) (fun t ht=>hp t (by simp[ht])) (by simpa using he)
 | [],_::_,_,_,_,_,_,he=>by simp at he
 | _::_,[],_,_,_,_,_,he=>by simp at he
theorem a0C(l:List Value)(n t:Nat):get (l++List.replicate n undef) t=get l t:=by
 rw[oH,oH]
 simp only[cY]
 by_cases h:t<l.length
 ·rw[ey h]
 ·rw[eE (by omega),ed (l:=l) (by omega),gN]
  split<;>rfl
theorem a0r{T:LT}(hT:TOk P T){ih:qA}(hih:a4A P ih){E:List LEnv}{p:Pth}{f:FuncId}{args:List Value}{H H1:Heap}{v:Value}(hE:EOk P E H)(hp:p=kM f)(h:(lZ T ih E p args H).Is v H1):
 FnS P f args H (fun v' H'=>v'=v∧H'=H1)∧LK H H1:=by
 unfold lZ at h
 split at h
 case h_2=>exact absurd h Rs.ar
 rename_i g hg
 subst hp
 obtain⟨fn,c,hfn,hb,hn,hps,hlow,hres⟩:=(hT f g hg).ex
 rw[hps]at h
 rw[fE]at h
 rcases a0h (no:=Rs.no) (l:=args) (i:=0) (m:=fn.ntmps) (f:=.e) (K:=fun f=>c1N g.res (ih E g.body f H))with h1|⟨h1,f0,h2,h3⟩
 ·rw[h1]at h;exact absurd h Rs.ar
 ·rw[h2]at h
  have hf0:FRel fn.ntmps f0 (args++List.replicate (fn.ntmps-args.length) undef):=by
   refine⟨by simp;omega,fun t=> ?_⟩
   rw[h3 t,a0C]
   by_cases ht:t<args.length
   ·rw[if_pos (by omega)];rfl
   ·rw[if_neg (by omega),uW,oH,cY,ed (by omega)];try rfl
  cases hr:ih E g.body f0 H with
  | no=>rw[hr]at h;exact absurd h Rs.ar
  | ok e f1 H2=>
    rw[hr]at h
    obtain⟨l1,hf1,hs,hk,_⟩:=hih E g.body fn.ntmps c f0 _ H e f1 H2 hlow hf0 hE hr
    have key:(e=.normal∨e=.ret)→(a7i g.res f1 H2).Is v H1→FnS P f args H (fun v' H'=>v'=v∧H'=H1)∧LK H H1:=by
     intro he hv
     obtain⟨rfl,hv⟩:=b5L hf1.2 hres hv
     exact⟨⟨fn,c,e,l1,H1,v,hfn,hb,hn,hs,he,hv,rfl,rfl⟩,hk⟩
    cases e with
    | normal=>exact key (.inl rfl) h
    | ret=>exact key (.inr rfl) h
    | exit id=>exact absurd h Rs.ar
theorem b7V{T:LT}(hT:TOk P T){ih:qA}(hih:a4A P ih){E:List LEnv}{p:Pth}{f:FuncId}{args:List Value}{H H1:Heap}{v:Value}(hE:EOk P E H)(hp:p=kM f)(h:(b5W P T ih E p f args H).Is v H1):
 (FnS P f args H (fun v' H'=>v'=v∧H'=H1)∨qC P f args H=some (v,H1))∧LK H H1:=by
 unfold b5W at h
 cases hg:a3l p T with
 | some g=>
   rw[hg]at h
   obtain⟨a,b⟩:=a0r (H1:=H1) (v:=v) hT hih hE hp (by unfold lZ;rw[hg];exact h)
   exact⟨.inl a,b⟩
 | none=>
   rw[hg]at h
   have h:(c3K P f args H).Is v H1:=h
   unfold c3K at h
   split at h
   ·rename_i v2 H2 hx
    obtain⟨rfl,rfl⟩:=Rs.aN h
    exact⟨.inr hx,a4S hx⟩
   ·exact absurd h Rs.ar
theorem a9L{E:List LEnv}{L:Nat}{en:LEnv}(h:b7p E L=some en):en∈E∧en.L=L:=by
 induction E with
 | nil=>cases h
 | cons e E ih=>
   have h:nX (Nat.beq e.L L) (b7p E L) (some e)=some en:=h
   rw[kO]at h
   split at h
   ·rename_i hh
    injection h with h
    subst h
    exact⟨by simp,dQ hh⟩
   ·obtain⟨h1,h2⟩:=ih h
    exact⟨dN _ h1,h2⟩
theorem a8K(e:Ex):c1G e=rU e:=by cases e<;>rfl
theorem b3c{ih:qA}(hih:a4A P ih){E:List LEnv}{L:Nat}{args:List Value}{H H1:Heap}{v:Value}(hE:EOk P E H)(h:(b0N ih E L args H).Is v H1):zE P L args H v H1∧LK H H1:=by
 unfold b0N at h
 split at h
 case h_2=>exact absurd h Rs.ar
 rename_i en hen
 obtain⟨hmem,rfl⟩:=a9L hen
 split at h
 case h_2=>exact absurd h Rs.ar
 rename_i p fn tmps ps a b d hg
 obtain⟨hlen,h⟩:=lD h
 rw[xW]at hlen
 have hlen:ps.size=args.length:=by simpa only[decide_eq_true_eq]using hlen
 obtain⟨k,hps,hsz,hpp,hpk,hla,hlb⟩:=(hE en hmem).2 _ hg
 have hsz:tmps.length=k:=by simpa using hsz
 rw[hps,fE]at h
 rcases a0h (no:=Rs.no) (l:=tmps) (i:=0) (m:=k) (f:=.e) (K:=fun f=>oY .no args en.pp f fun f=>sP ih E en (ih E en.a f H))with h1|⟨h1,f0,h2,h3⟩
 ·rw[h1]at h;exact absurd h Rs.ar
 rw[h2]at h
 have hf0:FRel k f0 tmps:=by
  refine⟨hsz,fun t=> ?_⟩
  rw[h3 t]
  by_cases ht:t<tmps.length
  ·rw[if_pos (by omega)];rfl
  ·rw[if_neg (by omega),uW,oH,cY,ed (by omega)];try rfl
 rw[hpp]at h
 obtain⟨f2,h4,hf2⟩:=wC (no:=Rs.no) (args:=args) (ps:=ps.toList) (K:=fun f=>sP ih E en (ih E en.a f H)) hf0 hpk (by simpa using hlen.symm)
 have h:(oY Rs.no args (List.map kM ps.toList) f0 fun f=>sP ih E en (ih E en.a f H)).Is v H1:=h
 rw[h4]at h
 cases hr1:ih E en.a f2 H with
 | no=>rw[hr1]at h;exact absurd h Rs.ar
 | ok e f3 H2=>
   rw[hr1]at h
   obtain⟨l3,hf3,hs1,hk1,_⟩:=hih E en.a k a f2 _ H e f3 H2 hla hf2 hE hr1
   cases e with
   | ret=>exact absurd h Rs.ar
   | exit id=>exact absurd h Rs.ar
   | normal=>
     have h:(a0u ih E en f3 H2).Is v H1:=h
     unfold a0u at h
     split at h
     case h_2=>exact absurd h Rs.ar
     rename_i p2 fn2 tmps2 ps2 a2 b2 d2 hg2
     rw[lX]at h
     obtain⟨r0,hr0,ea,eb,ep,et⟩:=hk1.2 en.L _ (hE en hmem).1 hg2
     rw[hg]at hr0
     injection hr0 with hr0
     injection hr0 with hr0
     subst hr0
     have ea':a2=a:=ea
     have eb':b2=b:=eb
     have ep':ps2=ps:=ep
     have et':tmps2=⟨tmps⟩:=et
     clear ea eb ep et
     subst ea' eb' ep' et'
     have hk2:LK H2 (hset H2 en.L (.loop ⟨.busy,p2,fn2,⟨tmps⟩,ps2,a2,b2,d2⟩)):=.loop hg2 ⟨rfl,rfl,rfl,rfl⟩
     cases hr2:ih E en.b f3 (hset H2 en.L (.loop ⟨.busy,p2,fn2,⟨tmps⟩,ps2,a2,b2,d2⟩))with
     | no=>rw[hr2]at h;exact absurd h Rs.ar
     | ok e f4 H3=>
       rw[hr2]at h
       obtain⟨l4,_,hs2,hk3,_⟩:=hih E en.b k b2 f3 _ _ e f4 H3 hlb hf3 (hE.ak (hk1.trans hk2)) hr2
       have h:(a1Z en.L e H3).Is v H1:=h
       unfold a1Z at h
       split at h
       case h_2=>exact absurd h Rs.ar
       rename_i st3 p3 fn3 tmps3 ps3 a3 b3 d3 hg3
       have fin:∀r',H1=hset H3 en.L (.loop r')→(r'={(⟨st3,p3,fn3,tmps3,ps3,a3,b3,d3⟩:Loop)with state:=if(rU e).isNone then .ready else .done,pending:=rU e})→v=.bool (rU e).isNone→zE P en.L args H v H1∧LK H H1:=by
        intro r' hH hr' hv
        refine⟨?_,hk1.trans (hk2.trans (hk3.trans (by rw[hH];exact .loop hg3 (by rw[hr'];exact⟨rfl,rfl,rfl,rfl⟩))))⟩
        have hW:=a0Z (P:=P) (args:=args) (K:=fun v' H'=>v'=v∧H'=H1) hg hlen rfl
         ⟨.normal,l3,H2,hs1,rfl,_,hg2,rfl,e,l4,H3,hs2,_,hg3,hv.symm,by rw[hH,hr']⟩
        obtain⟨v',H',h1,rfl,rfl⟩:=hW
        exact h1
       split at h
       ·rename_i hj
        obtain⟨rfl,rfl⟩:=Rs.aN h
        rw[a8K]at hj
        exact fin _ rfl (by rw[hj];rfl) (by rw[hj];rfl)
       ·rename_i c hj
        obtain⟨rfl,rfl⟩:=Rs.aN h
        rw[a8K]at hj
        exact fin _ rfl (by rw[hj];rfl) (by rw[hj];rfl)
theorem a4p{T:LT}(hT:TOk P T){ih:qA}(hih:a4A P ih){E:List LEnv}{H0:Heap}(hE:EOk P E H0):CallsOk P (a0L P T ih E) H0 where
 fn p f args H v H1 hk h hp:=b7V hT hih (hE.ak hk) hp h
 rd L args H v H1 hk h:=b3c hih (hE.ak hk) h
theorem c3s{α:Type}{f:Fr}{l:List Value}(hf:FAg f l)(i m:Nat)(K:List Value→α):frL f ((List.range' i m).map kM) K=K ((List.range' i m).map (get l)):=by
 induction m generalizing i K with
 | zero=>rfl
 | succ m ih=>
   have e:frL f ((List.range' i (m+1)).map kM) K=oG (oB (kM i) f) fun v=>frL f ((List.range' (i+1) m).map kM) fun l=>K (v::l):=by
    rw[gA];rfl
   rw[e,mO,ih,hf i,gA];rfl
theorem c0O{α:Type}{k:Nat}{f:Fr}{l:List Value}(hf:FRel k f l)(K:List Value→α):frL f ((List.range k).map kM) K=K l:=by
 rw[fE,c3s hf.2,←fE]
 congr 1
 apply gr
 intro i
 rw[eI]
 by_cases hi:i<k
 ·rw[gF hi,dI,oH,cY]
  have:i<l.length:=by rw[hf.1];exact hi
  simp[dh this]
 ·rw[ed (by simp;omega),ed (by rw[hf.1];omega)];rfl
theorem b4y{T:LT}(hT:TOk P T){ih:qA}(hih:a4A P ih){E:List LEnv}{k:Nat}{g:Operand}{ps:Array Tmp}{assign body:Code}{A B:LCode}(hg:iP g=true)(hps:∀t∈ps.toList,t<k)(ha:Low P k assign A)(hb:Low P k body B)
 {x1 x2:Fr→Heap→Rc} {f:Fr} {l:List Value} {H:Heap} {e:Ex} {f1:Fr} {H1:Heap} (hf:FRel k f l) (hE:EOk P E H) (h:a9d T ih E (iW g) ((List.range k).map kM) (ps.toList.map kM) ps assign body A B x1 x2 f H=.ok e f1 H1):
 f1=f∧Sim P (.rangeFunc g ps assign body) l H e l H1∧LK H H1:=by
 unfold a9d at h
 rw[jR hf.2]at h
 split at h
 case h_2=>cases h
 rename_i j xa xb hgv
 rw[jZ,c0O hf,lX,jZ]at h
 unfold b2n at h
 rw[lK]at h
 generalize hH0:H.cons (.loop ⟨.ready,none,0,⟨l⟩,ps,assign,body,0⟩)=H0 at h
 have hl0:(⟨.ready,none,0,⟨l⟩,ps,assign,body,0⟩:Loop)=b1w l ps assign body:=rfl
 have hE0:EOk P (⟨H.length,(List.range k).map kM,ps.toList.map kM,A,B⟩::E) H0:=by
  intro en hen
  rcases dS.1 hen with rfl|hen
  ·refine⟨by rw[←hH0,length_cons];exact Nat.lt_succ_self _,fun r hr=> ?_⟩
   rw[←hH0,iO]at hr
   injection hr with hr
   injection hr with hr
   subst hr
   exact⟨k,rfl,by simpa using hf.1,rfl,hps,ha,hb⟩
  ·exact(hE.ak (by rw[←hH0];exact .cons _ _)) en hen
 have key:∀v H2,(lZ T ih (⟨H.length,(List.range k).map kM,ps.toList.map kM,A,B⟩::E) (kM j) (a5o xa (.func (.yield H.length) #[] #[]::xb)) H0).Is v H2→uO H.length f H2=.ok e f1 H1→f1=f∧Sim P (.rangeFunc g ps assign body) l H e l H1∧LK H H1:=by
  intro v H2 hc hr
  obtain⟨hfn,hk⟩:=a0r hT hih hE0 rfl hc
  have hargs:a5o xa (.func (.yield H.length) #[] #[]::xb)=xa++[.func (.yield H.length) #[] #[]]++xb:=by rw[yP];simp
  rw[hargs,←hH0,hl0]at hfn
  have fin:∀(r:Loop)(H3:Heap),iR H2 H.length=some (.loop r)→r.state≠.busy→H3=hset H2 H.length (.loop {r with state:=.exhausted})→(r.pending=none→e=.normal)→(∀c,r.pending=some c→(c=.ret∧e=.ret)∨∃id,c=.exit id∧e=.exit id)→f1=f→H1=H3→
   f1=f∧Sim P (.rangeFunc g ps assign body) l H e l H1∧LK H H1:=by
   intro r H3 hrl hnb hH3 hp0 hp1 he1 he2
   have hw:Wp P (.rangeFunc g ps assign body) l H (fun e' l' H'=>e'=e∧l'=l∧H'=H3):=by
    refine Wp.range (first:=xa) (captured:=xb) hg (by rw[hgv]) (hfn.mono ?_)
    rintro v' H'⟨rfl,rfl⟩
    refine⟨r,hrl,hnb,fun hp=>⟨(hp0 hp).symm,rfl,hH3.symm⟩,fun c hc=> ?_⟩
    rcases hp1 c hc with⟨rfl,he⟩|⟨id,rfl,he⟩
    ·exact Wp.ret ⟨he.symm,rfl,hH3.symm⟩
    ·exact Wp.exit ⟨he.symm,rfl,hH3.symm⟩
   obtain⟨e',l',H',hs,rfl,rfl,rfl⟩:=hw
   refine⟨he1,by rw[he2];exact hs,?_⟩
   rw[he2,hH3]
   have h1:LK H H0:=by rw[←hH0];exact .cons _ _
   exact h1.trans (hk.trans (.loop hrl ⟨rfl,rfl,rfl,rfl⟩))
  unfold uO at hr
  split at hr
  ·rename_i hg2
   rw[lX]at hr
   injection hr with h1 h2 h3
   exact fin _ _ hg2 (by simp) rfl (fun _=>h1.symm) (fun c hc=>by cases hc) h2.symm h3.symm
  ·rename_i hg2
   rw[lX]at hr
   injection hr with h1 h2 h3
   exact fin _ _ hg2 (by simp) rfl (fun _=>h1.symm) (fun c hc=>by cases hc) h2.symm h3.symm
  ·rename_i hg2
   rw[lX]at hr
   injection hr with h1 h2 h3
   exact fin _ _ hg2 (by simp) rfl (fun hc=>by cases hc) (fun c hc=>by injection hc with hc;subst hc;exact .inl ⟨rfl,h1.symm⟩) h2.symm h3.symm
  ·rename_i hg2
   rw[lX]at hr
   injection hr with h1 h2 h3
   exact fin _ _ hg2 (by simp) rfl (fun hc=>by cases hc) (fun c hc=>by injection hc with hc;subst hc;exact .inr ⟨_,rfl,h1.symm⟩) h2.symm h3.symm
  ·cases hr
 cases hc:lZ T ih (⟨H.length,(List.range k).map kM,ps.toList.map kM,A,B⟩::E) (kM j) (a5o xa (.func (.yield H.length) #[] #[]::xb)) H0 with
 | no=>rw[hc]at h;cases h
 | ok v H2=>rw[hc]at h;exact key v H2 (.inl hc) h
 | th v H2=>
   rw[hc]at h
   have h:nP H2 (fun H=>uO _ f H)=.ok e f1 H1:=h
   rw[lX]at h
   exact key v H2 (.inr hc) h
theorem c2z(jW:P.follows .mixedOrders=true){T:LT}(hT:TOk P T):∀n,a4A P (xZ P T n):=by
 intro n
 induction n with
 | zero=>intro E C k c f l H e f1 H1 _ _ _ h;cases h
 | succ n ih=>
   intro E C k c f l H e f1 H1 hlow hf hE h
   have h:b1P P T (xZ P T n) E C f H=.ok e f1 H1:=h
   have noloop:∀{c:Code},(∀b,c≠.loop b)→∀{l1:List Value},∀b,c=.loop b→∃n,Rounds P b n l H e l1 H1:=fun hne _ b hb=>absurd hb (hne b)
   cases hlow with
   | bad=>cases h
   | skip=>
     injection h with h1 h2 h3;subst h1 h2 h3
     exact⟨l,hf,.skip l H,.refl H,noloop (by intro b h;cases h)⟩
   | label t=>
     injection h with h1 h2 h3;subst h1 h2 h3
     exact⟨l,hf,.label t l H,.refl H,noloop (by intro b h;cases h)⟩
   | exit id=>
     injection h with h1 h2 h3;subst h1 h2 h3
     exact⟨l,hf,.exit id l H,.refl H,noloop (by intro b h;cases h)⟩
   | ret=>
     injection h with h1 h2 h3;subst h1 h2 h3
     exact⟨l,hf,.ret l H,.refl H,noloop (by intro b h;cases h)⟩
   | @reg id ops d lo hlo hd=>
     have h:c4x (yE P (a0L P T (xZ P T n) E) lo f H)=.ok e f1 H1:=h
     cases hr:yE P (a0L P T (xZ P T n) E) lo f H with
     | no=>rw[hr]at h;cases h
     | ok f2 H2=>
       rw[hr]at h
       injection h with h1 h2 h3;subst h1 h2 h3
       obtain⟨l1,hf1,hops,hk⟩:=b8R (a4p hT ih hE) hlo (i:=0) rfl hf (.refl H) hr
       have hops:OpsR P ops (List.range ops.size) l H l1 H2:=by rw[fE];simpa using hops
       refine⟨l1,hf1,?_,hk,noloop (by intro b h;cases h)⟩
       cases d with
       | false=>exact .region hops
       | true=>exact .bT jW (hd rfl) hops
   | drw hlo ht hl=>
     obtain⟨l1,rfl,hf1,hs,hk⟩:=b8V jW (a4p hT ih hE) hlo ht hl hf h
     exact⟨l1,hf1,hs,hk,noloop (by intro b h;cases h)⟩
   | @seq a b A B ha hb=>
     have h:c0I (xZ P T n) E B (xZ P T n E A f H)=.ok e f1 H1:=h
     cases hr:xZ P T n E A f H with
     | no=>rw[hr]at h;cases h
     | ok e2 f2 H2=>
       rw[hr]at h
       obtain⟨l2,hf2,hs,hk,_⟩:=ih E A k a f l H e2 f2 H2 ha hf hE hr
       cases e2 with
       | normal=>
         obtain⟨l1,hf1,hs1,hk1,_⟩:=ih E B k b f2 l2 H2 e f1 H1 hb hf2 (hE.ak hk) h
         exact⟨l1,hf1,.seq hs hs1,hk.trans hk1,noloop (by intro b h;cases h)⟩
       | ret=>
         injection h with h1 h2 h3;subst h1 h2 h3
         exact⟨l2,hf2,.seq' hs (by intro h;cases h),hk,noloop (by intro b h;cases h)⟩
       | exit id=>
         injection h with h1 h2 h3;subst h1 h2 h3
         exact⟨l2,hf2,.seq' hs (by intro h;cases h),hk,noloop (by intro b h;cases h)⟩
   | @cond c x y X Y hc hx hy=>
     have h:b6s (xZ P T n) E (iW c) X Y (b1P P T (xZ P T n) E X) (b1P P T (xZ P T n) E Y) f H=.ok e f1 H1:=h
     unfold b6s at h
     rw[jR hf.2]at h
     split at h
     ·rename_i t ht
      cases t with
      | true=>
        obtain⟨l1,hf1,hs,hk,_⟩:=ih E X k x f l H e f1 H1 hx hf hE h
        exact⟨l1,hf1,.cond ht hc hs,hk,noloop (by intro b h;cases h)⟩
      | false=>
        obtain⟨l1,hf1,hs,hk,_⟩:=ih E Y k y f l H e f1 H1 hy hf hE h
        exact⟨l1,hf1,.cond ht hc hs,hk,noloop (by intro b h;cases h)⟩
     ·cases h
   | @block id b B hb=>
     have h:c6J id (xZ P T n E B f H)=.ok e f1 H1:=h
     cases hr:xZ P T n E B f H with
     | no=>rw[hr]at h;cases h
     | ok e2 f2 H2=>
       rw[hr]at h
       obtain⟨l2,hf2,hs,hk,_⟩:=ih E B k b f l H e2 f2 H2 hb hf hE hr
       have hs':Sim P (.block id b) l H (e2.out id) l2 H2:=.block hs
       cases e2 with
       | normal=>injection h with h1 h2 h3;subst h1 h2 h3;exact⟨l2,hf2,hs',hk,noloop (by intro b h;cases h)⟩
       | ret=>injection h with h1 h2 h3;subst h1 h2 h3;exact⟨l2,hf2,hs',hk,noloop (by intro b h;cases h)⟩
       | exit i=>
         have h:Rc.ok (Bool.rec (motive:=fun _=>Ex) (.exit i) .normal (Nat.beq i id)) f2 H2=.ok e f1 H1:=h
         injection h with h1 h2 h3;subst h2 h3
         have:(Ex.exit i).out id=e:=by
          rw[←h1]
          by_cases hi:i=id
          ·subst hi;simp[Ex.out]
          ·have:Nat.beq i id=false:=fR.2 fun e=>hi (dQ e)
           simp[Ex.out,hi,this]
         rw[this]at hs'
         exact⟨l2,hf2,hs',hk,noloop (by intro b h;cases h)⟩
   | @loop b B hb=>
     have h:c0I (xZ P T n) E (.loop B) (xZ P T n E B f H)=.ok e f1 H1:=h
     cases hr:xZ P T n E B f H with
     | no=>rw[hr]at h;cases h
     | ok e2 f2 H2=>
       rw[hr]at h
       obtain⟨l2,hf2,hs,hk,_⟩:=ih E B k b f l H e2 f2 H2 hb hf hE hr
       have last:e2≠.normal→e2=e→f2=f1→H2=H1→∃l1,FRel k f1 l1∧Sim P (.loop b) l H e l1 H1∧LK H H1∧∀b',Code.loop b=.loop b'→∃n,Rounds P b' n l H e l1 H1:=by
        intro hne h1 h2 h3
        subst h1 h2 h3
        have hr:Rounds P b 1 l H e2 l2 H2:=.last hs hne
        exact⟨l2,hf2,.loop hr,hk,fun b' hb'=>by injection hb' with hb';subst hb';exact⟨1,hr⟩⟩
       cases e2 with
       | normal=>
         obtain⟨l1,hf1,hs1,hk1,hro⟩:=ih E (.loop B) k (.loop b) f2 l2 H2 e f1 H1 (.loop hb) hf2 (hE.ak hk) h
         obtain⟨m,hm⟩:=hro b rfl
         have hr:Rounds P b (m+1) l H e l1 H1:=.more hs hm
         exact⟨l1,hf1,.loop hr,hk.trans hk1,fun b' hb'=>by injection hb' with hb';subst hb';exact⟨_,hr⟩⟩
       | ret=>injection h with h1 h2 h3;exact last (by intro h;cases h) h1 h2 h3
       | exit id=>injection h with h1 h2 h3;exact last (by intro h;cases h) h1 h2 h3
   | range hg hps ha hb=>
     obtain⟨rfl,hs,hk⟩:=b4y (x1:=fun _ _=>.no) (x2:=fun _ _=>.no) hT ih hg hps ha hb hf hE h
     exact⟨l,hf,hs,hk,noloop (by intro b h;cases h)⟩
theorem zN{α:Type}(v:LFunc)(p:Pth)(f:LT)(K:LT→α):sJ v p f K=K (sJ v p f fun f=>f):=by
 induction p generalizing f α with
 | z=>cases f<;>rfl
 | l p ih=>
   cases f with
   | e=>
     show sJ v p .e (fun l=>K (.n none l .e))=K (sJ v p .e fun l=>.n none l .e)
     rw[ih,ih (K:=fun l=>LT.n none l .e)]
   | n w l r=>
     show sJ v p l (fun l=>K (.n w l r))=K (sJ v p l fun l=>.n w l r)
     rw[ih,ih (K:=fun l=>LT.n w l r)]
 | r p ih=>
   cases f with
   | e=>
     show sJ v p .e (fun l=>K (.n none .e l))=K (sJ v p .e fun l=>.n none .e l)
     rw[ih,ih (K:=fun l=>LT.n none .e l)]
   | n w l r=>
     show sJ v p r (fun r=>K (.n w l r))=K (sJ v p r fun r=>.n w l r)
     rw[ih,ih (K:=fun r=>LT.n w l r)]
theorem xI(p:Pth):a3l p .e=none:=by cases p<;>rfl
theorem b4S(v:LFunc)(p q:Pth)(f:LT){g:LFunc}(h:a3l q (sJ v p f fun f=>f)=some g):(q=p∧g=v)∨a3l q f=some g:=by
 induction p generalizing f q with
 | z=>
   cases q with
   | z=>left;refine⟨rfl,?_⟩;cases f<;>(injection h with h;exact h.symm)
   | l q=>right;cases f with
     | e=>have h:a3l q .e=some g:=h
          rw[xI]at h;cases h
     | n=>exact h
   | r q=>right;cases f with
     | e=>have h:a3l q .e=some g:=h
          rw[xI]at h;cases h
     | n=>exact h
 | l p ih=>
   have h1:∀f,sJ v (.l p) f (fun f=>f)=match f with|.e=>.n none (sJ v p .e fun f=>f) .e|.n w l r=>.n w (sJ v p l fun f=>f) r:=fun f=>by
    cases f with
    | e=>exact zN v p .e fun l=>LT.n none l .e
    | n w l r=>exact zN v p l fun l=>LT.n w l r
   rw[h1]at h
   cases q with
   | z=>right;cases f with
     | e=>exact h
     | n=>exact h
   | r q=>right;cases f with
     | e=>have h:a3l q .e=some g:=h
          rw[xI]at h;cases h
     | n=>exact h
   | l q=>
     cases f with
     | e=>
       rcases ih q .e h with⟨rfl,hq⟩|h
       ·exact .inl ⟨rfl,hq⟩
       ·rw[xI]at h;cases h
     | n w l r=>
       rcases ih q l h with⟨rfl,hq⟩|h
       ·exact .inl ⟨rfl,hq⟩
       ·exact .inr h
 | r p ih=>
   have h1:∀f,sJ v (.r p) f (fun f=>f)=match f with|.e=>.n none .e (sJ v p .e fun f=>f)|.n w l r=>.n w l (sJ v p r fun f=>f):=fun f=>by
    cases f with
    | e=>exact zN v p .e fun l=>LT.n none .e l
    | n w l r=>exact zN v p r fun r=>LT.n w l r
   rw[h1]at h
   cases q with
   | z=>right;cases f with
     | e=>exact h
     | n=>exact h
   | l q=>right;cases f with
     | e=>have h:a3l q .e=some g:=h
          rw[xI]at h;cases h
     | n=>exact h
   | r q=>
     cases f with
     | e=>
       rcases ih q .e h with⟨rfl,hq⟩|h
       ·exact .inl ⟨rfl,hq⟩
       ·rw[xI]at h;cases h
     | n w l r=>
       rcases ih q r h with⟨rfl,hq⟩|h
       ·exact .inl ⟨rfl,hq⟩
       ·exact .inr h
theorem b4x{α:Type}(f:FuncId)(no:α)(K:LFunc→α):(∃g,FuncOk P f g∧a3e P f no K=K g)∨a3e P f no K=no:=by
 unfold a3e
 split
 ·rename_i fn hfn
  split
  ·rename_i c hb
   rw[kO]
   split
   ·exact .inr rfl
   ·rename_i hn
    rcases b6P (P:=P) fn.results.toList (fun res=>b2U fn.ntmps fun ps=>nE P fn.ntmps c fun b=>K ⟨ps,b,res⟩) no with⟨res,hres,h1⟩|h1
    ·rw[h1,b1o]
     obtain⟨C,hC,h2⟩:=b4n (P:=P) fn.ntmps c (fun b=>K ⟨(List.range fn.ntmps).map kM,b,res⟩)
     exact .inl ⟨⟨_,C,res⟩,⟨fn,c,hfn,hb,by simpa using hn,rfl,hC,hres⟩,h2⟩
    ·exact .inr h1
  ·exact .inr rfl
 ·exact .inr rfl
theorem b5T{α:Type}(fs:List FuncId)(T:LT)(hT:TOk P T)(K:LT→α):∃T',TOk P T'∧qR P fs T K=K T':=by
 induction fs generalizing T with
 | nil=>exact⟨T,hT,rfl⟩
 | cons f fs ih=>
   have e:qR P (f::fs) T K=a3e P f (qR P fs T K) fun g=>lN (kM f) fun p=>sJ g p T fun T=>qR P fs T K:=rfl
   rw[e]
   rcases b4x (P:=P) f (qR P fs T K) (fun g=>lN (kM f) fun p=>sJ g p T fun T=>qR P fs T K)with⟨g,hg,h⟩|h
   ·rw[h,lK,zN]
    refine ih _ fun f' g' h'=> ?_
    rcases b4S g (kM f) (kM f') T h' with⟨he,rfl⟩|h'
    ·rw[b1p he];exact hg
    ·exact hT f' g' h'
   ·rw[h];exact ih T hT
end Go.Ds
namespace Go.Ds
open Go.Proofs Go.Proofs.Tryz
def t64:List Nat:=[0,1,56,2,57,49,28,3,61,58,42,50,38,29,17,4,62,47,59,36,45,43,51,22,53,39,33,30,24,18,12,5,63,55,48,27,60,41,37,16,46,35,44,21,52,32,23,11,54,26,40,15,34,20,31,10,25,14,19,9,13,8,7,6]
def t32:List Nat:=[0,1,28,2,29,14,24,3,30,22,20,15,25,17,4,8,31,27,13,23,21,19,16,7,26,12,18,6,11,5,10,9]
noncomputable def gH:Heap:=((((((Heap.nil.cons (.cells (t64.map fun(n:Nat)=>Value.int .u8 (.ofNat n)) 5 false 0 1)).cons (.cells [] 3 false 0 1)).cons (.cells [] 282 false 0 1)).cons (.cells [] 282 false 0 1)).cons (.cells ([1,10,100,1000,10000,100000,1000000,10000000,100000000,1000000000,10000000000,100000000000,1000000000000,10000000000000,100000000000000,1000000000000000,10000000000000000,100000000000000000,1000000000000000000,10000000000000000000].map fun(n:Nat)=>Value.int .u64 (.ofNat n)) 39 false 0 1)).cons (.cells (t32.map fun(n:Nat)=>Value.int .u8 (.ofNat n)) 5 false 0 1))
theorem c4R:prog.follows .mixedOrders=true:=by kernel_rfl
def b4P:Nat→Nat→List UInt8→List UInt8
 | 0,_,acc=>acc
 | f+1,n,acc=>if n<10 then(48+n).toUInt8::acc else b4P f (n/10) ((48+n%10).toUInt8::acc)
def mC(n:Nat):ByteArray:=⟨(b4P 100 n []).toArray⟩
theorem a5E{b:ByteArray}{n:Nat}(h:b.data.toList=b4P 100 n []):b=mC n:=by
 cases b with|mk d=>cases d with|mk l=>simp only at h;subst h;rfl
def a4o(r:Rs)(n:Nat):Bool:=match r with
 | .ok (.string b) _=>decide (b.data.toList=b4P 100 n [])
 | .th (.string b) _=>decide (b.data.toList=b4P 100 n [])
 | _=>false
def c0A(v:Value)(n:Nat):Bool:=match v with
 | .tuple vs=>match vs.toList with
   | [.string b,.int .i64 m]=>decide (m=0)&&decide (b.data.toList=b4P 100 n [])
   | _=>false
 | _=>false
def b7q(r:Rs)(n:Nat):Bool:=match r with
 | .ok v _=>c0A v n
 | .th v _=>c0A v n
 | _=>false
def b1J(r:Rs)(n:Int):Bool:=match r with
 | .ok (.int .i64 m) _=>decide (m=n)
 | .th (.int .i64 m) _=>decide (m=n)
 | _=>false
noncomputable def c0X (ps:List Nat):Bool:=qR prog [141,125,167,173,219,237,246,247,248,249,255,256,257,258,262] .e fun T=>ps.all fun x=>a4o (lZ T (xZ prog T 4000) [] (kM 125) [.int .i64 x] gH) x
def fsP:List Nat:=[141,235,215,217,160,124,167,234,251,205,206,169,170,171,172,176,250,259,212,213,214,216,218,194,220,232,233,236,227,246,247,248,249,255,256,257,258,262]
noncomputable def vJ (ps:List Nat):Bool:=qR prog fsP .e fun T=>ps.all fun x=>b7q (lZ T (xZ prog T 4000) [] (kM 124) [.string (mC x),.int .i64 24] gH) (x^24)
def fsM:List Nat:=[141,235,215,217,160,125,126,167,173,234,251,205,206,169,170,171,172,174,176,219,250,259,212,213,214,216,218,194,220,237,232,233,236,227,246,247,248,249,255,256,257,258,262]
noncomputable def mA (ps:List (Nat×Nat)):Bool:=qR prog fsM .e fun T=>ps.all fun x=>a4o (lZ T (xZ prog T 4000) [] (kM 126) [.string (mC x.1),.string (mC x.2)] gH) (x.1*x.2)
def sF(t:Nat×Nat):List (Nat×Nat):=(t.1^24,2)::(List.range t.2).map fun k=>(2*t.1^24*4^k,4)
def a6E(t:Nat×Nat×Nat):List (Nat×Nat):=(List.range (t.2.2+1)).map fun k=>(t.1^24,2*t.2.1^24*4^k)
def a5j(a b:Nat):Int:=if a<b then -1 else if b<a then 1 else 0
noncomputable def uT (ps:List (Nat×Nat)):Bool:=qR prog [127,175,176,177,194,220,221,227,238] .e fun T=>ps.all fun x=>b1J (lZ T (xZ prog T 4000) [] (kM 127) [.string (mC x.1),.string (mC x.2)] gH) (a5j x.1 x.2)
end Go.Ds
namespace Go.Ds
open Go.RowKit Go.Proofs
section
variable {P:Program} {ρ:Rho} {H:Heap} {w:World}
theorem a4t{name:String}{g:Nat}{k:IntKind}{zs:List Int}(hg:P.globalNamed name=some g)(ht:Lib.TabIs P w name k zs):∃t fr,w.heap[g]? =some (.cells (zs.map fun z=>Value.int k z).toArray t fr):=by
 unfold Lib.TabIs World.var? at ht
 rw[hg,cV]at ht
 split at ht
 ·rename_i cs t fr hb
  obtain rfl:=cT ht
  exact⟨t,fr,hb⟩
 ·cases ht
theorem InW.cH(h:InW P ρ H w){name:String}{g:Nat}{k:IntKind}{zs:List Int}{ty:TypeId}(hg:P.globalNamed name=some g)(ht:Lib.TabIs P w name k zs)(hgH:g=H.length)(hty:iE P ty=some 1):
 InW P (ρ.put H.length (zs.map fun z=>Value.int k z).length ⟨g,0,zs.length,1⟩) (H.cons (.cells (zs.map fun z=>Value.int k z) ty false 0 1)) w:=by
 obtain⟨t,fr,hb⟩:=a4t hg ht
 refine(h.row ⟨g,0,zs.length,1⟩ hb (ty:=ty) hty (by simp) (zs.map fun z=>Value.int k z) 1 (fun _=>⟨hgH,rfl⟩) (by simp) fun i c hi _ hc=>⟨c,?_,?_⟩).1
 ·have:(⟨g,0,zs.length,1⟩:Place).at i=i:=by simp[Place.at]
  rw[this]
  simpa using hc
 ·rw[eI]at hc
  obtain⟨z,_,rfl⟩:=dc.1 hc
  exact .c0 (.flat rfl)
end
theorem c5u:∀A b,iR gH A=some b→∃cs ty lo,b=.cells cs ty false lo 1∧kJ cs=true:=by
 intro A b h
 unfold gH at h
 have hn:∀(H:Heap)(c:Blk),iR (H.cons c) A=some b→(A=H.length∧b=c)∨iR H A=some b:=fun H c h=>by
  by_cases he:A=H.length
  ·subst he;rw[iO]at h;exact .inl ⟨rfl,(cT h).symm⟩
  ·have hA:A<(H.cons c).length:=jK h
   rw[length_cons]at hA
   rw[jU _ (by omega)]at h
   exact .inr h
 rcases hn _ _ h with⟨_,rfl⟩|h
 ·exact⟨_,_,_,rfl,by kernel_rfl⟩
 rcases hn _ _ h with⟨_,rfl⟩|h
 ·exact⟨_,_,_,rfl,by kernel_rfl⟩
 rcases hn _ _ h with⟨_,rfl⟩|h
 ·exact⟨_,_,_,rfl,by kernel_rfl⟩
 rcases hn _ _ h with⟨_,rfl⟩|h
 ·exact⟨_,_,_,rfl,by kernel_rfl⟩
 rcases hn _ _ h with⟨_,rfl⟩|h
 ·exact⟨_,_,_,rfl,by kernel_rfl⟩
 rcases hn _ _ h with⟨_,rfl⟩|h
 ·exact⟨_,_,_,rfl,by kernel_rfl⟩
 ·have:A<0:=jK h
  omega
theorem ExtW.glob{ρ ρ':Rho}{H':Heap}(h:ExtW ρ gH ρ' H'):Glob gH H':=⟨h.len,fun A hA=>h.old A hA,c5u⟩
def p10:List Int:=[1,10,100,1000,10000,100000,1000000,10000000,100000000,1000000000,10000000000,100000000000,1000000000000,10000000000000,100000000000000,1000000000000000,10000000000000000,100000000000000000,1000000000000000000,10000000000000000000]
theorem g64:Tryz.prog.globalNamed "math/bits.deBruijn64tab" =some 0:=by kernel_rfl
theorem nH:Tryz.prog.globalNamed "internal/strconv.uint64pow10" =some 4:=by kernel_rfl
theorem g32:Tryz.prog.globalNamed "math/bits.deBruijn32tab" =some 5:=by kernel_rfl
theorem b8I{w:World}(h64:Lib.TabIs Tryz.prog w "math/bits.deBruijn64tab" .u8 (t64.map Int.ofNat))(h10:Lib.TabIs Tryz.prog w "internal/strconv.uint64pow10" .u64 p10)
 (h32:Lib.TabIs Tryz.prog w "math/bits.deBruijn32tab" .u8 (t32.map Int.ofNat)) (h1001:∃cs t fr,w.heap[1]? =some (.cells cs t fr)) (h1002:∃cs t fr,w.heap[2]? =some (.cells cs t fr)) (h1003:∃cs t fr,w.heap[3]? =some (.cells cs t fr)):∃ρ,InW Tryz.prog ρ gH w:=by
 have a0:=(InW.none (P:=Tryz.prog) w).cH g64 h64 (ty:=5) rfl (by kernel_rfl)
 obtain⟨cs1,t1,fr1,hb1⟩:=h1001
 have a1:=(a0.row ⟨1,0,cs1.size,1⟩ hb1 (ty:=3) (by kernel_rfl) rfl [] 1 (fun _=>⟨rfl,rfl⟩) (by simp) (fun i c hi=>by simp at hi)).1
 obtain⟨cs2,t2,fr2,hb2⟩:=h1002
 have a2:=(a1.row ⟨2,0,cs2.size,1⟩ hb2 (ty:=282) (by kernel_rfl) rfl [] 1 (fun _=>⟨rfl,rfl⟩) (by simp) (fun i c hi=>by simp at hi)).1
 obtain⟨cs3,t3,fr3,hb3⟩:=h1003
 have a3:=(a2.row ⟨3,0,cs3.size,1⟩ hb3 (ty:=282) (by kernel_rfl) rfl [] 1 (fun _=>⟨rfl,rfl⟩) (by simp) (fun i c hi=>by simp at hi)).1
 have a4:=a3.cH nH h10 (ty:=39) rfl (by kernel_rfl)
 have a5:=a4.cH g32 h32 (ty:=5) rfl (by kernel_rfl)
 exact⟨_,a5⟩
end Go.Ds
namespace Go.Ds
noncomputable section
variable {P:Program} {H0:Base} {H:Heap} {os:List Ob} {κ β:Type} [DecidableEq κ] {enc:κ→Value} {f:β→Value} {t:TypeId} {z:Value}
structure MapK(P:Program)(t:TypeId){κ:Type}[DecidableEq κ](enc:κ→Value)(z:Value):Prop where
 ex:∃kt et,yV P t=some (kt,et)∧jB P et=some z∧iZ z=true∧(∀b k,zT P b kt (enc k)=true)∧
  (∀k(es:List MapEntry)(ks:List κ),es.map (·.key)=ks.map enc→rR P kt (enc k) es=some (ks.findIdx? fun x=>decide (x=k)))∧∀k,Instr.sameBits 10000 (enc k) (enc k)=true
def kcs(enc:κ→Value)(f:β→Value)(kvs:List (κ×β)):List Value:=kvs.flatMap fun p=>[enc p.1,f p.2]
def a2P(kvs:List (κ×β))(k:κ):Option β:=(kvs.find? fun p=>decide (p.1=k)).map (·.2)
def a4V(kvs:List (κ×β))(k:κ)(v:β):List (κ×β):=match kvs.findIdx? (fun p=>decide (p.1=k))with
 | some j=>kvs.set j (k,v)
 | none=>kvs++[(k,v)]
theorem a4W:∀(es:List MapEntry)(kvs:List (κ×β)),kcs enc f kvs=mcs es→es.map (·.key)=kvs.map (fun p=>enc p.1)∧es.map (·.val)=kvs.map (fun p=>f p.2)
 | [],[],_=>⟨rfl,rfl⟩
 | [],p::kvs,h=>by simp[kcs,mcs]at h
 | e::es,[],h=>by simp[kcs,mcs]at h
 | e::es,p::kvs,h=>by
   simp only[kcs,mcs,du,gX,ff,fP]at h
   obtain⟨h1,h2,h3⟩:=h
   obtain⟨h4,h5⟩:=a4W es kvs h3
   simp only[ek]
   exact⟨by rw[h4,h1],by rw[h5,h2]⟩
theorem b0x:∀(es:List MapEntry)(kvs:List (κ×β)),es.map (·.key)=kvs.map (fun p=>enc p.1)→es.map (·.val)=kvs.map (fun p=>f p.2)→kcs enc f kvs=mcs es
 | [],[],_,_=>rfl
 | [],p::kvs,h,_=>by simp at h
 | e::es,[],h,_=>by simp at h
 | e::es,p::kvs,h,h'=>by
   simp only[ek,fP]at h h'
   have:=b0x es kvs h.2 h'.2
   simp only[kcs,mcs,du]at this ⊢
   rw[this,h.1,h'.1]
theorem St.bU(hS:St P H0 H os)(i:Nat){A:Nat}{cs:List Value}(ho:os[i]? =some ⟨.map (some A),0,cs⟩):∃es ck ver,iR H A=some (.map es ck ver)∧cs=mcs es∧Stamps es ck:=by
 have:=hS.own _ (dJ ho)
 unfold OwnAt at this
 rw[if_pos rfl]at this
 rcases this with⟨_,_,_,_,_,_,h⟩|⟨A',es,ck,ver,h1,h2,h3,h4⟩
 ·cases h
 ·simp only[Value.map.injEq,dB]at h3
  subst h3
  exact⟨es,ck,ver,h1,h2,h4⟩
theorem b1R(kvs:List (κ×β))(k:κ):(∃j x,(kvs.map (·.1)).findIdx? (fun x=>decide (x=k))=some j∧kvs[j]? =some x∧kvs.find? (fun p=>decide (p.1=k))=some x)∨((kvs.map (·.1)).findIdx? (fun x=>decide (x=k))=none∧kvs.find? (fun p=>decide (p.1=k))=none):=by
 induction kvs with
 | nil=>exact .inr ⟨rfl,rfl⟩
 | cons p kvs ih=>
   by_cases h:p.1=k
   ·exact .inl ⟨0,p,by simp[eU,h],rfl,by simp[h]⟩
   ·rcases ih with⟨j,x,h1,h2,h3⟩|⟨h1,h2⟩
    ·exact .inl ⟨j+1,x,by simp[eU,h,h1],by simpa using h2,by simp[h,h3]⟩
    ·exact .inr ⟨by simp[eU,h,h1],by simp[h,h2]⟩
theorem St.cQ(hS:St P H0 H os)(i:Nat){A:Nat}{kvs:List (κ×β)}(ho:os[i]? =some ⟨.map (some A),0,kcs enc f kvs⟩)(hk:MapK P t enc z)(hf:∀b,mW (f b)=true)(c:Bool)(k:κ):
 pG P H t (.map (some A)) (enc k) c=some (pairV c (((a2P kvs k).map f).getD z) (a2P kvs k).isSome):=by
 obtain⟨kt,et,h1,h2,h3,h4,h5,h6⟩:=hk.ex
 obtain⟨es,ck,ver,h7,h8,_⟩:=hS.bU i ho
 obtain⟨h9,h10⟩:=a4W es kvs h8
 have hi:=h5 k es (kvs.map (·.1)) (by rw[h9];simp[gR])
 simp only[pG,h1,cV,a2W,h7,h4,if_true,hi,a2P]
 rcases b1R kvs k with⟨j,x,e1,e2,e3⟩|⟨e1,e3⟩
 ·have hj:es[j]?.map (·.val)=some (f x.2):=by
   rw[←eI,h10,eI,e2];rfl
  cases he:es[j]? with
  | none=>rw[he]at hj;simp at hj
  | some e=>
    rw[he]at hj
    simp only[dI,dB]at hj
    simp only[e1,he,cV,hj,hf,if_true,e3,dI,eZ,Option.isSome_some]
 ·simp only[e1,e3,Option.map_none,Option.getD_none,Option.isSome_none,h2,cV,h3,if_true]
def a7h(P:Program)(H:Heap)(t:TypeId)(x k:Value)(c:Bool)(K:Value→Prop)(_k:Keep K:=⟨⟩):Prop:=∃v,pG P H t x k c=some v∧K v
theorem a7K{t:TypeId}{x x' k k':Value}{c:Bool}{K:Value→Prop}(h:x=x')(h2:k=k'):a7h P H t x k c K=a7h P H t x' k' c K:=by rw[h,h2]
attribute [congr] a7K
theorem a9n(d ty pos af g)(t:TypeId)(x k:Operand)(c:Bool)(l:List Value)(K:Value→Heap→Prop):
 lV P ⟨d,.lookup t x k c,ty,pos,af,g⟩ l H K=jI x l fun x=>jI k l fun k=>a7h P H t x k c fun v=>K v H:=by
 have h2:kA ((pG P H t (ev l x) (ev l k) c).map fun v=>(v,H)) K=∃v,pG P H t (ev l x) (ev l k) c=some v∧K v H:=by
  cases pG P H t (ev l x) (ev l k) c<;>simp[kA]
 simp only[lV,opD,jI,Op.operands,a7h,h2]
 simp[and_assoc]
theorem St.bL(hS:St P H0 H os)(i:Nat){A:Nat}{kvs:List (κ×β)}(ho:os[i]? =some ⟨.map (some A),0,kcs enc f kvs⟩)(hk:MapK P t enc z)(hf:∀b,mW (f b)=true){c:Bool}{k:κ}{K:Value→Prop}
 (h:K (pairV c (((a2P kvs k).map f).getD z) (a2P kvs k).isSome)):a7h P H t (.map (some A)) (enc k) c K:=⟨_,hS.cQ i ho hk hf c k,h⟩
def a5F(P:Program)(H:Heap)(t:TypeId)(K:Value→Heap→Prop)(_k:Keep K:=⟨⟩):Prop:=∃v H1,pH P H t none=some (v,H1)∧K v H1
theorem a7G(d ty pos af g)(t:TypeId)(l:List Value)(K:Value→Heap→Prop):lV P ⟨d,.makeMap t none,ty,pos,af,g⟩ l H K=a5F P H t K:=by
 simp only[lV,opD,Op.operands,a5F,mN]
 simp
theorem St.bQ(hS:St P H0 H os)(hk:MapK P t enc z){K:Value→Heap→Prop}(h:∀A H1,St P H0 H1 (os++[⟨.map (some A),0,[]⟩])→K (.map (some A)) H1):a5F P H t K:=by
 obtain⟨kt,et,h1,_⟩:=hk.ex
 refine⟨.map (some H.length),H.cons (.map [] 0 0),by simp[pH,h1],h _ _ (hS.add ?_ ?_ ?_ ?_)⟩
 ·unfold OwnAt
  rw[if_pos rfl]
  exact .inr ⟨_,[],0,0,iO H _,rfl,rfl,.nil 0⟩
 ·simp[qB]
 ·exact fun B hB=>jU _ hB
 ·intro B hB
  simp[kI]at hB
  omega
def b6S(P:Program)(H:Heap)(t:TypeId)(m k v:Value)(K:Heap→Prop)(_k:Keep K:=⟨⟩):Prop:=∃H1,a1m P H t m k v=some H1∧K H1
theorem a8Z{t:TypeId}{m m' k k' v v':Value}{K:Heap→Prop}(h:m=m')(h2:k=k')(h3:v=v'):b6S P H t m k v K=b6S P H t m' k' v' K:=by rw[h,h2,h3]
attribute [congr] a8Z
theorem a3u(d ty pos af g)(t:TypeId)(m k v:Operand)(l:List Value)(K:Value→Heap→Prop):
 lV P ⟨d,.mapUpdate t m k v,ty,pos,af,g⟩ l H K=jI m l fun m=>jI k l fun k=>jI v l fun v=>b6S P H t m k v fun H1=>K undef H1:=by
 have h2:kA ((a1m P H t (ev l m) (ev l k) (ev l v)).map fun H=>(undef,H)) K=∃H1,a1m P H t (ev l m) (ev l k) (ev l v)=some H1∧K undef H1:=by
  cases a1m P H t (ev l m) (ev l k) (ev l v)<;>simp[kA]
 simp only[lV,opD,jI,Op.operands,b6S,h2]
 simp[and_assoc]
theorem b2m(kvs:List (κ×β))(k:κ)(v:β):a4V kvs k v=match (kvs.map (·.1)).findIdx? (fun x=>decide (x=k))with|some j=>kvs.set j (k,v)|none=>kvs++[(k,v)]:=by
 unfold a4V
 rw[List.findIdx?_map]
 rfl
theorem St.ca(hS:St P H0 H os)(i:Nat){A:Nat}{kvs:List (κ×β)}(ho:os[i]? =some ⟨.map (some A),0,kcs enc f kvs⟩)(hk:MapK P t enc z){k:κ}{v:β}{K:Heap→Prop}
 (h:∀H1,St P H0 H1 (os.set i ⟨.map (some A),0,kcs enc f (a4V kvs k v)⟩)→K H1):b6S P H t (.map (some A)) (enc k) (f v) K:=by
 obtain⟨kt,et,h1,h2,h3,h4,h5,h6⟩:=hk.ex
 obtain⟨es,ck,ver,h7,h8,hst⟩:=hS.bU i ho
 obtain⟨h9,h10⟩:=a4W es kvs h8
 have hi:=h5 k es (kvs.map (·.1)) (by rw[h9];simp[gR])
 have fin:∀es' ck',mcs es'=kcs enc f (a4V kvs k v)→Stamps es' ck'→St P H0 (hset H A (.map es' ck' (ver+1))) (os.set i ⟨.map (some A),0,kcs enc f (a4V kvs k v)⟩):=by
  intro es' ck' he hst'
  refine hS.put i ho ?_ ?_ ?_ ?_
  ·unfold OwnAt
   rw[if_pos rfl]
   exact .inr ⟨A,es',ck',_,iS _ (jK h7),he.symm,rfl,hst'⟩
  ·rw[jM];exact db _
  ·intro B hB hne
   exact qM fun hh=>hne (by simp[kI,hh])
  ·exact fun B hB=>.inl hB
 rcases b1R kvs k with⟨j,x,e1,e2,_⟩|⟨e1,_⟩
 ·have hj:es[j]?.map (·.key)=some (enc x.1):=by
   rw[←eI,h9,eI,e2];rfl
  have hx:x.1=k:=by
   have:=List.findIdx?_eq_some_iff_getElem.1 e1
   obtain⟨hlt,hd,_⟩:=this
   have hlt':j<kvs.length:=by simpa using hlt
   have:kvs[j]=x:=by
    rw[dh hlt']at e2
    exact cT e2
   simp[this]at hd
   exact hd
  cases he:es[j]? with
  | none=>rw[he]at hj;simp at hj
  | some e=>
    rw[he]at hj
    simp only[dI,dB]at hj
    refine⟨hset H A (.map (es.set j {e with key:=enc k,val:=f v}) ck (ver+1)),?_,h _ (fin _ _ ?_ (hst.set he _ rfl))⟩
    ·have hsb:Instr.sameBits 10000 e.key (enc k)=true:=by rw[hj,hx];exact h6 k
     simp only[a1m,h1,cV,h7,h4,if_true,hi,e1,he,hsb]
    ·symm
     rw[b2m,e1]
     refine b0x _ _ ?_ ?_
     ·rw[List.map_set,List.map_set,h9]
     ·rw[List.map_set,List.map_set,h10]
 ·refine⟨hset H A (.map (es++[{key:=enc k,val:=f v,born:=ck}]) (ck+1) (ver+1)),?_,h _ (fin _ _ ?_ (hst.push _ rfl))⟩
  ·simp only[a1m,h1,cV,h7,h4,if_true,hi,e1]
  ·symm
   rw[b2m,e1]
   refine b0x _ _ ?_ ?_
   ·rw[dM,dM,h9];rfl
   ·rw[dM,dM,h10];rfl
def b8q(P:Program)(H:Heap)(t:TypeId)(m k:Value)(K:Value→Heap→Prop)(_k:Keep K:=⟨⟩):Prop:=∃v H1,sO P H t m k=some (v,H1)∧K v H1
theorem b0F{t:TypeId}{m m' k k':Value}{K:Value→Heap→Prop}(h:m=m')(h2:k=k'):b8q P H t m k K=b8q P H t m' k' K:=by rw[h,h2]
attribute [congr] b0F
def b1Y(H:Heap)(m b v:Value)(K:Heap→Prop)(_k:Keep K:=⟨⟩):Prop:=∃H1,rP H m b v=some H1∧K H1
theorem a7d{m m' b b' v v':Value}{K:Heap→Prop}(h:m=m')(h2:b=b')(h3:v=v'):b1Y H m b v K=b1Y H m' b' v' K:=by rw[h,h2,h3]
attribute [congr] a7d
theorem a5p(d ty pos af g)(t:TypeId)(m k:Operand)(l:List Value)(K:Value→Heap→Prop):
 lV P ⟨d,.mapEntry t m k,ty,pos,af,g⟩ l H K=jI m l fun m=>jI k l fun k=>b8q P H t m k K:=by
 have h2:kA (sO P H t (ev l m) (ev l k)) K=∃v H1,sO P H t (ev l m) (ev l k)=some (v,H1)∧K v H1:=mN ..
 simp only[lV,opD,jI,Op.operands,b8q,h2]
 simp[and_assoc]
theorem a2z(d ty pos af g)(t:TypeId)(m b v:Operand)(l:List Value)(K:Value→Heap→Prop):
 lV P ⟨d,.entryStore t m b v,ty,pos,af,g⟩ l H K=jI m l fun m=>jI b l fun b=>jI v l fun v=>b1Y H m b v fun H1=>K undef H1:=by
 have h2:kA ((rP H (ev l m) (ev l b) (ev l v)).map fun H=>(undef,H)) K=∃H1,rP H (ev l m) (ev l b) (ev l v)=some H1∧K undef H1:=by
  cases rP H (ev l m) (ev l b) (ev l v)<;>simp[kA]
 simp only[lV,opD,jI,Op.operands,b1Y,h2]
 simp[and_assoc]
theorem a2G(kvs:List (κ×β))(k k':κ)(v:β):a2P (a4V kvs k v) k'=if k'=k then some v else a2P kvs k':=by
 unfold a2P a4V
 induction kvs with
 | nil=>
   by_cases h:k'=k
   ·simp[h]
   ·simp[h,eY h]
 | cons p kvs ih=>
   by_cases hp:p.1=k
   ·simp only[eU,hp,decide_true,if_true,eW,List.find?_cons]
    by_cases h:k'=k
    ·simp[h]
    ·simp[h,eY h]
   ·have hd:decide (p.1=k)=false:=by simp[hp]
    simp only[eU,hd,dT,if_false]
    by_cases hq:p.1=k'
    ·have hne:¬k'=k:=fun e=>hp (hq.trans e)
     cases hh:kvs.findIdx? (fun p=>decide (p.1=k))with
     | none=>simp[hq,hne]
     | some j=>simp[hq,hne]
    ·cases hh:kvs.findIdx? (fun p=>decide (p.1=k))with
     | none=>
       rw[hh]at ih
       simpa [hq,List.find?_cons]using ih
     | some j=>
       rw[hh]at ih
       simpa [hq,List.find?_cons]using ih
end
end Go.Ds
namespace Go.Ds
noncomputable section
variable {P:Program} {H:Heap}
theorem kN{α:Type}(P:Program)(x:α):iM P (pure x)=some x:=rfl
theorem jT{t:TypeId}{d:TypeDesc}(h:P.underlying t=some d):iM P (underlying t)=some d:=by
 unfold underlying
 rw[iJ]
 have:iM P program=some P:=rfl
 rw[this,cV,h]
 rfl
def lF:Operand→Bool
 | .const _=>true
 | _=>false
def oR(c:Bool)(i:Nat)(v:Value):Operand:=if c then .const v else .tmp i
def lC(P:Program)(op:BinOp)(t t2:TypeId)(cx cy:Bool)(x y:Value):Option Value:=(opD P ⟨none,.binOp op t (oR cx 0 x) (oR cy 1 y) t2,t,"",#[],none⟩ [x,y] .nil).map (·.1)
def lE(P:Program)(op:BinOp)(t t2:TypeId)(cx cy:Bool)(x y:Value)(K:Value→Prop)(_k:Keep K:=⟨⟩):Prop:=match x,y with
 | .int k a,.int k' b=>(match (if k=k' then mJ op k a b else none)with|some v=>K v|none=>jY (lC P op t t2 cx cy (.int k a) (.int k' b)) K)
 | x,y=>jY (lC P op t t2 cx cy x y) K
theorem a6S{op:BinOp}{t t2:TypeId}{cx cy:Bool}{x x' y y':Value}{K:Value→Prop}(h:x=x')(h2:y=y'):lE P op t t2 cx cy x y K=lE P op t t2 cx cy x' y' K:=by rw[h,h2]
attribute [congr] a6S
theorem a9W(x:Operand)(l m:List Value):ev (ev l x::m) (oR (lF x) 0 (ev l x))=ev l x:=by cases x<;>rfl
theorem a9J(x:Operand)(l m:List Value)(a:Value):ev (a::ev l x::m) (oR (lF x) 1 (ev l x))=ev l x:=by cases x<;>rfl
theorem b7c(op:BinOp)(t:TypeId)(x y:Operand)(l:List Value):eqGuard op t x y (ev l x) (ev l y)=eqGuard op t (oR (lF x) 0 (ev l x)) (oR (lF y) 1 (ev l y)) (ev l x) (ev l y):=by
 generalize hx:ev l x=vx
 generalize hy:ev l y=vy
 cases x<;>cases y<;>rfl
theorem c0G(d ty pos af g)(op:BinOp)(t:TypeId)(x y:Operand)(t2:TypeId)(l:List Value)(H:Heap):
 opD P ⟨d,.binOp op t x y t2,ty,pos,af,g⟩ l H=(lC P op t t2 (lF x) (lF y) (ev l x) (ev l y)).map fun v=>(v,H):=by
 have hp:kP P ⟨d,.binOp op t x y t2,ty,pos,af,g⟩ l H=_:=mY (P:=P) ⟨d,.binOp op t x y t2,ty,pos,af,g⟩ ⟨none,.binOp op t (oR (lF x) 0 (ev l x)) (oR (lF y) 1 (ev l y)) t2,t,"",#[],none⟩ l [ev l x,ev l y] H
  (by simp only[Op.operands,ek,gi,a9W,a9J]) (by
    simp only[execOp]
    rw[a9W,a9J,←b7c])
 simp only[opD,lC,hp,a9W,a9J]
 generalize kP P _ _ _=r
 generalize ev l x=vx
 generalize ev l y=vy
 split
 all_goals first
  | (split<;>first|rfl|(split<;>first|rfl|(cases r<;>rfl))|(cases r<;>rfl))
  | (cases r<;>rfl)
theorem b6w(d ty pos af g)(op:BinOp)(t:TypeId)(x y:Operand)(t2:TypeId)(l:List Value)(K:Value→Heap→Prop):
 lV P ⟨d,.binOp op t x y t2,ty,pos,af,g⟩ l H K=jI x l fun x'=>jI y l fun y'=>lE P op t t2 (lF x) (lF y) x' y' fun v=>K v H:=by
 have h:kA (opD P ⟨d,.binOp op t x y t2,ty,pos,af,g⟩ l H) K=lE P op t t2 (lF x) (lF y) (ev l x) (ev l y) fun v=>K v H:=by
  have key:kA ((lC P op t t2 (lF x) (lF y) (ev l x) (ev l y)).map fun v=>(v,H)) K=jY (lC P op t t2 (lF x) (lF y) (ev l x) (ev l y)) fun v=>K v H:=by
   cases lC P op t t2 (lF x) (lF y) (ev l x) (ev l y)<;>rfl
  rw[c0G,key]
  unfold lE
  split
  ·rename_i k a k' b hx hy
   split
   ·rename_i v hv
    split at hv
    ·rename_i hk
     subst hk
     have:lC P op t t2 (lF x) (lF y) (.int k a) (.int k b)=some v:=by
      have h1:∀m,ev ((.int k a:Value)::m) (oR (lF x) 0 (.int k a))=.int k a:=fun m=>by cases lF x<;>rfl
      have h2:∀m c,ev (c::(.int k b:Value)::m) (oR (lF y) 1 (.int k b))=.int k b:=fun m c=>by cases lF y<;>rfl
      cases op<;>simp only[mJ]at hv<;>first|(cases hv;done)|(simp only[lC,opD,h1,h2,mJ,if_true,hv];rfl)
     rw[hx,hy,this]
     rfl
    ·cases hv
   ·rw[hx,hy]
  ·rfl
 simp only[lV,h,jI,Op.operands]
 simp[and_assoc]
theorem lY(op:BinOp)(t t2:TypeId)(cx cy:Bool)(k:IntKind)(a b:Int){v:Value}(K:Value→Prop)(h:mJ op k a b=some v):lE P op t t2 cx cy (.int k a) (.int k b) K=pN v K:=by
 simp[lE,h,pN]
section
theorem b3e(t t2:TypeId)(cx cy:Bool)(k:IntKind)(a b:Int)(K:Value→Prop):lE P .add t t2 cx cy (.int k a) (.int k b) K=pN (.int k (k.wrap (a+b))) K:=lY _ _ _ _ _ _ _ _ _ (by simp[mJ,b1v,uE])
theorem b4b(t t2:TypeId)(cx cy:Bool)(k:IntKind)(a b:Int)(K:Value→Prop):lE P .sub t t2 cx cy (.int k a) (.int k b) K=pN (.int k (k.wrap (a-b))) K:=lY _ _ _ _ _ _ _ _ _ (by simp[mJ,b1x,uE])
theorem b3A(t t2:TypeId)(cx cy:Bool)(k:IntKind)(a b:Int)(K:Value→Prop):lE P .mul t t2 cx cy (.int k a) (.int k b) K=pN (.int k (k.wrap (a*b))) K:=lY _ _ _ _ _ _ _ _ _ (by simp[mJ,uE])
theorem b3l(t t2:TypeId)(cx cy:Bool)(k:IntKind)(a b:Int)(K:Value→Prop):lE P .eql t t2 cx cy (.int k a) (.int k b) K=pN (.bool (decide (a=b))) K:=lY _ _ _ _ _ _ _ _ _ (by simp[mJ,a1I];rfl)
theorem b2J(t t2:TypeId)(cx cy:Bool)(k:IntKind)(a b:Int)(K:Value→Prop):lE P .neq t t2 cx cy (.int k a) (.int k b) K=pN (.bool (decide (¬a=b))) K:=lY _ _ _ _ _ _ _ _ _ (by simp[mJ,a1I];rfl)
theorem b4M(t t2:TypeId)(cx cy:Bool)(k:IntKind)(a b:Int)(K:Value→Prop):lE P .lss t t2 cx cy (.int k a) (.int k b) K=pN (.bool (decide (a<b))) K:=lY _ _ _ _ _ _ _ _ _ (by simp[mJ,a0g])
theorem b2I(t t2:TypeId)(cx cy:Bool)(k:IntKind)(a b:Int)(K:Value→Prop):lE P .leq t t2 cx cy (.int k a) (.int k b) K=pN (.bool (decide (a≤b))) K:=lY _ _ _ _ _ _ _ _ _ (by simp[mJ,a0g,←Int.not_lt])
theorem b4m(t t2:TypeId)(cx cy:Bool)(k:IntKind)(a b:Int)(K:Value→Prop):lE P .gtr t t2 cx cy (.int k a) (.int k b) K=pN (.bool (decide (b<a))) K:=lY _ _ _ _ _ _ _ _ _ (by simp[mJ,a0g])
theorem b3i(t t2:TypeId)(cx cy:Bool)(k:IntKind)(a b:Int)(K:Value→Prop):lE P .geq t t2 cx cy (.int k a) (.int k b) K=pN (.bool (decide (b≤a))) K:=lY _ _ _ _ _ _ _ _ _ (by simp[mJ,a0g,←Int.not_lt])
theorem b3Y(t t2:TypeId)(cx cy:Bool)(k:IntKind)(a b:Int)(K:Value→Prop)(hb:b≠0):lE P .rem t t2 cx cy (.int k a) (.int k b) K=pN (.int k (a.tmod b)) K:=lY _ _ _ _ _ _ _ _ _ (by
 have:(b==0)=false:=by simp[hb]
 simp[mJ,a1I,this])
theorem b4G(t t2:TypeId)(cx cy:Bool)(k:IntKind)(a b:Int)(K:Value→Prop)(hb:b≠0):lE P .quo t t2 cx cy (.int k a) (.int k b) K=pN (.int k (k.wrap (a.tdiv b))) K:=lY _ _ _ _ _ _ _ _ _ (by
 have:(b==0)=false:=by simp[hb]
 simp[mJ,a1I,uE,this])
end
theorem lM{op:BinOp}{t t2:TypeId}{cx cy:Bool}{x y v:Value}(hx:flat x=true)(hy:flat y=true)(hg:iM P (eqGuard op t (oR cx 0 x) (oR cy 1 y) x y)=some ())
 (hv:iM P (binOp op t x y)=some v) (hf:flat v=true) (hs:∀a n c,x≠.slice (some a) n c) (hp:∀a,x≠.pointer (some a)) (hi:∀k a b,x=.int k a→y=.int k b→mJ op k a b=none):lC P op t t2 cx cy x y=some v:=by
 have h1:∀m,ev (x::m) (oR cx 0 x)=x:=fun m=>by cases cx<;>rfl
 have h2:∀m c,ev (c::y::m) (oR cy 1 y)=y:=fun m c=>by cases cy<;>rfl
 have hpl:kP P ⟨none,.binOp op t (oR cx 0 x) (oR cy 1 y) t2,t,"",#[],none⟩ [x,y] .nil=some (v,.nil):=by
  unfold kP
  rw[if_pos (by simp[Op.operands,h1,h2,hx,hy])]
  have:execOp (ev [x,y]) ⟨none,.binOp op t (oR cx 0 x) (oR cy 1 y) t2,t,"",#[],none⟩=(do let v ←(do eqGuard op t (oR cx 0 x) (oR cy 1 y) x y;binOp op t x y);pure (.value v)):=by
   simp only[execOp,h1,h2]
  rw[this,iJ,iJ,hg,cV,hv,cV,kN]
  simp only[hf,if_true]
 simp only[lC,opD,h1,h2,hpl]
 split
 ·exact absurd rfl (hs _ _ _)
 ·exact absurd rfl (hs _ _ _)
 ·rename_i k a k' b
  split
  ·rename_i hk
   subst hk
   rw[hi _ _ _ rfl rfl]
   rfl
  ·rfl
 ·exact absurd rfl (hp _)
 ·exact absurd rfl (hp _)
 ·exact absurd rfl (hp _)
 ·exact absurd rfl (hp _)
 ·rfl
theorem qG{op:BinOp}{t:TypeId}{x y:Operand}{k k':IntKind}{a b:Int}:iM P (eqGuard op t x y (.int k a) (.int k' b))=some ():=by
 unfold eqGuard
 split<;>rfl
section
theorem b5e(t t2:TypeId)(cx cy:Bool)(a b:Int){k k':IntKind}(hb:0≤b):lC P .shr t t2 cx cy (.int k a) (.int k' b)=some (.int k (a.fdiv (2^(min b.toNat k.bits)))):=
 lM rfl rfl qG (by simp only[binOp,Op.shift];rw[if_neg (by omega)];rfl) rfl (by simp) (by simp) (by intros;rfl)
theorem b6b(t t2:TypeId)(cx cy:Bool)(a b:Int){k k':IntKind}(hb:0≤b):lC P .shl t t2 cx cy (.int k a) (.int k' b)=some (.int k (k.wrap (a*2^(min b.toNat k.bits)))):=
 lM rfl rfl qG (by simp only[binOp,Op.shift];rw[if_neg (by omega)];rfl) rfl (by simp) (by simp) (by intros;rfl)
theorem b7t(t t2:TypeId)(cx cy:Bool)(a b:Int)(k:IntKind):lC P .and t t2 cx cy (.int k a) (.int k b)=some (.int k (k.wrap (BitVec.ofInt k.bits a&&&BitVec.ofInt k.bits b).toNat)):=
 lM rfl rfl qG (by simp only[binOp];rw[if_neg (by simp)];rfl) rfl (by simp) (by simp) (by intros;rfl)
theorem c0L(t t2:TypeId)(cx cy:Bool)(a b:Int)(k:IntKind):lC P .or t t2 cx cy (.int k a) (.int k b)=some (.int k (k.wrap (BitVec.ofInt k.bits a|||BitVec.ofInt k.bits b).toNat)):=
 lM rfl rfl qG (by simp only[binOp];rw[if_neg (by simp)];rfl) rfl (by simp) (by simp) (by intros;rfl)
theorem b5C(t t2:TypeId)(cx cy:Bool)(a b:Int)(k:IntKind):lC P .xor t t2 cx cy (.int k a) (.int k b)=some (.int k (k.wrap (BitVec.ofInt k.bits a^^^BitVec.ofInt k.bits b).toNat)):=
 lM rfl rfl qG (by simp only[binOp];rw[if_neg (by simp)];rfl) rfl (by simp) (by simp) (by intros;rfl)
theorem a7Y(t t2:TypeId)(cx cy:Bool)(a b:Int)(k:IntKind):lC P .andNot t t2 cx cy (.int k a) (.int k b)=some (.int k (k.wrap (BitVec.ofInt k.bits a&&&~~~ BitVec.ofInt k.bits b).toNat)):=
 lM rfl rfl qG (by simp only[binOp];rw[if_neg (by simp)];rfl) rfl (by simp) (by simp) (by intros;rfl)
end
section
variable (a b:ByteArray)
theorem a0E{op:BinOp}{t:TypeId}{x y:Operand}:iM P (eqGuard op t x y (.string a) (.string b))=some ():=by
 unfold eqGuard
 split<;>rfl
theorem a0Y(h:a.data.toList=b.data.toList):a=b:=by
 cases a;cases b
 simp only[ByteArray.mk.injEq]
 exact Array.toList_inj.1 h
theorem a1K:(a.toList==b.toList)=decide (a=b):=by
 rw[ByteArray.toList_eq,ByteArray.toList_eq,ec,beq_iff_eq,decide_eq_true_iff]
 exact⟨a0Y a b,fun h=>by rw[h]⟩
theorem a9D(t t2:TypeId)(cx cy:Bool)(a b:ByteArray):lC P .eql t t2 cx cy (.string a) (.string b)=some (.bool (decide (a=b))):=
 lM rfl rfl (a0E a b) (by rw[←a1K];rfl) rfl (by simp) (by simp) (by intro _ _ _ h;cases h)
theorem b0e(t t2:TypeId)(cx cy:Bool)(a b:ByteArray):lC P .neq t t2 cx cy (.string a) (.string b)=some (.bool (decide (¬a=b))):=
 lM rfl rfl (a0E a b) (by
  have:decide (¬a=b)= !(a.toList==b.toList):=by rw[a1K];simp
  rw[this];rfl) rfl (by simp) (by simp) (by intro _ _ _ h;cases h)
theorem a8B(t t2:TypeId)(cx cy:Bool)(a b:ByteArray)(h:a.size+b.size<9223372036854775808):lC P .add t t2 cx cy (.string a) (.string b)=some (.string (a++b)):=
 lM rfl rfl (a0E a b) (by
  simp only[binOp,Op.stringOp]
  rw[if_neg]
  ·rfl
  ·have:IntKind.i64.max=9223372036854775807:=by decide
   rw[this];omega) rfl (by simp) (by simp) (by intro _ _ _ h;cases h)
end
theorem b7o{t:TypeId}(s:ByteArray)(ht:oC P t=true):a0t P H t (.string s)=some (.int .i64 s.size):=by
 unfold oC at ht
 unfold a0t
 split at ht
 ·rename_i h;rw[h];simp[wY,goInt]
 ·cases ht
def oZ(P:Program)(t:TypeId)(x i:Value):Option Value:=(opD P ⟨none,.index t (.const x) (.const i),t,"",#[],none⟩ [] .nil).map (·.1)
theorem b4D(d ty pos af g)(t:TypeId)(x i:Operand)(l:List Value)(K:Value→Heap→Prop):
 lV P ⟨d,.index t x i,ty,pos,af,g⟩ l H K=jI x l fun x=>jI i l fun i=>jY (oZ P t x i) fun v=>K v H:=by
 have h:opD P ⟨d,.index t x i,ty,pos,af,g⟩ l H=(oZ P t (ev l x) (ev l i)).map fun v=>(v,H):=by
  have hp:=mY (P:=P) ⟨d,.index t x i,ty,pos,af,g⟩ ⟨none,.index t (.const (ev l x)) (.const (ev l i)),t,"",#[],none⟩ l [] H rfl rfl
  simp only[opD,oZ]
  exact hp
 have h2:kA ((oZ P t (ev l x) (ev l i)).map fun v=>(v,H)) K=jY (oZ P t (ev l x) (ev l i)) fun v=>K v H:=by cases oZ P t (ev l x) (ev l i)<;>rfl
 simp only[lV,h,jI,Op.operands,h2]
 simp[and_assoc]
def oL(s:ByteArray)(i:Nat):Nat:=(s.data.toList.getD i 0).toNat
theorem b0Z{t:TypeId}(s:ByteArray)(k:IntKind)(i:Int)(ht:oC P t=true)(h0:0≤i)(h1:i<s.size):oZ P t (.string s) (.int k i)=some (.int .u8 (oL s i.toNat)):=by
 have hu:P.underlying t=some .string:=by
  unfold oC at ht
  split at ht
  ·rename_i h;exact h
  ·cases ht
 have hr:iM P (Instr.index t (.string s) (.int k i))=some (.int .u8 (oL s i.toNat)):=by
  unfold Instr.index
  rw[iJ]
  have e1:iM P (asIntOf (.int k i))=some (k,i):=rfl
  rw[e1,cV]
  simp only[iJ,jT hu,cV]
  rw[if_pos h0]
  have hlt:i.toNat<s.size:=by omega
  have hb:s[i.toNat]? =some s[i.toNat]:=by simp[getElem?_pos,hlt]
  simp only[hb]
  rw[kN]
  congr 3
  unfold oL
  rw[cY]
  have hl:i.toNat<s.data.toList.length:=by simpa using hlt
  rw[dh hl]
  rfl
 have hpl:kP P ⟨none,.index t (.const (.string s)) (.const (.int k i)),t,"",#[],none⟩ [] .nil=some (.int .u8 (oL s i.toNat),.nil):=by
  unfold kP
  rw[if_pos (by rfl)]
  have:execOp (ev []) ⟨none,.index t (.const (.string s)) (.const (.int k i)),t,"",#[],none⟩=(do let v ←Instr.index t (.string s) (.int k i);pure (.value v)):=rfl
  rw[this,iJ,hr,cV,kN]
  rfl
 simp only[oZ,opD,hpl]
 rfl
def a1j(P:Program)(t:TypeId):Option IntKind:=match P.underlying t with|some (.int k)=>some k|_=>none
theorem a0m{t:TypeId}{k:IntKind}(h:a1j P t=some k):P.underlying t=some (.int k):=by
 unfold a1j at h
 split at h
 ·rename_i h2;rw[h2];injection h with h;rw[h]
 ·cases h
theorem b3N{s t:TypeId}{k k':IntKind}(a:Int)(hs:a1j P s=some k)(ht:a1j P t=some k'):a2c P s t (.int k a)=some (.int k' (k'.wrap a)):=by
 have hr:iM P (convert s t (.int k a))=some (.int k' (k'.wrap a)):=by
  unfold convert
  simp only[iJ,jT (a0m hs),jT (a0m ht),cV]
  rfl
 have hpl:kP P ⟨none,.convert s t (.const (.int k a)),t,"",#[],none⟩ [] .nil=some (.int k' (k'.wrap a),.nil):=by
  unfold kP
  rw[if_pos (by rfl)]
  have:execOp (ev []) ⟨none,.convert s t (.const (.int k a)),t,"",#[],none⟩=(do let v ←convert s t (.int k a);pure (.value v)):=rfl
  rw[this,iJ,hr,cV,kN]
  rfl
 simp only[a2c,hpl]
 rfl
def a6g(P:Program)(d:Nat)(xs ys:Array Value)(fs:List Field):Option Bool:=
 (iM P (forIn fs ((none,()):Option Bool×Unit) fun f _=>
   if f.name≠ "_" then do
    let a ←part f.type xs f.offset
    let b ←part f.type ys f.offset
    let c ←Op.equalIn d f.type a b
    if(!c)=true then pure (ForInStep.done (some false,()))else pure (ForInStep.yield (none,()))
   else pure (ForInStep.yield (none,())))).bind fun x=>iM P (match x.fst with|some r=>pure r|none=>pure true)
theorem a3c{d:Nat}{xs ys:Array Value}(g:Field→Bool):∀(fs:List Field),(∀f∈fs,f.name≠ "_" ∧iM P (part f.type xs f.offset>>=fun x=>part f.type ys f.offset>>=fun y=>Op.equalIn d f.type x y)=some (g f))→
 a6g P d xs ys fs=some (fs.all g)
 | [],_=>rfl
 | f::fs,hg=>by
   obtain⟨h1,h2⟩:=hg f (dG ..)
   have ih:=a3c g fs fun f' h=>hg f' (dN _ h)
   unfold a6g at ih ⊢
   rw[iJ]at h2
   simp only[List.forIn_cons,h1,ne_eq,not_false_eq_true,if_true,iJ]
   cases hx:iM P (part f.type xs f.offset)with
   | none=>rw[hx]at h2;cases h2
   | some x=>
     rw[hx,cV,iJ]at h2
     cases hy:iM P (part f.type ys f.offset)with
     | none=>rw[hy]at h2;cases h2
     | some y=>
       rw[hy,cV]at h2
       simp only[cV,h2]
       cases hgf:g f with
       | false=>
         simp only[Bool.not_false,if_true,kN,cV,fj,hgf,ft]
       | true=>
         simp only[Bool.not_true,dT,if_false,kN,cV,fj,hgf,gJ]
         exact ih
theorem a6y{d:Nat}{t:TypeId}{fs:List Field}{xs ys:Array Value}(hu:P.underlying t=some (.struct fs.toArray))(hst:P.stoodInHeld t=false)(g:Field→Bool)
 (hg:∀f∈fs,f.name≠ "_" ∧iM P (part f.type xs f.offset>>=fun x=>part f.type ys f.offset>>=fun y=>Op.equalIn d f.type x y)=some (g f)):iM P (Op.equalIn (d+1) t (.agg xs) (.agg ys))=some (fs.all g):=by
 rw[Op.equalIn,iJ,jT hu,cV]
 have hp:iM P program=some P:=rfl
 simp only[iJ,hp,cV,hst,dT,if_false,List.forIn_toArray]
 refine Eq.trans ?_ (a3c g fs hg)
 unfold a6g
 congr 1
 funext x
 cases x.fst<;>rfl
theorem a4w{op:BinOp}{t:TypeId}(ht:P.eqGuardType P.depth t=false){x y:Operand}{a b:Array Value}:iM P (eqGuard op t x y (.agg a) (.agg b))=some ():=by
 have hp:iM P program=some P:=rfl
 unfold eqGuard
 cases op<;>simp[iJ,hp,ht,kN]
theorem b8f{t t2:TypeId}{cx cy:Bool}{xs ys:List Value}(b:Bool)(ht:P.eqGuardType P.depth t=false)(hx:xs.all iY=true)(hy:ys.all iY=true)(h:iM P (Op.equalIn (9999+1) t (.agg xs.toArray) (.agg ys.toArray))=some b):
 lC P .eql t t2 cx cy (.agg xs.toArray) (.agg ys.toArray)=some (.bool b):=
 lM (by simp[flat,iZ,kJ,hx]) (by simp[flat,iZ,kJ,hy]) (a4w ht) (by
  have hmd:Op.maxDepth=9999+1:=by decide
  simp only[binOp,iJ,Op.equal]
  rw[hmd,h,cV,kN]) rfl (by simp) (by simp) (by intro _ _ _ h;cases h)
theorem a7X{t t2:TypeId}{cx cy:Bool}{xs ys:List Value}(b:Bool)(ht:P.eqGuardType P.depth t=false)(hx:xs.all iY=true)(hy:ys.all iY=true)(h:iM P (Op.equalIn (9999+1) t (.agg xs.toArray) (.agg ys.toArray))=some b):
 lC P .neq t t2 cx cy (.agg xs.toArray) (.agg ys.toArray)=some (.bool (!b)):=
 lM (by simp[flat,iZ,kJ,hx]) (by simp[flat,iZ,kJ,hy]) (a4w ht) (by
  have hmd:Op.maxDepth=9999+1:=by decide
  simp only[binOp,iJ,Op.equal]
  rw[hmd,h,cV,kN]) rfl (by simp) (by simp) (by intro _ _ _ h;cases h)
end
end Go.Ds
namespace Go.Ds
noncomputable section
variable {P:Program} {H:Heap}
theorem a1U(a b:ByteArray):(a==b)=decide (b=a):=by
 obtain⟨x⟩:=a
 obtain⟨y⟩:=b
 rw[ec,decide_eq_true_iff]
 constructor
 ·intro h
  have e:x=y:=by simpa using(show(x==y)=true from h)
  rw[e]
 ·intro h
  cases h
  show(x==x)=true
  simp
theorem a4y(o:Option Nat)(i:Nat):o.map (i+1+·)=(o.map (·+1)).map (i+·):=by
 cases o with
 | none=>rfl
 | some j=>simp only[dI];congr 1;omega
theorem a0R(k:ByteArray):∀(es:List MapEntry)(ks:List ByteArray)(i:Nat),es.map (·.key)=ks.map Value.string→
 (Instr.findNow .string (.string k) (es.map wP) i).map (·.map (·.1))=some ((ks.findIdx? fun x=>decide (x=k)).map (i+·))
 | [],[],i,_=>rfl
 | [],_::_,_,h=>by simp at h
 | _::_,[],_,h=>by simp at h
 | e::es,s::ks,i,h=>by
   simp only[ek,fP]at h
   have hs:Instr.sameNow .string (.string k) e.key=some (decide (s=k)):=by
    rw[h.1]
    show some (k==s)=_
    rw[a1U]
   simp only[ek,Instr.findNow,wP,hs,eU]
   by_cases hd:s=k
   ·simp[hd]
   ·simp only[hd,decide_false,dT,if_false]
    have:=a0R k es ks (i+1) h.2
    rw[a4y]at this
    exact this
theorem b2d{κ:Type}[DecidableEq κ]{enc:κ→Value}{kt:TypeId}(heq:∀a b,iM P (Op.equal kt (enc a) (enc b))=some (decide (b=a)))(k:κ):∀(es:List MapEntry)(ks:List κ)(i:Nat),es.map (·.key)=ks.map enc→
 (iM P (Instr.findAsking kt (enc k) (es.map wP) i)).map (·.map (·.1))=some ((ks.findIdx? fun x=>decide (x=k)).map (i+·))
 | [],[],i,_=>rfl
 | [],_::_,_,h=>by simp at h
 | _::_,[],_,h=>by simp at h
 | e::es,s::ks,i,h=>by
   simp only[ek,fP]at h
   simp only[ek,Instr.findAsking,wP,iJ,eU]
   rw[h.1,heq,cV]
   by_cases hd:s=k
   ·simp[hd,kN]
   ·simp only[hd,decide_false,dT,if_false]
    have:=b2d heq k es ks (i+1) h.2
    rw[a4y]at this
    exact this
theorem MapK.str{t kt et:TypeId}{z:Value}(hm:yV P t=some (kt,et))(hu:P.underlying kt=some .string)(hz:jB P et=some z)(hf:iZ z=true):MapK P t Value.string z where
 ex:=by
  refine⟨kt,et,hm,hz,hf,?_,?_,?_⟩
  ·intro b k
   have:iM P (Instr.checkKey b 10000 kt (.string k))=some ():=by
    show iM P (Instr.checkKey b (9999+1) kt (.string k))=some ()
    unfold Instr.checkKey
    rw[iJ,jT hu,cV]
    rfl
   simp only[zT,this]
   rfl
  ·intro k es ks h
   have h1:=a0R k es ks 0 h
   unfold rR Instr.findKey
   rw[iJ,jT hu,cV]
   cases hn:Instr.findNow .string (.string k) (es.map wP) 0 with
   | none=>rw[hn]at h1;cases h1
   | some r=>
     rw[hn]at h1
     simp only[kN]
     simpa using h1
  ·intro k
   show(k==k)=true
   rw[a1U]
   simp
theorem MapK.struct{κ:Type}[DecidableEq κ]{enc:κ→Value}{t kt et:TypeId}{z:Value}{fs:Array Field}(hm:yV P t=some (kt,et))(hu:P.underlying kt=some (.struct fs))(hz:jB P et=some z)(hf:iZ z=true)
 (hk:∀b k,zT P b kt (enc k)=true) (heq:∀a b,iM P (Op.equal kt (enc a) (enc b))=some (decide (b=a))) (hsb:∀k,Instr.sameBits 10000 (enc k) (enc k)=true):MapK P t enc z where
 ex:=by
  refine⟨kt,et,hm,hz,hf,hk,?_,hsb⟩
  intro k es ks h
  have h1:=b2d heq k es ks 0 h
  unfold rR Instr.findKey
  rw[iJ,jT hu,cV]
  have key:∀(l:List MapEntry),Instr.findNow (.struct fs) (enc k) l 0=none∨l=[]:=by
   intro l
   cases l with
   | nil=>exact .inr rfl
   | cons e l=>exact .inl rfl
  rcases key (es.map wP)with hn|hn
  ·rw[hn]
   simpa using h1
  ·rw[hn]
   have:es=[]:=by simpa using hn
   subst this
   have:ks=[]:=by cases ks with|nil=>rfl|cons a ks=>simp at h
   subst this
   rfl
end
end Go.Ds
namespace Go.Ds
noncomputable section
variable {P:Program} {H:Heap}
def a1X(o:Option (Nat×TypeId))(P:Program)(H:Heap)(t:TypeId)(z:Value)(K:Value→Heap→Prop)(_k:Keep K:=⟨⟩):Prop:=match o with
 | none=>uB (iZ z) (a5s P H t z K)
 | some _=>uB (iZ z) (a9o P H t z K)
theorem a6c{o o':Option (Nat×TypeId)}{t:TypeId}{z:Value}{K:Value→Heap→Prop}(h:o=o'):a1X o P H t z K=a1X o' P H t z K:=by rw[h]
attribute [congr] a6c
theorem b7k{t:TypeId}(z:Value)(K:Value→Heap→Prop):uN P H t (some z) K=a1X (jN P t) P H t z K:=by
 cases h:jN P t with
 | none=>exact a7t z K h
 | some n=>exact a9s z K h
theorem a8J{t:TypeId}(z:Value)(K:Value→Heap→Prop):a1X none P H t z K=uB (iZ z) (a5s P H t z K):=rfl
theorem a8k{t:TypeId}(n:Nat×TypeId)(z:Value)(K:Value→Heap→Prop):a1X (some n) P H t z K=uB (iZ z) (a9o P H t z K):=rfl
theorem a7s{t:TypeId}{k:IntKind}(h:a1j P t=some k):lB P t=false:=by
 simp[lB,a0m h]
def a4H(ks kt:Option IntKind)(P:Program)(s t:TypeId)(H:Heap)(k:IntKind)(a:Int)(K:Value→Heap→Prop)(_k:Keep K:=⟨⟩):Prop:=match ks,kt with
 | some k0,some k'=>if k0=k then K (.int k' (k'.wrap a)) H else tT P s t H (.int k a) K
 | _,_=>tT P s t H (.int k a) K
theorem a7H{ks ks' kt kt':Option IntKind}{s t:TypeId}{k:IntKind}{a:Int}{K:Value→Heap→Prop}(h:ks=ks')(h2:kt=kt'):a4H ks kt P s t H k a K=a4H ks' kt' P s t H k a K:=by rw[h,h2]
attribute [congr] a7H
theorem c0a{s t:TypeId}(k:IntKind)(a:Int)(K:Value→Heap→Prop):tT P s t H (.int k a) K=a4H (a1j P s) (a1j P t) P s t H k a K:=by
 unfold a4H
 split
 ·rename_i k0 k' hs ht
  split
  ·rename_i hk
   subst hk
   rw[b2T k0 a K (a7s ht),b3N a hs ht]
   rfl
  ·rfl
 ·rfl
theorem b3H{s t:TypeId}(k k':IntKind)(a:Int)(K:Value→Heap→Prop):a4H (some k) (some k') P s t H k a K=pN (.int k' (k'.wrap a)) fun v=>K v H:=by simp[a4H,pN]
def c3E(b:Bool)(P:Program)(H:Heap)(t:TypeId)(v:Value):Option Value:=match b with
 | true=>(match v with|.string s=>some (.int .i64 s.size)|_=>a0t P H t v)
 | false=>a0t P H t v
theorem c3S(t:TypeId)(v:Value):a9i none P H t v=c3E (oC P t) P H t v:=by
 unfold c3E
 split
 ·rename_i h
  split
  ·exact b7o _ h
  ·rfl
 ·rfl
theorem b7X(t:TypeId)(s:ByteArray):c3E true P H t (.string s)=some (.int .i64 s.size):=rfl
def a2w(b:Bool)(P:Program)(t:TypeId)(x i:Value):Option Value:=match b,x,i with
 | true,.string s,.int k i=>if 0≤i∧i<s.size then some (.int .u8 (oL s i.toNat))else oZ P t (.string s) (.int k i)
 | _,x,i=>oZ P t x i
theorem a8v(t:TypeId)(x i:Value):oZ P t x i=a2w (oC P t) P t x i:=by
 unfold a2w
 split
 ·rename_i h
  split
  ·rename_i h2;exact b0Z _ _ _ h h2.1 h2.2
  ·rfl
 ·rfl
theorem b0V(t:TypeId)(s:ByteArray)(k:IntKind)(i:Int)(h0:0≤i)(h1:i<s.size):a2w true P t (.string s) (.int k i)=some (.int .u8 (oL s i.toNat)):=by
 simp[a2w,h0,h1]
theorem OC:(∀k n,oneCell (.int k n)=true)∧(∀b,oneCell (.bool b)=true)∧(∀s,oneCell (.string s)=true)∧(∀a,oneCell (.pointer a)=true)∧(∀a n c,oneCell (.slice a n c)=true)∧(∀r,oneCell (.map r)=true)∧(∀f a b,oneCell (.func f a b)=true)∧oneCell .nilFunc=true:=
 ⟨fun _ _=>rfl,fun _=>rfl,fun _=>rfl,fun _=>rfl,fun _ _ _=>rfl,fun _=>rfl,fun _ _ _=>rfl,rfl⟩
theorem c4w(o:Option Bool):(o.map Value.bool).getD (.bool false)=.bool (o.getD false):=by cases o<;>rfl
theorem c5a(k:IntKind)(o:Option Int):(o.map (Value.int k)).getD (.int k 0)=.int k (o.getD 0):=by cases o<;>rfl
theorem b9p(v:Value)(b:Bool):pairV false v b=v:=rfl
theorem c0R(v:Value)(b:Bool):pairV true v b=.tuple #[v,.bool b]:=rfl
theorem b6W(t:Tmp):lF (.tmp t)=false:=rfl
theorem a9Y(v:Value):lF (.const v)=true:=rfl
theorem b7Z(s:ByteArray):flat (.string s)=true:=rfl
theorem b2Z(s:ByteArray):iZ (.string s)=true:=rfl
theorem a9z(s:ByteArray):iY (.string s)=true:=rfl
theorem a7C(s:ByteArray):kH (.string s)=true:=rfl
theorem b4Z(k:IntKind)(n:Int):pI (.int k n)=true:=rfl
theorem b3w(b:Bool):pI (.bool b)=true:=rfl
theorem b5f(s:ByteArray):pI (.string s)=true:=rfl
theorem qJ{c b:Bool}{p q:Prop}(h1:c=true→rX (.bool true) b p q)(h2:c=false→rX (.bool false) b p q):rX (.bool c) b p q:=by
 cases c
 ·exact h2 rfl
 ·exact h1 rfl
theorem St.pick{H0:Base}{os os':List Ob}(hS:St P H0 H os)(idx:List Nat)(hn:idx.Nodup)(h:idx.map (os[·]?)=os'.map some):St P H0 H os':=by
 have hmem:∀o∈os',o∈os:=by
  intro o ho
  have:some o∈idx.map (os[·]?):=by rw[h];exact fK ho
  obtain⟨i,_,hi⟩:=dr.1 this
  exact dJ hi
 refine⟨hS.len,hS.old,fun o ho=>hS.own o (hmem o ho),fun o ho=>hS.new o (hmem o ho),?_⟩
 have hpw:=eG.1 hS.sep
 rw[eG]
 intro i j hi hj hij
 have hl:idx.length=os'.length:=by simpa using congrArg List.length h
 have key:∀i(hi:i<os'.length),∃hk:idx[i]'(by omega)<os.length,os[idx[i]'(by omega)]=os'[i]:=by
  intro i hi
  have h1:(idx.map (os[·]?))[i]? =(os'.map some)[i]?:=by rw[h]
  rw[eI,eI,dh (by omega),dh hi]at h1
  simp only[dI,dB]at h1
  exact dp.1 h1
 obtain⟨h1,e1⟩:=key i hi
 obtain⟨h2,e2⟩:=key j hj
 have hne:idx[i]'(by omega)≠idx[j]'(by omega):=by
  have:=eG.1 hn i j (by omega) (by omega) hij
  exact this
 rcases fL hne with hh|hh
 ·have:=hpw _ _ h1 h2 hh
  rw[e1,e2]at this
  exact this
 ·have:=hpw _ _ h2 h1 hh
  rw[e1,e2]at this
  intro B hb hb'
  exact this B hb' hb
theorem St.frame{H1:Heap}{H0:Base}{ls rest ls':List Ob}(hS:St P H0 H (ls++rest))(h1:St P ⟨H,rT ls⟩ H1 ls'):St P H0 H1 (ls'++rest):=by
 have hls:St P H0 H ls:=hS.sub (List.sublist_append_left ..)
 have h2:=hls.bu h1
 have hsep:=eV.1 hS.sep
 have hkeep:∀o∈rest,∀B,kI o.v=some B→iR H1 B=iR H B:=by
  intro o ho B hB
  have hlt:=(hS.own o (gp _ ho)).lt hB
  exact h1.old B hlt fun⟨x,hx,hxb⟩=>hsep.2.2 x hx o ho B hxb hB
 refine⟨h2.len,h2.old,?_,?_,?_⟩
 ·intro o ho
  rcases dE.1 ho with ho|ho
  ·exact h2.own o ho
  ·exact(hS.own o (gp _ ho)).ak (hkeep o ho)
 ·intro o ho B hB
  rcases dE.1 ho with ho|ho
  ·exact h2.new o ho B hB
  ·exact hS.new o (gp _ ho) B hB
 ·rw[eV]
  refine⟨h2.sep,hsep.2.1,?_⟩
  intro x hx y hy B hb hb'
  rcases h1.new x hx B hb with hh|⟨z,hz,hzb⟩
  ·have:=(hS.own y (gp _ hy)).lt hb'
   have hh:H.length≤B:=hh
   omega
  ·exact hsep.2.2 z hz y hy B hzb hb'
theorem b9x(t:TypeId)(k:IntKind)(n:Int):unV P .neg t (.int k n)=some (.int k (k.wrap (0-n))):=rfl
theorem b4z(ops:Array Oper)(d:Option Tmp)(op:Op)(ty:TypeId)(pos:String)(af:Array Edge)(j:Nat)(b:Bool)(l:List Value)(H':Heap)(v:Value):
 rdW P ops (some ⟨d,op,ty,pos,af,some (j,b)⟩) (some (l,H',v)) H=uP (zS ops j) l b (lV P ⟨d,op,ty,pos,af,some (j,b)⟩ l H fun v' _=>v'=v) True:=by
 rw[←sU ops l d op ty pos af]
 unfold rdW
 split
 ·rename_i h1 h2
  cases h1;cases h2
  split
  ·rename_i h;simp[h]
  ·rename_i h;simp[h]
 ·rename_i h
  exact(h _ _ _ _ rfl rfl).elim
theorem b3o(t t2:TypeId)(cx cy:Bool)(k:IntKind)(a b:Int)(K:Value→Prop):lE P .and t t2 cx cy (.int k a) (.int k b) K=jY (lC P .and t t2 cx cy (.int k a) (.int k b)) K:=by
 have h:(if k=k then mJ .and k a b else none)=none:=by split<;>rfl
 unfold lE;dsimp only
 rw[h]
theorem b5M(t t2:TypeId)(cx cy:Bool)(k:IntKind)(a b:Int)(K:Value→Prop):lE P .or t t2 cx cy (.int k a) (.int k b) K=jY (lC P .or t t2 cx cy (.int k a) (.int k b)) K:=by
 have h:(if k=k then mJ .or k a b else none)=none:=by split<;>rfl
 unfold lE;dsimp only
 rw[h]
theorem b3L(t t2:TypeId)(cx cy:Bool)(k:IntKind)(a b:Int)(K:Value→Prop):lE P .xor t t2 cx cy (.int k a) (.int k b) K=jY (lC P .xor t t2 cx cy (.int k a) (.int k b)) K:=by
 have h:(if k=k then mJ .xor k a b else none)=none:=by split<;>rfl
 unfold lE;dsimp only
 rw[h]
theorem a5G(t t2:TypeId)(cx cy:Bool)(k:IntKind)(a b:Int)(K:Value→Prop):lE P .andNot t t2 cx cy (.int k a) (.int k b) K=jY (lC P .andNot t t2 cx cy (.int k a) (.int k b)) K:=by
 have h:(if k=k then mJ .andNot k a b else none)=none:=by split<;>rfl
 unfold lE;dsimp only
 rw[h]
theorem b4h(t t2:TypeId)(cx cy:Bool)(k k':IntKind)(a b:Int)(K:Value→Prop):lE P .shl t t2 cx cy (.int k a) (.int k' b) K=jY (lC P .shl t t2 cx cy (.int k a) (.int k' b)) K:=by
 have h:(if k=k' then mJ .shl k a b else none)=none:=by split<;>rfl
 unfold lE;dsimp only
 rw[h]
theorem b3E(t t2:TypeId)(cx cy:Bool)(k k':IntKind)(a b:Int)(K:Value→Prop):lE P .shr t t2 cx cy (.int k a) (.int k' b) K=jY (lC P .shr t t2 cx cy (.int k a) (.int k' b)) K:=by
 have h:(if k=k' then mJ .shr k a b else none)=none:=by split<;>rfl
 unfold lE;dsimp only
 rw[h]
theorem b4l(op:BinOp)(t t2:TypeId)(cx cy:Bool)(a b:ByteArray)(K:Value→Prop):lE P op t t2 cx cy (.string a) (.string b) K=jY (lC P op t t2 cx cy (.string a) (.string b)) K:=rfl
theorem b3q(op:BinOp)(t t2:TypeId)(cx cy:Bool)(a b:Array Value)(K:Value→Prop):lE P op t t2 cx cy (.agg a) (.agg b) K=jY (lC P op t t2 cx cy (.agg a) (.agg b)) K:=rfl
theorem b3W(op:BinOp)(t t2:TypeId)(cx cy:Bool)(a b:Bool)(K:Value→Prop):lE P op t t2 cx cy (.bool a) (.bool b) K=jY (lC P op t t2 cx cy (.bool a) (.bool b)) K:=rfl
theorem a7V(n:Int)(h1: -9223372036854775808≤n)(h2:n<9223372036854775808):IntKind.wrap .i64 n=n:=by
 show(if(true&&decide (n%18446744073709551616≥9223372036854775808))=true then n%18446744073709551616-18446744073709551616 else n%18446744073709551616)=n
 simp only[gJ,decide_eq_true_eq]
 omega
theorem b9s(n:Int)(h1: -128≤n)(h2:n<128):IntKind.wrap .i8 n=n:=by
 show(if(true&&decide (n%256≥128))=true then n%256-256 else n%256)=n
 simp only[gJ,decide_eq_true_eq]
 omega
theorem oD(n:Int)(h1:0≤n)(h2:n<18446744073709551616):IntKind.wrap .u64 n=n:=by
 show(if(false&&decide (n%18446744073709551616≥9223372036854775808))=true then n%18446744073709551616-18446744073709551616 else n%18446744073709551616)=n
 simp only[ft]
 rw[if_neg (by simp)]
 omega
theorem b5Q(n:Int)(h1:0≤n)(h2:n<4294967296):IntKind.wrap .u32 n=n:=by
 show(if(false&&decide (n%4294967296≥2147483648))=true then n%4294967296-4294967296 else n%4294967296)=n
 simp only[ft]
 rw[if_neg (by simp)]
 omega
theorem b5K(n:Int)(h1:0≤n)(h2:n<65536):IntKind.wrap .u16 n=n:=by
 show(if(false&&decide (n%65536≥32768))=true then n%65536-65536 else n%65536)=n
 simp only[ft]
 rw[if_neg (by simp)]
 omega
theorem c0p(n:Int)(h1:0≤n)(h2:n<256):IntKind.wrap .u8 n=n:=by
 show(if(false&&decide (n%256≥128))=true then n%256-256 else n%256)=n
 simp only[ft]
 rw[if_neg (by simp)]
 omega
end
end Go.Ds
namespace Go.Ds
noncomputable section
variable {P:Program}
def tW(P:Program)(t:TypeId):List Field:=match P.underlying t with|some (.struct fs)=>fs.toList|_=>[]
def eqC:Value→Value→Bool
 | .int _ a,.int _ b=>a==b
 | .bool a,.bool b=>a==b
 | .string a,.string b=>decide (a=b)
 | _,_=>false
def okC(P:Program)(t:TypeId)(x y:Value):Bool:=match P.underlying t with
 | some (.int _)=>(match x,y with|.int k _,.int k' _=>decide (k=k')|_,_=>false)
 | some .bool=>(match x,y with|.bool _,.bool _=>true|_,_=>false)
 | some .string=>(match x,y with|.string _,.string _=>true|_,_=>false)
 | _=>false
theorem eq1{t:TypeId}{x y:Value}(d:Nat)(h:okC P t x y=true):iM P (Op.equalIn (d+1) t x y)=some (eqC x y):=by
 unfold okC at h
 split at h
 ·rename_i k0 hu
  split at h
  ·rename_i k a k' b
   have hk:k=k':=by simpa using h
   subst hk
   rw[Op.equalIn,iJ,jT hu,cV]
   simp only[if_true]
   rfl
  ·cases h
 ·rename_i hu
  split at h
  ·rw[Op.equalIn,iJ,jT hu,cV];rfl
  ·cases h
 ·rename_i hu
  split at h
  ·rename_i a b
   rw[Op.equalIn,iJ,jT hu,cV]
   show some (a==b)=some (decide (a=b))
   rw[a1U]
   congr 1
   simp[eq_comm]
  ·cases h
 ·cases h
theorem c1c{t:TypeId}{x y v:Value}{cs:Array Value}{off:Nat}(h:okC P t x y=true)(hc:cs[off]? =some v):iM P (part t cs off)=some v:=by
 have ha:iM P (isAgg t)=some false:=by
  unfold isAgg
  unfold okC at h
  split at h
  ·rename_i hu;rw[iJ,jT hu,cV];rfl
  ·rename_i hu;rw[iJ,jT hu,cV];rfl
  ·rename_i hu;rw[iJ,jT hu,cV];rfl
  ·cases h
 unfold part
 rw[iJ,ha,cV]
 simp only[dT,if_false,hc]
 rfl
theorem yM{t:TypeId}{xs ys:List Value}(d:Nat)(hu:P.underlying t=some (.struct (tW P t).toArray))(hst:P.stoodInHeld t=false)
 (hf:((tW P t).map fun f=>(f.name != "_",f.offset))=(List.range xs.length).map fun j=>(true,j)) (hy:ys.length=xs.length)
 (hok:((tW P t).all fun f=>okC P f.type (xs.getD f.offset undef) (ys.getD f.offset undef))=true):
 iM P (Op.equalIn (d+2) t (.agg xs.toArray) (.agg ys.toArray))=some ((List.range xs.length).all fun j=>eqC (xs.getD j undef) (ys.getD j undef)):=by
 rw[dj]at hok
 have hmem:∀f∈tW P t,(f.name != "_")=true∧f.offset<xs.length:=fun f hf'=>by
  have:(f.name != "_",f.offset)∈(List.range xs.length).map fun j=>(true,j):=by rw[←hf];exact fK hf'
  obtain⟨j,hj,he⟩:=dr.1 this
  simp only[gG]at he
  exact⟨he.1.symm,by rw[←he.2];exact dq.1 hj⟩
 rw[a6y hu hst (fun f=>eqC (xs.getD f.offset undef) (ys.getD f.offset undef)) ?_]
 ·congr 1
  have h1:(tW P t).all (fun f=>eqC (xs.getD f.offset undef) (ys.getD f.offset undef))=((tW P t).map fun f=>(f.name != "_",f.offset)).all fun p=>eqC (xs.getD p.2 undef) (ys.getD p.2 undef):=by
   rw[List.all_map];rfl
  rw[h1,hf,List.all_map]
  rfl
 ·intro f hf'
  obtain⟨h1,h2⟩:=hmem f hf'
  refine⟨by simpa using h1,?_⟩
  have hx:xs.toArray[f.offset]? =some (xs.getD f.offset undef):=by
   rw[fc,cY,dh h2];rfl
  have hy':ys.toArray[f.offset]? =some (ys.getD f.offset undef):=by
   rw[fc,cY,dh (by omega)];rfl
  rw[iJ,c1c (hok f hf') hx,cV,iJ,c1c (hok f hf') hy',cV]
  exact eq1 d (hok f hf')
theorem yI{t t2:TypeId}{cx cy:Bool}{xs ys:List Value}(hu:P.underlying t=some (.struct (tW P t).toArray))(hst:P.stoodInHeld t=false)(hg:P.eqGuardType P.depth t=false)
 (hf:((tW P t).map fun f=>(f.name != "_",f.offset))=(List.range xs.length).map fun j=>(true,j)) (hy:ys.length=xs.length)
 (hok:((tW P t).all fun f=>okC P f.type (xs.getD f.offset undef) (ys.getD f.offset undef))=true) (hx:xs.all iY=true) (hys:ys.all iY=true):
 lC P .eql t t2 cx cy (.agg xs.toArray) (.agg ys.toArray)=some (.bool ((List.range xs.length).all fun j=>eqC (xs.getD j undef) (ys.getD j undef)))∧
 lC P .neq t t2 cx cy (.agg xs.toArray) (.agg ys.toArray)=some (.bool (!((List.range xs.length).all fun j=>eqC (xs.getD j undef) (ys.getD j undef)))):=
 ⟨b8f _ hg hx hys (yM 9998 hu hst hf hy hok),a7X _ hg hx hys (yM 9998 hu hst hf hy hok)⟩
theorem c3k{t:TypeId}{k:IntKind}(hu:P.underlying t=some (.struct (tW P t).toArray))(hst:P.stoodInHeld t=false)
 (hf:((tW P t).map fun f=>(f.name != "_",f.offset))=(List.range 2).map fun j=>(true,j))
 (hok:∀a b c d:Int,((tW P t).all fun f=>okC P f.type ([Value.int k a,.int k b].getD f.offset undef) ([Value.int k c,.int k d].getD f.offset undef))=true) (a b:Int×Int):
 iM P (Op.equal t (.agg #[.int k a.1,.int k a.2]) (.agg #[.int k b.1,.int k b.2]))=some (decide (b=a)):=by
 have hmd:Op.maxDepth=9998+2:=by decide
 unfold Op.equal
 rw[hmd,yM (xs:=[.int k a.1,.int k a.2]) (ys:=[.int k b.1,.int k b.2]) 9998 hu hst hf rfl (hok _ _ _ _)]
 congr 1
 show((a.1==b.1)&&((a.2==b.2)&&true))=_
 rw[ec]
 simp only[fm,cU,beq_iff_eq,decide_eq_true_eq,Prod.ext_iff]
 constructor
 ·rintro⟨h1,h2⟩;exact⟨h1.symm,h2.symm⟩
 ·rintro⟨h1,h2⟩;exact⟨h1.symm,h2.symm⟩
theorem c3r{k:IntKind}(a:Int×Int):Instr.sameBits 10000 (.agg #[.int k a.1,.int k a.2]) (.agg #[.int k a.1,.int k a.2])=true:=by
 show((2:Nat)==2&&([(Value.int k a.1,Value.int k a.1),(Value.int k a.2,Value.int k a.2)]).all fun(x,y)=>Instr.sameBits 9999 x y)=true
 have h:∀n,Instr.sameBits 9999 (.int k n) (.int k n)=true:=fun n=>by
  show(k==k&&n==n)=true
  cases k<;>simp<;>rfl
 simp[h]
section
variable {H:Heap} {α:Type} {n:Nat} {cel:α→List Value} {v:Value} {xs:List α}
theorem Sl.aS(h:Sl n cel H v xs)(o:Oper)(l:List Value)(H':Heap)(k:IntKind)(a:Int)(K:Value→Heap→Prop)(h0:0<xs.length)(h1:0≤a)(h2:a≤xs.length):
 pC P o l H' (some n) v none (some (.int k a)) K=pN (nA v n 0 a.toNat) fun v=>K v H':=by
 obtain⟨m,rfl⟩:∃m,n=m+1:=⟨n-1,by have:=h.pos;omega⟩
 exact h.rd.aS (iL h.hc xs) o l H' k a K h0 h1 h2
theorem Sl.aR(h:Sl n cel H v xs)(o:Oper)(l:List Value)(H':Heap)(k:IntKind)(a:Int)(K:Value→Heap→Prop)(h0:0<xs.length)(h1:0≤a)(h2:a≤xs.length):
 pC P o l H' (some n) v (some (.int k a)) none K=pN (nA v n a.toNat (xs.length-a).toNat) fun v=>K v H':=by
 obtain⟨m,rfl⟩:∃m,n=m+1:=⟨n-1,by have:=h.pos;omega⟩
 rw[h.rd.aR (iL h.hc xs) o l H' k a K h0 h1 h2]
 congr 2
 omega
theorem Sl.sub(h:Sl n cel H v xs)(lo k:Nat)(hk:lo+k≤xs.length)(h0:0<xs.length):Sl n cel H (nA v n lo k) ((xs.drop lo).take k):=by
 refine⟨?_,h.hc,h.pos⟩
 have hne:xs.flatMap cel≠[]:=fun e=>by
  have:=iL h.hc xs
  rw[e,dW]at this
  have hp:=hK h0 h.pos
  omega
 have:=h.rd.sub lo k (by rw[iL h.hc,←fh];exact dD _ hk) hne
 rw[tD h.hc,a2J h.hc]at this
 exact this
theorem Sl.cu(h:Sl n cel H v xs)(k:Nat)(hk:k≤xs.length)(h0:0<xs.length):Sl n cel H (nA v n 0 k) (xs.take k):=by
 simpa using h.sub 0 k (by omega) h0
theorem Sl.cw(h:Sl n cel H v xs)(lo:Nat)(hk:lo≤xs.length)(h0:0<xs.length):Sl n cel H (nA v n lo (xs.length-lo)) (xs.drop lo):=by
 have:=h.sub lo (xs.length-lo) (by omega) h0
 rwa [List.take_of_length_le (by simp)]at this
end
def b1j(P:Program)(ts:Array TypeId)(ty:TypeId)(cx cy:Bool)(x y:Value):Option Value:=(kP P ⟨none,.call {callee:=.builtin .max,args:=#[oR cx 0 x,oR cy 1 y],argTypes:=ts},ty,"",#[],none⟩ [x,y] .nil).map (·.1)
theorem c0C(d:Option Tmp)(ty:TypeId)(pos:String)(af:Array Edge)(g:Option (Nat×Bool))(ts:Array TypeId)(x y:Operand)(l:List Value)(H:Heap)(K:Value→Heap→Prop):
 lV P ⟨d,.call {callee:=.builtin .max,args:=#[x,y],argTypes:=ts},ty,pos,af,g⟩ l H K=jI x l fun x'=>jI y l fun y'=>jY (b1j P ts ty (lF x) (lF y) x' y') fun v=>K v H:=by
 have h:opD P ⟨d,.call {callee:=.builtin .max,args:=#[x,y],argTypes:=ts},ty,pos,af,g⟩ l H=(b1j P ts ty (lF x) (lF y) (ev l x) (ev l y)).map fun v=>(v,H):=
  mY (P:=P) ⟨d,.call {callee:=.builtin .max,args:=#[x,y],argTypes:=ts},ty,pos,af,g⟩ ⟨none,.call {callee:=.builtin .max,args:=#[oR (lF x) 0 (ev l x),oR (lF y) 1 (ev l y)],argTypes:=ts},ty,"",#[],none⟩ l [ev l x,ev l y] H
   (by cases x<;>cases y<;>rfl) (by cases x<;>cases y<;>kernel_rfl)
 have h2:kA ((b1j P ts ty (lF x) (lF y) (ev l x) (ev l y)).map fun v=>(v,H)) K=jY (b1j P ts ty (lF x) (lF y) (ev l x) (ev l y)) fun v=>K v H:=by cases b1j P ts ty (lF x) (lF y) (ev l x) (ev l y)<;>rfl
 simp only[lV,h,jI,Op.operands,Call.operands,h2]
 simp[and_assoc]
theorem b6y(ts:Array TypeId)(ty:TypeId)(cx cy:Bool)(a b:Int):b1j P ts ty cx cy (.int .i64 a) (.int .i64 b)=some (.int .i64 (max a b)):=by
 have h:b1j P ts ty cx cy (.int .i64 a) (.int .i64 b)=some (.int .i64 (if b>a then b else a)):=by cases cx<;>cases cy<;>kernel_rfl
 rw[h]
 congr 2
 split<;>omega
def a9g(P:Program)(ts:Array TypeId)(ty:TypeId)(cx cy:Bool)(x y:Value):Option Value:=(kP P ⟨none,.call {callee:=.builtin .min,args:=#[oR cx 0 x,oR cy 1 y],argTypes:=ts},ty,"",#[],none⟩ [x,y] .nil).map (·.1)
theorem b9F(d:Option Tmp)(ty:TypeId)(pos:String)(af:Array Edge)(g:Option (Nat×Bool))(ts:Array TypeId)(x y:Operand)(l:List Value)(H:Heap)(K:Value→Heap→Prop):
 lV P ⟨d,.call {callee:=.builtin .min,args:=#[x,y],argTypes:=ts},ty,pos,af,g⟩ l H K=jI x l fun x'=>jI y l fun y'=>jY (a9g P ts ty (lF x) (lF y) x' y') fun v=>K v H:=by
 have h:opD P ⟨d,.call {callee:=.builtin .min,args:=#[x,y],argTypes:=ts},ty,pos,af,g⟩ l H=(a9g P ts ty (lF x) (lF y) (ev l x) (ev l y)).map fun v=>(v,H):=
  mY (P:=P) ⟨d,.call {callee:=.builtin .min,args:=#[x,y],argTypes:=ts},ty,pos,af,g⟩ ⟨none,.call {callee:=.builtin .min,args:=#[oR (lF x) 0 (ev l x),oR (lF y) 1 (ev l y)],argTypes:=ts},ty,"",#[],none⟩ l [ev l x,ev l y] H
   (by cases x<;>cases y<;>rfl) (by cases x<;>cases y<;>kernel_rfl)
 have h2:kA ((a9g P ts ty (lF x) (lF y) (ev l x) (ev l y)).map fun v=>(v,H)) K=jY (a9g P ts ty (lF x) (lF y) (ev l x) (ev l y)) fun v=>K v H:=by cases a9g P ts ty (lF x) (lF y) (ev l x) (ev l y)<;>rfl
 simp only[lV,h,jI,Op.operands,Call.operands,h2]
 simp[and_assoc]
theorem b6x(ts:Array TypeId)(ty:TypeId)(cx cy:Bool)(a b:Int):a9g P ts ty cx cy (.int .i64 a) (.int .i64 b)=some (.int .i64 (min a b)):=by
 have h:a9g P ts ty cx cy (.int .i64 a) (.int .i64 b)=some (.int .i64 (if b<a then b else a)):=by cases cx<;>cases cy<;>kernel_rfl
 rw[h]
 congr 2
 split<;>omega
section
variable {H:Heap}
def Var(H:Heap)(A n:Nat)(cs:List Value):Prop:=n=cs.length∧∃ty rw lo ver,iR H A=some (.cells cs ty rw lo ver)∧lo≤cs.length
theorem Var.ak{H':Heap}{A n:Nat}{cs:List Value}(h:Var H A n cs)(hk:∀B,B<H.length→iR H' B=iR H B):Var H' A n cs:=by
 obtain⟨h1,ty,rw,lo,ver,h2,h3⟩:=h
 exact⟨h1,ty,rw,lo,ver,by rw[hk A (jK h2),h2],h3⟩
theorem Var.ld{A n:Nat}{cs:List Value}(h:Var H A n cs)(s:Option Nat)(off:Nat):pU (some false) s H (ptr A off n)=cs[off]?:=by
 obtain⟨rfl,ty,rw,lo,ver,h1,h2⟩:=h
 simp only[pU,jD,h1]
 by_cases h:off<cs.length
 ·rw[if_pos (by simp;omega)]
  simp only[cV]
  rw[dP (by omega),dA]
  simp
 ·rw[if_neg (by simp;omega),ed (by omega)]
  rfl
theorem Var.ai{A n:Nat}{cs:List Value}(h:Var H A n cs)(m off:Nat):pU (some true) (some m) H (ptr A off n)=if off+m≤cs.length then some (.agg ((cs.drop off).take m).toArray)else none:=by
 obtain⟨rfl,ty,rw,lo,ver,h1,h2⟩:=h
 simp only[pU,jD,h1,cV]
 by_cases h:off+m≤cs.length
 ·rw[if_pos (by simp;omega),if_pos h]
  rfl
 ·rw[if_neg (by simp;omega),if_neg h]
  rfl
theorem St.var{P:Program}{H0:Base}{os:List Ob}(hS:St P H0 H os)(i:Nat){A n:Nat}{cs:List Value}(ho:os[i]? =some ⟨ptr A 0 n,0,cs⟩):Var H A n cs:=by
 obtain⟨h1,ty,lo,ver,h2,h3⟩:=hS.cell i ho
 exact⟨h1,ty,true,lo,ver,h2,h3⟩
theorem St.va{H0:Heap}{os:List Ob}(hS:St P H0 H os){A n:Nat}{cs:List Value}(h:Var H0 A n cs):Var H A n cs:=h.ak hS.ak
end
theorem sY{P:Program}(t t2:TypeId)(cx cy:Bool)(u x:UInt8):lC P .add t t2 cx cy (.string ⟨#[u]⟩) (.string ⟨#[x]⟩)=some (.string ⟨#[u,x]⟩):=by
 rw[a8B _ _ _ _ _ _ (by show 1+1<9223372036854775808;decide)]
 rfl
theorem vP{P:Program}{H:Heap}{s t:TypeId}{v:Value}{n:Int}(h:RdAt H v 1 [.int .u8 n])(hs:lB P s=true)(ht:oC P t=true)(hbt:lB P t=false)(h0:0≤n)(h1:n<256)(K:Value→Heap→Prop):
 tT P s t H v K=K (.string ⟨#[UInt8.ofNat n.toNat]⟩) H:=by
 obtain⟨m,rfl⟩:∃m:Nat,n=Int.ofNat m:=⟨n.toNat,by simp[fJ h0]⟩
 have hm:m<256:=by have:(m:Int)<256:=h1;omega
 rcases h with⟨_,h⟩|⟨A,i,e,row,ty,rw,lo,ver,k,g1,g2,g3,g4,g5,g6,rfl⟩
 ·cases h
 have hk:k=1:=by simp at g6;omega
 subst hk
 have hc:jD H A i e 1=some [.int .u8 (Int.ofNat m)]:=by
  simp only[jD,g1]
  rw[if_pos (by simp at g4 ⊢;omega)]
  exact congrArg some g5
 have hb:nK [.int .u8 (Int.ofNat m)]=some ⟨#[UInt8.ofNat m]⟩:=by simp[nK,a2l,a1r,hm]
 have hd:opD P ⟨none,.convert s t (.const (.slice (some ⟨A,i,some e⟩) 1 1)),t,"",#[],none⟩ [] H=some (.string ⟨#[UInt8.ofNat m]⟩,H):=by
  have hf:flat (.slice (some ⟨A,i,some e⟩) 1 1)=false:=rfl
  simp only[opD,ev,hf,hs,ht,hc,hb,ft,dT,if_false,Bool.and_self,if_true,cV,dI]
 unfold tT
 rw[hd]
 apply propext
 constructor
 ·rintro⟨v,H1,h2,h3⟩
  injection (cT h2)with e1 e2
  subst e1 e2
  exact h3
 ·intro h3
  exact⟨_,_,rfl,h3⟩
theorem a5V{P:Program}{t:TypeId}{n:Nat}{elem:TypeId}{size:Nat}(ha:P.underlying t=some (.array n elem))(hs:iE P elem=some size)(A i e:Nat)(k:IntKind)(j:Int)(h0:0≤j)(h1:j<n):
 wW (iT P t) P t (ptr A i e) (.int k j)=some (ptr A (i+j.toNat*size) e):=by
 have hn:iT P t=none:=by simp[iT,iK,ha]
 rw[hn]
 simp only[wW,a2f,ha,ptr,hs,cV]
 rw[if_pos (by simp[h0,h1])]
end
end Go.Ds
namespace Go.Ds
section
variable {P:Program}
def c3D(inv:List Nat)(e:Edge):Edge:={e with on:=inv.getD e.on 0}
def yX(inv:List Nat)(o:Oper):Oper:={o with after:=o.after.map (c3D inv),guard:=o.guard.map fun g=>(inv.getD g.1 0,g.2)}
def kE(π inv:List Nat)(ops:Array Oper):Array Oper:=(π.map fun i=>yX inv (ops.getD i default)).toArray
def a9b(π inv:List Nat)(ops:Array Oper):Bool:=
 decide (π.length=ops.size)&&decide (inv.length=ops.size)&&(List.range ops.size).all (fun i=>decide (π.getD i 0<ops.size)&&decide (inv.getD i 0<ops.size)&&decide (inv.getD (π.getD i 0) 0=i)&&decide (π.getD (inv.getD i 0) 0=i))&&
 ops.toList.all fun o=>o.after.toList.all (fun e=>decide (e.on<ops.size))&&(match o.guard with|some g=>decide (g.1<ops.size)|none=>true)
structure Perm(π inv:List Nat)(ops:Array Oper):Prop where
 len:π.length=ops.size
 pi:∀i,i<ops.size→π.getD i 0<ops.size
 iv:∀i,i<ops.size→inv.getD i 0<ops.size
 ip:∀i,i<ops.size→inv.getD (π.getD i 0) 0=i
 pv:∀i,i<ops.size→π.getD (inv.getD i 0) 0=i
 edge:∀(i:Nat)(o:Oper),ops[i]? =some o→∀e∈o.after,e.on<ops.size
 guard:∀(i:Nat)(o:Oper)(g:Nat×Bool),ops[i]? =some o→o.guard=some g→g.1<ops.size
theorem b8O{π inv:List Nat}{ops:Array Oper}(h:a9b π inv ops=true):Perm π inv ops:=by
 unfold a9b at h
 simp only[cU,decide_eq_true_eq,dj,dq]at h
 obtain⟨⟨⟨h1,h2⟩,h3⟩,h4⟩:=h
 refine⟨h1,fun i hi=>(h3 i hi).1.1.1,fun i hi=>(h3 i hi).1.1.2,fun i hi=>(h3 i hi).1.2,fun i hi=>(h3 i hi).2,fun i o ho e he=> ?_,fun i o g ho hg=> ?_⟩
 ·exact(h4 o (dJ (i:=i) (by simpa using ho))).1 e (by simpa using he)
 ·have:=(h4 o (dJ (i:=i) (by simpa using ho))).2
  rw[hg]at this
  simpa using this
variable {π inv:List Nat} {ops:Array Oper}
theorem a8o(p:Nat):(kE π inv ops)[p]? =(π[p]?).map fun i=>yX inv (ops.getD i default):=by
 simp[kE]
theorem qS(D:Perm π inv ops){p i:Nat}{o:Oper}(hp:p<ops.size)(hi:π.getD p 0=i)(ho:ops[i]? =some o):(kE π inv ops)[p]? =some (yX inv o):=by
 rw[a8o]
 have h1:π[p]? =some i:=by
  rw[cY]at hi
  rw[dh (by rw[D.len];exact hp)]at hi ⊢
  simpa using hi
 rw[h1]
 simp only[dI]
 rw[dY,ho]
 rfl
theorem pY(D:Perm π inv ops):(kE π inv ops).size=ops.size:=by simp[kE,D.len]
theorem a5t(D:Perm π inv ops)(tmps:Array Value){j:Nat}(hj:j<ops.size):yielded (kE π inv ops) tmps (inv.getD j 0)=yielded ops tmps j:=by
 have ho:ops[j]? =some ops[j]:=da.2 ⟨hj,rfl⟩
 unfold yielded
 rw[qS D (D.iv j hj) (D.pv j hj) ho,ho]
 rfl
theorem a6Z(D:Perm π inv ops)(tmps:Array Value){i:Nat}{o:Oper}(ho:ops[i]? =some o):Region.wanted (yX inv o) (yielded (kE π inv ops) tmps)=Region.wanted o (yielded ops tmps):=by
 unfold Region.wanted
 have e:(yX inv o).guard=o.guard.map fun g=>(inv.getD g.1 0,g.2):=rfl
 rw[e]
 cases hg:o.guard with
 | none=>rfl
 | some g=>
   simp only[dI]
   rw[a5t D tmps (D.guard i o g ho hg)]
theorem b9d(ro:Option Nat)(ρ:Operand→Value)(o:Oper):(yX inv o).semAt ro ρ=o.semAt ro ρ:=by
 obtain⟨dst,op,type,pos,after,guard⟩:=o
 rfl
theorem b2Q(w:World)(ρ:Operand→Value)(o:Oper):(yX inv o).about P w ρ=o.about P w ρ:=by
 obtain⟨dst,op,type,pos,after,guard⟩:=o
 rfl
theorem b6I(F:Fence)(n:Nat)(o:Oper)(a:Act)(next:Act→World→Prop)(Q:Exit→Act→World→Prop)(r:Result Next):(yX inv o).uponIn F n P a next Q r=o.uponIn F n P a next Q r:=by
 obtain⟨dst,op,type,pos,after,guard⟩:=o
 cases r with
 | ok x w=>cases x<;>rfl
 | halt x w=>cases x<;>rfl
theorem b3X(D:Perm π inv ops)(F:Fence)(n:Nat)(Q:Exit→Act→World→Prop){i:Nat}(hi:i<ops.size)(K:Act→World→Prop)(a:Act)(w:World):
 wpOpIn F n P (kE π inv ops) Q (inv.getD i 0) K a w=wpOpIn F n P ops Q i K a w:=by
 have ho:ops[i]? =some ops[i]:=da.2 ⟨hi,rfl⟩
 unfold wpOpIn
 rw[qS D (D.iv i hi) (D.pv i hi) ho,ho]
 simp only[a6Z D a.tmps ho,Oper.wpIn,b2Q,b6I,b9d]
 rfl
def c2N(inv:List Nat)(n:Nat)(listed listed':Array Bool):Prop:=listed.size=n∧listed'.size=n∧∀i,i<n→listed.getD i false=listed'.getD (inv.getD i 0) false
theorem wZ(D:Perm π inv ops){listed listed':Array Bool}(hc:c2N inv ops.size listed listed'){i:Nat}(hi:i<ops.size):
 i∈Region.ready .any ops listed↔inv.getD i 0∈Region.ready .any (kE π inv ops) listed':=by
 have ho:ops[i]? =some ops[i]:=da.2 ⟨hi,rfl⟩
 have ho':=qS D (D.iv i hi) (D.pv i hi) ho
 have hsz:=pY D
 obtain⟨c1,c2,c3⟩:=hc
 constructor
 ·intro h
  obtain⟨o,h1,h2,h3⟩:=pE c1 h
  rw[ho]at h1
  obtain rfl:=cT h1
  refine a0k (by rw[hsz];exact c2) ho' (by rw[←c3 i hi];exact h2) ?_
  intro e he hb
  have he':e∈(ops[i]).after.map (c3D inv):=he
  obtain⟨e0,he0,rfl⟩:=Array.mem_map.1 he'
  have:=h3 e0 he0 hb
  show listed'.getD (inv.getD e0.on 0) false=true
  rw[←c3 _ (D.edge i _ ho e0 he0)]
  exact this
 ·intro h
  obtain⟨o,h1,h2,h3⟩:=pE (by rw[hsz];exact c2) h
  rw[ho']at h1
  obtain rfl:=cT h1
  refine a0k c1 ho (by rw[c3 i hi];exact h2) ?_
  intro e he hb
  have:=h3 (c3D inv e) (Array.mem_map.2 ⟨e,he,rfl⟩) hb
  rw[c3 _ (D.edge i _ ho e he)]
  exact this
theorem b7E(D:Perm π inv ops)(F:Fence)(k:Nat){Q:Exit→Act→World→Prop}:∀(fuel:Nat)(listed listed':Array Bool)(a:Act)(w:World),c2N inv ops.size listed listed'→
 wpAnyIn F k P .any (kE π inv ops) Q fuel listed' a w→wpAnyIn F k P .any ops Q fuel listed a w:=by
 have hsz:=pY D
 have nil1:∀{listed listed':Array Bool},c2N inv ops.size listed listed'→(Region.ready .any ops listed=[]↔Region.ready .any (kE π inv ops) listed'=[]):=by
  intro listed listed' hc
  constructor
  ·intro h
   cases hr:Region.ready .any (kE π inv ops) listed' with
   | nil=>rfl
   | cons p r=>
     exfalso
     have hp:p∈Region.ready .any (kE π inv ops) listed':=by rw[hr];exact dG ..
     obtain⟨o,h1,_,_⟩:=pE (by rw[hsz];exact hc.2.1) hp
     have hpn:p<ops.size:=by rw[←hsz];exact(da.1 h1).1
     have:=(wZ D hc (D.pi p hpn)).2 (by rw[D.ip p hpn];exact hp)
     rw[h]at this
     cases this
  ·intro h
   cases hr:Region.ready .any ops listed with
   | nil=>rfl
   | cons i r=>
     exfalso
     have hi:i∈Region.ready .any ops listed:=by rw[hr];exact dG ..
     obtain⟨o,h1,_,_⟩:=pE hc.1 hi
     have:=(wZ D hc (da.1 h1).1).1 hi
     rw[h]at this
     cases this
 intro fuel
 induction fuel with
 | zero=>
   intro listed listed' a w hc h
   exact⟨(nil1 hc).2 h.1,h.2⟩
 | succ fuel ih=>
   intro listed listed' a w hc h
   refine⟨fun hn=>h.1 ((nil1 hc).1 hn),fun i hi=> ?_⟩
   obtain⟨o,h1,_,_⟩:=pE hc.1 hi
   have hin:=(da.1 h1).1
   have h2:=h.2 _ ((wZ D hc hin).1 hi)
   rw[b3X D F k Q hin]at h2
   refine wpOpIn_mono (fun a' w' h3=>ih _ _ a' w' ⟨by simpa using hc.1,by simpa using hc.2.1,fun j hj=> ?_⟩ h3) h2
   have e1:=tK (listed:=listed) (i:=i) (by rw[hc.1];exact hin) j
   have e2:=tK (listed:=listed') (i:=inv.getD i 0) (by rw[hc.2.1];exact D.iv i hin) (inv.getD j 0)
   have e3:(inv.getD j 0=inv.getD i 0)↔j=i:=⟨fun h=>by rw[←D.pv j hj,h,D.pv i hin],fun h=>by rw[h]⟩
   rw[ec,e1,e2,e3,hc.2.2 j hj]
end
section
variable {P:Program} {H:Heap} {π inv:List Nat} {ops:Array Oper}
theorem Sim.cz(jW:P.follows .mixedOrders=true){id:Nat}(Dp:Perm π inv ops){fl:Fl}(D:Draw P fl (kE π inv ops)){T:Nat→List Value×Heap}{val:Nat→Value}(X:Text P (kE π inv ops) T val)
 (hread:∀i m o,(i,m)∈mH fl (kE π inv ops)→(kE π inv ops)[i]? =some o→Region.wanted o (iU (kE π inv ops) (T i).1)=true→∃H2,opD P o (T i).1 (T m).2=some (val i,H2)):
 Sim P (.region id ops true) (T 0).1 (T 0).2 .normal (T ops.size).1 (T ops.size).2:=by
 intro ro k B ρ w a hr hE hl hM hB
 have hsz:=pY Dp
 have:=a4e D X hread ro k B hr hE hM
 rw[hsz]at this
 exact wpIn_region_any jW (b7E Dp (fe ro) k ops.size _ _ a _ ⟨by simp,by simp,fun i hi=>by
  have:=Dp.iv i hi
  simp only[dY,Array.getElem?_replicate,hi,this,if_true]⟩ this)
theorem a3E(D:Perm π inv ops)(l:List Value){j:Nat}(hj:j<ops.size):iU (kE π inv ops) l (inv.getD j 0)=iU ops l j:=by
 have ho:ops[j]? =some ops[j]:=da.2 ⟨hj,rfl⟩
 unfold iU
 rw[qS D (D.iv j hj) (D.pv j hj) ho,ho]
 rfl
theorem xQ(D:Perm π inv ops)(l:List Value){i:Nat}{o:Oper}(ho:ops[i]? =some o):Region.wanted (yX inv o) (iU (kE π inv ops) l)=Region.wanted o (iU ops l):=by
 unfold Region.wanted
 have e:(yX inv o).guard=o.guard.map fun g=>(inv.getD g.1 0,g.2):=rfl
 rw[e]
 cases hg:o.guard with
 | none=>rfl
 | some g=>
   simp only[dI]
   rw[a3E D l (D.guard i o g ho hg)]
theorem b1W(o:Oper)(l:List Value)(K:Value→Heap→Prop):lV P (yX inv o) l H K=lV P o l H K:=by
 obtain⟨dst,op,type,pos,after,guard⟩:=o
 rfl
theorem a3W(D:Perm π inv ops):∀(os:List Oper)(tr:List (List Value×Heap×Value))(l:List Value)(H:Heap)(K:List (List Value×Heap×Value)→List Value→Heap→Prop),(∀o∈os,∃i:Nat,ops[i]? =some o)→
 mI P (kE π inv ops) (os.map (yX inv)) tr l H K=mI P ops os tr l H K
 | [],_,_,_,_,_=>rfl
 | o::os,tr,l,H,K,h=>by
   obtain⟨i,ho⟩:=h o (by simp)
   have ih:=fun tr l H=>a3W D os tr l H K fun o ho=>h o (by simp[ho])
   rw[ek,mI,mI,xQ D l ho]
   have e:(yX inv o).dst=o.dst:=rfl
   simp only[b1W,e,ih]
def c2q(o:Option Oper)(os:List Oper):List Oper:=match o with|some o=>o::os|none=>os
def sel(os:List Oper):List Nat→List Oper
 | []=>[]
 | i::π=>c2q os[i]? (sel os π)
theorem b8F(os:List Oper):sel os []=[]:=rfl
theorem a6B(os:List Oper)(i:Nat)(π:List Nat):sel os (i::π)=c2q os[i]? (sel os π):=rfl
theorem a4E(o:Oper)(os:List Oper):c2q (some o) os=o::os:=rfl
theorem a9M(os:List Oper):∀(π:List Nat),(∀i∈π,i<os.length)→sel os π=π.map fun i=>os.toArray.getD i default
 | [],_=>rfl
 | i::π,h=>by
   have hi:=h i (by simp)
   rw[a6B,a9M os π fun j hj=>h j (by simp[hj]),dh hi,a4E,ek]
   congr 1
   simp[dY,hi]
def a0J(P:Program)(os:List Oper)(tr:List (List Value×Heap×Value))(H1:Heap)(π:List Nat):List (Nat×Nat)→Prop
 | []=>True
 | (p,m)::r=>rdW P os.toArray (os[π.getD p 0]?) tr[p]? (trH tr[m]? H1)∧a0J P os tr H1 π r
theorem a9U(os:List Oper)(tr)(H1:Heap)(π:List Nat):a0J P os tr H1 π []=True:=rfl
theorem a6z(os:List Oper)(tr)(H1:Heap)(π:List Nat)(p m:Nat)(r:List (Nat×Nat)):a0J P os tr H1 π ((p,m)::r)=(rdW P os.toArray (os[π.getD p 0]?) tr[p]? (trH tr[m]? H1)∧a0J P os tr H1 π r):=rfl
theorem a1V{os:List Oper}{tr}{H1:Heap}{π:List Nat}:∀{tab:List (Nat×Nat)},a0J P os tr H1 π tab→∀x∈tab,rdW P os.toArray (os[π.getD x.1 0]?) tr[x.1]? (trH tr[x.2]? H1)
 | [],_,x,hx=>by cases hx
 | (i,m)::r,h,x,hx=>by
   rcases dS.1 hx with rfl|hx
   ·exact h.1
   ·exact a1V h.2 x hx
theorem Wp.cb(jW:P.follows .mixedOrders=true){id:Nat}{os:List Oper}{l:List Value}{Q:mV}(π inv:List Nat)(fl:Fl)(tab:List (Nat×Nat))(hp:a9b π inv os.toArray=true)
 (htab:a2Z P fl (kE π inv os.toArray)=some tab) (hn:uY (kE π inv os.toArray) tab=true)
 (h:mI P os.toArray (sel os π) [] l H fun tr l1 H1=>Q .normal l1 H1∧a0J P os tr H1 π tab):Wp P (.region id os.toArray true) l H Q:=by
 have Dp:=b8O hp
 obtain⟨D,htb⟩:=a3p htab
 have hsz:=pY Dp
 have hmem:∀i∈π,i<os.length:=fun i hi=>by
  obtain⟨p,hpl,hpe⟩:=dO.1 hi
  have:=Dp.pi p (by rw[←Dp.len];exact hpl)
  rw[cY,dh hpl,eZ,hpe]at this
  simpa using this
 have hsel:(sel os π).map (yX inv)=(kE π inv os.toArray).toList:=by
  rw[a9M os π hmem]
  simp[kE]
 rw[←a3W Dp (sel os π) [] l H _ (fun o ho=>by
  rw[a9M os π hmem,dr]at ho
  obtain⟨i,hi,rfl⟩:=ho
  have:=hmem i hi
  exact⟨i,by simp[dY,this]⟩),hsel]at h
 obtain⟨T,val,l',H',ext,h0,h1,h2,h3,h4,h5,h6⟩:=uL (kE π inv os.toArray).toList 0 rfl [] l H h
 have hlen:(kE π inv os.toArray).toList.length=os.toArray.size:=by rw[fu,hsz]
 rw[hlen]at h1 h2 h3 h4
 have:=Sim.cz jW (id:=id) Dp D (T:=T) (val:=val) ⟨fun k hk=>by rw[hsz]at hk;simpa using h4 k hk⟩ fun i m o hm ho hw=>by
  rw[←htb]at hm
  have hr:=a1V h6 (i,m) hm
  have hi:i<os.toArray.size:=by rw[←hsz];exact(da.1 ho).1
  have hpi:=Dp.pi i hi
  have hoo:os.toArray[π.getD i 0]? =some (os.toArray[π.getD i 0]):=da.2 ⟨hpi,rfl⟩
  have hat:=qS (inv:=inv) Dp hi rfl hoo
  rw[ho]at hat
  have hat:=cT hat
  have hoo':os[π.getD i 0]? =some (os.toArray[π.getD i 0]):=by rw[←hoo];simp
  simp only[ff]at hr
  rw[hoo',h3 i hi]at hr
  unfold rdW at hr
  rw[hat,xQ Dp _ hoo]at hw
  have hr:=hr hw
  have hno:yF o=true:=by
   unfold uY at hn
   have:=dj.1 hn (i,m) hm
   simpa [ho]using this
  have hTm:trH ext[m]? H'=(T m).2∨os.toArray.size<m:=by
   unfold trH
   by_cases hm2:m<os.toArray.size
   ·left;rw[h3 m hm2]
   ·by_cases hm3:m=os.toArray.size
    ·left
     rw[ed (by omega),hm3,h1]
    ·right;omega
  rcases hTm with hTm|hTm
  ·rw[hTm,←b1W (inv:=inv),←hat]at hr
   obtain⟨v,H2,h7,h8⟩:=b1B hno hr
   exact⟨H2,by rw[h7,h8]⟩
  ·exfalso
   rw[htb]at hm
   have:=a1T hm
   rw[hsz]at this
   omega
 rw[h0,h1]at this
 exact⟨_,_,_,this,h5⟩
end
def RA:=
 And.intro @b9K<|And.intro @b5u<|And.intro @b1q<|And.intro @c2B<|And.intro @c3J<|And.intro @b6A<|And.intro @b9c<|And.intro @c2m<|And.intro @c0k<|And.intro @b9t<|And.intro @b6Q<|And.intro @a8f<|And.intro @a4h<|And.intro @b7D<|And.intro @b4N<|And.intro @b0v<|And.intro @a9S<|And.intro @a7q<|And.intro @b6a<|And.intro @b0h<|And.intro @b7a<|And.intro @b6f<|And.intro @b3G<|And.intro @b4g<|And.intro @c0c<|And.intro @b3p<|And.intro @a1F<|And.intro @a3J<|And.intro @b0o<|And.intro @b6C<|And.intro @b2Y<|And.intro @b8Z<|And.intro @a3C<|And.intro @a3q<|And.intro @b6w<|And.intro @c2n<|And.intro @a7e<|And.intro @a8n<|And.intro @b4L<|And.intro @b7j<|And.intro @a5x<|And.intro @b0R<|And.intro @a9H<|And.intro @b0D<|And.intro @a9n<|And.intro @a7G<|And.intro @a3u<|And.intro @a5p<|And.intro @a2z<|And.intro @b4D<|And.intro @c0C<|And.intro @b9F<|And.intro @b7x<|And.intro @a9T<|And.intro @b4J<|And.intro @b4o<|And.intro @b1f<|And.intro @b1b<|And.intro @a7z<|And.intro @a6N<|And.intro @b7Y<|And.intro @b3P<|And.intro @a3I<|And.intro @b0P<|And.intro @a6J<|And.intro @a3B<|And.intro @a6v<|And.intro @b0w<|And.intro @a7l<| @b6g
def RB:=
 And.intro @b8H<|And.intro @b0I<|And.intro @b1k<|And.intro @b3v<|And.intro @b1c<|And.intro @a8g<|And.intro @a7b<|And.intro @b7k<|And.intro @a8J<|And.intro @a8k<|And.intro @c0a<|And.intro @b3H<|And.intro @a8X<|And.intro @c0y<|And.intro @b8S<|And.intro @c0n<|And.intro @b8L<|And.intro @b0l<|And.intro @a7v<|And.intro @b9m<|And.intro @c3S<|And.intro @b7X<|And.intro @a8v<|And.intro @b0V<|And.intro @c0x<|And.intro @b9J<|And.intro @b6o<|And.intro @b3e<|And.intro @b4b<|And.intro @b3A<|And.intro @b3l<|And.intro @b2J<|And.intro @b4M<|And.intro @b2I<|And.intro @b4m<|And.intro @b3i<|And.intro @b3Y<|And.intro @b4G<|And.intro @b3o<|And.intro @b5M<|And.intro @b3L<|And.intro @a5G<|And.intro @b4h<|And.intro @b3E<|And.intro @b4l<|And.intro @b3q<|And.intro @b3W<|And.intro @b5e<|And.intro @b6b<|And.intro @b7t<|And.intro @c0L<|And.intro @b5C<|And.intro @a7Y<|And.intro @a9D<|And.intro @b0e<|And.intro @b9O<|And.intro @b7S<|And.intro @a8x<|And.intro @b5w<|And.intro @b5H<|And.intro @b2H<|And.intro @b0C<|And.intro @b7Z<|And.intro @b3C<|And.intro @b0t<|And.intro @b2Z<|And.intro @b7w<|And.intro @a9j<|And.intro @b4e<|And.intro @b3K<|And.intro @b0L<|And.intro @b2G<|And.intro @b0U<|And.intro @b8F<|And.intro @a6B<|And.intro @a4E<|And.intro @a9U<|And.intro @a6z<|And.intro @c0i<|And.intro @b6J<|And.intro @b4z<|And.intro @b5b<|And.intro @b8d<|And.intro @b2N<|And.intro @b5q<|And.intro @b3j<|And.intro @a6b<|And.intro @a9m<|And.intro @a8l<|And.intro @a9I<|And.intro @a9z<|And.intro @b6T<|And.intro @b4Z<|And.intro @b3w<|And.intro @b5f<|And.intro @a7I<|And.intro @a5L<|And.intro @a7k<|And.intro @a8T<|And.intro @a7C<|And.intro @c4w<|And.intro @c5a<|And.intro @b9p<|And.intro @c0R<|And.intro @b6y<|And.intro @b6x<|And.intro @b6W<|And.intro @a9Y<|And.intro @b9x<|And.intro @a7V<|And.intro @b9s<|And.intro @oD<|And.intro @b5Q<|And.intro @b5K<| @c0p
theorem RT:
 (∀{α:Type}(l:List α),[]++l=l)∧
 (∀{α:Type}(l:List α),l++[]=l)∧
 (∀{α:Type}{a:α}{l m:List α},a::l++m=a::(l++m))∧
 (∀(cs:List Value)(i:Nat)(v:Value)(vs:List Value),iX cs i (v::vs)=iX (cs.set i v) (i+1) vs)∧
 (∀(cs:List Value)(i:Nat),iX cs i []=cs)∧
 (∀{α:Type}{x:α}{xs:List α}{a:α},(x::xs).set 0 a=a::xs)∧
 (∀{α:Type}{x:α}{xs:List α}{i:Nat}{a:α},(x::xs).set (i+1) a=x::xs.set i a)∧
 (∀(n:Nat),0+n=n)∧
 (∀(n:Nat),n*1=n)∧
 (∀(n:Nat),n+0=n):=
 ⟨@List.nil_append, @List.append_nil, @List.cons_append, @lG, @rI, @List.set_cons_zero, @List.set_cons_succ, @Nat.zero_add, @Nat.mul_one, @Nat.add_zero⟩
end Go.Ds
namespace Go.Ds
open Go.Proofs Go.Proofs.Tryz
abbrev I(n:Int):Value:=.int .i64 n
theorem sR(H:Heap):St prog H H []:=.refl ..
theorem jW:prog.follows .mixedOrders=true:=by kernel_rfl
theorem tS3:iE prog 3=some 1:=by kernel_rfl
theorem b8U:iE prog 26=some 3:=by kernel_rfl
theorem c3t:iE prog 27=some 5:=by kernel_rfl
theorem c1V:iE prog 29=some 3:=by kernel_rfl
theorem c6K:iE prog 32=some 1:=by kernel_rfl
theorem c4Z:iE prog 33=some 1:=by kernel_rfl
theorem c0g:iE prog 34=some 1:=by kernel_rfl
theorem mX:iE prog 36=some 4:=by kernel_rfl
theorem c5x:iE prog 38=some 1:=by kernel_rfl
theorem c0l:iE prog 39=some 1:=by kernel_rfl
theorem qV:iE prog 41=some 3:=by kernel_rfl
theorem a9q:iE prog 50=some 1:=by kernel_rfl
theorem nU:iE prog 53=some 2:=by kernel_rfl
theorem nV:iE prog 56=some 2:=by kernel_rfl
theorem rQ:iE prog 60=some 2:=by kernel_rfl
theorem uI:iE prog 73=some 2:=by kernel_rfl
theorem c0K:iE prog 74=some 1:=by kernel_rfl
theorem tX:iE prog 76=some 6:=by kernel_rfl
theorem zX:iE prog 79=some 3:=by kernel_rfl
theorem a1h:iE prog 90=some 2:=by kernel_rfl
theorem c5X:iE prog 91=some 1:=by kernel_rfl
theorem a1g:iE prog 93=some 5:=by kernel_rfl
theorem b1r:iE prog 107=some 4:=by kernel_rfl
theorem b5E:iE prog 111=some 9:=by kernel_rfl
theorem wB:iE prog 113=some 1:=by kernel_rfl
theorem oA:iE prog 115=some 4:=by kernel_rfl
theorem b5B:iE prog 118=some 4:=by kernel_rfl
theorem b1T:iE prog 120=some 4:=by kernel_rfl
theorem tV:iE prog 122=some 5:=by kernel_rfl
theorem wG:iE prog 155=some 2:=by kernel_rfl
theorem zP:iE prog 158=some 3:=by kernel_rfl
theorem b4X:iE prog 205=some 1:=by kernel_rfl
theorem b1N:iE prog 244=some 3:=by kernel_rfl
theorem c3m:iT prog 74=some 1:=by kernel_rfl
theorem nM:lB prog 112=true∧oC prog 9=true∧lB prog 9=false:=⟨by kernel_rfl,by kernel_rfl,by kernel_rfl⟩
theorem c7K(A i e:Nat)(k:IntKind)(j:Int)(h0:0≤j)(h1:j<5):wW (iT prog 27) prog 27 (ptr A i e) (.int k j)=some (ptr A (i+j.toNat*1) e):=a5V (n:=5) (elem:=5) (size:=1) (by kernel_rfl) (by kernel_rfl) A i e k j h0 h1
theorem c7O(A i e:Nat)(k:IntKind)(j:Int)(h0:0≤j)(h1:j<3):wW (iT prog 29) prog 29 (ptr A i e) (.int k j)=some (ptr A (i+j.toNat*1) e):=a5V (n:=3) (elem:=28) (size:=1) (by kernel_rfl) (by kernel_rfl) A i e k j h0 h1
theorem c4n(A i e:Nat)(k:IntKind)(j:Int)(h0:0≤j)(h1:j<64):wW (iT prog 297) prog 297 (ptr A i e) (.int k j)=some (ptr A (i+j.toNat*1) e):=a5V (n:=64) (elem:=5) (size:=1) (by kernel_rfl) (by kernel_rfl) A i e k j h0 h1
theorem c1W:nG prog 32=some (6,80):=by kernel_rfl
theorem c6p:((iK prog 32).bind (jB prog)).any iZ=true:=by kernel_rfl
theorem c2x:nG prog 33=some (5,64):=by kernel_rfl
theorem c5f:((iK prog 33).bind (jB prog)).any iZ=true:=by kernel_rfl
theorem b0J:nG prog 34=some (5,48):=by kernel_rfl
theorem b8W:((iK prog 34).bind (jB prog)).any iZ=true:=by kernel_rfl
theorem c3V:nG prog 38=some (1,8):=by kernel_rfl
theorem c6N:((iK prog 38).bind (jB prog)).any iZ=true:=by kernel_rfl
theorem b6p:nG prog 44=some (2,16):=by kernel_rfl
theorem c3z:((iK prog 44).bind (jB prog)).any iZ=true:=by kernel_rfl
theorem rW:nG prog 50=some (2,16):=by kernel_rfl
theorem a3z:((iK prog 50).bind (jB prog)).any iZ=true:=by kernel_rfl
theorem b0i:nG prog 57=some (2,16):=by kernel_rfl
theorem c3f:((iK prog 57).bind (jB prog)).any iZ=true:=by kernel_rfl
theorem b1g:nG prog 68=some (3,24):=by kernel_rfl
theorem b8D:((iK prog 68).bind (jB prog)).any iZ=true:=by kernel_rfl
theorem a2u:nG prog 74=some (1,8):=by kernel_rfl
theorem a7y:((iK prog 74).bind (jB prog)).any iZ=true:=by kernel_rfl
theorem c3M:nG prog 91=some (4,56):=by kernel_rfl
theorem c4g:((iK prog 91).bind (jB prog)).any iZ=true:=by kernel_rfl
theorem b1K:nG prog 112=some (1,1):=by kernel_rfl
theorem b1z:((iK prog 112).bind (jB prog)).any iZ=true:=by kernel_rfl
theorem pV:nG prog 113=some (3,40):=by kernel_rfl
theorem wE:((iK prog 113).bind (jB prog)).any iZ=true:=by kernel_rfl
theorem c0Z:nG prog 138=some (3,40):=by kernel_rfl
theorem c0W:((iK prog 138).bind (jB prog)).any iZ=true:=by kernel_rfl
theorem a4j:nG prog 156=some (2,16):=by kernel_rfl
theorem a4q:((iK prog 156).bind (jB prog)).any iZ=true:=by kernel_rfl
theorem c4X:nG prog 163=some (1,16):=by kernel_rfl
theorem c4a:((iK prog 163).bind (jB prog)).any iZ=true:=by kernel_rfl
theorem c1I:nG prog 194=some (2,16):=by kernel_rfl
theorem c1b:((iK prog 194).bind (jB prog)).any iZ=true:=by kernel_rfl
theorem c1p:nG prog 199=some (2,16):=by kernel_rfl
theorem c4p:((iK prog 199).bind (jB prog)).any iZ=true:=by kernel_rfl
theorem c8h:c2M prog 74=some (8,.int .i64 0):=by kernel_rfl
theorem c5W(t2:TypeId)(cx cy:Bool)(a0:Int)(a1:Int)(b0:Int)(b1:Int):lC prog .eql 53 t2 cx cy (.agg #[.int .i64 a0,.int .i64 a1]) (.agg #[.int .i64 b0,.int .i64 b1])=some (.bool (decide (a0=b0∧a1=b1)))∧lC prog .neq 53 t2 cx cy (.agg #[.int .i64 a0,.int .i64 a1]) (.agg #[.int .i64 b0,.int .i64 b1])=some (.bool (decide (¬(a0=b0∧a1=b1)))):=by
 have h:=yI (P:=prog) (t:=53) (t2:=t2) (cx:=cx) (cy:=cy) (xs:=[.int .i64 a0,.int .i64 a1]) (ys:=[.int .i64 b0,.int .i64 b1]) (by kernel_rfl) (by kernel_rfl) (by kernel_rfl) (by kernel_rfl) rfl (by kernel_rfl) rfl rfl
 have e:((List.range [Value.int .i64 a0,.int .i64 a1].length).all fun j=>eqC ([Value.int .i64 a0,.int .i64 a1].getD j undef) ([Value.int .i64 b0,.int .i64 b1].getD j undef))=decide (a0=b0∧a1=b1):=by
  show(eqC (Value.int .i64 a0) (.int .i64 b0)&&(eqC (Value.int .i64 a1) (.int .i64 b1)&&true))=_
  rw[ec]
  simp[eqC]
 rw[e]at h
 exact⟨h.1,by rw[h.2];simp⟩
theorem c5n(t2:TypeId)(cx cy:Bool)(a0:Int)(a1:Int)(b0:Int)(b1:Int):lC prog .eql 53 t2 cx cy (.agg #[.int .i64 a0,.int .i64 a1]) (.agg #[.int .i64 b0,.int .i64 b1])=some (.bool (decide (a0=b0∧a1=b1))):=(c5W t2 cx cy a0 a1 b0 b1).1
theorem c6s(t2:TypeId)(cx cy:Bool)(a0:Int)(a1:Int)(b0:Int)(b1:Int):lC prog .neq 53 t2 cx cy (.agg #[.int .i64 a0,.int .i64 a1]) (.agg #[.int .i64 b0,.int .i64 b1])=some (.bool (decide (¬(a0=b0∧a1=b1)))):=(c5W t2 cx cy a0 a1 b0 b1).2
theorem c6n(t2:TypeId)(cx cy:Bool)(a0:Int)(a1:Int)(b0:Int)(b1:Int):lC prog .eql 56 t2 cx cy (.agg #[.int .u64 a0,.int .u64 a1]) (.agg #[.int .u64 b0,.int .u64 b1])=some (.bool (decide (a0=b0∧a1=b1)))∧lC prog .neq 56 t2 cx cy (.agg #[.int .u64 a0,.int .u64 a1]) (.agg #[.int .u64 b0,.int .u64 b1])=some (.bool (decide (¬(a0=b0∧a1=b1)))):=by
 have h:=yI (P:=prog) (t:=56) (t2:=t2) (cx:=cx) (cy:=cy) (xs:=[.int .u64 a0,.int .u64 a1]) (ys:=[.int .u64 b0,.int .u64 b1]) (by kernel_rfl) (by kernel_rfl) (by kernel_rfl) (by kernel_rfl) rfl (by kernel_rfl) rfl rfl
 have e:((List.range [Value.int .u64 a0,.int .u64 a1].length).all fun j=>eqC ([Value.int .u64 a0,.int .u64 a1].getD j undef) ([Value.int .u64 b0,.int .u64 b1].getD j undef))=decide (a0=b0∧a1=b1):=by
  show(eqC (Value.int .u64 a0) (.int .u64 b0)&&(eqC (Value.int .u64 a1) (.int .u64 b1)&&true))=_
  rw[ec]
  simp[eqC]
 rw[e]at h
 exact⟨h.1,by rw[h.2];simp⟩
theorem c6I(t2:TypeId)(cx cy:Bool)(a0:Int)(a1:Int)(b0:Int)(b1:Int):lC prog .eql 56 t2 cx cy (.agg #[.int .u64 a0,.int .u64 a1]) (.agg #[.int .u64 b0,.int .u64 b1])=some (.bool (decide (a0=b0∧a1=b1))):=(c6n t2 cx cy a0 a1 b0 b1).1
theorem c5T(t2:TypeId)(cx cy:Bool)(a0:Int)(a1:Int)(b0:Int)(b1:Int):lC prog .neq 56 t2 cx cy (.agg #[.int .u64 a0,.int .u64 a1]) (.agg #[.int .u64 b0,.int .u64 b1])=some (.bool (decide (¬(a0=b0∧a1=b1)))):=(c6n t2 cx cy a0 a1 b0 b1).2
theorem c6d(t2:TypeId)(cx cy:Bool)(a0:Int)(a1:Int)(b0:Int)(b1:Int):lC prog .eql 60 t2 cx cy (.agg #[.int .i64 a0,.int .i64 a1]) (.agg #[.int .i64 b0,.int .i64 b1])=some (.bool (decide (a0=b0∧a1=b1)))∧lC prog .neq 60 t2 cx cy (.agg #[.int .i64 a0,.int .i64 a1]) (.agg #[.int .i64 b0,.int .i64 b1])=some (.bool (decide (¬(a0=b0∧a1=b1)))):=by
 have h:=yI (P:=prog) (t:=60) (t2:=t2) (cx:=cx) (cy:=cy) (xs:=[.int .i64 a0,.int .i64 a1]) (ys:=[.int .i64 b0,.int .i64 b1]) (by kernel_rfl) (by kernel_rfl) (by kernel_rfl) (by kernel_rfl) rfl (by kernel_rfl) rfl rfl
 have e:((List.range [Value.int .i64 a0,.int .i64 a1].length).all fun j=>eqC ([Value.int .i64 a0,.int .i64 a1].getD j undef) ([Value.int .i64 b0,.int .i64 b1].getD j undef))=decide (a0=b0∧a1=b1):=by
  show(eqC (Value.int .i64 a0) (.int .i64 b0)&&(eqC (Value.int .i64 a1) (.int .i64 b1)&&true))=_
  rw[ec]
  simp[eqC]
 rw[e]at h
 exact⟨h.1,by rw[h.2];simp⟩
theorem c6P(t2:TypeId)(cx cy:Bool)(a0:Int)(a1:Int)(b0:Int)(b1:Int):lC prog .eql 60 t2 cx cy (.agg #[.int .i64 a0,.int .i64 a1]) (.agg #[.int .i64 b0,.int .i64 b1])=some (.bool (decide (a0=b0∧a1=b1))):=(c6d t2 cx cy a0 a1 b0 b1).1
theorem c4f(t2:TypeId)(cx cy:Bool)(a0:Int)(a1:Int)(b0:Int)(b1:Int):lC prog .neq 60 t2 cx cy (.agg #[.int .i64 a0,.int .i64 a1]) (.agg #[.int .i64 b0,.int .i64 b1])=some (.bool (decide (¬(a0=b0∧a1=b1)))):=(c6d t2 cx cy a0 a1 b0 b1).2
theorem c1E(t2:TypeId)(cx cy:Bool)(a0:Int)(a1:Int)(b0:Int)(b1:Int):lC prog .eql 155 t2 cx cy (.agg #[.int .i64 a0,.int .i64 a1]) (.agg #[.int .i64 b0,.int .i64 b1])=some (.bool (decide (a0=b0∧a1=b1)))∧lC prog .neq 155 t2 cx cy (.agg #[.int .i64 a0,.int .i64 a1]) (.agg #[.int .i64 b0,.int .i64 b1])=some (.bool (decide (¬(a0=b0∧a1=b1)))):=by
 have h:=yI (P:=prog) (t:=155) (t2:=t2) (cx:=cx) (cy:=cy) (xs:=[.int .i64 a0,.int .i64 a1]) (ys:=[.int .i64 b0,.int .i64 b1]) (by kernel_rfl) (by kernel_rfl) (by kernel_rfl) (by kernel_rfl) rfl (by kernel_rfl) rfl rfl
 have e:((List.range [Value.int .i64 a0,.int .i64 a1].length).all fun j=>eqC ([Value.int .i64 a0,.int .i64 a1].getD j undef) ([Value.int .i64 b0,.int .i64 b1].getD j undef))=decide (a0=b0∧a1=b1):=by
  show(eqC (Value.int .i64 a0) (.int .i64 b0)&&(eqC (Value.int .i64 a1) (.int .i64 b1)&&true))=_
  rw[ec]
  simp[eqC]
 rw[e]at h
 exact⟨h.1,by rw[h.2];simp⟩
theorem c2Z(t2:TypeId)(cx cy:Bool)(a0:Int)(a1:Int)(b0:Int)(b1:Int):lC prog .eql 155 t2 cx cy (.agg #[.int .i64 a0,.int .i64 a1]) (.agg #[.int .i64 b0,.int .i64 b1])=some (.bool (decide (a0=b0∧a1=b1))):=(c1E t2 cx cy a0 a1 b0 b1).1
theorem c3j(t2:TypeId)(cx cy:Bool)(a0:Int)(a1:Int)(b0:Int)(b1:Int):lC prog .neq 155 t2 cx cy (.agg #[.int .i64 a0,.int .i64 a1]) (.agg #[.int .i64 b0,.int .i64 b1])=some (.bool (decide (¬(a0=b0∧a1=b1)))):=(c1E t2 cx cy a0 a1 b0 b1).2
theorem c2h{a1:ByteArray}:kU prog 36 [(0,.string a1)]=some (.agg #[.string a1,.slice none 0 0,.slice none 0 0,.slice none 0 0]):=by kernel_rfl
theorem a5w{a1:ByteArray}{a2:Value}{a3:Value}{a4:Value}(h2:a2.cells=#[a2]∧oneCell a2=true∧pI a2=true)(h3:a3.cells=#[a3]∧oneCell a3=true∧pI a3=true)(h4:a4.cells=#[a4]∧oneCell a4=true∧pI a4=true):kU prog 36 [(0,.string a1),(1,a2),(2,a3),(3,a4)]=some (.agg #[.string a1,a2,a3,a4]):=by cases a2<;>cases a3<;>cases a4<;>first|(exfalso;simp[oneCell]at h2;done)|(exfalso;simp[oneCell]at h3;done)|(exfalso;simp[oneCell]at h4;done)|kernel_rfl
theorem b7Q{a1:Value}{a2:Int}(h1:a1.cells=#[a1]∧oneCell a1=true∧pI a1=true):kU prog 41 [(0,a1),(1,.int .u64 a2)]=some (.agg #[a1,.int .u64 a2,.int .u64 0]):=by cases a1<;>first|(exfalso;simp[oneCell]at h1;done)|kernel_rfl
theorem b5O{a1:Int}{a2:Int}:kU prog 41 [(1,.int .u64 a1),(2,.int .u64 a2)]=some (.agg #[.slice none 0 0,.int .u64 a1,.int .u64 a2]):=by kernel_rfl
theorem qZ{a1:Int}{a2:Int}:kU prog 53 [(0,.int .i64 a1),(1,.int .i64 a2)]=some (.agg #[.int .i64 a1,.int .i64 a2]):=by kernel_rfl
theorem c1k:kU prog 56 []=some (.agg #[.int .u64 0,.int .u64 0]):=by kernel_rfl
theorem b7f{a1:Int}{a2:Int}:kU prog 56 [(0,.int .u64 a1),(1,.int .u64 a2)]=some (.agg #[.int .u64 a1,.int .u64 a2]):=by kernel_rfl
theorem c0V:kU prog 60 []=some (.agg #[.int .i64 0,.int .i64 0]):=by kernel_rfl
theorem xT{a1:Int}{a2:Int}:kU prog 60 [(0,.int .i64 a1),(1,.int .i64 a2)]=some (.agg #[.int .i64 a1,.int .i64 a2]):=by kernel_rfl
theorem qQ{a1:Int}{a2:Int}:kU prog 73 [(0,.int .i64 a1),(1,.int .i64 a2)]=some (.agg #[.int .i64 a1,.int .i64 a2]):=by kernel_rfl
theorem a5q{a1:ByteArray}{a2:ByteArray}{a3:Int}{a4:Int}{a5:Int}:kU prog 76 [(0,.string a1),(1,.string a2),(2,.agg #[.int .i64 a3,.int .i64 a4]),(3,.int .i64 a5)]=some (.agg #[.string a1,.string a2,.int .i64 a3,.int .i64 a4,.int .i64 a5,.slice none 0 0]):=by kernel_rfl
theorem a1N{a1:ByteArray}{a2:ByteArray}{a3:Int}{a4:Int}{a5:Int}{a6:Value}(h6:a6.cells=#[a6]∧oneCell a6=true∧pI a6=true):kU prog 76 [(0,.string a1),(1,.string a2),(2,.agg #[.int .i64 a3,.int .i64 a4]),(3,.int .i64 a5),(4,a6)]=some (.agg #[.string a1,.string a2,.int .i64 a3,.int .i64 a4,.int .i64 a5,a6]):=by cases a6<;>first|(exfalso;simp[oneCell]at h6;done)|kernel_rfl
theorem zU{a1:Int}{a2:Int}{a3:Int}:kU prog 79 [(0,.agg #[.int .i64 a1,.int .i64 a2]),(1,.int .i64 a3)]=some (.agg #[.int .i64 a1,.int .i64 a2,.int .i64 a3]):=by kernel_rfl
theorem a7Z{a1:Int}{a2:Int}:kU prog 90 [(0,.int .i64 a1),(1,.int .i64 a2)]=some (.agg #[.int .i64 a1,.int .i64 a2]):=by kernel_rfl
theorem a9x{a1:ByteArray}{a2:Bool}{a3:Int}{a4:Int}:kU prog 93 [(0,.string a1),(1,.bool a2),(2,.agg #[.int .i64 a3,.int .i64 a4])]=some (.agg #[.string a1,.bool a2,.int .i64 a3,.int .i64 a4,.slice none 0 0]):=by kernel_rfl
theorem a1W{a1:ByteArray}{a2:Int}{a3:Int}{a4:Value}(h4:a4.cells=#[a4]∧oneCell a4=true∧pI a4=true):kU prog 93 [(0,.string a1),(2,.agg #[.int .i64 a2,.int .i64 a3]),(3,a4)]=some (.agg #[.string a1,.bool false,.int .i64 a2,.int .i64 a3,a4]):=by cases a4<;>first|(exfalso;simp[oneCell]at h4;done)|kernel_rfl
theorem b4f{a1:ByteArray}{a2:Int}{a3:Int}:kU prog 115 [(0,.string a1),(1,.agg #[.int .i64 a2,.int .i64 a3])]=some (.agg #[.string a1,.int .i64 a2,.int .i64 a3,.slice none 0 0]):=by kernel_rfl
theorem a8q{a1:ByteArray}{a2:Int}{a3:Int}{a4:Value}(h4:a4.cells=#[a4]∧oneCell a4=true∧pI a4=true):kU prog 115 [(0,.string a1),(1,.agg #[.int .i64 a2,.int .i64 a3]),(2,a4)]=some (.agg #[.string a1,.int .i64 a2,.int .i64 a3,a4]):=by cases a4<;>first|(exfalso;simp[oneCell]at h4;done)|kernel_rfl
theorem a7m{a1:ByteArray}{a2:Int}{a3:Int}:kU prog 122 [(0,.string a1),(1,.int .i64 a2),(2,.int .i64 a3)]=some (.agg #[.string a1,.int .i64 a2,.int .i64 a3,.int .i64 0,.bool false]):=by kernel_rfl
theorem a1e{a1:ByteArray}{a2:Int}{a3:Int}{a4:Int}{a5:Bool}:kU prog 122 [(0,.string a1),(1,.int .i64 a2),(2,.int .i64 a3),(3,.int .i64 a4),(4,.bool a5)]=some (.agg #[.string a1,.int .i64 a2,.int .i64 a3,.int .i64 a4,.bool a5]):=by kernel_rfl
theorem qI{a1:Int}{a2:Int}:kU prog 155 [(0,.int .i64 a1),(1,.int .i64 a2)]=some (.agg #[.int .i64 a1,.int .i64 a2]):=by kernel_rfl
theorem c3c:kU prog 158 []=some (.agg #[.int .i64 0,.int .i64 0,.slice none 0 0]):=by kernel_rfl
theorem lJ{a1:Int}{a2:Int}{a3:Value}(h3:a3.cells=#[a3]∧oneCell a3=true∧pI a3=true):kU prog 158 [(0,.int .i64 a1),(1,.int .i64 a2),(2,a3)]=some (.agg #[.int .i64 a1,.int .i64 a2,a3]):=by cases a3<;>first|(exfalso;simp[oneCell]at h3;done)|kernel_rfl
theorem b3h{a1:Value}{a2:Int}{a3:Int}(h1:a1.cells=#[a1]∧oneCell a1=true∧pI a1=true):kU prog 244 [(0,a1),(1,.agg #[.int .i64 a2,.int .i64 a3])]=some (.agg #[a1,.int .i64 a2,.int .i64 a3]):=by cases a1<;>first|(exfalso;simp[oneCell]at h1;done)|kernel_rfl
theorem b3I{a1:Int}{a2:Int}:kU prog 255 [(0,.int .u64 a1),(1,.int .u64 a2)]=some (.agg #[.int .u64 a1,.int .u64 a2]):=by kernel_rfl
theorem tR4(l:List Value)(H:Heap):iC prog Tryz.f4 l H=some (get l 6):=rfl
theorem tR7(l:List Value)(H:Heap):iC prog Tryz.f7 l H=some (get l 2):=rfl
theorem tR8(l:List Value)(H:Heap):iC prog Tryz.f8 l H=pU (jO prog 36) (iE prog 36) H (get l 2):=by
 show(Option.bind (Option.bind (lQ prog H 36 (get l 2)) fun v=>some [v]) fun vs=>_)=_
 rw[lL]
 cases pU _ _ H (get l 2)<;>rfl
theorem tR9(l:List Value)(H:Heap):iC prog Tryz.f9 l H=pU (jO prog 41) (iE prog 41) H (get l 4):=by
 show(Option.bind (Option.bind (lQ prog H 41 (get l 4)) fun v=>some [v]) fun vs=>_)=_
 rw[lL]
 cases pU _ _ H (get l 4)<;>rfl
theorem c7H(l:List Value)(H:Heap):iC prog Tryz.f10 l H=some (get l 4):=rfl
theorem c8l(l:List Value)(H:Heap):iC prog Tryz.f17 l H=some (get l 0):=rfl
theorem c5Z(l:List Value)(H:Heap):iC prog Tryz.f18 l H=if(kH (get l 6)&&(kH (get l 7)&&true))=true then some (.tuple #[get l 6,get l 7])else none:=rfl
theorem c5q(l:List Value)(H:Heap):iC prog Tryz.f19 l H=if(kH (get l 6)&&(kH (get l 7)&&true))=true then some (.tuple #[get l 6,get l 7])else none:=rfl
theorem c8e(l:List Value)(H:Heap):iC prog Tryz.f20 l H=some (get l 6):=rfl
theorem c3N(l:List Value)(H:Heap):iC prog Tryz.f21 l H=some (get l 4):=rfl
theorem c7E(l:List Value)(H:Heap):iC prog Tryz.f22 l H=some (get l 4):=rfl
theorem c6h(l:List Value)(H:Heap):iC prog Tryz.f23 l H=some (.tuple #[]):=rfl
theorem c7o(l:List Value)(H:Heap):iC prog Tryz.f24 l H=some (get l 4):=rfl
theorem c3P(l:List Value)(H:Heap):iC prog Tryz.f25 l H=some (get l 4):=rfl
theorem c7M(l:List Value)(H:Heap):iC prog Tryz.f34 l H=pU (jO prog 76) (iE prog 76) H (get l 4):=by
 show(Option.bind (Option.bind (lQ prog H 76 (get l 4)) fun v=>some [v]) fun vs=>_)=_
 rw[lL]
 cases pU _ _ H (get l 4)<;>rfl
theorem b0a(l:List Value)(H:Heap):iC prog Tryz.f35 l H=pU (jO prog 115) (iE prog 115) H (get l 8):=by
 show(Option.bind (Option.bind (lQ prog H 115 (get l 8)) fun v=>some [v]) fun vs=>_)=_
 rw[lL]
 cases pU _ _ H (get l 8)<;>rfl
theorem c7l(l:List Value)(H:Heap):iC prog Tryz.f36 l H=(pU (jO prog 56) (iE prog 56) H (get l 2)).bind fun v=>if(kH v&&(kH (get l 3)&&true))=true then some (.tuple #[v,get l 3])else none:=by
 show(Option.bind (Option.bind (lQ prog H 56 (get l 2)) fun v=>some [v,get l 3]) fun vs=>_)=_
 rw[lL]
 cases pU _ _ H (get l 2)<;>rfl
theorem b8M(l:List Value)(H:Heap):iC prog Tryz.f38 l H=some (get l 4):=rfl
theorem c7y(l:List Value)(H:Heap):iC prog Tryz.f44 l H=pU (jO prog 36) (iE prog 36) H (get l 0):=by
 show(Option.bind (Option.bind (lQ prog H 36 (get l 0)) fun v=>some [v]) fun vs=>_)=_
 rw[lL]
 cases pU _ _ H (get l 0)<;>rfl
theorem c4u(l:List Value)(H:Heap):iC prog Tryz.f45 l H=if(kH (get l 6)&&(kH (get l 7)&&true))=true then some (.tuple #[get l 6,get l 7])else none:=rfl
theorem c2y(l:List Value)(H:Heap):iC prog Tryz.f46 l H=some (get l 4):=rfl
theorem c5o(l:List Value)(H:Heap):iC prog Tryz.f47 l H=some (get l 6):=rfl
theorem c8n(l:List Value)(H:Heap):iC prog Tryz.f48 l H=some (get l 6):=rfl
theorem c7C(l:List Value)(H:Heap):iC prog Tryz.f49 l H=some (get l 2):=rfl
theorem c8b(l:List Value)(H:Heap):iC prog Tryz.f50 l H=if(kH (get l 4)&&(kH (get l 5)&&true))=true then some (.tuple #[get l 4,get l 5])else none:=rfl
theorem c7F(l:List Value)(H:Heap):iC prog Tryz.f51 l H=some (get l 4):=rfl
theorem c3I(l:List Value)(H:Heap):iC prog Tryz.f52 l H=some (get l 4):=rfl
theorem c7m(l:List Value)(H:Heap):iC prog Tryz.f53 l H=some (get l 6):=rfl
theorem c8j(l:List Value)(H:Heap):iC prog Tryz.f54 l H=some (get l 6):=rfl
theorem c5c(l:List Value)(H:Heap):iC prog Tryz.f56 l H=some (get l 4):=rfl
theorem c1O(l:List Value)(H:Heap):iC prog Tryz.f57 l H=some (get l 2):=rfl
theorem c7q(l:List Value)(H:Heap):iC prog Tryz.f58 l H=some (get l 4):=rfl
theorem c4S(l:List Value)(H:Heap):iC prog Tryz.f59 l H=some (.tuple #[]):=rfl
theorem c7p(l:List Value)(H:Heap):iC prog Tryz.f69 l H=pU (jO prog 73) (iE prog 73) H (get l 2):=by
 show(Option.bind (Option.bind (lQ prog H 73 (get l 2)) fun v=>some [v]) fun vs=>_)=_
 rw[lL]
 cases pU _ _ H (get l 2)<;>rfl
theorem c8a(l:List Value)(H:Heap):iC prog Tryz.f70 l H=pU (jO prog 73) (iE prog 73) H (get l 2):=by
 show(Option.bind (Option.bind (lQ prog H 73 (get l 2)) fun v=>some [v]) fun vs=>_)=_
 rw[lL]
 cases pU _ _ H (get l 2)<;>rfl
theorem c8k(l:List Value)(H:Heap):iC prog Tryz.f71 l H=some (get l 2):=rfl
theorem c6j(l:List Value)(H:Heap):iC prog Tryz.f72 l H=pU (jO prog 56) (iE prog 56) H (get l 4):=by
 show(Option.bind (Option.bind (lQ prog H 56 (get l 4)) fun v=>some [v]) fun vs=>_)=_
 rw[lL]
 cases pU _ _ H (get l 4)<;>rfl
theorem a3H(l:List Value)(H:Heap):iC prog Tryz.f73 l H=some (get l 2):=rfl
theorem b4R(l:List Value)(H:Heap):iC prog Tryz.f74 l H=some (get l 4):=rfl
theorem c8q(l:List Value)(H:Heap):iC prog Tryz.f75 l H=(pU (jO prog 56) (iE prog 56) H (get l 2)).bind fun v=>if(kH v&&(kH (get l 3)&&true))=true then some (.tuple #[v,get l 3])else none:=by
 show(Option.bind (Option.bind (lQ prog H 56 (get l 2)) fun v=>some [v,get l 3]) fun vs=>_)=_
 rw[lL]
 cases pU _ _ H (get l 2)<;>rfl
theorem c7V(l:List Value)(H:Heap):iC prog Tryz.f76 l H=some (get l 4):=rfl
theorem c8r(l:List Value)(H:Heap):iC prog Tryz.f80 l H=some (get l 6):=rfl
theorem c7B(l:List Value)(H:Heap):iC prog Tryz.f81 l H=pU (jO prog 76) (iE prog 76) H (get l 2):=by
 show(Option.bind (Option.bind (lQ prog H 76 (get l 2)) fun v=>some [v]) fun vs=>_)=_
 rw[lL]
 cases pU _ _ H (get l 2)<;>rfl
theorem c7Q(l:List Value)(H:Heap):iC prog Tryz.f82 l H=some (get l 6):=rfl
theorem c2f(l:List Value)(H:Heap):iC prog Tryz.f83 l H=some (get l 4):=rfl
theorem c7c(l:List Value)(H:Heap):iC prog Tryz.f84 l H=some (get l 6):=rfl
theorem c8f(l:List Value)(H:Heap):iC prog Tryz.f85 l H=some (get l 2):=rfl
theorem c5V(l:List Value)(H:Heap):iC prog Tryz.f86 l H=some (get l 4):=rfl
theorem c6V(l:List Value)(H:Heap):iC prog Tryz.f87 l H=some (get l 4):=rfl
theorem c7g(l:List Value)(H:Heap):iC prog Tryz.f88 l H=some (get l 2):=rfl
theorem c6X(l:List Value)(H:Heap):iC prog Tryz.f89 l H=some (get l 4):=rfl
theorem c7f(l:List Value)(H:Heap):iC prog Tryz.f90 l H=some (get l 6):=rfl
theorem c7u(l:List Value)(H:Heap):iC prog Tryz.f91 l H=some (get l 4):=rfl
theorem c4J(l:List Value)(H:Heap):iC prog Tryz.f93 l H=some (get l 4):=rfl
theorem c6O(l:List Value)(H:Heap):iC prog Tryz.f99 l H=some (.tuple #[]):=rfl
theorem a7Q(l:List Value)(H:Heap):iC prog Tryz.f100 l H=some (.tuple #[]):=rfl
theorem a4r(l:List Value)(H:Heap):iC prog Tryz.f107 l H=some (get l 2):=rfl
theorem a1Y(l:List Value)(H:Heap):iC prog Tryz.f108 l H=some (get l 2):=rfl
theorem c1j(l:List Value)(H:Heap):iC prog Tryz.f109 l H=some (get l 4):=rfl
theorem a7a(l:List Value)(H:Heap):iC prog Tryz.f110 l H=some (get l 4):=rfl
theorem rY(l:List Value)(H:Heap):iC prog Tryz.f111 l H=some (get l 4):=rfl
theorem b1F(l:List Value)(H:Heap):iC prog Tryz.f112 l H=some (get l 2):=rfl
theorem c4A(l:List Value)(H:Heap):iC prog Tryz.f113 l H=pU (jO prog 56) (iE prog 56) H (get l 4):=by
 show(Option.bind (Option.bind (lQ prog H 56 (get l 4)) fun v=>some [v]) fun vs=>_)=_
 rw[lL]
 cases pU _ _ H (get l 4)<;>rfl
theorem a8b(l:List Value)(H:Heap):iC prog Tryz.f114 l H=some (get l 4):=rfl
theorem c5D(l:List Value)(H:Heap):iC prog Tryz.f115 l H=some (get l 4):=rfl
theorem c1s(l:List Value)(H:Heap):iC prog Tryz.f116 l H=some (.tuple #[]):=rfl
theorem c5G(l:List Value)(H:Heap):iC prog Tryz.f117 l H=some (get l 4):=rfl
theorem b7L(l:List Value)(H:Heap):iC prog Tryz.f118 l H=some (get l 2):=rfl
theorem c6q(l:List Value)(H:Heap):iC prog Tryz.f119 l H=some (get l 6):=rfl
theorem c4v(l:List Value)(H:Heap):iC prog Tryz.f120 l H=some (get l 4):=rfl
theorem c6E(l:List Value)(H:Heap):iC prog Tryz.f121 l H=some (get l 2):=rfl
theorem c4G(l:List Value)(H:Heap):iC prog Tryz.f122 l H=some (get l 2):=rfl
theorem a8C(l:List Value)(H:Heap):iC prog Tryz.f123 l H=some (get l 2):=rfl
theorem c4T(l:List Value)(H:Heap):iC prog Tryz.f128 l H=some (.tuple #[]):=rfl
theorem b1t(l:List Value)(H:Heap):iC prog Tryz.f129 l H=some (get l 4):=rfl
theorem c1F(l:List Value)(H:Heap):iC prog Tryz.f130 l H=some (get l 4):=rfl
theorem c5B(l:List Value)(H:Heap):iC prog Tryz.f151 l H=some (.tuple #[]):=rfl
theorem a7f(l:List Value)(H:Heap):iC prog Tryz.f154 l H=some (get l 2):=rfl
theorem c1u(l:List Value)(H:Heap):iC prog Tryz.f155 l H=some (get l 2):=rfl
theorem c1z(l:List Value)(H:Heap):iC prog Tryz.f156 l H=some (get l 2):=rfl
theorem tR(l:List Value)(H:Heap):iC prog Tryz.f157 l H=some (get l 4):=rfl
theorem c6g(l:List Value)(H:Heap):iC prog Tryz.f158 l H=some (get l 4):=rfl
theorem c4Q(l:List Value)(H:Heap):iC prog Tryz.f159 l H=some (get l 3):=rfl
theorem c1f(l:List Value)(H:Heap):iC prog Tryz.f161 l H=some (get l 2):=rfl
theorem c1d(l:List Value)(H:Heap):iC prog Tryz.f162 l H=pU (jO prog 158) (iE prog 158) H (get l 4):=by
 show(Option.bind (Option.bind (lQ prog H 158 (get l 4)) fun v=>some [v]) fun vs=>_)=_
 rw[lL]
 cases pU _ _ H (get l 4)<;>rfl
theorem b1A(l:List Value)(H:Heap):iC prog Tryz.f163 l H=(pU (jO prog 60) (iE prog 60) H (get l 6)).bind fun v=>if(kH v&&(kH (get l 7)&&true))=true then some (.tuple #[v,get l 7])else none:=by
 show(Option.bind (Option.bind (lQ prog H 60 (get l 6)) fun v=>some [v,get l 7]) fun vs=>_)=_
 rw[lL]
 cases pU _ _ H (get l 6)<;>rfl
theorem c5U(l:List Value)(H:Heap):iC prog Tryz.f164 l H=some (get l 2):=rfl
theorem c5Q(l:List Value)(H:Heap):iC prog Tryz.f165 l H=some (get l 4):=rfl
theorem c4o(l:List Value)(H:Heap):iC prog Tryz.f166 l H=some (.tuple #[]):=rfl
theorem c6x(l:List Value)(H:Heap):iC prog Tryz.f167 l H=some (get l 2):=rfl
theorem a3U(l:List Value)(H:Heap):iC prog Tryz.f168 l H=some (get l 2):=rfl
theorem c5A(l:List Value)(H:Heap):iC prog Tryz.f198 l H=some (.tuple #[]):=rfl
theorem c4N(l:List Value)(H:Heap):iC prog Tryz.f200 l H=some (get l 4):=rfl
theorem c1o(l:List Value)(H:Heap):iC prog Tryz.f201 l H=some (get l 2):=rfl
theorem b7l(l:List Value)(H:Heap):iC prog Tryz.f202 l H=some (get l 2):=rfl
theorem a1J(l:List Value)(H:Heap):iC prog Tryz.f203 l H=some (get l 4):=rfl
theorem c1r(l:List Value)(H:Heap):iC prog Tryz.f204 l H=some (get l 4):=rfl
theorem c1H(l:List Value)(H:Heap):iC prog Tryz.f207 l H=some (get l 4):=rfl
theorem c0S(l:List Value)(H:Heap):iC prog Tryz.f208 l H=some (get l 3):=rfl
theorem c5J(l:List Value)(H:Heap):iC prog Tryz.f209 l H=some (get l 4):=rfl
theorem c4M(l:List Value)(H:Heap):iC prog Tryz.f210 l H=some (get l 4):=rfl
theorem c1v(l:List Value)(H:Heap):iC prog Tryz.f211 l H=some (get l 2):=rfl
theorem c1w(l:List Value)(H:Heap):iC prog Tryz.f230 l H=some (get l 4):=rfl
theorem c6a(l:List Value)(H:Heap):iC prog Tryz.f231 l H=some (get l 4):=rfl
theorem c1i(l:List Value)(H:Heap):iC prog Tryz.f245 l H=some (get l 4):=rfl
theorem a8N:MapK prog 196 Value.string (.bool false):=MapK.str (kt:=9) (et:=4) (by kernel_rfl) (by kernel_rfl) (by kernel_rfl) rfl
theorem a8i:MapK prog 205 (fun p:Int×Int=>.agg #[I p.1,I p.2]) (.bool false):=MapK.struct (kt:=53) (et:=4) (fs:=(tW prog 53).toArray) (by kernel_rfl) (by kernel_rfl) (by kernel_rfl) rfl (fun b k=>by cases b<;>kernel_rfl) (fun a b=>c3k (by kernel_rfl) (by kernel_rfl) (by kernel_rfl) (fun _ _ _ _=>by kernel_rfl) a b) (fun k=>c3r k)
theorem tt0:jO prog 3=some false∧jO prog 4=some false∧iE prog 4=some 1∧jO prog 5=some false∧iE prog 5=some 1∧jO prog 9=some false∧iE prog 9=some 1∧jO prog 22=some false∧iE prog 22=some 1∧jO prog 23=some false∧iE prog 23=some 1∧jO prog 24=some false∧iE prog 24=some 1∧jO prog 26=some true∧jO prog 27=some true∧jO prog 28=some false∧iE prog 28=some 1∧jO prog 29=some true∧jO prog 32=some false∧jO prog 33=some false∧jO prog 34=some false∧jO prog 36=some true∧jO prog 38=some false∧jO prog 39=some false∧jO prog 41=some true∧jO prog 50=some false∧jO prog 53=some true∧jO prog 56=some true∧jO prog 60=some true∧jO prog 73=some true∧jO prog 74=some false∧jO prog 76=some true∧jO prog 79=some true∧jO prog 90=some true∧jO prog 91=some false∧jO prog 93=some true∧jO prog 105=some false∧iE prog 105=some 1∧jO prog 107=some true∧jO prog 109=some false:=by and_intros<;>kernel_rfl
theorem tt1:iE prog 109=some 1∧jO prog 111=some true∧jO prog 113=some false∧jO prog 115=some true∧jO prog 118=some true∧jO prog 120=some true∧jO prog 122=some true∧jO prog 155=some true∧jO prog 156=some false∧iE prog 156=some 1∧jO prog 158=some true∧jO prog 205=some false∧jO prog 244=some true∧iT prog 22=some 9∧iT prog 23=some 4∧iT prog 24=some 4∧iT prog 32=some 6∧iT prog 33=some 5∧iT prog 34=some 5∧iT prog 38=some 1∧iT prog 44=some 2∧iT prog 50=some 2∧iT prog 57=some 2∧iT prog 68=some 3∧iT prog 91=some 4∧iT prog 105=some 4∧iT prog 112=some 1∧iT prog 113=some 3∧iT prog 138=some 3∧iT prog 156=some 2∧iT prog 163=some 1∧iT prog 194=some 2∧iT prog 199=some 2∧lH prog 32=true∧lH prog 33=true∧lH prog 34=true∧lH prog 38=true∧lH prog 44=true∧lH prog 50=true∧lH prog 57=true:=by and_intros<;>kernel_rfl
theorem tt2:lH prog 68=true∧lH prog 74=true∧lH prog 91=true∧lH prog 112=true∧lH prog 113=true∧lH prog 138=true∧lH prog 156=true∧lH prog 163=true∧lH prog 194=true∧lH prog 199=true∧iT prog 9=none∧oC prog 9=true∧iV prog 26 0=some 0∧iV prog 26 1=some 1∧iV prog 26 2=some 2∧iV prog 36 0=some 0∧iV prog 36 1=some 1∧iV prog 36 2=some 2∧iV prog 36 3=some 3∧iV prog 41 0=some 0∧iV prog 41 1=some 1∧iV prog 41 2=some 2∧iV prog 53 0=some 0∧iV prog 53 1=some 1∧iV prog 56 0=some 0∧iV prog 56 1=some 1∧iV prog 60 0=some 0∧iV prog 60 1=some 1∧iV prog 73 0=some 0∧iV prog 73 1=some 1∧iV prog 76 0=some 0∧iV prog 76 1=some 1∧iV prog 76 2=some 2∧iV prog 76 3=some 4∧iV prog 76 4=some 5∧iV prog 79 1=some 2∧iV prog 90 0=some 0∧iV prog 90 1=some 1∧iV prog 93 0=some 0∧iV prog 93 2=some 2:=by and_intros<;>kernel_rfl
theorem tt3:iV prog 93 3=some 4∧iV prog 107 0=some 0∧iV prog 107 1=some 1∧iV prog 107 2=some 2∧iV prog 107 3=some 3∧iV prog 111 0=some 0∧iV prog 111 1=some 1∧iV prog 111 2=some 2∧iV prog 111 3=some 3∧iV prog 111 4=some 4∧iV prog 115 0=some 0∧iV prog 115 1=some 1∧iV prog 115 2=some 3∧iV prog 118 0=some 0∧iV prog 118 1=some 1∧iV prog 118 2=some 2∧iV prog 118 3=some 3∧iV prog 120 0=some 0∧iV prog 120 1=some 1∧iV prog 120 2=some 2∧iV prog 120 3=some 3∧iV prog 122 0=some 0∧iV prog 122 1=some 1∧iV prog 122 2=some 2∧iV prog 122 3=some 3∧iV prog 122 4=some 4∧iV prog 155 0=some 0∧iV prog 155 1=some 1∧iV prog 158 0=some 0∧iV prog 158 1=some 1∧iV prog 158 2=some 2∧iV prog 244 0=some 0∧iV prog 244 1=some 1∧jB prog 36=some (.agg #[.string ⟨#[]⟩,.slice none 0 0,.slice none 0 0,.slice none 0 0])∧jN prog 36=none∧jB prog 41=some (.agg #[.slice none 0 0,.int .u64 0,.int .u64 0])∧jN prog 41=none∧jB prog 50=some (.slice none 0 0)∧jN prog 50=none∧jB prog 53=some (.agg #[.int .i64 0,.int .i64 0]):=by and_intros<;>kernel_rfl
theorem tt4:jN prog 53=none∧jB prog 56=some (.agg #[.int .u64 0,.int .u64 0])∧jN prog 56=none∧jB prog 60=some (.agg #[.int .i64 0,.int .i64 0])∧jN prog 60=none∧jB prog 73=some (.agg #[.int .i64 0,.int .i64 0])∧jN prog 73=none∧jB prog 76=some (.agg #[.string ⟨#[]⟩,.string ⟨#[]⟩,.int .i64 0,.int .i64 0,.int .i64 0,.slice none 0 0])∧jN prog 76=none∧jB prog 90=some (.agg #[.int .i64 0,.int .i64 0])∧jN prog 90=none∧jB prog 93=some (.agg #[.string ⟨#[]⟩,.bool false,.int .i64 0,.int .i64 0,.slice none 0 0])∧jN prog 93=none∧jB prog 107=some (.agg #[.int .u8 0,.int .u8 0,.bool false,.slice none 0 0])∧jN prog 107=none∧jB prog 115=some (.agg #[.string ⟨#[]⟩,.int .i64 0,.int .i64 0,.slice none 0 0])∧jN prog 115=none∧jB prog 120=some (.agg #[.int .u8 0,.int .u8 0,.int .i8 0,.bool false])∧jN prog 120=none∧jB prog 122=some (.agg #[.string ⟨#[]⟩,.int .i64 0,.int .i64 0,.int .i64 0,.bool false])∧jN prog 122=none∧jB prog 155=some (.agg #[.int .i64 0,.int .i64 0])∧jN prog 155=none∧jB prog 158=some (.agg #[.int .i64 0,.int .i64 0,.slice none 0 0])∧jN prog 158=none∧jB prog 205=some (.map none)∧jN prog 205=none∧a1j prog 3=some .i64∧a1j prog 5=some .u8∧a1j prog 39=some .u64∧a1j prog 109=some .i8∧a1j prog 123=some .u64:=by and_intros<;>kernel_rfl
def TS:=(And.intro (And.intro (And.intro (And.intro (And.intro @tt0 (And.intro @tt1 @tt2)) (And.intro @tt3 (And.intro @tt4 @tS3))) (And.intro (And.intro @b8U (And.intro @c3t @c1V)) (And.intro @c6K (And.intro @c4Z @c0g)))) (And.intro (And.intro (And.intro @mX (And.intro @c5x @c0l)) (And.intro @qV (And.intro @a9q @nU))) (And.intro (And.intro @nV (And.intro @rQ @uI)) (And.intro (And.intro @c0K @tX) (And.intro @zX @a1h))))) (And.intro (And.intro (And.intro (And.intro @c5X (And.intro @a1g @b1r)) (And.intro @b5E (And.intro @wB @oA))) (And.intro (And.intro @b5B (And.intro @b1T @tV)) (And.intro @wG (And.intro @zP @b4X)))) (And.intro (And.intro (And.intro @b1N (And.intro @c3m @c7K)) (And.intro @c7O (And.intro @c4n @c5n))) (And.intro (And.intro @c6s (And.intro @c6I @c5T)) (And.intro (And.intro @c6P @c4f) (And.intro @c2Z @c3j))))))
def RZ:=And.intro @RB (And.intro @RC @TS)
end Go.Ds
namespace Go.Ds
open Go.Proofs
variable {P:Program} {H:Heap}
structure Drw where
 rank:Int
 shift:Int
 deriving DecidableEq,Inhabited
structure Seg where
 lo:Int
 hi:Int
 dv:Value
 draws:List Drw
 deriving Inhabited
structure Stp where
 name:ByteArray
 num:Int
 den:Int
 gv:Value
 segs:List Seg
 deriving Inhabited
structure Dvn where
 name:ByteArray
 pedal:Bool
 lo:Int
 hi:Int
 sv:Value
 stops:List Stp
 deriving Inhabited
structure Rk where
 name:ByteArray
 tone:ByteArray
 num:Int
 den:Int
 first:Int
 wv:Value
 wind:List Int
 deriving Inhabited
structure Cpl where
 name:ByteArray
 src:Int
 dst:Int
 shift:Int
 thr:Bool
 deriving Inhabited
structure Org where
 name:ByteArray
 rv:Value
 ranks:List Rk
 dv:Value
 dvs:List Dvn
 cv:Value
 cpls:List Cpl
 deriving Inhabited
def Drw.cells(d:Drw):List Value:=[I d.rank,I d.shift]
def Seg.cells(s:Seg):List Value:=[I s.lo,I s.hi,s.dv]
def Stp.cells(s:Stp):List Value:=[.string s.name,I s.num,I s.den,s.gv]
def Dvn.cells(d:Dvn):List Value:=[.string d.name,.bool d.pedal,I d.lo,I d.hi,d.sv]
def Rk.cells(r:Rk):List Value:=[.string r.name,.string r.tone,I r.num,I r.den,I r.first,r.wv]
def Cpl.cells(c:Cpl):List Value:=[.string c.name,I c.src,I c.dst,I c.shift,.bool c.thr]
def Org.cells(o:Org):List Value:=[.string o.name,o.rv,o.dv,o.cv]
def Seg.In(H:Heap)(s:Seg):Prop:=Sl 2 Drw.cells H s.dv s.draws∧s.draws.length<1000000000
def Stp.In(H:Heap)(s:Stp):Prop:=Sl 3 Seg.cells H s.gv s.segs∧(∀g∈s.segs,g.In H)∧s.segs.length<1000000000
def Dvn.In(H:Heap)(d:Dvn):Prop:=Sl 4 Stp.cells H d.sv d.stops∧(∀s∈d.stops,s.In H)∧d.stops.length<1000000000
def Rk.In(H:Heap)(r:Rk):Prop:=Sl 1 (one I) H r.wv r.wind∧r.wind.length<1000000000
def Org.In(H:Heap)(o:Org):Prop:=Sl 6 Rk.cells H o.rv o.ranks∧(∀r∈o.ranks,r.In H)∧Sl 5 Dvn.cells H o.dv o.dvs∧(∀d∈o.dvs,d.In H)∧Sl 5 Cpl.cells H o.cv o.cpls∧o.ranks.length<1000000000∧o.dvs.length<1000000000∧o.cpls.length<1000000000
section
variable {H0:Heap} {os:List Ob}
theorem Seg.In.ak{s:Seg}(h:s.In H0)(hS:St P H0 H os):s.In H:=⟨hS.sl h.1,h.2⟩
theorem Stp.In.ak{s:Stp}(h:s.In H0)(hS:St P H0 H os):s.In H:=⟨hS.sl h.1,fun g hg=>(h.2.1 g hg).ak hS,h.2.2⟩
theorem Dvn.In.ak{d:Dvn}(h:d.In H0)(hS:St P H0 H os):d.In H:=⟨hS.sl h.1,fun g hg=>(h.2.1 g hg).ak hS,h.2.2⟩
theorem Rk.In.ak{r:Rk}(h:r.In H0)(hS:St P H0 H os):r.In H:=⟨hS.sl h.1,h.2⟩
theorem Org.In.ak{o:Org}(h:o.In H0)(hS:St P H0 H os):o.In H:=⟨hS.sl h.1,fun r hr=>(h.2.1 r hr).ak hS,hS.sl h.2.2.1,fun d hd=>(h.2.2.2.1 d hd).ak hS,hS.sl h.2.2.2.2.1,h.2.2.2.2.2⟩
end
def c4O(n:Int):Prop:=-9223372036854775808≤n∧n<9223372036854775808
end Go.Ds
namespace Go.Ds
open Go.Proofs Go.Proofs.Tryz
variable {H:Heap}
def pZ(b:Int):Bool:=(decide (65≤b)&&decide (b≤90))||(decide (97≤b)&&decide (b≤122))
theorem a4P(b:Int):Fn prog 154 [.int .u8 b] H fun r H'=>r=.bool (pZ b)∧St prog H H' []:=by
 refine .aT func154 rfl (by kernel_rfl) (m:=17) rfl fun l hn g0=> ?_
 simp(disch:=omega) only[↓RA,RZ,simprocAttr,hn,g0]
 refine jC (fun h1=> ?_) (fun h1=> ?_)
 ·simp(disch:=omega) only[↓RA,RZ,simprocAttr,hn,g0,h1]
  refine iN (fun h2=> ?_) (fun h2=> ?_)
  ·simp(disch:=omega) only[↓RA,RZ,simprocAttr,hn,a7f,h1,h2]
   first|exact(sR H)|exact⟨by simp[pZ,h1,h2],(sR H)⟩
  simp(disch:=omega) only[↓RA,RZ,simprocAttr,hn,g0,h1,h2]
  refine jC (fun h3=> ?_) (fun h3=> ?_)
  ·simp(disch:=omega) only[↓RA,RZ,simprocAttr,hn,g0,a7f,h1,h2,h3]
   first|exact(sR H)|exact⟨by simp[pZ,h1,h2,h3],(sR H)⟩
  simp(disch:=omega) only[↓RA,RZ,simprocAttr,hn,a7f,h1,h2,h3]
  first|exact(sR H)|exact⟨by simp[pZ,h1,h2,h3],(sR H)⟩
 simp(disch:=omega) only[↓RA,RZ,simprocAttr,hn,g0,h1]
 refine jC (fun h4=> ?_) (fun h4=> ?_)
 ·simp(disch:=omega) only[↓RA,RZ,simprocAttr,hn,g0,a7f,h1,h4]
  first|exact(sR H)|exact⟨by simp[pZ,h1,h4],(sR H)⟩
 simp(disch:=omega) only[↓RA,RZ,simprocAttr,hn,a7f,h1,h4]
 first|exact(sR H)|exact⟨by simp[pZ,h1,h4],(sR H)⟩
theorem b5z(b:Int):Fn prog 155 [I b] H fun r H'=>r=.bool (decide (-256≤b)&&decide (b≤256))∧St prog H H' []:=by
 refine .aT func155 rfl (by kernel_rfl) (m:=9) rfl fun l hn g0=> ?_
 simp(disch:=omega) only[↓RA,RZ,simprocAttr,hn,g0]
 refine jC (fun h1=> ?_) (fun h1=> ?_)
 ·simp(disch:=omega) only[↓RA,RZ,simprocAttr,hn,g0,c1u,h1]
  first|exact(sR H)|exact⟨by simp[h1],(sR H)⟩
 simp(disch:=omega) only[↓RA,RZ,simprocAttr,hn,c1u,h1]
 first|exact(sR H)|exact⟨by simp[],(sR H)⟩
theorem b6h(b:Int):Fn prog 201 [I b] H fun r H'=>r=.bool (decide (b<0)||decide (1000000<b))∧St prog H H' []:=by
 refine .aT func201 rfl (by kernel_rfl) (m:=9) rfl fun l hn g0=> ?_
 simp(disch:=omega) only[↓RA,RZ,simprocAttr,hn,g0]
 refine iN (fun h1=> ?_) (fun h1=> ?_)
 ·simp(disch:=omega) only[↓RA,RZ,simprocAttr,hn,c1o,h1]
  first|exact(sR H)|exact⟨by simp[],(sR H)⟩
 simp(disch:=omega) only[↓RA,RZ,simprocAttr,hn,g0,c1o,h1]
 first|exact(sR H)|exact⟨by simp[],(sR H)⟩
theorem a5e(n:Int)(h: -9223372036854775808≤n)(h0:n<0):IntKind.wrap .u64 (0-IntKind.wrap .u64 n)=n.natAbs:=by
 have e:∀m:Int,IntKind.wrap .u64 m=m%18446744073709551616:=fun m=>by
  show(if(false&&decide (m%18446744073709551616≥9223372036854775808))=true then m%18446744073709551616-18446744073709551616 else m%18446744073709551616)=_
  simp
 rw[e,e]
 omega
theorem a4T(n:Int)(hn0:c4O n):Fn prog 211 [I n] H fun r H'=>r=.int .u64 n.natAbs∧St prog H H' []:=by
 refine .aT func211 rfl (by kernel_rfl) (m:=10) rfl fun l hn g0=> ?_
 simp(disch:=omega) only[↓RA,RB,simprocAttr,hn,g0]
 refine iA (fun h=> ?_) (fun h=> ?_)
 ·simp(disch:=omega) only[↓RA,RZ,simprocAttr,hn,g0,c1v,h]
  exact⟨by rw[a5e n hn0.1 h],(sR H)⟩
 simp(disch:=omega) only[↓RA,RZ,simprocAttr,hn,g0,c1v,h]
 refine⟨?_,(sR H)⟩
 have:=hn0.2
 rw[oD n (by omega) (by omega)]
 congr 1
 omega
theorem c2v(a b:Nat)(ha:a<18446744073709551616)(hb:b<18446744073709551616):Fn prog 210 [.int .u64 a,.int .u64 b] H fun r H'=>r=.int .u64 (Nat.gcd a b)∧St prog H H' []:=by
 refine .aF func210 rfl (by kernel_rfl) (m:=12) rfl fun l hn g0 g1=> ?_
 simp(disch:=omega) only[↓RA,RB,simprocAttr]
 refine Wp.aj (fun n l H'=>l.length=12∧get l 4=(.int .u64 0)∧∃(x y:Nat),(n=y∧x<18446744073709551616∧y<18446744073709551616∧Nat.gcd a b=Nat.gcd x y)∧get l 0=(.int .u64 x)∧get l 1=(.int .u64 y)∧St prog H H' []) b ?_ ?_
 ·simp(disch:=omega) only[RB,RC,simprocAttr,hn,g0,g1]
  exact⟨a,b,⟨rfl,ha,hb,rfl⟩,rfl,rfl,(sR H)⟩
 rintro n l H1⟨hn,g4,x,y,⟨hy,hx1,hy1,hg⟩,g0,g1,hS1⟩
 simp(disch:=omega) only[↓RA,RB,simprocAttr,hn,g1]
 refine iA (fun h=> ?_) (fun h=> ?_)
 ·simp(disch:=omega) only[↓RA,RC,simprocAttr,h]
  refine Wp.drw jW (by kernel_rfl) ?_
  simp(disch:=omega) only[↓RA,RZ,simprocAttr,hn,g4,g0,g1]
  refine⟨x%y,?_,y,x%y,⟨rfl,hy1,?_,?_⟩,rfl,?_,hS1⟩
  ·rw[hy];exact eM _ (by omega)
  ·exact dF (eM _ (by omega)) (by omega)
  ·rw[hg,Nat.gcd_comm x y,Nat.gcd_rec]
   exact Nat.gcd_comm _ _
  ·rw[eh]
 simp(disch:=omega) only[↓RA,RZ,simprocAttr,hn,g0,c4M,h]
 have h0:y=0:=by omega
 subst h0
 exact⟨by rw[hg,Nat.gcd_zero_right],hS1⟩
theorem b9h(a b:Int)(ha0:0≤a)(ha:a<18446744073709551616)(hb0:0≤b)(hb:b<18446744073709551616):Fn prog 210 [.int .u64 a,.int .u64 b] H fun r H'=>r=.int .u64 (Nat.gcd a.toNat b.toNat)∧St prog H H' []:=by
 have:=c2v (H:=H) a.toNat b.toNat (by omega) (by omega)
 rwa [fJ ha0,fJ hb0]at this
def wK(num den:Int):Int:=if 0<den∧den≤1000000∧-1000000≤num∧num≤1000000∧Nat.gcd num.natAbs den.toNat=1 then 0 else 2
theorem b8w(num den:Int):Fn prog 168 [.agg #[I num,I den]] H fun r H'=>r=I (wK num den)∧St prog H H' []:=by
 refine .aT func168 rfl (by kernel_rfl) (m:=31) rfl fun l hn g0=> ?_
 simp(disch:=omega) only[↓RA,RB,simprocAttr,g0]
 refine(sR H).eNew 2 [I num,I den] rfl rfl rfl uI fun A1 H1 hS1=> ?_
 simp only[RT]at hS1
 simp(disch:=omega) only[↓RA,RB,simprocAttr]
 refine Wp.aQ jW [(23,0),(24,0)] (by kernel_rfl) (by kernel_rfl) ?_
 simp(disch:=omega) only[↓RA,RZ,simprocAttr,hn,hS1.ld 0 rfl]
 refine iN (fun h1=> ?_) (fun h1=> ?_)
 ·simp(disch:=omega) only[↓RA,RZ,simprocAttr,hn,a3U,h1]
  refine⟨?_,hS1.forget⟩;unfold wK;(repeat' split);all_goals first|rfl|omega
 simp(disch:=omega) only[↓RA,RZ,simprocAttr,hn,hS1.ld 0 rfl,h1]
 refine iN (fun h2=> ?_) (fun h2=> ?_)
 ·simp(disch:=omega) only[↓RA,RZ,simprocAttr,hn,a3U,h1,h2]
  refine⟨?_,hS1.forget⟩;unfold wK;(repeat' split);all_goals first|rfl|omega
 simp(disch:=omega) only[↓RA,RZ,simprocAttr,hn,hS1.ld 0 rfl,h1,h2]
 refine iN (fun h3=> ?_) (fun h3=> ?_)
 ·simp(disch:=omega) only[↓RA,RZ,simprocAttr,hn,a3U,h1,h2,h3]
  refine⟨?_,hS1.forget⟩;unfold wK;(repeat' split);all_goals first|rfl|omega
 simp(disch:=omega) only[↓RA,RZ,simprocAttr,hn,hS1.ld 0 rfl,h1,h2,h3]
 refine iN (fun h4=> ?_) (fun h4=> ?_)
 ·simp(disch:=omega) only[↓RA,RZ,simprocAttr,hn,a3U,h1,h2,h3,h4]
  refine⟨?_,hS1.forget⟩;unfold wK;(repeat' split);all_goals first|rfl|omega
 simp(disch:=omega) only[↓RA,RZ,simprocAttr,hn,hS1.ld 0 rfl,h1,h2,h3,h4]
 refine hS1.cF (a4T num ⟨by omega,by omega⟩) fun H2 hS2=> ?_
 simp(disch:=omega) only[↓RA,RZ,simprocAttr,hn,hS2.ld 0 rfl,h1,h2,h3,h4]
 refine hS2.cF (b9h _ _ (by omega) (by omega) (by omega) (by omega)) fun H3 hS3=> ?_
 simp(disch:=omega) only[↓RA,RZ,simprocAttr,hn,hS1.ld 0 rfl,h1,h2,h3,h4]
 refine iA (fun h5=> ?_) (fun h5=> ?_)
 ·simp(disch:=omega) only[↓RA,RZ,simprocAttr,hn,a3U,h1,h2,h3,h4,h5]
  refine⟨?_,hS3.forget⟩;unfold wK;(repeat' split);all_goals first|rfl|omega
 simp(disch:=omega) only[↓RA,RZ,simprocAttr,hn,a3U,h1,h2,h3,h4,h5]
 refine⟨?_,hS3.forget⟩;unfold wK;(repeat' split);all_goals first|rfl|omega
def mR(num den:Int):Int:=if wK num den≠0 then 2 else if num≤0∨128*den<num then 3 else if 128<den then 4 else 0
theorem b5j{num den:Int}(h:wK num den=0):0<den∧den≤1000000∧-1000000≤num∧num≤1000000∧Nat.gcd num.natAbs den.toNat=1:=by
 unfold wK at h
 split at h
 ·assumption
 ·cases h
theorem a1q(num den:Int):Fn prog 123 [.agg #[I num,I den]] H fun r H'=>r=I (mR num den)∧St prog H H' []:=by
 refine .aT func123 rfl (by kernel_rfl) (m:=23) rfl fun l hn g0=> ?_
 simp(disch:=omega) only[↓RA,RB,simprocAttr,g0]
 refine(sR H).eNew 2 [I num,I den] rfl rfl rfl uI fun A1 H1 hS1=> ?_
 simp only[RT]at hS1
 simp(disch:=omega) only[↓RA,RZ,simprocAttr,hn,hS1.ai 0 rfl]
 refine hS1.cF (b8w num den) fun H2 hS2=> ?_
 simp(disch:=omega) only[↓RA,RB,simprocAttr,hn]
 refine iA (fun h=> ?_) (fun h=> ?_)
 ·simp(disch:=omega) only[↓RA,RZ,simprocAttr,hn,a8C,h]
  exact⟨by rw[mR,if_pos h],hS2.forget⟩
 have hf:=b5j (dx.1 h)
 simp(disch:=omega) only[↓RA,RZ,simprocAttr,hn,hS2.ld 0 rfl,h]
 refine iN (fun h1=> ?_) (fun h1=> ?_)
 ·simp(disch:=omega) only[↓RA,RZ,simprocAttr,hn,a8C,h,h1]
  refine⟨?_,hS2.forget⟩;unfold mR;(repeat' split);all_goals first|rfl|omega
 simp(disch:=omega) only[↓RA,RZ,simprocAttr,hn,hS2.ld 0 rfl,h,h1]
 refine iA (fun h2=> ?_) (fun h2=> ?_)
 ·simp(disch:=omega) only[↓RA,RZ,simprocAttr,hn,a8C,h,h1,h2]
  refine⟨?_,hS2.forget⟩;unfold mR;(repeat' split);all_goals first|rfl|omega
 simp(disch:=omega) only[↓RA,RZ,simprocAttr,hn,hS2.ld 0 rfl,h,h1,h2]
 refine iA (fun h3=> ?_) (fun h3=> ?_)
 ·simp(disch:=omega) only[↓RA,RZ,simprocAttr,hn,a8C,h,h1,h2,h3]
  refine⟨?_,hS2.forget⟩;unfold mR;(repeat' split);all_goals first|rfl|omega
 simp(disch:=omega) only[↓RA,RZ,simprocAttr,hn,a8C,h,h1,h2,h3]
 refine⟨?_,hS2.forget⟩;unfold mR;(repeat' split);all_goals first|rfl|omega
def pD(p:Nat→Bool)(n:Nat):Int:=match (List.range n).find? p with|some j=>j|none=>-1
theorem wD(p:Nat→Bool)(n i:Nat)(hi:i<n)(hp:p i=true)(h0:∀j,j<i→p j=false):(List.range n).find? p=some i:=by
 rw[List.find?_eq_some_iff_getElem]
 refine⟨hp,i,by simpa using hi,by simp,fun j hj=>by simp[h0 j hj]⟩
theorem zD(p:Nat→Bool)(n i:Nat)(hi:i<n)(hp:p i=true)(h0:∀j,j<i→p j=false):pD p n=i:=by
 unfold pD
 rw[wD p n i hi hp h0]
theorem yL(p:Nat→Bool)(n:Nat)(h0:∀j,j<n→p j=false):pD p n=-1:=by
 unfold pD
 have:(List.range n).find? p=none:=by
  rw[gj]
  intro j hj
  simp[h0 j (dq.1 hj)]
 rw[this]
theorem zA(p:Nat→Bool)(n:Nat):(0≤pD p n)↔∃j,j<n∧p j=true:=by
 unfold pD
 cases h:(List.range n).find? p with
 | none=>
   rw[gj]at h
   simp only[dq]at h
   constructor
   ·intro hh;exact absurd hh (by decide)
   ·rintro⟨j,hj,hp⟩;exact absurd hp (h j hj)
 | some j=>
   constructor
   ·intro _
    exact⟨j,dq.1 (gE h),List.find?_some h⟩
   ·intro _;show(0:Int)≤(j:Int);omega
theorem b9v(v:Value)(xs:List Int)(hv:Sl 1 (one I) H v xs)(hl:xs.length<1000000000)(k:FuncId)(caps:List Value)(p:Nat→Bool)
 (hf:∀j H1,j<xs.length→St prog H H1 []→Fn prog k (I (iB xs j)::caps) H1 fun r H2=>r=.bool (p j)∧St prog H1 H2 []):
 Fn prog 230 [v,.func (.func k) #[] caps.toArray] H fun r H'=>r=I (pD p xs.length)∧St prog H H' []:=by
 refine .aF func230 rfl (by kernel_rfl) (m:=19) rfl fun l hn g0 g1=> ?_
 simp(disch:=omega) only[↓RA,RZ,simprocAttr,hn,g0,((sR H).sl hv).len]
 refine Wp.aj (fun n l H'=>l.length=19∧get l 0=v∧get l 1=.func (.func k) #[] caps.toArray∧get l 7=I xs.length∧∃(j:Nat),(n+j=xs.length∧∀q,q<j→p q=false)∧get l 8=I j∧St prog H H' []) xs.length ?_ ?_
 ·simp(disch:=omega) only[RB,RC,simprocAttr,hn,g0,g1]
  exact⟨0,⟨by omega,fun q hq=>absurd hq (dL _)⟩,rfl,(sR H)⟩
 rintro n l H1⟨hn,g0,g1,g7,j,⟨hi,h0⟩,g8,hS1⟩
 simp(disch:=omega) only[↓RA,RB,simprocAttr,hn,g7,g8]
 refine iA (fun h=> ?_) (fun h=> ?_)
 ·simp(disch:=omega) only[↓RA,RZ,simprocAttr,hn,g0,g1,g8,(hS1.sl hv).idx,(hS1.sl hv).ld,one,h]
  refine hS1.cF (hf j _ (by omega) hS1) fun H2 hS2=> ?_
  simp(disch:=omega) only[↓RA,RZ,simprocAttr,hn,h]
  refine jJ (fun hp=> ?_) (fun hp=> ?_)
  ·simp(disch:=omega) only[↓RA,RZ,simprocAttr,hn,c1w,h,hp]
   exact⟨by rw[zD p xs.length j (by omega) hp h0],hS2⟩
  simp(disch:=omega) only[↓RA,RZ,simprocAttr,hn,g0,g1,g7,g8,h,hp]
  exact⟨n-1,by omega,j+1,⟨by omega,fun q hq=>by rcases dm.1 hq with e|e;(· exact h0 q e);(· rw[e];exact hp)⟩,by simp,hS2⟩
 simp(disch:=omega) only[↓RA,RZ,simprocAttr,hn,c1w,h]
 exact⟨by rw[yL p xs.length fun q hq=>h0 q (by omega)],hS1⟩
theorem b9T(v:Value)(xs:List Int)(hv:Sl 1 (one I) H v xs)(hl:xs.length<1000000000)(k:FuncId)(caps:List Value)(p:Nat→Bool)
 (hf:∀j H1,j<xs.length→St prog H H1 []→Fn prog k (I (iB xs j)::caps) H1 fun r H2=>r=.bool (p j)∧St prog H1 H2 []):
 Fn prog 200 [v,.func (.func k) #[] caps.toArray] H fun r H'=>r=.bool (decide (0≤pD p xs.length))∧St prog H H' []:=by
 refine .aF func200 rfl (by kernel_rfl) (m:=9) rfl fun l hn g0 g1=> ?_
 simp(disch:=omega) only[↓RA,RZ,simprocAttr,hn,g0,g1]
 refine(sR H).cF (b9v v xs hv hl k caps p hf) fun H1 hS1=> ?_
 simp(disch:=omega) only[↓RA,RZ,simprocAttr,hn,c4N]
 first|exact hS1|exact⟨rfl,hS1⟩
def a0D(xs:List Int):Int:=if xs.any fun w=>decide (w<0)||decide (1000000<w)then 3 else 0
theorem b8h(v:Value)(xs:List Int)(hv:Sl 1 (one I) H v xs)(hl:xs.length<1000000000):Fn prog 156 [v] H fun r H'=>r=I (a0D xs)∧St prog H H' []:=by
 have key:(0≤pD (fun j=>decide (iB xs j<0)||decide (1000000<iB xs j)) xs.length)↔(xs.any fun w=>decide (w<0)||decide (1000000<w))=true:=by
  rw[zA,gy]
  constructor
  ·rintro⟨j,hj,hp⟩;exact⟨_,iD hj,hp⟩
  ·rintro⟨x,hx,hp⟩
   obtain⟨j,hj,rfl⟩:=dO.1 hx
   exact⟨j,hj,by rw[kC xs j hj];exact hp⟩
 refine .aT func156 rfl (by kernel_rfl) (m:=5) rfl fun l hn g0=> ?_
 simp(disch:=omega) only[↓RA,RZ,simprocAttr,hn,g0]
 refine(sR H).cF (b9T v xs hv hl 201 [] _ (fun j H1 hj hS=>b6h (iB xs j))) fun H1 hS1=> ?_
 simp(disch:=omega) only[↓RA,RB,simprocAttr,hn]
 refine iA (fun h=> ?_) (fun h=> ?_)
 ·simp(disch:=omega) only[↓RA,RZ,simprocAttr,hn,c1z,h]
  exact⟨by rw[a0D,if_pos (key.1 h)],hS1⟩
 simp(disch:=omega) only[↓RA,RZ,simprocAttr,hn,c1z,h]
 exact⟨by rw[a0D,if_neg (fun hh=>h (key.2 hh))],hS1⟩
def ncF(b:Int):Bool:=pZ b||(decide (48≤b)&&decide (b≤57))||decide (b=95)
def kV(s:ByteArray):Bool:=decide (0<s.size)&&decide (s.size≤32)&&pZ (oL s 0)&&(List.range (s.size-1)).all fun j=>ncF (oL s (j+1))
theorem c6r(s z:ByteArray)(hz:z.size=0):s=z↔s.size=0:=⟨fun h=>by rw[h,hz],fun h=>by
 apply a0Y
 have h1:s.data.toList=[]:=fb (by simpa using h)
 have h2:z.data.toList=[]:=fb (by simpa using hz)
 rw[h1,h2]⟩
theorem qF(s:ByteArray):Fn prog 107 [.string s] H fun r H'=>r=.bool (kV s)∧St prog H H' []:=by
 have hz:=c6r s {data:=#[]} rfl
 refine .aT func107 rfl (by kernel_rfl) (m:=42) rfl fun l hn g0=> ?_
 simp(disch:=omega) only[↓RA,RZ,simprocAttr,hn,g0,hz]
 refine iN (fun h1=> ?_) (fun h1=> ?_)
 ·simp(disch:=omega) only[↓RA,RZ,simprocAttr,hn,a4r,h1]
  first|exact(sR H)|exact⟨by simp[kV,h1],(sR H)⟩
 simp(disch:=omega) only[↓RA,RZ,simprocAttr,hn,g0,h1]
 refine iN (fun h2=> ?_) (fun h2=> ?_)
 ·simp(disch:=omega) only[↓RA,RZ,simprocAttr,hn,a4r,h1,h2]
  first|exact(sR H)|exact⟨by simp[kV,show¬s.size≤32 by omega],(sR H)⟩
 simp(disch:=omega) only[↓RA,RZ,simprocAttr,hn,g0,h1,h2]
 refine(sR H).cF (a4P _) fun H1 hS1=> ?_
 simp(disch:=omega) only[↓RA,RZ,simprocAttr,hn,h1,h2]
 refine jJ (fun h3=> ?_) (fun h3=> ?_)
 ·simp(disch:=omega) only[↓RA,RZ,simprocAttr,hn,a4r,h1,h2,h3]
  first|exact hS1|exact⟨by simp at h3;simp[kV,h3],hS1⟩
 simp(disch:=omega) only[↓RA,RZ,simprocAttr,h1,h2,h3]
 have h4:pZ (oL s 0)=true:=by simpa using h3
 have hA:kV s=(List.range (s.size-1)).all fun j=>ncF (oL s (j+1)):=by simp[kV,h4,show 0<s.size by omega,show s.size≤32 by omega]
 refine Wp.aj (fun n l H'=>l.length=42∧get l 0=(.string s)∧∃(i:Nat),(n+i=s.size∧1≤i∧∀j,1≤j→j<i→ncF (oL s j)=true)∧get l 3=I i∧St prog H H' []) (s.size-1) ?_ ?_
 ·simp(disch:=omega) only[RB,RC,simprocAttr,hn,g0]
  exact⟨1,⟨by omega,by omega,fun j h1 h2=>by omega⟩,rfl,hS1⟩
 rintro n l H2⟨hn,g0,i,⟨hi,hi1,h0⟩,g3,hS2⟩
 simp(disch:=omega) only[↓RA,RZ,simprocAttr,hn,g0,g3]
 refine iA (fun h5=> ?_) (fun h5=> ?_)
 ·simp(disch:=omega) only[↓RA,RZ,simprocAttr,hn,g0,g3,h5]
  refine hS2.cF (a4P _) fun H3 hS3=> ?_
  have hF:ncF (oL s i)=false→kV s=false:=fun hh=>by
   rw[hA,List.all_eq_false]
   exact⟨i-1,dq.2 (by omega),by rw[show i-1+1=i by omega,hh];simp⟩
  have hT:ncF (oL s i)=true→∀j,1≤j→j<i+1→ncF (oL s j)=true:=fun hh j h1 h2=>by
   by_cases e:j=i
   ·rw[e];exact hh
   ·exact h0 j h1 (by omega)
  simp(disch:=omega) only[↓RA,RZ,simprocAttr,hn,h5]
  refine qJ (fun h1=> ?_) (fun h1=> ?_)
  ·simp(disch:=omega) only[↓RA,RZ,simprocAttr,hn,h5,h1]
   refine iN (fun h2=> ?_) (fun h2=> ?_)
   ·simp(disch:=omega) only[↓RA,RZ,simprocAttr,hn,h5,h1,h2]
    refine iA (fun h3=> ?_) (fun h3=> ?_)
    ·simp(disch:=omega) only[↓RA,RZ,simprocAttr,hn,a4r,h5,h1,h2,h3]
     exact⟨by rw[hF (by simp_all [ncF]<;>omega)],hS3⟩
    simp(disch:=omega) only[↓RA,RZ,simprocAttr,hn,g0,g3,h5,h1,h2,h3]
    exact⟨n-1,by omega,i+1,⟨by omega,by omega,hT (by simp_all [ncF]<;>omega)⟩,by simp,hS3⟩
   simp(disch:=omega) only[↓RA,RZ,simprocAttr,hn,h5,h1,h2]
   refine jC (fun h4=> ?_) (fun h4=> ?_)
   ·simp(disch:=omega) only[↓RA,RZ,simprocAttr,hn,h5,h1,h2,h4]
    refine iA (fun h5=> ?_) (fun h5=> ?_)
    ·simp(disch:=omega) only[↓RA,RZ,simprocAttr,hn,a4r,h1,h2,h4,h5]
     exact⟨by rw[hF (by simp_all [ncF]<;>omega)],hS3⟩
    simp(disch:=omega) only[↓RA,RZ,simprocAttr,hn,g0,g3,h1,h2,h4,h5]
    exact⟨n-1,by omega,i+1,⟨by omega,by omega,hT (by simp_all [ncF]<;>omega)⟩,by simp,hS3⟩
   simp(disch:=omega) only[↓RA,RZ,simprocAttr,hn,g0,g3,h5,h1,h2,h4]
   exact⟨n-1,by omega,i+1,⟨by omega,by omega,hT (by simp_all [ncF]<;>omega)⟩,by simp,hS3⟩
  simp(disch:=omega) only[↓RA,RZ,simprocAttr,hn,g0,g3,h5,h1]
  exact⟨n-1,by omega,i+1,⟨by omega,by omega,hT (by simp_all [ncF]<;>omega)⟩,by simp,hS3⟩
 simp(disch:=omega) only[↓RA,RZ,simprocAttr,hn,a4r,h5]
 refine⟨?_,hS2⟩
 rw[hA]
 congr 1
 symm
 rw[dj]
 intro j hj
 exact h0 (j+1) (by omega) (by have:=dq.1 hj;omega)
def rankE(r:Rk):Int:=if kV r.name=false∨kV r.tone=false then 8 else if mR r.num r.den≠0 then mR r.num r.den else if¬(-256≤r.first∧r.first≤256)then 3 else if r.wind.length=0 then 13 else if 128<r.wind.length then 4 else a0D r.wind
theorem b1S(r:Rk)(hr:r.In H):Fn prog 108 [.agg #[.string r.name,.string r.tone,I r.num,I r.den,I r.first,r.wv]] H fun v H'=>v=I (rankE r)∧St prog H H' []:=by
 have hl:=hr.2
 refine .aT func108 rfl (by kernel_rfl) (m:=38) rfl fun l hn g0=> ?_
 simp(disch:=omega) only[↓RA,RB,simprocAttr,g0]
 refine(sR H).eNew 6 [(.string r.name),(.string r.tone),I r.num,I r.den,I r.first,r.wv] rfl rfl (by simp[OC,((sR H).sl hr.1).cells.2.1]) tX fun A1 H1 hS1=> ?_
 simp only[RT]at hS1
 simp(disch:=omega) only[↓RA,RZ,simprocAttr,hn,hS1.ld 0 rfl]
 refine hS1.cF (qF _) fun H2 hS2=> ?_
 simp(disch:=omega) only[↓RA,RZ,simprocAttr,hn]
 refine qJ (fun h1=> ?_) (fun h1=> ?_)
 ·simp(disch:=omega) only[↓RA,RZ,simprocAttr,hn,a1Y,h1]
  refine⟨?_,hS2.forget⟩;clear hS1;unfold rankE;(try simp only[dw]at*);(repeat' split);all_goals first|rfl|omega|simp_all
 simp(disch:=omega) only[↓RA,RZ,simprocAttr,hn,hS2.ld 0 rfl,h1]
 refine hS2.cF (qF _) fun H3 hS3=> ?_
 simp(disch:=omega) only[↓RA,RZ,simprocAttr,hn,h1]
 refine jJ (fun h2=> ?_) (fun h2=> ?_)
 ·simp(disch:=omega) only[↓RA,RB,simprocAttr,hn,a1Y,h1,h2]
  refine⟨?_,hS3.forget⟩;clear hS1;unfold rankE;(try simp only[dw]at*);(repeat' split);all_goals first|rfl|omega|simp_all
 simp(disch:=omega) only[↓RA,RZ,simprocAttr,hn,hS3.ai 0 rfl,h1,h2]
 refine hS3.cF (a1q _ _) fun H4 hS4=> ?_
 simp(disch:=omega) only[↓RA,RB,simprocAttr,hn,h1,h2]
 refine iA (fun h3=> ?_) (fun h3=> ?_)
 ·simp(disch:=omega) only[↓RA,RZ,simprocAttr,hn,a1Y,h1,h2,h3]
  refine⟨?_,hS4.forget⟩;clear hS1;unfold rankE;(try simp only[dX,dw,cU,decide_eq_true_eq,gT,eF,decide_eq_false_iff_not]at*);(repeat' split);all_goals first|rfl|omega|simp_all
 simp(disch:=omega) only[↓RA,RZ,simprocAttr,hn,hS4.ld 0 rfl,h1,h2,h3]
 refine hS4.cF (b5z _) fun H5 hS5=> ?_
 simp(disch:=omega) only[↓RA,RZ,simprocAttr,hn,h1,h2,h3]
 refine jJ (fun h4=> ?_) (fun h4=> ?_)
 ·simp(disch:=omega) only[↓RA,RZ,simprocAttr,hn,a1Y,h1,h2,h3,h4]
  refine⟨?_,hS5.forget⟩;clear hS1;unfold rankE;(try simp only[dw,eF,decide_eq_false_iff_not]at*);(repeat' split);all_goals first|rfl|omega|simp_all
 simp(disch:=omega) only[↓RA,RZ,simprocAttr,hn,hS5.ld 0 rfl,(hS5.sl hr.1).len,h1,h2,h3,h4]
 refine iA (fun h5=> ?_) (fun h5=> ?_)
 ·simp(disch:=omega) only[↓RA,RZ,simprocAttr,hn,a1Y,h1,h2,h3,h4,h5]
  refine⟨?_,hS5.forget⟩;clear hS1;unfold rankE;(try simp only[dX,dw,cU,decide_eq_true_eq,gT,eF,decide_eq_false_iff_not]at*);(repeat' split);all_goals first|rfl|omega|simp_all
 simp(disch:=omega) only[↓RA,RZ,simprocAttr,hn,hS5.ld 0 rfl,(hS5.sl hr.1).len,h1,h2,h3,h4,h5]
 refine iA (fun h6=> ?_) (fun h6=> ?_)
 ·simp(disch:=omega) only[↓RA,RZ,simprocAttr,hn,a1Y,h1,h2,h3,h4,h5,h6]
  refine⟨?_,hS5.forget⟩;clear hS1;unfold rankE;(try simp only[dX,dw,cU,decide_eq_true_eq,gT,eF,decide_eq_false_iff_not]at*);(repeat' split);all_goals first|rfl|omega|simp_all
 simp(disch:=omega) only[↓RA,RZ,simprocAttr,hn,hS5.ld 0 rfl,h1,h2,h3,h4,h5,h6]
 refine hS5.cF (b8h r.wv r.wind (hS5.sl hr.1) (by have:=hr.2;omega)) fun H6 hS6=> ?_
 simp(disch:=omega) only[↓RA,RZ,simprocAttr,hn,a1Y,h1,h2,h3,h4,h5,h6]
 refine⟨?_,hS6.forget⟩;clear hS1;unfold rankE;(try simp only[dX,dw,cU,decide_eq_true_eq,gT,eF,decide_eq_false_iff_not]at*);(repeat' split);all_goals first|rfl|omega|simp_all
abbrev KS(kvs:List (ByteArray×Bool)):List Value:=kcs Value.string Value.bool kvs
def qD(kvs:List (ByteArray×Bool))(s:ByteArray):Bool:=(a2P kvs s).getD false
theorem a2L(B:Base)(A:Nat)(kvs:List (ByteArray×Bool))(s:ByteArray)(hS:St prog B H [⟨.map (some A),0,KS kvs⟩]):
 Fn prog 109 [.map (some A),.string s] H fun r H'=>r=I (if qD kvs s=true then 9 else 0)∧∃kvs',(∀t,qD kvs' t=(qD kvs t||decide (t=s)))∧St prog B H' [⟨.map (some A),0,KS kvs'⟩]:=by
 refine .aF func109 rfl (by kernel_rfl) (m:=10) rfl fun l hn g0 g1=> ?_
 simp(disch:=omega) only[↓RA,RB,simprocAttr,hn,g0,g1]
 refine hS.bL 0 rfl a8N (fun _=>rfl) ?_
 simp(disch:=omega) only[↓RA,RB,simprocAttr,hn]
 refine jJ (fun h=> ?_) (fun h=> ?_)
 ·simp(disch:=omega) only[↓RA,RB,simprocAttr,hn,c1j,h]
  refine⟨by simp[qD,h],kvs,fun t=> ?_,hS⟩
  by_cases e:t=s
  ·subst e;simp[qD,h]
  ·simp[e]
 simp(disch:=omega) only[↓RA,RB,simprocAttr,hn,g0,g1,h]
 refine hS.ca 0 rfl a8N fun H1 hS1=> ?_
 simp only[RT]at hS1
 simp(disch:=omega) only[↓RA,RB,simprocAttr,hn,c1j,h]
 refine⟨by simp[qD,h],_,fun t=> ?_,hS1⟩
 unfold qD
 rw[a2G]
 by_cases e:t=s
 ·simp[e]
 ·simp[e]
def qT(lo hi:Int):Int:=if lo<0∨127<hi then 3 else if hi<lo then 23 else 0
theorem a1z(lo hi:Int):Fn prog 112 [.agg #[I lo,I hi]] H fun r H'=>r=I (qT lo hi)∧St prog H H' []:=by
 refine .aT func112 rfl (by kernel_rfl) (m:=18) rfl fun l hn g0=> ?_
 simp(disch:=omega) only[↓RA,RB,simprocAttr,g0]
 refine(sR H).eNew 2 [I lo,I hi] rfl rfl rfl a1h fun A1 H1 hS1=> ?_
 simp only[RT]at hS1
 simp(disch:=omega) only[↓RA,RZ,simprocAttr,hn,hS1.ld 0 rfl]
 refine iN (fun h1=> ?_) (fun h1=> ?_)
 ·simp(disch:=omega) only[↓RA,RZ,simprocAttr,hn,b1F,h1]
  refine⟨?_,hS1.forget⟩;unfold qT;(repeat' split);all_goals first|rfl|omega
 simp(disch:=omega) only[↓RA,RZ,simprocAttr,hn,hS1.ld 0 rfl,h1]
 refine iA (fun h2=> ?_) (fun h2=> ?_)
 ·simp(disch:=omega) only[↓RA,RZ,simprocAttr,hn,b1F,h1,h2]
  refine⟨?_,hS1.forget⟩;unfold qT;(repeat' split);all_goals first|rfl|omega
 simp(disch:=omega) only[↓RA,RZ,simprocAttr,hn,hS1.ld 0 rfl,h1,h2]
 refine iA (fun h3=> ?_) (fun h3=> ?_)
 ·simp(disch:=omega) only[↓RA,RZ,simprocAttr,hn,b1F,h1,h2,h3]
  refine⟨?_,hS1.forget⟩;unfold qT;(repeat' split);all_goals first|rfl|omega
 simp(disch:=omega) only[↓RA,RZ,simprocAttr,hn,b1F,h1,h2,h3]
 refine⟨?_,hS1.forget⟩;unfold qT;(repeat' split);all_goals first|rfl|omega
def lO(f:Nat→Int)(n:Nat):Int:=match (List.range n).find? (fun j=>decide (f j≠0))with|some j=>f j|none=>0
theorem oI(f:Nat→Int)(n i:Nat)(hi:i<n)(hp:f i≠0)(h0:∀j,j<i→f j=0):lO f n=f i:=by
 unfold lO
 rw[wD _ n i hi (by simpa using hp) (fun j hj=>by simpa using h0 j hj)]
theorem kS(f:Nat→Int)(n:Nat)(h0:∀j,j<n→f j=0):lO f n=0:=by
 unfold lO
 have:(List.range n).find? (fun j=>decide (f j≠0))=none:=by
  rw[gj]
  intro j hj
  simpa using h0 j (dq.1 hj)
 rw[this]
def sX(rs:List Rk)(lo hi:Int):Int:=if 60<rs.length then 4 else if lO (fun j=>rankE (iB rs j)) rs.length≠0 then lO (fun j=>rankE (iB rs j)) rs.length else qT lo hi
theorem b6t(rv:Value)(rs:List Rk)(lo hi:Int)(hr:Sl 6 Rk.cells H rv rs)(hrk:∀r∈rs,r.In H)(hl:rs.length<1000000000):
 Fn prog 202 [.agg #[rv,I lo,I hi]] H fun v H'=>v=I (sX rs lo hi)∧St prog H H' []:=by
 refine .aT func202 rfl (by kernel_rfl) (m:=26) rfl fun l hn g0=> ?_
 simp(disch:=omega) only[↓RA,RB,simprocAttr,g0]
 refine(sR H).eNew 3 [rv,I lo,I hi] rfl rfl (by simp[OC,((sR H).sl hr).cells.2.1]) b1N fun A1 H1 hS1=> ?_
 simp only[RT]at hS1
 simp(disch:=omega) only[↓RA,RZ,simprocAttr,hn,hS1.ld 0 rfl,(hS1.sl hr).len]
 refine iA (fun h=> ?_) (fun h=> ?_)
 ·simp(disch:=omega) only[↓RA,RZ,simprocAttr,hn,b7l,h]
  exact⟨by rw[sX,if_pos (by omega)],hS1.forget⟩
 simp(disch:=omega) only[↓RA,RZ,simprocAttr,hn,hS1.ld 0 rfl,(hS1.sl hr).len,h]
 refine Wp.aj (fun n l H'=>l.length=26∧get l 1=(ptr A1 0 3)∧get l 11=rv∧get l 12=I rs.length∧∃(i:Nat),(n+i=rs.length∧∀j,j<i→rankE (iB rs j)=0)∧get l 13=I i∧St prog H H' [⟨ptr A1 0 3,0,[rv,I lo,I hi]⟩]) rs.length ?_ ?_
 ·simp(disch:=omega) only[RB,RC,simprocAttr,hn]
  exact⟨0,⟨by omega,by simp⟩,rfl,hS1⟩
 rintro n l H2⟨hn,g1,g11,g12,i,⟨hi1,h0⟩,g13,hS2⟩
 simp(disch:=omega) only[↓RA,RB,simprocAttr,hn,g12,g13]
 refine iA (fun h1=> ?_) (fun h1=> ?_)
 ·simp(disch:=omega) only[↓RA,RZ,simprocAttr,hn,g11,g13,(hS2.sl hr).idx,(hS2.sl hr).ai,Rk.cells,h1]
  refine hS2.eNew 6 [(.string ⟨#[]⟩),(.string ⟨#[]⟩),I 0,I 0,I 0,(.slice none 0 0)] rfl rfl rfl tX fun A2 H3 hS3=> ?_
  simp only[RT]at hS3
  simp(disch:=omega) only[↓RA,RZ,simprocAttr,hn,h1]
  refine hS3.aa 1 rfl [(.string (iB rs i).name),(.string (iB rs i).tone),I (iB rs i).num,I (iB rs i).den,I (iB rs i).first,(iB rs i).wv] rfl (by simp[OC,(hS3.sl (hrk (iB rs i) (iD (by omega))).1).cells.2.1]) tX (by simp) fun H4 hS4=> ?_
  simp only[RT]at hS4
  simp(disch:=omega) only[↓RA,RZ,simprocAttr,hn,hS4.ai 1 rfl,h1]
  refine hS4.cF (b1S (iB rs i) ((hrk _ (iD (by omega))).ak hS4)) fun H5 hS5=> ?_
  simp(disch:=omega) only[↓RA,RZ,simprocAttr,hn,h1]
  refine iA (fun h2=> ?_) (fun h2=> ?_)
  ·simp(disch:=omega) only[↓RA,RZ,simprocAttr,hn,b7l,h1,h2]
   refine⟨?_,hS5.forget⟩
   rw[sX,if_neg (by omega),oI _ rs.length i (by omega) h2 h0,if_pos h2]
  simp(disch:=omega) only[↓RA,RZ,simprocAttr,hn,g1,g11,g12,g13,h1,h2]
  exact⟨n-1,by omega,i+1,⟨by omega,fun j hj=>by rcases dm.1 hj with e|e;(· exact h0 j e);(· rw[e];exact dx.1 h2)⟩,by simp,hS5.sub (by simp)⟩
 simp(disch:=omega) only[↓RA,RZ,simprocAttr,hn,g1,hS2.ai 0 rfl,h1]
 refine hS2.cF (a1z lo hi) fun H6 hS6=> ?_
 simp(disch:=omega) only[↓RA,RZ,simprocAttr,hn,b7l,h1]
 refine⟨?_,hS6.forget⟩
 have e:=kS (fun j=>rankE (iB rs j)) rs.length fun j hj=>h0 j (by omega)
 rw[sX,if_neg (by omega),if_neg (by rw[e];simp)]
theorem Drw.eq(a b:Drw):(a.rank=b.rank∧a.shift=b.shift)↔b=a:=by
 cases a;cases b;simp[eq_comm]
theorem b3u(v:Value)(xs:List Drw)(hv:Sl 2 Drw.cells H v xs)(hl:xs.length<1000000000)(d:Drw):
 Fn prog 245 [v,.agg #[I d.rank,I d.shift]] H fun r H'=>r=I (pD (fun j=>decide (iB xs j=d)) xs.length)∧St prog H H' []:=by
 refine .aF func245 rfl (by kernel_rfl) (m:=19) rfl fun l hn g0 g1=> ?_
 simp(disch:=omega) only[↓RA,RB,simprocAttr,g1]
 refine(sR H).eNew 2 [I d.rank,I d.shift] rfl rfl rfl wG fun A1 H1 hS1=> ?_
 simp only[RT]at hS1
 simp(disch:=omega) only[↓RA,RZ,simprocAttr,hn,g0,(hS1.sl hv).len]
 refine Wp.aj (fun n l H'=>l.length=19∧get l 0=v∧get l 3=(ptr A1 0 2)∧get l 7=I xs.length∧∃(j:Nat),(n+j=xs.length∧∀q,q<j→decide (iB xs q=d)=false)∧get l 8=I j∧St prog H H' [⟨ptr A1 0 2,0,[I d.rank,I d.shift]⟩]) xs.length ?_ ?_
 ·simp(disch:=omega) only[RB,RC,simprocAttr,hn,g0]
  exact⟨0,⟨by omega,fun q hq=>absurd hq (dL _)⟩,rfl,hS1⟩
 rintro n l H2⟨hn,g0,g3,g7,j,⟨hi,h0⟩,g8,hS2⟩
 simp(disch:=omega) only[↓RA,RB,simprocAttr,hn,g7,g8]
 refine iA (fun h=> ?_) (fun h=> ?_)
 ·simp(disch:=omega) only[↓RA,RZ,simprocAttr,hn,g8,h]
  refine Wp.drw jW (by kernel_rfl) ?_
  simp(disch:=omega) only[↓RA,RZ,simprocAttr,hn,g0,g3,hS2.ai 0 rfl,(hS2.sl hv).idx,(hS2.sl hv).ai,Drw.cells]
  refine iA (fun hp=> ?_) (fun hp=> ?_)
  ·simp(disch:=omega) only[↓RA,RZ,simprocAttr,hn,c1i,hp]
   exact⟨by rw[zD _ xs.length j (by omega) (by simpa using(Drw.eq _ _).1 hp) h0],hS2.forget⟩
  simp(disch:=omega) only[↓RA,RZ,simprocAttr,hn,g0,g3,g7,g8,hp]
  exact⟨n-1,by omega,j+1,⟨by omega,fun q hq=>by rcases dm.1 hq with e|e;(· exact h0 q e);(· rw[e];simpa using fun hh=>hp ((Drw.eq _ _).2 hh))⟩,by simp,hS2⟩
 simp(disch:=omega) only[↓RA,RZ,simprocAttr,hn,c1i,h]
 exact⟨by rw[yL _ xs.length fun q hq=>h0 q (by omega)],hS2.forget⟩
theorem b9N(v:Value)(xs:List Drw)(hv:Sl 2 Drw.cells H v xs)(hl:xs.length<1000000000)(d:Drw):
 Fn prog 231 [v,.agg #[I d.rank,I d.shift]] H fun r H'=>r=.bool (decide (d∈xs))∧St prog H H' []:=by
 have e:decide (0≤pD (fun j=>decide (iB xs j=d)) xs.length)=decide (d∈xs):=by
  rw[ec,decide_eq_true_iff,decide_eq_true_iff,zA]
  constructor
  ·rintro⟨j,hj,hp⟩
   rw[←of_decide_eq_true hp];exact iD hj
  ·intro hx
   obtain⟨j,hj,rfl⟩:=dO.1 hx
   exact⟨j,hj,by rw[kC xs j hj];simp⟩
 refine .aF func231 rfl (by kernel_rfl) (m:=9) rfl fun l hn g0 g1=> ?_
 simp(disch:=omega) only[↓RA,RB,simprocAttr,g1]
 refine(sR H).eNew 2 [I d.rank,I d.shift] rfl rfl rfl wG fun A1 H1 hS1=> ?_
 simp only[RT]at hS1
 simp(disch:=omega) only[↓RA,RZ,simprocAttr,hn,g0,hS1.ai 0 rfl]
 refine hS1.cF (b3u v xs (hS1.sl hv) hl d) fun H2 hS2=> ?_
 simp(disch:=omega) only[↓RA,RB,simprocAttr,hn,c6a]
 rw[←e]
 first|exact hS2.forget|exact⟨rfl,hS2.forget⟩
def kL(m:Nat)(l:List Drw)(j:Nat):Int:=if(iB l j).rank<0∨m≤(iB l j).rank then 10 else if(iB l j).shift< -127∨127<(iB l j).shift then 3 else if iB l j∈l.take j then 9 else 0
def kT(m:Nat)(l:List Drw):Int:=if 8<l.length then 4 else lO (kL m l) l.length
theorem a7F(rv:Value)(rs:List Rk)(lo hi:Int)(hr:Sl 6 Rk.cells H rv rs)(hl:rs.length<1000000000)(dv:Value)(ds:List Drw)(hd:Sl 2 Drw.cells H dv ds)(hl2:ds.length<1000000000):
 Fn prog 203 [.agg #[rv,I lo,I hi],dv] H fun v H'=>v=I (kT rs.length ds)∧St prog H H' []:=by
 refine .aF func203 rfl (by kernel_rfl) (m:=45) rfl fun l hn g0 g1=> ?_
 simp(disch:=omega) only[↓RA,RB,simprocAttr,g0]
 refine(sR H).eNew 3 [rv,I lo,I hi] rfl rfl (by simp[OC,((sR H).sl hr).cells.2.1]) b1N fun A1 H1 hS1=> ?_
 simp only[RT]at hS1
 simp(disch:=omega) only[↓RA,RZ,simprocAttr,hn,g1,(hS1.sl hd).len]
 refine iA (fun h=> ?_) (fun h=> ?_)
 ·simp(disch:=omega) only[↓RA,RZ,simprocAttr,hn,a1J,h]
  exact⟨by rw[kT,if_pos (by omega)],hS1.forget⟩
 simp(disch:=omega) only[↓RA,RZ,simprocAttr,hn,g1,(hS1.sl hd).len,h]
 refine Wp.aj (fun n l H'=>l.length=45∧get l 1=dv∧get l 2=(ptr A1 0 3)∧get l 10=dv∧get l 11=I ds.length∧∃(i:Nat),(n+i=ds.length∧∀j,j<i→kL rs.length ds j=0)∧get l 12=I i∧St prog H H' [⟨ptr A1 0 3,0,[rv,I lo,I hi]⟩]) ds.length ?_ ?_
 ·simp(disch:=omega) only[RB,RC,simprocAttr,hn,g1]
  exact⟨0,⟨by omega,by simp⟩,rfl,hS1⟩
 rintro n l H2⟨hn,g1,g2,nH,g11,i,⟨hi1,h0⟩,g12,hS2⟩
 simp(disch:=omega) only[↓RA,RB,simprocAttr,hn,g11,g12]
 refine iA (fun h1=> ?_) (fun h1=> ?_)
 ·have key:kL rs.length ds i≠0→kT rs.length ds=kL rs.length ds i:=fun hne=>by rw[kT,if_neg (by omega),oI _ ds.length i (by omega) hne h0]
  simp(disch:=omega) only[↓RA,RZ,simprocAttr,hn,nH,g12,(hS2.sl hd).idx,(hS2.sl hd).ai,Drw.cells,h1]
  refine hS2.eNew 2 [I 0,I 0] rfl rfl rfl wG fun A2 H3 hS3=> ?_
  simp only[RT]at hS3
  simp(disch:=omega) only[↓RA,RZ,simprocAttr,hn,h1]
  refine hS3.aa 1 rfl [I (iB ds i).rank,I (iB ds i).shift] rfl rfl wG (by simp) fun H4 hS4=> ?_
  simp only[RT]at hS4
  simp(disch:=omega) only[↓RA,RZ,simprocAttr,hn,hS4.ld 1 rfl,h1]
  refine iN (fun h1=> ?_) (fun h1=> ?_)
  ·simp(disch:=omega) only[↓RA,RZ,simprocAttr,hn,a1J,h1]
   (first|(have e1:kL rs.length ds i=10:=by rw[kL,if_pos (by omega)]);exact⟨by rw[key (by rw[e1];decide),e1],hS4.forget⟩|(have e1:kL rs.length ds i=3:=by rw[kL,if_neg (by omega),if_pos (by omega)]);exact⟨by rw[key (by rw[e1];decide),e1],hS4.forget⟩|(have e1:kL rs.length ds i=9:=by rw[kL,if_neg (by omega),if_neg (by omega),if_pos (by simp_all)]);exact⟨by rw[key (by rw[e1];decide),e1],hS4.forget⟩)
  simp(disch:=omega) only[↓RA,RZ,simprocAttr,hn,g2,hS4.ld 1 rfl,hS4.ld 0 rfl,(hS4.sl hr).len,h1]
  refine iA (fun h2=> ?_) (fun h2=> ?_)
  ·simp(disch:=omega) only[↓RA,RZ,simprocAttr,hn,a1J,h1,h2]
   (first|(have e1:kL rs.length ds i=10:=by rw[kL,if_pos (by omega)]);exact⟨by rw[key (by rw[e1];decide),e1],hS4.forget⟩|(have e1:kL rs.length ds i=3:=by rw[kL,if_neg (by omega),if_pos (by omega)]);exact⟨by rw[key (by rw[e1];decide),e1],hS4.forget⟩|(have e1:kL rs.length ds i=9:=by rw[kL,if_neg (by omega),if_neg (by omega),if_pos (by simp_all)]);exact⟨by rw[key (by rw[e1];decide),e1],hS4.forget⟩)
  simp(disch:=omega) only[↓RA,RZ,simprocAttr,hn,hS4.ld 1 rfl,h1,h2]
  refine iN (fun h3=> ?_) (fun h3=> ?_)
  ·simp(disch:=omega) only[↓RA,RZ,simprocAttr,hn,a1J,h1,h2,h3]
   (first|(have e1:kL rs.length ds i=10:=by rw[kL,if_pos (by omega)]);exact⟨by rw[key (by rw[e1];decide),e1],hS4.forget⟩|(have e1:kL rs.length ds i=3:=by rw[kL,if_neg (by omega),if_pos (by omega)]);exact⟨by rw[key (by rw[e1];decide),e1],hS4.forget⟩|(have e1:kL rs.length ds i=9:=by rw[kL,if_neg (by omega),if_neg (by omega),if_pos (by simp_all)]);exact⟨by rw[key (by rw[e1];decide),e1],hS4.forget⟩)
  simp(disch:=omega) only[↓RA,RZ,simprocAttr,hn,hS4.ld 1 rfl,h1,h2,h3]
  refine iA (fun h4=> ?_) (fun h4=> ?_)
  ·simp(disch:=omega) only[↓RA,RZ,simprocAttr,hn,a1J,h1,h2,h3,h4]
   (first|(have e1:kL rs.length ds i=10:=by rw[kL,if_pos (by omega)]);exact⟨by rw[key (by rw[e1];decide),e1],hS4.forget⟩|(have e1:kL rs.length ds i=3:=by rw[kL,if_neg (by omega),if_pos (by omega)]);exact⟨by rw[key (by rw[e1];decide),e1],hS4.forget⟩|(have e1:kL rs.length ds i=9:=by rw[kL,if_neg (by omega),if_neg (by omega),if_pos (by simp_all)]);exact⟨by rw[key (by rw[e1];decide),e1],hS4.forget⟩)
  simp(disch:=omega) only[↓RA,RZ,simprocAttr,h1,h2,h3,h4]
  refine Wp.drw jW (by kernel_rfl) ?_
  simp(disch:=omega) only[↓RA,RZ,simprocAttr,hn,g1,(hS4.sl hd).aS,hS4.ai 1 rfl]
  refine hS4.cF (b9N _ (ds.take i) ((hS4.sl hd).cu i (by omega) (by omega)) (by simp;omega) (iB ds i)) fun H5 hS5=> ?_
  simp(disch:=omega) only[↓RA,RB,simprocAttr,hn]
  refine iA (fun h5=> ?_) (fun h5=> ?_)
  ·simp(disch:=omega) only[↓RA,RZ,simprocAttr,hn,a1J,h5]
   (first|(have e1:kL rs.length ds i=10:=by rw[kL,if_pos (by omega)]);exact⟨by rw[key (by rw[e1];decide),e1],hS5.forget⟩|(have e1:kL rs.length ds i=3:=by rw[kL,if_neg (by omega),if_pos (by omega)]);exact⟨by rw[key (by rw[e1];decide),e1],hS5.forget⟩|(have e1:kL rs.length ds i=9:=by rw[kL,if_neg (by omega),if_neg (by omega),if_pos (by simp_all)]);exact⟨by rw[key (by rw[e1];decide),e1],hS5.forget⟩)
  simp(disch:=omega) only[↓RA,RZ,simprocAttr,hn,g1,g2,nH,g11,g12,h5]
  have e0:kL rs.length ds i=0:=by rw[kL,if_neg (by omega),if_neg (by omega),if_neg (by simp_all)]
  exact⟨n-1,by omega,i+1,⟨by omega,fun j hj=>by rcases dm.1 hj with e|e;(· exact h0 j e);(· rw[e];exact e0)⟩,by simp,hS5.sub (by simp)⟩
 simp(disch:=omega) only[↓RA,RZ,simprocAttr,hn,a1J,h1]
 exact⟨by rw[kT,if_neg (by omega),kS _ _ fun j hj=>h0 j (by omega)],hS2.forget⟩
def kW(lo hi:Int)(m:Nat)(gs:List Seg)(j:Nat):Int:=if min (iB gs j).lo (iB gs j).hi<lo∨hi<max (iB gs j).lo (iB gs j).hi then 23 else if(iB gs j).hi<(iB gs j).lo∨(0<j∧(iB gs j).lo≤(iB gs (j-1)).hi)then 6 else kT m (iB gs j).draws
def stopE(rs:List Rk)(lo hi:Int)(s:Stp):Int:=if sX rs lo hi≠0 then sX rs lo hi else if kV s.name=false then 8 else if mR s.num s.den≠0 then mR s.num s.den else if s.segs.length=0 then 13 else if 12<s.segs.length then 4 else lO (kW lo hi rs.length s.segs) s.segs.length
theorem b9b(rv:Value)(rs:List Rk)(lo hi:Int)(hr:Sl 6 Rk.cells H rv rs)(hrk:∀r∈rs,r.In H)(hl:rs.length<1000000000)(s:Stp)(hs:s.In H):
 Fn prog 157 [.agg #[rv,I lo,I hi],.agg #[.string s.name,I s.num,I s.den,s.gv]] H fun v H'=>v=I (stopE rs lo hi s)∧St prog H H' []:=by
 have hl2:=hs.2.2
 refine .aF func157 rfl (by kernel_rfl) (m:=94) rfl fun l hn g0 g1=> ?_
 simp(disch:=omega) only[↓RA,RB,simprocAttr,g0]
 refine(sR H).eNew 3 [rv,I lo,I hi] rfl rfl (by simp[OC,((sR H).sl hr).cells.2.1]) b1N fun A1 H1 hS1=> ?_
 simp only[RT]at hS1
 simp(disch:=omega) only[↓RA,RB,simprocAttr,g1]
 refine hS1.eNew 4 [(.string s.name),I s.num,I s.den,s.gv] rfl rfl (by simp[OC,(hS1.sl hs.1).cells.2.1]) oA fun A2 H2 hS2=> ?_
 simp only[RT]at hS2
 simp(disch:=omega) only[↓RA,RZ,simprocAttr,hn,hS2.ai 0 rfl]
 refine hS2.cF (b6t rv rs lo hi (hS2.sl hr) (fun r h=>(hrk r h).ak hS2) hl) fun H3 hS3=> ?_
 simp(disch:=omega) only[↓RA,RB,simprocAttr,hn]
 refine iA (fun p1=> ?_) (fun p1=> ?_)
 ·simp(disch:=omega) only[↓RA,RZ,simprocAttr,hn,tR,p1]
  exact⟨by rw[stopE,if_pos p1],hS3.forget⟩
 simp(disch:=omega) only[↓RA,RZ,simprocAttr,hn,hS3.ld 1 rfl,p1]
 refine hS3.cF (qF s.name) fun H4 hS4=> ?_
 simp(disch:=omega) only[↓RA,RZ,simprocAttr,hn,p1]
 refine jJ (fun p2=> ?_) (fun p2=> ?_)
 ·simp(disch:=omega) only[↓RA,RZ,simprocAttr,hn,tR,p1,p2]
  exact⟨by rw[stopE,if_neg p1,if_pos (by simpa using p2)],hS4.forget⟩
 have p2':¬kV s.name=false:=by simpa using p2
 simp(disch:=omega) only[↓RA,RZ,simprocAttr,hn,hS4.ai 1 rfl,p1,p2]
 refine hS4.cF (a1q s.num s.den) fun H5 hS5=> ?_
 simp(disch:=omega) only[↓RA,RZ,simprocAttr,hn,p1,p2]
 refine iA (fun p3=> ?_) (fun p3=> ?_)
 ·simp(disch:=omega) only[↓RA,RZ,simprocAttr,hn,tR,p1,p2,p3]
  exact⟨by rw[stopE,if_neg p1,if_neg p2',if_pos p3],hS5.forget⟩
 simp(disch:=omega) only[↓RA,RZ,simprocAttr,hn,hS5.ld 1 rfl,(hS5.sl hs.1).len,p1,p2,p3]
 refine iA (fun p4=> ?_) (fun p4=> ?_)
 ·simp(disch:=omega) only[↓RA,RZ,simprocAttr,hn,tR,p1,p2,p3,p4]
  exact⟨by rw[stopE,if_neg p1,if_neg p2',if_neg p3,if_pos (by omega)],hS5.forget⟩
 simp(disch:=omega) only[↓RA,RZ,simprocAttr,hn,hS5.ld 1 rfl,(hS5.sl hs.1).len,p1,p2,p3,p4]
 refine iA (fun p5=> ?_) (fun p5=> ?_)
 ·simp(disch:=omega) only[↓RA,RZ,simprocAttr,hn,tR,p1,p2,p3,p4,p5]
  exact⟨by rw[stopE,if_neg p1,if_neg p2',if_neg p3,if_neg (by omega),if_pos (by omega)],hS5.forget⟩
 have hE:stopE rs lo hi s=lO (kW lo hi rs.length s.segs) s.segs.length:=by rw[stopE,if_neg p1,if_neg p2',if_neg p3,if_neg (by omega),if_neg (by omega)]
 simp(disch:=omega) only[↓RA,RZ,simprocAttr,hn,hS5.ld 1 rfl,(hS5.sl hs.1).len,p1,p2,p3,p4,p5]
 refine Wp.aj (fun n l H'=>l.length=94∧get l 2=(ptr A1 0 3)∧get l 3=(ptr A2 0 4)∧get l 36=s.gv∧get l 37=I s.segs.length∧∃(i:Nat),(n+i=s.segs.length∧∀j,j<i→kW lo hi rs.length s.segs j=0)∧get l 38=I i∧St prog H H' [⟨ptr A1 0 3,0,[rv,I lo,I hi]⟩,⟨ptr A2 0 4,0,[(.string s.name),I s.num,I s.den,s.gv]⟩]) s.segs.length ?_ ?_
 ·simp(disch:=omega) only[RB,RC,simprocAttr,hn]
  exact⟨0,⟨by omega,by simp⟩,rfl,hS5⟩
 rintro n l H6⟨hn,g2,g3,g36,g37,i,⟨hi1,h0⟩,g38,hS6⟩
 simp(disch:=omega) only[↓RA,RB,simprocAttr,hn,g37,g38]
 refine iA (fun q1=> ?_) (fun q1=> ?_)
 ·have key:kW lo hi rs.length s.segs i≠0→stopE rs lo hi s=kW lo hi rs.length s.segs i:=fun hne=>by rw[hE,oI _ _ i (by omega) hne h0]
  have ei:((i:Int)-1).toNat=i-1:=by omega
  simp(disch:=omega) only[↓RA,RZ,simprocAttr,hn,g36,g38,(hS6.sl hs.1).idx,(hS6.sl hs.1).ai,Seg.cells,q1]
  refine hS6.eNew 3 [I 0,I 0,(.slice none 0 0)] rfl rfl rfl zP fun A3 H7 hS7=> ?_
  simp only[RT]at hS7
  simp(disch:=omega) only[↓RA,RZ,simprocAttr,hn,q1]
  refine hS7.aa 2 rfl [I (iB s.segs i).lo,I (iB s.segs i).hi,(iB s.segs i).dv] rfl (by simp[OC,(hS7.sl (hs.2.1 (iB s.segs i) (iD (by omega))).1).cells.2.1]) zP (by simp) fun H8 hS8=> ?_
  simp only[RT]at hS8
  simp(disch:=omega) only[↓RA,RZ,simprocAttr,hn,g2,hS8.ld 2 rfl,hS8.ld 0 rfl,q1]
  refine iN (fun h1=> ?_) (fun h1=> ?_)
  ·simp(disch:=omega) only[↓RA,RZ,simprocAttr,hn,tR,q1,h1]
   (first|(have e1:kW lo hi rs.length s.segs i=23:=by rw[kW,if_pos (by omega)]);exact⟨by rw[key (by rw[e1];decide),e1],hS8.forget⟩|(have e1:kW lo hi rs.length s.segs i=6:=by rw[kW,if_neg (by omega),if_pos (by omega)]);exact⟨by rw[key (by rw[e1];decide),e1],hS8.forget⟩|(have e1:kW lo hi rs.length s.segs i=kT rs.length (iB s.segs i).draws:=by rw[kW,if_neg (by omega),if_neg (by omega)]);exact⟨by rw[key (by rw[e1];assumption),e1],hS8.forget⟩)
  simp(disch:=omega) only[↓RA,RZ,simprocAttr,hn,g2,hS8.ld 2 rfl,hS8.ld 0 rfl,q1,h1]
  refine iA (fun h2=> ?_) (fun h2=> ?_)
  ·simp(disch:=omega) only[↓RA,RZ,simprocAttr,hn,tR,q1,h1,h2]
   (first|(have e1:kW lo hi rs.length s.segs i=23:=by rw[kW,if_pos (by omega)]);exact⟨by rw[key (by rw[e1];decide),e1],hS8.forget⟩|(have e1:kW lo hi rs.length s.segs i=6:=by rw[kW,if_neg (by omega),if_pos (by omega)]);exact⟨by rw[key (by rw[e1];decide),e1],hS8.forget⟩|(have e1:kW lo hi rs.length s.segs i=kT rs.length (iB s.segs i).draws:=by rw[kW,if_neg (by omega),if_neg (by omega)]);exact⟨by rw[key (by rw[e1];assumption),e1],hS8.forget⟩)
  simp(disch:=omega) only[↓RA,RZ,simprocAttr,q1,h1,h2]
  refine Wp.drw jW (by kernel_rfl) ?_
  simp(disch:=omega) only[↓RA,RZ,simprocAttr,hn,hS8.ld 2 rfl]
  refine iN (fun h3=> ?_) (fun h3=> ?_)
  ·simp(disch:=omega) only[↓RA,RZ,simprocAttr,hn,tR,h3]
   (first|(have e1:kW lo hi rs.length s.segs i=23:=by rw[kW,if_pos (by omega)]);exact⟨by rw[key (by rw[e1];decide),e1],hS8.forget⟩|(have e1:kW lo hi rs.length s.segs i=6:=by rw[kW,if_neg (by omega),if_pos (by omega)]);exact⟨by rw[key (by rw[e1];decide),e1],hS8.forget⟩|(have e1:kW lo hi rs.length s.segs i=kT rs.length (iB s.segs i).draws:=by rw[kW,if_neg (by omega),if_neg (by omega)]);exact⟨by rw[key (by rw[e1];assumption),e1],hS8.forget⟩)
  simp(disch:=omega) only[↓RA,RZ,simprocAttr,hn,h3]
  refine jC (fun h4=> ?_) (fun h4=> ?_)
  ·simp(disch:=omega) only[↓RA,RZ,simprocAttr,hn,g3,hS8.ld 2 rfl,hS8.ld 1 rfl,(hS8.sl hs.1).idx,(hS8.sl hs.1).bb,(hS8.sl hs.1).ld,Seg.cells,ei,h3,h4]
   refine iA (fun h5=> ?_) (fun h5=> ?_)
   ·simp(disch:=omega) only[↓RA,RZ,simprocAttr,hn,tR,h3,h4,h5]
    (first|(have e1:kW lo hi rs.length s.segs i=23:=by rw[kW,if_pos (by omega)]);exact⟨by rw[key (by rw[e1];decide),e1],hS8.forget⟩|(have e1:kW lo hi rs.length s.segs i=6:=by rw[kW,if_neg (by omega),if_pos (by omega)]);exact⟨by rw[key (by rw[e1];decide),e1],hS8.forget⟩|(have e1:kW lo hi rs.length s.segs i=kT rs.length (iB s.segs i).draws:=by rw[kW,if_neg (by omega),if_neg (by omega)]);exact⟨by rw[key (by rw[e1];assumption),e1],hS8.forget⟩)
   simp(disch:=omega) only[↓RA,RZ,simprocAttr,hn,g2,hS8.ai 0 rfl,hS8.ld 2 rfl,h3,h4,h5]
   refine hS8.cF (a7F rv rs lo hi (hS8.sl hr) hl _ _ (hS8.sl (hs.2.1 _ (iD (by omega))).1) (hs.2.1 _ (iD (by omega))).2) fun H9 hS9=> ?_
   simp(disch:=omega) only[↓RA,RZ,simprocAttr,hn,h3,h4,h5]
   refine iA (fun h6=> ?_) (fun h6=> ?_)
   ·simp(disch:=omega) only[↓RA,RZ,simprocAttr,hn,tR,h3,h4,h5,h6]
    (first|(have e1:kW lo hi rs.length s.segs i=23:=by rw[kW,if_pos (by omega)]);exact⟨by rw[key (by rw[e1];decide),e1],hS9.forget⟩|(have e1:kW lo hi rs.length s.segs i=6:=by rw[kW,if_neg (by omega),if_pos (by omega)]);exact⟨by rw[key (by rw[e1];decide),e1],hS9.forget⟩|(have e1:kW lo hi rs.length s.segs i=kT rs.length (iB s.segs i).draws:=by rw[kW,if_neg (by omega),if_neg (by omega)]);exact⟨by rw[key (by rw[e1];assumption),e1],hS9.forget⟩)
   simp(disch:=omega) only[↓RA,RZ,simprocAttr,hn,g2,g3,g36,g37,g38,h3,h4,h5,h6]
   have e0:kW lo hi rs.length s.segs i=0:=by rw[kW,if_neg (by omega),if_neg (by omega)];omega
   exact⟨n-1,by omega,i+1,⟨by omega,fun j hj=>by rcases dm.1 hj with e|e;(· exact h0 j e);(· rw[e];exact e0)⟩,by simp,hS9.sub (by simp)⟩
  simp(disch:=omega) only[↓RA,RZ,simprocAttr,hn,g2,hS8.ai 0 rfl,hS8.ld 2 rfl,h3,h4]
  refine hS8.cF (a7F rv rs lo hi (hS8.sl hr) hl _ _ (hS8.sl (hs.2.1 _ (iD (by omega))).1) (hs.2.1 _ (iD (by omega))).2) fun H10 hS10=> ?_
  simp(disch:=omega) only[↓RA,RZ,simprocAttr,hn,h3,h4]
  refine iA (fun h7=> ?_) (fun h7=> ?_)
  ·simp(disch:=omega) only[↓RA,RZ,simprocAttr,hn,tR,h3,h4,h7]
   (first|(have e1:kW lo hi rs.length s.segs i=23:=by rw[kW,if_pos (by omega)]);exact⟨by rw[key (by rw[e1];decide),e1],hS10.forget⟩|(have e1:kW lo hi rs.length s.segs i=6:=by rw[kW,if_neg (by omega),if_pos (by omega)]);exact⟨by rw[key (by rw[e1];decide),e1],hS10.forget⟩|(have e1:kW lo hi rs.length s.segs i=kT rs.length (iB s.segs i).draws:=by rw[kW,if_neg (by omega),if_neg (by omega)]);exact⟨by rw[key (by rw[e1];assumption),e1],hS10.forget⟩)
  simp(disch:=omega) only[↓RA,RZ,simprocAttr,hn,g2,g3,g36,g37,g38,h3,h4,h7]
  have e0:kW lo hi rs.length s.segs i=0:=by rw[kW,if_neg (by omega),if_neg (by omega)];omega
  exact⟨n-1,by omega,i+1,⟨by omega,fun j hj=>by rcases dm.1 hj with e|e;(· exact h0 j e);(· rw[e];exact e0)⟩,by simp,hS10.sub (by simp)⟩
 simp(disch:=omega) only[↓RA,RZ,simprocAttr,hn,tR,q1]
 exact⟨by rw[hE,kS _ _ fun j hj=>h0 j (by omega)],hS6.forget⟩
theorem b9j(v:Value)(xs:List Cpl)(hv:Sl 5 Cpl.cells H v xs)(hl:xs.length<1000000000)(k:FuncId)(caps:List Value)(p:Nat→Bool)
 (hf:∀j H1,j<xs.length→St prog H H1 []→Fn prog k (.agg #[.string (iB xs j).name,I (iB xs j).src,I (iB xs j).dst,I (iB xs j).shift,.bool (iB xs j).thr]::caps) H1 fun r H2=>r=.bool (p j)∧St prog H1 H2 []):
 Fn prog 204 [v,.func (.func k) #[] caps.toArray] H fun r H'=>r=I (pD p xs.length)∧St prog H H' []:=by
 refine .aF func204 rfl (by kernel_rfl) (m:=19) rfl fun l hn g0 g1=> ?_
 simp(disch:=omega) only[↓RA,RZ,simprocAttr,hn,g0,((sR H).sl hv).len]
 refine Wp.aj (fun n l H'=>l.length=19∧get l 0=v∧get l 1=.func (.func k) #[] caps.toArray∧get l 7=I xs.length∧∃(j:Nat),(n+j=xs.length∧∀q,q<j→p q=false)∧get l 8=I j∧St prog H H' []) xs.length ?_ ?_
 ·simp(disch:=omega) only[RB,RC,simprocAttr,hn,g0,g1]
  exact⟨0,⟨by omega,fun q hq=>absurd hq (dL _)⟩,rfl,(sR H)⟩
 rintro n l H1⟨hn,g0,g1,g7,j,⟨hi,h0⟩,g8,hS1⟩
 simp(disch:=omega) only[↓RA,RB,simprocAttr,hn,g7,g8]
 refine iA (fun h=> ?_) (fun h=> ?_)
 ·simp(disch:=omega) only[↓RA,RZ,simprocAttr,hn,g0,g1,g8,(hS1.sl hv).idx,(hS1.sl hv).ai,Cpl.cells,h]
  refine hS1.cF (hf j _ (by omega) hS1) fun H2 hS2=> ?_
  simp(disch:=omega) only[↓RA,RZ,simprocAttr,hn,h]
  refine jJ (fun hp=> ?_) (fun hp=> ?_)
  ·simp(disch:=omega) only[↓RA,RZ,simprocAttr,hn,c1r,h,hp]
   exact⟨by rw[zD p xs.length j (by omega) hp h0],hS2⟩
  simp(disch:=omega) only[↓RA,RZ,simprocAttr,hn,g0,g1,g7,g8,h,hp]
  exact⟨n-1,by omega,j+1,⟨by omega,fun q hq=>by rcases dm.1 hq with e|e;(· exact h0 q e);(· rw[e];exact hp)⟩,by simp,hS2⟩
 simp(disch:=omega) only[↓RA,RZ,simprocAttr,hn,c1r,h]
 exact⟨by rw[yL p xs.length fun q hq=>h0 q (by omega)],hS1⟩
theorem b8K(v:Value)(xs:List Cpl)(hv:Sl 5 Cpl.cells H v xs)(hl:xs.length<1000000000)(k:FuncId)(caps:List Value)(p:Nat→Bool)
 (hf:∀j H1,j<xs.length→St prog H H1 []→Fn prog k (.agg #[.string (iB xs j).name,I (iB xs j).src,I (iB xs j).dst,I (iB xs j).shift,.bool (iB xs j).thr]::caps) H1 fun r H2=>r=.bool (p j)∧St prog H1 H2 []):
 Fn prog 158 [v,.func (.func k) #[] caps.toArray] H fun r H'=>r=.bool (decide (0≤pD p xs.length))∧St prog H H' []:=by
 refine .aF func158 rfl (by kernel_rfl) (m:=9) rfl fun l hn g0 g1=> ?_
 simp(disch:=omega) only[↓RA,RZ,simprocAttr,hn,g0,g1]
 refine(sR H).cF (b9j v xs hv hl k caps p hf) fun H1 hS1=> ?_
 simp(disch:=omega) only[↓RA,RZ,simprocAttr,hn,c6g]
 first|exact hS1|exact⟨rfl,hS1⟩
theorem a9R(c:Cpl)(A:Nat)(d:Cpl)(hA:Var H A 5 d.cells):Fn prog 159 [.agg #[.string c.name,I c.src,I c.dst,I c.shift,.bool c.thr],ptr A 0 5] H fun r H'=>r=.bool (decide (c.name=d.name))∧St prog H H' []:=by
 refine .aF func159 rfl (by kernel_rfl) (m:=9) rfl fun l hn g0 g1=> ?_
 simp(disch:=omega) only[↓RA,RB,simprocAttr,g0]
 refine(sR H).eNew 5 [(.string c.name),I c.src,I c.dst,I c.shift,(.bool c.thr)] rfl rfl rfl tV fun A1 H1 hS1=> ?_
 simp only[RT]at hS1
 simp(disch:=omega) only[↓RA,RZ,simprocAttr,hn,g1,hS1.ld 0 rfl,(hS1.va hA).ld,c4Q,Cpl.cells]
 first|exact hS1.forget|exact⟨rfl,hS1.forget⟩
def mP(m:Nat)(cs:List Cpl)(j:Nat):Int:=
 let c:=iB cs j
 if kV c.name=false then 8 else if ∃q,q<j∧(iB cs q).name=c.name then 9 else if c.src<0∨m≤c.src∨c.dst<0∨m≤c.dst then 10 else if c.shift< -127∨127<c.shift then 3 else if c.src=c.dst∧c.shift=0 then 7 else 0
def tQ(ks:List (Int×Int))(cs:List Cpl):Int:=if 8<ks.length∨40<cs.length then 4 else if ∃k∈ks,qT k.1 k.2≠0 then 23 else lO (mP ks.length cs) cs.length
def kpc(k:Int×Int):List Value:=[I k.1,I k.2]
theorem a7J{α:Type}[Inhabited α](xs:List α)(i j:Nat)(h:j<i):iB (xs.take i) j=iB xs j:=by
 unfold iB
 rw[cY,cY,dP h]
theorem a8c(kv cv:Value)(ks:List (Int×Int))(cs:List Cpl)(hk:Sl 2 kpc H kv ks)(hc:Sl 5 Cpl.cells H cv cs)(hl:ks.length<1000000000)(hl2:cs.length<1000000000):
 Fn prog 111 [kv,cv] H fun v H'=>v=I (tQ ks cs)∧St prog H H' []:=by
 refine .aF func111 rfl (by kernel_rfl) (m:=89) rfl fun l hn g0 g1=> ?_
 simp(disch:=omega) only[↓RA,RZ,simprocAttr,hn,g0,((sR H).sl hk).len]
 refine iN (fun p1=> ?_) (fun p1=> ?_)
 ·simp(disch:=omega) only[↓RA,RZ,simprocAttr,hn,rY,p1]
  exact⟨by rw[tQ,if_pos (by omega)],(sR H)⟩
 simp(disch:=omega) only[↓RA,RZ,simprocAttr,hn,g1,((sR H).sl hc).len,p1]
 refine iA (fun p2=> ?_) (fun p2=> ?_)
 ·simp(disch:=omega) only[↓RA,RZ,simprocAttr,hn,rY,p1,p2]
  exact⟨by rw[tQ,if_pos (by omega)],(sR H)⟩
 simp(disch:=omega) only[↓RA,RZ,simprocAttr,hn,g0,((sR H).sl hk).len,p1,p2]
 refine Wp.aj (fun n l H'=>l.length=89∧get l 0=kv∧get l 1=cv∧get l 17=kv∧get l 18=I ks.length∧∃(i:Nat),(n+i=ks.length∧∀j,j<i→qT (iB ks j).1 (iB ks j).2=0)∧get l 19=I i∧St prog H H' []) ks.length ?_ ?_
 ·simp(disch:=omega) only[RB,RC,simprocAttr,hn,g0,g1]
  exact⟨0,⟨by omega,by simp⟩,rfl,(sR H)⟩
 rintro n l H1⟨hn,g0,g1,g17,g18,i,⟨hi1,h0⟩,g19,hS1⟩
 simp(disch:=omega) only[↓RA,RB,simprocAttr,hn,g18,g19]
 refine iA (fun p3=> ?_) (fun p3=> ?_)
 ·simp(disch:=omega) only[↓RA,RZ,simprocAttr,hn,g17,g19,(hS1.sl hk).idx,(hS1.sl hk).ai,kpc,p3]
  refine hS1.eNew 2 [I 0,I 0] rfl rfl rfl a1h fun A1 H2 hS2=> ?_
  simp only[RT]at hS2
  simp(disch:=omega) only[↓RA,RZ,simprocAttr,hn,p3]
  refine hS2.aa 0 rfl [I (iB ks i).1,I (iB ks i).2] rfl rfl a1h (by simp) fun H3 hS3=> ?_
  simp only[RT]at hS3
  simp(disch:=omega) only[↓RA,RZ,simprocAttr,hn,hS3.ai 0 rfl,p3]
  refine hS3.cF (a1z _ _) fun H4 hS4=> ?_
  simp(disch:=omega) only[↓RA,RZ,simprocAttr,hn,p3]
  refine iA (fun p4=> ?_) (fun p4=> ?_)
  ·simp(disch:=omega) only[↓RA,RZ,simprocAttr,hn,rY,p3,p4]
   exact⟨by rw[tQ,if_neg (by omega),if_pos ⟨_,iD (by omega),p4⟩],hS4.forget⟩
  simp(disch:=omega) only[↓RA,RZ,simprocAttr,hn,g0,g1,g17,g18,g19,p3,p4]
  exact⟨n-1,by omega,i+1,⟨by omega,fun j hj=>by rcases dm.1 hj with e|e;(· exact h0 j e);(· rw[e];exact dx.1 p4)⟩,by simp,hS4.sub (by simp)⟩
 have hE:tQ ks cs=lO (mP ks.length cs) cs.length:=by
  rw[tQ,if_neg (by omega),if_neg]
  rintro⟨k,hk,hne⟩
  obtain⟨j,hj,rfl⟩:=dO.1 hk
  rw[←kC ks j hj]at hne
  exact hne (h0 j (by omega))
 simp(disch:=omega) only[↓RA,RZ,simprocAttr,hn,g1,(hS1.sl hc).len,p3]
 refine Wp.aj (fun n l H'=>l.length=89∧get l 0=kv∧get l 1=cv∧get l 27=cv∧get l 28=I cs.length∧∃(i:Nat),(n+i=cs.length∧∀j,j<i→mP ks.length cs j=0)∧get l 29=I i∧St prog H H' []) cs.length ?_ ?_
 ·simp(disch:=omega) only[RB,RC,simprocAttr,hn,g0,g1]
  exact⟨0,⟨by omega,by simp⟩,rfl,hS1⟩
 rintro n l H5⟨hn,g0,g1,g27,g28,i,⟨hi2,hz⟩,g29,hS5⟩
 simp(disch:=omega) only[↓RA,RB,simprocAttr,hn,g28,g29]
 refine iA (fun q1=> ?_) (fun q1=> ?_)
 ·have key:mP ks.length cs i≠0→tQ ks cs=mP ks.length cs i:=fun hne=>by rw[hE,oI _ _ i (by omega) hne hz]
  simp(disch:=omega) only[↓RA,RZ,simprocAttr,hn,g27,g29,(hS5.sl hc).idx,(hS5.sl hc).ai,Cpl.cells,q1]
  refine hS5.eNew 5 [(.string ⟨#[]⟩),I 0,I 0,I 0,(.bool false)] rfl rfl rfl tV fun A2 H6 hS6=> ?_
  simp only[RT]at hS6
  simp(disch:=omega) only[↓RA,RZ,simprocAttr,hn,q1]
  refine hS6.aa 0 rfl [(.string (iB cs i).name),I (iB cs i).src,I (iB cs i).dst,I (iB cs i).shift,(.bool (iB cs i).thr)] rfl rfl tV (by simp) fun H7 hS7=> ?_
  simp only[RT]at hS7
  simp(disch:=omega) only[↓RA,RZ,simprocAttr,hn,hS7.ld 0 rfl,q1]
  refine hS7.cF (qF _) fun H8 hS8=> ?_
  simp(disch:=omega) only[↓RA,RZ,simprocAttr,hn,q1]
  refine jJ (fun q2=> ?_) (fun q2=> ?_)
  ·have e1:mP ks.length cs i=8:=by unfold mP;simp only;rw[if_pos (by simpa using q2)]
   simp(disch:=omega) only[↓RA,RZ,simprocAttr,hn,rY,q1,q2]
   exact⟨by rw[key (by rw[e1];decide),e1],hS8.forget⟩
  have q2':¬kV (iB cs i).name=false:=by simpa using q2
  simp(disch:=omega) only[↓RA,RZ,simprocAttr,hn,g1,(hS8.sl hc).aS,q1,q2]
  have hA:=hS8.var 0 rfl
  refine hS8.cF (b8K _ (cs.take i) ((hS8.sl hc).cu i (by omega) (by omega)) (by simp;omega) 159 [ptr A2 0 5] (fun j=>decide ((iB (cs.take i) j).name=(iB cs i).name)) (fun j H1 hj hS'=>a9R _ A2 (iB cs i) (hS'.va hA))) fun H9 hS9=> ?_
  have hx:0≤pD (fun j=>decide ((iB (cs.take i) j).name=(iB cs i).name)) (cs.take i).length↔∃q,q<i∧(iB cs q).name=(iB cs i).name:=by
   rw[zA]
   constructor
   ·rintro⟨j,hj,hp⟩
    have hj':j<i:=by simp at hj;omega
    exact⟨j,hj',by rw[←a7J cs i j hj'];exact of_decide_eq_true hp⟩
   ·rintro⟨j,hj,hp⟩
    exact⟨j,by simp;omega,decide_eq_true (by rw[a7J cs i j hj];exact hp)⟩
  simp(disch:=omega) only[↓RA,RZ,simprocAttr,hn,q1,q2]
  refine iA (fun q3=> ?_) (fun q3=> ?_)
  ·have e1:mP ks.length cs i=9:=by unfold mP;simp only;rw[if_neg q2',if_pos (hx.1 q3)]
   simp(disch:=omega) only[↓RA,RZ,simprocAttr,hn,rY,q1,q2,q3]
   exact⟨by rw[key (by rw[e1];decide),e1],hS9.forget⟩
  have q3':¬∃q,q<i∧(iB cs q).name=(iB cs i).name:=fun hh=>q3 (hx.2 hh)
  have hC:mP ks.length cs i=if(iB cs i).src<0∨ks.length≤(iB cs i).src∨(iB cs i).dst<0∨ks.length≤(iB cs i).dst then 10 else if(iB cs i).shift< -127∨127<(iB cs i).shift then 3 else if(iB cs i).src=(iB cs i).dst∧(iB cs i).shift=0 then 7 else 0:=by
   unfold mP;simp only;rw[if_neg q2',if_neg q3']
  clear hx
  simp(disch:=omega) only[↓RA,RZ,simprocAttr,hn,hS9.ld 0 rfl,q1,q2,q3]
  refine iN (fun h1=> ?_) (fun h1=> ?_)
  ·simp(disch:=omega) only[↓RA,RZ,simprocAttr,hn,rY,q1,q2,q3,h1]
   (first|(have e1:mP ks.length cs i=10:=by rw[hC,if_pos (by omega)]);exact⟨by rw[key (by rw[e1];decide),e1],hS9.forget⟩|(have e1:mP ks.length cs i=3:=by rw[hC,if_neg (by omega),if_pos (by omega)]);exact⟨by rw[key (by rw[e1];decide),e1],hS9.forget⟩|(have e1:mP ks.length cs i=7:=by rw[hC,if_neg (by omega),if_neg (by omega),if_pos (by omega)]);exact⟨by rw[key (by rw[e1];decide),e1],hS9.forget⟩)
  simp(disch:=omega) only[↓RA,RZ,simprocAttr,hn,g0,hS9.ld 0 rfl,(hS9.sl hk).len,q1,q2,q3,h1]
  refine iN (fun h2=> ?_) (fun h2=> ?_)
  ·simp(disch:=omega) only[↓RA,RZ,simprocAttr,hn,rY,q1,q2,q3,h1,h2]
   (first|(have e1:mP ks.length cs i=10:=by rw[hC,if_pos (by omega)]);exact⟨by rw[key (by rw[e1];decide),e1],hS9.forget⟩|(have e1:mP ks.length cs i=3:=by rw[hC,if_neg (by omega),if_pos (by omega)]);exact⟨by rw[key (by rw[e1];decide),e1],hS9.forget⟩|(have e1:mP ks.length cs i=7:=by rw[hC,if_neg (by omega),if_neg (by omega),if_pos (by omega)]);exact⟨by rw[key (by rw[e1];decide),e1],hS9.forget⟩)
  simp(disch:=omega) only[↓RA,RZ,simprocAttr,hn,hS9.ld 0 rfl,q1,q2,q3,h1,h2]
  refine iN (fun h3=> ?_) (fun h3=> ?_)
  ·simp(disch:=omega) only[↓RA,RZ,simprocAttr,hn,rY,q1,q2,q3,h1,h2,h3]
   (first|(have e1:mP ks.length cs i=10:=by rw[hC,if_pos (by omega)]);exact⟨by rw[key (by rw[e1];decide),e1],hS9.forget⟩|(have e1:mP ks.length cs i=3:=by rw[hC,if_neg (by omega),if_pos (by omega)]);exact⟨by rw[key (by rw[e1];decide),e1],hS9.forget⟩|(have e1:mP ks.length cs i=7:=by rw[hC,if_neg (by omega),if_neg (by omega),if_pos (by omega)]);exact⟨by rw[key (by rw[e1];decide),e1],hS9.forget⟩)
  simp(disch:=omega) only[↓RA,RZ,simprocAttr,hn,g0,hS9.ld 0 rfl,(hS9.sl hk).len,q1,q2,q3,h1,h2,h3]
  refine iA (fun h4=> ?_) (fun h4=> ?_)
  ·simp(disch:=omega) only[↓RA,RZ,simprocAttr,hn,rY,q1,q2,q3,h1,h2,h3,h4]
   (first|(have e1:mP ks.length cs i=10:=by rw[hC,if_pos (by omega)]);exact⟨by rw[key (by rw[e1];decide),e1],hS9.forget⟩|(have e1:mP ks.length cs i=3:=by rw[hC,if_neg (by omega),if_pos (by omega)]);exact⟨by rw[key (by rw[e1];decide),e1],hS9.forget⟩|(have e1:mP ks.length cs i=7:=by rw[hC,if_neg (by omega),if_neg (by omega),if_pos (by omega)]);exact⟨by rw[key (by rw[e1];decide),e1],hS9.forget⟩)
  simp(disch:=omega) only[↓RA,RZ,simprocAttr,hn,hS9.ld 0 rfl,q1,q2,q3,h1,h2,h3,h4]
  refine iN (fun h5=> ?_) (fun h5=> ?_)
  ·simp(disch:=omega) only[↓RA,RZ,simprocAttr,hn,rY,q1,q2,q3,h1,h2,h3,h4,h5]
   (first|(have e1:mP ks.length cs i=10:=by rw[hC,if_pos (by omega)]);exact⟨by rw[key (by rw[e1];decide),e1],hS9.forget⟩|(have e1:mP ks.length cs i=3:=by rw[hC,if_neg (by omega),if_pos (by omega)]);exact⟨by rw[key (by rw[e1];decide),e1],hS9.forget⟩|(have e1:mP ks.length cs i=7:=by rw[hC,if_neg (by omega),if_neg (by omega),if_pos (by omega)]);exact⟨by rw[key (by rw[e1];decide),e1],hS9.forget⟩)
  simp(disch:=omega) only[↓RA,RZ,simprocAttr,hn,hS9.ld 0 rfl,q1,q2,q3,h1,h2,h3,h4,h5]
  refine iA (fun h6=> ?_) (fun h6=> ?_)
  ·simp(disch:=omega) only[↓RA,RZ,simprocAttr,hn,rY,q1,q2,q3,h1,h2,h3,h4,h5,h6]
   (first|(have e1:mP ks.length cs i=10:=by rw[hC,if_pos (by omega)]);exact⟨by rw[key (by rw[e1];decide),e1],hS9.forget⟩|(have e1:mP ks.length cs i=3:=by rw[hC,if_neg (by omega),if_pos (by omega)]);exact⟨by rw[key (by rw[e1];decide),e1],hS9.forget⟩|(have e1:mP ks.length cs i=7:=by rw[hC,if_neg (by omega),if_neg (by omega),if_pos (by omega)]);exact⟨by rw[key (by rw[e1];decide),e1],hS9.forget⟩)
  simp(disch:=omega) only[↓RA,RZ,simprocAttr,hn,hS9.ld 0 rfl,q1,q2,q3,h1,h2,h3,h4,h5,h6]
  refine jC (fun h7=> ?_) (fun h7=> ?_)
  ·simp(disch:=omega) only[↓RA,RZ,simprocAttr,hn,hS9.ld 0 rfl,q1,q2,q3,h3,h4,h5,h6,h7]
   refine iA (fun h8=> ?_) (fun h8=> ?_)
   ·simp(disch:=omega) only[↓RA,RZ,simprocAttr,hn,rY,q1,q2,q3,h3,h4,h7,h8]
    (first|(have e1:mP ks.length cs i=10:=by rw[hC,if_pos (by omega)]);exact⟨by rw[key (by rw[e1];decide),e1],hS9.forget⟩|(have e1:mP ks.length cs i=3:=by rw[hC,if_neg (by omega),if_pos (by omega)]);exact⟨by rw[key (by rw[e1];decide),e1],hS9.forget⟩|(have e1:mP ks.length cs i=7:=by rw[hC,if_neg (by omega),if_neg (by omega),if_pos (by omega)]);exact⟨by rw[key (by rw[e1];decide),e1],hS9.forget⟩)
   simp(disch:=omega) only[↓RA,RZ,simprocAttr,hn,g0,g1,g27,g28,g29,q1,q2,q3,h3,h4,h5,h6,h7,h8]
   have e0:mP ks.length cs i=0:=by rw[hC,if_neg (by omega),if_neg (by omega),if_neg (by omega)]
   exact⟨n-1,by omega,i+1,⟨by omega,fun j hj=>by rcases dm.1 hj with e|e;(· exact hz j e);(· rw[e];exact e0)⟩,by simp,hS9.sub (by simp)⟩
  simp(disch:=omega) only[↓RA,RZ,simprocAttr,hn,g0,g1,g27,g28,g29,q1,q2,q3,h1,h2,h3,h4,h5,h6,h7]
  have e0:mP ks.length cs i=0:=by rw[hC,if_neg (by omega),if_neg (by omega),if_neg (by omega)]
  exact⟨n-1,by omega,i+1,⟨by omega,fun j hj=>by rcases dm.1 hj with e|e;(· exact hz j e);(· rw[e];exact e0)⟩,by simp,hS9.sub (by simp)⟩
 simp(disch:=omega) only[↓RA,RZ,simprocAttr,hn,rY,q1]
 exact⟨by rw[hE,kS _ _ fun j hj=>hz j (by omega)],hS5.forget⟩
def oO(rs:List Rk)(lo hi:Int)(l:List Stp)(j:Nat):Int:=if stopE rs lo hi (iB l j)≠0 then stopE rs lo hi (iB l j)else if ∃q,q<j∧(iB l q).name=(iB l j).name then 9 else 0
def divE(rs:List Rk)(d:Dvn):Int:=if qT d.lo d.hi≠0 then qT d.lo d.hi else if 60<d.stops.length then 4 else lO (oO rs d.lo d.hi d.stops) d.stops.length
theorem a0K{kvs kvs':List (ByteArray×Bool)}{f:Nat→ByteArray}{i:Nat}(h:∀t,qD kvs t=true↔∃q,q<i∧f q=t)(h':∀t,qD kvs' t=(qD kvs t||decide (t=f i))):∀t,qD kvs' t=true↔∃q,q<i+1∧f q=t:=by
 intro t
 rw[h',eu,h,decide_eq_true_iff]
 constructor
 ·rintro(⟨q,hq,e⟩|e)
  ·exact⟨q,by omega,e⟩
  ·exact⟨i,by omega,e.symm⟩
 ·rintro⟨q,hq,e⟩
  rcases dm.1 hq with hh|hh
  ·exact .inl ⟨q,hh,e⟩
  ·right;rw[←e,hh]
theorem a1D(t:ByteArray):qD [] t=false:=rfl
theorem c3a(o:Org)(ho:o.In H)(d:Dvn)(hd:d.In H):
 Fn prog 110 [.agg #[.string o.name,o.rv,o.dv,o.cv],.agg #[.string d.name,.bool d.pedal,I d.lo,I d.hi,d.sv]] H fun v H'=>v=I (divE o.ranks d)∧St prog H H' []:=by
 have hl:=hd.2.2
 refine .aF func110 rfl (by kernel_rfl) (m:=47) rfl fun l hn g0 g1=> ?_
 simp(disch:=omega) only[↓RA,RB,simprocAttr,g0]
 refine(sR H).eNew 4 [(.string o.name),o.rv,o.dv,o.cv] rfl rfl (by simp[OC,((sR H).sl ho.1).cells.2.1,((sR H).sl ho.2.2.1).cells.2.1,((sR H).sl ho.2.2.2.2.1).cells.2.1]) mX fun A1 H1 hS1=> ?_
 simp only[RT]at hS1
 simp(disch:=omega) only[↓RA,RB,simprocAttr,g1]
 refine hS1.eNew 5 [(.string d.name),(.bool d.pedal),I d.lo,I d.hi,d.sv] rfl rfl (by simp[OC,(hS1.sl hd.1).cells.2.1]) a1g fun A2 H2 hS2=> ?_
 simp only[RT]at hS2
 simp(disch:=omega) only[↓RA,RZ,simprocAttr,hn,hS2.ai 1 rfl]
 refine hS2.cF (a1z d.lo d.hi) fun H3 hS3=> ?_
 simp(disch:=omega) only[↓RA,RB,simprocAttr,hn]
 refine iA (fun p1=> ?_) (fun p1=> ?_)
 ·simp(disch:=omega) only[↓RA,RZ,simprocAttr,hn,a7a,p1]
  exact⟨by rw[divE,if_pos p1],hS3.forget⟩
 simp(disch:=omega) only[↓RA,RZ,simprocAttr,hn,hS3.ld 1 rfl,(hS3.sl hd.1).len,p1]
 refine iA (fun p2=> ?_) (fun p2=> ?_)
 ·simp(disch:=omega) only[↓RA,RZ,simprocAttr,hn,a7a,p1,p2]
  exact⟨by rw[divE,if_neg p1,if_pos (by omega)],hS3.forget⟩
 have hE:divE o.ranks d=lO (oO o.ranks d.lo d.hi d.stops) d.stops.length:=by rw[divE,if_neg p1,if_neg (by omega)]
 simp(disch:=omega) only[↓RA,simprocAttr]
 refine hS3.bQ a8N fun M1 H4 hS4=> ?_
 simp only[RT]at hS4
 simp(disch:=omega) only[↓RA,RZ,simprocAttr,hn,hS4.ld 1 rfl,(hS4.sl hd.1).len,p1,p2]
 refine Wp.aj (fun n l H'=>l.length=47∧get l 2=(ptr A1 0 4)∧get l 3=(ptr A2 0 5)∧get l 6=(.map (some M1))∧get l 23=d.sv∧get l 24=I d.stops.length∧∃(i:Nat)(kvs:List (ByteArray×Bool)),(n+i=d.stops.length∧(∀j,j<i→oO o.ranks d.lo d.hi d.stops j=0)∧(∀t,qD kvs t=true↔∃q,q<i∧(iB d.stops q).name=t))∧get l 25=I i∧St prog H H' [⟨ptr A1 0 4,0,[(.string o.name),o.rv,o.dv,o.cv]⟩,⟨ptr A2 0 5,0,[(.string d.name),(.bool d.pedal),I d.lo,I d.hi,d.sv]⟩,⟨.map (some M1),0,KS kvs⟩]) d.stops.length ?_ ?_
 ·simp(disch:=omega) only[RB,RC,simprocAttr,hn]
  exact⟨0,[],⟨by omega,by simp,by simp[a1D]⟩,rfl,hS4⟩
 rintro n l H5⟨hn,g2,g3,g6,g23,g24,i,kvs,⟨hi1,hz,hk⟩,g25,hS5⟩
 simp(disch:=omega) only[↓RA,RB,simprocAttr,hn,g24,g25]
 refine iA (fun q1=> ?_) (fun q1=> ?_)
 ·have key:oO o.ranks d.lo d.hi d.stops i≠0→divE o.ranks d=oO o.ranks d.lo d.hi d.stops i:=fun hne=>by rw[hE,oI _ _ i (by omega) hne hz]
  simp(disch:=omega) only[↓RA,RZ,simprocAttr,hn,g23,g25,(hS5.sl hd.1).idx,(hS5.sl hd.1).ai,Stp.cells,q1]
  refine hS5.eNew 4 [(.string ⟨#[]⟩),I 0,I 0,(.slice none 0 0)] rfl rfl rfl oA fun A3 H6 hS6=> ?_
  simp only[RT]at hS6
  simp(disch:=omega) only[↓RA,RZ,simprocAttr,hn,q1]
  refine hS6.aa 3 rfl [(.string (iB d.stops i).name),I (iB d.stops i).num,I (iB d.stops i).den,(iB d.stops i).gv] rfl (by simp[OC,(hS6.sl (hd.2.1 (iB d.stops i) (iD (by omega))).1).cells.2.1]) oA (by simp) fun H7 hS7=> ?_
  simp only[RT]at hS7
  simp(disch:=omega) only[↓RA,RZ,simprocAttr,hn,g2,g3,hS7.ld 0 rfl,hS7.ai 1 rfl,b3h (hS7.sl ho.1).cells,hS7.ai 3 rfl,q1]
  refine hS7.cF (b9b o.rv o.ranks d.lo d.hi (hS7.sl ho.1) (fun r h=>(ho.2.1 r h).ak hS7) ho.2.2.2.2.2.1 (iB d.stops i) ((hd.2.1 _ (iD (by omega))).ak hS7)) fun H8 hS8=> ?_
  simp(disch:=omega) only[↓RA,RZ,simprocAttr,hn,q1]
  refine iA (fun q2=> ?_) (fun q2=> ?_)
  ·have e1:oO o.ranks d.lo d.hi d.stops i=stopE o.ranks d.lo d.hi (iB d.stops i):=by rw[oO,if_pos q2]
   simp(disch:=omega) only[↓RA,RZ,simprocAttr,hn,a7a,q1,q2]
   exact⟨by rw[key (by rw[e1];exact q2),e1],hS8.forget⟩
  simp(disch:=omega) only[↓RA,RZ,simprocAttr,hn,g6,hS8.ld 3 rfl,q1,q2]
  have hM1:=hS8.pick (os':=[⟨.map (some M1),0,_⟩]) [2] (by decide) rfl
  have hR1:=hS8.pick (os':=[⟨.map (some M1),0,_⟩,⟨ptr A1 0 4,0,_⟩,⟨ptr A2 0 5,0,_⟩,⟨ptr A3 0 4,0,_⟩]) [2,0,1,3] (by decide) rfl
  refine iG (a2L _ M1 kvs (iB d.stops i).name hM1.ay) ?_
  rintro r H9⟨rfl,kvs',hk',hT3⟩
  have hS9:=hR1.frame hT3
  simp only[RT]at hS9
  simp(disch:=omega) only[↓RA,RZ,simprocAttr,hn,q1,q2]
  refine iA (fun q3=> ?_) (fun q3=> ?_)
  ·have q3':qD kvs (iB d.stops i).name=true:=by
    by_cases hh:qD kvs (iB d.stops i).name=true
    ·exact hh
    ·rw[if_neg hh]at q3;exact absurd rfl q3
   have e1:oO o.ranks d.lo d.hi d.stops i=9:=by rw[oO,if_neg q2,if_pos ((hk _).1 q3')]
   simp(disch:=omega) only[↓RA,RZ,simprocAttr,hn,a7a,q1,q2,q3]
   exact⟨by rw[key (by rw[e1];decide),e1,if_pos q3'],hS9.forget⟩
  have q3':¬qD kvs (iB d.stops i).name=true:=fun hh=>q3 (by rw[if_pos hh];decide)
  have e0:oO o.ranks d.lo d.hi d.stops i=0:=by rw[oO,if_neg q2,if_neg (fun hh=>q3' ((hk _).2 hh))]
  simp(disch:=omega) only[↓RA,RZ,simprocAttr,hn,g2,g3,g6,g23,g24,g25,q1,q2,q3]
  exact⟨n-1,by omega,i+1,kvs',⟨by omega,fun j hj=>by rcases dm.1 hj with e|e;(· exact hz j e);(· rw[e];exact e0),a0K (f:=fun q=>(iB d.stops q).name) hk hk'⟩,by simp,hS9.pick [1,2,0] (by decide) rfl⟩
 simp(disch:=omega) only[↓RA,RZ,simprocAttr,hn,a7a,q1]
 exact⟨by rw[hE,kS _ _ fun j hj=>hz j (by omega)],hS5.forget⟩
def nT(l:List Rk)(j:Nat):Int:=if rankE (iB l j)≠0 then rankE (iB l j)else if ∃q,q<j∧(iB l q).name=(iB l j).name then 9 else 0
def sW(rs:List Rk)(l:List Dvn)(j:Nat):Int:=if kV (iB l j).name=false then 8 else if ∃q,q<j∧(iB l q).name=(iB l j).name then 9 else divE rs (iB l j)
def kps(l:List Dvn):List (Int×Int):=l.map fun d=>(d.lo,d.hi)
def organE(o:Org):Int:=if kV o.name=false then 8 else if 60<o.ranks.length then 4 else if lO (nT o.ranks) o.ranks.length≠0 then lO (nT o.ranks) o.ranks.length else
 if o.dvs.length=0 then 13 else if 8<o.dvs.length then 4 else if lO (sW o.ranks o.dvs) o.dvs.length≠0 then lO (sW o.ranks o.dvs) o.dvs.length else tQ (kps o.dvs) o.cpls
theorem vW(k:Int×Int):(kpc k).length=2:=rfl
theorem b6q(l:List Dvn)(i:Nat)(h:i<l.length):(kps (l.take (i+1))).flatMap kpc=(kps (l.take i)).flatMap kpc++[I (iB l i).lo,I (iB l i).hi]:=by
 unfold kps
 rw[rO l i h,dM,dz]
 rfl
theorem a2V(o:Org)(ho:o.In H):Fn prog 73 [.agg #[.string o.name,o.rv,o.dv,o.cv]] H fun v H'=>v=I (organE o)∧St prog H H' []:=by
 have hlr:=ho.2.2.2.2.2.1
 have hld:=ho.2.2.2.2.2.2.1
 have hlc:=ho.2.2.2.2.2.2.2
 refine .aT func73 rfl (by kernel_rfl) (m:=89) rfl fun l hn g0=> ?_
 simp(disch:=omega) only[↓RA,RB,simprocAttr,g0]
 refine(sR H).eNew 4 [(.string o.name),o.rv,o.dv,o.cv] rfl rfl (by simp[OC,((sR H).sl ho.1).cells.2.1,((sR H).sl ho.2.2.1).cells.2.1,((sR H).sl ho.2.2.2.2.1).cells.2.1]) mX fun A1 H1 hS1=> ?_
 simp only[RT]at hS1
 simp(disch:=omega) only[↓RA,RZ,simprocAttr,hn,hS1.ld 0 rfl]
 refine hS1.cF (qF _) fun H2 hS2=> ?_
 simp(disch:=omega) only[↓RA,RB,simprocAttr,hn]
 refine jJ (fun p1=> ?_) (fun p1=> ?_)
 ·simp(disch:=omega) only[↓RA,RB,simprocAttr,hn,a3H,p1]
  exact⟨by rw[organE,if_pos (by simpa using p1)],hS2.forget⟩
 have p1':¬kV o.name=false:=by simpa using p1
 simp(disch:=omega) only[↓RA,RZ,simprocAttr,hn,hS2.ld 0 rfl,(hS2.sl ho.1).len,p1]
 refine iA (fun p2=> ?_) (fun p2=> ?_)
 ·simp(disch:=omega) only[↓RA,RZ,simprocAttr,hn,a3H,p1,p2]
  exact⟨by rw[organE,if_neg p1',if_pos (by omega)],hS2.forget⟩
 simp(disch:=omega) only[↓RA,simprocAttr]
 refine hS2.bQ a8N fun M1 H3 hS3=> ?_
 simp only[RT]at hS3
 simp(disch:=omega) only[↓RA,RZ,simprocAttr,hn,hS3.ld 0 rfl,(hS3.sl ho.1).len,p1,p2]
 refine Wp.aj (fun n l H'=>l.length=89∧get l 1=(ptr A1 0 4)∧get l 3=(.map (some M1))∧get l 25=o.rv∧get l 26=I o.ranks.length∧∃(i:Nat)(kvs:List (ByteArray×Bool)),(n+i=o.ranks.length∧(∀j,j<i→nT o.ranks j=0)∧(∀t,qD kvs t=true↔∃q,q<i∧(iB o.ranks q).name=t))∧get l 27=I i∧St prog H H' [⟨ptr A1 0 4,0,[(.string o.name),o.rv,o.dv,o.cv]⟩,⟨.map (some M1),0,KS kvs⟩]) o.ranks.length ?_ ?_
 ·simp(disch:=omega) only[RB,RC,simprocAttr,hn]
  exact⟨0,[],⟨by omega,by simp,by simp[a1D]⟩,rfl,hS3⟩
 rintro n l H4⟨hn,g1,g3,g25,g26,i,kvs,⟨hi1,hz,hk⟩,g27,hS4⟩
 simp(disch:=omega) only[↓RA,RB,simprocAttr,hn,g26,g27]
 refine iA (fun q1=> ?_) (fun q1=> ?_)
 ·have key:nT o.ranks i≠0→organE o=nT o.ranks i:=fun hne=>by rw[organE,if_neg p1',if_neg (by omega),oI _ _ i (by omega) hne hz,if_pos hne]
  simp(disch:=omega) only[↓RA,RZ,simprocAttr,hn,g25,g27,(hS4.sl ho.1).idx,(hS4.sl ho.1).ai,Rk.cells,q1]
  refine hS4.eNew 6 [(.string ⟨#[]⟩),(.string ⟨#[]⟩),I 0,I 0,I 0,(.slice none 0 0)] rfl rfl rfl tX fun A2 H5 hS5=> ?_
  simp only[RT]at hS5
  simp(disch:=omega) only[↓RA,RZ,simprocAttr,hn,q1]
  refine hS5.aa 2 rfl [(.string (iB o.ranks i).name),(.string (iB o.ranks i).tone),I (iB o.ranks i).num,I (iB o.ranks i).den,I (iB o.ranks i).first,(iB o.ranks i).wv] rfl (by simp[OC,(hS5.sl (ho.2.1 (iB o.ranks i) (iD (by omega))).1).cells.2.1]) tX (by simp) fun H6 hS6=> ?_
  simp only[RT]at hS6
  simp(disch:=omega) only[↓RA,RZ,simprocAttr,hn,hS6.ai 2 rfl,q1]
  refine hS6.cF (b1S (iB o.ranks i) ((ho.2.1 _ (iD (by omega))).ak hS6)) fun H7 hS7=> ?_
  simp(disch:=omega) only[↓RA,RZ,simprocAttr,hn,q1]
  refine iA (fun q2=> ?_) (fun q2=> ?_)
  ·have e1:nT o.ranks i=rankE (iB o.ranks i):=by rw[nT,if_pos q2]
   simp(disch:=omega) only[↓RA,RZ,simprocAttr,hn,a3H,q1,q2]
   exact⟨by rw[key (by rw[e1];exact q2),e1],hS7.forget⟩
  simp(disch:=omega) only[↓RA,RZ,simprocAttr,hn,g3,hS7.ld 2 rfl,q1,q2]
  have hM1:=hS7.pick (os':=[⟨.map (some M1),0,_⟩]) [1] (by decide) rfl
  have hR1:=hS7.pick (os':=[⟨.map (some M1),0,_⟩,⟨ptr A1 0 4,0,_⟩,⟨ptr A2 0 6,0,_⟩]) [1,0,2] (by decide) rfl
  refine iG (a2L _ M1 kvs (iB o.ranks i).name hM1.ay) ?_
  rintro r H8⟨rfl,kvs',hk',hT3⟩
  have hS8:=hR1.frame hT3
  simp only[RT]at hS8
  simp(disch:=omega) only[↓RA,RZ,simprocAttr,hn,q1,q2]
  refine iA (fun q3=> ?_) (fun q3=> ?_)
  ·have q3':qD kvs (iB o.ranks i).name=true:=by
    by_cases hh:qD kvs (iB o.ranks i).name=true
    ·exact hh
    ·rw[if_neg hh]at q3;exact absurd rfl q3
   have e1:nT o.ranks i=9:=by rw[nT,if_neg q2,if_pos ((hk _).1 q3')]
   simp(disch:=omega) only[↓RA,RZ,simprocAttr,hn,a3H,q1,q2,q3]
   exact⟨by rw[key (by rw[e1];decide),e1,if_pos q3'],hS8.forget⟩
  have q3':¬qD kvs (iB o.ranks i).name=true:=fun hh=>q3 (by rw[if_pos hh];decide)
  have e0:nT o.ranks i=0:=by rw[nT,if_neg q2,if_neg (fun hh=>q3' ((hk _).2 hh))]
  simp(disch:=omega) only[↓RA,RZ,simprocAttr,hn,g1,g3,g25,g26,g27,q1,q2,q3]
  exact⟨n-1,by omega,i+1,kvs',⟨by omega,fun j hj=>by rcases dm.1 hj with e|e;(· exact hz j e);(· rw[e];exact e0),a0K (f:=fun q=>(iB o.ranks q).name) hk hk'⟩,by simp,hS8.pick [1,0] (by decide) rfl⟩
 have hR:lO (nT o.ranks) o.ranks.length=0:=kS _ _ fun j hj=>hz j (by omega)
 clear hk hz
 simp(disch:=omega) only[↓RA,RZ,simprocAttr,hn,g1,hS4.ld 0 rfl,(hS4.sl ho.2.2.1).len,q1]
 refine iA (fun p4=> ?_) (fun p4=> ?_)
 ·simp(disch:=omega) only[↓RA,RZ,simprocAttr,hn,a3H,q1,p4]
  exact⟨by rw[organE,if_neg p1',if_neg (by omega),if_neg (by rw[hR];simp),if_pos (by omega)],hS4.forget⟩
 simp(disch:=omega) only[↓RA,RZ,simprocAttr,hn,g1,hS4.ld 0 rfl,(hS4.sl ho.2.2.1).len,q1,p4]
 refine iA (fun p5=> ?_) (fun p5=> ?_)
 ·simp(disch:=omega) only[↓RA,RZ,simprocAttr,hn,a3H,q1,p4,p5]
  exact⟨by rw[organE,if_neg p1',if_neg (by omega),if_neg (by rw[hR];simp),if_neg (by omega),if_pos (by omega)],hS4.forget⟩
 have hE:organE o=if lO (sW o.ranks o.dvs) o.dvs.length≠0 then lO (sW o.ranks o.dvs) o.dvs.length else tQ (kps o.dvs) o.cpls:=by
  rw[organE,if_neg p1',if_neg (by omega),if_neg (by rw[hR];simp),if_neg (by omega),if_neg (by omega)]
 clear hR
 simp(disch:=omega) only[↓RA,simprocAttr]
 refine hS4.bQ a8N fun M2 H9 hS9=> ?_
 simp only[RT]at hS9
 simp(disch:=omega) only[↓RA,RZ,simprocAttr,hn,g1,hS9.ld 0 rfl,(hS9.sl ho.2.2.1).len,q1,p4,p5]
 have hS10:=hS9.pick (os':=[⟨ptr A1 0 4,0,_⟩,⟨.map (some M2),0,_⟩]) [0,2] (by decide) rfl
 have hS11:=hS10.nil 1
 simp only[RT]at hS11
 refine Wp.aj (fun n l H'=>l.length=89∧get l 1=(ptr A1 0 4)∧get l 3=(.map (some M2))∧get l 56=o.dv∧get l 57=I o.dvs.length∧∃(i:Nat)(kvs:List (ByteArray×Bool))(w:Value),(n+i=o.dvs.length∧(∀j,j<i→sW o.ranks o.dvs j=0)∧(∀t,qD kvs t=true↔∃q,q<i∧(iB o.dvs q).name=t))∧get l 58=I i∧get l 8=w∧St prog H H' [⟨ptr A1 0 4,0,[(.string o.name),o.rv,o.dv,o.cv]⟩,⟨.map (some M2),0,KS kvs⟩,⟨w,2,(kps (o.dvs.take i)).flatMap kpc⟩]) o.dvs.length ?_ ?_
 ·simp(disch:=omega) only[RB,RC,simprocAttr,hn,g1]
  exact⟨0,[],_,⟨by omega,by simp,by simp[a1D]⟩,rfl,rfl,hS11⟩
 rintro n l H10⟨hn,g1,g3,g56,g57,i,kvs,w,⟨hi1,hz,hk⟩,g58,g8,hS12⟩
 simp(disch:=omega) only[↓RA,RB,simprocAttr,hn,g57,g58]
 refine iA (fun q1=> ?_) (fun q1=> ?_)
 ·have key:sW o.ranks o.dvs i≠0→organE o=sW o.ranks o.dvs i:=fun hne=>by rw[hE,oI _ _ i (by omega) hne hz,if_pos hne]
  simp(disch:=omega) only[↓RA,RZ,simprocAttr,hn,g56,g58,(hS12.sl ho.2.2.1).idx,(hS12.sl ho.2.2.1).ai,Dvn.cells,q1]
  refine hS12.eNew 5 [(.string ⟨#[]⟩),(.bool false),I 0,I 0,(.slice none 0 0)] rfl rfl rfl a1g fun A3 H11 hS13=> ?_
  simp only[RT]at hS13
  simp(disch:=omega) only[↓RA,RZ,simprocAttr,hn,q1]
  refine hS13.aa 3 rfl [(.string (iB o.dvs i).name),(.bool (iB o.dvs i).pedal),I (iB o.dvs i).lo,I (iB o.dvs i).hi,(iB o.dvs i).sv] rfl (by simp[OC,(hS13.sl (ho.2.2.2.1 (iB o.dvs i) (iD (by omega))).1).cells.2.1]) a1g (by simp) fun H12 hS14=> ?_
  simp only[RT]at hS14
  simp(disch:=omega) only[↓RA,RZ,simprocAttr,hn,hS14.ld 3 rfl,q1]
  refine hS14.cF (qF _) fun H13 hS15=> ?_
  simp(disch:=omega) only[↓RA,RZ,simprocAttr,hn,q1]
  refine jJ (fun q2=> ?_) (fun q2=> ?_)
  ·have e1:sW o.ranks o.dvs i=8:=by rw[sW,if_pos (by simpa using q2)]
   simp(disch:=omega) only[↓RA,RZ,simprocAttr,hn,a3H,q1,q2]
   exact⟨by rw[key (by rw[e1];decide),e1],hS15.forget⟩
  have q2':¬kV (iB o.dvs i).name=false:=by simpa using q2
  simp(disch:=omega) only[↓RA,RZ,simprocAttr,hn,g3,hS15.ld 3 rfl,q1,q2]
  have hM2:=hS15.pick (os':=[⟨.map (some M2),0,_⟩]) [1] (by decide) rfl
  have hR2:=hS15.pick (os':=[⟨.map (some M2),0,_⟩,⟨ptr A1 0 4,0,_⟩,⟨w,2,_⟩,⟨ptr A3 0 5,0,_⟩]) [1,0,2,3] (by decide) rfl
  refine iG (a2L _ M2 kvs (iB o.dvs i).name hM2.ay) ?_
  rintro r H14⟨rfl,kvs',hk',hT5⟩
  have hS16:=hR2.frame hT5
  simp only[RT]at hS16
  simp(disch:=omega) only[↓RA,RZ,simprocAttr,hn,q1,q2]
  refine iA (fun q3=> ?_) (fun q3=> ?_)
  ·have q3':qD kvs (iB o.dvs i).name=true:=by
    by_cases hh:qD kvs (iB o.dvs i).name=true
    ·exact hh
    ·rw[if_neg hh]at q3;exact absurd rfl q3
   have e1:sW o.ranks o.dvs i=9:=by rw[sW,if_neg q2',if_pos ((hk _).1 q3')]
   simp(disch:=omega) only[↓RA,RZ,simprocAttr,hn,a3H,q1,q2,q3]
   exact⟨by rw[key (by rw[e1];decide),e1,if_pos q3'],hS16.forget⟩
  have q3':¬qD kvs (iB o.dvs i).name=true:=fun hh=>q3 (by rw[if_pos hh];decide)
  simp(disch:=omega) only[↓RA,RZ,simprocAttr,hn,g1,hS16.ai 1 rfl,hS16.ai 3 rfl,q1,q2,q3]
  refine hS16.cF (c3a o (ho.ak hS16) (iB o.dvs i) ((ho.2.2.2.1 _ (iD (by omega))).ak hS16)) fun H15 hS17=> ?_
  have e0:sW o.ranks o.dvs i=divE o.ranks (iB o.dvs i):=by rw[sW,if_neg q2',if_neg (fun hh=>q3' ((hk _).2 hh))]
  simp(disch:=omega) only[↓RA,RZ,simprocAttr,hn,q1,q2,q3]
  refine iA (fun q4=> ?_) (fun q4=> ?_)
  ·simp(disch:=omega) only[↓RA,RZ,simprocAttr,hn,a3H,q1,q2,q3,q4]
   exact⟨by rw[key (by rw[e0];exact q4),e0],hS17.forget⟩
  have e2:sW o.ranks o.dvs i=0:=by rw[e0];exact dx.1 q4
  simp(disch:=omega) only[↓RA,RZ,simprocAttr,hn,g8,hS17.ai 3 rfl,q1,q2,q3,q4]
  refine hS17.ag [I (iB o.dvs i).lo,I (iB o.dvs i).hi] c1p c4p rfl rfl (by simp[Value.cells]) rfl rfl (by decide) (by decide) fun w1 H16 hS18=> ?_
  simp only[RT]at hS18
  simp(disch:=omega) only[↓RA,RZ,simprocAttr,hn,q1,q2,q3,q4]
  refine hS18.aq 2 rfl (hS18.rd 4 rfl) c1p (by rw[iL vW];simp[kps];omega) fun w2 H17 hS19=> ?_
  simp only[RT]at hS19
  simp(disch:=omega) only[↓RA,RZ,simprocAttr,hn,g1,g3,g56,g57,g58,q1,q2,q3,q4]
  refine⟨n-1,by omega,i+1,kvs',_,⟨by omega,fun j hj=>by rcases dm.1 hj with e|e;(· exact hz j e);(· rw[e];exact e2),a0K (f:=fun q=>(iB o.dvs q).name) hk hk'⟩,by simp,rfl,?_⟩
  rw[b6q _ _ (by omega)]
  exact hS19.pick [1,0,2] (by decide) rfl
 have hD:lO (sW o.ranks o.dvs) o.dvs.length=0:=kS _ _ fun j hj=>hz j (by omega)
 have hi:i=o.dvs.length:=by omega
 subst hi
 rw[dU]at hS12
 simp(disch:=omega) only[↓RA,RZ,simprocAttr,hn,g1,g8,hS12.ld 0 rfl,q1]
 refine hS12.cF (a8c w o.cv (kps o.dvs) o.cpls (hS12.av 2 rfl vW) (hS12.sl ho.2.2.2.2.1) (by simp[kps];omega) hlc) fun H18 hS20=> ?_
 simp(disch:=omega) only[↓RA,RZ,simprocAttr,hn,a3H,q1]
 exact⟨by rw[hE,if_neg (by rw[hD];simp)],hS20.forget⟩
def kY:List (Int×Int):=[(8,1),(4,1),(16,1),(8,3),(2,1),(8,5)]
def lA:List (Int×Int):=[(8,1),(4,1),(16,1),(2,1),(8,3),(8,5),(4,3),(1,1),(32,1),(16,3),(16,5),(32,3),(8,7),(2,3),(1,2),(64,1)]
theorem a6w(k:Nat):Fn prog 70 [.int .u8 k] H fun r H'=>r=.agg #[I (iB kY (k%6)).1,I (iB kY (k%6)).2]∧St prog H H' []:=by
 refine .aT func70 rfl (by kernel_rfl) (m:=14) rfl fun l hn g0=> ?_
 simp(disch:=omega) only[↓RA,RZ,simprocAttr]
 refine(sR H).eNew 2 [I 0,I 0] rfl rfl rfl uI fun A1 H1 hS1=> ?_
 simp only[RT]at hS1
 simp(disch:=omega) only[↓RA,RB,simprocAttr,hn,qQ]
 refine hS1.ag [I 8,I 1,I 4,I 1,I 16,I 1,I 8,I 3,I 2,I 1,I 8,I 5] c1I c1b rfl rfl (by simp[Value.cells]) rfl rfl (by decide) (by decide) fun w1 H2 hS2=> ?_
 simp only[RT]at hS2
 simp(disch:=omega) only[↓RA,RZ,simprocAttr,hn,g0]
 have hR:St prog H H2 [⟨ptr A1 0 2,0,_⟩,⟨w1,2,kY.flatMap kpc⟩]:=hS2
 have hL:kY.length=6:=rfl
 have hk:k%6<6:=eM _ (by decide)
 have hk2:(k:Int).tmod 6=((k%6:Nat):Int):=(eh k 6).symm
 try rw[hk2]
 simp(disch:=omega) only[↓RA,RZ,simprocAttr,hn,(hR.av 1 rfl vW).idx,(hR.av 1 rfl vW).ai,kpc]
 refine hR.aa 0 rfl [I (iB kY (k%6:Nat)).1,I (iB kY (k%6:Nat)).2] rfl rfl uI (by simp) fun H3 hS3=> ?_
 simp only[RT]at hS3
 simp(disch:=omega) only[↓RA,RZ,simprocAttr,hn,c8a,hS3.ai 0 rfl]
 first|exact hS3.forget|exact⟨rfl,hS3.forget⟩
theorem a7x(k:Nat):Fn prog 69 [.int .u8 k] H fun r H'=>r=.agg #[I (iB lA (k%16)).1,I (iB lA (k%16)).2]∧St prog H H' []:=by
 refine .aT func69 rfl (by kernel_rfl) (m:=24) rfl fun l hn g0=> ?_
 simp(disch:=omega) only[↓RA,RZ,simprocAttr]
 refine(sR H).eNew 2 [I 0,I 0] rfl rfl rfl uI fun A1 H1 hS1=> ?_
 simp only[RT]at hS1
 simp(disch:=omega) only[↓RA,RB,simprocAttr,hn,qQ]
 refine hS1.ag [I 8,I 1,I 4,I 1,I 16,I 1,I 2,I 1,I 8,I 3,I 8,I 5,I 4,I 3,I 1,I 1,I 32,I 1,I 16,I 3,I 16,I 5,I 32,I 3,I 8,I 7,I 2,I 3,I 1,I 2,I 64,I 1] c1I c1b rfl rfl (by simp[Value.cells]) rfl rfl (by decide) (by decide) fun w1 H2 hS2=> ?_
 simp only[RT]at hS2
 simp(disch:=omega) only[↓RA,RZ,simprocAttr,hn,g0]
 have hR:St prog H H2 [⟨ptr A1 0 2,0,_⟩,⟨w1,2,lA.flatMap kpc⟩]:=hS2
 have hL:lA.length=16:=rfl
 have hk:k%16<16:=eM _ (by decide)
 have hk2:(k:Int).tmod 16=((k%16:Nat):Int):=(eh k 16).symm
 try rw[hk2]
 simp(disch:=omega) only[↓RA,RZ,simprocAttr,hn,(hR.av 1 rfl vW).idx,(hR.av 1 rfl vW).ai,kpc]
 refine hR.aa 0 rfl [I (iB lA (k%16:Nat)).1,I (iB lA (k%16:Nat)).2] rfl rfl uI (by simp) fun H3 hS3=> ?_
 simp only[RT]at hS3
 simp(disch:=omega) only[↓RA,RZ,simprocAttr,hn,c7p,hS3.ai 0 rfl]
 first|exact hS3.forget|exact⟨rfl,hS3.forget⟩
end Go.Ds
