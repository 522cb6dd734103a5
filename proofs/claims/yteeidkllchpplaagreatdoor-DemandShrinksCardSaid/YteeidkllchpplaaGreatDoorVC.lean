/-
  A part of the proof of DemandShrinks.
-/
import Derived.Test.YteeidkllchpplaaGreatDoorVB
import Derived.Test.YteeidkllchpplaaGreatDoorProg
import Derived.KernelRfl
import Derived.Lib.LaidTab
import Derived.Stop.LaidErr
import Derived.Laws.Strings
set_option linter.unusedVariables false
set_option linter.unusedSimpArgs false
set_option linter.defProp false
set_option linter.unusedSectionVars false
namespace Go.Ds
variable {P:Program}
structure CallsOk(P:Program)(C:Calls')(H0:Heap):Prop where
 fn:∀p f args H v H1,LK H0 H→(C.fn p f args H).Is v H1→p=kT f→(FnS P f args H (fun v' H'=>v'=v∧H'=H1)∨qP P f args H=some (v,H1))∧LK H H1
 rd:∀L args H v H1,LK H0 H→(C.rd L args H).Is v H1→zC P L args H v H1∧LK H H1
noncomputable def iV (x:Operand):LArg:=match x with
 | .tmp t=>.t (kT t)
 | .const v=>.c v
 | .global g=>.c (.pointer (some ⟨g,0,none⟩))
 | .func k=>.c (.func (.func k) #[] #[])
theorem lE{α:Type}(x:Operand)(K:LArg→α):lV x K=K (iV x):=by
 cases x with
 | tmp t=>exact lO _ _
 | _=>rfl
theorem jW{f:Fr}{l:List Value}(h:FAg f l)(x:Operand):mQ f (iV x)=ev l x:=by
 cases x with
 | tmp t=>exact h t
 | _=>rfl
theorem a5u{α:Type}(l:List Operand)(K:List LArg→α):a6e l K=K (l.map iV):=by
 induction l generalizing K with
 | nil=>rfl
 | cons x l ih=>
   show lV x (fun x=>a6e l fun l=>K (x::l))=_
   rw[lE,ih];rfl
theorem a7J{α:Type}{f:Fr}{l:List Value}(h:FAg f l)(xs:List Operand)(K:List Value→α):a5b f (xs.map iV) K=K (xs.map (ev l)):=by
 induction xs generalizing K with
 | nil=>rfl
 | cons x xs ih=>
   show oW (mQ f (iV x)) (fun v=>a5b f (xs.map iV) fun l=>K (v::l))=_
   rw[mU,ih,jW h];rfl
theorem c2C{f:Fr}{l:List Value}(h:FAg f l):evF f=ev l:=by
 funext x
 cases x with
 | tmp t=>exact h t
 | _=>rfl
def xD(P:Program)(o:Oper)(lo:LOp):Prop:=∀C H0 f l H v H1,CallsOk P C H0→LK H0 H→FAg f l→(opF P C lo f H).Is v H1→StepR P o l H v H1∧LK H H1
def LowPl(P:Program)(o:Oper)(lo:LOp):Prop:=∀C f l H v H1,FAg f l→(opF P C lo f H).Is v H1→opD P o l H=some (v,H1)
theorem LowPl.low{o:Oper}{lo:LOp}(hok:o.op.operands.toList.all iP=true)(h:LowPl P o lo):xD P o lo:=
 fun C _ f l H v H1 _ _ hf hr=>by have:=h C f l H v H1 hf hr;exact⟨.op hok this,b8r this⟩
theorem c1j(o:Oper):xD P o .bad:=fun _ _ _ _ _ _ _ _ _ _ h=>absurd h Rs.ax
theorem c0P(o:Oper):LowPl P o (.gen o):=fun C f l H v H1 hf hr=>by
 have hr:(match c3W P o (evF f) H with|some (v,H1)=>Rs.th v H1|none=>.no).Is v H1:=hr
 rw[c2C hf]at hr
 have e:c3W P o (ev l) H=opD P o l H:=rfl
 rw[e]at hr
 split at hr
 ·rename_i v2 H2 h2
  obtain⟨rfl,rfl⟩:=Rs.aS hr
  exact h2
 ·exact absurd hr Rs.ax
section
variable {dst:Option Tmp} {type:TypeId} {pos:String} {after:Array Edge} {guard:Option (Nat×Bool)}
theorem c4A(x:Operand):LowPl P ⟨dst,.move x,type,pos,after,guard⟩ (.mv (iV x)):=fun C f l H v H1 hf hr=>by
 have hr:(oW (mQ f (iV x)) fun v=>Rs.ok v H).Is v H1:=hr
 rw[mU,jW hf]at hr
 obtain⟨rfl,rfl⟩:=Rs.aP hr
 rfl
theorem c4l(x:Operand):LowPl P ⟨dst,.assign x,type,pos,after,guard⟩ (.mv (iV x)):=fun C f l H v H1 hf hr=>by
 have hr:(oW (mQ f (iV x)) fun v=>Rs.ok v H).Is v H1:=hr
 rw[mU,jW hf]at hr
 obtain⟨rfl,rfl⟩:=Rs.aP hr
 rfl
theorem b7V(c a b:Operand):LowPl P ⟨dst,.pick c a b,type,pos,after,guard⟩ (.pick (iV c) (iV a) (iV b)):=fun C f l H v H1 hf hr=>by
 have hr:(b6C (iV c) (iV a) (iV b) f H).Is v H1:=hr
 unfold b6C at hr
 rw[jW hf]at hr
 split at hr
 ·rename_i t ht
  rw[mU]at hr
  simp only[opD,ht]
  cases t
  ·have hr:(Rs.ok (mQ f (iV b)) H).Is v H1:=hr
   rw[jW hf]at hr
   obtain⟨rfl,rfl⟩:=Rs.aP hr;rfl
  ·have hr:(Rs.ok (mQ f (iV a)) H).Is v H1:=hr
   rw[jW hf]at hr
   obtain⟨rfl,rfl⟩:=Rs.aP hr;rfl
 ·exact absurd hr Rs.ax
theorem c0N(a b:Int):c6L a b=a*b:=by cases a<;>cases b<;>rfl
theorem a6C(a b:Int):c6i a b=a.tdiv b:=by cases a<;>cases b<;>rfl
theorem a6m(a b:Int):c7C a b=a.tmod b:=by cases a<;>cases b<;>rfl
theorem b9C{op:BinOp}{g:IntKind→Int→Int→Option Value}(h:c1m op=some g)(k:IntKind)(a b:Int):mR op k a b=g k a b:=by
 cases op<;>simp only[c1m]at h<;>first|(cases h;done)|(injection h with h;subst h)
 all_goals first
  | rfl
  | (simp only[mR,c5q,c0N];done)
  | (simp only[mR,b9X,a6C];done)
  | (simp only[mR,c0v,a6m];done)
  | (simp only[mR,b9X,a6C];rfl)
  | (simp only[mR,c0v,a6m];rfl)
  | (simp only[mR,b9X,a6C];cases eqI b 0<;>rfl)
  | (simp only[mR,c0v,a6m];cases eqI b 0<;>rfl)
theorem c6U{o:Option Value}{H H1:Heap}{v:Value}(h:(oV o H).Is v H1):o=some v∧H1=H:=by
 cases o with
 | none=>exact absurd h Rs.ax
 | some w=>obtain⟨rfl,rfl⟩:=Rs.aS h;exact⟨rfl,rfl⟩
theorem b6p{o:Option Value}{H H1:Heap}{v:Value}(h:(okV o H).Is v H1):o=some v∧H1=H:=by
 cases o with
 | none=>exact absurd h Rs.ax
 | some w=>
   have h:(oW w fun v=>Rs.ok v H).Is v H1:=h
   rw[mU]at h
   obtain⟨rfl,rfl⟩:=Rs.aP h;exact⟨rfl,rfl⟩
theorem c1s{op:BinOp}{g:IntKind→Int→Int→Option Value}(hg:c1m op=some g)(t yt:TypeId)(x y:Operand):LowPl P ⟨dst,.binOp op t x y yt,type,pos,after,guard⟩ (.bin g (iV x) (iV y)):=fun C f l H v H1 hf hr=>by
 have hr:(c4p g (iV x) (iV y) f H).Is v H1:=hr
 unfold c4p at hr
 rw[jW hf]at hr
 split at hr
 ·rename_i k a hx
  unfold c1F at hr
  rw[jW hf]at hr
  split at hr
  ·rename_i k' b hy
   obtain⟨hk,hq⟩:=lJ hr
   obtain rfl:=c0t hk
   obtain⟨hv,rfl⟩:=c6U hq
   rw[←b9C hg]at hv
   have:opD P ⟨dst,.binOp op t x y yt,type,pos,after,guard⟩ l H1=if k=k then(match mR op k a b with|some v=>some (v,H1)|none=>kQ P ⟨dst,.binOp op t x y yt,type,pos,after,guard⟩ l H1)else kQ P ⟨dst,.binOp op t x y yt,type,pos,after,guard⟩ l H1:=by
    simp only[opD,hx,hy]
    cases op<;>rfl
   rw[this,if_pos rfl,hv]
  ·exact absurd hr Rs.ax
 ·exact absurd hr Rs.ax
theorem b9K{b:Option Blk}{i e:Nat}{H H1:Heap}{v:Value}(h:(c1i b i e H).Is v H1):H1=H∧∃cs ty rw lo ver,b=some (.cells cs ty rw lo ver)∧lo≤e∧e≤cs.length∧i+1≤e∧cs[i]? =some v:=by
 unfold c1i at h
 split at h
 ·rename_i cs ty rw lo ver
  obtain⟨h1,h⟩:=lJ h
  obtain⟨h2,h⟩:=lJ h
  obtain⟨h3,h⟩:=lJ h
  have h:(okV (a1L cs i) H).Is v H1:=h
  obtain⟨h4,h5⟩:=b6p h
  rw[a0l]at h2
  rw[a0n]at h4
  exact⟨h5,cs,ty,rw,lo,ver,rfl,eG h1,by simpa using h2,eG h3,h4⟩
 ·exact absurd h Rs.ax
theorem b9R{b:Option Blk}{n i e:Nat}{H H1:Heap}{v:Value}(h:(c0l b n i e H).Is v H1):H1=H∧∃cs ty rw lo ver,b=some (.cells cs ty rw lo ver)∧lo≤e∧e≤cs.length∧i+n≤e∧v=.agg ((cs.drop i).take n).toArray:=by
 unfold c0l at h
 split at h
 ·rename_i cs ty rw lo ver
  obtain⟨h1,h⟩:=lJ h
  obtain⟨h2,h⟩:=lJ h
  obtain⟨h3,h⟩:=lJ h
  obtain⟨h4,h⟩:=a7f h
  obtain⟨rfl,rfl⟩:=Rs.aP h
  rw[a0l]at h2
  exact⟨rfl,cs,ty,rw,lo,ver,rfl,eG h1,by simpa using h2,eG h3,by rw[a8L]⟩
 ·exact absurd h Rs.ax
theorem b2G{X:LArg}{f:Fr}{H H1:Heap}{v w:Value}{t:TypeId}(ht:jT P t=some false)(hw:mQ f X=w)(h:(b3g X f H).Is v H1):H1=H∧lM P H t w=some v:=by
 unfold b3g at h
 rw[hw]at h
 split at h
 ·rename_i A i e
  obtain⟨h1,cs,ty,rw',lo,ver,h2,h3,h4,h5,h6⟩:=b9K h
  refine⟨h1,?_⟩
  simp only[lM,ht,jC,h2]
  rw[if_pos (by simp;omega)]
  simp[h6]
 ·rename_i A i
  unfold c3w at h
  split at h
  ·rename_i cs ty lo hg
   obtain⟨h1,h⟩:=lJ h
   rw[a0l]at h1
   have h1:lo≤cs.length:=by simpa using h1
   cases hn:a1L cs i with
   | none=>rw[hn]at h;exact absurd h Rs.ax
   | some c=>
     rw[hn]at h
     have h:(oW c fun v=>Rs.ok v H).Is v H1:=h
     rw[mU]at h
     obtain⟨rfl,rfl⟩:=Rs.aP h
     rw[a0n]at hn
     have hi:=(dA.1 hn).1
     refine⟨rfl,?_⟩
     simp only[lM,ht,jC,hg]
     rw[if_pos (by simp;omega)]
     simp[hn]
  ·exact absurd h Rs.ax
 ·exact absurd h Rs.ax
theorem b2B{X:LArg}{f:Fr}{H H1:Heap}{v w:Value}{t:TypeId}{n:Nat}(ht:jT P t=some true)(hn:iE P t=some n)(hw:mQ f X=w)(h:(b4H n X f H).Is v H1):H1=H∧lM P H t w=some v:=by
 unfold b4H at h
 rw[hw]at h
 split at h
 ·rename_i A i e
  obtain⟨h1,cs,ty,rw',lo,ver,h2,h3,h4,h5,h6⟩:=b9R h
  refine⟨h1,?_⟩
  simp only[lM,ht,hn,cZ,jC,h2]
  rw[if_pos (by simp;omega),h6]
  rfl
 ·exact absurd h Rs.ax
theorem c1D{t:TypeId}(ht:jT P t=some false)(x:Operand):LowPl P ⟨dst,.load t x,type,pos,after,guard⟩ (.ld1 (iV x)):=fun C f l H v H1 hf hr=>by
 obtain⟨rfl,h⟩:=b2G (P:=P) ht (jW hf x) hr
 simp only[opD,h,dS]
theorem c1b{t:TypeId}{n:Nat}(ht:jT P t=some true)(hn:iE P t=some n)(x:Operand):LowPl P ⟨dst,.load t x,type,pos,after,guard⟩ (.ldn n (iV x)):=fun C f l H v H1 hf hr=>by
 obtain⟨rfl,h⟩:=b2B (P:=P) ht hn (jW hf x) hr
 simp only[opD,h,dS]
theorem c4a{t:TypeId}{n:Nat}(hn:iE P t=some n)(x y:Operand):LowPl P ⟨dst,.store t x y,type,pos,after,guard⟩ (.st n (iV x) (iV y)):=fun C f l H v H1 hf hr=>by
 have hr:(hSt n (iV x) (iV y) f H).Is v H1:=hr
 unfold hSt at hr
 rw[jW hf,jW hf]at hr
 split at hr
 ·rename_i A i e hx
  unfold stB at hr
  split at hr
  ·rename_i cs ty lo ver hg
   obtain⟨h1,hr⟩:=lJ hr
   obtain⟨h2,hr⟩:=lJ hr
   obtain⟨h3,hr⟩:=lJ hr
   obtain⟨h4,hr⟩:=lJ hr
   obtain⟨h5,hr⟩:=lJ hr
   obtain⟨rfl,rfl⟩:=Rs.aS hr
   rw[zI]at h1 h3
   have h1:n=(ev l y).cells.toList.length:=by simpa only[decide_eq_true_eq]using h1
   have h3:e=cs.length:=by simpa only[decide_eq_true_eq]using h3
   have h4:i+n≤e:=eG h4
   have h5:lo≤e:=eG h5
   simp only[opD,rI,hx,hg]
   rw[if_pos ⟨by rw[hn,h1],h2,h3,by omega,h5⟩]
   simp only[dS]
   rw[h3]
  ·exact absurd hr Rs.ax
 ·exact absurd hr Rs.ax
theorem c2O{s:TypeId}{k n:Nat}{fd:Field}(hf':pC P s k=some fd)(hn:iE P fd.type=some n)(hn0:n≠0)(x:Operand):LowPl P ⟨dst,.fieldAddr s x k,type,pos,after,guard⟩ (.fa fd.offset (iV x)):=fun C f l H v H1 hf hr=>by
 have hr:(hFa fd.offset (iV x) f H).Is v H1:=hr
 unfold hFa at hr
 rw[jW hf]at hr
 split at hr
 ·rename_i A i e hx
  rw[kC]at hr
  obtain⟨rfl,rfl⟩:=Rs.aP hr
  simp only[opD,hx,hf',cZ,hn]
  rw[if_neg (by simpa using hn0)];rfl
 ·exact absurd hr Rs.ax
theorem b6M{A i e size n:Nat}{H H1:Heap}{j v:Value}(h:(ixP A i e size n H j).Is v H1):H1=H∧∃k m,j=.int k (.ofNat m)∧m<n∧v=.pointer (some ⟨A,i+m*size,some e⟩):=by
 unfold ixP at h
 split at h
 ·rename_i k m
  obtain⟨h1,h⟩:=lJ h
  rw[kC]at h
  obtain⟨rfl,rfl⟩:=Rs.aP h
  rw[blt_eq]at h1
  exact⟨rfl,k,m,rfl,by simpa using h1,rfl⟩
 ·exact absurd h Rs.ax
theorem b9b{t elem:TypeId}{size:Nat}(ht:P.underlying t=some (.slice elem))(hs:iE P elem=some size)(x i:Operand):LowPl P ⟨dst,.indexAddr t x i,type,pos,after,guard⟩ (.ixs size (iV x) (iV i)):=fun C f l H v H1 hf hr=>by
 have hr:(c2N size (iV x) (iV i) f H).Is v H1:=hr
 unfold c2N at hr
 rw[jW hf,jW hf]at hr
 split at hr
 ·rename_i A a e n c hx
  obtain⟨rfl,k,m,hj,hm,rfl⟩:=b6M hr
  simp only[opD,ht,hx,hj,hs,cZ]
  rw[if_pos (by simp;omega)]
  rfl
 ·exact absurd hr Rs.ax
theorem c6V(a b:Nat):Nat.beq a b=(a==b):=by
 cases h:Nat.beq a b with
 | true=>rw[ed h];simp
 | false=>have:=Nat.ne_of_beq_eq_false h;simp[this]
theorem c3f{A i size n:Nat}{H H1:Heap}{j v:Value}(h:(ixG A i size n H j).Is v H1):H1=H∧∃k m,j=.int k (.ofNat m)∧m<n∧v=.pointer (some ⟨A,i+m*size,none⟩):=by
 unfold ixG at h
 split at h
 ·rename_i k m
  obtain⟨h1,h⟩:=lJ h
  rw[kC]at h
  obtain⟨rfl,rfl⟩:=Rs.aP h
  exact⟨rfl,k,m,rfl,by simpa [il]using h1,rfl⟩
 ·exact absurd h Rs.ax
theorem b9F{t elem:TypeId}{n size:Nat}(ht:P.underlying t=some (.array n elem))(hs:iE P elem=some size)(x i:Operand):LowPl P ⟨dst,.indexAddr t x i,type,pos,after,guard⟩ (.ixa n size (iV x) (iV i)):=fun C f l H v H1 hf hr=>by
 have hr:(c3N n size (iV x) (iV i) f H).Is v H1:=hr
 unfold c3N at hr
 rw[jW hf,jW hf]at hr
 split at hr
 ·rename_i A a e hx
  obtain⟨rfl,k,m,hj,hm,rfl⟩:=b6M hr
  simp only[opD,ht,hx,hj,hs,cZ]
  rw[if_pos (by simp;omega)]
  rfl
 ·rename_i A a hx
  obtain⟨rfl,k,m,hj,hm,rfl⟩:=c3f hr
  simp only[opD,ht,hx,hj,hs,cZ]
  rw[if_pos (by simp;omega)]
  rfl
 ·exact absurd hr Rs.ax
theorem b9Z(i:Nat)(x:Operand):LowPl P ⟨dst,.extract x i,type,pos,after,guard⟩ (.ext i (iV x)):=fun C f l H v H1 hf hr=>by
 have hr:(c3j i (iV x) f H).Is v H1:=hr
 unfold c3j at hr
 rw[jW hf]at hr
 split at hr
 ·rename_i vs hx
  obtain⟨h1,rfl⟩:=b6p hr
  rw[a0n]at h1
  simp only[opD,hx]
  simp[h1]
 ·exact absurd hr Rs.ax
theorem b9e{c:Call}{elem:TypeId}(hc:c.callee=.builtin .len)(h1:c.args.size=1)(h2:c.argTypes.size=1)(ht:P.underlying (c.argTypes.getD 0 0)=some (.slice elem)):LowPl P ⟨dst,.call c,type,pos,after,guard⟩ (.len (iV (c.args.getD 0 (.tmp 0)))):=fun C f l H v H1 hf hr=>by
 have hr:(c2M (iV (c.args.getD 0 (.tmp 0))) f H).Is v H1:=hr
 unfold c2M at hr
 rw[jW hf]at hr
 split at hr
 ·rename_i a n k hx
  obtain⟨rfl,rfl⟩:=Rs.aS hr
  simp only[opD,hc,h1,h2,ht,hx,xV];rfl
 ·exact absurd hr Rs.ax
theorem b5H{c:Call}(hc:c.callee=.builtin .len)(h1:c.args.size=1)(h2:c.argTypes.size=1)(ht:P.underlying (c.argTypes.getD 0 0)=some .string):LowPl P ⟨dst,.call c,type,pos,after,guard⟩ (.slen (iV (c.args.getD 0 (.tmp 0)))):=fun C f l H v H1 hf hr=>by
 have hr:(b7d (iV (c.args.getD 0 (.tmp 0))) f H).Is v H1:=hr
 unfold b7d at hr
 rw[jW hf]at hr
 split at hr
 ·rename_i s hx
  obtain⟨rfl,rfl⟩:=Rs.aS hr
  simp only[opD,hc,h1,h2,ht,hx,xV];rfl
 ·exact absurd hr Rs.ax
theorem b8Y{c:Call}{elem:TypeId}{size bytes:Nat}{z:Value}(hc:c.callee=.builtin .append)(h1:c.args.size=2)(h2:c.argTypes.size=2)(hi:((P.underlying (c.argTypes.getD 1 0)).map qJ)=some true)
 (he:iJ P (c.argTypes.getD 0 0)=some elem) (hs:iE P elem=some size) (hb:mZ P elem=some bytes) (hz:jA P elem=some z) (hzs:z.cells.size=size) (hs0:size≠0):
 LowPl P ⟨dst,.call c,type,pos,after,guard⟩ (.app elem size bytes (iV (c.args.getD 0 (.tmp 0))) (iV (c.args.getD 1 (.tmp 0)))):=fun C f l H v H1 hf hr=>by
 have hr:(c3B P elem size bytes (iV (c.args.getD 0 (.tmp 0))) (iV (c.args.getD 1 (.tmp 0))) f H).Is v H1:=hr
 unfold c3B at hr
 rw[jW hf,jW hf]at hr
 have hD:opD P ⟨dst,.call c,type,pos,after,guard⟩ l H=nZ P H (c.argTypes.getD 0 0) (ev l (c.args.getD 0 (.tmp 0))) (ev l (c.args.getD 1 (.tmp 0))):=by
  simp only[opD,hc,h1,h2,hi];rfl
 rw[hD]
 unfold nZ
 rw[he,cZ,hs,cZ,hb,cZ,hz,cZ]
 split at hr
 ·rename_i n m hsrc
  rw[hsrc,cZ]
  unfold c6x at hr
  split at hr
  ·rename_i k cc hx
   obtain⟨g1,hq1⟩:=lJ hr
   obtain⟨g2,hq2⟩:=lJ hq1
   obtain⟨g3,hq⟩:=lJ hq2
   clear hr hq1 hq2
   obtain rfl:k=0:=ed g1
   obtain rfl:cc=0:=ed g2
   have g3:n*(bytes+1)≤oJ:=eG g3
   simp only[hx]
   rw[if_pos (by simp[hs0,hzs,g3])]
   rw[kS]at hq
   by_cases hn:n=0
   ·subst hn
    rw[if_pos (by rfl)]at hq
    obtain⟨rfl,rfl⟩:=Rs.aP hq
    simp
   ·rw[if_neg (fun e=>hn (ed e))]at hq
    obtain⟨rfl,rfl⟩:=Rs.aS hq
    simp[hn]
  ·rename_i A i e k cc hx
   unfold c5b at hr
   split at hr
   ·rename_i cs ty lo ver hg
    obtain⟨g2,hr⟩:=lJ hr
    obtain⟨g4,hr⟩:=lJ hr
    obtain⟨g5,hr⟩:=lJ hr
    have g2:(ty==elem||iE P ty==some size)=true:=by
     rw[c6V]at g2
     cases hh:(ty==elem)with
     | true=>rfl
     | false=>rw[hh]at g2;exact g2
    rw[zI]at g4
    have g4:e=cs.length:=by simpa only[decide_eq_true_eq]using g4
    have g5:lo≤e:=eG g5
    simp only[hx,hg]
    rw[kS]at hr
    by_cases g3:i+k*size=e
    ·rw[if_pos (by simpa using g3)]at hr
     obtain⟨g1,hr⟩:=lJ hr
     obtain⟨rfl,rfl⟩:=Rs.aS hr
     have g1:(k+n)*(bytes+1)≤oJ:=eG g1
     have et:(Bool.rec (motive:=fun _=>Nat) 2 ver (Nat.beq ty elem))=(if(ty==elem)=true then ver else 2):=by
      rw[c6V]
      cases hh:(ty==elem)with
      | true=>rfl
      | false=>rfl
     rw[et,if_pos (by simp only[g2,fy,cY,bne_iff_ne,beq_iff_eq,decide_eq_true_eq];exact⟨⟨⟨⟨⟨hs0,g1⟩,by simpa using hzs⟩,g3⟩,g4⟩,g5⟩)]
    ·rw[if_neg (by simpa using g3)]at hr
     rw[kS]at hr
     by_cases hn:n=0
     ·rw[if_pos (by simpa using hn)]at hr
      exact absurd hr Rs.ax
     ·rw[if_neg (by simpa using hn)]at hr
      obtain⟨g6,hr⟩:=lJ hr
      obtain⟨rfl,rfl⟩:=Rs.aS hr
      have g6:i+(k+n)*size≤e:=eG g6
      rw[if_neg (by simp[g3]),if_pos (by simp only[g2,fy,cY,bne_iff_ne,beq_iff_eq,decide_eq_true_eq];exact⟨⟨⟨⟨⟨hs0,hn⟩,by simpa using hzs⟩,g6⟩,g4⟩,g5⟩),g4]
   ·exact absurd hr Rs.ax
  ·exact absurd hr Rs.ax
 ·exact absurd hr Rs.ax
theorem b2Y{c:Call}{k:FuncId}(hc:c.callee=.value (.func k))(hok:(Op.call c).operands.toList.all iP=true):xD P ⟨dst,.call c,type,pos,after,guard⟩ (.callF k (kT k) (c.args.toList.map iV)):=fun C H0 f l H v H1 hC hk hf hr=>by
 have hr:(a5b f (c.args.toList.map iV) fun l=>C.fn (kT k) k l H).Is v H1:=hr
 rw[a7J hf]at hr
 obtain⟨h1|hx,h2⟩:=hC.fn _ _ _ _ _ _ hk hr rfl
 case inr=>exact⟨.ext hok c (.func k) k #[] #[] rfl hc rfl (by simpa using hx),h2⟩
 obtain⟨he,v',H',hcall,rfl,rfl⟩:=h1.fn
 exact⟨.call hok c (.func k) k #[] #[] rfl hc rfl he (by simpa using hcall),h2⟩
theorem b3A{c:Call}{g:Operand}(hc:c.callee=.value g)(hok:(Op.call c).operands.toList.all iP=true):xD P ⟨dst,.call c,type,pos,after,guard⟩ (.callV (iV g) (c.args.toList.map iV)):=fun C H0 f l H v H1 hC hk hf hr=>by
 have hr:(a5b f (c.args.toList.map iV) fun l=>b0W C l H (mQ f (iV g))).Is v H1:=hr
 rw[a7J hf,jW hf]at hr
 unfold b0W at hr
 split at hr
 ·rename_i k a b hg
  rw[kC,lO]at hr
  obtain⟨h1|hx,h2⟩:=hC.fn _ _ _ _ _ _ hk hr rfl
  case inr=>exact⟨.ext hok c g k ⟨a⟩ ⟨b⟩ rfl hc hg (by simpa [yO]using hx),h2⟩
  obtain⟨he,v',H',hcall,rfl,rfl⟩:=h1.fn
  exact⟨.call hok c g k ⟨a⟩ ⟨b⟩ rfl hc hg he (by simpa [yO]using hcall),h2⟩
 ·rename_i L a b hg
  obtain⟨h1,h2⟩:=hC.rd _ _ _ _ _ hk hr
  exact⟨.round hok c g L _ _ rfl hc hg h1,h2⟩
 ·exact absurd hr Rs.ax
end
set_option maxHeartbeats 1000000 in
theorem b2k{α:Type}(o:Oper)(K:LOp→α):∃lo,xD P o lo∧a0k P o K=K lo:=by
 unfold a0k
 rw[kS]
 by_cases hok:o.op.operands.toList.all iP=true
 case neg=>rw[if_neg hok];exact⟨_,c1j o,rfl⟩
 rw[if_pos hok]
 have gen:∃lo,xD P o lo∧K (.gen o)=K lo:=⟨_,(c0P o).low hok,rfl⟩
 obtain⟨dst,op,type,pos,after,guard⟩:=o
 unfold c6W
 cases op with
 | move x=>simp only[lE];exact⟨_,(c4A x).low hok,rfl⟩
 | assign x=>simp only[lE];exact⟨_,(c4l x).low hok,rfl⟩
 | pick c a b=>simp only[lE];exact⟨_,(b7V c a b).low hok,rfl⟩
 | binOp op t x y yt=>
   simp only[lE,kS]
   split
   ·split
    ·rename_i g hg;exact⟨_,(c1s hg t yt x y).low hok,rfl⟩
    ·exact gen
   ·exact gen
 | load t x=>
   simp only[lE]
   split
   ·rename_i ht
    cases hn:iE P t with
    | none=>exact gen
    | some n=>rw[pV];exact⟨_,(c1b ht hn x).low hok,rfl⟩
   ·rename_i ht;exact⟨_,(c1D ht x).low hok,rfl⟩
   ·exact gen
 | store t x y=>
   simp only[lE]
   cases hn:iE P t with
   | none=>exact gen
   | some n=>rw[pV];exact⟨_,(c4a hn x y).low hok,rfl⟩
 | fieldAddr s x k=>
   simp only[lE]
   split
   ·rename_i fd hfd
    split
    ·exact gen
    ·rename_i n hn0 hn
     rw[kC]
     exact⟨_,(c2O hfd hn (fun e=>hn0 e) x).low hok,rfl⟩
    ·exact gen
   ·exact gen
 | indexAddr t x i=>
   simp only[lE]
   split
   ·rename_i elem ht
    cases hs:iE P elem with
    | none=>exact gen
    | some n=>rw[pV];exact⟨_,(b9b ht hs x i).low hok,rfl⟩
   ·rename_i n elem ht
    cases hs:iE P elem with
    | none=>exact gen
    | some m=>rw[pV];exact⟨_,(b9F ht hs x i).low hok,rfl⟩
   ·exact gen
 | extract t i=>simp only[lE];rw[kC];exact⟨_,(b9Z i t).low hok,rfl⟩
 | call c=>
   simp only
   unfold b8J
   split
   ·rename_i k hc
    rw[lO,a5u]
    exact⟨_,b2Y hc hok,rfl⟩
   ·rename_i g _ hc
    rw[lE,a5u]
    exact⟨_,b3A hc hok,rfl⟩
   ·rename_i hc
    rw[kS]
    split
    ·rename_i h1
     simp only[cY,beq_iff_eq]at h1
     split
     ·rename_i elem ht;rw[lE];exact⟨_,(b9e hc h1.1 h1.2 ht).low hok,rfl⟩
     ·rename_i ht;rw[lE];exact⟨_,(b5H hc h1.1 h1.2 ht).low hok,rfl⟩
     ·exact gen
    ·exact gen
   ·rename_i hc
    rw[kS]
    split
    ·rename_i h1
     simp only[cY,beq_iff_eq]at h1
     split
     ·rename_i elem he
      cases hs:iE P elem with
      | none=>exact gen
      | some size=>
        rw[pV]
        cases hb:mZ P elem with
        | none=>exact gen
        | some bytes=>
          rw[pV]
          split
          ·rename_i z hz
           rw[kS]
           split
           ·rename_i h2
            simp only[cY,beq_iff_eq,bne_iff_ne]at h2
            rw[kC,lE,lE]
            exact⟨_,(b8Y hc h1.1.1 h1.1.2 h1.2 he hs hb hz h2.1 h2.2).low hok,rfl⟩
           ·exact gen
          ·exact gen
     ·exact gen
    ·exact gen
   ·exact gen
 | _=>exact gen
def DOk(k:Nat)(dst:Option Tmp)(d:Option Pth):Prop:=(dst=none∧d=none)∨∃t,dst=some t∧t<k∧d=some (kT t)
inductive LowOps(P:Program)(k:Nat)(ops:Array Oper):List Oper→LOps→Prop
 | nil:LowOps P k ops [] .nil
 | cons {o:Oper} {os:List Oper} {d:Option Pth} {lo:LOp} {r:LOps} (hd:DOk k o.dst d) (ho:xD P o lo) (hg:o.guard=none) (hr:LowOps P k ops os r):LowOps P k ops (o::os) (.cons d lo r)
 | gcons {o:Oper} {os:List Oper} {d:Option Pth} {lo:LOp} {r:LOps} {j t:Nat} {w:Bool} (hd:DOk k o.dst d) (ho:xD P o lo) (hg:o.guard=some (j,w)) (ht:(ops[j]?).bind (·.dst)=some t) (htk:t<k) (hr:LowOps P k ops os r):LowOps P k ops (o::os) (.gcons (kT t) w d lo r)
def GOk(ops:Array Oper)(o:Oper)(g:Option (Pth×Bool)):Prop:=(o.guard=none∧g=none)∨∃j w t,o.guard=some (j,w)∧(ops[j]?).bind (·.dst)=some t∧g=some (kT t,w)
theorem GOk.runs{ops:Array Oper}{o:Oper}{g:Option (Pth×Bool)}(h:GOk ops o g){f:Fr}{l:List Value}(hf:FAg f l)(hw:Region.wanted o (iU ops l)=true):b7g f g=true:=by
 rcases h with⟨_,rfl⟩|⟨j,w,t,hg,ht,rfl⟩
 ·rfl
 ·simp only[Region.wanted,hg,iU,ht]at hw
  show isB (oN (kT t) f) w=true
  rw[hf t,oR,dg]
  cases hl:l[t]? with
  | none=>rw[hl]at hw;simp at hw
  | some v=>
    rw[hl]at hw
    cases v<;>simp at hw
    subst hw
    rename_i b
    cases b<;>rfl
inductive LowTab(P:Program)(ops:Array Oper):List (Nat×Nat)→List (Nat×Option Nat×Option (Pth×Bool)×LOp)→Prop
 | nil:LowTab P ops [] []
 | cons {i m:Nat} {o:Oper} {lo:LOp} {tab:List (Nat×Nat)} {t:List (Nat×Option Nat×Option (Pth×Bool)×LOp)} {g:Option (Pth×Bool)} (ho:ops[i]? =some o) (hgd:GOk ops o g) (hl:xD P o lo) (hr:LowTab P ops tab t):
    LowTab P ops ((i,m)::tab) ((ops.size-1-i,if m<ops.size then some (ops.size-1-m)else none,g,lo)::t)
inductive Low(P:Program)(k:Nat):Code→LCode→Prop
 | bad (c:Code):Low P k c .bad
 | skip:Low P k .skip .skip
 | label (t:Nat):Low P k (.label t) .skip
 | reg {id:Nat} {ops:Array Oper} {d:Bool} {lo:LOps} (h:LowOps P k ops ops.toList lo) (hd:d=true→nN P ops=some []):Low P k (.region id ops d) (.reg lo)
 | drw {id:Nat} {ops:Array Oper} {lo:LOps} {tab:List (Nat×Nat)} {t:List (Nat×Option Nat×Option (Pth×Bool)×LOp)} (h:LowOps P k ops ops.toList lo) (ht:nN P ops=some tab) (hl:LowTab P ops tab t):Low P k (.region id ops true) (.drw lo t)
 | seq {a b:Code} {A B:LCode} (ha:Low P k a A) (hb:Low P k b B):Low P k (.seq a b) (.seq A B)
 | cond {c:Operand} {x y:Code} {X Y:LCode} (hc:iP c=true) (hx:Low P k x X) (hy:Low P k y Y):Low P k (.cond c x y) (.cond (iV c) X Y)
 | block {id:Nat} {b:Code} {B:LCode} (hb:Low P k b B):Low P k (.block id b) (.block id B)
 | loop {b:Code} {B:LCode} (hb:Low P k b B):Low P k (.loop b) (.loop B)
 | exit (id:Nat):Low P k (.exit id) (.exit id)
 | ret:Low P k .ret .ret
 | range {g:Operand} {ps:Array Tmp} {assign body:Code} {A B:LCode} (hg:iP g=true) (hps:∀t∈ps.toList,t<k) (ha:Low P k assign A) (hb:Low P k body B):
    Low P k (.rangeFunc g ps assign body) (.range (iV g) ((List.range k).map kT) (ps.toList.map kT) ps assign body A B)
section
variable {α:Type}
theorem b8N(k:Nat)(dst:Option Tmp)(no:α)(K:Option Pth→α):(∃d,DOk k dst d∧a6T k dst no K=K d)∨a6T k dst no K=no:=by
 cases dst with
 | none=>exact .inl ⟨none,.inl ⟨rfl,rfl⟩,rfl⟩
 | some t=>
   simp only[a6T,kS]
   split
   ·rename_i h
    rw[lO]
    rw[blt_eq]at h
    exact .inl ⟨_,.inr ⟨t,rfl,by simpa using h,rfl⟩,rfl⟩
   ·exact .inr rfl
theorem a2q(k:Nat)(ops:Array Oper)(l:List Oper)(K:LOps→α)(no:α):(∃L,LowOps P k ops l L∧vD P k ops l K no=K L)∨vD P k ops l K no=no:=by
 induction l generalizing K with
 | nil=>exact .inl ⟨_,.nil,rfl⟩
 | cons o l ih=>
   let K2:Option Pth→LOp→α:=fun d o'=>match o.guard with
    | none=>vD P k ops l (fun r=>K (.cons d o' r)) no
    | some (j,w)=>match (ops[j]?).bind (·.dst)with
      | some t=>oL (Nat.blt t k) no (lR (kT t) fun p=>a0Q w fun w=>vD P k ops l (fun r=>K (.gcons p w d o' r)) no)
      | none=>no
   have e:vD P k ops (o::l) K no=a6T k o.dst no fun d=>a0k P o fun o'=>K2 d o':=rfl
   rw[e]
   rcases b8N k o.dst no (fun d=>a0k P o fun o'=>K2 d o')with⟨d,hd,h1⟩|h1
   ·rw[h1]
    obtain⟨lo,hlo,h2⟩:=b2k (P:=P) o (fun o'=>K2 d o')
    rw[h2]
    simp only[K2]
    split
    ·rename_i hg
     rcases ih (fun r=>K (.cons d lo r))with⟨L,hL,h3⟩|h3
     ·exact .inl ⟨_,.cons hd hlo hg hL,h3⟩
     ·exact .inr h3
    ·rename_i j w hg
     split
     ·rename_i t ht
      rw[kS]
      split
      ·rename_i htk
       rw[lO,wN]
       rw[blt_eq]at htk
       rcases ih (fun r=>K (.gcons (kT t) w d lo r))with⟨L,hL,h3⟩|h3
       ·exact .inl ⟨_,.gcons hd hlo hg ht (by simpa using htk) hL,h3⟩
       ·exact .inr h3
      ·exact .inr rfl
     ·exact .inr rfl
   ·exact .inr h1
theorem c4s(k:Nat)(ops:Array Oper)(o:Oper)(no:α)(K:Option (Pth×Bool)→α):(∃g,GOk ops o g∧loG k ops o.guard no K=K g)∨loG k ops o.guard no K=no:=by
 cases hg:o.guard with
 | none=>exact .inl ⟨none,.inl ⟨hg,rfl⟩,rfl⟩
 | some x=>
   obtain⟨j,w⟩:=x
   unfold loG
   cases ht:(ops[j]?).bind (·.dst)with
   | none=>exact .inr (by simp only[ht])
   | some t=>
     simp only[ht,kS]
     split
     ·refine .inl ⟨some (kT t,w),.inr ⟨j,w,t,hg,ht,rfl⟩,?_⟩
      rw[lO,wN]
     ·exact .inr rfl
theorem b8q(k:Nat)(ops:Array Oper)(tab:List (Nat×Nat))(K:List (Nat×Option Nat×Option (Pth×Bool)×LOp)→α)(no:α):(∃t,LowTab P ops tab t∧uV P k ops ops.size tab K no=K t)∨uV P k ops ops.size tab K no=no:=by
 induction tab generalizing K with
 | nil=>exact .inl ⟨_,.nil,rfl⟩
 | cons x tab ih=>
   obtain⟨i,m⟩:=x
   cases ho:ops[i]? with
   | none=>
     refine .inr ?_
     show(match ops[i]? with
      | some o=>_
      | none=>no)=no
     rw[ho]
   | some o=>
     let K2:Option (Pth×Bool)→LOp→α:=fun g o'=>kF (ops.size-1-i) fun i=>oL (Nat.blt m ops.size) (uV P k ops ops.size tab (fun l=>K ((i,none,g,o')::l)) no) (kF (ops.size-1-m) fun m=>uV P k ops ops.size tab (fun l=>K ((i,some m,g,o')::l)) no)
     have e:uV P k ops ops.size ((i,m)::tab) K no=loG k ops o.guard no fun g=>a0k P o fun o'=>K2 g o':=by
      show(match ops[i]? with
       | some o=>loG k ops o.guard no fun g=>a0k P o fun o'=>K2 g o'
       | none=>no)=_
      rw[ho]
     rw[e]
     rcases c4s k ops o no (fun g=>a0k P o fun o'=>K2 g o')with⟨g,hgd,h1⟩|h1
     ·rw[h1]
      obtain⟨lo,hlo,h2⟩:=b2k (P:=P) o (fun o'=>K2 g o')
      rw[h2]
      show(∃t,_∧kF (ops.size-1-i) (fun i=>oL (Nat.blt m ops.size) (uV P k ops ops.size tab (fun l=>K ((i,none,g,lo)::l)) no) (kF (ops.size-1-m) fun m=>uV P k ops ops.size tab (fun l=>K ((i,some m,g,lo)::l)) no))=K t)∨kF (ops.size-1-i) (fun i=>oL (Nat.blt m ops.size) (uV P k ops ops.size tab (fun l=>K ((i,none,g,lo)::l)) no) (kF (ops.size-1-m) fun m=>uV P k ops ops.size tab (fun l=>K ((i,some m,g,lo)::l)) no))=no
      rw[kC,kS,kC,blt_eq]
      by_cases hm:m<ops.size
      ·rw[if_pos (by simpa using hm)]
       rcases ih (fun l=>K ((ops.size-1-i,some (ops.size-1-m),g,lo)::l))with⟨t,ht,h3⟩|h3
       ·have:=LowTab.cons (m:=m) ho hgd hlo ht
        rw[if_pos hm]at this
        exact .inl ⟨_,this,h3⟩
       ·exact .inr h3
      ·rw[if_neg (by simpa using hm)]
       rcases ih (fun l=>K ((ops.size-1-i,none,g,lo)::l))with⟨t,ht,h3⟩|h3
       ·have:=LowTab.cons (m:=m) ho hgd hlo ht
        rw[if_neg hm]at this
        exact .inl ⟨_,this,h3⟩
       ·exact .inr h3
     ·exact .inr h1
theorem b3X(k:Nat)(l:List Tmp)(K:List Pth→α)(no:α):((∀t∈l,t<k)∧yF k l K no=K (l.map kT))∨yF k l K no=no:=by
 induction l generalizing K with
 | nil=>exact .inl ⟨by simp,rfl⟩
 | cons t l ih=>
   show _∨oL (Nat.blt t k) no (lR (kT t) fun p=>yF k l (fun l=>K (p::l)) no)=no
   have e:yF k (t::l) K no=oL (Nat.blt t k) no (lR (kT t) fun p=>yF k l (fun l=>K (p::l)) no):=rfl
   rw[e,kS,lO,blt_eq]
   by_cases h:t<k
   ·rw[if_pos (by simpa using h)]
    rcases ih (fun l=>K (kT t::l))with⟨h1,h2⟩|h2
    ·exact .inl ⟨by simpa using⟨h,h1⟩,h2⟩
    ·exact .inr h2
   ·rw[if_neg (by simpa using h)];exact .inr rfl
theorem b3Y(k:Nat)(c:Code)(K:LCode→α):∃C,Low P k c C∧nP P k c K=K C:=by
 induction c generalizing K with
 | skip=>exact⟨_,.skip,rfl⟩
 | region id ops d=>
   cases d with
   | false=>
     show ∃C,_∧vD P k ops ops.toList (fun l=>K (.reg l)) (K .bad)=K C
     rcases a2q (P:=P) k ops ops.toList (fun l=>K (.reg l)) (K .bad)with⟨L,hL,h⟩|h
     ·exact⟨_,.reg hL (fun h=>by cases h),h⟩
     ·exact⟨_,.bad _,h⟩
   | true=>
     show ∃C,_∧(match nN P ops with
      | some []=>vD P k ops ops.toList (fun l=>K (.reg l)) (K .bad)
      | some tab=>vD P k ops ops.toList (fun l=>uV P k ops ops.size tab (fun t=>K (.drw l t)) (K .bad)) (K .bad)
      | none=>K .bad)=K C
     split
     ·rename_i hd
      rcases a2q (P:=P) k ops ops.toList (fun l=>K (.reg l)) (K .bad)with⟨L,hL,h⟩|h
      ·exact⟨_,.reg hL (fun _=>hd),h⟩
      ·exact⟨_,.bad _,h⟩
     ·rename_i tab _ hd
      rcases a2q (P:=P) k ops ops.toList (fun l=>uV P k ops ops.size tab (fun t=>K (.drw l t)) (K .bad)) (K .bad)with⟨L,hL,h⟩|h
      ·rw[h]
       rcases b8q (P:=P) k ops tab (fun t=>K (.drw L t)) (K .bad)with⟨t,ht,h2⟩|h2
       ·exact⟨_,.drw hL hd ht,h2⟩
       ·exact⟨_,.bad _,h2⟩
      ·exact⟨_,.bad _,h⟩
     ·exact⟨_,.bad _,rfl⟩
 | seq a b iha ihb=>
   show ∃C,_∧nP P k a (fun a=>nP P k b fun b=>K (.seq a b))=K C
   obtain⟨A,hA,h1⟩:=iha (fun a=>nP P k b fun b=>K (.seq a b))
   obtain⟨B,hB,h2⟩:=ihb (fun b=>K (.seq A b))
   exact⟨_,.seq hA hB,h1.trans h2⟩
 | cond c x y ihx ihy=>
   show ∃C,_∧oL (iP c) (K .bad) (lV c fun c=>nP P k x fun x=>nP P k y fun y=>K (.cond c x y))=K C
   rw[kS]
   split
   ·rename_i hc
    rw[lE]
    obtain⟨X,hX,h1⟩:=ihx (fun x=>nP P k y fun y=>K (.cond (iV c) x y))
    obtain⟨Y,hY,h2⟩:=ihy (fun y=>K (.cond (iV c) X y))
    exact⟨_,.cond hc hX hY,h1.trans h2⟩
   ·exact⟨_,.bad _,rfl⟩
 | block id b ih=>
   show ∃C,_∧kF id (fun id=>nP P k b fun b=>K (.block id b))=K C
   rw[kC]
   obtain⟨B,hB,h1⟩:=ih (fun b=>K (.block id b))
   exact⟨_,.block hB,h1⟩
 | loop b ih=>
   show ∃C,_∧nP P k b (fun b=>K (.loop b))=K C
   obtain⟨B,hB,h1⟩:=ih (fun b=>K (.loop b))
   exact⟨_,.loop hB,h1⟩
 | rangeFunc g ps assign body iha ihb=>
   show ∃C,_∧oL (iP g) (K .bad) (lV g fun g'=>b5a k fun pp=>yF k ps.toList (fun q=>nP P k assign fun a=>nP P k body fun b=>K (.range g' pp q ps assign body a b)) (K .bad))=K C
   rw[kS]
   split
   ·rename_i hg
    rw[lE,b1T]
    rcases b3X k ps.toList (fun q=>nP P k assign fun a=>nP P k body fun b=>K (.range (iV g) ((List.range k).map kT) q ps assign body a b)) (K .bad)with⟨hps,h⟩|h
    ·obtain⟨A,hA,h1⟩:=iha (fun a=>nP P k body fun b=>K (.range (iV g) ((List.range k).map kT) (ps.toList.map kT) ps assign body a b))
     obtain⟨B,hB,h2⟩:=ihb (fun b=>K (.range (iV g) ((List.range k).map kT) (ps.toList.map kT) ps assign body A b))
     exact⟨_,.range hg hps hA hB,h.trans (h1.trans h2)⟩
    ·exact⟨_,.bad _,h⟩
   ·exact⟨_,.bad _,rfl⟩
 | exit id=>
   show ∃C,_∧kF id (fun id=>K (.exit id))=K C
   rw[kC]
   exact⟨_,.exit id,rfl⟩
 | label t=>exact⟨_,.label t,rfl⟩
 | ret=>exact⟨_,.ret,rfl⟩
 | scope b _=>exact⟨_,.bad _,rfl⟩
 | goto t=>exact⟨_,.bad _,rfl⟩
 | refuse w=>exact⟨_,.bad _,rfl⟩
end
theorem wO{α:Type}{k:Nat}{f:Fr}{l:List Value}(h:FRel k f l){dst:Option Tmp}{d:Option Pth}(hd:DOk k dst d)(v:Value)(K:Fr→α):∃f',wH d v f K=K f'∧FRel k f' (put l dst v):=by
 rcases hd with⟨rfl,rfl⟩|⟨t,rfl,ht,rfl⟩
 ·exact⟨f,rfl,h⟩
 ·exact⟨b6E f t v,tE v (kT t) f K,h.put ht v⟩
theorem zZ{ops:Array Oper}{l:List Value}{j t:Nat}(ht:(ops[j]?).bind (·.dst)=some t)(htl:t<l.length)(w:Bool):(iU ops l j==some w)=isB (get l t) w:=by
 have hg:get l t=l[t]:=by rw[oR];simp[htl]
 unfold iU
 rw[ht,hg]
 simp only[du htl]
 cases hv:l[t]<;>simp[isB]
 rename_i b
 cases b<;>cases w<;>rfl
theorem c0z{k:Nat}{ops:Array Oper}{C:Calls'}{H0:Heap}(hC:CallsOk P C H0){os:List Oper}{lo:LOps}(hlo:LowOps P k ops os lo):∀{i:Nat},ops.toList.drop i=os→∀{f:Fr}{l:List Value}{H:Heap}{f1:Fr}{H1:Heap},
 FRel k f l→LK H0 H→a0i P C lo f H=.ok f1 H1→∃l1,FRel k f1 l1∧OpsR P ops (List.range' i os.length) l H l1 H1∧LK H H1:=by
 induction hlo with
 | nil=>
   intro i _ f l H f1 H1 hf _ h
   injection h with h1 h2
   subst h1 h2
   exact⟨l,hf,.nil l H,.refl H⟩
 | @cons o os d lo r hd ho hg hr ih=>
   intro i hi f l H f1 H1 hf hk h
   have hio:ops[i]? =some o:=by
    have:(ops.toList.drop i)[0]? =some o:=by rw[hi];rfl
    rw[dJ]at this
    simpa using this
   have hi':ops.toList.drop (i+1)=os:=by rw[←fA,hi];rfl
   have hw:Region.wanted o (iU ops l)=true:=by simp[Region.wanted,hg]
   have h:b1P Rf.no d f (a0i P C r) (opF P C lo f H)=.ok f1 H1:=h
   have key:∀v H2,(opF P C lo f H).Is v H2→(wH d v f fun f=>a0i P C r f H2)=.ok f1 H1→∃l1,FRel k f1 l1∧OpsR P ops (List.range' i (o::os).length) l H l1 H1∧LK H H1:=by
    intro v H2 hop hrest
    obtain⟨hs,hk2⟩:=ho C H0 f l H v H2 hC hk hf.2 hop
    obtain⟨f',e,hf'⟩:=wO hf hd v (fun f=>a0i P C r f H2)
    rw[e]at hrest
    obtain⟨l1,h1,h2,h3⟩:=ih hi' hf' (hk.trans hk2) hrest
    exact⟨l1,h1,.step hio hw hs h2,hk2.trans h3⟩
   cases hop:opF P C lo f H with
   | no=>rw[hop]at h;cases h
   | ok v H2=>rw[hop]at h;exact key v H2 (.inl hop) h
   | th v H2=>
     rw[hop]at h
     have h:zM v (fun v=>oE H2 fun H2=>wH d v f fun f=>a0i P C r f H2)=.ok f1 H1:=h
     rw[zU,mA]at h
     exact key v H2 (.inr hop) h
 | @gcons o os d lo r j t w hd ho hg ht htk hr ih=>
   intro i hi f l H f1 H1 hf hk h
   have hio:ops[i]? =some o:=by
    have:(ops.toList.drop i)[0]? =some o:=by rw[hi];rfl
    rw[dJ]at this
    simpa using this
   have hi':ops.toList.drop (i+1)=os:=by rw[←fA,hi];rfl
   have hwi:Region.wanted o (iU ops l)=isB (oN (kT t) f) w:=by
    simp only[Region.wanted,hg]
    rw[zZ ht (by rw[hf.1];exact htk) w,hf.2 t]
   have h:oL (isB (oN (kT t) f) w) (wH d undef f fun f=>a0i P C r f H) (b1P Rf.no d f (a0i P C r) (opF P C lo f H))=.ok f1 H1:=h
   rw[kS]at h
   split at h
   ·rename_i hb
    have key:∀v H2,(opF P C lo f H).Is v H2→(wH d v f fun f=>a0i P C r f H2)=.ok f1 H1→∃l1,FRel k f1 l1∧OpsR P ops (List.range' i (o::os).length) l H l1 H1∧LK H H1:=by
     intro v H2 hop hrest
     obtain⟨hs,hk2⟩:=ho C H0 f l H v H2 hC hk hf.2 hop
     obtain⟨f',e,hf'⟩:=wO hf hd v (fun f=>a0i P C r f H2)
     rw[e]at hrest
     obtain⟨l1,h1,h2,h3⟩:=ih hi' hf' (hk.trans hk2) hrest
     exact⟨l1,h1,.step hio (by rw[hwi,hb]) hs h2,hk2.trans h3⟩
    cases hop:opF P C lo f H with
    | no=>rw[hop]at h;cases h
    | ok v H2=>rw[hop]at h;exact key v H2 (.inl hop) h
    | th v H2=>
      rw[hop]at h
      have h:zM v (fun v=>oE H2 fun H2=>wH d v f fun f=>a0i P C r f H2)=.ok f1 H1:=h
      rw[zU,mA]at h
      exact key v H2 (.inr hop) h
   ·rename_i hb
    obtain⟨f',e,hf'⟩:=wO hf hd undef (fun f=>a0i P C r f H)
    rw[e]at h
    obtain⟨l1,h1,h2,h3⟩:=ih hi' hf' hk h
    exact⟨l1,h1,.past hio (by rw[hwi];simpa using hb) h2,h3⟩
structure Noted(P:Program)(k:Nat)(ops:Array Oper)(H:Heap)(i n:Nat)(T:Nat→List Value×Heap)(val:Nat→Value)(tr0 tr:List (Fr×Heap×Value)):Prop where
 step:∀j,i≤j→j<i+n→xG P ops j (T j) (T (j+1)) (val j)
 new:∀j,i≤j→j<i+n→∃g,tr[i+n-1-j]? =some (g,(T j).2,val j)∧FAg g (T j).1
 old:∀m,tr[n+m]? =tr0[m]?
 lk:∀j,i≤j→j≤i+n→LK H (T j).2
theorem b8Q{k:Nat}{ops:Array Oper}{C:Calls'}{H0:Heap}(hC:CallsOk P C H0){os:List Oper}{lo:LOps}(hlo:LowOps P k ops os lo):∀{i:Nat},ops.toList.drop i=os→∀{tr0 tr:List (Fr×Heap×Value)}{f:Fr}{l:List Value}{H:Heap}{f1:Fr}{H1:Heap},
 FRel k f l→LK H0 H→rW P C lo tr0 f H=.ok tr f1 H1→∃T val l1,T i=(l,H)∧T (i+os.length)=(l1,H1)∧FRel k f1 l1∧Noted P k ops H i os.length T val tr0 tr:=by
 have more:∀{i n:Nat}{o:Oper}{tr0 tr:List (Fr×Heap×Value)}{f:Fr}{l:List Value}{H:Heap}{v:Value}{l2:List Value}{H2:Heap}{l1:List Value}{H1:Heap}{f1:Fr},FRel k f l→xG P ops i (l,H) (l2,H2) v→LK H H2→
  (∃T val l1,T (i+1)=(l2,H2)∧T (i+1+n)=(l1,H1)∧FRel k f1 l1∧Noted P k ops H2 (i+1) n T val ((f,H,v)::tr0) tr)→
  ∃T val l1,T i=(l,H)∧T (i+(n+1))=(l1,H1)∧FRel k f1 l1∧Noted P k ops H i (n+1) T val tr0 tr:=by
  intro i n o tr0 tr f l H v l2 H2 _ H1 f1 hf hst hk ⟨T,val,l1,h1,h2,h3,hN⟩
  refine⟨fun j=>if j≤i then(l,H)else T j,fun j=>if j≤i then v else val j,l1,by simp,?_,h3,?_⟩
  ·show(if i+(n+1)≤i then(l,H)else T (i+(n+1)))=_
   rw[if_neg (by omega),←h2];congr 1;omega
  ·refine⟨fun j hj hn=> ?_,fun j hj hn=> ?_,fun m=> ?_,fun j hj hn=> ?_⟩
   ·by_cases he:j=i
    ·subst he
     simp only[dj,if_true]
     rw[if_neg (by omega),h1]
     exact hst
    ·rw[if_neg (by omega),if_neg (by omega),if_neg (by omega)]
     exact hN.step j (by omega) (by omega)
   ·by_cases he:j=i
    ·subst he
     simp only[dj,if_true]
     refine⟨f,?_,hf.2⟩
     have:=hN.old 0
     rw[show j+(n+1)-1-j=n+0 by omega,this];rfl
    ·rw[if_neg (by omega),if_neg (by omega)]
     obtain⟨g,hg,hag⟩:=hN.new j (by omega) (by omega)
     exact⟨g,by rw[←hg];congr 1;omega,hag⟩
   ·have:=hN.old (m+1)
    rw[show n+1+m=n+(m+1) by omega,this];rfl
   ·by_cases he:j=i
    ·subst he;simp only[dj,if_true];exact .refl H
    ·rw[if_neg (by omega)];exact hk.trans (hN.lk j (by omega) (by omega))
 induction hlo with
 | nil=>
   intro i _ tr0 tr f l H f1 H1 hf _ h
   injection h with h1 h2 h3
   subst h1 h2 h3
   exact⟨fun _=>(l,H),fun _=>undef,l,rfl,rfl,hf,fun j _ h=>absurd h (by simp;omega),fun j _ h=>absurd h (by simp;omega),fun m=>by simp,fun _ _ _=>.refl H⟩
 | @cons o os d lo r hd ho hg hr ih=>
   intro i hi tr0 tr f l H f1 H1 hf hk h
   have hio:ops[i]? =some o:=by
    have:(ops.toList.drop i)[0]? =some o:=by rw[hi];rfl
    rw[dJ]at this
    simpa using this
   have hi':ops.toList.drop (i+1)=os:=by rw[←fA,hi];rfl
   have hw:Region.wanted o (iU ops l)=true:=by simp[Region.wanted,hg]
   have h:b2f tr0 f H d (rW P C r) (opF P C lo f H)=.ok tr f1 H1:=h
   have key:∀v H2,(opF P C lo f H).Is v H2→(wH d v f fun f2=>rW P C r ((f,H,v)::tr0) f2 H2)=.ok tr f1 H1→∃T val l1,T i=(l,H)∧T (i+(o::os).length)=(l1,H1)∧FRel k f1 l1∧Noted P k ops H i (o::os).length T val tr0 tr:=by
    intro v H2 hop hrest
    obtain⟨hs,hk2⟩:=ho C H0 f l H v H2 hC hk hf.2 hop
    obtain⟨f',e,hf'⟩:=wO hf hd v (fun f2=>rW P C r ((f,H,v)::tr0) f2 H2)
    rw[e]at hrest
    have:=ih hi' hf' (hk.trans hk2) hrest
    exact more (o:=o) (l1:=l) hf ⟨o,hio,rfl,.inl ⟨hw,hs⟩⟩ hk2 this
   cases hop:opF P C lo f H with
   | no=>rw[hop]at h;cases h
   | ok v H2=>rw[hop]at h;exact key v H2 (.inl hop) h
   | th v H2=>
     rw[hop]at h
     have h:zM v (fun v=>oE H2 fun H2=>wH d v f fun f2=>rW P C r ((f,H,v)::tr0) f2 H2)=.ok tr f1 H1:=h
     rw[zU,mA]at h
     exact key v H2 (.inr hop) h
 | @gcons o os d lo r j t w hd ho hg ht htk hr ih=>
   intro i hi tr0 tr f l H f1 H1 hf hk h
   have hio:ops[i]? =some o:=by
    have:(ops.toList.drop i)[0]? =some o:=by rw[hi];rfl
    rw[dJ]at this
    simpa using this
   have hi':ops.toList.drop (i+1)=os:=by rw[←fA,hi];rfl
   have hwi:Region.wanted o (iU ops l)=isB (oN (kT t) f) w:=by
    simp only[Region.wanted,hg]
    rw[zZ ht (by rw[hf.1];exact htk) w,hf.2 t]
   have h:oL (isB (oN (kT t) f) w) (wH d undef f fun f2=>rW P C r ((f,H,undef)::tr0) f2 H) (b2f tr0 f H d (rW P C r) (opF P C lo f H))=.ok tr f1 H1:=h
   rw[kS]at h
   split at h
   ·rename_i hb
    have key:∀v H2,(opF P C lo f H).Is v H2→(wH d v f fun f2=>rW P C r ((f,H,v)::tr0) f2 H2)=.ok tr f1 H1→∃T val l1,T i=(l,H)∧T (i+(o::os).length)=(l1,H1)∧FRel k f1 l1∧Noted P k ops H i (o::os).length T val tr0 tr:=by
     intro v H2 hop hrest
     obtain⟨hs,hk2⟩:=ho C H0 f l H v H2 hC hk hf.2 hop
     obtain⟨f',e,hf'⟩:=wO hf hd v (fun f2=>rW P C r ((f,H,v)::tr0) f2 H2)
     rw[e]at hrest
     exact more (o:=o) (l1:=l) hf ⟨o,hio,rfl,.inl ⟨by rw[hwi,hb],hs⟩⟩ hk2 (ih hi' hf' (hk.trans hk2) hrest)
    cases hop:opF P C lo f H with
    | no=>rw[hop]at h;cases h
    | ok v H2=>rw[hop]at h;exact key v H2 (.inl hop) h
    | th v H2=>
      rw[hop]at h
      have h:zM v (fun v=>oE H2 fun H2=>wH d v f fun f2=>rW P C r ((f,H,v)::tr0) f2 H2)=.ok tr f1 H1:=h
      rw[zU,mA]at h
      exact key v H2 (.inr hop) h
   ·rename_i hb
    obtain⟨f',e,hf'⟩:=wO hf hd undef (fun f2=>rW P C r ((f,H,undef)::tr0) f2 H)
    rw[e]at h
    exact more (o:=o) (l1:=l) hf ⟨o,hio,rfl,.inr ⟨by rw[hwi];simpa using hb,rfl,rfl⟩⟩ (.refl H) (ih hi' hf' hk h)
theorem b2C{α:Type}(p:α→Bool)(l:List α):b8o p l=l.all p:=by
 induction l with
 | nil=>rfl
 | cons x l ih=>
   show oL (p x) false (b8o p l)=_
   rw[kS,ih,fx]
   cases p x<;>rfl
theorem b9w{v:Value}{r:Rs}(h:b9f v r=true):∃H,r.Is v H:=by
 cases r with
 | no=>cases h
 | ok w H=>exact⟨H,.inl (by rw[b5N (show veq w v=true from h)])⟩
 | th w H=>exact⟨H,.inr (by rw[b5N (show veq w v=true from h)])⟩
theorem LowTab.get{ops:Array Oper}{tab:List (Nat×Nat)}{t:List (Nat×Option Nat×Option (Pth×Bool)×LOp)}(h:LowTab P ops tab t){i m:Nat}(hm:(i,m)∈tab):∃o lo g,ops[i]? =some o∧GOk ops o g∧xD P o lo∧(ops.size-1-i,(if m<ops.size then some (ops.size-1-m)else none),g,lo)∈t:=by
 induction h with
 | nil=>cases hm
 | @cons i2 m2 o lo tab t g ho hgd hl hr ih=>
   rcases dX.1 hm with he|hm
   ·injection he with h1 h2
    subst h1 h2
    exact⟨o,lo,g,ho,hgd,hl,by simp⟩
   ·obtain⟨o',lo',g',h1,h0,h2,h3⟩:=ih hm
    exact⟨o',lo',g',h1,h0,h2,dR _ h3⟩
theorem b0I{fl:Fl}{ops:Array Oper}{i m:Nat}(h:(i,m)∈mP fl ops){o:Oper}(ho:ops[i]? =some o):oB o.op=true:=by
 unfold mP at h
 simp only[dQ]at h
 obtain⟨⟨x,j⟩,hx,h⟩:=h
 dsimp only at h
 split at h
 ·rename_i hr
  simp only[dC]at h
  obtain⟨m',_,e⟩:=h
  injection e with e1 e2
  subst e1
  have:=gx.1 hx
  have:ops[j]? =some x:=by simpa using this
  rw[this]at ho
  injection ho with ho
  subst ho
  exact hr
 ·cases h
theorem c0Q(jZ:P.follows .mixedOrders=true){k id:Nat}{ops:Array Oper}{C:Calls'}{H:Heap}(hC:CallsOk P C H){lo:LOps}{tab:List (Nat×Nat)}{t:List (Nat×Option Nat×Option (Pth×Bool)×LOp)}(hlo:LowOps P k ops ops.toList lo)(htab:nN P ops=some tab)(hl:LowTab P ops tab t)
 {f:Fr} {l:List Value} {e:Ex} {f1:Fr} {H1:Heap} (hf:FRel k f l) (h:c2u P C t (rW P C lo [] f H)=.ok e f1 H1):∃l1,e=.normal∧FRel k f1 l1∧Sim P (.region id ops true) l H .normal l1 H1∧LK H H1:=by
 cases hr:rW P C lo [] f H with
 | no=>rw[hr]at h;cases h
 | ok tr f2 H2=>
   rw[hr]at h
   have h:oL (b8o (b6H P C tr H2) t) Rc.no (.ok .normal f2 H2)=.ok e f1 H1:=h
   rw[kS]at h
   split at h
   case isFalse=>cases h
   rename_i hall
   injection h with h1 h2 h3
   subst h1 h2 h3
   obtain⟨T,val,l1,hT0,hTn,hf1,hN⟩:=b8Q hC hlo (i:=0) rfl hf (.refl H) hr
   rw[fD,fQ]at hTn
   rw[fD]at hN
   have hlk:LK H H2:=by have:=hN.lk ops.size (eX _) (by omega);rwa [hTn]at this
   refine⟨l1,rfl,hf1,?_,hlk⟩
   have:=Sim.draw jZ (id:=id) htab (T:=T) (val:=val) ⟨fun j hj=>hN.step j (eX _) (by omega)⟩ ?_
   ·rw[hT0,hTn]at this;exact this
   ·intro i m o hm ho hw
    obtain⟨o',lo',gd,ho',hgd,hlow,hmem⟩:=hl.get hm
    rw[ho]at ho'
    obtain rfl:=cX ho'
    rw[b2C,dz]at hall
    have hrd:=hall _ hmem
    have hi:i<ops.size:=(di.1 ho).1
    obtain⟨g,hg,hag⟩:=hN.new i (eX _) (by omega)
    have hg:tr[ops.size-1-i]? =some (g,(T i).2,val i):=by rw[←hg];congr 1;omega
    have hread:oB o.op=true:=by
     obtain⟨fl,_,rfl⟩:=qR htab
     exact b0I hm ho
    have fin:∀H3,LK H H3→b9f (val i) (opF P C lo' g H3)=true→∃H4,opD P o (T i).1 H3=some (val i,H4):=by
     intro H3 hk3 hq
     obtain⟨H4,h4⟩:=b9w hq
     obtain⟨hs,_⟩:=hlow C H g (T i).1 H3 (val i) H4 hC hk3 hag h4
     refine⟨H4,hs.opD fun c fv hc hv=> ?_⟩
     rw[hc]at hread
     simp[oB,hv]at hread
    unfold b6H at hrd
    simp only[a0n,hg,hgd.runs hag hw]at hrd
    rw[kS,if_pos rfl]at hrd
    by_cases hms:m<ops.size
    ·rw[if_pos hms]at hrd
     obtain⟨g2,hg2,_⟩:=hN.new m (eX _) (by omega)
     have hg2:tr[ops.size-1-m]? =some (g2,(T m).2,val m):=by rw[←hg2];congr 1;omega
     simp only[hg2]at hrd
     exact fin _ (hN.lk m (eX _) (by omega)) hrd
    ·rw[if_neg hms]at hrd
     have hle:m=ops.size:=by
      obtain⟨fl,_,rfl⟩:=qR htab
      have:=a2E hm
      omega
     subst hle
     have:=fin H2 hlk hrd
     rw[hTn];exact this
def vI(P:Program):List ResultVar→List LRes→Prop
 | [],[]=>True
 | r::rs,l::ls=>(match r,l with
   | .tmp t,.t p=>p=kT t
   | .cell a t,.c1 p=>p=kT a∧jT P t=some false
   | .cell a t,.cn n p=>p=kT a∧jT P t=some true∧iE P t=some n
   | _,_=>False)∧vI P rs ls
 | _,_=>False
theorem b6a{α:Type}(l:List ResultVar)(K:List LRes→α)(no:α):(∃r,vI P l r∧a1G P l K no=K r)∨a1G P l K no=no:=by
 induction l generalizing K with
 | nil=>exact .inl ⟨[],trivial,rfl⟩
 | cons r l ih=>
   cases r with
   | tmp t=>
     have e:a1G P (.tmp t::l) K no=lR (kT t) fun p=>a1G P l (fun l=>K (.t p::l)) no:=rfl
     rw[e,lO]
     rcases ih (fun l=>K (.t (kT t)::l))with⟨q,h1,h2⟩|h2
     ·exact .inl ⟨.t (kT t)::q,⟨rfl,h1⟩,h2⟩
     ·exact .inr h2
   | cell a t=>
     have e:a1G P (.cell a t::l) K no=match jT P t with
      | some true=>a3V (iE P t) no fun n=>lR (kT a) fun p=>a1G P l (fun l=>K (.cn n p::l)) no
      | some false=>lR (kT a) fun p=>a1G P l (fun l=>K (.c1 p::l)) no
      | none=>no:=rfl
     rw[e]
     split
     ·rename_i ha
      cases hn:iE P t with
      | none=>exact .inr rfl
      | some n=>
        rw[pV,lO]
        rcases ih (fun l=>K (.cn n (kT a)::l))with⟨q,h1,h2⟩|h2
        ·exact .inl ⟨.cn n (kT a)::q,⟨⟨rfl,ha,hn⟩,h1⟩,h2⟩
        ·exact .inr h2
     ·rename_i ha
      rw[lO]
      rcases ih (fun l=>K (.c1 (kT a)::l))with⟨q,h1,h2⟩|h2
      ·exact .inl ⟨.c1 (kT a)::q,⟨⟨rfl,ha⟩,h1⟩,h2⟩
      ·exact .inr h2
     ·exact .inr rfl
theorem b1O{H H1:Heap}{f:Fr}{l:List Value}(hf:FAg f l){r:ResultVar}{q:LRes}{rs:List ResultVar}{qs:List LRes}(h:vI P (r::rs) (q::qs)){v:Value}(hv:(a4S H f q).Is v H1):H1=H∧a1Y P l H r=some v∧vI P rs qs:=by
 obtain⟨h,hr⟩:=h
 cases r with
 | tmp t=>cases q with
   | t p=>
     have h:p=kT t:=h
     subst h
     have hv:(oW (oN (kT t) f) fun v=>Rs.ok v H).Is v H1:=hv
     rw[mU]at hv
     obtain⟨rfl,rfl⟩:=Rs.aP hv
     exact⟨rfl,by rw[hf t];rfl,hr⟩
   | c1 p=>exact h.elim
   | cn n p=>exact h.elim
 | cell a t=>cases q with
   | t p=>exact h.elim
   | c1 p=>
     obtain⟨rfl,ha⟩:=h
     obtain⟨e,h1⟩:=b2G (P:=P) (X:=.t (kT a)) (w:=get l a) ha (hf a) hv
     exact⟨e,h1,hr⟩
   | cn n p=>
     obtain⟨rfl,ha,hn⟩:=h
     obtain⟨e,h1⟩:=b2B (P:=P) (X:=.t (kT a)) (w:=get l a) ha hn (hf a) hv
     exact⟨e,h1,hr⟩
theorem c0m{H:Heap}{f:Fr}{q:LRes}{v:Value}{H1:Heap}:¬(a4S H f q=.th v H1):=by
 intro h
 cases q with
 | t p=>
   have h:(oW (oN p f) fun v=>Rs.ok v H)=.th v H1:=h
   rw[mU]at h;cases h
 | c1 p=>
   have h:b3g (.t p) f H=.th v H1:=h
   unfold b3g at h
   split at h
   ·unfold c1i at h
    split at h
    ·rw[kS,kS,kS]at h
     split at h
     ·split at h
      ·split at h
       ·rename_i cs _ _ _ _ _ _ _ _
        cases hn:a1L cs _ with
        | none=>rw[hn]at h;cases h
        | some w=>rw[hn]at h;have h:(oW w fun v=>Rs.ok v H)=.th v H1:=h;rw[mU]at h;cases h
       ·cases h
      ·cases h
     ·cases h
    ·cases h
   ·unfold c3w at h
    split at h
    ·rw[kS]at h
     split at h
     ·rename_i cs _ _ _ _
      cases hn:a1L cs _ with
      | none=>rw[hn]at h;cases h
      | some w=>rw[hn]at h;have h:(oW w fun v=>Rs.ok v H)=.th v H1:=h;rw[mU]at h;cases h
     ·cases h
    ·cases h
   ·cases h
 | cn n p=>
   have hh:b4H n (.t p) f H=.th v H1:=h
   unfold b4H at hh
   split at hh
   ·unfold c0l at hh
    split at hh
    ·rw[kS,kS,kS]at hh
     split at hh
     ·split at hh
      ·split at hh
       ·have key:∀{cs:List Value}{n:Nat}{pre:List Value},¬(a2H cs n fun l=>Rs.ok (.agg ⟨pre++l⟩) H)=.th v H1:=by
         intro cs
         induction cs with
         | nil=>intro n pre h;cases n<;>cases h
         | cons c cs ih=>
           intro n pre h
           cases n with
           | zero=>cases h
           | succ n=>
             have h:(a2H cs n fun l=>Rs.ok (.agg ⟨pre++(c::l)⟩) H)=.th v H1:=h
             have e:∀l:List Value,pre++(c::l)=(pre++[c])++l:=by intro l;simp
             have h2:(a2H cs n fun l=>Rs.ok (.agg ⟨(pre++[c])++l⟩) H)=.th v H1:=by
              rw[←h];congr 1;funext l;rw[e l]
             exact ih h2
        exact key (pre:=[]) hh
       ·cases hh
      ·cases hh
     ·cases hh
    ·cases hh
   ·cases hh
theorem a7P{H H1:Heap}{f:Fr}{l:List Value}(hf:FAg f l){v:Value}:∀{rs:List ResultVar}{qs:List LRes}{K:List Value→Rs},vI P rs qs→(b5O H f qs K).Is v H1→∃vs,nS P l H rs=some vs∧(K vs).Is v H1
 | [],[],K,_,h=>⟨[],rfl,h⟩
 | [],_::_,_,h,_=>h.elim
 | _::_,[],_,h,_=>h.elim
 | r::rs,q::qs,K,hl,h=>by
   have h:(Rs.rec (motive:=fun _=>Rs) .no (fun v _=>b5O H f qs fun l=>K (v::l)) (fun _ _=>.no) (a4S H f q)).Is v H1:=h
   cases hq:a4S H f q with
   | no=>rw[hq]at h;exact absurd h Rs.ax
   | th w H2=>exact absurd hq c0m
   | ok w H2=>
     rw[hq]at h
     obtain⟨e,h1,h2⟩:=b1O hf hl (.inl hq)
     obtain⟨vs,h3,h4⟩:=a7P hf h2 h
     exact⟨w::vs,by simp[nS,h1,h3],h4⟩
theorem b7e{fn:Func}{H H1:Heap}{f:Fr}{l:List Value}(hf:FAg f l){qs:List LRes}(hl:vI P fn.results.toList qs){v:Value}(h:(a6L qs f H).Is v H1):H1=H∧iC P fn l H=some v:=by
 unfold a6L at h
 split at h
 ·rename_i q
  cases hr:fn.results.toList with
  | nil=>rw[hr]at hl;exact hl.elim
  | cons r rs=>
    rw[hr]at hl
    obtain⟨e,h1,h2⟩:=b1O hf hl h
    cases rs with
    | cons _ _=>exact h2.elim
    | nil=>exact⟨e,by simp[iC,hr,nS,h1]⟩
 ·rename_i hne
  obtain⟨vs,h1,h2⟩:=a7P hf hl h
  obtain⟨h3,h4⟩:=lJ h2
  obtain⟨rfl,rfl⟩:=Rs.aP h4
  refine⟨rfl,?_⟩
  have hlen:∀{rs:List ResultVar}{qs:List LRes},vI P rs qs→rs.length=qs.length:=by
   intro rs
   induction rs with
   | nil=>intro qs h;cases qs with|nil=>rfl|cons=>exact h.elim
   | cons r rs ih=>intro qs h;cases qs with|nil=>exact h.elim|cons q qs=>simp[ih h.2]
  have hvl:∀{rs:List ResultVar}{vs:List Value},nS P l H1 rs=some vs→vs.length=rs.length:=by
   intro rs
   induction rs with
   | nil=>intro vs h;injection h with h;subst h;rfl
   | cons r rs ih=>
     intro vs h
     simp only[nS,dc,dm]at h
     obtain⟨w,_,ws,h1,h2⟩:=h
     subst h2
     simp[ih h1]
  have hn1:vs.length≠1:=by
   rw[hvl h1,hlen hl]
   intro h1
   match qs,h1 with
   | [q],_=>exact hne q rfl
  unfold iC
  rw[h1,cZ]
  rw[b2C]at h3
  have h3:vs.all jD=true:=by rw[←h3];congr 1
  split
  ·exact absurd rfl hn1
  ·rw[if_pos h3]
structure FuncOk(P:Program)(f:FuncId)(g:LFunc):Prop where
 ex:∃fn c,P.funcs[f]? =some fn∧fn.body=some c∧(fn.name== "runtime.NumGoroutine")=false∧g.ps=(List.range fn.ntmps).map kT∧Low P fn.ntmps c g.body∧vI P fn.results.toList g.res
def TOk(P:Program)(T:LT):Prop:=∀f g,a2x (kT f) T=some g→FuncOk P f g
def EOk(P:Program)(E:List LEnv)(H:Heap):Prop:=∀en∈E,en.L<H.length∧∀r,iS H en.L=some (.loop r)→
 ∃k,en.ps=(List.range k).map kT∧r.tmps.size=k∧en.pp=r.params.toList.map kT∧(∀t∈r.params.toList,t<k)∧Low P k r.assign en.a∧Low P k r.body en.b
theorem EOk.ag{E:List LEnv}{H H':Heap}(h:EOk P E H)(hk:LK H H'):EOk P E H':=fun en hen=>by
 obtain⟨h1,h2⟩:=h en hen
 refine⟨dP h1 hk.1,fun r' hr'=> ?_⟩
 obtain⟨r,hr,ea,eb,ep,et⟩:=hk.2 en.L r' h1 hr'
 obtain⟨k,a,b,c,d,e,f⟩:=h2 r hr
 exact⟨k,a,by rw[et];exact b,by rw[ep];exact c,by rw[ep];exact d,by rw[ea];exact e,by rw[eb];exact f⟩
def a4r(P:Program)(ih:qS):Prop:=∀(E:List LEnv)(C:LCode)(k:Nat)(c:Code)(f:Fr)(l:List Value)(H:Heap)(e:Ex)(f1:Fr)(H1:Heap),Low P k c C→FRel k f l→EOk P E H→ih E C f H=.ok e f1 H1→
 ∃l1,FRel k f1 l1∧Sim P c l H e l1 H1∧LK H H1∧∀b,c=.loop b→∃n,Rounds P b n l H e l1 H1
theorem a0S{α:Type}{no:α}:∀{l:List Value}{i m:Nat}{f:Fr}{K:Fr→α},(pR no l ((List.range' i m).map kT) f K=no)∨(l.length≤m∧∃f',pR no l ((List.range' i m).map kT) f K=K f'∧∀t,oN (kT t) f'=if i≤t∧t<i+l.length then get l (t-i)else oN (kT t) f)
 | [],i,m,f,K=>.inr ⟨eX _,f,rfl,fun t=>by rw[if_neg (by simp only[eI];omega)]⟩
 | v::l,i,0,f,K=>.inl rfl
 | v::l,i,m+1,f,K=>by
   have e:pR no (v::l) ((List.range' i (m+1)).map kT) f K=qK v (kT i) f fun f=>pR no l ((List.range' (i+1) m).map kT) f K:=by
    rw[gK];rfl
   rw[e,tE]
   rcases a0S (l:=l) (i:=i+1) (m:=m) (f:=b6E f i v) (K:=K)with h|⟨h1,f',h2,h3⟩
   ·exact .inl h
   ·refine .inr ⟨by simp;omega,f',h2,fun t=> ?_⟩
    rw[h3 t,a4A]
    by_cases ht:t=i
    ·subst ht
     rw[if_neg (by omega),if_pos rfl,if_pos (by simp),Nat.sub_self];rfl
    ·rw[if_neg ht]
     by_cases h4:i+1≤t∧t<i+1+l.length
     ·rw[if_pos h4,if_pos (by simp;omega)]
      rw[show t-i=(t-(i+1))+1 by omega];rfl
     ·rw[if_neg h4,if_neg (by simp;omega)]
theorem xO{α:Type}{no:α}{k:Nat}:∀{args:List Value}{ps:List Tmp}{f:Fr}{l:List Value}{K:Fr→α},FRel k f l→(∀t∈ps,t<k)→args.length=ps.length→
 ∃f',pR no args (ps.map kT) f K=K f'∧FRel k f' ((ps.zip args).foldl (fun t(p,v)=>t.set p v) l)
 | [],[],f,l,K,hf,_,_=>⟨f,rfl,hf⟩
 | v::args,p::ps,f,l,K,hf,hp,he=>by
   have e:pR no (v::args) ((p::ps).map kT) f K=qK v (kT p) f fun f=>pR no args (ps.map kT) f K:=rfl
   rw[e,tE]
   exact xO (hf.set (hp p (by simp)) v) (fun t ht=>hp t (by simp[ht])) (by simpa using he)
 | [],_::_,_,_,_,_,_,he=>by simp at he
 | _::_,[],_,_,_,_,_,he=>by simp at he
theorem a0D(l:List Value)(n t:Nat):get (l++List.replicate n undef) t=get l t:=by
 rw[oR,oR]
 simp only[dg]
 by_cases h:t<l.length
 ·rw[eJ h]
 ·rw[eM (by omega),ew (l:=l) (by omega),gY]
  split<;>rfl
theorem a0F{T:LT}(hT:TOk P T){ih:qS}(hih:a4r P ih){E:List LEnv}{p:Pth}{f:FuncId}{args:List Value}{H H1:Heap}{v:Value}(hE:EOk P E H)(hp:p=kT f)(h:(nD T ih E p args H).Is v H1):
 FnS P f args H (fun v' H'=>v'=v∧H'=H1)∧LK H H1:=by
 unfold nD at h
 split at h
 case h_2=>exact absurd h Rs.ax
 rename_i g hg
 subst hp
 obtain⟨fn,c,hfn,hb,hn,hps,hlow,hres⟩:=(hT f g hg).ex
 rw[hps]at h
 rw[fL]at h
 rcases a0S (no:=Rs.no) (l:=args) (i:=0) (m:=fn.ntmps) (f:=.e) (K:=fun f=>c3k g.res (ih E g.body f H))with h1|⟨h1,f0,h2,h3⟩
 ·rw[h1]at h;exact absurd h Rs.ax
 ·rw[h2]at h
  have hf0:FRel fn.ntmps f0 (args++List.replicate (fn.ntmps-args.length) undef):=by
   refine⟨by simp;omega,fun t=> ?_⟩
   rw[h3 t,a0D]
   by_cases ht:t<args.length
   ·rw[if_pos (by omega)];rfl
   ·rw[if_neg (by omega),vJ,oR,dg,ew (by omega)];try rfl
  cases hr:ih E g.body f0 H with
  | no=>rw[hr]at h;exact absurd h Rs.ax
  | ok e f1 H2=>
    rw[hr]at h
    obtain⟨l1,hf1,hs,hk,_⟩:=hih E g.body fn.ntmps c f0 _ H e f1 H2 hlow hf0 hE hr
    have key:(e=.normal∨e=.ret)→(a6L g.res f1 H2).Is v H1→FnS P f args H (fun v' H'=>v'=v∧H'=H1)∧LK H H1:=by
     intro he hv
     obtain⟨rfl,hv⟩:=b7e hf1.2 hres hv
     exact⟨⟨fn,c,e,l1,H1,v,hfn,hb,hn,hs,he,hv,rfl,rfl⟩,hk⟩
    cases e with
    | normal=>exact key (.inl rfl) h
    | ret=>exact key (.inr rfl) h
    | exit id=>exact absurd h Rs.ax
theorem b6U{T:LT}(hT:TOk P T){ih:qS}(hih:a4r P ih){E:List LEnv}{p:Pth}{f:FuncId}{args:List Value}{H H1:Heap}{v:Value}(hE:EOk P E H)(hp:p=kT f)(h:(b8k P T ih E p f args H).Is v H1):
 (FnS P f args H (fun v' H'=>v'=v∧H'=H1)∨qP P f args H=some (v,H1))∧LK H H1:=by
 unfold b8k at h
 cases hg:a2x p T with
 | some g=>
   rw[hg]at h
   obtain⟨a,b⟩:=a0F (H1:=H1) (v:=v) hT hih hE hp (by unfold nD;rw[hg];exact h)
   exact⟨.inl a,b⟩
 | none=>
   rw[hg]at h
   have h:(c3M P f args H).Is v H1:=h
   unfold c3M at h
   split at h
   ·rename_i v2 H2 hx
    obtain⟨rfl,rfl⟩:=Rs.aS h
    exact⟨.inr hx,a6u hx⟩
   ·exact absurd h Rs.ax
theorem b1D{E:List LEnv}{L:Nat}{en:LEnv}(h:b6L E L=some en):en∈E∧en.L=L:=by
 induction E with
 | nil=>cases h
 | cons e E ih=>
   have h:oL (Nat.beq e.L L) (b6L E L) (some e)=some en:=h
   rw[kS]at h
   split at h
   ·rename_i hh
    injection h with h
    subst h
    exact⟨by simp,ed hh⟩
   ·obtain⟨h1,h2⟩:=ih h
    exact⟨dR _ h1,h2⟩
theorem a7n(e:Ex):c1M e=rZ e:=by cases e<;>rfl
theorem b3k{ih:qS}(hih:a4r P ih){E:List LEnv}{L:Nat}{args:List Value}{H H1:Heap}{v:Value}(hE:EOk P E H)(h:(a9J ih E L args H).Is v H1):zC P L args H v H1∧LK H H1:=by
 unfold a9J at h
 split at h
 case h_2=>exact absurd h Rs.ax
 rename_i en hen
 obtain⟨hmem,rfl⟩:=b1D hen
 split at h
 case h_2=>exact absurd h Rs.ax
 rename_i p fn tmps ps a b d hg
 obtain⟨hlen,h⟩:=lJ h
 rw[zI]at hlen
 have hlen:ps.size=args.length:=by simpa only[decide_eq_true_eq]using hlen
 obtain⟨k,hps,hsz,hpp,hpk,hla,hlb⟩:=(hE en hmem).2 _ hg
 have hsz:tmps.length=k:=by simpa using hsz
 rw[hps,fL]at h
 rcases a0S (no:=Rs.no) (l:=tmps) (i:=0) (m:=k) (f:=.e) (K:=fun f=>pR .no args en.pp f fun f=>tJ ih E en (ih E en.a f H))with h1|⟨h1,f0,h2,h3⟩
 ·rw[h1]at h;exact absurd h Rs.ax
 rw[h2]at h
 have hf0:FRel k f0 tmps:=by
  refine⟨hsz,fun t=> ?_⟩
  rw[h3 t]
  by_cases ht:t<tmps.length
  ·rw[if_pos (by omega)];rfl
  ·rw[if_neg (by omega),vJ,oR,dg,ew (by omega)];try rfl
 rw[hpp]at h
 obtain⟨f2,h4,hf2⟩:=xO (no:=Rs.no) (args:=args) (ps:=ps.toList) (K:=fun f=>tJ ih E en (ih E en.a f H)) hf0 hpk (by simpa using hlen.symm)
 have h:(pR Rs.no args (List.map kT ps.toList) f0 fun f=>tJ ih E en (ih E en.a f H)).Is v H1:=h
 rw[h4]at h
 cases hr1:ih E en.a f2 H with
 | no=>rw[hr1]at h;exact absurd h Rs.ax
 | ok e f3 H2=>
   rw[hr1]at h
   obtain⟨l3,hf3,hs1,hk1,_⟩:=hih E en.a k a f2 _ H e f3 H2 hla hf2 hE hr1
   cases e with
   | ret=>exact absurd h Rs.ax
   | exit id=>exact absurd h Rs.ax
   | normal=>
     have h:(a0T ih E en f3 H2).Is v H1:=h
     unfold a0T at h
     split at h
     case h_2=>exact absurd h Rs.ax
     rename_i p2 fn2 tmps2 ps2 a2 b2 d2 hg2
     rw[mA]at h
     obtain⟨r0,hr0,ea,eb,ep,et⟩:=hk1.2 en.L _ (hE en hmem).1 hg2
     rw[hg]at hr0
     injection hr0 with hr0
     injection hr0 with hr0
     subst hr0
     have ea':a2=a:=ea
     have eb':b2=b:=eb
     have ep':ps2=ps:=ep
     have et':tmps2=⟨tmps⟩:=et
     clear ea eb ep et
     subst ea' eb' ep' et'
     have hk2:LK H2 (hset H2 en.L (.loop ⟨.busy,p2,fn2,⟨tmps⟩,ps2,a2,b2,d2⟩)):=.loop hg2 ⟨rfl,rfl,rfl,rfl⟩
     cases hr2:ih E en.b f3 (hset H2 en.L (.loop ⟨.busy,p2,fn2,⟨tmps⟩,ps2,a2,b2,d2⟩))with
     | no=>rw[hr2]at h;exact absurd h Rs.ax
     | ok e f4 H3=>
       rw[hr2]at h
       obtain⟨l4,_,hs2,hk3,_⟩:=hih E en.b k b2 f3 _ _ e f4 H3 hlb hf3 (hE.ag (hk1.trans hk2)) hr2
       have h:(a2W en.L e H3).Is v H1:=h
       unfold a2W at h
       split at h
       case h_2=>exact absurd h Rs.ax
       rename_i st3 p3 fn3 tmps3 ps3 a3 b3 d3 hg3
       have fin:∀r',H1=hset H3 en.L (.loop r')→(r'={(⟨st3,p3,fn3,tmps3,ps3,a3,b3,d3⟩:Loop)with state:=if(rZ e).isNone then .ready else .done,pending:=rZ e})→v=.bool (rZ e).isNone→zC P en.L args H v H1∧LK H H1:=by
        intro r' hH hr' hv
        refine⟨?_,hk1.trans (hk2.trans (hk3.trans (by rw[hH];exact .loop hg3 (by rw[hr'];exact⟨rfl,rfl,rfl,rfl⟩))))⟩
        have hW:=a1r (P:=P) (args:=args) (K:=fun v' H'=>v'=v∧H'=H1) hg hlen rfl
         ⟨.normal,l3,H2,hs1,rfl,_,hg2,rfl,e,l4,H3,hs2,_,hg3,hv.symm,by rw[hH,hr']⟩
        obtain⟨v',H',h1,rfl,rfl⟩:=hW
        exact h1
       split at h
       ·rename_i hj
        obtain⟨rfl,rfl⟩:=Rs.aS h
        rw[a7n]at hj
        exact fin _ rfl (by rw[hj];rfl) (by rw[hj];rfl)
       ·rename_i c hj
        obtain⟨rfl,rfl⟩:=Rs.aS h
        rw[a7n]at hj
        exact fin _ rfl (by rw[hj];rfl) (by rw[hj];rfl)
theorem a4t{T:LT}(hT:TOk P T){ih:qS}(hih:a4r P ih){E:List LEnv}{H0:Heap}(hE:EOk P E H0):CallsOk P (a0z P T ih E) H0 where
 fn p f args H v H1 hk h hp:=b6U hT hih (hE.ag hk) hp h
 rd L args H v H1 hk h:=b3k hih (hE.ag hk) h
theorem c3Y{α:Type}{f:Fr}{l:List Value}(hf:FAg f l)(i m:Nat)(K:List Value→α):frL f ((List.range' i m).map kT) K=K ((List.range' i m).map (get l)):=by
 induction m generalizing i K with
 | zero=>rfl
 | succ m ih=>
   have e:frL f ((List.range' i (m+1)).map kT) K=oW (oN (kT i) f) fun v=>frL f ((List.range' (i+1) m).map kT) fun l=>K (v::l):=by
    rw[gK];rfl
   rw[e,mU,ih,hf i,gK];rfl
theorem b9S{α:Type}{k:Nat}{f:Fr}{l:List Value}(hf:FRel k f l)(K:List Value→α):frL f ((List.range k).map kT) K=K l:=by
 rw[fL,c3Y hf.2,←fL]
 congr 1
 apply gF
 intro i
 rw[eR]
 by_cases hi:i<k
 ·rw[gQ hi,dS,oR,dg]
  have:i<l.length:=by rw[hf.1];exact hi
  simp[du this]
 ·rw[ew (by simp;omega),ew (by rw[hf.1];omega)];rfl
theorem b3D{T:LT}(hT:TOk P T){ih:qS}(hih:a4r P ih){E:List LEnv}{k:Nat}{g:Operand}{ps:Array Tmp}{assign body:Code}{A B:LCode}(hg:iP g=true)(hps:∀t∈ps.toList,t<k)(ha:Low P k assign A)(hb:Low P k body B)
 {x1 x2:Fr→Heap→Rc} {f:Fr} {l:List Value} {H:Heap} {e:Ex} {f1:Fr} {H1:Heap} (hf:FRel k f l) (hE:EOk P E H) (h:b0g T ih E (iV g) ((List.range k).map kT) (ps.toList.map kT) ps assign body A B x1 x2 f H=.ok e f1 H1):
 f1=f∧Sim P (.rangeFunc g ps assign body) l H e l H1∧LK H H1:=by
 unfold b0g at h
 rw[jW hf.2]at h
 split at h
 case h_2=>cases h
 rename_i j xa xb hgv
 rw[kC,b9S hf,mA,kC]at h
 unfold b2u at h
 rw[lO]at h
 generalize hH0:H.cons (.loop ⟨.ready,none,0,⟨l⟩,ps,assign,body,0⟩)=H0 at h
 have hl0:(⟨.ready,none,0,⟨l⟩,ps,assign,body,0⟩:Loop)=b2M l ps assign body:=rfl
 have hE0:EOk P (⟨H.length,(List.range k).map kT,ps.toList.map kT,A,B⟩::E) H0:=by
  intro en hen
  rcases dX.1 hen with rfl|hen
  ·refine⟨by rw[←hH0,length_cons];exact Nat.lt_succ_self _,fun r hr=> ?_⟩
   rw[←hH0,iN]at hr
   injection hr with hr
   injection hr with hr
   subst hr
   exact⟨k,rfl,by simpa using hf.1,rfl,hps,ha,hb⟩
  ·exact(hE.ag (by rw[←hH0];exact .cons _ _)) en hen
 have key:∀v H2,(nD T ih (⟨H.length,(List.range k).map kT,ps.toList.map kT,A,B⟩::E) (kT j) (a6c xa (.func (.yield H.length) #[] #[]::xb)) H0).Is v H2→vT H.length f H2=.ok e f1 H1→f1=f∧Sim P (.rangeFunc g ps assign body) l H e l H1∧LK H H1:=by
  intro v H2 hc hr
  obtain⟨hfn,hk⟩:=a0F hT hih hE0 rfl hc
  have hargs:a6c xa (.func (.yield H.length) #[] #[]::xb)=xa++[.func (.yield H.length) #[] #[]]++xb:=by rw[yO];simp
  rw[hargs,←hH0,hl0]at hfn
  have fin:∀(r:Loop)(H3:Heap),iS H2 H.length=some (.loop r)→r.state≠.busy→H3=hset H2 H.length (.loop {r with state:=.exhausted})→(r.pending=none→e=.normal)→(∀c,r.pending=some c→(c=.ret∧e=.ret)∨∃id,c=.exit id∧e=.exit id)→f1=f→H1=H3→
   f1=f∧Sim P (.rangeFunc g ps assign body) l H e l H1∧LK H H1:=by
   intro r H3 hrl hnb hH3 hp0 hp1 he1 he2
   have hw:Wp P (.rangeFunc g ps assign body) l H (fun e' l' H'=>e'=e∧l'=l∧H'=H3):=by
    refine Wp.range (first:=xa) (captured:=xb) hg (by rw[hgv]) (hfn.mono ?_)
    rintro v' H'⟨rfl,rfl⟩
    refine⟨r,hrl,hnb,fun hp=>⟨(hp0 hp).symm,rfl,hH3.symm⟩,fun c hc=> ?_⟩
    rcases hp1 c hc with⟨rfl,he⟩|⟨id,rfl,he⟩
    ·exact Wp.ret ⟨he.symm,rfl,hH3.symm⟩
    ·exact Wp.exit ⟨he.symm,rfl,hH3.symm⟩
   obtain⟨e',l',H',hs,rfl,rfl,rfl⟩:=hw
   refine⟨he1,by rw[he2];exact hs,?_⟩
   rw[he2,hH3]
   have h1:LK H H0:=by rw[←hH0];exact .cons _ _
   exact h1.trans (hk.trans (.loop hrl ⟨rfl,rfl,rfl,rfl⟩))
  unfold vT at hr
  split at hr
  ·rename_i hg2
   rw[mA]at hr
   injection hr with h1 h2 h3
   exact fin _ _ hg2 (by simp) rfl (fun _=>h1.symm) (fun c hc=>by cases hc) h2.symm h3.symm
  ·rename_i hg2
   rw[mA]at hr
   injection hr with h1 h2 h3
   exact fin _ _ hg2 (by simp) rfl (fun _=>h1.symm) (fun c hc=>by cases hc) h2.symm h3.symm
  ·rename_i hg2
   rw[mA]at hr
   injection hr with h1 h2 h3
   exact fin _ _ hg2 (by simp) rfl (fun hc=>by cases hc) (fun c hc=>by injection hc with hc;subst hc;exact .inl ⟨rfl,h1.symm⟩) h2.symm h3.symm
  ·rename_i hg2
   rw[mA]at hr
   injection hr with h1 h2 h3
   exact fin _ _ hg2 (by simp) rfl (fun hc=>by cases hc) (fun c hc=>by injection hc with hc;subst hc;exact .inr ⟨_,rfl,h1.symm⟩) h2.symm h3.symm
  ·cases hr
 cases hc:nD T ih (⟨H.length,(List.range k).map kT,ps.toList.map kT,A,B⟩::E) (kT j) (a6c xa (.func (.yield H.length) #[] #[]::xb)) H0 with
 | no=>rw[hc]at h;cases h
 | ok v H2=>rw[hc]at h;exact key v H2 (.inl hc) h
 | th v H2=>
   rw[hc]at h
   have h:oE H2 (fun H=>vT _ f H)=.ok e f1 H1:=h
   rw[mA]at h
   exact key v H2 (.inr hc) h
theorem c3P(jZ:P.follows .mixedOrders=true){T:LT}(hT:TOk P T):∀n,a4r P (exF P T n):=by
 intro n
 induction n with
 | zero=>intro E C k c f l H e f1 H1 _ _ _ h;cases h
 | succ n ih=>
   intro E C k c f l H e f1 H1 hlow hf hE h
   have h:b2L P T (exF P T n) E C f H=.ok e f1 H1:=h
   have noloop:∀{c:Code},(∀b,c≠.loop b)→∀{l1:List Value},∀b,c=.loop b→∃n,Rounds P b n l H e l1 H1:=fun hne _ b hb=>absurd hb (hne b)
   cases hlow with
   | bad=>cases h
   | skip=>
     injection h with h1 h2 h3;subst h1 h2 h3
     exact⟨l,hf,.skip l H,.refl H,noloop (by intro b h;cases h)⟩
   | label t=>
     injection h with h1 h2 h3;subst h1 h2 h3
     exact⟨l,hf,.label t l H,.refl H,noloop (by intro b h;cases h)⟩
   | exit id=>
     injection h with h1 h2 h3;subst h1 h2 h3
     exact⟨l,hf,.exit id l H,.refl H,noloop (by intro b h;cases h)⟩
   | ret=>
     injection h with h1 h2 h3;subst h1 h2 h3
     exact⟨l,hf,.ret l H,.refl H,noloop (by intro b h;cases h)⟩
   | @reg id ops d lo hlo hd=>
     have h:c5a (a0i P (a0z P T (exF P T n) E) lo f H)=.ok e f1 H1:=h
     cases hr:a0i P (a0z P T (exF P T n) E) lo f H with
     | no=>rw[hr]at h;cases h
     | ok f2 H2=>
       rw[hr]at h
       injection h with h1 h2 h3;subst h1 h2 h3
       obtain⟨l1,hf1,hops,hk⟩:=c0z (a4t hT ih hE) hlo (i:=0) rfl hf (.refl H) hr
       have hops:OpsR P ops (List.range ops.size) l H l1 H2:=by rw[fL];simpa using hops
       refine⟨l1,hf1,?_,hk,noloop (by intro b h;cases h)⟩
       cases d with
       | false=>exact .region hops
       | true=>exact .bY jZ (hd rfl) hops
   | drw hlo ht hl=>
     obtain⟨l1,rfl,hf1,hs,hk⟩:=c0Q jZ (a4t hT ih hE) hlo ht hl hf h
     exact⟨l1,hf1,hs,hk,noloop (by intro b h;cases h)⟩
   | @seq a b A B ha hb=>
     have h:c1v (exF P T n) E B (exF P T n E A f H)=.ok e f1 H1:=h
     cases hr:exF P T n E A f H with
     | no=>rw[hr]at h;cases h
     | ok e2 f2 H2=>
       rw[hr]at h
       obtain⟨l2,hf2,hs,hk,_⟩:=ih E A k a f l H e2 f2 H2 ha hf hE hr
       cases e2 with
       | normal=>
         obtain⟨l1,hf1,hs1,hk1,_⟩:=ih E B k b f2 l2 H2 e f1 H1 hb hf2 (hE.ag hk) h
         exact⟨l1,hf1,.seq hs hs1,hk.trans hk1,noloop (by intro b h;cases h)⟩
       | ret=>
         injection h with h1 h2 h3;subst h1 h2 h3
         exact⟨l2,hf2,.seq' hs (by intro h;cases h),hk,noloop (by intro b h;cases h)⟩
       | exit id=>
         injection h with h1 h2 h3;subst h1 h2 h3
         exact⟨l2,hf2,.seq' hs (by intro h;cases h),hk,noloop (by intro b h;cases h)⟩
   | @cond c x y X Y hc hx hy=>
     have h:b7C (exF P T n) E (iV c) X Y (b2L P T (exF P T n) E X) (b2L P T (exF P T n) E Y) f H=.ok e f1 H1:=h
     unfold b7C at h
     rw[jW hf.2]at h
     split at h
     ·rename_i t ht
      cases t with
      | true=>
        obtain⟨l1,hf1,hs,hk,_⟩:=ih E X k x f l H e f1 H1 hx hf hE h
        exact⟨l1,hf1,.cond ht hc hs,hk,noloop (by intro b h;cases h)⟩
      | false=>
        obtain⟨l1,hf1,hs,hk,_⟩:=ih E Y k y f l H e f1 H1 hy hf hE h
        exact⟨l1,hf1,.cond ht hc hs,hk,noloop (by intro b h;cases h)⟩
     ·cases h
   | @block id b B hb=>
     have h:c5C id (exF P T n E B f H)=.ok e f1 H1:=h
     cases hr:exF P T n E B f H with
     | no=>rw[hr]at h;cases h
     | ok e2 f2 H2=>
       rw[hr]at h
       obtain⟨l2,hf2,hs,hk,_⟩:=ih E B k b f l H e2 f2 H2 hb hf hE hr
       have hs':Sim P (.block id b) l H (e2.out id) l2 H2:=.block hs
       cases e2 with
       | normal=>injection h with h1 h2 h3;subst h1 h2 h3;exact⟨l2,hf2,hs',hk,noloop (by intro b h;cases h)⟩
       | ret=>injection h with h1 h2 h3;subst h1 h2 h3;exact⟨l2,hf2,hs',hk,noloop (by intro b h;cases h)⟩
       | exit i=>
         have h:Rc.ok (Bool.rec (motive:=fun _=>Ex) (.exit i) .normal (Nat.beq i id)) f2 H2=.ok e f1 H1:=h
         injection h with h1 h2 h3;subst h2 h3
         have:(Ex.exit i).out id=e:=by
          rw[←h1]
          by_cases hi:i=id
          ·subst hi;simp[Ex.out]
          ·have:Nat.beq i id=false:=fV.2 fun e=>hi (ed e)
           simp[Ex.out,hi,this]
         rw[this]at hs'
         exact⟨l2,hf2,hs',hk,noloop (by intro b h;cases h)⟩
   | @loop b B hb=>
     have h:c1v (exF P T n) E (.loop B) (exF P T n E B f H)=.ok e f1 H1:=h
     cases hr:exF P T n E B f H with
     | no=>rw[hr]at h;cases h
     | ok e2 f2 H2=>
       rw[hr]at h
       obtain⟨l2,hf2,hs,hk,_⟩:=ih E B k b f l H e2 f2 H2 hb hf hE hr
       have last:e2≠.normal→e2=e→f2=f1→H2=H1→∃l1,FRel k f1 l1∧Sim P (.loop b) l H e l1 H1∧LK H H1∧∀b',Code.loop b=.loop b'→∃n,Rounds P b' n l H e l1 H1:=by
        intro hne h1 h2 h3
        subst h1 h2 h3
        have hr:Rounds P b 1 l H e2 l2 H2:=.last hs hne
        exact⟨l2,hf2,.loop hr,hk,fun b' hb'=>by injection hb' with hb';subst hb';exact⟨1,hr⟩⟩
       cases e2 with
       | normal=>
         obtain⟨l1,hf1,hs1,hk1,hro⟩:=ih E (.loop B) k (.loop b) f2 l2 H2 e f1 H1 (.loop hb) hf2 (hE.ag hk) h
         obtain⟨m,hm⟩:=hro b rfl
         have hr:Rounds P b (m+1) l H e l1 H1:=.more hs hm
         exact⟨l1,hf1,.loop hr,hk.trans hk1,fun b' hb'=>by injection hb' with hb';subst hb';exact⟨_,hr⟩⟩
       | ret=>injection h with h1 h2 h3;exact last (by intro h;cases h) h1 h2 h3
       | exit id=>injection h with h1 h2 h3;exact last (by intro h;cases h) h1 h2 h3
   | range hg hps ha hb=>
     obtain⟨rfl,hs,hk⟩:=b3D (x1:=fun _ _=>.no) (x2:=fun _ _=>.no) hT ih hg hps ha hb hf hE h
     exact⟨l,hf,hs,hk,noloop (by intro b h;cases h)⟩
theorem a0b{α:Type}(v:LFunc)(p:Pth)(f:LT)(K:LT→α):sH v p f K=K (sH v p f fun f=>f):=by
 induction p generalizing f α with
 | z=>cases f<;>rfl
 | l p ih=>
   cases f with
   | e=>
     show sH v p .e (fun l=>K (.n none l .e))=K (sH v p .e fun l=>.n none l .e)
     rw[ih,ih (K:=fun l=>LT.n none l .e)]
   | n w l r=>
     show sH v p l (fun l=>K (.n w l r))=K (sH v p l fun l=>.n w l r)
     rw[ih,ih (K:=fun l=>LT.n w l r)]
 | r p ih=>
   cases f with
   | e=>
     show sH v p .e (fun l=>K (.n none .e l))=K (sH v p .e fun l=>.n none .e l)
     rw[ih,ih (K:=fun l=>LT.n none .e l)]
   | n w l r=>
     show sH v p r (fun r=>K (.n w l r))=K (sH v p r fun r=>.n w l r)
     rw[ih,ih (K:=fun r=>LT.n w l r)]
theorem xW(p:Pth):a2x p .e=none:=by cases p<;>rfl
theorem b2V(v:LFunc)(p q:Pth)(f:LT){g:LFunc}(h:a2x q (sH v p f fun f=>f)=some g):(q=p∧g=v)∨a2x q f=some g:=by
 induction p generalizing f q with
 | z=>
   cases q with
   | z=>left;refine⟨rfl,?_⟩;cases f<;>(injection h with h;exact h.symm)
   | l q=>right;cases f with
     | e=>have h:a2x q .e=some g:=h
          rw[xW]at h;cases h
     | n=>exact h
   | r q=>right;cases f with
     | e=>have h:a2x q .e=some g:=h
          rw[xW]at h;cases h
     | n=>exact h
 | l p ih=>
   have h1:∀f,sH v (.l p) f (fun f=>f)=match f with|.e=>.n none (sH v p .e fun f=>f) .e|.n w l r=>.n w (sH v p l fun f=>f) r:=fun f=>by
    cases f with
    | e=>exact a0b v p .e fun l=>LT.n none l .e
    | n w l r=>exact a0b v p l fun l=>LT.n w l r
   rw[h1]at h
   cases q with
   | z=>right;cases f with
     | e=>exact h
     | n=>exact h
   | r q=>right;cases f with
     | e=>have h:a2x q .e=some g:=h
          rw[xW]at h;cases h
     | n=>exact h
   | l q=>
     cases f with
     | e=>
       rcases ih q .e h with⟨rfl,hq⟩|h
       ·exact .inl ⟨rfl,hq⟩
       ·rw[xW]at h;cases h
     | n w l r=>
       rcases ih q l h with⟨rfl,hq⟩|h
       ·exact .inl ⟨rfl,hq⟩
       ·exact .inr h
 | r p ih=>
   have h1:∀f,sH v (.r p) f (fun f=>f)=match f with|.e=>.n none .e (sH v p .e fun f=>f)|.n w l r=>.n w l (sH v p r fun f=>f):=fun f=>by
    cases f with
    | e=>exact a0b v p .e fun l=>LT.n none .e l
    | n w l r=>exact a0b v p r fun r=>LT.n w l r
   rw[h1]at h
   cases q with
   | z=>right;cases f with
     | e=>exact h
     | n=>exact h
   | l q=>right;cases f with
     | e=>have h:a2x q .e=some g:=h
          rw[xW]at h;cases h
     | n=>exact h
   | r q=>
     cases f with
     | e=>
       rcases ih q .e h with⟨rfl,hq⟩|h
       ·exact .inl ⟨rfl,hq⟩
       ·rw[xW]at h;cases h
     | n w l r=>
       rcases ih q r h with⟨rfl,hq⟩|h
       ·exact .inl ⟨rfl,hq⟩
       ·exact .inr h
theorem b3m{α:Type}(f:FuncId)(no:α)(K:LFunc→α):(∃g,FuncOk P f g∧a3w P f no K=K g)∨a3w P f no K=no:=by
 unfold a3w
 split
 ·rename_i fn hfn
  split
  ·rename_i c hb
   rw[kS]
   split
   ·exact .inr rfl
   ·rename_i hn
    rcases b6a (P:=P) fn.results.toList (fun res=>b5a fn.ntmps fun ps=>nP P fn.ntmps c fun b=>K ⟨ps,b,res⟩) no with⟨res,hres,h1⟩|h1
    ·rw[h1,b1T]
     obtain⟨C,hC,h2⟩:=b3Y (P:=P) fn.ntmps c (fun b=>K ⟨(List.range fn.ntmps).map kT,b,res⟩)
     exact .inl ⟨⟨_,C,res⟩,⟨fn,c,hfn,hb,by simpa using hn,rfl,hC,hres⟩,h2⟩
    ·exact .inr h1
  ·exact .inr rfl
 ·exact .inr rfl
theorem b6A{α:Type}(fs:List FuncId)(T:LT)(hT:TOk P T)(K:LT→α):∃T',TOk P T'∧uU P fs T K=K T':=by
 induction fs generalizing T with
 | nil=>exact⟨T,hT,rfl⟩
 | cons f fs ih=>
   have e:uU P (f::fs) T K=a3w P f (uU P fs T K) fun g=>lR (kT f) fun p=>sH g p T fun T=>uU P fs T K:=rfl
   rw[e]
   rcases b3m (P:=P) f (uU P fs T K) (fun g=>lR (kT f) fun p=>sH g p T fun T=>uU P fs T K)with⟨g,hg,h⟩|h
   ·rw[h,lO,a0b]
    refine ih _ fun f' g' h'=> ?_
    rcases b2V g (kT f) (kT f') T h' with⟨he,rfl⟩|h'
    ·rw[b2x he];exact hg
    ·exact hT f' g' h'
   ·rw[h];exact ih T hT
end Go.Ds
namespace Go.Ds
open Go.Proofs Go.Proofs.Tryz
def t64:List Nat:=[0,1,56,2,57,49,28,3,61,58,42,50,38,29,17,4,62,47,59,36,45,43,51,22,53,39,33,30,24,18,12,5,63,55,48,27,60,41,37,16,46,35,44,21,52,32,23,11,54,26,40,15,34,20,31,10,25,14,19,9,13,8,7,6]
def t32:List Nat:=[0,1,28,2,29,14,24,3,30,22,20,15,25,17,4,8,31,27,13,23,21,19,16,7,26,12,18,6,11,5,10,9]
noncomputable def gH:Heap:=((((Heap.nil.cons (.cells (t64.map fun(n:Nat)=>Value.int .u8 (.ofNat n)) 5 false 0 1)).cons (.cells [] 3 false 0 1)).cons (.cells ([1,10,100,1000,10000,100000,1000000,10000000,100000000,1000000000,10000000000,100000000000,1000000000000,10000000000000,100000000000000,1000000000000000,10000000000000000,100000000000000000,1000000000000000000,10000000000000000000].map fun(n:Nat)=>Value.int .u64 (.ofNat n)) 38 false 0 1)).cons (.cells (t32.map fun(n:Nat)=>Value.int .u8 (.ofNat n)) 5 false 0 1))
theorem c5g:prog.follows .mixedOrders=true:=by kernel_rfl
def b3R:Nat→Nat→List UInt8→List UInt8
 | 0,_,acc=>acc
 | f+1,n,acc=>if n<10 then(48+n).toUInt8::acc else b3R f (n/10) ((48+n%10).toUInt8::acc)
def pT(n:Nat):ByteArray:=⟨(b3R 100 n []).toArray⟩
theorem a5I{b:ByteArray}{n:Nat}(h:b.data.toList=b3R 100 n []):b=pT n:=by
 cases b with|mk d=>cases d with|mk l=>simp only at h;subst h;rfl
def b1W(r:Rs)(n:Nat):Bool:=match r with
 | .ok (.string b) _=>decide (b.data.toList=b3R 100 n [])
 | .th (.string b) _=>decide (b.data.toList=b3R 100 n [])
 | _=>false
def c0M(v:Value)(n:Nat):Bool:=match v with
 | .tuple vs=>match vs.toList with
   | [.string b,.int .i64 m]=>decide (m=0)&&decide (b.data.toList=b3R 100 n [])
   | _=>false
 | _=>false
def b6V(r:Rs)(n:Nat):Bool:=match r with
 | .ok v _=>c0M v n
 | .th v _=>c0M v n
 | _=>false
def b8P(r:Rs)(n:Int):Bool:=match r with
 | .ok (.int .i64 m) _=>decide (m=n)
 | .th (.int .i64 m) _=>decide (m=n)
 | _=>false
noncomputable def c2j (ps:List Nat):Bool:=uU prog [169,195,186,138,187,219,240,241,242,243,272,273,274,275,289] .e fun T=>ps.all fun x=>b1W (nD T (exF prog T 4000) [] (kT 195) [.int .i64 x] gH) x
def fsP:List Nat:=[169,125,126,127,97,194,186,170,171,142,143,222,223,224,225,228,211,212,260,261,262,263,264,265,266,282,283,284,285,240,241,242,243,272,273,274,275,289]
noncomputable def wD (ps:List Nat):Bool:=uU prog fsP .e fun T=>ps.all fun x=>b6V (nD T (exF prog T 4000) [] (kT 194) [.string (pT x),.int .i64 24] gH) (x^24)
def fsM:List Nat:=[169,125,126,127,97,195,196,186,138,170,171,142,143,222,223,224,225,226,228,187,211,212,260,261,262,263,264,265,266,219,282,283,284,285,240,241,242,243,272,273,274,275,289]
noncomputable def mD (ps:List (Nat×Nat)):Bool:=uU prog fsM .e fun T=>ps.all fun x=>b1W (nD T (exF prog T 4000) [] (kT 196) [.string (pT x.1),.string (pT x.2)] gH) (x.1*x.2)
def tC(t:Nat×Nat):List (Nat×Nat):=(t.1^24,2)::(List.range t.2).map fun k=>(2*t.1^24*4^k,4)
def a9c(t:Nat×Nat×Nat):List (Nat×Nat):=(List.range (t.2.2+1)).map fun k=>(t.1^24,2*t.2.1^24*4^k)
def b6B(a b:Nat):Int:=if a<b then -1 else if b<a then 1 else 0
noncomputable def vK (ps:List (Nat×Nat)):Bool:=uU prog [197,227,228,229,265,266,267,285,286] .e fun T=>ps.all fun x=>b8P (nD T (exF prog T 4000) [] (kT 197) [.string (pT x.1),.string (pT x.2)] gH) (b6B x.1 x.2)
end Go.Ds
namespace Go.Ds
open Go.RowKit Go.Proofs
section
variable {P:Program} {ρ:Rho} {H:Heap} {w:World}
theorem a5e{name:String}{g:Nat}{k:IntKind}{zs:List Int}(hg:P.globalNamed name=some g)(ht:Lib.TabIs P w name k zs):∃t fr,w.heap[g]? =some (.cells (zs.map fun z=>Value.int k z).toArray t fr):=by
 unfold Lib.TabIs World.var? at ht
 rw[hg,cZ]at ht
 split at ht
 ·rename_i cs t fr hb
  obtain rfl:=cX ht
  exact⟨t,fr,hb⟩
 ·cases ht
theorem InW.cN(h:InW P ρ H w){name:String}{g:Nat}{k:IntKind}{zs:List Int}{ty:TypeId}(hg:P.globalNamed name=some g)(ht:Lib.TabIs P w name k zs)(hgH:g=H.length)(hty:iE P ty=some 1):
 InW P (ρ.put H.length (zs.map fun z=>Value.int k z).length ⟨g,0,zs.length,1⟩) (H.cons (.cells (zs.map fun z=>Value.int k z) ty false 0 1)) w:=by
 obtain⟨t,fr,hb⟩:=a5e hg ht
 refine(h.row ⟨g,0,zs.length,1⟩ hb (ty:=ty) hty (by simp) (zs.map fun z=>Value.int k z) 1 (fun _=>⟨hgH,rfl⟩) (by simp) fun i c hi _ hc=>⟨c,?_,?_⟩).1
 ·have:(⟨g,0,zs.length,1⟩:Place).at i=i:=by simp[Place.at]
  rw[this]
  simpa using hc
 ·rw[eR]at hc
  obtain⟨z,_,rfl⟩:=dm.1 hc
  exact .c0 (.flat rfl)
end
theorem c5y:∀A b,iS gH A=some b→∃cs ty lo,b=.cells cs ty false lo 1∧kN cs=true:=by
 intro A b h
 unfold gH at h
 have hn:∀(H:Heap)(c:Blk),iS (H.cons c) A=some b→(A=H.length∧b=c)∨iS H A=some b:=fun H c h=>by
  by_cases he:A=H.length
  ·subst he;rw[iN]at h;exact .inl ⟨rfl,(cX h).symm⟩
  ·have hA:A<(H.cons c).length:=jP h
   rw[length_cons]at hA
   rw[jQ _ (by omega)]at h
   exact .inr h
 rcases hn _ _ h with⟨_,rfl⟩|h
 ·exact⟨_,_,_,rfl,by kernel_rfl⟩
 rcases hn _ _ h with⟨_,rfl⟩|h
 ·exact⟨_,_,_,rfl,by kernel_rfl⟩
 rcases hn _ _ h with⟨_,rfl⟩|h
 ·exact⟨_,_,_,rfl,by kernel_rfl⟩
 rcases hn _ _ h with⟨_,rfl⟩|h
 ·exact⟨_,_,_,rfl,by kernel_rfl⟩
 ·have:A<0:=jP h
  omega
theorem ExtW.glob{ρ ρ':Rho}{H':Heap}(h:ExtW ρ gH ρ' H'):Glob gH H':=⟨h.len,fun A hA=>h.old A hA,c5y⟩
def p10:List Int:=[1,10,100,1000,10000,100000,1000000,10000000,100000000,1000000000,10000000000,100000000000,1000000000000,10000000000000,100000000000000,1000000000000000,10000000000000000,100000000000000000,1000000000000000000,10000000000000000000]
theorem g64:Tryz.prog.globalNamed "math/bits.deBruijn64tab" =some 0:=by kernel_rfl
theorem oO:Tryz.prog.globalNamed "internal/strconv.uint64pow10" =some 2:=by kernel_rfl
theorem g32:Tryz.prog.globalNamed "math/bits.deBruijn32tab" =some 3:=by kernel_rfl
theorem b8Z{w:World}(h64:Lib.TabIs Tryz.prog w "math/bits.deBruijn64tab" .u8 (t64.map Int.ofNat))(h10:Lib.TabIs Tryz.prog w "internal/strconv.uint64pow10" .u64 p10)
 (h32:Lib.TabIs Tryz.prog w "math/bits.deBruijn32tab" .u8 (t32.map Int.ofNat)) (h1001:∃cs t fr,w.heap[1]? =some (.cells cs t fr)):∃ρ,InW Tryz.prog ρ gH w:=by
 have a0:=(InW.none (P:=Tryz.prog) w).cN g64 h64 (ty:=5) rfl (by kernel_rfl)
 obtain⟨cs1,t1,fr1,hb1⟩:=h1001
 have a1:=(a0.row ⟨1,0,cs1.size,1⟩ hb1 (ty:=3) (by kernel_rfl) rfl [] 1 (fun _=>⟨rfl,rfl⟩) (by simp) (fun i c hi=>by simp at hi)).1
 have a2:=a1.cN oO h10 (ty:=38) rfl (by kernel_rfl)
 have a3:=a2.cN g32 h32 (ty:=5) rfl (by kernel_rfl)
 exact⟨_,a3⟩
end Go.Ds
namespace Go.Ds
noncomputable section
variable {P:Program} {H0:Base} {H:Heap} {os:List Ob} {κ β:Type} [DecidableEq κ] {enc:κ→Value} {f:β→Value} {t:TypeId} {z:Value}
structure MapK(P:Program)(t:TypeId){κ:Type}[DecidableEq κ](enc:κ→Value)(z:Value):Prop where
 ex:∃kt et,zV P t=some (kt,et)∧jA P et=some z∧jB z=true∧(∀b k,yS P b kt (enc k)=true)∧
  (∀k(es:List MapEntry)(ks:List κ),es.map (·.key)=ks.map enc→sB P kt (enc k) es=some (ks.findIdx? fun x=>decide (x=k)))∧∀k,Instr.sameBits 10000 (enc k) (enc k)=true
def kcs(enc:κ→Value)(f:β→Value)(kvs:List (κ×β)):List Value:=kvs.flatMap fun p=>[enc p.1,f p.2]
def a3j(kvs:List (κ×β))(k:κ):Option β:=(kvs.find? fun p=>decide (p.1=k)).map (·.2)
def a6I(kvs:List (κ×β))(k:κ)(v:β):List (κ×β):=match kvs.findIdx? (fun p=>decide (p.1=k))with
 | some j=>kvs.set j (k,v)
 | none=>kvs++[(k,v)]
theorem a5S:∀(es:List MapEntry)(kvs:List (κ×β)),kcs enc f kvs=mcs es→es.map (·.key)=kvs.map (fun p=>enc p.1)∧es.map (·.val)=kvs.map (fun p=>f p.2)
 | [],[],_=>⟨rfl,rfl⟩
 | [],p::kvs,h=>by simp[kcs,mcs]at h
 | e::es,[],h=>by simp[kcs,mcs]at h
 | e::es,p::kvs,h=>by
   simp only[kcs,mcs,dD,iq,fp,fU]at h
   obtain⟨h1,h2,h3⟩:=h
   obtain⟨h4,h5⟩:=a5S es kvs h3
   simp only[eF]
   exact⟨by rw[h4,h1],by rw[h5,h2]⟩
theorem a9D:∀(es:List MapEntry)(kvs:List (κ×β)),es.map (·.key)=kvs.map (fun p=>enc p.1)→es.map (·.val)=kvs.map (fun p=>f p.2)→kcs enc f kvs=mcs es
 | [],[],_,_=>rfl
 | [],p::kvs,h,_=>by simp at h
 | e::es,[],h,_=>by simp at h
 | e::es,p::kvs,h,h'=>by
   simp only[eF,fU]at h h'
   have:=a9D es kvs h.2 h'.2
   simp only[kcs,mcs,dD]at this ⊢
   rw[this,h.1,h'.1]
theorem St.bZ(hS:St P H0 H os)(i:Nat){A:Nat}{cs:List Value}(ho:os[i]? =some ⟨.map (some A),0,cs⟩):∃es ck ver,iS H A=some (.map es ck ver)∧cs=mcs es∧Stamps es ck:=by
 have:=hS.own _ (dU ho)
 unfold OwnAt at this
 rw[if_pos rfl]at this
 rcases this with⟨_,_,_,_,_,_,h⟩|⟨A',es,ck,ver,h1,h2,h3,h4⟩
 ·cases h
 ·simp only[Value.map.injEq,dH]at h3
  subst h3
  exact⟨es,ck,ver,h1,h2,h4⟩
theorem b1V(kvs:List (κ×β))(k:κ):(∃j x,(kvs.map (·.1)).findIdx? (fun x=>decide (x=k))=some j∧kvs[j]? =some x∧kvs.find? (fun p=>decide (p.1=k))=some x)∨((kvs.map (·.1)).findIdx? (fun x=>decide (x=k))=none∧kvs.find? (fun p=>decide (p.1=k))=none):=by
 induction kvs with
 | nil=>exact .inr ⟨rfl,rfl⟩
 | cons p kvs ih=>
   by_cases h:p.1=k
   ·exact .inl ⟨0,p,by simp[ff,h],rfl,by simp[h]⟩
   ·rcases ih with⟨j,x,h1,h2,h3⟩|⟨h1,h2⟩
    ·exact .inl ⟨j+1,x,by simp[ff,h,h1],by simpa using h2,by simp[h,h3]⟩
    ·exact .inr ⟨by simp[ff,h,h1],by simp[h,h2]⟩
theorem St.cV(hS:St P H0 H os)(i:Nat){A:Nat}{kvs:List (κ×β)}(ho:os[i]? =some ⟨.map (some A),0,kcs enc f kvs⟩)(hk:MapK P t enc z)(hf:∀b,nM (f b)=true)(c:Bool)(k:κ):
 qA P H t (.map (some A)) (enc k) c=some (pairV c (((a3j kvs k).map f).getD z) (a3j kvs k).isSome):=by
 obtain⟨kt,et,h1,h2,h3,h4,h5,h6⟩:=hk.ex
 obtain⟨es,ck,ver,h7,h8,_⟩:=hS.bZ i ho
 obtain⟨h9,h10⟩:=a5S es kvs h8
 have hi:=h5 k es (kvs.map (·.1)) (by rw[h9];simp[ic])
 simp only[qA,h1,cZ,a2e,h7,h4,if_true,hi,a3j]
 rcases b1V kvs k with⟨j,x,e1,e2,e3⟩|⟨e1,e3⟩
 ·have hj:es[j]?.map (·.val)=some (f x.2):=by
   rw[←eR,h10,eR,e2];rfl
  cases he:es[j]? with
  | none=>rw[he]at hj;simp at hj
  | some e=>
    rw[he]at hj
    simp only[dS,dH]at hj
    simp only[e1,he,cZ,hj,hf,if_true,e3,dS,fi,Option.isSome_some]
 ·simp only[e1,e3,Option.map_none,Option.getD_none,Option.isSome_none,h2,cZ,h3,if_true]
def a8F(P:Program)(H:Heap)(t:TypeId)(x k:Value)(c:Bool)(K:Value→Prop)(_k:Keep K:=⟨⟩):Prop:=∃v,qA P H t x k c=some v∧K v
theorem a8a{t:TypeId}{x x' k k':Value}{c:Bool}{K:Value→Prop}(h:x=x')(h2:k=k'):a8F P H t x k c K=a8F P H t x' k' c K:=by rw[h,h2]
attribute [congr] a8a
theorem a9Y(d ty pos af g)(t:TypeId)(x k:Operand)(c:Bool)(l:List Value)(K:Value→Heap→Prop):
 mG P ⟨d,.lookup t x k c,ty,pos,af,g⟩ l H K=jN x l fun x=>jN k l fun k=>a8F P H t x k c fun v=>K v H:=by
 have h2:kE ((qA P H t (ev l x) (ev l k) c).map fun v=>(v,H)) K=∃v,qA P H t (ev l x) (ev l k) c=some v∧K v H:=by
  cases qA P H t (ev l x) (ev l k) c<;>simp[kE]
 simp only[mG,opD,jN,Op.operands,a8F,h2]
 simp[and_assoc]
theorem St.bP(hS:St P H0 H os)(i:Nat){A:Nat}{kvs:List (κ×β)}(ho:os[i]? =some ⟨.map (some A),0,kcs enc f kvs⟩)(hk:MapK P t enc z)(hf:∀b,nM (f b)=true){c:Bool}{k:κ}{K:Value→Prop}
 (h:K (pairV c (((a3j kvs k).map f).getD z) (a3j kvs k).isSome)):a8F P H t (.map (some A)) (enc k) c K:=⟨_,hS.cV i ho hk hf c k,h⟩
def a5V(P:Program)(H:Heap)(t:TypeId)(K:Value→Heap→Prop)(_k:Keep K:=⟨⟩):Prop:=∃v H1,qC P H t none=some (v,H1)∧K v H1
theorem a7C(d ty pos af g)(t:TypeId)(l:List Value)(K:Value→Heap→Prop):mG P ⟨d,.makeMap t none,ty,pos,af,g⟩ l H K=a5V P H t K:=by
 simp only[mG,opD,Op.operands,a5V,mV]
 simp
theorem St.bU(hS:St P H0 H os)(hk:MapK P t enc z){K:Value→Heap→Prop}(h:∀A H1,St P H0 H1 (os++[⟨.map (some A),0,[]⟩])→K (.map (some A)) H1):a5V P H t K:=by
 obtain⟨kt,et,h1,_⟩:=hk.ex
 refine⟨.map (some H.length),H.cons (.map [] 0 0),by simp[qC,h1],h _ _ (hS.add ?_ ?_ ?_ ?_)⟩
 ·unfold OwnAt
  rw[if_pos rfl]
  exact .inr ⟨_,[],0,0,iN H _,rfl,rfl,.nil 0⟩
 ·simp[oY]
 ·exact fun B hB=>jQ _ hB
 ·intro B hB
  simp[kL]at hB
  omega
def b6y(P:Program)(H:Heap)(t:TypeId)(m k v:Value)(K:Heap→Prop)(_k:Keep K:=⟨⟩):Prop:=∃H1,a1P P H t m k v=some H1∧K H1
theorem b1w{t:TypeId}{m m' k k' v v':Value}{K:Heap→Prop}(h:m=m')(h2:k=k')(h3:v=v'):b6y P H t m k v K=b6y P H t m' k' v' K:=by rw[h,h2,h3]
attribute [congr] b1w
theorem a3W(d ty pos af g)(t:TypeId)(m k v:Operand)(l:List Value)(K:Value→Heap→Prop):
 mG P ⟨d,.mapUpdate t m k v,ty,pos,af,g⟩ l H K=jN m l fun m=>jN k l fun k=>jN v l fun v=>b6y P H t m k v fun H1=>K undef H1:=by
 have h2:kE ((a1P P H t (ev l m) (ev l k) (ev l v)).map fun H=>(undef,H)) K=∃H1,a1P P H t (ev l m) (ev l k) (ev l v)=some H1∧K undef H1:=by
  cases a1P P H t (ev l m) (ev l k) (ev l v)<;>simp[kE]
 simp only[mG,opD,jN,Op.operands,b6y,h2]
 simp[and_assoc]
theorem b2Q(kvs:List (κ×β))(k:κ)(v:β):a6I kvs k v=match (kvs.map (·.1)).findIdx? (fun x=>decide (x=k))with|some j=>kvs.set j (k,v)|none=>kvs++[(k,v)]:=by
 unfold a6I
 rw[List.findIdx?_map]
 rfl
theorem St.ch(hS:St P H0 H os)(i:Nat){A:Nat}{kvs:List (κ×β)}(ho:os[i]? =some ⟨.map (some A),0,kcs enc f kvs⟩)(hk:MapK P t enc z){k:κ}{v:β}{K:Heap→Prop}
 (h:∀H1,St P H0 H1 (os.set i ⟨.map (some A),0,kcs enc f (a6I kvs k v)⟩)→K H1):b6y P H t (.map (some A)) (enc k) (f v) K:=by
 obtain⟨kt,et,h1,h2,h3,h4,h5,h6⟩:=hk.ex
 obtain⟨es,ck,ver,h7,h8,hst⟩:=hS.bZ i ho
 obtain⟨h9,h10⟩:=a5S es kvs h8
 have hi:=h5 k es (kvs.map (·.1)) (by rw[h9];simp[ic])
 have fin:∀es' ck',mcs es'=kcs enc f (a6I kvs k v)→Stamps es' ck'→St P H0 (hset H A (.map es' ck' (ver+1))) (os.set i ⟨.map (some A),0,kcs enc f (a6I kvs k v)⟩):=by
  intro es' ck' he hst'
  refine hS.put i ho ?_ ?_ ?_ ?_
  ·unfold OwnAt
   rw[if_pos rfl]
   exact .inr ⟨A,es',ck',_,iT _ (jP h7),he.symm,rfl,hst'⟩
  ·rw[jS];exact dj _
  ·intro B hB hne
   exact rG fun hh=>hne (by simp[kL,hh])
  ·exact fun B hB=>.inl hB
 rcases b1V kvs k with⟨j,x,e1,e2,_⟩|⟨e1,_⟩
 ·have hj:es[j]?.map (·.key)=some (enc x.1):=by
   rw[←eR,h9,eR,e2];rfl
  have hx:x.1=k:=by
   have:=List.findIdx?_eq_some_iff_getElem.1 e1
   obtain⟨hlt,hd,_⟩:=this
   have hlt':j<kvs.length:=by simpa using hlt
   have:kvs[j]=x:=by
    rw[du hlt']at e2
    exact cX e2
   simp[this]at hd
   exact hd
  cases he:es[j]? with
  | none=>rw[he]at hj;simp at hj
  | some e=>
    rw[he]at hj
    simp only[dS,dH]at hj
    refine⟨hset H A (.map (es.set j {e with key:=enc k,val:=f v}) ck (ver+1)),?_,h _ (fin _ _ ?_ (hst.set he _ rfl))⟩
    ·have hsb:Instr.sameBits 10000 e.key (enc k)=true:=by rw[hj,hx];exact h6 k
     simp only[a1P,h1,cZ,h7,h4,if_true,hi,e1,he,hsb]
    ·symm
     rw[b2Q,e1]
     refine a9D _ _ ?_ ?_
     ·rw[ig,ig,h9]
     ·rw[ig,ig,h10]
 ·refine⟨hset H A (.map (es++[{key:=enc k,val:=f v,born:=ck}]) (ck+1) (ver+1)),?_,h _ (fin _ _ ?_ (hst.push _ rfl))⟩
  ·simp only[a1P,h1,cZ,h7,h4,if_true,hi,e1]
  ·symm
   rw[b2Q,e1]
   refine a9D _ _ ?_ ?_
   ·rw[dT,dT,h9];rfl
   ·rw[dT,dT,h10];rfl
def b9O(P:Program)(H:Heap)(t:TypeId)(m k:Value)(K:Value→Heap→Prop)(_k:Keep K:=⟨⟩):Prop:=∃v H1,uE P H t m k=some (v,H1)∧K v H1
theorem a9X{t:TypeId}{m m' k k':Value}{K:Value→Heap→Prop}(h:m=m')(h2:k=k'):b9O P H t m k K=b9O P H t m' k' K:=by rw[h,h2]
attribute [congr] a9X
def b1M(H:Heap)(m b v:Value)(K:Heap→Prop)(_k:Keep K:=⟨⟩):Prop:=∃H1,sA H m b v=some H1∧K H1
theorem a6R{m m' b b' v v':Value}{K:Heap→Prop}(h:m=m')(h2:b=b')(h3:v=v'):b1M H m b v K=b1M H m' b' v' K:=by rw[h,h2,h3]
attribute [congr] a6R
theorem a6x(d ty pos af g)(t:TypeId)(m k:Operand)(l:List Value)(K:Value→Heap→Prop):
 mG P ⟨d,.mapEntry t m k,ty,pos,af,g⟩ l H K=jN m l fun m=>jN k l fun k=>b9O P H t m k K:=by
 have h2:kE (uE P H t (ev l m) (ev l k)) K=∃v H1,uE P H t (ev l m) (ev l k)=some (v,H1)∧K v H1:=mV ..
 simp only[mG,opD,jN,Op.operands,b9O,h2]
 simp[and_assoc]
theorem a3r(d ty pos af g)(t:TypeId)(m b v:Operand)(l:List Value)(K:Value→Heap→Prop):
 mG P ⟨d,.entryStore t m b v,ty,pos,af,g⟩ l H K=jN m l fun m=>jN b l fun b=>jN v l fun v=>b1M H m b v fun H1=>K undef H1:=by
 have h2:kE ((sA H (ev l m) (ev l b) (ev l v)).map fun H=>(undef,H)) K=∃H1,sA H (ev l m) (ev l b) (ev l v)=some H1∧K undef H1:=by
  cases sA H (ev l m) (ev l b) (ev l v)<;>simp[kE]
 simp only[mG,opD,jN,Op.operands,b1M,h2]
 simp[and_assoc]
theorem a2S(kvs:List (κ×β))(k k':κ)(v:β):a3j (a6I kvs k v) k'=if k'=k then some v else a3j kvs k':=by
 unfold a3j a6I
 induction kvs with
 | nil=>
   by_cases h:k'=k
   ·simp[h]
   ·simp[h,fb h]
 | cons p kvs ih=>
   by_cases hp:p.1=k
   ·simp only[ff,hp,decide_true,if_true,fh,List.find?_cons]
    by_cases h:k'=k
    ·simp[h]
    ·simp[h,fb h]
   ·have hd:decide (p.1=k)=false:=by simp[hp]
    simp only[ff,hd,dW,if_false]
    by_cases hq:p.1=k'
    ·have hne:¬k'=k:=fun e=>hp (hq.trans e)
     cases hh:kvs.findIdx? (fun p=>decide (p.1=k))with
     | none=>simp[hq,hne]
     | some j=>simp[hq,hne]
    ·cases hh:kvs.findIdx? (fun p=>decide (p.1=k))with
     | none=>
       rw[hh]at ih
       simpa [hq,List.find?_cons]using ih
     | some j=>
       rw[hh]at ih
       simpa [hq,List.find?_cons]using ih
end
end Go.Ds
namespace Go.Ds
noncomputable section
variable {P:Program} {H:Heap}
theorem kR{α:Type}(P:Program)(x:α):iM P (pure x)=some x:=rfl
theorem jX{t:TypeId}{d:TypeDesc}(h:P.underlying t=some d):iM P (underlying t)=some d:=by
 unfold underlying
 rw[iK]
 have:iM P program=some P:=rfl
 rw[this,cZ,h]
 rfl
def lK:Operand→Bool
 | .const _=>true
 | _=>false
def pD(c:Bool)(i:Nat)(v:Value):Operand:=if c then .const v else .tmp i
def lC(P:Program)(op:BinOp)(t t2:TypeId)(cx cy:Bool)(x y:Value):Option Value:=(opD P ⟨none,.binOp op t (pD cx 0 x) (pD cy 1 y) t2,t,"",#[],none⟩ [x,y] .nil).map (·.1)
def lD(P:Program)(op:BinOp)(t t2:TypeId)(cx cy:Bool)(x y:Value)(K:Value→Prop)(_k:Keep K:=⟨⟩):Prop:=match x,y with
 | .int k a,.int k' b=>(match (if k=k' then mR op k a b else none)with|some v=>K v|none=>jY (lC P op t t2 cx cy (.int k a) (.int k' b)) K)
 | x,y=>jY (lC P op t t2 cx cy x y) K
theorem a7t{op:BinOp}{t t2:TypeId}{cx cy:Bool}{x x' y y':Value}{K:Value→Prop}(h:x=x')(h2:y=y'):lD P op t t2 cx cy x y K=lD P op t t2 cx cy x' y' K:=by rw[h,h2]
attribute [congr] a7t
theorem b1j(x:Operand)(l m:List Value):ev (ev l x::m) (pD (lK x) 0 (ev l x))=ev l x:=by cases x<;>rfl
theorem b0f(x:Operand)(l m:List Value)(a:Value):ev (a::ev l x::m) (pD (lK x) 1 (ev l x))=ev l x:=by cases x<;>rfl
theorem b6m(op:BinOp)(t:TypeId)(x y:Operand)(l:List Value):eqGuard op t x y (ev l x) (ev l y)=eqGuard op t (pD (lK x) 0 (ev l x)) (pD (lK y) 1 (ev l y)) (ev l x) (ev l y):=by
 generalize hx:ev l x=vx
 generalize hy:ev l y=vy
 cases x<;>cases y<;>rfl
theorem b9c(d ty pos af g)(op:BinOp)(t:TypeId)(x y:Operand)(t2:TypeId)(l:List Value)(H:Heap):
 opD P ⟨d,.binOp op t x y t2,ty,pos,af,g⟩ l H=(lC P op t t2 (lK x) (lK y) (ev l x) (ev l y)).map fun v=>(v,H):=by
 have hp:kQ P ⟨d,.binOp op t x y t2,ty,pos,af,g⟩ l H=_:=nK (P:=P) ⟨d,.binOp op t x y t2,ty,pos,af,g⟩ ⟨none,.binOp op t (pD (lK x) 0 (ev l x)) (pD (lK y) 1 (ev l y)) t2,t,"",#[],none⟩ l [ev l x,ev l y] H
  (by simp only[Op.operands,eF,gr,b1j,b0f]) (by
    simp only[execOp]
    rw[b1j,b0f,←b6m])
 simp only[opD,lC,hp,b1j,b0f]
 generalize kQ P _ _ _=r
 generalize ev l x=vx
 generalize ev l y=vy
 split
 all_goals first
  | (split<;>first|rfl|(split<;>first|rfl|(cases r<;>rfl))|(cases r<;>rfl))
  | (cases r<;>rfl)
theorem b6j(d ty pos af g)(op:BinOp)(t:TypeId)(x y:Operand)(t2:TypeId)(l:List Value)(K:Value→Heap→Prop):
 mG P ⟨d,.binOp op t x y t2,ty,pos,af,g⟩ l H K=jN x l fun x'=>jN y l fun y'=>lD P op t t2 (lK x) (lK y) x' y' fun v=>K v H:=by
 have h:kE (opD P ⟨d,.binOp op t x y t2,ty,pos,af,g⟩ l H) K=lD P op t t2 (lK x) (lK y) (ev l x) (ev l y) fun v=>K v H:=by
  have key:kE ((lC P op t t2 (lK x) (lK y) (ev l x) (ev l y)).map fun v=>(v,H)) K=jY (lC P op t t2 (lK x) (lK y) (ev l x) (ev l y)) fun v=>K v H:=by
   cases lC P op t t2 (lK x) (lK y) (ev l x) (ev l y)<;>rfl
  rw[b9c,key]
  unfold lD
  split
  ·rename_i k a k' b hx hy
   split
   ·rename_i v hv
    split at hv
    ·rename_i hk
     subst hk
     have:lC P op t t2 (lK x) (lK y) (.int k a) (.int k b)=some v:=by
      have h1:∀m,ev ((.int k a:Value)::m) (pD (lK x) 0 (.int k a))=.int k a:=fun m=>by cases lK x<;>rfl
      have h2:∀m c,ev (c::(.int k b:Value)::m) (pD (lK y) 1 (.int k b))=.int k b:=fun m c=>by cases lK y<;>rfl
      cases op<;>simp only[mR]at hv<;>first|(cases hv;done)|(simp only[lC,opD,h1,h2,mR,if_true,hv];rfl)
     rw[hx,hy,this]
     rfl
    ·cases hv
   ·rw[hx,hy]
  ·rfl
 simp only[mG,h,jN,Op.operands]
 simp[and_assoc]
theorem mE(op:BinOp)(t t2:TypeId)(cx cy:Bool)(k:IntKind)(a b:Int){v:Value}(K:Value→Prop)(h:mR op k a b=some v):lD P op t t2 cx cy (.int k a) (.int k b) K=pE v K:=by
 simp[lD,h,pE]
section
theorem b3a(t t2:TypeId)(cx cy:Bool)(k:IntKind)(a b:Int)(K:Value→Prop):lD P .add t t2 cx cy (.int k a) (.int k b) K=pE (.int k (k.wrap (a+b))) K:=mE _ _ _ _ _ _ _ _ _ (by simp[mR,b1J,wK])
theorem b2Z(t t2:TypeId)(cx cy:Bool)(k:IntKind)(a b:Int)(K:Value→Prop):lD P .sub t t2 cx cy (.int k a) (.int k b) K=pE (.int k (k.wrap (a-b))) K:=mE _ _ _ _ _ _ _ _ _ (by simp[mR,b2d,wK])
theorem b4q(t t2:TypeId)(cx cy:Bool)(k:IntKind)(a b:Int)(K:Value→Prop):lD P .mul t t2 cx cy (.int k a) (.int k b) K=pE (.int k (k.wrap (a*b))) K:=mE _ _ _ _ _ _ _ _ _ (by simp[mR,wK])
theorem b3z(t t2:TypeId)(cx cy:Bool)(k:IntKind)(a b:Int)(K:Value→Prop):lD P .eql t t2 cx cy (.int k a) (.int k b) K=pE (.bool (decide (a=b))) K:=mE _ _ _ _ _ _ _ _ _ (by simp[mR,a2U];rfl)
theorem b4Y(t t2:TypeId)(cx cy:Bool)(k:IntKind)(a b:Int)(K:Value→Prop):lD P .neq t t2 cx cy (.int k a) (.int k b) K=pE (.bool (decide (¬a=b))) K:=mE _ _ _ _ _ _ _ _ _ (by simp[mR,a2U];rfl)
theorem b4z(t t2:TypeId)(cx cy:Bool)(k:IntKind)(a b:Int)(K:Value→Prop):lD P .lss t t2 cx cy (.int k a) (.int k b) K=pE (.bool (decide (a<b))) K:=mE _ _ _ _ _ _ _ _ _ (by simp[mR,a0M])
theorem b3t(t t2:TypeId)(cx cy:Bool)(k:IntKind)(a b:Int)(K:Value→Prop):lD P .leq t t2 cx cy (.int k a) (.int k b) K=pE (.bool (decide (a≤b))) K:=mE _ _ _ _ _ _ _ _ _ (by simp[mR,a0M,←Int.not_lt])
theorem b4d(t t2:TypeId)(cx cy:Bool)(k:IntKind)(a b:Int)(K:Value→Prop):lD P .gtr t t2 cx cy (.int k a) (.int k b) K=pE (.bool (decide (b<a))) K:=mE _ _ _ _ _ _ _ _ _ (by simp[mR,a0M])
theorem b4T(t t2:TypeId)(cx cy:Bool)(k:IntKind)(a b:Int)(K:Value→Prop):lD P .geq t t2 cx cy (.int k a) (.int k b) K=pE (.bool (decide (b≤a))) K:=mE _ _ _ _ _ _ _ _ _ (by simp[mR,a0M,←Int.not_lt])
theorem b3e(t t2:TypeId)(cx cy:Bool)(k:IntKind)(a b:Int)(K:Value→Prop)(hb:b≠0):lD P .rem t t2 cx cy (.int k a) (.int k b) K=pE (.int k (a.tmod b)) K:=mE _ _ _ _ _ _ _ _ _ (by
 have:(b==0)=false:=by simp[hb]
 simp[mR,a2U,this])
theorem b2T(t t2:TypeId)(cx cy:Bool)(k:IntKind)(a b:Int)(K:Value→Prop)(hb:b≠0):lD P .quo t t2 cx cy (.int k a) (.int k b) K=pE (.int k (k.wrap (a.tdiv b))) K:=mE _ _ _ _ _ _ _ _ _ (by
 have:(b==0)=false:=by simp[hb]
 simp[mR,a2U,wK,this])
end
theorem lQ{op:BinOp}{t t2:TypeId}{cx cy:Bool}{x y v:Value}(hx:flat x=true)(hy:flat y=true)(hg:iM P (eqGuard op t (pD cx 0 x) (pD cy 1 y) x y)=some ())
 (hv:iM P (binOp op t x y)=some v) (hf:flat v=true) (hs:∀a n c,x≠.slice (some a) n c) (hp:∀a,x≠.pointer (some a)) (hi:∀k a b,x=.int k a→y=.int k b→mR op k a b=none):lC P op t t2 cx cy x y=some v:=by
 have h1:∀m,ev (x::m) (pD cx 0 x)=x:=fun m=>by cases cx<;>rfl
 have h2:∀m c,ev (c::y::m) (pD cy 1 y)=y:=fun m c=>by cases cy<;>rfl
 have hpl:kQ P ⟨none,.binOp op t (pD cx 0 x) (pD cy 1 y) t2,t,"",#[],none⟩ [x,y] .nil=some (v,.nil):=by
  unfold kQ
  rw[if_pos (by simp[Op.operands,h1,h2,hx,hy])]
  have:execOp (ev [x,y]) ⟨none,.binOp op t (pD cx 0 x) (pD cy 1 y) t2,t,"",#[],none⟩=(do let v ←(do eqGuard op t (pD cx 0 x) (pD cy 1 y) x y;binOp op t x y);pure (.value v)):=by
   simp only[execOp,h1,h2]
  rw[this,iK,iK,hg,cZ,hv,cZ,kR]
  simp only[hf,if_true]
 simp only[lC,opD,h1,h2,hpl]
 split
 ·exact absurd rfl (hs _ _ _)
 ·exact absurd rfl (hs _ _ _)
 ·rename_i k a k' b
  split
  ·rename_i hk
   subst hk
   rw[hi _ _ _ rfl rfl]
   rfl
  ·rfl
 ·exact absurd rfl (hp _)
 ·exact absurd rfl (hp _)
 ·exact absurd rfl (hp _)
 ·exact absurd rfl (hp _)
 ·rfl
theorem qW{op:BinOp}{t:TypeId}{x y:Operand}{k k':IntKind}{a b:Int}:iM P (eqGuard op t x y (.int k a) (.int k' b))=some ():=by
 unfold eqGuard
 split<;>rfl
section
theorem b5E(t t2:TypeId)(cx cy:Bool)(a b:Int){k k':IntKind}(hb:0≤b):lC P .shr t t2 cx cy (.int k a) (.int k' b)=some (.int k (a.fdiv (2^(min b.toNat k.bits)))):=
 lQ rfl rfl qW (by simp only[binOp,Op.shift];rw[if_neg (by omega)];rfl) rfl (by simp) (by simp) (by intros;rfl)
theorem b5v(t t2:TypeId)(cx cy:Bool)(a b:Int){k k':IntKind}(hb:0≤b):lC P .shl t t2 cx cy (.int k a) (.int k' b)=some (.int k (k.wrap (a*2^(min b.toNat k.bits)))):=
 lQ rfl rfl qW (by simp only[binOp,Op.shift];rw[if_neg (by omega)];rfl) rfl (by simp) (by simp) (by intros;rfl)
theorem b7o(t t2:TypeId)(cx cy:Bool)(a b:Int)(k:IntKind):lC P .and t t2 cx cy (.int k a) (.int k b)=some (.int k (k.wrap (BitVec.ofInt k.bits a&&&BitVec.ofInt k.bits b).toNat)):=
 lQ rfl rfl qW (by simp only[binOp];rw[if_neg (by simp)];rfl) rfl (by simp) (by simp) (by intros;rfl)
theorem c1o(t t2:TypeId)(cx cy:Bool)(a b:Int)(k:IntKind):lC P .or t t2 cx cy (.int k a) (.int k b)=some (.int k (k.wrap (BitVec.ofInt k.bits a|||BitVec.ofInt k.bits b).toNat)):=
 lQ rfl rfl qW (by simp only[binOp];rw[if_neg (by simp)];rfl) rfl (by simp) (by simp) (by intros;rfl)
theorem b7r(t t2:TypeId)(cx cy:Bool)(a b:Int)(k:IntKind):lC P .xor t t2 cx cy (.int k a) (.int k b)=some (.int k (k.wrap (BitVec.ofInt k.bits a^^^BitVec.ofInt k.bits b).toNat)):=
 lQ rfl rfl qW (by simp only[binOp];rw[if_neg (by simp)];rfl) rfl (by simp) (by simp) (by intros;rfl)
theorem a8S(t t2:TypeId)(cx cy:Bool)(a b:Int)(k:IntKind):lC P .andNot t t2 cx cy (.int k a) (.int k b)=some (.int k (k.wrap (BitVec.ofInt k.bits a&&&~~~ BitVec.ofInt k.bits b).toNat)):=
 lQ rfl rfl qW (by simp only[binOp];rw[if_neg (by simp)];rfl) rfl (by simp) (by simp) (by intros;rfl)
end
section
variable (a b:ByteArray)
theorem a1h{op:BinOp}{t:TypeId}{x y:Operand}:iM P (eqGuard op t x y (.string a) (.string b))=some ():=by
 unfold eqGuard
 split<;>rfl
theorem a1A(h:a.data.toList=b.data.toList):a=b:=by
 cases a;cases b
 simp only[ByteArray.mk.injEq]
 exact Array.toList_inj.1 h
theorem a3a:(a.toList==b.toList)=decide (a=b):=by
 rw[ByteArray.toList_eq,ByteArray.toList_eq,eH,beq_iff_eq,decide_eq_true_iff]
 exact⟨a1A a b,fun h=>by rw[h]⟩
theorem a9q(t t2:TypeId)(cx cy:Bool)(a b:ByteArray):lC P .eql t t2 cx cy (.string a) (.string b)=some (.bool (decide (a=b))):=
 lQ rfl rfl (a1h a b) (by rw[←a3a];rfl) rfl (by simp) (by simp) (by intro _ _ _ h;cases h)
theorem b1m(t t2:TypeId)(cx cy:Bool)(a b:ByteArray):lC P .neq t t2 cx cy (.string a) (.string b)=some (.bool (decide (¬a=b))):=
 lQ rfl rfl (a1h a b) (by
  have:decide (¬a=b)= !(a.toList==b.toList):=by rw[a3a];simp
  rw[this];rfl) rfl (by simp) (by simp) (by intro _ _ _ h;cases h)
theorem a8v(t t2:TypeId)(cx cy:Bool)(a b:ByteArray)(h:a.size+b.size<9223372036854775808):lC P .add t t2 cx cy (.string a) (.string b)=some (.string (a++b)):=
 lQ rfl rfl (a1h a b) (by
  simp only[binOp,Op.stringOp]
  rw[if_neg]
  ·rfl
  ·have:IntKind.i64.max=9223372036854775807:=by decide
   rw[this];omega) rfl (by simp) (by simp) (by intro _ _ _ h;cases h)
end
theorem b6e{t:TypeId}(s:ByteArray)(ht:oP P t=true):a0L P H t (.string s)=some (.int .i64 s.size):=by
 unfold oP at ht
 unfold a0L
 split at ht
 ·rename_i h;rw[h];simp[xV,goInt]
 ·cases ht
def pY(P:Program)(t:TypeId)(x i:Value):Option Value:=(opD P ⟨none,.index t (.const x) (.const i),t,"",#[],none⟩ [] .nil).map (·.1)
theorem b3u(d ty pos af g)(t:TypeId)(x i:Operand)(l:List Value)(K:Value→Heap→Prop):
 mG P ⟨d,.index t x i,ty,pos,af,g⟩ l H K=jN x l fun x=>jN i l fun i=>jY (pY P t x i) fun v=>K v H:=by
 have h:opD P ⟨d,.index t x i,ty,pos,af,g⟩ l H=(pY P t (ev l x) (ev l i)).map fun v=>(v,H):=by
  have hp:=nK (P:=P) ⟨d,.index t x i,ty,pos,af,g⟩ ⟨none,.index t (.const (ev l x)) (.const (ev l i)),t,"",#[],none⟩ l [] H rfl rfl
  simp only[opD,pY]
  exact hp
 have h2:kE ((pY P t (ev l x) (ev l i)).map fun v=>(v,H)) K=jY (pY P t (ev l x) (ev l i)) fun v=>K v H:=by cases pY P t (ev l x) (ev l i)<;>rfl
 simp only[mG,h,jN,Op.operands,h2]
 simp[and_assoc]
def oT(s:ByteArray)(i:Nat):Nat:=(s.data.toList.getD i 0).toNat
theorem b0t{t:TypeId}(s:ByteArray)(k:IntKind)(i:Int)(ht:oP P t=true)(h0:0≤i)(h1:i<s.size):pY P t (.string s) (.int k i)=some (.int .u8 (oT s i.toNat)):=by
 have hu:P.underlying t=some .string:=by
  unfold oP at ht
  split at ht
  ·rename_i h;exact h
  ·cases ht
 have hr:iM P (Instr.index t (.string s) (.int k i))=some (.int .u8 (oT s i.toNat)):=by
  unfold Instr.index
  rw[iK]
  have e1:iM P (asIntOf (.int k i))=some (k,i):=rfl
  rw[e1,cZ]
  simp only[iK,jX hu,cZ]
  rw[if_pos h0]
  have hlt:i.toNat<s.size:=by omega
  have hb:s[i.toNat]? =some s[i.toNat]:=by simp[getElem?_pos,hlt]
  simp only[hb]
  rw[kR]
  congr 3
  unfold oT
  rw[dg]
  have hl:i.toNat<s.data.toList.length:=by simpa using hlt
  rw[du hl]
  rfl
 have hpl:kQ P ⟨none,.index t (.const (.string s)) (.const (.int k i)),t,"",#[],none⟩ [] .nil=some (.int .u8 (oT s i.toNat),.nil):=by
  unfold kQ
  rw[if_pos (by rfl)]
  have:execOp (ev []) ⟨none,.index t (.const (.string s)) (.const (.int k i)),t,"",#[],none⟩=(do let v ←Instr.index t (.string s) (.int k i);pure (.value v)):=rfl
  rw[this,iK,hr,cZ,kR]
  rfl
 simp only[pY,opD,hpl]
 rfl
def a0X(P:Program)(t:TypeId):Option IntKind:=match P.underlying t with|some (.int k)=>some k|_=>none
theorem a0J{t:TypeId}{k:IntKind}(h:a0X P t=some k):P.underlying t=some (.int k):=by
 unfold a0X at h
 split at h
 ·rename_i h2;rw[h2];injection h with h;rw[h]
 ·cases h
theorem b3W{s t:TypeId}{k k':IntKind}(a:Int)(hs:a0X P s=some k)(ht:a0X P t=some k'):a3k P s t (.int k a)=some (.int k' (k'.wrap a)):=by
 have hr:iM P (convert s t (.int k a))=some (.int k' (k'.wrap a)):=by
  unfold convert
  simp only[iK,jX (a0J hs),jX (a0J ht),cZ]
  rfl
 have hpl:kQ P ⟨none,.convert s t (.const (.int k a)),t,"",#[],none⟩ [] .nil=some (.int k' (k'.wrap a),.nil):=by
  unfold kQ
  rw[if_pos (by rfl)]
  have:execOp (ev []) ⟨none,.convert s t (.const (.int k a)),t,"",#[],none⟩=(do let v ←convert s t (.int k a);pure (.value v)):=rfl
  rw[this,iK,hr,cZ,kR]
  rfl
 simp only[a3k,hpl]
 rfl
def a5G(P:Program)(d:Nat)(xs ys:Array Value)(fs:List Field):Option Bool:=
 (iM P (forIn fs ((none,()):Option Bool×Unit) fun f _=>
   if f.name≠ "_" then do
    let a ←part f.type xs f.offset
    let b ←part f.type ys f.offset
    let c ←Op.equalIn d f.type a b
    if(!c)=true then pure (ForInStep.done (some false,()))else pure (ForInStep.yield (none,()))
   else pure (ForInStep.yield (none,())))).bind fun x=>iM P (match x.fst with|some r=>pure r|none=>pure true)
theorem a2p{d:Nat}{xs ys:Array Value}(g:Field→Bool):∀(fs:List Field),(∀f∈fs,f.name≠ "_" ∧iM P (part f.type xs f.offset>>=fun x=>part f.type ys f.offset>>=fun y=>Op.equalIn d f.type x y)=some (g f))→
 a5G P d xs ys fs=some (fs.all g)
 | [],_=>rfl
 | f::fs,hg=>by
   obtain⟨h1,h2⟩:=hg f (dK ..)
   have ih:=a2p g fs fun f' h=>hg f' (dR _ h)
   unfold a5G at ih ⊢
   rw[iK]at h2
   simp only[List.forIn_cons,h1,ne_eq,not_false_eq_true,if_true,iK]
   cases hx:iM P (part f.type xs f.offset)with
   | none=>rw[hx]at h2;cases h2
   | some x=>
     rw[hx,cZ,iK]at h2
     cases hy:iM P (part f.type ys f.offset)with
     | none=>rw[hy]at h2;cases h2
     | some y=>
       rw[hy,cZ]at h2
       simp only[cZ,h2]
       cases hgf:g f with
       | false=>
         simp only[ia,if_true,kR,cZ,fx,hgf,fo]
       | true=>
         simp only[Bool.not_true,dW,if_false,kR,cZ,fx,hgf,gS]
         exact ih
theorem b8n{d:Nat}{t:TypeId}{fs:List Field}{xs ys:Array Value}(hu:P.underlying t=some (.struct fs.toArray))(hst:P.stoodInHeld t=false)(g:Field→Bool)
 (hg:∀f∈fs,f.name≠ "_" ∧iM P (part f.type xs f.offset>>=fun x=>part f.type ys f.offset>>=fun y=>Op.equalIn d f.type x y)=some (g f)):iM P (Op.equalIn (d+1) t (.agg xs) (.agg ys))=some (fs.all g):=by
 rw[Op.equalIn,iK,jX hu,cZ]
 have hp:iM P program=some P:=rfl
 simp only[iK,hp,cZ,hst,dW,if_false,List.forIn_toArray]
 refine Eq.trans ?_ (a2p g fs hg)
 unfold a5G
 congr 1
 funext x
 cases x.fst<;>rfl
theorem a4I{op:BinOp}{t:TypeId}(ht:P.eqGuardType P.depth t=false){x y:Operand}{a b:Array Value}:iM P (eqGuard op t x y (.agg a) (.agg b))=some ():=by
 have hp:iM P program=some P:=rfl
 unfold eqGuard
 cases op<;>simp[iK,hp,ht,kR]
theorem b6l{t t2:TypeId}{cx cy:Bool}{xs ys:List Value}(b:Bool)(ht:P.eqGuardType P.depth t=false)(hx:xs.all iY=true)(hy:ys.all iY=true)(h:iM P (Op.equalIn (9999+1) t (.agg xs.toArray) (.agg ys.toArray))=some b):
 lC P .eql t t2 cx cy (.agg xs.toArray) (.agg ys.toArray)=some (.bool b):=
 lQ (by simp[flat,jB,kN,hx]) (by simp[flat,jB,kN,hy]) (a4I ht) (by
  have hmd:Op.maxDepth=9999+1:=by decide
  simp only[binOp,iK,Op.equal]
  rw[hmd,h,cZ,kR]) rfl (by simp) (by simp) (by intro _ _ _ h;cases h)
theorem b5A{t t2:TypeId}{cx cy:Bool}{xs ys:List Value}(b:Bool)(ht:P.eqGuardType P.depth t=false)(hx:xs.all iY=true)(hy:ys.all iY=true)(h:iM P (Op.equalIn (9999+1) t (.agg xs.toArray) (.agg ys.toArray))=some b):
 lC P .neq t t2 cx cy (.agg xs.toArray) (.agg ys.toArray)=some (.bool (!b)):=
 lQ (by simp[flat,jB,kN,hx]) (by simp[flat,jB,kN,hy]) (a4I ht) (by
  have hmd:Op.maxDepth=9999+1:=by decide
  simp only[binOp,iK,Op.equal]
  rw[hmd,h,cZ,kR]) rfl (by simp) (by simp) (by intro _ _ _ h;cases h)
end
end Go.Ds
namespace Go.Ds
noncomputable section
variable {P:Program} {H:Heap}
theorem a3l(a b:ByteArray):(a==b)=decide (b=a):=by
 obtain⟨x⟩:=a
 obtain⟨y⟩:=b
 rw[eH,decide_eq_true_iff]
 constructor
 ·intro h
  have e:x=y:=by simpa using(show(x==y)=true from h)
  rw[e]
 ·intro h
  cases h
  show(x==x)=true
  simp
theorem a4Q(o:Option Nat)(i:Nat):o.map (i+1+·)=(o.map (·+1)).map (i+·):=by
 cases o with
 | none=>rfl
 | some j=>simp only[dS];congr 1;omega
theorem a1B(k:ByteArray):∀(es:List MapEntry)(ks:List ByteArray)(i:Nat),es.map (·.key)=ks.map Value.string→
 (Instr.findNow .string (.string k) (es.map xY) i).map (·.map (·.1))=some ((ks.findIdx? fun x=>decide (x=k)).map (i+·))
 | [],[],i,_=>rfl
 | [],_::_,_,h=>by simp at h
 | _::_,[],_,h=>by simp at h
 | e::es,s::ks,i,h=>by
   simp only[eF,fU]at h
   have hs:Instr.sameNow .string (.string k) e.key=some (decide (s=k)):=by
    rw[h.1]
    show some (k==s)=_
    rw[a3l]
   simp only[eF,Instr.findNow,xY,hs,ff]
   by_cases hd:s=k
   ·simp[hd]
   ·simp only[hd,decide_false,dW,if_false]
    have:=a1B k es ks (i+1) h.2
    rw[a4Q]at this
    exact this
theorem b2H{κ:Type}[DecidableEq κ]{enc:κ→Value}{kt:TypeId}(heq:∀a b,iM P (Op.equal kt (enc a) (enc b))=some (decide (b=a)))(k:κ):∀(es:List MapEntry)(ks:List κ)(i:Nat),es.map (·.key)=ks.map enc→
 (iM P (Instr.findAsking kt (enc k) (es.map xY) i)).map (·.map (·.1))=some ((ks.findIdx? fun x=>decide (x=k)).map (i+·))
 | [],[],i,_=>rfl
 | [],_::_,_,h=>by simp at h
 | _::_,[],_,h=>by simp at h
 | e::es,s::ks,i,h=>by
   simp only[eF,fU]at h
   simp only[eF,Instr.findAsking,xY,iK,ff]
   rw[h.1,heq,cZ]
   by_cases hd:s=k
   ·simp[hd,kR]
   ·simp only[hd,decide_false,dW,if_false]
    have:=b2H heq k es ks (i+1) h.2
    rw[a4Q]at this
    exact this
theorem MapK.str{t kt et:TypeId}{z:Value}(hm:zV P t=some (kt,et))(hu:P.underlying kt=some .string)(hz:jA P et=some z)(hf:jB z=true):MapK P t Value.string z where
 ex:=by
  refine⟨kt,et,hm,hz,hf,?_,?_,?_⟩
  ·intro b k
   have:iM P (Instr.checkKey b 10000 kt (.string k))=some ():=by
    show iM P (Instr.checkKey b (9999+1) kt (.string k))=some ()
    unfold Instr.checkKey
    rw[iK,jX hu,cZ]
    rfl
   simp only[yS,this]
   rfl
  ·intro k es ks h
   have h1:=a1B k es ks 0 h
   unfold sB Instr.findKey
   rw[iK,jX hu,cZ]
   cases hn:Instr.findNow .string (.string k) (es.map xY) 0 with
   | none=>rw[hn]at h1;cases h1
   | some r=>
     rw[hn]at h1
     simp only[kR]
     simpa using h1
  ·intro k
   show(k==k)=true
   rw[a3l]
   simp
theorem MapK.struct{κ:Type}[DecidableEq κ]{enc:κ→Value}{t kt et:TypeId}{z:Value}{fs:Array Field}(hm:zV P t=some (kt,et))(hu:P.underlying kt=some (.struct fs))(hz:jA P et=some z)(hf:jB z=true)
 (hk:∀b k,yS P b kt (enc k)=true) (heq:∀a b,iM P (Op.equal kt (enc a) (enc b))=some (decide (b=a))) (hsb:∀k,Instr.sameBits 10000 (enc k) (enc k)=true):MapK P t enc z where
 ex:=by
  refine⟨kt,et,hm,hz,hf,hk,?_,hsb⟩
  intro k es ks h
  have h1:=b2H heq k es ks 0 h
  unfold sB Instr.findKey
  rw[iK,jX hu,cZ]
  have key:∀(l:List MapEntry),Instr.findNow (.struct fs) (enc k) l 0=none∨l=[]:=by
   intro l
   cases l with
   | nil=>exact .inr rfl
   | cons e l=>exact .inl rfl
  rcases key (es.map xY)with hn|hn
  ·rw[hn]
   simpa using h1
  ·rw[hn]
   have:es=[]:=by simpa using hn
   subst this
   have:ks=[]:=by cases ks with|nil=>rfl|cons a ks=>simp at h
   subst this
   rfl
end
end Go.Ds
namespace Go.Ds
noncomputable section
variable {P:Program} {H:Heap}
def a3f(o:Option (Nat×TypeId))(P:Program)(H:Heap)(t:TypeId)(z:Value)(K:Value→Heap→Prop)(_k:Keep K:=⟨⟩):Prop:=match o with
 | none=>vC (jB z) (a5F P H t z K)
 | some _=>vC (jB z) (b0V P H t z K)
theorem a6B{o o':Option (Nat×TypeId)}{t:TypeId}{z:Value}{K:Value→Heap→Prop}(h:o=o'):a3f o P H t z K=a3f o' P H t z K:=by rw[h]
attribute [congr] a6B
theorem b8j{t:TypeId}(z:Value)(K:Value→Heap→Prop):vA P H t (some z) K=a3f (jU P t) P H t z K:=by
 cases h:jU P t with
 | none=>exact a7s z K h
 | some n=>exact a9x z K h
theorem a7b{t:TypeId}(z:Value)(K:Value→Heap→Prop):a3f none P H t z K=vC (jB z) (a5F P H t z K):=rfl
theorem a7q{t:TypeId}(n:Nat×TypeId)(z:Value)(K:Value→Heap→Prop):a3f (some n) P H t z K=vC (jB z) (b0V P H t z K):=rfl
theorem a7F{t:TypeId}{k:IntKind}(h:a0X P t=some k):lH P t=false:=by
 simp[lH,a0J h]
def a4D(ks kt:Option IntKind)(P:Program)(s t:TypeId)(H:Heap)(k:IntKind)(a:Int)(K:Value→Heap→Prop)(_k:Keep K:=⟨⟩):Prop:=match ks,kt with
 | some k0,some k'=>if k0=k then K (.int k' (k'.wrap a)) H else uX P s t H (.int k a) K
 | _,_=>uX P s t H (.int k a) K
theorem a8Y{ks ks' kt kt':Option IntKind}{s t:TypeId}{k:IntKind}{a:Int}{K:Value→Heap→Prop}(h:ks=ks')(h2:kt=kt'):a4D ks kt P s t H k a K=a4D ks' kt' P s t H k a K:=by rw[h,h2]
attribute [congr] a8Y
theorem b9L{s t:TypeId}(k:IntKind)(a:Int)(K:Value→Heap→Prop):uX P s t H (.int k a) K=a4D (a0X P s) (a0X P t) P s t H k a K:=by
 unfold a4D
 split
 ·rename_i k0 k' hs ht
  split
  ·rename_i hk
   subst hk
   rw[b3v k0 a K (a7F ht),b3W a hs ht]
   rfl
  ·rfl
 ·rfl
theorem b4G{s t:TypeId}(k k':IntKind)(a:Int)(K:Value→Heap→Prop):a4D (some k) (some k') P s t H k a K=pE (.int k' (k'.wrap a)) fun v=>K v H:=by simp[a4D,pE]
def c4G(b:Bool)(P:Program)(H:Heap)(t:TypeId)(v:Value):Option Value:=match b with
 | true=>(match v with|.string s=>some (.int .i64 s.size)|_=>a0L P H t v)
 | false=>a0L P H t v
theorem c3L(t:TypeId)(v:Value):b0b none P H t v=c4G (oP P t) P H t v:=by
 unfold c4G
 split
 ·rename_i h
  split
  ·exact b6e _ h
  ·rfl
 ·rfl
theorem b5x(t:TypeId)(s:ByteArray):c4G true P H t (.string s)=some (.int .i64 s.size):=rfl
def a3B(b:Bool)(P:Program)(t:TypeId)(x i:Value):Option Value:=match b,x,i with
 | true,.string s,.int k i=>if 0≤i∧i<s.size then some (.int .u8 (oT s i.toNat))else pY P t (.string s) (.int k i)
 | _,x,i=>pY P t x i
theorem a8j(t:TypeId)(x i:Value):pY P t x i=a3B (oP P t) P t x i:=by
 unfold a3B
 split
 ·rename_i h
  split
  ·rename_i h2;exact b0t _ _ _ h h2.1 h2.2
  ·rfl
 ·rfl
theorem b0a(t:TypeId)(s:ByteArray)(k:IntKind)(i:Int)(h0:0≤i)(h1:i<s.size):a3B true P t (.string s) (.int k i)=some (.int .u8 (oT s i.toNat)):=by
 simp[a3B,h0,h1]
theorem OC:(∀k n,oneCell (.int k n)=true)∧(∀b,oneCell (.bool b)=true)∧(∀s,oneCell (.string s)=true)∧(∀a,oneCell (.pointer a)=true)∧(∀a n c,oneCell (.slice a n c)=true)∧(∀r,oneCell (.map r)=true)∧(∀f a b,oneCell (.func f a b)=true)∧oneCell .nilFunc=true:=
 ⟨fun _ _=>rfl,fun _=>rfl,fun _=>rfl,fun _=>rfl,fun _ _ _=>rfl,fun _=>rfl,fun _ _ _=>rfl,rfl⟩
theorem c6Y(o:Option Bool):(o.map Value.bool).getD (.bool false)=.bool (o.getD false):=by cases o<;>rfl
theorem c5I(k:IntKind)(o:Option Int):(o.map (Value.int k)).getD (.int k 0)=.int k (o.getD 0):=by cases o<;>rfl
theorem c1a(v:Value)(b:Bool):pairV false v b=v:=rfl
theorem b9r(v:Value)(b:Bool):pairV true v b=.tuple #[v,.bool b]:=rfl
theorem b7u(t:Tmp):lK (.tmp t)=false:=rfl
theorem b0H(v:Value):lK (.const v)=true:=rfl
theorem b7h(s:ByteArray):flat (.string s)=true:=rfl
theorem b4X(s:ByteArray):jB (.string s)=true:=rfl
theorem a9K(s:ByteArray):iY (.string s)=true:=rfl
theorem a8V(s:ByteArray):jD (.string s)=true:=rfl
theorem b8x(k:IntKind)(n:Int):qH (.int k n)=true:=rfl
theorem b4v(b:Bool):qH (.bool b)=true:=rfl
theorem b5Q(s:ByteArray):qH (.string s)=true:=rfl
theorem pL{c b:Bool}{p q:Prop}(h1:c=true→sV (.bool true) b p q)(h2:c=false→sV (.bool false) b p q):sV (.bool c) b p q:=by
 cases c
 ·exact h2 rfl
 ·exact h1 rfl
theorem St.pick{H0:Base}{os os':List Ob}(hS:St P H0 H os)(idx:List Nat)(hn:idx.Nodup)(h:idx.map (os[·]?)=os'.map some):St P H0 H os':=by
 have hmem:∀o∈os',o∈os:=by
  intro o ho
  have:some o∈idx.map (os[·]?):=by rw[h];exact gi ho
  obtain⟨i,_,hi⟩:=dC.1 this
  exact dU hi
 refine⟨hS.len,hS.old,fun o ho=>hS.own o (hmem o ho),fun o ho=>hS.new o (hmem o ho),?_⟩
 have hpw:=eK.1 hS.sep
 rw[eK]
 intro i j hi hj hij
 have hl:idx.length=os'.length:=by simpa using congrArg List.length h
 have key:∀i(hi:i<os'.length),∃hk:idx[i]'(by omega)<os.length,os[idx[i]'(by omega)]=os'[i]:=by
  intro i hi
  have h1:(idx.map (os[·]?))[i]? =(os'.map some)[i]?:=by rw[h]
  rw[eR,eR,du (by omega),du hi]at h1
  simp only[dS,dH]at h1
  exact dA.1 h1
 obtain⟨h1,e1⟩:=key i hi
 obtain⟨h2,e2⟩:=key j hj
 have hne:idx[i]'(by omega)≠idx[j]'(by omega):=by
  have:=eK.1 hn i j (by omega) (by omega) hij
  exact this
 rcases fR hne with hh|hh
 ·have:=hpw _ _ h1 h2 hh
  rw[e1,e2]at this
  exact this
 ·have:=hpw _ _ h2 h1 hh
  rw[e1,e2]at this
  intro B hb hb'
  exact this B hb' hb
theorem St.frame{H1:Heap}{H0:Base}{ls rest ls':List Ob}(hS:St P H0 H (ls++rest))(h1:St P ⟨H,sC ls⟩ H1 ls'):St P H0 H1 (ls'++rest):=by
 have hls:St P H0 H ls:=hS.sub (List.sublist_append_left ..)
 have h2:=hls.bB h1
 have hsep:=fg.1 hS.sep
 have hkeep:∀o∈rest,∀B,kL o.v=some B→iS H1 B=iS H B:=by
  intro o ho B hB
  have hlt:=(hS.own o (gB _ ho)).lt hB
  exact h1.old B hlt fun⟨x,hx,hxb⟩=>hsep.2.2 x hx o ho B hxb hB
 refine⟨h2.len,h2.old,?_,?_,?_⟩
 ·intro o ho
  rcases dG.1 ho with ho|ho
  ·exact h2.own o ho
  ·exact(hS.own o (gB _ ho)).ag (hkeep o ho)
 ·intro o ho B hB
  rcases dG.1 ho with ho|ho
  ·exact h2.new o ho B hB
  ·exact hS.new o (gB _ ho) B hB
 ·rw[fg]
  refine⟨h2.sep,hsep.2.1,?_⟩
  intro x hx y hy B hb hb'
  rcases h1.new x hx B hb with hh|⟨z,hz,hzb⟩
  ·have:=(hS.own y (gB _ hy)).lt hb'
   have hh:H.length≤B:=hh
   omega
  ·exact hsep.2.2 z hz y hy B hzb hb'
theorem b9s(t:TypeId)(k:IntKind)(n:Int):unV P .neg t (.int k n)=some (.int k (k.wrap (0-n))):=rfl
theorem b3E(ops:Array Oper)(d:Option Tmp)(op:Op)(ty:TypeId)(pos:String)(af:Array Edge)(j:Nat)(b:Bool)(l:List Value)(H':Heap)(v:Value):
 rdW P ops (some ⟨d,op,ty,pos,af,some (j,b)⟩) (some (l,H',v)) H=vM (a0m ops j) l b (mG P ⟨d,op,ty,pos,af,some (j,b)⟩ l H fun v' _=>v'=v) True:=by
 rw[←tV ops l d op ty pos af]
 unfold rdW
 split
 ·rename_i h1 h2
  cases h1;cases h2
  split
  ·rename_i h;simp[h]
  ·rename_i h;simp[h]
 ·rename_i h
  exact(h _ _ _ _ rfl rfl).elim
theorem b4K(t t2:TypeId)(cx cy:Bool)(k:IntKind)(a b:Int)(K:Value→Prop):lD P .and t t2 cx cy (.int k a) (.int k b) K=jY (lC P .and t t2 cx cy (.int k a) (.int k b)) K:=by
 have h:(if k=k then mR .and k a b else none)=none:=by split<;>rfl
 unfold lD;dsimp only
 rw[h]
theorem b6h(t t2:TypeId)(cx cy:Bool)(k:IntKind)(a b:Int)(K:Value→Prop):lD P .or t t2 cx cy (.int k a) (.int k b) K=jY (lC P .or t t2 cx cy (.int k a) (.int k b)) K:=by
 have h:(if k=k then mR .or k a b else none)=none:=by split<;>rfl
 unfold lD;dsimp only
 rw[h]
theorem b3Q(t t2:TypeId)(cx cy:Bool)(k:IntKind)(a b:Int)(K:Value→Prop):lD P .xor t t2 cx cy (.int k a) (.int k b) K=jY (lC P .xor t t2 cx cy (.int k a) (.int k b)) K:=by
 have h:(if k=k then mR .xor k a b else none)=none:=by split<;>rfl
 unfold lD;dsimp only
 rw[h]
theorem a5y(t t2:TypeId)(cx cy:Bool)(k:IntKind)(a b:Int)(K:Value→Prop):lD P .andNot t t2 cx cy (.int k a) (.int k b) K=jY (lC P .andNot t t2 cx cy (.int k a) (.int k b)) K:=by
 have h:(if k=k then mR .andNot k a b else none)=none:=by split<;>rfl
 unfold lD;dsimp only
 rw[h]
theorem b3Z(t t2:TypeId)(cx cy:Bool)(k k':IntKind)(a b:Int)(K:Value→Prop):lD P .shl t t2 cx cy (.int k a) (.int k' b) K=jY (lC P .shl t t2 cx cy (.int k a) (.int k' b)) K:=by
 have h:(if k=k' then mR .shl k a b else none)=none:=by split<;>rfl
 unfold lD;dsimp only
 rw[h]
theorem b4x(t t2:TypeId)(cx cy:Bool)(k k':IntKind)(a b:Int)(K:Value→Prop):lD P .shr t t2 cx cy (.int k a) (.int k' b) K=jY (lC P .shr t t2 cx cy (.int k a) (.int k' b)) K:=by
 have h:(if k=k' then mR .shr k a b else none)=none:=by split<;>rfl
 unfold lD;dsimp only
 rw[h]
theorem b4y(op:BinOp)(t t2:TypeId)(cx cy:Bool)(a b:ByteArray)(K:Value→Prop):lD P op t t2 cx cy (.string a) (.string b) K=jY (lC P op t t2 cx cy (.string a) (.string b)) K:=rfl
theorem b2R(op:BinOp)(t t2:TypeId)(cx cy:Bool)(a b:Array Value)(K:Value→Prop):lD P op t t2 cx cy (.agg a) (.agg b) K=jY (lC P op t t2 cx cy (.agg a) (.agg b)) K:=rfl
theorem b4D(op:BinOp)(t t2:TypeId)(cx cy:Bool)(a b:Bool)(K:Value→Prop):lD P op t t2 cx cy (.bool a) (.bool b) K=jY (lC P op t t2 cx cy (.bool a) (.bool b)) K:=rfl
theorem b7m(n:Int)(h1: -9223372036854775808≤n)(h2:n<9223372036854775808):IntKind.wrap .i64 n=n:=by
 show(if(true&&decide (n%18446744073709551616≥9223372036854775808))=true then n%18446744073709551616-18446744073709551616 else n%18446744073709551616)=n
 simp only[gS,decide_eq_true_eq]
 omega
theorem b9q(n:Int)(h1: -128≤n)(h2:n<128):IntKind.wrap .i8 n=n:=by
 show(if(true&&decide (n%256≥128))=true then n%256-256 else n%256)=n
 simp only[gS,decide_eq_true_eq]
 omega
theorem mX(n:Int)(h1:0≤n)(h2:n<18446744073709551616):IntKind.wrap .u64 n=n:=by
 show(if(false&&decide (n%18446744073709551616≥9223372036854775808))=true then n%18446744073709551616-18446744073709551616 else n%18446744073709551616)=n
 simp only[fo]
 rw[if_neg (by simp)]
 omega
theorem b6D(n:Int)(h1:0≤n)(h2:n<4294967296):IntKind.wrap .u32 n=n:=by
 show(if(false&&decide (n%4294967296≥2147483648))=true then n%4294967296-4294967296 else n%4294967296)=n
 simp only[fo]
 rw[if_neg (by simp)]
 omega
theorem sS(n:Int)(h1:0≤n)(h2:n<65536):IntKind.wrap .u16 n=n:=by
 show(if(false&&decide (n%65536≥32768))=true then n%65536-65536 else n%65536)=n
 simp only[fo]
 rw[if_neg (by simp)]
 omega
theorem b9A(n:Int)(h1:0≤n)(h2:n<256):IntKind.wrap .u8 n=n:=by
 show(if(false&&decide (n%256≥128))=true then n%256-256 else n%256)=n
 simp only[fo]
 rw[if_neg (by simp)]
 omega
end
end Go.Ds
namespace Go.Ds
noncomputable section
variable {P:Program}
def a1f(P:Program)(t:TypeId):List Field:=match P.underlying t with|some (.struct fs)=>fs.toList|_=>[]
def eqC:Value→Value→Bool
 | .int _ a,.int _ b=>a==b
 | .bool a,.bool b=>a==b
 | .string a,.string b=>decide (a=b)
 | _,_=>false
def okC(P:Program)(t:TypeId)(x y:Value):Bool:=match P.underlying t with
 | some (.int _)=>(match x,y with|.int k _,.int k' _=>decide (k=k')|_,_=>false)
 | some .bool=>(match x,y with|.bool _,.bool _=>true|_,_=>false)
 | some .string=>(match x,y with|.string _,.string _=>true|_,_=>false)
 | _=>false
theorem eq1{t:TypeId}{x y:Value}(d:Nat)(h:okC P t x y=true):iM P (Op.equalIn (d+1) t x y)=some (eqC x y):=by
 unfold okC at h
 split at h
 ·rename_i k0 hu
  split at h
  ·rename_i k a k' b
   have hk:k=k':=by simpa using h
   subst hk
   rw[Op.equalIn,iK,jX hu,cZ]
   simp only[if_true]
   rfl
  ·cases h
 ·rename_i hu
  split at h
  ·rw[Op.equalIn,iK,jX hu,cZ];rfl
  ·cases h
 ·rename_i hu
  split at h
  ·rename_i a b
   rw[Op.equalIn,iK,jX hu,cZ]
   show some (a==b)=some (decide (a=b))
   rw[a3l]
   congr 1
   simp[eq_comm]
  ·cases h
 ·cases h
theorem c2b{t:TypeId}{x y v:Value}{cs:Array Value}{off:Nat}(h:okC P t x y=true)(hc:cs[off]? =some v):iM P (part t cs off)=some v:=by
 have ha:iM P (isAgg t)=some false:=by
  unfold isAgg
  unfold okC at h
  split at h
  ·rename_i hu;rw[iK,jX hu,cZ];rfl
  ·rename_i hu;rw[iK,jX hu,cZ];rfl
  ·rename_i hu;rw[iK,jX hu,cZ];rfl
  ·cases h
 unfold part
 rw[iK,ha,cZ]
 simp only[dW,if_false,hc]
 rfl
theorem a3u{t:TypeId}{xs ys:List Value}(d:Nat)(hu:P.underlying t=some (.struct (a1f P t).toArray))(hst:P.stoodInHeld t=false)
 (hf:((a1f P t).map fun f=>(f.name != "_",f.offset))=(List.range xs.length).map fun j=>(true,j)) (hy:ys.length=xs.length)
 (hok:((a1f P t).all fun f=>okC P f.type (xs.getD f.offset undef) (ys.getD f.offset undef))=true):
 iM P (Op.equalIn (d+2) t (.agg xs.toArray) (.agg ys.toArray))=some ((List.range xs.length).all fun j=>eqC (xs.getD j undef) (ys.getD j undef)):=by
 rw[dz]at hok
 have hmem:∀f∈a1f P t,(f.name != "_")=true∧f.offset<xs.length:=fun f hf'=>by
  have:(f.name != "_",f.offset)∈(List.range xs.length).map fun j=>(true,j):=by rw[←hf];exact gi hf'
  obtain⟨j,hj,he⟩:=dC.1 this
  simp only[gy]at he
  exact⟨he.1.symm,by rw[←he.2];exact dx.1 hj⟩
 rw[b8n hu hst (fun f=>eqC (xs.getD f.offset undef) (ys.getD f.offset undef)) ?_]
 ·congr 1
  have h1:(a1f P t).all (fun f=>eqC (xs.getD f.offset undef) (ys.getD f.offset undef))=((a1f P t).map fun f=>(f.name != "_",f.offset)).all fun p=>eqC (xs.getD p.2 undef) (ys.getD p.2 undef):=by
   rw[List.all_map];rfl
  rw[h1,hf,List.all_map]
  rfl
 ·intro f hf'
  obtain⟨h1,h2⟩:=hmem f hf'
  refine⟨by simpa using h1,?_⟩
  have hx:xs.toArray[f.offset]? =some (xs.getD f.offset undef):=by
   rw[fm,dg,du h2];rfl
  have hy':ys.toArray[f.offset]? =some (ys.getD f.offset undef):=by
   rw[fm,dg,du (by omega)];rfl
  rw[iK,c2b (hok f hf') hx,cZ,iK,c2b (hok f hf') hy',cZ]
  exact eq1 d (hok f hf')
theorem zE{t t2:TypeId}{cx cy:Bool}{xs ys:List Value}(hu:P.underlying t=some (.struct (a1f P t).toArray))(hst:P.stoodInHeld t=false)(hg:P.eqGuardType P.depth t=false)
 (hf:((a1f P t).map fun f=>(f.name != "_",f.offset))=(List.range xs.length).map fun j=>(true,j)) (hy:ys.length=xs.length)
 (hok:((a1f P t).all fun f=>okC P f.type (xs.getD f.offset undef) (ys.getD f.offset undef))=true) (hx:xs.all iY=true) (hys:ys.all iY=true):
 lC P .eql t t2 cx cy (.agg xs.toArray) (.agg ys.toArray)=some (.bool ((List.range xs.length).all fun j=>eqC (xs.getD j undef) (ys.getD j undef)))∧
 lC P .neq t t2 cx cy (.agg xs.toArray) (.agg ys.toArray)=some (.bool (!((List.range xs.length).all fun j=>eqC (xs.getD j undef) (ys.getD j undef)))):=
 ⟨b6l _ hg hx hys (a3u 9998 hu hst hf hy hok),b5A _ hg hx hys (a3u 9998 hu hst hf hy hok)⟩
theorem c4r{t:TypeId}{k:IntKind}(hu:P.underlying t=some (.struct (a1f P t).toArray))(hst:P.stoodInHeld t=false)
 (hf:((a1f P t).map fun f=>(f.name != "_",f.offset))=(List.range 2).map fun j=>(true,j))
 (hok:∀a b c d:Int,((a1f P t).all fun f=>okC P f.type ([Value.int k a,.int k b].getD f.offset undef) ([Value.int k c,.int k d].getD f.offset undef))=true) (a b:Int×Int):
 iM P (Op.equal t (.agg #[.int k a.1,.int k a.2]) (.agg #[.int k b.1,.int k b.2]))=some (decide (b=a)):=by
 have hmd:Op.maxDepth=9998+2:=by decide
 unfold Op.equal
 rw[hmd,a3u (xs:=[.int k a.1,.int k a.2]) (ys:=[.int k b.1,.int k b.2]) 9998 hu hst hf rfl (hok _ _ _ _)]
 congr 1
 show((a.1==b.1)&&((a.2==b.2)&&true))=_
 rw[eH]
 simp only[fy,cY,beq_iff_eq,decide_eq_true_eq,Prod.ext_iff]
 constructor
 ·rintro⟨h1,h2⟩;exact⟨h1.symm,h2.symm⟩
 ·rintro⟨h1,h2⟩;exact⟨h1.symm,h2.symm⟩
theorem c3d{k:IntKind}(a:Int×Int):Instr.sameBits 10000 (.agg #[.int k a.1,.int k a.2]) (.agg #[.int k a.1,.int k a.2])=true:=by
 show((2:Nat)==2&&([(Value.int k a.1,Value.int k a.1),(Value.int k a.2,Value.int k a.2)]).all fun(x,y)=>Instr.sameBits 9999 x y)=true
 have h:∀n,Instr.sameBits 9999 (.int k n) (.int k n)=true:=fun n=>by
  show(k==k&&n==n)=true
  cases k<;>simp<;>rfl
 simp[h]
section
variable {H:Heap} {α:Type} {n:Nat} {cel:α→List Value} {v:Value} {xs:List α}
theorem Sl.aX(h:Sl n cel H v xs)(o:Oper)(l:List Value)(H':Heap)(k:IntKind)(a:Int)(K:Value→Heap→Prop)(h0:0<xs.length)(h1:0≤a)(h2:a≤xs.length):
 pW P o l H' (some n) v none (some (.int k a)) K=pE (mW v n 0 a.toNat) fun v=>K v H':=by
 obtain⟨m,rfl⟩:∃m,n=m+1:=⟨n-1,by have:=h.pos;omega⟩
 exact h.rd.aX (iO h.hc xs) o l H' k a K h0 h1 h2
theorem Sl.aW(h:Sl n cel H v xs)(o:Oper)(l:List Value)(H':Heap)(k:IntKind)(a:Int)(K:Value→Heap→Prop)(h0:0<xs.length)(h1:0≤a)(h2:a≤xs.length):
 pW P o l H' (some n) v (some (.int k a)) none K=pE (mW v n a.toNat (xs.length-a).toNat) fun v=>K v H':=by
 obtain⟨m,rfl⟩:∃m,n=m+1:=⟨n-1,by have:=h.pos;omega⟩
 rw[h.rd.aW (iO h.hc xs) o l H' k a K h0 h1 h2]
 congr 2
 omega
theorem Sl.sub(h:Sl n cel H v xs)(lo k:Nat)(hk:lo+k≤xs.length)(h0:0<xs.length):Sl n cel H (mW v n lo k) ((xs.drop lo).take k):=by
 refine⟨?_,h.hc,h.pos⟩
 have hne:xs.flatMap cel≠[]:=fun e=>by
  have:=iO h.hc xs
  rw[e,eI]at this
  have hp:=iy h0 h.pos
  omega
 have:=h.rd.sub lo k (by rw[iO h.hc,←fu];exact dO _ hk) hne
 rw[tQ h.hc,a2u h.hc]at this
 exact this
theorem Sl.cE(h:Sl n cel H v xs)(k:Nat)(hk:k≤xs.length)(h0:0<xs.length):Sl n cel H (mW v n 0 k) (xs.take k):=by
 simpa using h.sub 0 k (by omega) h0
theorem Sl.cG(h:Sl n cel H v xs)(lo:Nat)(hk:lo≤xs.length)(h0:0<xs.length):Sl n cel H (mW v n lo (xs.length-lo)) (xs.drop lo):=by
 have:=h.sub lo (xs.length-lo) (by omega) h0
 rwa [List.take_of_length_le (by simp)]at this
end
def a9E(P:Program)(ts:Array TypeId)(ty:TypeId)(cx cy:Bool)(x y:Value):Option Value:=(kQ P ⟨none,.call {callee:=.builtin .max,args:=#[pD cx 0 x,pD cy 1 y],argTypes:=ts},ty,"",#[],none⟩ [x,y] .nil).map (·.1)
theorem b9Q(d:Option Tmp)(ty:TypeId)(pos:String)(af:Array Edge)(g:Option (Nat×Bool))(ts:Array TypeId)(x y:Operand)(l:List Value)(H:Heap)(K:Value→Heap→Prop):
 mG P ⟨d,.call {callee:=.builtin .max,args:=#[x,y],argTypes:=ts},ty,pos,af,g⟩ l H K=jN x l fun x'=>jN y l fun y'=>jY (a9E P ts ty (lK x) (lK y) x' y') fun v=>K v H:=by
 have h:opD P ⟨d,.call {callee:=.builtin .max,args:=#[x,y],argTypes:=ts},ty,pos,af,g⟩ l H=(a9E P ts ty (lK x) (lK y) (ev l x) (ev l y)).map fun v=>(v,H):=
  nK (P:=P) ⟨d,.call {callee:=.builtin .max,args:=#[x,y],argTypes:=ts},ty,pos,af,g⟩ ⟨none,.call {callee:=.builtin .max,args:=#[pD (lK x) 0 (ev l x),pD (lK y) 1 (ev l y)],argTypes:=ts},ty,"",#[],none⟩ l [ev l x,ev l y] H
   (by cases x<;>cases y<;>rfl) (by cases x<;>cases y<;>kernel_rfl)
 have h2:kE ((a9E P ts ty (lK x) (lK y) (ev l x) (ev l y)).map fun v=>(v,H)) K=jY (a9E P ts ty (lK x) (lK y) (ev l x) (ev l y)) fun v=>K v H:=by cases a9E P ts ty (lK x) (lK y) (ev l x) (ev l y)<;>rfl
 simp only[mG,h,jN,Op.operands,Call.operands,h2]
 simp[and_assoc]
theorem b8y(ts:Array TypeId)(ty:TypeId)(cx cy:Bool)(a b:Int):a9E P ts ty cx cy (.int .i64 a) (.int .i64 b)=some (.int .i64 (max a b)):=by
 have h:a9E P ts ty cx cy (.int .i64 a) (.int .i64 b)=some (.int .i64 (if b>a then b else a)):=by cases cx<;>cases cy<;>kernel_rfl
 rw[h]
 congr 2
 split<;>omega
def a9B(P:Program)(ts:Array TypeId)(ty:TypeId)(cx cy:Bool)(x y:Value):Option Value:=(kQ P ⟨none,.call {callee:=.builtin .min,args:=#[pD cx 0 x,pD cy 1 y],argTypes:=ts},ty,"",#[],none⟩ [x,y] .nil).map (·.1)
theorem c0W(d:Option Tmp)(ty:TypeId)(pos:String)(af:Array Edge)(g:Option (Nat×Bool))(ts:Array TypeId)(x y:Operand)(l:List Value)(H:Heap)(K:Value→Heap→Prop):
 mG P ⟨d,.call {callee:=.builtin .min,args:=#[x,y],argTypes:=ts},ty,pos,af,g⟩ l H K=jN x l fun x'=>jN y l fun y'=>jY (a9B P ts ty (lK x) (lK y) x' y') fun v=>K v H:=by
 have h:opD P ⟨d,.call {callee:=.builtin .min,args:=#[x,y],argTypes:=ts},ty,pos,af,g⟩ l H=(a9B P ts ty (lK x) (lK y) (ev l x) (ev l y)).map fun v=>(v,H):=
  nK (P:=P) ⟨d,.call {callee:=.builtin .min,args:=#[x,y],argTypes:=ts},ty,pos,af,g⟩ ⟨none,.call {callee:=.builtin .min,args:=#[pD (lK x) 0 (ev l x),pD (lK y) 1 (ev l y)],argTypes:=ts},ty,"",#[],none⟩ l [ev l x,ev l y] H
   (by cases x<;>cases y<;>rfl) (by cases x<;>cases y<;>kernel_rfl)
 have h2:kE ((a9B P ts ty (lK x) (lK y) (ev l x) (ev l y)).map fun v=>(v,H)) K=jY (a9B P ts ty (lK x) (lK y) (ev l x) (ev l y)) fun v=>K v H:=by cases a9B P ts ty (lK x) (lK y) (ev l x) (ev l y)<;>rfl
 simp only[mG,h,jN,Op.operands,Call.operands,h2]
 simp[and_assoc]
theorem b7X(ts:Array TypeId)(ty:TypeId)(cx cy:Bool)(a b:Int):a9B P ts ty cx cy (.int .i64 a) (.int .i64 b)=some (.int .i64 (min a b)):=by
 have h:a9B P ts ty cx cy (.int .i64 a) (.int .i64 b)=some (.int .i64 (if b<a then b else a)):=by cases cx<;>cases cy<;>kernel_rfl
 rw[h]
 congr 2
 split<;>omega
section
variable {H:Heap}
def Var(H:Heap)(A n:Nat)(cs:List Value):Prop:=n=cs.length∧∃ty rw lo ver,iS H A=some (.cells cs ty rw lo ver)∧lo≤cs.length
theorem Var.ag{H':Heap}{A n:Nat}{cs:List Value}(h:Var H A n cs)(hk:∀B,B<H.length→iS H' B=iS H B):Var H' A n cs:=by
 obtain⟨h1,ty,rw,lo,ver,h2,h3⟩:=h
 exact⟨h1,ty,rw,lo,ver,by rw[hk A (jP h2),h2],h3⟩
theorem Var.ld{A n:Nat}{cs:List Value}(h:Var H A n cs)(s:Option Nat)(off:Nat):pF (some false) s H (ptr A off n)=cs[off]?:=by
 obtain⟨rfl,ty,rw,lo,ver,h1,h2⟩:=h
 simp only[pF,jC,h1]
 by_cases h:off<cs.length
 ·rw[if_pos (by simp;omega)]
  simp only[cZ]
  rw[dY (by omega),dJ]
  simp
 ·rw[if_neg (by simp;omega),ew (by omega)]
  rfl
theorem Var.ai{A n:Nat}{cs:List Value}(h:Var H A n cs)(m off:Nat):pF (some true) (some m) H (ptr A off n)=if off+m≤cs.length then some (.agg ((cs.drop off).take m).toArray)else none:=by
 obtain⟨rfl,ty,rw,lo,ver,h1,h2⟩:=h
 simp only[pF,jC,h1,cZ]
 by_cases h:off+m≤cs.length
 ·rw[if_pos (by simp;omega),if_pos h]
  rfl
 ·rw[if_neg (by simp;omega),if_neg h]
  rfl
theorem St.var{P:Program}{H0:Base}{os:List Ob}(hS:St P H0 H os)(i:Nat){A n:Nat}{cs:List Value}(ho:os[i]? =some ⟨ptr A 0 n,0,cs⟩):Var H A n cs:=by
 obtain⟨h1,ty,lo,ver,h2,h3⟩:=hS.cell i ho
 exact⟨h1,ty,true,lo,ver,h2,h3⟩
theorem St.va{H0:Heap}{os:List Ob}(hS:St P H0 H os){A n:Nat}{cs:List Value}(h:Var H0 A n cs):Var H A n cs:=h.ag hS.ag
end
theorem tT{P:Program}(t t2:TypeId)(cx cy:Bool)(u x:UInt8):lC P .add t t2 cx cy (.string ⟨#[u]⟩) (.string ⟨#[x]⟩)=some (.string ⟨#[u,x]⟩):=by
 rw[a8v _ _ _ _ _ _ (by show 1+1<9223372036854775808;decide)]
 rfl
theorem wY{P:Program}{H:Heap}{s t:TypeId}{v:Value}{n:Int}(h:RdAt H v 1 [.int .u8 n])(hs:lH P s=true)(ht:oP P t=true)(hbt:lH P t=false)(h0:0≤n)(h1:n<256)(K:Value→Heap→Prop):
 uX P s t H v K=K (.string ⟨#[UInt8.ofNat n.toNat]⟩) H:=by
 obtain⟨m,rfl⟩:∃m:Nat,n=Int.ofNat m:=⟨n.toNat,by simp[fO h0]⟩
 have hm:m<256:=by have:(m:Int)<256:=h1;omega
 rcases h with⟨_,h⟩|⟨A,i,e,row,ty,rw,lo,ver,k,g1,g2,g3,g4,g5,g6,rfl⟩
 ·cases h
 have hk:k=1:=by simp at g6;omega
 subst hk
 have hc:jC H A i e 1=some [.int .u8 (Int.ofNat m)]:=by
  simp only[jC,g1]
  rw[if_pos (by simp at g4 ⊢;omega)]
  exact congrArg some g5
 have hb:nR [.int .u8 (Int.ofNat m)]=some ⟨#[UInt8.ofNat m]⟩:=by simp[nR,a2n,a1X,hm]
 have hd:opD P ⟨none,.convert s t (.const (.slice (some ⟨A,i,some e⟩) 1 1)),t,"",#[],none⟩ [] H=some (.string ⟨#[UInt8.ofNat m]⟩,H):=by
  have hf:flat (.slice (some ⟨A,i,some e⟩) 1 1)=false:=rfl
  simp only[opD,ev,hf,hs,ht,hc,hb,fo,dW,if_false,Bool.and_self,if_true,cZ,dS]
 unfold uX
 rw[hd]
 apply propext
 constructor
 ·rintro⟨v,H1,h2,h3⟩
  injection (cX h2)with e1 e2
  subst e1 e2
  exact h3
 ·intro h3
  exact⟨_,_,rfl,h3⟩
theorem a1W{P:Program}{t:TypeId}{n:Nat}{elem:TypeId}{size:Nat}(ha:P.underlying t=some (.array n elem))(hs:iE P elem=some size)(A i e:Nat)(k:IntKind)(j:Int)(h0:0≤j)(h1:j<n):
 wZ (iR P t) P t (ptr A i e) (.int k j)=some (ptr A (i+j.toNat*size) e):=by
 have hn:iR P t=none:=by simp[iR,iJ,ha]
 rw[hn]
 simp only[wZ,a2i,ha,ptr,hs,cZ]
 rw[if_pos (by simp[h0,h1])]
end
end Go.Ds
namespace Go.Ds
section
variable {P:Program}
def c2H(inv:List Nat)(e:Edge):Edge:={e with on:=inv.getD e.on 0}
def zD(inv:List Nat)(o:Oper):Oper:={o with after:=o.after.map (c2H inv),guard:=o.guard.map fun g=>(inv.getD g.1 0,g.2)}
def kG(π inv:List Nat)(ops:Array Oper):Array Oper:=(π.map fun i=>zD inv (ops.getD i default)).toArray
def b0F(π inv:List Nat)(ops:Array Oper):Bool:=
 decide (π.length=ops.size)&&decide (inv.length=ops.size)&&(List.range ops.size).all (fun i=>decide (π.getD i 0<ops.size)&&decide (inv.getD i 0<ops.size)&&decide (inv.getD (π.getD i 0) 0=i)&&decide (π.getD (inv.getD i 0) 0=i))&&
 ops.toList.all fun o=>o.after.toList.all (fun e=>decide (e.on<ops.size))&&(match o.guard with|some g=>decide (g.1<ops.size)|none=>true)
structure Perm(π inv:List Nat)(ops:Array Oper):Prop where
 len:π.length=ops.size
 pi:∀i,i<ops.size→π.getD i 0<ops.size
 iv:∀i,i<ops.size→inv.getD i 0<ops.size
 ip:∀i,i<ops.size→inv.getD (π.getD i 0) 0=i
 pv:∀i,i<ops.size→π.getD (inv.getD i 0) 0=i
 edge:∀(i:Nat)(o:Oper),ops[i]? =some o→∀e∈o.after,e.on<ops.size
 guard:∀(i:Nat)(o:Oper)(g:Nat×Bool),ops[i]? =some o→o.guard=some g→g.1<ops.size
theorem c0p{π inv:List Nat}{ops:Array Oper}(h:b0F π inv ops=true):Perm π inv ops:=by
 unfold b0F at h
 simp only[cY,decide_eq_true_eq,dz,dx]at h
 obtain⟨⟨⟨h1,h2⟩,h3⟩,h4⟩:=h
 refine⟨h1,fun i hi=>(h3 i hi).1.1.1,fun i hi=>(h3 i hi).1.1.2,fun i hi=>(h3 i hi).1.2,fun i hi=>(h3 i hi).2,fun i o ho e he=> ?_,fun i o g ho hg=> ?_⟩
 ·exact(h4 o (dU (i:=i) (by simpa using ho))).1 e (by simpa using he)
 ·have:=(h4 o (dU (i:=i) (by simpa using ho))).2
  rw[hg]at this
  simpa using this
variable {π inv:List Nat} {ops:Array Oper}
theorem a9b(p:Nat):(kG π inv ops)[p]? =(π[p]?).map fun i=>zD inv (ops.getD i default):=by
 simp[kG]
theorem rL(D:Perm π inv ops){p i:Nat}{o:Oper}(hp:p<ops.size)(hi:π.getD p 0=i)(ho:ops[i]? =some o):(kG π inv ops)[p]? =some (zD inv o):=by
 rw[a9b]
 have h1:π[p]? =some i:=by
  rw[dg]at hi
  rw[du (by rw[D.len];exact hp)]at hi ⊢
  simpa using hi
 rw[h1]
 simp only[dS]
 rw[ek,ho]
 rfl
theorem qO(D:Perm π inv ops):(kG π inv ops).size=ops.size:=by simp[kG,D.len]
theorem a6G(D:Perm π inv ops)(tmps:Array Value){j:Nat}(hj:j<ops.size):yielded (kG π inv ops) tmps (inv.getD j 0)=yielded ops tmps j:=by
 have ho:ops[j]? =some ops[j]:=di.2 ⟨hj,rfl⟩
 unfold yielded
 rw[rL D (D.iv j hj) (D.pv j hj) ho,ho]
 rfl
theorem a8h(D:Perm π inv ops)(tmps:Array Value){i:Nat}{o:Oper}(ho:ops[i]? =some o):Region.wanted (zD inv o) (yielded (kG π inv ops) tmps)=Region.wanted o (yielded ops tmps):=by
 unfold Region.wanted
 have e:(zD inv o).guard=o.guard.map fun g=>(inv.getD g.1 0,g.2):=rfl
 rw[e]
 cases hg:o.guard with
 | none=>rfl
 | some g=>
   simp only[dS]
   rw[a6G D tmps (D.guard i o g ho hg)]
theorem c0b(ro:Option Nat)(ρ:Operand→Value)(o:Oper):(zD inv o).semAt ro ρ=o.semAt ro ρ:=by
 obtain⟨dst,op,type,pos,after,guard⟩:=o
 rfl
theorem b3l(w:World)(ρ:Operand→Value)(o:Oper):(zD inv o).about P w ρ=o.about P w ρ:=by
 obtain⟨dst,op,type,pos,after,guard⟩:=o
 rfl
theorem b8l(F:Fence)(n:Nat)(o:Oper)(a:Act)(next:Act→World→Prop)(Q:Exit→Act→World→Prop)(r:Result Next):(zD inv o).uponIn F n P a next Q r=o.uponIn F n P a next Q r:=by
 obtain⟨dst,op,type,pos,after,guard⟩:=o
 cases r with
 | ok x w=>cases x<;>rfl
 | halt x w=>cases x<;>rfl
theorem b3b(D:Perm π inv ops)(F:Fence)(n:Nat)(Q:Exit→Act→World→Prop){i:Nat}(hi:i<ops.size)(K:Act→World→Prop)(a:Act)(w:World):
 wpOpIn F n P (kG π inv ops) Q (inv.getD i 0) K a w=wpOpIn F n P ops Q i K a w:=by
 have ho:ops[i]? =some ops[i]:=di.2 ⟨hi,rfl⟩
 unfold wpOpIn
 rw[rL D (D.iv i hi) (D.pv i hi) ho,ho]
 simp only[a8h D a.tmps ho,Oper.wpIn,b3l,b8l,c0b]
 rfl
def c3T(inv:List Nat)(n:Nat)(listed listed':Array Bool):Prop:=listed.size=n∧listed'.size=n∧∀i,i<n→listed.getD i false=listed'.getD (inv.getD i 0) false
theorem yM(D:Perm π inv ops){listed listed':Array Bool}(hc:c3T inv ops.size listed listed'){i:Nat}(hi:i<ops.size):
 i∈Region.ready .any ops listed↔inv.getD i 0∈Region.ready .any (kG π inv ops) listed':=by
 have ho:ops[i]? =some ops[i]:=di.2 ⟨hi,rfl⟩
 have ho':=rL D (D.iv i hi) (D.pv i hi) ho
 have hsz:=qO D
 obtain⟨c1,c2,c3⟩:=hc
 constructor
 ·intro h
  obtain⟨o,h1,h2,h3⟩:=pQ c1 h
  rw[ho]at h1
  obtain rfl:=cX h1
  refine a0Y (by rw[hsz];exact c2) ho' (by rw[←c3 i hi];exact h2) ?_
  intro e he hb
  have he':e∈(ops[i]).after.map (c2H inv):=he
  obtain⟨e0,he0,rfl⟩:=Array.mem_map.1 he'
  have:=h3 e0 he0 hb
  show listed'.getD (inv.getD e0.on 0) false=true
  rw[←c3 _ (D.edge i _ ho e0 he0)]
  exact this
 ·intro h
  obtain⟨o,h1,h2,h3⟩:=pQ (by rw[hsz];exact c2) h
  rw[ho']at h1
  obtain rfl:=cX h1
  refine a0Y c1 ho (by rw[c3 i hi];exact h2) ?_
  intro e he hb
  have:=h3 (c2H inv e) (Array.mem_map.2 ⟨e,he,rfl⟩) hb
  rw[c3 _ (D.edge i _ ho e he)]
  exact this
theorem b6d(D:Perm π inv ops)(F:Fence)(k:Nat){Q:Exit→Act→World→Prop}:∀(fuel:Nat)(listed listed':Array Bool)(a:Act)(w:World),c3T inv ops.size listed listed'→
 wpAnyIn F k P .any (kG π inv ops) Q fuel listed' a w→wpAnyIn F k P .any ops Q fuel listed a w:=by
 have hsz:=qO D
 have nil1:∀{listed listed':Array Bool},c3T inv ops.size listed listed'→(Region.ready .any ops listed=[]↔Region.ready .any (kG π inv ops) listed'=[]):=by
  intro listed listed' hc
  constructor
  ·intro h
   cases hr:Region.ready .any (kG π inv ops) listed' with
   | nil=>rfl
   | cons p r=>
     exfalso
     have hp:p∈Region.ready .any (kG π inv ops) listed':=by rw[hr];exact dK ..
     obtain⟨o,h1,_,_⟩:=pQ (by rw[hsz];exact hc.2.1) hp
     have hpn:p<ops.size:=by rw[←hsz];exact(di.1 h1).1
     have:=(yM D hc (D.pi p hpn)).2 (by rw[D.ip p hpn];exact hp)
     rw[h]at this
     cases this
  ·intro h
   cases hr:Region.ready .any ops listed with
   | nil=>rfl
   | cons i r=>
     exfalso
     have hi:i∈Region.ready .any ops listed:=by rw[hr];exact dK ..
     obtain⟨o,h1,_,_⟩:=pQ hc.1 hi
     have:=(yM D hc (di.1 h1).1).1 hi
     rw[h]at this
     cases this
 intro fuel
 induction fuel with
 | zero=>
   intro listed listed' a w hc h
   exact⟨(nil1 hc).2 h.1,h.2⟩
 | succ fuel ih=>
   intro listed listed' a w hc h
   refine⟨fun hn=>h.1 ((nil1 hc).1 hn),fun i hi=> ?_⟩
   obtain⟨o,h1,_,_⟩:=pQ hc.1 hi
   have hin:=(di.1 h1).1
   have h2:=h.2 _ ((yM D hc hin).1 hi)
   rw[b3b D F k Q hin]at h2
   refine wpOpIn_mono (fun a' w' h3=>ih _ _ a' w' ⟨by simpa using hc.1,by simpa using hc.2.1,fun j hj=> ?_⟩ h3) h2
   have e1:=tU (listed:=listed) (i:=i) (by rw[hc.1];exact hin) j
   have e2:=tU (listed:=listed') (i:=inv.getD i 0) (by rw[hc.2.1];exact D.iv i hin) (inv.getD j 0)
   have e3:(inv.getD j 0=inv.getD i 0)↔j=i:=⟨fun h=>by rw[←D.pv j hj,h,D.pv i hin],fun h=>by rw[h]⟩
   rw[eH,e1,e2,e3,hc.2.2 j hj]
end
section
variable {P:Program} {H:Heap} {π inv:List Nat} {ops:Array Oper}
theorem Sim.cH(jZ:P.follows .mixedOrders=true){id:Nat}(Dp:Perm π inv ops){fl:Fl}(D:Draw P fl (kG π inv ops)){T:Nat→List Value×Heap}{val:Nat→Value}(X:Text P (kG π inv ops) T val)
 (hread:∀i m o,(i,m)∈mP fl (kG π inv ops)→(kG π inv ops)[i]? =some o→Region.wanted o (iU (kG π inv ops) (T i).1)=true→∃H2,opD P o (T i).1 (T m).2=some (val i,H2)):
 Sim P (.region id ops true) (T 0).1 (T 0).2 .normal (T ops.size).1 (T ops.size).2:=by
 intro ro k B ρ w a hr hE hl hM hB
 have hsz:=qO Dp
 have:=a4B D X hread ro k B hr hE hM
 rw[hsz]at this
 exact wpIn_region_any jZ (b6d Dp (fe ro) k ops.size _ _ a _ ⟨by simp,by simp,fun i hi=>by
  have:=Dp.iv i hi
  simp only[ek,Array.getElem?_replicate,hi,this,if_true]⟩ this)
theorem a3L(D:Perm π inv ops)(l:List Value){j:Nat}(hj:j<ops.size):iU (kG π inv ops) l (inv.getD j 0)=iU ops l j:=by
 have ho:ops[j]? =some ops[j]:=di.2 ⟨hj,rfl⟩
 unfold iU
 rw[rL D (D.iv j hj) (D.pv j hj) ho,ho]
 rfl
theorem zA(D:Perm π inv ops)(l:List Value){i:Nat}{o:Oper}(ho:ops[i]? =some o):Region.wanted (zD inv o) (iU (kG π inv ops) l)=Region.wanted o (iU ops l):=by
 unfold Region.wanted
 have e:(zD inv o).guard=o.guard.map fun g=>(inv.getD g.1 0,g.2):=rfl
 rw[e]
 cases hg:o.guard with
 | none=>rfl
 | some g=>
   simp only[dS]
   rw[a3L D l (D.guard i o g ho hg)]
theorem b1Q(o:Oper)(l:List Value)(K:Value→Heap→Prop):mG P (zD inv o) l H K=mG P o l H K:=by
 obtain⟨dst,op,type,pos,after,guard⟩:=o
 rfl
theorem a5m(D:Perm π inv ops):∀(os:List Oper)(tr:List (List Value×Heap×Value))(l:List Value)(H:Heap)(K:List (List Value×Heap×Value)→List Value→Heap→Prop),(∀o∈os,∃i:Nat,ops[i]? =some o)→
 mN P (kG π inv ops) (os.map (zD inv)) tr l H K=mN P ops os tr l H K
 | [],_,_,_,_,_=>rfl
 | o::os,tr,l,H,K,h=>by
   obtain⟨i,ho⟩:=h o (by simp)
   have ih:=fun tr l H=>a5m D os tr l H K fun o ho=>h o (by simp[ho])
   rw[eF,mN,mN,zA D l ho]
   have e:(zD inv o).dst=o.dst:=rfl
   simp only[b1Q,e,ih]
def c2L(o:Option Oper)(os:List Oper):List Oper:=match o with|some o=>o::os|none=>os
def sel(os:List Oper):List Nat→List Oper
 | []=>[]
 | i::π=>c2L os[i]? (sel os π)
theorem c0K(os:List Oper):sel os []=[]:=rfl
theorem a7p(os:List Oper)(i:Nat)(π:List Nat):sel os (i::π)=c2L os[i]? (sel os π):=rfl
theorem a5l(o:Oper)(os:List Oper):c2L (some o) os=o::os:=rfl
theorem b1e(os:List Oper):∀(π:List Nat),(∀i∈π,i<os.length)→sel os π=π.map fun i=>os.toArray.getD i default
 | [],_=>rfl
 | i::π,h=>by
   have hi:=h i (by simp)
   rw[a7p,b1e os π fun j hj=>h j (by simp[hj]),du hi,a5l,eF]
   congr 1
   simp[ek,hi]
def a1k(P:Program)(os:List Oper)(tr:List (List Value×Heap×Value))(H1:Heap)(π:List Nat):List (Nat×Nat)→Prop
 | []=>True
 | (p,m)::r=>rdW P os.toArray (os[π.getD p 0]?) tr[p]? (trH tr[m]? H1)∧a1k P os tr H1 π r
theorem a9L(os:List Oper)(tr)(H1:Heap)(π:List Nat):a1k P os tr H1 π []=True:=rfl
theorem a8P(os:List Oper)(tr)(H1:Heap)(π:List Nat)(p m:Nat)(r:List (Nat×Nat)):a1k P os tr H1 π ((p,m)::r)=(rdW P os.toArray (os[π.getD p 0]?) tr[p]? (trH tr[m]? H1)∧a1k P os tr H1 π r):=rfl
theorem a3t{os:List Oper}{tr}{H1:Heap}{π:List Nat}:∀{tab:List (Nat×Nat)},a1k P os tr H1 π tab→∀x∈tab,rdW P os.toArray (os[π.getD x.1 0]?) tr[x.1]? (trH tr[x.2]? H1)
 | [],_,x,hx=>by cases hx
 | (i,m)::r,h,x,hx=>by
   rcases dX.1 hx with rfl|hx
   ·exact h.1
   ·exact a3t h.2 x hx
theorem Wp.cj(jZ:P.follows .mixedOrders=true){id:Nat}{os:List Oper}{l:List Value}{Q:oD}(π inv:List Nat)(fl:Fl)(tab:List (Nat×Nat))(hp:b0F π inv os.toArray=true)
 (htab:a3D P fl (kG π inv os.toArray)=some tab) (hn:vP (kG π inv os.toArray) tab=true)
 (h:mN P os.toArray (sel os π) [] l H fun tr l1 H1=>Q .normal l1 H1∧a1k P os tr H1 π tab):Wp P (.region id os.toArray true) l H Q:=by
 have Dp:=c0p hp
 obtain⟨D,htb⟩:=a3N htab
 have hsz:=qO Dp
 have hmem:∀i∈π,i<os.length:=fun i hi=>by
  obtain⟨p,hpl,hpe⟩:=dL.1 hi
  have:=Dp.pi p (by rw[←Dp.len];exact hpl)
  rw[dg,du hpl,fi,hpe]at this
  simpa using this
 have hsel:(sel os π).map (zD inv)=(kG π inv os.toArray).toList:=by
  rw[b1e os π hmem]
  simp[kG]
 rw[←a5m Dp (sel os π) [] l H _ (fun o ho=>by
  rw[b1e os π hmem,dC]at ho
  obtain⟨i,hi,rfl⟩:=ho
  have:=hmem i hi
  exact⟨i,by simp[ek,this]⟩),hsel]at h
 obtain⟨T,val,l',H',ext,h0,h1,h2,h3,h4,h5,h6⟩:=wC (kG π inv os.toArray).toList 0 rfl [] l H h
 have hlen:(kG π inv os.toArray).toList.length=os.toArray.size:=by rw[fD,hsz]
 rw[hlen]at h1 h2 h3 h4
 have:=Sim.cH jZ (id:=id) Dp D (T:=T) (val:=val) ⟨fun k hk=>by rw[hsz]at hk;simpa using h4 k hk⟩ fun i m o hm ho hw=>by
  rw[←htb]at hm
  have hr:=a3t h6 (i,m) hm
  have hi:i<os.toArray.size:=by rw[←hsz];exact(di.1 ho).1
  have hpi:=Dp.pi i hi
  have hoo:os.toArray[π.getD i 0]? =some (os.toArray[π.getD i 0]):=di.2 ⟨hpi,rfl⟩
  have hat:=rL (inv:=inv) Dp hi rfl hoo
  rw[ho]at hat
  have hat:=cX hat
  have hoo':os[π.getD i 0]? =some (os.toArray[π.getD i 0]):=by rw[←hoo];simp
  simp only[fp]at hr
  rw[hoo',h3 i hi]at hr
  unfold rdW at hr
  rw[hat,zA Dp _ hoo]at hw
  have hr:=hr hw
  have hno:yV o=true:=by
   unfold vP at hn
   have:=dz.1 hn (i,m) hm
   simpa [ho]using this
  have hTm:trH ext[m]? H'=(T m).2∨os.toArray.size<m:=by
   unfold trH
   by_cases hm2:m<os.toArray.size
   ·left;rw[h3 m hm2]
   ·by_cases hm3:m=os.toArray.size
    ·left
     rw[ew (by omega),hm3,h1]
    ·right;omega
  rcases hTm with hTm|hTm
  ·rw[hTm,←b1Q (inv:=inv),←hat]at hr
   obtain⟨v,H2,h7,h8⟩:=b2I hno hr
   exact⟨H2,by rw[h7,h8]⟩
  ·exfalso
   rw[htb]at hm
   have:=a2E hm
   rw[hsz]at this
   omega
 rw[h0,h1]at this
 exact⟨_,_,_,this,h5⟩
end
def RA:=
 And.intro @c0X<|And.intro @b5y<|And.intro @c0n<|And.intro @c4g<|And.intro @c2J<|And.intro @b5m<|And.intro @c0A<|And.intro @c3v<|And.intro @c0f<|And.intro @c1x<|And.intro @b8e<|And.intro @a9f<|And.intro @b4Q<|And.intro @b7Q<|And.intro @b4P<|And.intro @a9p<|And.intro @b0Y<|And.intro @a7W<|And.intro @b7U<|And.intro @a9V<|And.intro @b5R<|And.intro @b7I<|And.intro @b2U<|And.intro @b3h<|And.intro @c0y<|And.intro @b3p<|And.intro @a2B<|And.intro @a4h<|And.intro @b0e<|And.intro @b7x<|And.intro @b4r<|And.intro @b9o<|And.intro @a3U<|And.intro @a4d<|And.intro @b6j<|And.intro @c2Z<|And.intro @a6X<|And.intro @a7B<|And.intro @b3x<|And.intro @b7J<|And.intro @a5T<|And.intro @a9n<|And.intro @b1q<|And.intro @a9A<|And.intro @a9Y<|And.intro @a7C<|And.intro @a3W<|And.intro @a6x<|And.intro @a3r<|And.intro @b3u<|And.intro @b9Q<|And.intro @c0W<|And.intro @b5U<|And.intro @b0j<|And.intro @b4h<|And.intro @b3w<|And.intro @b0L<|And.intro @b1c<|And.intro @a8x<|And.intro @a6K<|And.intro @b6N<|And.intro @b3J<|And.intro @a3P<|And.intro @a9T<|And.intro @a8H<|And.intro @a4i<|And.intro @a8U<|And.intro @a9H<|And.intro @a8m<| @b5j
def RB:=
 And.intro @c0g<|And.intro @b0Q<|And.intro @b0c<|And.intro @b2S<|And.intro @b0Z<|And.intro @a7D<|And.intro @a6M<|And.intro @b8j<|And.intro @a7b<|And.intro @a7q<|And.intro @b9L<|And.intro @b4G<|And.intro @b1f<|And.intro @b9n<|And.intro @b9H<|And.intro @c0x<|And.intro @b9i<|And.intro @b0s<|And.intro @a7Y<|And.intro @c0C<|And.intro @c3L<|And.intro @b5x<|And.intro @a8j<|And.intro @b0a<|And.intro @b9N<|And.intro @b9T<|And.intro @b7M<|And.intro @b3a<|And.intro @b2Z<|And.intro @b4q<|And.intro @b3z<|And.intro @b4Y<|And.intro @b4z<|And.intro @b3t<|And.intro @b4d<|And.intro @b4T<|And.intro @b3e<|And.intro @b2T<|And.intro @b4K<|And.intro @b6h<|And.intro @b3Q<|And.intro @a5y<|And.intro @b3Z<|And.intro @b4x<|And.intro @b4y<|And.intro @b2R<|And.intro @b4D<|And.intro @b5E<|And.intro @b5v<|And.intro @b7o<|And.intro @c1o<|And.intro @b7r<|And.intro @a8S<|And.intro @a9q<|And.intro @b1m<|And.intro @b9x<|And.intro @b7b<|And.intro @a7Q<|And.intro @b5K<|And.intro @b6s<|And.intro @b4F<|And.intro @b0r<|And.intro @b7h<|And.intro @b3c<|And.intro @b0S<|And.intro @b4X<|And.intro @b8G<|And.intro @b0C<|And.intro @b4M<|And.intro @b4c<|And.intro @b1u<|And.intro @b4o<|And.intro @b0K<|And.intro @c0K<|And.intro @a7p<|And.intro @a5l<|And.intro @a9L<|And.intro @a8P<|And.intro @b8X<|And.intro @b6i<|And.intro @b3E<|And.intro @b5S<|And.intro @b7A<|And.intro @b4N<|And.intro @b5I<|And.intro @b4I<|And.intro @a6F<|And.intro @b1z<|And.intro @a8N<|And.intro @a9y<|And.intro @a9K<|And.intro @b6Z<|And.intro @b8x<|And.intro @b4v<|And.intro @b5Q<|And.intro @a8q<|And.intro @a5X<|And.intro @a7y<|And.intro @a9d<|And.intro @a8V<|And.intro @c6Y<|And.intro @c5I<|And.intro @c1a<|And.intro @b9r<|And.intro @b8y<|And.intro @b7X<|And.intro @b7u<|And.intro @b0H<|And.intro @b9s<|And.intro @b7m<|And.intro @b9q<|And.intro @mX<|And.intro @b6D<|And.intro @sS<| @b9A
theorem RT:
 (∀{α:Type}(l:List α),[]++l=l)∧
 (∀{α:Type}(l:List α),l++[]=l)∧
 (∀{α:Type}{a:α}{l m:List α},a::l++m=a::(l++m))∧
 (∀(cs:List Value)(i:Nat)(v:Value)(vs:List Value),iX cs i (v::vs)=iX (cs.set i v) (i+1) vs)∧
 (∀(cs:List Value)(i:Nat),iX cs i []=cs)∧
 (∀{α:Type}{x:α}{xs:List α}{a:α},(x::xs).set 0 a=a::xs)∧
 (∀{α:Type}{x:α}{xs:List α}{i:Nat}{a:α},(x::xs).set (i+1) a=x::xs.set i a)∧
 (∀(n:Nat),0+n=n)∧
 (∀(n:Nat),n*1=n)∧
 (∀(n:Nat),n+0=n):=
 ⟨@List.nil_append, @List.append_nil, @List.cons_append, @lU, @rX, @List.set_cons_zero, @List.set_cons_succ, @Nat.zero_add, @Nat.mul_one, @Nat.add_zero⟩
end Go.Ds
namespace Go.Ds
open Go.Proofs Go.Proofs.Tryz
abbrev I(n:Int):Value:=.int .i64 n
theorem sR(H:Heap):St prog H H []:=.refl ..
theorem jZ:prog.follows .mixedOrders=true:=by kernel_rfl
theorem tS3:iE prog 3=some 1:=by kernel_rfl
theorem b9P:iE prog 26=some 3:=by kernel_rfl
theorem c4f:iE prog 27=some 5:=by kernel_rfl
theorem c5H:iE prog 28=some 2:=by kernel_rfl
theorem c7q:iE prog 31=some 1:=by kernel_rfl
theorem c7c:iE prog 32=some 1:=by kernel_rfl
theorem c0w:iE prog 33=some 1:=by kernel_rfl
theorem lP:iE prog 35=some 4:=by kernel_rfl
theorem c5M:iE prog 37=some 1:=by kernel_rfl
theorem c3X:iE prog 38=some 1:=by kernel_rfl
theorem mK:iE prog 40=some 3:=by kernel_rfl
theorem c7n:iE prog 46=some 3:=by kernel_rfl
theorem yT:iE prog 48=some 2:=by kernel_rfl
theorem c6D:iE prog 49=some 1:=by kernel_rfl
theorem xB:iE prog 51=some 5:=by kernel_rfl
theorem kY:iE prog 53=some 2:=by kernel_rfl
theorem b4E:iE prog 62=some 1:=by kernel_rfl
theorem rM:iE prog 71=some 2:=by kernel_rfl
theorem nB:iE prog 88=some 2:=by kernel_rfl
theorem sN:iE prog 119=some 2:=by kernel_rfl
theorem uP:iE prog 121=some 6:=by kernel_rfl
theorem b2v:iE prog 131=some 4:=by kernel_rfl
theorem b5Z:iE prog 135=some 9:=by kernel_rfl
theorem xM:iE prog 137=some 1:=by kernel_rfl
theorem oK:iE prog 139=some 4:=by kernel_rfl
theorem b5J:iE prog 142=some 4:=by kernel_rfl
theorem b2t:iE prog 144=some 4:=by kernel_rfl
theorem uN:iE prog 146=some 5:=by kernel_rfl
theorem a2Z:iE prog 167=some 1:=by kernel_rfl
theorem xE:iE prog 201=some 2:=by kernel_rfl
theorem yX:iE prog 204=some 3:=by kernel_rfl
theorem b2O:iE prog 276=some 3:=by kernel_rfl
theorem b6I:iE prog 304=some 1:=by kernel_rfl
theorem c3z:iR prog 62=some 1:=by kernel_rfl
theorem nX:lH prog 136=true∧oP prog 9=true∧lH prog 9=false:=⟨by kernel_rfl,by kernel_rfl,by kernel_rfl⟩
theorem c8C(A i e:Nat)(k:IntKind)(j:Int)(h0:0≤j)(h1:j<5):wZ (iR prog 27) prog 27 (ptr A i e) (.int k j)=some (ptr A (i+j.toNat*1) e):=a1W (n:=5) (elem:=5) (size:=1) (by kernel_rfl) (by kernel_rfl) A i e k j h0 h1
theorem c8u(A i e:Nat)(k:IntKind)(j:Int)(h0:0≤j)(h1:j<2):wZ (iR prog 28) prog 28 (ptr A i e) (.int k j)=some (ptr A (i+j.toNat*1) e):=a1W (n:=2) (elem:=5) (size:=1) (by kernel_rfl) (by kernel_rfl) A i e k j h0 h1
theorem c8g(A i e:Nat)(k:IntKind)(j:Int)(h0:0≤j)(h1:j<3):wZ (iR prog 46) prog 46 (ptr A i e) (.int k j)=some (ptr A (i+j.toNat*1) e):=a1W (n:=3) (elem:=45) (size:=1) (by kernel_rfl) (by kernel_rfl) A i e k j h0 h1
theorem c6C(A i e:Nat)(k:IntKind)(j:Int)(h0:0≤j)(h1:j<64):wZ (iR prog 332) prog 332 (ptr A i e) (.int k j)=some (ptr A (i+j.toNat*1) e):=a1W (n:=64) (elem:=5) (size:=1) (by kernel_rfl) (by kernel_rfl) A i e k j h0 h1
theorem c2Q:nO prog 31=some (6,80):=by kernel_rfl
theorem c7I:((iJ prog 31).bind (jA prog)).any jB=true:=by kernel_rfl
theorem c2F:nO prog 32=some (5,64):=by kernel_rfl
theorem c5u:((iJ prog 32).bind (jA prog)).any jB=true:=by kernel_rfl
theorem b0A:nO prog 33=some (5,48):=by kernel_rfl
theorem c0J:((iJ prog 33).bind (jA prog)).any jB=true:=by kernel_rfl
theorem c3g:nO prog 37=some (1,8):=by kernel_rfl
theorem c6S:((iJ prog 37).bind (jA prog)).any jB=true:=by kernel_rfl
theorem b4a:nO prog 43=some (2,16):=by kernel_rfl
theorem b9h:((iJ prog 43).bind (jA prog)).any jB=true:=by kernel_rfl
theorem c3a:nO prog 49=some (4,56):=by kernel_rfl
theorem c4U:((iJ prog 49).bind (jA prog)).any jB=true:=by kernel_rfl
theorem a0e:nO prog 62=some (1,8):=by kernel_rfl
theorem a3i:((iJ prog 62).bind (jA prog)).any jB=true:=by kernel_rfl
theorem a1D:nO prog 112=some (2,16):=by kernel_rfl
theorem b8a:((iJ prog 112).bind (jA prog)).any jB=true:=by kernel_rfl
theorem b2s:nO prog 136=some (1,1):=by kernel_rfl
theorem b2o:((iJ prog 136).bind (jA prog)).any jB=true:=by kernel_rfl
theorem qM:nO prog 137=some (3,40):=by kernel_rfl
theorem xK:((iJ prog 137).bind (jA prog)).any jB=true:=by kernel_rfl
theorem c6O:nO prog 157=some (1,16):=by kernel_rfl
theorem c6t:((iJ prog 157).bind (jA prog)).any jB=true:=by kernel_rfl
theorem c2x:nO prog 158=some (2,16):=by kernel_rfl
theorem c7y:((iJ prog 158).bind (jA prog)).any jB=true:=by kernel_rfl
theorem mJ:nO prog 167=some (2,16):=by kernel_rfl
theorem uL:((iJ prog 167).bind (jA prog)).any jB=true:=by kernel_rfl
theorem b8M:nO prog 197=some (3,40):=by kernel_rfl
theorem b5L:((iJ prog 197).bind (jA prog)).any jB=true:=by kernel_rfl
theorem a4n:nO prog 202=some (2,16):=by kernel_rfl
theorem a4s:((iJ prog 202).bind (jA prog)).any jB=true:=by kernel_rfl
theorem c1S:nO prog 263=some (2,16):=by kernel_rfl
theorem c2h:((iJ prog 263).bind (jA prog)).any jB=true:=by kernel_rfl
theorem c6h:c4x prog 62=some (8,.int .i64 0):=by kernel_rfl
theorem c7m(t2:TypeId)(cx cy:Bool)(a0:Int)(a1:Int)(b0:Int)(b1:Int):lC prog .eql 53 t2 cx cy (.agg #[.int .i64 a0,.int .i64 a1]) (.agg #[.int .i64 b0,.int .i64 b1])=some (.bool (decide (a0=b0∧a1=b1)))∧lC prog .neq 53 t2 cx cy (.agg #[.int .i64 a0,.int .i64 a1]) (.agg #[.int .i64 b0,.int .i64 b1])=some (.bool (decide (¬(a0=b0∧a1=b1)))):=by
 have h:=zE (P:=prog) (t:=53) (t2:=t2) (cx:=cx) (cy:=cy) (xs:=[.int .i64 a0,.int .i64 a1]) (ys:=[.int .i64 b0,.int .i64 b1]) (by kernel_rfl) (by kernel_rfl) (by kernel_rfl) (by kernel_rfl) rfl (by kernel_rfl) rfl rfl
 have e:((List.range [Value.int .i64 a0,.int .i64 a1].length).all fun j=>eqC ([Value.int .i64 a0,.int .i64 a1].getD j undef) ([Value.int .i64 b0,.int .i64 b1].getD j undef))=decide (a0=b0∧a1=b1):=by
  show(eqC (Value.int .i64 a0) (.int .i64 b0)&&(eqC (Value.int .i64 a1) (.int .i64 b1)&&true))=_
  rw[eH]
  simp[eqC]
 rw[e]at h
 exact⟨h.1,by rw[h.2];simp⟩
theorem c5U(t2:TypeId)(cx cy:Bool)(a0:Int)(a1:Int)(b0:Int)(b1:Int):lC prog .eql 53 t2 cx cy (.agg #[.int .i64 a0,.int .i64 a1]) (.agg #[.int .i64 b0,.int .i64 b1])=some (.bool (decide (a0=b0∧a1=b1))):=(c7m t2 cx cy a0 a1 b0 b1).1
theorem c5e(t2:TypeId)(cx cy:Bool)(a0:Int)(a1:Int)(b0:Int)(b1:Int):lC prog .neq 53 t2 cx cy (.agg #[.int .i64 a0,.int .i64 a1]) (.agg #[.int .i64 b0,.int .i64 b1])=some (.bool (decide (¬(a0=b0∧a1=b1)))):=(c7m t2 cx cy a0 a1 b0 b1).2
theorem c5o(t2:TypeId)(cx cy:Bool)(a0:Int)(a1:Int)(b0:Int)(b1:Int):lC prog .eql 71 t2 cx cy (.agg #[.int .i64 a0,.int .i64 a1]) (.agg #[.int .i64 b0,.int .i64 b1])=some (.bool (decide (a0=b0∧a1=b1)))∧lC prog .neq 71 t2 cx cy (.agg #[.int .i64 a0,.int .i64 a1]) (.agg #[.int .i64 b0,.int .i64 b1])=some (.bool (decide (¬(a0=b0∧a1=b1)))):=by
 have h:=zE (P:=prog) (t:=71) (t2:=t2) (cx:=cx) (cy:=cy) (xs:=[.int .i64 a0,.int .i64 a1]) (ys:=[.int .i64 b0,.int .i64 b1]) (by kernel_rfl) (by kernel_rfl) (by kernel_rfl) (by kernel_rfl) rfl (by kernel_rfl) rfl rfl
 have e:((List.range [Value.int .i64 a0,.int .i64 a1].length).all fun j=>eqC ([Value.int .i64 a0,.int .i64 a1].getD j undef) ([Value.int .i64 b0,.int .i64 b1].getD j undef))=decide (a0=b0∧a1=b1):=by
  show(eqC (Value.int .i64 a0) (.int .i64 b0)&&(eqC (Value.int .i64 a1) (.int .i64 b1)&&true))=_
  rw[eH]
  simp[eqC]
 rw[e]at h
 exact⟨h.1,by rw[h.2];simp⟩
theorem c6Q(t2:TypeId)(cx cy:Bool)(a0:Int)(a1:Int)(b0:Int)(b1:Int):lC prog .eql 71 t2 cx cy (.agg #[.int .i64 a0,.int .i64 a1]) (.agg #[.int .i64 b0,.int .i64 b1])=some (.bool (decide (a0=b0∧a1=b1))):=(c5o t2 cx cy a0 a1 b0 b1).1
theorem c6b(t2:TypeId)(cx cy:Bool)(a0:Int)(a1:Int)(b0:Int)(b1:Int):lC prog .neq 71 t2 cx cy (.agg #[.int .i64 a0,.int .i64 a1]) (.agg #[.int .i64 b0,.int .i64 b1])=some (.bool (decide (¬(a0=b0∧a1=b1)))):=(c5o t2 cx cy a0 a1 b0 b1).2
theorem c7b(t2:TypeId)(cx cy:Bool)(a0:Int)(a1:Int)(b0:Int)(b1:Int):lC prog .eql 88 t2 cx cy (.agg #[.int .u64 a0,.int .u64 a1]) (.agg #[.int .u64 b0,.int .u64 b1])=some (.bool (decide (a0=b0∧a1=b1)))∧lC prog .neq 88 t2 cx cy (.agg #[.int .u64 a0,.int .u64 a1]) (.agg #[.int .u64 b0,.int .u64 b1])=some (.bool (decide (¬(a0=b0∧a1=b1)))):=by
 have h:=zE (P:=prog) (t:=88) (t2:=t2) (cx:=cx) (cy:=cy) (xs:=[.int .u64 a0,.int .u64 a1]) (ys:=[.int .u64 b0,.int .u64 b1]) (by kernel_rfl) (by kernel_rfl) (by kernel_rfl) (by kernel_rfl) rfl (by kernel_rfl) rfl rfl
 have e:((List.range [Value.int .u64 a0,.int .u64 a1].length).all fun j=>eqC ([Value.int .u64 a0,.int .u64 a1].getD j undef) ([Value.int .u64 b0,.int .u64 b1].getD j undef))=decide (a0=b0∧a1=b1):=by
  show(eqC (Value.int .u64 a0) (.int .u64 b0)&&(eqC (Value.int .u64 a1) (.int .u64 b1)&&true))=_
  rw[eH]
  simp[eqC]
 rw[e]at h
 exact⟨h.1,by rw[h.2];simp⟩
theorem c5v(t2:TypeId)(cx cy:Bool)(a0:Int)(a1:Int)(b0:Int)(b1:Int):lC prog .eql 88 t2 cx cy (.agg #[.int .u64 a0,.int .u64 a1]) (.agg #[.int .u64 b0,.int .u64 b1])=some (.bool (decide (a0=b0∧a1=b1))):=(c7b t2 cx cy a0 a1 b0 b1).1
theorem c5B(t2:TypeId)(cx cy:Bool)(a0:Int)(a1:Int)(b0:Int)(b1:Int):lC prog .neq 88 t2 cx cy (.agg #[.int .u64 a0,.int .u64 a1]) (.agg #[.int .u64 b0,.int .u64 b1])=some (.bool (decide (¬(a0=b0∧a1=b1)))):=(c7b t2 cx cy a0 a1 b0 b1).2
theorem c1R(t2:TypeId)(cx cy:Bool)(a0:Int)(a1:Int)(b0:Int)(b1:Int):lC prog .eql 201 t2 cx cy (.agg #[.int .i64 a0,.int .i64 a1]) (.agg #[.int .i64 b0,.int .i64 b1])=some (.bool (decide (a0=b0∧a1=b1)))∧lC prog .neq 201 t2 cx cy (.agg #[.int .i64 a0,.int .i64 a1]) (.agg #[.int .i64 b0,.int .i64 b1])=some (.bool (decide (¬(a0=b0∧a1=b1)))):=by
 have h:=zE (P:=prog) (t:=201) (t2:=t2) (cx:=cx) (cy:=cy) (xs:=[.int .i64 a0,.int .i64 a1]) (ys:=[.int .i64 b0,.int .i64 b1]) (by kernel_rfl) (by kernel_rfl) (by kernel_rfl) (by kernel_rfl) rfl (by kernel_rfl) rfl rfl
 have e:((List.range [Value.int .i64 a0,.int .i64 a1].length).all fun j=>eqC ([Value.int .i64 a0,.int .i64 a1].getD j undef) ([Value.int .i64 b0,.int .i64 b1].getD j undef))=decide (a0=b0∧a1=b1):=by
  show(eqC (Value.int .i64 a0) (.int .i64 b0)&&(eqC (Value.int .i64 a1) (.int .i64 b1)&&true))=_
  rw[eH]
  simp[eqC]
 rw[e]at h
 exact⟨h.1,by rw[h.2];simp⟩
theorem c3C(t2:TypeId)(cx cy:Bool)(a0:Int)(a1:Int)(b0:Int)(b1:Int):lC prog .eql 201 t2 cx cy (.agg #[.int .i64 a0,.int .i64 a1]) (.agg #[.int .i64 b0,.int .i64 b1])=some (.bool (decide (a0=b0∧a1=b1))):=(c1R t2 cx cy a0 a1 b0 b1).1
theorem c3K(t2:TypeId)(cx cy:Bool)(a0:Int)(a1:Int)(b0:Int)(b1:Int):lC prog .neq 201 t2 cx cy (.agg #[.int .i64 a0,.int .i64 a1]) (.agg #[.int .i64 b0,.int .i64 b1])=some (.bool (decide (¬(a0=b0∧a1=b1)))):=(c1R t2 cx cy a0 a1 b0 b1).2
theorem a2r{a1:Int}{a2:Int}{a3:Int}{a4:Int}{a5:Int}:kJ prog 27 [(0,.int .u8 a1),(1,.int .u8 a2),(2,.int .u8 a3),(3,.int .u8 a4),(4,.int .u8 a5)]=some (.agg #[.int .u8 a1,.int .u8 a2,.int .u8 a3,.int .u8 a4,.int .u8 a5]):=by kernel_rfl
theorem c4I{a1:ByteArray}:kJ prog 35 [(0,.string a1)]=some (.agg #[.string a1,.slice none 0 0,.slice none 0 0,.slice none 0 0]):=by kernel_rfl
theorem a6l{a1:ByteArray}{a2:Value}{a3:Value}{a4:Value}(h2:a2.cells=#[a2]∧oneCell a2=true∧qH a2=true)(h3:a3.cells=#[a3]∧oneCell a3=true∧qH a3=true)(h4:a4.cells=#[a4]∧oneCell a4=true∧qH a4=true):kJ prog 35 [(0,.string a1),(1,a2),(2,a3),(3,a4)]=some (.agg #[.string a1,a2,a3,a4]):=by cases a2<;>cases a3<;>cases a4<;>first|(exfalso;simp[oneCell]at h2;done)|(exfalso;simp[oneCell]at h3;done)|(exfalso;simp[oneCell]at h4;done)|kernel_rfl
theorem b7G{a1:Value}{a2:Int}(h1:a1.cells=#[a1]∧oneCell a1=true∧qH a1=true):kJ prog 40 [(0,a1),(1,.int .u64 a2)]=some (.agg #[a1,.int .u64 a2,.int .u64 0]):=by cases a1<;>first|(exfalso;simp[oneCell]at h1;done)|kernel_rfl
theorem b7c{a1:Int}{a2:Int}:kJ prog 40 [(1,.int .u64 a1),(2,.int .u64 a2)]=some (.agg #[.slice none 0 0,.int .u64 a1,.int .u64 a2]):=by kernel_rfl
theorem a2m{a1:Int}{a2:Int}{a3:Int}:kJ prog 46 [(0,.int .u16 a1),(1,.int .u16 a2),(2,.int .u16 a3)]=some (.agg #[.int .u16 a1,.int .u16 a2,.int .u16 a3]):=by kernel_rfl
theorem a7L{a1:Int}{a2:Int}:kJ prog 48 [(0,.int .i64 a1),(1,.int .i64 a2)]=some (.agg #[.int .i64 a1,.int .i64 a2]):=by kernel_rfl
theorem b1i{a1:ByteArray}{a2:Bool}{a3:Int}{a4:Int}:kJ prog 51 [(0,.string a1),(1,.bool a2),(2,.agg #[.int .i64 a3,.int .i64 a4])]=some (.agg #[.string a1,.bool a2,.int .i64 a3,.int .i64 a4,.slice none 0 0]):=by kernel_rfl
theorem a2X{a1:ByteArray}{a2:Int}{a3:Int}{a4:Value}(h4:a4.cells=#[a4]∧oneCell a4=true∧qH a4=true):kJ prog 51 [(0,.string a1),(2,.agg #[.int .i64 a2,.int .i64 a3]),(3,a4)]=some (.agg #[.string a1,.bool false,.int .i64 a2,.int .i64 a3,a4]):=by cases a4<;>first|(exfalso;simp[oneCell]at h4;done)|kernel_rfl
theorem c2q:kJ prog 53 []=some (.agg #[.int .i64 0,.int .i64 0]):=by kernel_rfl
theorem oQ{a1:Int}{a2:Int}:kJ prog 53 [(0,.int .i64 a1),(1,.int .i64 a2)]=some (.agg #[.int .i64 a1,.int .i64 a2]):=by kernel_rfl
theorem c4H{a1:Int}:kJ prog 53 [(1,.int .i64 a1)]=some (.agg #[.int .i64 0,.int .i64 a1]):=by kernel_rfl
theorem c1T:kJ prog 71 []=some (.agg #[.int .i64 0,.int .i64 0]):=by kernel_rfl
theorem a6V{a1:Int}{a2:Int}:kJ prog 71 [(0,.int .i64 a1),(1,.int .i64 a2)]=some (.agg #[.int .i64 a1,.int .i64 a2]):=by kernel_rfl
theorem b7K:kJ prog 88 []=some (.agg #[.int .u64 0,.int .u64 0]):=by kernel_rfl
theorem c4y{a1:Int}:kJ prog 88 [(0,.int .u64 a1)]=some (.agg #[.int .u64 a1,.int .u64 0]):=by kernel_rfl
theorem b7w{a1:Int}{a2:Int}:kJ prog 88 [(0,.int .u64 a1),(1,.int .u64 a2)]=some (.agg #[.int .u64 a1,.int .u64 a2]):=by kernel_rfl
theorem c4C{a1:Int}:kJ prog 88 [(1,.int .u64 a1)]=some (.agg #[.int .u64 0,.int .u64 a1]):=by kernel_rfl
theorem wW{a1:Int}{a2:Int}:kJ prog 119 [(0,.int .i64 a1),(1,.int .i64 a2)]=some (.agg #[.int .i64 a1,.int .i64 a2]):=by kernel_rfl
theorem a3T{a1:ByteArray}{a2:ByteArray}{a3:Int}{a4:Int}{a5:Int}:kJ prog 121 [(0,.string a1),(1,.string a2),(2,.agg #[.int .i64 a3,.int .i64 a4]),(3,.int .i64 a5)]=some (.agg #[.string a1,.string a2,.int .i64 a3,.int .i64 a4,.int .i64 a5,.slice none 0 0]):=by kernel_rfl
theorem a1I{a1:ByteArray}{a2:ByteArray}{a3:Int}{a4:Int}{a5:Int}{a6:Value}(h6:a6.cells=#[a6]∧oneCell a6=true∧qH a6=true):kJ prog 121 [(0,.string a1),(1,.string a2),(2,.agg #[.int .i64 a3,.int .i64 a4]),(3,.int .i64 a5),(4,a6)]=some (.agg #[.string a1,.string a2,.int .i64 a3,.int .i64 a4,.int .i64 a5,a6]):=by cases a6<;>first|(exfalso;simp[oneCell]at h6;done)|kernel_rfl
theorem b3d{a1:ByteArray}{a2:Int}{a3:Int}:kJ prog 139 [(0,.string a1),(1,.agg #[.int .i64 a2,.int .i64 a3])]=some (.agg #[.string a1,.int .i64 a2,.int .i64 a3,.slice none 0 0]):=by kernel_rfl
theorem a8i{a1:ByteArray}{a2:Int}{a3:Int}{a4:Value}(h4:a4.cells=#[a4]∧oneCell a4=true∧qH a4=true):kJ prog 139 [(0,.string a1),(1,.agg #[.int .i64 a2,.int .i64 a3]),(2,a4)]=some (.agg #[.string a1,.int .i64 a2,.int .i64 a3,a4]):=by cases a4<;>first|(exfalso;simp[oneCell]at h4;done)|kernel_rfl
theorem a9e{a1:ByteArray}{a2:Int}{a3:Int}:kJ prog 146 [(0,.string a1),(1,.int .i64 a2),(2,.int .i64 a3)]=some (.agg #[.string a1,.int .i64 a2,.int .i64 a3,.int .i64 0,.bool false]):=by kernel_rfl
theorem a1M{a1:ByteArray}{a2:Int}{a3:Int}{a4:Int}{a5:Bool}:kJ prog 146 [(0,.string a1),(1,.int .i64 a2),(2,.int .i64 a3),(3,.int .i64 a4),(4,.bool a5)]=some (.agg #[.string a1,.int .i64 a2,.int .i64 a3,.int .i64 a4,.bool a5]):=by kernel_rfl
theorem qT{a1:Int}{a2:Int}:kJ prog 201 [(0,.int .i64 a1),(1,.int .i64 a2)]=some (.agg #[.int .i64 a1,.int .i64 a2]):=by kernel_rfl
theorem c3b:kJ prog 204 []=some (.agg #[.int .i64 0,.int .i64 0,.slice none 0 0]):=by kernel_rfl
theorem lN{a1:Int}{a2:Int}{a3:Value}(h3:a3.cells=#[a3]∧oneCell a3=true∧qH a3=true):kJ prog 204 [(0,.int .i64 a1),(1,.int .i64 a2),(2,a3)]=some (.agg #[.int .i64 a1,.int .i64 a2,a3]):=by cases a3<;>first|(exfalso;simp[oneCell]at h3;done)|kernel_rfl
theorem b4V{a1:Value}{a2:Int}{a3:Int}(h1:a1.cells=#[a1]∧oneCell a1=true∧qH a1=true):kJ prog 276 [(0,a1),(1,.agg #[.int .i64 a2,.int .i64 a3])]=some (.agg #[a1,.int .i64 a2,.int .i64 a3]):=by cases a1<;>first|(exfalso;simp[oneCell]at h1;done)|kernel_rfl
theorem b3N{a1:Int}{a2:Int}:kJ prog 302 [(0,.int .u64 a1),(1,.int .u64 a2)]=some (.agg #[.int .u64 a1,.int .u64 a2]):=by kernel_rfl
theorem tR3(l:List Value)(H:Heap):iC prog Tryz.f3 l H=some (get l 6):=rfl
theorem tR9(l:List Value)(H:Heap):iC prog Tryz.f9 l H=some (get l 0):=rfl
theorem b1F(l:List Value)(H:Heap):iC prog Tryz.f10 l H=some (get l 2):=rfl
theorem c8d(l:List Value)(H:Heap):iC prog Tryz.f11 l H=pF (jT prog 35) (iE prog 35) H (get l 2):=by
 show(Option.bind (Option.bind (lM prog H 35 (get l 2)) fun v=>some [v]) fun vs=>_)=_
 rw[kW]
 cases pF _ _ H (get l 2)<;>rfl
theorem c8N(l:List Value)(H:Heap):iC prog Tryz.f12 l H=pF (jT prog 40) (iE prog 40) H (get l 4):=by
 show(Option.bind (Option.bind (lM prog H 40 (get l 4)) fun v=>some [v]) fun vs=>_)=_
 rw[kW]
 cases pF _ _ H (get l 4)<;>rfl
theorem c8e(l:List Value)(H:Heap):iC prog Tryz.f13 l H=some (get l 4):=rfl
theorem c6s(l:List Value)(H:Heap):iC prog Tryz.f14 l H=if(jD (get l 6)&&(jD (get l 7)&&true))=true then some (.tuple #[get l 6,get l 7])else none:=rfl
theorem c5j(l:List Value)(H:Heap):iC prog Tryz.f15 l H=if(jD (get l 8)&&(jD (get l 9)&&true))=true then some (.tuple #[get l 8,get l 9])else none:=rfl
theorem c8F(l:List Value)(H:Heap):iC prog Tryz.f16 l H=some (get l 2):=rfl
theorem c6M(l:List Value)(H:Heap):iC prog Tryz.f17 l H=if(jD (get l 6)&&(jD (get l 7)&&true))=true then some (.tuple #[get l 6,get l 7])else none:=rfl
theorem c8k(l:List Value)(H:Heap):iC prog Tryz.f18 l H=some (get l 6):=rfl
theorem c7v(l:List Value)(H:Heap):iC prog Tryz.f42 l H=if(jD (get l 6)&&(jD (get l 7)&&true))=true then some (.tuple #[get l 6,get l 7])else none:=rfl
theorem c8K(l:List Value)(H:Heap):iC prog Tryz.f43 l H=pF (jT prog 35) (iE prog 35) H (get l 0):=by
 show(Option.bind (Option.bind (lM prog H 35 (get l 0)) fun v=>some [v]) fun vs=>_)=_
 rw[kW]
 cases pF _ _ H (get l 0)<;>rfl
theorem c8v(l:List Value)(H:Heap):iC prog Tryz.f44 l H=some (get l 4):=rfl
theorem c8l(l:List Value)(H:Heap):iC prog Tryz.f45 l H=(pF (jT prog 88) (iE prog 88) H (get l 2)).bind fun v=>if(jD v&&(jD (get l 3)&&true))=true then some (.tuple #[v,get l 3])else none:=by
 show(Option.bind (Option.bind (lM prog H 88 (get l 2)) fun v=>some [v,get l 3]) fun vs=>_)=_
 rw[kW]
 cases pF _ _ H (get l 2)<;>rfl
theorem c5Q(l:List Value)(H:Heap):iC prog Tryz.f46 l H=if(jD (get l 6)&&(jD (get l 7)&&true))=true then some (.tuple #[get l 6,get l 7])else none:=rfl
theorem c6z(l:List Value)(H:Heap):iC prog Tryz.f47 l H=(pF (jT prog 53) (iE prog 53) H (get l 4)).bind fun v=>if(jD v&&(jD (get l 5)&&(jD (get l 6)&&true)))=true then some (.tuple #[v,get l 5,get l 6])else none:=by
 show(Option.bind (Option.bind (lM prog H 53 (get l 4)) fun v=>some [v,get l 5,get l 6]) fun vs=>_)=_
 rw[kW]
 cases pF _ _ H (get l 4)<;>rfl
theorem c3o(l:List Value)(H:Heap):iC prog Tryz.f48 l H=some (get l 4):=rfl
theorem c8c(l:List Value)(H:Heap):iC prog Tryz.f49 l H=pF (jT prog 121) (iE prog 121) H (get l 4):=by
 show(Option.bind (Option.bind (lM prog H 121 (get l 4)) fun v=>some [v]) fun vs=>_)=_
 rw[kW]
 cases pF _ _ H (get l 4)<;>rfl
theorem b1p(l:List Value)(H:Heap):iC prog Tryz.f50 l H=pF (jT prog 139) (iE prog 139) H (get l 8):=by
 show(Option.bind (Option.bind (lM prog H 139 (get l 8)) fun v=>some [v]) fun vs=>_)=_
 rw[kW]
 cases pF _ _ H (get l 8)<;>rfl
theorem c4X(l:List Value)(H:Heap):iC prog Tryz.f51 l H=if(jD (get l 6)&&(jD (get l 7)&&true))=true then some (.tuple #[get l 6,get l 7])else none:=rfl
theorem c7R(l:List Value)(H:Heap):iC prog Tryz.f52 l H=some (get l 4):=rfl
theorem c4e(l:List Value)(H:Heap):iC prog Tryz.f53 l H=if(jD (get l 8)&&(jD (get l 9)&&true))=true then some (.tuple #[get l 8,get l 9])else none:=rfl
theorem c8h(l:List Value)(H:Heap):iC prog Tryz.f54 l H=some (get l 6):=rfl
theorem c5D(l:List Value)(H:Heap):iC prog Tryz.f56 l H=some (get l 2):=rfl
theorem c3n(l:List Value)(H:Heap):iC prog Tryz.f57 l H=some (get l 4):=rfl
theorem a4j(l:List Value)(H:Heap):iC prog Tryz.f62 l H=some (get l 2):=rfl
theorem b3U(l:List Value)(H:Heap):iC prog Tryz.f63 l H=some (get l 4):=rfl
theorem c0R(l:List Value)(H:Heap):iC prog Tryz.f64 l H=some (get l 4):=rfl
theorem c8T(l:List Value)(H:Heap):iC prog Tryz.f81 l H=some (get l 4):=rfl
theorem c8A(l:List Value)(H:Heap):iC prog Tryz.f84 l H=some (get l 2):=rfl
theorem c5Z(l:List Value)(H:Heap):iC prog Tryz.f92 l H=some (get l 6):=rfl
theorem c8S(l:List Value)(H:Heap):iC prog Tryz.f93 l H=some (get l 6):=rfl
theorem c8j(l:List Value)(H:Heap):iC prog Tryz.f94 l H=some (get l 2):=rfl
theorem c7Q(l:List Value)(H:Heap):iC prog Tryz.f95 l H=some (get l 6):=rfl
theorem c7V(l:List Value)(H:Heap):iC prog Tryz.f96 l H=pF (jT prog 121) (iE prog 121) H (get l 2):=by
 show(Option.bind (Option.bind (lM prog H 121 (get l 2)) fun v=>some [v]) fun vs=>_)=_
 rw[kW]
 cases pF _ _ H (get l 2)<;>rfl
theorem c7U(l:List Value)(H:Heap):iC prog Tryz.f98 l H=some (get l 2):=rfl
theorem c6R(l:List Value)(H:Heap):iC prog Tryz.f99 l H=pF (jT prog 88) (iE prog 88) H (get l 4):=by
 show(Option.bind (Option.bind (lM prog H 88 (get l 4)) fun v=>some [v]) fun vs=>_)=_
 rw[kW]
 cases pF _ _ H (get l 4)<;>rfl
theorem a8O(l:List Value)(H:Heap):iC prog Tryz.f100 l H=some (get l 6):=rfl
theorem c7i(l:List Value)(H:Heap):iC prog Tryz.f101 l H=pF (jT prog 119) (iE prog 119) H (get l 2):=by
 show(Option.bind (Option.bind (lM prog H 119 (get l 2)) fun v=>some [v]) fun vs=>_)=_
 rw[kW]
 cases pF _ _ H (get l 2)<;>rfl
theorem c7a(l:List Value)(H:Heap):iC prog Tryz.f102 l H=pF (jT prog 119) (iE prog 119) H (get l 2):=by
 show(Option.bind (Option.bind (lM prog H 119 (get l 2)) fun v=>some [v]) fun vs=>_)=_
 rw[kW]
 cases pF _ _ H (get l 2)<;>rfl
theorem c4W(l:List Value)(H:Heap):iC prog Tryz.f103 l H=if(jD (get l 4)&&(jD (get l 5)&&true))=true then some (.tuple #[get l 4,get l 5])else none:=rfl
theorem c1H(l:List Value)(H:Heap):iC prog Tryz.f104 l H=some (get l 6):=rfl
theorem a7h(l:List Value)(H:Heap):iC prog Tryz.f105 l H=some (get l 4):=rfl
theorem c7A(l:List Value)(H:Heap):iC prog Tryz.f106 l H=some (get l 4):=rfl
theorem c2n(l:List Value)(H:Heap):iC prog Tryz.f107 l H=some (get l 2):=rfl
theorem c1J(l:List Value)(H:Heap):iC prog Tryz.f108 l H=(pF (jT prog 53) (iE prog 53) H (get l 8)).bind fun v=>if(jD v&&(jD (get l 9)&&true))=true then some (.tuple #[v,get l 9])else none:=by
 show(Option.bind (Option.bind (lM prog H 53 (get l 8)) fun v=>some [v,get l 9]) fun vs=>_)=_
 rw[kW]
 cases pF _ _ H (get l 8)<;>rfl
theorem c6l(l:List Value)(H:Heap):iC prog Tryz.f109 l H=some (get l 4):=rfl
theorem c6c(l:List Value)(H:Heap):iC prog Tryz.f112 l H=some (get l 2):=rfl
theorem a4X(l:List Value)(H:Heap):iC prog Tryz.f113 l H=some (get l 2):=rfl
theorem a2R(l:List Value)(H:Heap):iC prog Tryz.f114 l H=some (get l 2):=rfl
theorem c1O(l:List Value)(H:Heap):iC prog Tryz.f115 l H=some (get l 4):=rfl
theorem a6Z(l:List Value)(H:Heap):iC prog Tryz.f116 l H=some (get l 4):=rfl
theorem sU(l:List Value)(H:Heap):iC prog Tryz.f117 l H=some (get l 4):=rfl
theorem c6J(l:List Value)(H:Heap):iC prog Tryz.f118 l H=(pF (jT prog 88) (iE prog 88) H (get l 2)).bind fun v=>if(jD v&&(jD (get l 3)&&true))=true then some (.tuple #[v,get l 3])else none:=by
 show(Option.bind (Option.bind (lM prog H 88 (get l 2)) fun v=>some [v,get l 3]) fun vs=>_)=_
 rw[kW]
 cases pF _ _ H (get l 2)<;>rfl
theorem c6q(l:List Value)(H:Heap):iC prog Tryz.f119 l H=some (get l 4):=rfl
theorem c2a(l:List Value)(H:Heap):iC prog Tryz.f131 l H=some (get l 4):=rfl
theorem c6I(l:List Value)(H:Heap):iC prog Tryz.f133 l H=some (get l 6):=rfl
theorem c5i(l:List Value)(H:Heap):iC prog Tryz.f134 l H=some (get l 2):=rfl
theorem c5W(l:List Value)(H:Heap):iC prog Tryz.f135 l H=some (get l 2):=rfl
theorem b6S(l:List Value)(H:Heap):iC prog Tryz.f139 l H=some (get l 4):=rfl
theorem c6X(l:List Value)(H:Heap):iC prog Tryz.f140 l H=some (get l 6):=rfl
theorem c4V(l:List Value)(H:Heap):iC prog Tryz.f141 l H=some (get l 6):=rfl
theorem c2r(l:List Value)(H:Heap):iC prog Tryz.f144 l H=some (get l 4):=rfl
theorem c5R(l:List Value)(H:Heap):iC prog Tryz.f145 l H=some (get l 4):=rfl
theorem c2m(l:List Value)(H:Heap):iC prog Tryz.f146 l H=if(jD (get l 6)&&(jD (get l 7)&&true))=true then some (.tuple #[get l 6,get l 7])else none:=rfl
theorem c5k(l:List Value)(H:Heap):iC prog Tryz.f147 l H=some (get l 4):=rfl
theorem c6y(l:List Value)(H:Heap):iC prog Tryz.f148 l H=some (get l 2):=rfl
theorem c6F(l:List Value)(H:Heap):iC prog Tryz.f149 l H=some (get l 6):=rfl
theorem b5r(l:List Value)(H:Heap):iC prog Tryz.f150 l H=some (get l 4):=rfl
theorem a8y(l:List Value)(H:Heap):iC prog Tryz.f151 l H=some (get l 2):=rfl
theorem a7H(l:List Value)(H:Heap):iC prog Tryz.f152 l H=some (get l 2):=rfl
theorem c1W(l:List Value)(H:Heap):iC prog Tryz.f153 l H=some (get l 2):=rfl
theorem c2g(l:List Value)(H:Heap):iC prog Tryz.f154 l H=some (get l 2):=rfl
theorem b2h(l:List Value)(H:Heap):iC prog Tryz.f155 l H=some (get l 2):=rfl
theorem uY(l:List Value)(H:Heap):iC prog Tryz.f156 l H=some (get l 4):=rfl
theorem c6H(l:List Value)(H:Heap):iC prog Tryz.f157 l H=some (get l 4):=rfl
theorem c5f(l:List Value)(H:Heap):iC prog Tryz.f158 l H=some (get l 3):=rfl
theorem c5K(l:List Value)(H:Heap):iC prog Tryz.f159 l H=pF (jT prog 88) (iE prog 88) H (get l 4):=by
 show(Option.bind (Option.bind (lM prog H 88 (get l 4)) fun v=>some [v]) fun vs=>_)=_
 rw[kW]
 cases pF _ _ H (get l 4)<;>rfl
theorem c1U(l:List Value)(H:Heap):iC prog Tryz.f181 l H=pF (jT prog 204) (iE prog 204) H (get l 4):=by
 show(Option.bind (Option.bind (lM prog H 204 (get l 4)) fun v=>some [v]) fun vs=>_)=_
 rw[kW]
 cases pF _ _ H (get l 4)<;>rfl
theorem b1X(l:List Value)(H:Heap):iC prog Tryz.f182 l H=(pF (jT prog 71) (iE prog 71) H (get l 6)).bind fun v=>if(jD v&&(jD (get l 7)&&true))=true then some (.tuple #[v,get l 7])else none:=by
 show(Option.bind (Option.bind (lM prog H 71 (get l 6)) fun v=>some [v,get l 7]) fun vs=>_)=_
 rw[kW]
 cases pF _ _ H (get l 6)<;>rfl
theorem c5t(l:List Value)(H:Heap):iC prog Tryz.f183 l H=some (get l 2):=rfl
theorem c5l(l:List Value)(H:Heap):iC prog Tryz.f184 l H=some (get l 4):=rfl
theorem c6r(l:List Value)(H:Heap):iC prog Tryz.f185 l H=some (.tuple #[]):=rfl
theorem c6n(l:List Value)(H:Heap):iC prog Tryz.f186 l H=some (get l 2):=rfl
theorem b7n(l:List Value)(H:Heap):iC prog Tryz.f189 l H=some (get l 2):=rfl
theorem c2w(l:List Value)(H:Heap):iC prog Tryz.f190 l H=some (.tuple #[]):=rfl
theorem c5w(l:List Value)(H:Heap):iC prog Tryz.f192 l H=some (get l 4):=rfl
theorem b6f(l:List Value)(H:Heap):iC prog Tryz.f193 l H=some (get l 2):=rfl
theorem c7D(l:List Value)(H:Heap):iC prog Tryz.f198 l H=some (get l 6):=rfl
theorem c7z(l:List Value)(H:Heap):iC prog Tryz.f199 l H=some (get l 4):=rfl
theorem a5j(l:List Value)(H:Heap):iC prog Tryz.f200 l H=some (get l 2):=rfl
theorem c6a(l:List Value)(H:Heap):iC prog Tryz.f201 l H=some (get l 4):=rfl
theorem c2d(l:List Value)(H:Heap):iC prog Tryz.f202 l H=some (get l 2):=rfl
theorem b8L(l:List Value)(H:Heap):iC prog Tryz.f203 l H=some (get l 2):=rfl
theorem a3h(l:List Value)(H:Heap):iC prog Tryz.f204 l H=some (get l 4):=rfl
theorem c1V(l:List Value)(H:Heap):iC prog Tryz.f205 l H=some (get l 4):=rfl
theorem c1L(l:List Value)(H:Heap):iC prog Tryz.f216 l H=some (get l 4):=rfl
theorem c2k(l:List Value)(H:Heap):iC prog Tryz.f217 l H=some (get l 3):=rfl
theorem c6u(l:List Value)(H:Heap):iC prog Tryz.f218 l H=some (get l 4):=rfl
theorem c5z(l:List Value)(H:Heap):iC prog Tryz.f230 l H=some (get l 6):=rfl
theorem c6P(l:List Value)(H:Heap):iC prog Tryz.f231 l H=some (get l 6):=rfl
theorem c1G(l:List Value)(H:Heap):iC prog Tryz.f232 l H=some (get l 4):=rfl
theorem c2l(l:List Value)(H:Heap):iC prog Tryz.f233 l H=pF (jT prog 88) (iE prog 88) H (get l 2):=by
 show(Option.bind (Option.bind (lM prog H 88 (get l 2)) fun v=>some [v]) fun vs=>_)=_
 rw[kW]
 cases pF _ _ H (get l 2)<;>rfl
theorem c7H(l:List Value)(H:Heap):iC prog Tryz.f234 l H=some (get l 4):=rfl
theorem c1N(l:List Value)(H:Heap):iC prog Tryz.f235 l H=some (get l 2):=rfl
theorem c1I(l:List Value)(H:Heap):iC prog Tryz.f236 l H=some (get l 4):=rfl
theorem c4Y(l:List Value)(H:Heap):iC prog Tryz.f237 l H=some (get l 4):=rfl
theorem c7x(l:List Value)(H:Heap):iC prog Tryz.f268 l H=some (get l 4):=rfl
theorem c5c(l:List Value)(H:Heap):iC prog Tryz.f269 l H=some (get l 6):=rfl
theorem c2A(l:List Value)(H:Heap):iC prog Tryz.f270 l H=some (get l 4):=rfl
theorem c2s(l:List Value)(H:Heap):iC prog Tryz.f271 l H=some (get l 4):=rfl
theorem c5h(l:List Value)(H:Heap):iC prog Tryz.f287 l H=some (.tuple #[]):=rfl
theorem b2r(l:List Value)(H:Heap):iC prog Tryz.f288 l H=some (get l 4):=rfl
theorem a8Z:MapK prog 221 Value.string (.bool false):=MapK.str (kt:=9) (et:=4) (by kernel_rfl) (by kernel_rfl) (by kernel_rfl) rfl
theorem a8b:MapK prog 304 (fun p:Int×Int=>.agg #[I p.1,I p.2]) (.bool false):=MapK.struct (kt:=53) (et:=4) (fs:=(a1f prog 53).toArray) (by kernel_rfl) (by kernel_rfl) (by kernel_rfl) rfl (fun b k=>by cases b<;>kernel_rfl) (fun a b=>c4r (by kernel_rfl) (by kernel_rfl) (by kernel_rfl) (fun _ _ _ _=>by kernel_rfl) a b) (fun k=>c3d k)
theorem tt0:jT prog 3=some false∧jT prog 4=some false∧iE prog 4=some 1∧jT prog 5=some false∧iE prog 5=some 1∧jT prog 9=some false∧iE prog 9=some 1∧jT prog 22=some false∧iE prog 22=some 1∧jT prog 23=some false∧iE prog 23=some 1∧jT prog 24=some false∧iE prog 24=some 1∧jT prog 26=some true∧jT prog 27=some true∧jT prog 28=some true∧jT prog 31=some false∧jT prog 32=some false∧jT prog 33=some false∧jT prog 35=some true∧jT prog 37=some false∧jT prog 38=some false∧jT prog 40=some true∧jT prog 43=some false∧iE prog 43=some 1∧jT prog 45=some false∧iE prog 45=some 1∧jT prog 46=some true∧jT prog 48=some true∧jT prog 49=some false∧jT prog 51=some true∧jT prog 53=some true∧jT prog 62=some false∧jT prog 71=some true∧jT prog 88=some true∧jT prog 119=some true∧jT prog 121=some true∧jT prog 129=some false∧iE prog 129=some 1∧jT prog 131=some true:=by and_intros<;>kernel_rfl
theorem tt1:jT prog 133=some false∧iE prog 133=some 1∧jT prog 135=some true∧jT prog 137=some false∧jT prog 139=some true∧jT prog 142=some true∧jT prog 144=some true∧jT prog 146=some true∧jT prog 167=some false∧jT prog 201=some true∧jT prog 202=some false∧iE prog 202=some 1∧jT prog 204=some true∧jT prog 276=some true∧jT prog 304=some false∧iR prog 22=some 9∧iR prog 23=some 4∧iR prog 24=some 4∧iR prog 31=some 6∧iR prog 32=some 5∧iR prog 33=some 5∧iR prog 37=some 1∧iR prog 43=some 2∧iR prog 49=some 4∧iR prog 112=some 2∧iR prog 129=some 4∧iR prog 136=some 1∧iR prog 137=some 3∧iR prog 157=some 1∧iR prog 158=some 2∧iR prog 167=some 2∧iR prog 197=some 3∧iR prog 202=some 2∧iR prog 262=some 1∧iR prog 263=some 2∧lS prog 31=true∧lS prog 32=true∧lS prog 33=true∧lS prog 37=true∧lS prog 43=true:=by and_intros<;>kernel_rfl
theorem tt2:lS prog 49=true∧lS prog 62=true∧lS prog 112=true∧lS prog 136=true∧lS prog 137=true∧lS prog 157=true∧lS prog 158=true∧lS prog 167=true∧lS prog 197=true∧lS prog 202=true∧lS prog 263=true∧iR prog 9=none∧oP prog 9=true∧iW prog 26 0=some 0∧iW prog 26 1=some 1∧iW prog 26 2=some 2∧iW prog 35 0=some 0∧iW prog 35 1=some 1∧iW prog 35 2=some 2∧iW prog 35 3=some 3∧iW prog 40 0=some 0∧iW prog 40 1=some 1∧iW prog 40 2=some 2∧iW prog 48 0=some 0∧iW prog 48 1=some 1∧iW prog 51 0=some 0∧iW prog 51 2=some 2∧iW prog 51 3=some 4∧iW prog 53 0=some 0∧iW prog 53 1=some 1∧iW prog 71 0=some 0∧iW prog 71 1=some 1∧iW prog 88 0=some 0∧iW prog 88 1=some 1∧iW prog 119 0=some 0∧iW prog 119 1=some 1∧iW prog 121 0=some 0∧iW prog 121 1=some 1∧iW prog 121 2=some 2∧iW prog 121 3=some 4:=by and_intros<;>kernel_rfl
theorem tt3:iW prog 121 4=some 5∧iW prog 131 0=some 0∧iW prog 131 1=some 1∧iW prog 131 2=some 2∧iW prog 131 3=some 3∧iW prog 135 0=some 0∧iW prog 135 1=some 1∧iW prog 135 2=some 2∧iW prog 135 3=some 3∧iW prog 135 4=some 4∧iW prog 139 0=some 0∧iW prog 139 1=some 1∧iW prog 139 2=some 3∧iW prog 142 0=some 0∧iW prog 142 1=some 1∧iW prog 142 2=some 2∧iW prog 142 3=some 3∧iW prog 144 0=some 0∧iW prog 144 1=some 1∧iW prog 144 2=some 2∧iW prog 144 3=some 3∧iW prog 146 0=some 0∧iW prog 146 1=some 1∧iW prog 146 2=some 2∧iW prog 146 3=some 3∧iW prog 146 4=some 4∧iW prog 201 0=some 0∧iW prog 201 1=some 1∧iW prog 204 0=some 0∧iW prog 204 1=some 1∧iW prog 204 2=some 2∧iW prog 276 0=some 0∧iW prog 276 1=some 1∧jA prog 35=some (.agg #[.string ⟨#[]⟩,.slice none 0 0,.slice none 0 0,.slice none 0 0])∧jU prog 35=none∧jA prog 40=some (.agg #[.slice none 0 0,.int .u64 0,.int .u64 0])∧jU prog 40=none∧jA prog 48=some (.agg #[.int .i64 0,.int .i64 0])∧jU prog 48=none∧jA prog 51=some (.agg #[.string ⟨#[]⟩,.bool false,.int .i64 0,.int .i64 0,.slice none 0 0]):=by and_intros<;>kernel_rfl
theorem tt4:jU prog 51=none∧jA prog 53=some (.agg #[.int .i64 0,.int .i64 0])∧jU prog 53=none∧jA prog 71=some (.agg #[.int .i64 0,.int .i64 0])∧jU prog 71=none∧jA prog 88=some (.agg #[.int .u64 0,.int .u64 0])∧jU prog 88=none∧jA prog 119=some (.agg #[.int .i64 0,.int .i64 0])∧jU prog 119=none∧jA prog 121=some (.agg #[.string ⟨#[]⟩,.string ⟨#[]⟩,.int .i64 0,.int .i64 0,.int .i64 0,.slice none 0 0])∧jU prog 121=none∧jA prog 131=some (.agg #[.int .u8 0,.int .u8 0,.bool false,.slice none 0 0])∧jU prog 131=none∧jA prog 139=some (.agg #[.string ⟨#[]⟩,.int .i64 0,.int .i64 0,.slice none 0 0])∧jU prog 139=none∧jA prog 144=some (.agg #[.int .u8 0,.int .u8 0,.int .i8 0,.bool false])∧jU prog 144=none∧jA prog 146=some (.agg #[.string ⟨#[]⟩,.int .i64 0,.int .i64 0,.int .i64 0,.bool false])∧jU prog 146=none∧jA prog 167=some (.slice none 0 0)∧jU prog 167=none∧jA prog 201=some (.agg #[.int .i64 0,.int .i64 0])∧jU prog 201=none∧jA prog 204=some (.agg #[.int .i64 0,.int .i64 0,.slice none 0 0])∧jU prog 204=none∧jA prog 304=some (.map none)∧jU prog 304=none∧a0X prog 3=some .i64∧a0X prog 5=some .u8∧a0X prog 38=some .u64∧a0X prog 45=some .u16∧a0X prog 79=some .u64∧a0X prog 133=some .i8:=by and_intros<;>kernel_rfl
def TS:=(And.intro (And.intro (And.intro (And.intro (And.intro @tt0 (And.intro @tt1 @tt2)) (And.intro @tt3 (And.intro @tt4 @tS3))) (And.intro (And.intro @b9P (And.intro @c4f @c5H)) (And.intro @c7q (And.intro @c7c @c0w)))) (And.intro (And.intro (And.intro @lP (And.intro @c5M @c3X)) (And.intro @mK (And.intro @c7n @yT))) (And.intro (And.intro @c6D (And.intro @xB @kY)) (And.intro (And.intro @b4E @rM) (And.intro @nB @sN))))) (And.intro (And.intro (And.intro (And.intro @uP (And.intro @b2v @b5Z)) (And.intro @xM (And.intro @oK @b5J))) (And.intro (And.intro @b2t (And.intro @uN @a2Z)) (And.intro (And.intro @xE @yX) (And.intro @b2O @b6I)))) (And.intro (And.intro (And.intro @c3z (And.intro @c8C @c8u)) (And.intro @c8g (And.intro @c6C @c5U))) (And.intro (And.intro @c5e (And.intro @c6Q @c6b)) (And.intro (And.intro @c5v @c5B) (And.intro @c3C @c3K))))))
def RZ:=And.intro @RB (And.intro @RC @TS)
end Go.Ds
namespace Go.Ds
open Go.Proofs
variable {P:Program} {H:Heap}
structure Drw where
 rank:Int
 shift:Int
 deriving DecidableEq,Inhabited
structure Seg where
 lo:Int
 hi:Int
 dv:Value
 draws:List Drw
 deriving Inhabited
structure Stp where
 name:ByteArray
 num:Int
 den:Int
 gv:Value
 segs:List Seg
 deriving Inhabited
structure Dvn where
 name:ByteArray
 pedal:Bool
 lo:Int
 hi:Int
 sv:Value
 stops:List Stp
 deriving Inhabited
structure Rk where
 name:ByteArray
 tone:ByteArray
 num:Int
 den:Int
 first:Int
 wv:Value
 wind:List Int
 deriving Inhabited
structure Cpl where
 name:ByteArray
 src:Int
 dst:Int
 shift:Int
 thr:Bool
 deriving Inhabited
structure Org where
 name:ByteArray
 rv:Value
 ranks:List Rk
 dv:Value
 dvs:List Dvn
 cv:Value
 cpls:List Cpl
 deriving Inhabited
def Drw.cells(d:Drw):List Value:=[I d.rank,I d.shift]
def Seg.cells(s:Seg):List Value:=[I s.lo,I s.hi,s.dv]
def Stp.cells(s:Stp):List Value:=[.string s.name,I s.num,I s.den,s.gv]
def Dvn.cells(d:Dvn):List Value:=[.string d.name,.bool d.pedal,I d.lo,I d.hi,d.sv]
def Rk.cells(r:Rk):List Value:=[.string r.name,.string r.tone,I r.num,I r.den,I r.first,r.wv]
def Cpl.cells(c:Cpl):List Value:=[.string c.name,I c.src,I c.dst,I c.shift,.bool c.thr]
def Org.cells(o:Org):List Value:=[.string o.name,o.rv,o.dv,o.cv]
def Seg.In(H:Heap)(s:Seg):Prop:=Sl 2 Drw.cells H s.dv s.draws∧s.draws.length<1000000000
def Stp.In(H:Heap)(s:Stp):Prop:=Sl 3 Seg.cells H s.gv s.segs∧(∀g∈s.segs,g.In H)∧s.segs.length<1000000000
def Dvn.In(H:Heap)(d:Dvn):Prop:=Sl 4 Stp.cells H d.sv d.stops∧(∀s∈d.stops,s.In H)∧d.stops.length<1000000000
def Rk.In(H:Heap)(r:Rk):Prop:=Sl 1 (one I) H r.wv r.wind∧r.wind.length<1000000000
def Org.In(H:Heap)(o:Org):Prop:=Sl 6 Rk.cells H o.rv o.ranks∧(∀r∈o.ranks,r.In H)∧Sl 5 Dvn.cells H o.dv o.dvs∧(∀d∈o.dvs,d.In H)∧Sl 5 Cpl.cells H o.cv o.cpls∧o.ranks.length<1000000000∧o.dvs.length<1000000000∧o.cpls.length<1000000000
section
variable {H0:Heap} {os:List Ob}
theorem Seg.In.ag{s:Seg}(h:s.In H0)(hS:St P H0 H os):s.In H:=⟨hS.sl h.1,h.2⟩
theorem Stp.In.ag{s:Stp}(h:s.In H0)(hS:St P H0 H os):s.In H:=⟨hS.sl h.1,fun g hg=>(h.2.1 g hg).ag hS,h.2.2⟩
theorem Dvn.In.ag{d:Dvn}(h:d.In H0)(hS:St P H0 H os):d.In H:=⟨hS.sl h.1,fun g hg=>(h.2.1 g hg).ag hS,h.2.2⟩
theorem Rk.In.ag{r:Rk}(h:r.In H0)(hS:St P H0 H os):r.In H:=⟨hS.sl h.1,h.2⟩
theorem Org.In.ag{o:Org}(h:o.In H0)(hS:St P H0 H os):o.In H:=⟨hS.sl h.1,fun r hr=>(h.2.1 r hr).ag hS,hS.sl h.2.2.1,fun d hd=>(h.2.2.2.1 d hd).ag hS,hS.sl h.2.2.2.2.1,h.2.2.2.2.2⟩
end
def c5r(n:Int):Prop:=-9223372036854775808≤n∧n<9223372036854775808
end Go.Ds
namespace Go.Ds
open Go.Proofs Go.Proofs.Tryz
variable {H:Heap}
def qQ(b:Int):Bool:=(decide (65≤b)&&decide (b≤90))||(decide (97≤b)&&decide (b≤122))
theorem a4W(b:Int):Fn prog 151 [.int .u8 b] H fun r H'=>r=.bool (qQ b)∧St prog H H' []:=by
 refine .aR func151 rfl (by kernel_rfl) (m:=17) rfl fun l hn g0=> ?_
 simp(disch:=omega) only[↓RA,RZ,simprocAttr,hn,g0]
 refine jH (fun h1=> ?_) (fun h1=> ?_)
 ·simp(disch:=omega) only[↓RA,RZ,simprocAttr,hn,g0,h1]
  refine iL (fun h2=> ?_) (fun h2=> ?_)
  ·simp(disch:=omega) only[↓RA,RZ,simprocAttr,hn,a8y,h1,h2]
   first|exact(sR H)|exact⟨by simp[qQ,h1,h2],(sR H)⟩
  simp(disch:=omega) only[↓RA,RZ,simprocAttr,hn,g0,h1,h2]
  refine jH (fun h3=> ?_) (fun h3=> ?_)
  ·simp(disch:=omega) only[↓RA,RZ,simprocAttr,hn,g0,a8y,h1,h2,h3]
   first|exact(sR H)|exact⟨by simp[qQ,h1,h2,h3],(sR H)⟩
  simp(disch:=omega) only[↓RA,RZ,simprocAttr,hn,a8y,h1,h2,h3]
  first|exact(sR H)|exact⟨by simp[qQ,h1,h2,h3],(sR H)⟩
 simp(disch:=omega) only[↓RA,RZ,simprocAttr,hn,g0,h1]
 refine jH (fun h4=> ?_) (fun h4=> ?_)
 ·simp(disch:=omega) only[↓RA,RZ,simprocAttr,hn,g0,a8y,h1,h4]
  first|exact(sR H)|exact⟨by simp[qQ,h1,h4],(sR H)⟩
 simp(disch:=omega) only[↓RA,RZ,simprocAttr,hn,a8y,h1,h4]
 first|exact(sR H)|exact⟨by simp[qQ,h1,h4],(sR H)⟩
theorem b6P(b:Int):Fn prog 153 [I b] H fun r H'=>r=.bool (decide (-256≤b)&&decide (b≤256))∧St prog H H' []:=by
 refine .aR func153 rfl (by kernel_rfl) (m:=9) rfl fun l hn g0=> ?_
 simp(disch:=omega) only[↓RA,RZ,simprocAttr,hn,g0]
 refine jH (fun h1=> ?_) (fun h1=> ?_)
 ·simp(disch:=omega) only[↓RA,RZ,simprocAttr,hn,g0,c1W,h1]
  first|exact(sR H)|exact⟨by simp[h1],(sR H)⟩
 simp(disch:=omega) only[↓RA,RZ,simprocAttr,hn,c1W,h1]
 first|exact(sR H)|exact⟨by simp[],(sR H)⟩
theorem b8t(b:Int):Fn prog 202 [I b] H fun r H'=>r=.bool (decide (b<0)||decide (1000000<b))∧St prog H H' []:=by
 refine .aR func202 rfl (by kernel_rfl) (m:=9) rfl fun l hn g0=> ?_
 simp(disch:=omega) only[↓RA,RZ,simprocAttr,hn,g0]
 refine iL (fun h1=> ?_) (fun h1=> ?_)
 ·simp(disch:=omega) only[↓RA,RZ,simprocAttr,hn,c2d,h1]
  first|exact(sR H)|exact⟨by simp[],(sR H)⟩
 simp(disch:=omega) only[↓RA,RZ,simprocAttr,hn,g0,c2d,h1]
 first|exact(sR H)|exact⟨by simp[],(sR H)⟩
theorem a6n(n:Int)(h: -9223372036854775808≤n)(h0:n<0):IntKind.wrap .u64 (0-IntKind.wrap .u64 n)=n.natAbs:=by
 have e:∀m:Int,IntKind.wrap .u64 m=m%18446744073709551616:=fun m=>by
  show(if(false&&decide (m%18446744073709551616≥9223372036854775808))=true then m%18446744073709551616-18446744073709551616 else m%18446744073709551616)=_
  simp
 rw[e,e]
 omega
theorem a6j(n:Int)(hn0:c5r n):Fn prog 235 [I n] H fun r H'=>r=.int .u64 n.natAbs∧St prog H H' []:=by
 refine .aR func235 rfl (by kernel_rfl) (m:=10) rfl fun l hn g0=> ?_
 simp(disch:=omega) only[↓RA,RB,simprocAttr,hn,g0]
 refine iA (fun h=> ?_) (fun h=> ?_)
 ·simp(disch:=omega) only[↓RA,RZ,simprocAttr,hn,g0,c1N,h]
  exact⟨by rw[a6n n hn0.1 h],(sR H)⟩
 simp(disch:=omega) only[↓RA,RZ,simprocAttr,hn,g0,c1N,h]
 refine⟨?_,(sR H)⟩
 have:=hn0.2
 rw[mX n (by omega) (by omega)]
 congr 1
 omega
theorem c4v(a b:Nat)(ha:a<18446744073709551616)(hb:b<18446744073709551616):Fn prog 234 [.int .u64 a,.int .u64 b] H fun r H'=>r=.int .u64 (Nat.gcd a b)∧St prog H H' []:=by
 refine .aI func234 rfl (by kernel_rfl) (m:=12) rfl fun l hn g0 g1=> ?_
 simp(disch:=omega) only[↓RA,RB,simprocAttr]
 refine Wp.aq (fun n l H'=>l.length=12∧get l 4=(.int .u64 0)∧∃(x y:Nat),(n=y∧x<18446744073709551616∧y<18446744073709551616∧Nat.gcd a b=Nat.gcd x y)∧get l 0=(.int .u64 x)∧get l 1=(.int .u64 y)∧St prog H H' []) b ?_ ?_
 ·simp(disch:=omega) only[RB,RC,simprocAttr,hn,g0,g1]
  exact⟨a,b,⟨rfl,ha,hb,rfl⟩,rfl,rfl,(sR H)⟩
 rintro n l H1⟨hn,g4,x,y,⟨hy,hx1,hy1,hg⟩,g0,g1,hS1⟩
 simp(disch:=omega) only[↓RA,RB,simprocAttr,hn,g1]
 refine iA (fun h=> ?_) (fun h=> ?_)
 ·simp(disch:=omega) only[↓RA,RC,simprocAttr,h]
  refine Wp.drw jZ (by kernel_rfl) ?_
  simp(disch:=omega) only[↓RA,RZ,simprocAttr,hn,g4,g0,g1]
  refine⟨x%y,?_,y,x%y,⟨rfl,hy1,?_,?_⟩,rfl,?_,hS1⟩
  ·rw[hy];exact eU _ (by omega)
  ·exact dP (eU _ (by omega)) (by omega)
  ·rw[hg,Nat.gcd_comm x y,Nat.gcd_rec]
   exact Nat.gcd_comm _ _
  ·rw[ey]
 simp(disch:=omega) only[↓RA,RZ,simprocAttr,hn,g0,c7H,h]
 have h0:y=0:=by omega
 subst h0
 exact⟨by rw[hg,Nat.gcd_zero_right],hS1⟩
theorem c0a(a b:Int)(ha0:0≤a)(ha:a<18446744073709551616)(hb0:0≤b)(hb:b<18446744073709551616):Fn prog 234 [.int .u64 a,.int .u64 b] H fun r H'=>r=.int .u64 (Nat.gcd a.toNat b.toNat)∧St prog H H' []:=by
 have:=c4v (H:=H) a.toNat b.toNat (by omega) (by omega)
 rwa [fO ha0,fO hb0]at this
def xH(num den:Int):Int:=if 0<den∧den≤1000000∧-1000000≤num∧num≤1000000∧Nat.gcd num.natAbs den.toNat=1 then 0 else 2
theorem c0c(num den:Int):Fn prog 200 [.agg #[I num,I den]] H fun r H'=>r=I (xH num den)∧St prog H H' []:=by
 refine .aR func200 rfl (by kernel_rfl) (m:=31) rfl fun l hn g0=> ?_
 simp(disch:=omega) only[↓RA,RB,simprocAttr,g0]
 refine(sR H).eNew 2 [I num,I den] rfl rfl rfl sN fun A1 H1 hS1=> ?_
 simp only[RT]at hS1
 simp(disch:=omega) only[↓RA,RB,simprocAttr]
 refine Wp.aO jZ [(23,0),(24,0)] (by kernel_rfl) (by kernel_rfl) ?_
 simp(disch:=omega) only[↓RA,RZ,simprocAttr,hn,hS1.ld 0 rfl]
 refine iL (fun h1=> ?_) (fun h1=> ?_)
 ·simp(disch:=omega) only[↓RA,RZ,simprocAttr,hn,a5j,h1]
  refine⟨?_,hS1.forget⟩;unfold xH;(repeat' split);all_goals first|rfl|omega
 simp(disch:=omega) only[↓RA,RZ,simprocAttr,hn,hS1.ld 0 rfl,h1]
 refine iL (fun h2=> ?_) (fun h2=> ?_)
 ·simp(disch:=omega) only[↓RA,RZ,simprocAttr,hn,a5j,h1,h2]
  refine⟨?_,hS1.forget⟩;unfold xH;(repeat' split);all_goals first|rfl|omega
 simp(disch:=omega) only[↓RA,RZ,simprocAttr,hn,hS1.ld 0 rfl,h1,h2]
 refine iL (fun h3=> ?_) (fun h3=> ?_)
 ·simp(disch:=omega) only[↓RA,RZ,simprocAttr,hn,a5j,h1,h2,h3]
  refine⟨?_,hS1.forget⟩;unfold xH;(repeat' split);all_goals first|rfl|omega
 simp(disch:=omega) only[↓RA,RZ,simprocAttr,hn,hS1.ld 0 rfl,h1,h2,h3]
 refine iL (fun h4=> ?_) (fun h4=> ?_)
 ·simp(disch:=omega) only[↓RA,RZ,simprocAttr,hn,a5j,h1,h2,h3,h4]
  refine⟨?_,hS1.forget⟩;unfold xH;(repeat' split);all_goals first|rfl|omega
 simp(disch:=omega) only[↓RA,RZ,simprocAttr,hn,hS1.ld 0 rfl,h1,h2,h3,h4]
 refine hS1.cF (a6j num ⟨by omega,by omega⟩) fun H2 hS2=> ?_
 simp(disch:=omega) only[↓RA,RZ,simprocAttr,hn,hS2.ld 0 rfl,h1,h2,h3,h4]
 refine hS2.cF (c0a _ _ (by omega) (by omega) (by omega) (by omega)) fun H3 hS3=> ?_
 simp(disch:=omega) only[↓RA,RZ,simprocAttr,hn,hS1.ld 0 rfl,h1,h2,h3,h4]
 refine iA (fun h5=> ?_) (fun h5=> ?_)
 ·simp(disch:=omega) only[↓RA,RZ,simprocAttr,hn,a5j,h1,h2,h3,h4,h5]
  refine⟨?_,hS3.forget⟩;unfold xH;(repeat' split);all_goals first|rfl|omega
 simp(disch:=omega) only[↓RA,RZ,simprocAttr,hn,a5j,h1,h2,h3,h4,h5]
 refine⟨?_,hS3.forget⟩;unfold xH;(repeat' split);all_goals first|rfl|omega
def nW(num den:Int):Int:=if xH num den≠0 then 2 else if num≤0∨128*den<num then 3 else if 128<den then 4 else 0
theorem b8z{num den:Int}(h:xH num den=0):0<den∧den≤1000000∧-1000000≤num∧num≤1000000∧Nat.gcd num.natAbs den.toNat=1:=by
 unfold xH at h
 split at h
 ·assumption
 ·cases h
theorem a1S(num den:Int):Fn prog 152 [.agg #[I num,I den]] H fun r H'=>r=I (nW num den)∧St prog H H' []:=by
 refine .aR func152 rfl (by kernel_rfl) (m:=23) rfl fun l hn g0=> ?_
 simp(disch:=omega) only[↓RA,RB,simprocAttr,g0]
 refine(sR H).eNew 2 [I num,I den] rfl rfl rfl sN fun A1 H1 hS1=> ?_
 simp only[RT]at hS1
 simp(disch:=omega) only[↓RA,RZ,simprocAttr,hn,hS1.ai 0 rfl]
 refine hS1.cF (c0c num den) fun H2 hS2=> ?_
 simp(disch:=omega) only[↓RA,RB,simprocAttr,hn]
 refine iA (fun h=> ?_) (fun h=> ?_)
 ·simp(disch:=omega) only[↓RA,RZ,simprocAttr,hn,a7H,h]
  exact⟨by rw[nW,if_pos h],hS2.forget⟩
 have hf:=b8z (dy.1 h)
 simp(disch:=omega) only[↓RA,RZ,simprocAttr,hn,hS2.ld 0 rfl,h]
 refine iL (fun h1=> ?_) (fun h1=> ?_)
 ·simp(disch:=omega) only[↓RA,RZ,simprocAttr,hn,a7H,h,h1]
  refine⟨?_,hS2.forget⟩;unfold nW;(repeat' split);all_goals first|rfl|omega
 simp(disch:=omega) only[↓RA,RZ,simprocAttr,hn,hS2.ld 0 rfl,h,h1]
 refine iA (fun h2=> ?_) (fun h2=> ?_)
 ·simp(disch:=omega) only[↓RA,RZ,simprocAttr,hn,a7H,h,h1,h2]
  refine⟨?_,hS2.forget⟩;unfold nW;(repeat' split);all_goals first|rfl|omega
 simp(disch:=omega) only[↓RA,RZ,simprocAttr,hn,hS2.ld 0 rfl,h,h1,h2]
 refine iA (fun h3=> ?_) (fun h3=> ?_)
 ·simp(disch:=omega) only[↓RA,RZ,simprocAttr,hn,a7H,h,h1,h2,h3]
  refine⟨?_,hS2.forget⟩;unfold nW;(repeat' split);all_goals first|rfl|omega
 simp(disch:=omega) only[↓RA,RZ,simprocAttr,hn,a7H,h,h1,h2,h3]
 refine⟨?_,hS2.forget⟩;unfold nW;(repeat' split);all_goals first|rfl|omega
def pU(p:Nat→Bool)(n:Nat):Int:=match (List.range n).find? p with|some j=>j|none=>-1
theorem xL(p:Nat→Bool)(n i:Nat)(hi:i<n)(hp:p i=true)(h0:∀j,j<i→p j=false):(List.range n).find? p=some i:=by
 rw[List.find?_eq_some_iff_getElem]
 refine⟨hp,i,by simpa using hi,by simp,fun j hj=>by simp[h0 j hj]⟩
theorem yU(p:Nat→Bool)(n i:Nat)(hi:i<n)(hp:p i=true)(h0:∀j,j<i→p j=false):pU p n=i:=by
 unfold pU
 rw[xL p n i hi hp h0]
theorem zT(p:Nat→Bool)(n:Nat)(h0:∀j,j<n→p j=false):pU p n=-1:=by
 unfold pU
 have:(List.range n).find? p=none:=by
  rw[gu]
  intro j hj
  simp[h0 j (dx.1 hj)]
 rw[this]
theorem zB(p:Nat→Bool)(n:Nat):(0≤pU p n)↔∃j,j<n∧p j=true:=by
 unfold pU
 cases h:(List.range n).find? p with
 | none=>
   rw[gu]at h
   simp only[dx]at h
   constructor
   ·intro hh;exact absurd hh (by decide)
   ·rintro⟨j,hj,hp⟩;exact absurd hp (h j hj)
 | some j=>
   constructor
   ·intro _
    exact⟨j,dx.1 (gP h),List.find?_some h⟩
   ·intro _;show(0:Int)≤(j:Int);omega
theorem c1p(v:Value)(xs:List Int)(hv:Sl 1 (one I) H v xs)(hl:xs.length<1000000000)(k:FuncId)(caps:List Value)(p:Nat→Bool)
 (hf:∀j H1,j<xs.length→St prog H H1 []→Fn prog k (I (iB xs j)::caps) H1 fun r H2=>r=.bool (p j)∧St prog H1 H2 []):
 Fn prog 236 [v,.func (.func k) #[] caps.toArray] H fun r H'=>r=I (pU p xs.length)∧St prog H H' []:=by
 refine .aI func236 rfl (by kernel_rfl) (m:=19) rfl fun l hn g0 g1=> ?_
 simp(disch:=omega) only[↓RA,RZ,simprocAttr,hn,g0,((sR H).sl hv).len]
 refine Wp.aq (fun n l H'=>l.length=19∧get l 0=v∧get l 1=.func (.func k) #[] caps.toArray∧get l 7=I xs.length∧∃(j:Nat),(n+j=xs.length∧∀q,q<j→p q=false)∧get l 8=I j∧St prog H H' []) xs.length ?_ ?_
 ·simp(disch:=omega) only[RB,RC,simprocAttr,hn,g0,g1]
  exact⟨0,⟨by omega,fun q hq=>absurd hq (dM _)⟩,rfl,(sR H)⟩
 rintro n l H1⟨hn,g0,g1,g7,j,⟨hi,h0⟩,g8,hS1⟩
 simp(disch:=omega) only[↓RA,RB,simprocAttr,hn,g7,g8]
 refine iA (fun h=> ?_) (fun h=> ?_)
 ·simp(disch:=omega) only[↓RA,RZ,simprocAttr,hn,g0,g1,g8,(hS1.sl hv).idx,(hS1.sl hv).ld,one,h]
  refine hS1.cF (hf j _ (by omega) hS1) fun H2 hS2=> ?_
  simp(disch:=omega) only[↓RA,RZ,simprocAttr,hn,h]
  refine jO (fun hp=> ?_) (fun hp=> ?_)
  ·simp(disch:=omega) only[↓RA,RZ,simprocAttr,hn,c1I,h,hp]
   exact⟨by rw[yU p xs.length j (by omega) hp h0],hS2⟩
  simp(disch:=omega) only[↓RA,RZ,simprocAttr,hn,g0,g1,g7,g8,h,hp]
  exact⟨n-1,by omega,j+1,⟨by omega,fun q hq=>by rcases dw.1 hq with e|e;(· exact h0 q e);(· rw[e];exact hp)⟩,by simp,hS2⟩
 simp(disch:=omega) only[↓RA,RZ,simprocAttr,hn,c1I,h]
 exact⟨by rw[zT p xs.length fun q hq=>h0 q (by omega)],hS1⟩
theorem c0L(v:Value)(xs:List Int)(hv:Sl 1 (one I) H v xs)(hl:xs.length<1000000000)(k:FuncId)(caps:List Value)(p:Nat→Bool)
 (hf:∀j H1,j<xs.length→St prog H H1 []→Fn prog k (I (iB xs j)::caps) H1 fun r H2=>r=.bool (p j)∧St prog H1 H2 []):
 Fn prog 201 [v,.func (.func k) #[] caps.toArray] H fun r H'=>r=.bool (decide (0≤pU p xs.length))∧St prog H H' []:=by
 refine .aI func201 rfl (by kernel_rfl) (m:=9) rfl fun l hn g0 g1=> ?_
 simp(disch:=omega) only[↓RA,RZ,simprocAttr,hn,g0,g1]
 refine(sR H).cF (c1p v xs hv hl k caps p hf) fun H1 hS1=> ?_
 simp(disch:=omega) only[↓RA,RZ,simprocAttr,hn,c6a]
 first|exact hS1|exact⟨rfl,hS1⟩
def xX(xs:List Int):Int:=if xs.any fun w=>decide (w<0)||decide (1000000<w)then 3 else 0
theorem b5s(v:Value)(xs:List Int)(hv:Sl 1 (one I) H v xs)(hl:xs.length<1000000000):Fn prog 154 [v] H fun r H'=>r=I (xX xs)∧St prog H H' []:=by
 have key:(0≤pU (fun j=>decide (iB xs j<0)||decide (1000000<iB xs j)) xs.length)↔(xs.any fun w=>decide (w<0)||decide (1000000<w))=true:=by
  rw[zB,gm]
  constructor
  ·rintro⟨j,hj,hp⟩;exact⟨_,iD hj,hp⟩
  ·rintro⟨x,hx,hp⟩
   obtain⟨j,hj,rfl⟩:=dL.1 hx
   exact⟨j,hj,by rw[jM xs j hj];exact hp⟩
 refine .aR func154 rfl (by kernel_rfl) (m:=5) rfl fun l hn g0=> ?_
 simp(disch:=omega) only[↓RA,RZ,simprocAttr,hn,g0]
 refine(sR H).cF (c0L v xs hv hl 202 [] _ (fun j H1 hj hS=>b8t (iB xs j))) fun H1 hS1=> ?_
 simp(disch:=omega) only[↓RA,RB,simprocAttr,hn]
 refine iA (fun h=> ?_) (fun h=> ?_)
 ·simp(disch:=omega) only[↓RA,RZ,simprocAttr,hn,c2g,h]
  exact⟨by rw[xX,if_pos (key.1 h)],hS1⟩
 simp(disch:=omega) only[↓RA,RZ,simprocAttr,hn,c2g,h]
 exact⟨by rw[xX,if_neg (fun hh=>h (key.2 hh))],hS1⟩
def ncF(b:Int):Bool:=qQ b||(decide (48≤b)&&decide (b≤57))||decide (b=95)
def lB(s:ByteArray):Bool:=decide (0<s.size)&&decide (s.size≤32)&&qQ (oT s 0)&&(List.range (s.size-1)).all fun j=>ncF (oT s (j+1))
theorem c7w(s z:ByteArray)(hz:z.size=0):s=z↔s.size=0:=⟨fun h=>by rw[h,hz],fun h=>by
 apply a1A
 have h1:s.data.toList=[]:=fj (by simpa using h)
 have h2:z.data.toList=[]:=fj (by simpa using hz)
 rw[h1,h2]⟩
theorem qY(s:ByteArray):Fn prog 113 [.string s] H fun r H'=>r=.bool (lB s)∧St prog H H' []:=by
 have hz:=c7w s {data:=#[]} rfl
 refine .aR func113 rfl (by kernel_rfl) (m:=42) rfl fun l hn g0=> ?_
 simp(disch:=omega) only[↓RA,RZ,simprocAttr,hn,g0,hz]
 refine iL (fun h1=> ?_) (fun h1=> ?_)
 ·simp(disch:=omega) only[↓RA,RZ,simprocAttr,hn,a4X,h1]
  first|exact(sR H)|exact⟨by simp[lB,h1],(sR H)⟩
 simp(disch:=omega) only[↓RA,RZ,simprocAttr,hn,g0,h1]
 refine iL (fun h2=> ?_) (fun h2=> ?_)
 ·simp(disch:=omega) only[↓RA,RZ,simprocAttr,hn,a4X,h1,h2]
  first|exact(sR H)|exact⟨by simp[lB,show¬s.size≤32 by omega],(sR H)⟩
 simp(disch:=omega) only[↓RA,RZ,simprocAttr,hn,g0,h1,h2]
 refine(sR H).cF (a4W _) fun H1 hS1=> ?_
 simp(disch:=omega) only[↓RA,RZ,simprocAttr,hn,h1,h2]
 refine jO (fun h3=> ?_) (fun h3=> ?_)
 ·simp(disch:=omega) only[↓RA,RZ,simprocAttr,hn,a4X,h1,h2,h3]
  first|exact hS1|exact⟨by simp at h3;simp[lB,h3],hS1⟩
 simp(disch:=omega) only[↓RA,RZ,simprocAttr,h1,h2,h3]
 have h4:qQ (oT s 0)=true:=by simpa using h3
 have hA:lB s=(List.range (s.size-1)).all fun j=>ncF (oT s (j+1)):=by simp[lB,h4,show 0<s.size by omega,show s.size≤32 by omega]
 refine Wp.aq (fun n l H'=>l.length=42∧get l 0=(.string s)∧∃(i:Nat),(n+i=s.size∧1≤i∧∀j,1≤j→j<i→ncF (oT s j)=true)∧get l 3=I i∧St prog H H' []) (s.size-1) ?_ ?_
 ·simp(disch:=omega) only[RB,RC,simprocAttr,hn,g0]
  exact⟨1,⟨by omega,by omega,fun j h1 h2=>by omega⟩,rfl,hS1⟩
 rintro n l H2⟨hn,g0,i,⟨hi,hi1,h0⟩,g3,hS2⟩
 simp(disch:=omega) only[↓RA,RZ,simprocAttr,hn,g0,g3]
 refine iA (fun h5=> ?_) (fun h5=> ?_)
 ·simp(disch:=omega) only[↓RA,RZ,simprocAttr,hn,g0,g3,h5]
  refine hS2.cF (a4W _) fun H3 hS3=> ?_
  have hF:ncF (oT s i)=false→lB s=false:=fun hh=>by
   rw[hA,List.all_eq_false]
   exact⟨i-1,dx.2 (by omega),by rw[show i-1+1=i by omega,hh];simp⟩
  have hT:ncF (oT s i)=true→∀j,1≤j→j<i+1→ncF (oT s j)=true:=fun hh j h1 h2=>by
   by_cases e:j=i
   ·rw[e];exact hh
   ·exact h0 j h1 (by omega)
  simp(disch:=omega) only[↓RA,RZ,simprocAttr,hn,h5]
  refine pL (fun h1=> ?_) (fun h1=> ?_)
  ·simp(disch:=omega) only[↓RA,RZ,simprocAttr,hn,h5,h1]
   refine iL (fun h2=> ?_) (fun h2=> ?_)
   ·simp(disch:=omega) only[↓RA,RZ,simprocAttr,hn,h5,h1,h2]
    refine iA (fun h3=> ?_) (fun h3=> ?_)
    ·simp(disch:=omega) only[↓RA,RZ,simprocAttr,hn,a4X,h5,h1,h2,h3]
     exact⟨by rw[hF (by simp_all [ncF]<;>omega)],hS3⟩
    simp(disch:=omega) only[↓RA,RZ,simprocAttr,hn,g0,g3,h5,h1,h2,h3]
    exact⟨n-1,by omega,i+1,⟨by omega,by omega,hT (by simp_all [ncF]<;>omega)⟩,by simp,hS3⟩
   simp(disch:=omega) only[↓RA,RZ,simprocAttr,hn,h5,h1,h2]
   refine jH (fun h4=> ?_) (fun h4=> ?_)
   ·simp(disch:=omega) only[↓RA,RZ,simprocAttr,hn,h5,h1,h2,h4]
    refine iA (fun h5=> ?_) (fun h5=> ?_)
    ·simp(disch:=omega) only[↓RA,RZ,simprocAttr,hn,a4X,h1,h2,h4,h5]
     exact⟨by rw[hF (by simp_all [ncF]<;>omega)],hS3⟩
    simp(disch:=omega) only[↓RA,RZ,simprocAttr,hn,g0,g3,h1,h2,h4,h5]
    exact⟨n-1,by omega,i+1,⟨by omega,by omega,hT (by simp_all [ncF]<;>omega)⟩,by simp,hS3⟩
   simp(disch:=omega) only[↓RA,RZ,simprocAttr,hn,g0,g3,h5,h1,h2,h4]
   exact⟨n-1,by omega,i+1,⟨by omega,by omega,hT (by simp_all [ncF]<;>omega)⟩,by simp,hS3⟩
  simp(disch:=omega) only[↓RA,RZ,simprocAttr,hn,g0,g3,h5,h1]
  exact⟨n-1,by omega,i+1,⟨by omega,by omega,hT (by simp_all [ncF]<;>omega)⟩,by simp,hS3⟩
 simp(disch:=omega) only[↓RA,RZ,simprocAttr,hn,a4X,h5]
 refine⟨?_,hS2⟩
 rw[hA]
 congr 1
 symm
 rw[dz]
 intro j hj
 exact h0 (j+1) (by omega) (by have:=dx.1 hj;omega)
def rankE(r:Rk):Int:=if lB r.name=false∨lB r.tone=false then 8 else if nW r.num r.den≠0 then nW r.num r.den else if¬(-256≤r.first∧r.first≤256)then 3 else if r.wind.length=0 then 13 else if 128<r.wind.length then 4 else xX r.wind
theorem b2i(r:Rk)(hr:r.In H):Fn prog 114 [.agg #[.string r.name,.string r.tone,I r.num,I r.den,I r.first,r.wv]] H fun v H'=>v=I (rankE r)∧St prog H H' []:=by
 have hl:=hr.2
 refine .aR func114 rfl (by kernel_rfl) (m:=38) rfl fun l hn g0=> ?_
 simp(disch:=omega) only[↓RA,RB,simprocAttr,g0]
 refine(sR H).eNew 6 [(.string r.name),(.string r.tone),I r.num,I r.den,I r.first,r.wv] rfl rfl (by simp[OC,((sR H).sl hr.1).cells.2.1]) uP fun A1 H1 hS1=> ?_
 simp only[RT]at hS1
 simp(disch:=omega) only[↓RA,RZ,simprocAttr,hn,hS1.ld 0 rfl]
 refine hS1.cF (qY _) fun H2 hS2=> ?_
 simp(disch:=omega) only[↓RA,RZ,simprocAttr,hn]
 refine pL (fun h1=> ?_) (fun h1=> ?_)
 ·simp(disch:=omega) only[↓RA,RZ,simprocAttr,hn,a2R,h1]
  refine⟨?_,hS2.forget⟩;clear hS1;unfold rankE;(try simp only[dI]at*);(repeat' split);all_goals first|rfl|omega|simp_all
 simp(disch:=omega) only[↓RA,RZ,simprocAttr,hn,hS2.ld 0 rfl,h1]
 refine hS2.cF (qY _) fun H3 hS3=> ?_
 simp(disch:=omega) only[↓RA,RZ,simprocAttr,hn,h1]
 refine jO (fun h2=> ?_) (fun h2=> ?_)
 ·simp(disch:=omega) only[↓RA,RB,simprocAttr,hn,a2R,h1,h2]
  refine⟨?_,hS3.forget⟩;clear hS1;unfold rankE;(try simp only[dI]at*);(repeat' split);all_goals first|rfl|omega|simp_all
 simp(disch:=omega) only[↓RA,RZ,simprocAttr,hn,hS3.ai 0 rfl,h1,h2]
 refine hS3.cF (a1S _ _) fun H4 hS4=> ?_
 simp(disch:=omega) only[↓RA,RB,simprocAttr,hn,h1,h2]
 refine iA (fun h3=> ?_) (fun h3=> ?_)
 ·simp(disch:=omega) only[↓RA,RZ,simprocAttr,hn,a2R,h1,h2,h3]
  refine⟨?_,hS4.forget⟩;clear hS1;unfold rankE;(try simp only[eL,dI,cY,decide_eq_true_eq,ij,eO,decide_eq_false_iff_not]at*);(repeat' split);all_goals first|rfl|omega|simp_all
 simp(disch:=omega) only[↓RA,RZ,simprocAttr,hn,hS4.ld 0 rfl,h1,h2,h3]
 refine hS4.cF (b6P _) fun H5 hS5=> ?_
 simp(disch:=omega) only[↓RA,RZ,simprocAttr,hn,h1,h2,h3]
 refine jO (fun h4=> ?_) (fun h4=> ?_)
 ·simp(disch:=omega) only[↓RA,RZ,simprocAttr,hn,a2R,h1,h2,h3,h4]
  refine⟨?_,hS5.forget⟩;clear hS1;unfold rankE;(try simp only[dI,eO,decide_eq_false_iff_not]at*);(repeat' split);all_goals first|rfl|omega|simp_all
 simp(disch:=omega) only[↓RA,RZ,simprocAttr,hn,hS5.ld 0 rfl,(hS5.sl hr.1).len,h1,h2,h3,h4]
 refine iA (fun h5=> ?_) (fun h5=> ?_)
 ·simp(disch:=omega) only[↓RA,RZ,simprocAttr,hn,a2R,h1,h2,h3,h4,h5]
  refine⟨?_,hS5.forget⟩;clear hS1;unfold rankE;(try simp only[eL,dI,cY,decide_eq_true_eq,ij,eO,decide_eq_false_iff_not]at*);(repeat' split);all_goals first|rfl|omega|simp_all
 simp(disch:=omega) only[↓RA,RZ,simprocAttr,hn,hS5.ld 0 rfl,(hS5.sl hr.1).len,h1,h2,h3,h4,h5]
 refine iA (fun h6=> ?_) (fun h6=> ?_)
 ·simp(disch:=omega) only[↓RA,RZ,simprocAttr,hn,a2R,h1,h2,h3,h4,h5,h6]
  refine⟨?_,hS5.forget⟩;clear hS1;unfold rankE;(try simp only[eL,dI,cY,decide_eq_true_eq,ij,eO,decide_eq_false_iff_not]at*);(repeat' split);all_goals first|rfl|omega|simp_all
 simp(disch:=omega) only[↓RA,RZ,simprocAttr,hn,hS5.ld 0 rfl,h1,h2,h3,h4,h5,h6]
 refine hS5.cF (b5s r.wv r.wind (hS5.sl hr.1) (by have:=hr.2;omega)) fun H6 hS6=> ?_
 simp(disch:=omega) only[↓RA,RZ,simprocAttr,hn,a2R,h1,h2,h3,h4,h5,h6]
 refine⟨?_,hS6.forget⟩;clear hS1;unfold rankE;(try simp only[eL,dI,cY,decide_eq_true_eq,ij,eO,decide_eq_false_iff_not]at*);(repeat' split);all_goals first|rfl|omega|simp_all
abbrev KS(kvs:List (ByteArray×Bool)):List Value:=kcs Value.string Value.bool kvs
def qN(kvs:List (ByteArray×Bool))(s:ByteArray):Bool:=(a3j kvs s).getD false
theorem a3I(B:Base)(A:Nat)(kvs:List (ByteArray×Bool))(s:ByteArray)(hS:St prog B H [⟨.map (some A),0,KS kvs⟩]):
 Fn prog 115 [.map (some A),.string s] H fun r H'=>r=I (if qN kvs s=true then 9 else 0)∧∃kvs',(∀t,qN kvs' t=(qN kvs t||decide (t=s)))∧St prog B H' [⟨.map (some A),0,KS kvs'⟩]:=by
 refine .aI func115 rfl (by kernel_rfl) (m:=10) rfl fun l hn g0 g1=> ?_
 simp(disch:=omega) only[↓RA,RB,simprocAttr,hn,g0,g1]
 refine hS.bP 0 rfl a8Z (fun _=>rfl) ?_
 simp(disch:=omega) only[↓RA,RB,simprocAttr,hn]
 refine jO (fun h=> ?_) (fun h=> ?_)
 ·simp(disch:=omega) only[↓RA,RB,simprocAttr,hn,c1O,h]
  refine⟨by simp[qN,h],kvs,fun t=> ?_,hS⟩
  by_cases e:t=s
  ·subst e;simp[qN,h]
  ·simp[e]
 simp(disch:=omega) only[↓RA,RB,simprocAttr,hn,g0,g1,h]
 refine hS.ch 0 rfl a8Z fun H1 hS1=> ?_
 simp only[RT]at hS1
 simp(disch:=omega) only[↓RA,RB,simprocAttr,hn,c1O,h]
 refine⟨by simp[qN,h],_,fun t=> ?_,hS1⟩
 unfold qN
 rw[a2S]
 by_cases e:t=s
 ·simp[e]
 ·simp[e]
def rD(lo hi:Int):Int:=if lo<0∨127<hi then 3 else if hi<lo then 23 else 0
theorem a2c(lo hi:Int):Fn prog 155 [.agg #[I lo,I hi]] H fun r H'=>r=I (rD lo hi)∧St prog H H' []:=by
 refine .aR func155 rfl (by kernel_rfl) (m:=18) rfl fun l hn g0=> ?_
 simp(disch:=omega) only[↓RA,RB,simprocAttr,g0]
 refine(sR H).eNew 2 [I lo,I hi] rfl rfl rfl yT fun A1 H1 hS1=> ?_
 simp only[RT]at hS1
 simp(disch:=omega) only[↓RA,RZ,simprocAttr,hn,hS1.ld 0 rfl]
 refine iL (fun h1=> ?_) (fun h1=> ?_)
 ·simp(disch:=omega) only[↓RA,RZ,simprocAttr,hn,b2h,h1]
  refine⟨?_,hS1.forget⟩;unfold rD;(repeat' split);all_goals first|rfl|omega
 simp(disch:=omega) only[↓RA,RZ,simprocAttr,hn,hS1.ld 0 rfl,h1]
 refine iA (fun h2=> ?_) (fun h2=> ?_)
 ·simp(disch:=omega) only[↓RA,RZ,simprocAttr,hn,b2h,h1,h2]
  refine⟨?_,hS1.forget⟩;unfold rD;(repeat' split);all_goals first|rfl|omega
 simp(disch:=omega) only[↓RA,RZ,simprocAttr,hn,hS1.ld 0 rfl,h1,h2]
 refine iA (fun h3=> ?_) (fun h3=> ?_)
 ·simp(disch:=omega) only[↓RA,RZ,simprocAttr,hn,b2h,h1,h2,h3]
  refine⟨?_,hS1.forget⟩;unfold rD;(repeat' split);all_goals first|rfl|omega
 simp(disch:=omega) only[↓RA,RZ,simprocAttr,hn,b2h,h1,h2,h3]
 refine⟨?_,hS1.forget⟩;unfold rD;(repeat' split);all_goals first|rfl|omega
def lL(f:Nat→Int)(n:Nat):Int:=match (List.range n).find? (fun j=>decide (f j≠0))with|some j=>f j|none=>0
theorem nU(f:Nat→Int)(n i:Nat)(hi:i<n)(hp:f i≠0)(h0:∀j,j<i→f j=0):lL f n=f i:=by
 unfold lL
 rw[xL _ n i hi (by simpa using hp) (fun j hj=>by simpa using h0 j hj)]
theorem kM(f:Nat→Int)(n:Nat)(h0:∀j,j<n→f j=0):lL f n=0:=by
 unfold lL
 have:(List.range n).find? (fun j=>decide (f j≠0))=none:=by
  rw[gu]
  intro j hj
  simpa using h0 j (dx.1 hj)
 rw[this]
def tF(rs:List Rk)(lo hi:Int):Int:=if 60<rs.length then 4 else if lL (fun j=>rankE (iB rs j)) rs.length≠0 then lL (fun j=>rankE (iB rs j)) rs.length else rD lo hi
theorem b7f(rv:Value)(rs:List Rk)(lo hi:Int)(hr:Sl 6 Rk.cells H rv rs)(hrk:∀r∈rs,r.In H)(hl:rs.length<1000000000):
 Fn prog 203 [.agg #[rv,I lo,I hi]] H fun v H'=>v=I (tF rs lo hi)∧St prog H H' []:=by
 refine .aR func203 rfl (by kernel_rfl) (m:=26) rfl fun l hn g0=> ?_
 simp(disch:=omega) only[↓RA,RB,simprocAttr,g0]
 refine(sR H).eNew 3 [rv,I lo,I hi] rfl rfl (by simp[OC,((sR H).sl hr).cells.2.1]) b2O fun A1 H1 hS1=> ?_
 simp only[RT]at hS1
 simp(disch:=omega) only[↓RA,RZ,simprocAttr,hn,hS1.ld 0 rfl,(hS1.sl hr).len]
 refine iA (fun h=> ?_) (fun h=> ?_)
 ·simp(disch:=omega) only[↓RA,RZ,simprocAttr,hn,b8L,h]
  exact⟨by rw[tF,if_pos (by omega)],hS1.forget⟩
 simp(disch:=omega) only[↓RA,RZ,simprocAttr,hn,hS1.ld 0 rfl,(hS1.sl hr).len,h]
 refine Wp.aq (fun n l H'=>l.length=26∧get l 1=(ptr A1 0 3)∧get l 11=rv∧get l 12=I rs.length∧∃(i:Nat),(n+i=rs.length∧∀j,j<i→rankE (iB rs j)=0)∧get l 13=I i∧St prog H H' [⟨ptr A1 0 3,0,[rv,I lo,I hi]⟩]) rs.length ?_ ?_
 ·simp(disch:=omega) only[RB,RC,simprocAttr,hn]
  exact⟨0,⟨by omega,by simp⟩,rfl,hS1⟩
 rintro n l H2⟨hn,g1,g11,g12,i,⟨hi1,h0⟩,g13,hS2⟩
 simp(disch:=omega) only[↓RA,RB,simprocAttr,hn,g12,g13]
 refine iA (fun h1=> ?_) (fun h1=> ?_)
 ·simp(disch:=omega) only[↓RA,RZ,simprocAttr,hn,g11,g13,(hS2.sl hr).idx,(hS2.sl hr).ai,Rk.cells,h1]
  refine hS2.eNew 6 [(.string ⟨#[]⟩),(.string ⟨#[]⟩),I 0,I 0,I 0,(.slice none 0 0)] rfl rfl rfl uP fun A2 H3 hS3=> ?_
  simp only[RT]at hS3
  simp(disch:=omega) only[↓RA,RZ,simprocAttr,hn,h1]
  refine hS3.ae 1 rfl [(.string (iB rs i).name),(.string (iB rs i).tone),I (iB rs i).num,I (iB rs i).den,I (iB rs i).first,(iB rs i).wv] rfl (by simp[OC,(hS3.sl (hrk (iB rs i) (iD (by omega))).1).cells.2.1]) uP (by simp) fun H4 hS4=> ?_
  simp only[RT]at hS4
  simp(disch:=omega) only[↓RA,RZ,simprocAttr,hn,hS4.ai 1 rfl,h1]
  refine hS4.cF (b2i (iB rs i) ((hrk _ (iD (by omega))).ag hS4)) fun H5 hS5=> ?_
  simp(disch:=omega) only[↓RA,RZ,simprocAttr,hn,h1]
  refine iA (fun h2=> ?_) (fun h2=> ?_)
  ·simp(disch:=omega) only[↓RA,RZ,simprocAttr,hn,b8L,h1,h2]
   refine⟨?_,hS5.forget⟩
   rw[tF,if_neg (by omega),nU _ rs.length i (by omega) h2 h0,if_pos h2]
  simp(disch:=omega) only[↓RA,RZ,simprocAttr,hn,g1,g11,g12,g13,h1,h2]
  exact⟨n-1,by omega,i+1,⟨by omega,fun j hj=>by rcases dw.1 hj with e|e;(· exact h0 j e);(· rw[e];exact dy.1 h2)⟩,by simp,hS5.sub (by simp)⟩
 simp(disch:=omega) only[↓RA,RZ,simprocAttr,hn,g1,hS2.ai 0 rfl,h1]
 refine hS2.cF (a2c lo hi) fun H6 hS6=> ?_
 simp(disch:=omega) only[↓RA,RZ,simprocAttr,hn,b8L,h1]
 refine⟨?_,hS6.forget⟩
 have e:=kM (fun j=>rankE (iB rs j)) rs.length fun j hj=>h0 j (by omega)
 rw[tF,if_neg (by omega),if_neg (by rw[e];simp)]
theorem Drw.eq(a b:Drw):(a.rank=b.rank∧a.shift=b.shift)↔b=a:=by
 cases a;cases b;simp[eq_comm]
theorem b2W(v:Value)(xs:List Drw)(hv:Sl 2 Drw.cells H v xs)(hl:xs.length<1000000000)(d:Drw):
 Fn prog 271 [v,.agg #[I d.rank,I d.shift]] H fun r H'=>r=I (pU (fun j=>decide (iB xs j=d)) xs.length)∧St prog H H' []:=by
 refine .aI func271 rfl (by kernel_rfl) (m:=19) rfl fun l hn g0 g1=> ?_
 simp(disch:=omega) only[↓RA,RB,simprocAttr,g1]
 refine(sR H).eNew 2 [I d.rank,I d.shift] rfl rfl rfl xE fun A1 H1 hS1=> ?_
 simp only[RT]at hS1
 simp(disch:=omega) only[↓RA,RZ,simprocAttr,hn,g0,(hS1.sl hv).len]
 refine Wp.aq (fun n l H'=>l.length=19∧get l 0=v∧get l 3=(ptr A1 0 2)∧get l 7=I xs.length∧∃(j:Nat),(n+j=xs.length∧∀q,q<j→decide (iB xs q=d)=false)∧get l 8=I j∧St prog H H' [⟨ptr A1 0 2,0,[I d.rank,I d.shift]⟩]) xs.length ?_ ?_
 ·simp(disch:=omega) only[RB,RC,simprocAttr,hn,g0]
  exact⟨0,⟨by omega,fun q hq=>absurd hq (dM _)⟩,rfl,hS1⟩
 rintro n l H2⟨hn,g0,g3,g7,j,⟨hi,h0⟩,g8,hS2⟩
 simp(disch:=omega) only[↓RA,RB,simprocAttr,hn,g7,g8]
 refine iA (fun h=> ?_) (fun h=> ?_)
 ·simp(disch:=omega) only[↓RA,RZ,simprocAttr,hn,g8,h]
  refine Wp.drw jZ (by kernel_rfl) ?_
  simp(disch:=omega) only[↓RA,RZ,simprocAttr,hn,g0,g3,hS2.ai 0 rfl,(hS2.sl hv).idx,(hS2.sl hv).ai,Drw.cells]
  refine iA (fun hp=> ?_) (fun hp=> ?_)
  ·simp(disch:=omega) only[↓RA,RZ,simprocAttr,hn,c2s,hp]
   exact⟨by rw[yU _ xs.length j (by omega) (by simpa using(Drw.eq _ _).1 hp) h0],hS2.forget⟩
  simp(disch:=omega) only[↓RA,RZ,simprocAttr,hn,g0,g3,g7,g8,hp]
  exact⟨n-1,by omega,j+1,⟨by omega,fun q hq=>by rcases dw.1 hq with e|e;(· exact h0 q e);(· rw[e];simpa using fun hh=>hp ((Drw.eq _ _).2 hh))⟩,by simp,hS2⟩
 simp(disch:=omega) only[↓RA,RZ,simprocAttr,hn,c2s,h]
 exact⟨by rw[zT _ xs.length fun q hq=>h0 q (by omega)],hS2.forget⟩
theorem c1B(v:Value)(xs:List Drw)(hv:Sl 2 Drw.cells H v xs)(hl:xs.length<1000000000)(d:Drw):
 Fn prog 237 [v,.agg #[I d.rank,I d.shift]] H fun r H'=>r=.bool (decide (d∈xs))∧St prog H H' []:=by
 have e:decide (0≤pU (fun j=>decide (iB xs j=d)) xs.length)=decide (d∈xs):=by
  rw[eH,decide_eq_true_iff,decide_eq_true_iff,zB]
  constructor
  ·rintro⟨j,hj,hp⟩
   rw[←of_decide_eq_true hp];exact iD hj
  ·intro hx
   obtain⟨j,hj,rfl⟩:=dL.1 hx
   exact⟨j,hj,by rw[jM xs j hj];simp⟩
 refine .aI func237 rfl (by kernel_rfl) (m:=9) rfl fun l hn g0 g1=> ?_
 simp(disch:=omega) only[↓RA,RB,simprocAttr,g1]
 refine(sR H).eNew 2 [I d.rank,I d.shift] rfl rfl rfl xE fun A1 H1 hS1=> ?_
 simp only[RT]at hS1
 simp(disch:=omega) only[↓RA,RZ,simprocAttr,hn,g0,hS1.ai 0 rfl]
 refine hS1.cF (b2W v xs (hS1.sl hv) hl d) fun H2 hS2=> ?_
 simp(disch:=omega) only[↓RA,RB,simprocAttr,hn,c4Y]
 rw[←e]
 first|exact hS2.forget|exact⟨rfl,hS2.forget⟩
def kO(m:Nat)(l:List Drw)(j:Nat):Int:=if(iB l j).rank<0∨m≤(iB l j).rank then 10 else if(iB l j).shift< -127∨127<(iB l j).shift then 3 else if iB l j∈l.take j then 9 else 0
def kX(m:Nat)(l:List Drw):Int:=if 8<l.length then 4 else lL (kO m l) l.length
theorem a7A(rv:Value)(rs:List Rk)(lo hi:Int)(hr:Sl 6 Rk.cells H rv rs)(hl:rs.length<1000000000)(dv:Value)(ds:List Drw)(hd:Sl 2 Drw.cells H dv ds)(hl2:ds.length<1000000000):
 Fn prog 204 [.agg #[rv,I lo,I hi],dv] H fun v H'=>v=I (kX rs.length ds)∧St prog H H' []:=by
 refine .aI func204 rfl (by kernel_rfl) (m:=45) rfl fun l hn g0 g1=> ?_
 simp(disch:=omega) only[↓RA,RB,simprocAttr,g0]
 refine(sR H).eNew 3 [rv,I lo,I hi] rfl rfl (by simp[OC,((sR H).sl hr).cells.2.1]) b2O fun A1 H1 hS1=> ?_
 simp only[RT]at hS1
 simp(disch:=omega) only[↓RA,RZ,simprocAttr,hn,g1,(hS1.sl hd).len]
 refine iA (fun h=> ?_) (fun h=> ?_)
 ·simp(disch:=omega) only[↓RA,RZ,simprocAttr,hn,a3h,h]
  exact⟨by rw[kX,if_pos (by omega)],hS1.forget⟩
 simp(disch:=omega) only[↓RA,RZ,simprocAttr,hn,g1,(hS1.sl hd).len,h]
 refine Wp.aq (fun n l H'=>l.length=45∧get l 1=dv∧get l 2=(ptr A1 0 3)∧get l 10=dv∧get l 11=I ds.length∧∃(i:Nat),(n+i=ds.length∧∀j,j<i→kO rs.length ds j=0)∧get l 12=I i∧St prog H H' [⟨ptr A1 0 3,0,[rv,I lo,I hi]⟩]) ds.length ?_ ?_
 ·simp(disch:=omega) only[RB,RC,simprocAttr,hn,g1]
  exact⟨0,⟨by omega,by simp⟩,rfl,hS1⟩
 rintro n l H2⟨hn,g1,g2,oO,g11,i,⟨hi1,h0⟩,g12,hS2⟩
 simp(disch:=omega) only[↓RA,RB,simprocAttr,hn,g11,g12]
 refine iA (fun h1=> ?_) (fun h1=> ?_)
 ·have key:kO rs.length ds i≠0→kX rs.length ds=kO rs.length ds i:=fun hne=>by rw[kX,if_neg (by omega),nU _ ds.length i (by omega) hne h0]
  simp(disch:=omega) only[↓RA,RZ,simprocAttr,hn,oO,g12,(hS2.sl hd).idx,(hS2.sl hd).ai,Drw.cells,h1]
  refine hS2.eNew 2 [I 0,I 0] rfl rfl rfl xE fun A2 H3 hS3=> ?_
  simp only[RT]at hS3
  simp(disch:=omega) only[↓RA,RZ,simprocAttr,hn,h1]
  refine hS3.ae 1 rfl [I (iB ds i).rank,I (iB ds i).shift] rfl rfl xE (by simp) fun H4 hS4=> ?_
  simp only[RT]at hS4
  simp(disch:=omega) only[↓RA,RZ,simprocAttr,hn,hS4.ld 1 rfl,h1]
  refine iL (fun h1=> ?_) (fun h1=> ?_)
  ·simp(disch:=omega) only[↓RA,RZ,simprocAttr,hn,a3h,h1]
   (first|(have e1:kO rs.length ds i=10:=by rw[kO,if_pos (by omega)]);exact⟨by rw[key (by rw[e1];decide),e1],hS4.forget⟩|(have e1:kO rs.length ds i=3:=by rw[kO,if_neg (by omega),if_pos (by omega)]);exact⟨by rw[key (by rw[e1];decide),e1],hS4.forget⟩|(have e1:kO rs.length ds i=9:=by rw[kO,if_neg (by omega),if_neg (by omega),if_pos (by simp_all)]);exact⟨by rw[key (by rw[e1];decide),e1],hS4.forget⟩)
  simp(disch:=omega) only[↓RA,RZ,simprocAttr,hn,g2,hS4.ld 1 rfl,hS4.ld 0 rfl,(hS4.sl hr).len,h1]
  refine iA (fun h2=> ?_) (fun h2=> ?_)
  ·simp(disch:=omega) only[↓RA,RZ,simprocAttr,hn,a3h,h1,h2]
   (first|(have e1:kO rs.length ds i=10:=by rw[kO,if_pos (by omega)]);exact⟨by rw[key (by rw[e1];decide),e1],hS4.forget⟩|(have e1:kO rs.length ds i=3:=by rw[kO,if_neg (by omega),if_pos (by omega)]);exact⟨by rw[key (by rw[e1];decide),e1],hS4.forget⟩|(have e1:kO rs.length ds i=9:=by rw[kO,if_neg (by omega),if_neg (by omega),if_pos (by simp_all)]);exact⟨by rw[key (by rw[e1];decide),e1],hS4.forget⟩)
  simp(disch:=omega) only[↓RA,RZ,simprocAttr,hn,hS4.ld 1 rfl,h1,h2]
  refine iL (fun h3=> ?_) (fun h3=> ?_)
  ·simp(disch:=omega) only[↓RA,RZ,simprocAttr,hn,a3h,h1,h2,h3]
   (first|(have e1:kO rs.length ds i=10:=by rw[kO,if_pos (by omega)]);exact⟨by rw[key (by rw[e1];decide),e1],hS4.forget⟩|(have e1:kO rs.length ds i=3:=by rw[kO,if_neg (by omega),if_pos (by omega)]);exact⟨by rw[key (by rw[e1];decide),e1],hS4.forget⟩|(have e1:kO rs.length ds i=9:=by rw[kO,if_neg (by omega),if_neg (by omega),if_pos (by simp_all)]);exact⟨by rw[key (by rw[e1];decide),e1],hS4.forget⟩)
  simp(disch:=omega) only[↓RA,RZ,simprocAttr,hn,hS4.ld 1 rfl,h1,h2,h3]
  refine iA (fun h4=> ?_) (fun h4=> ?_)
  ·simp(disch:=omega) only[↓RA,RZ,simprocAttr,hn,a3h,h1,h2,h3,h4]
   (first|(have e1:kO rs.length ds i=10:=by rw[kO,if_pos (by omega)]);exact⟨by rw[key (by rw[e1];decide),e1],hS4.forget⟩|(have e1:kO rs.length ds i=3:=by rw[kO,if_neg (by omega),if_pos (by omega)]);exact⟨by rw[key (by rw[e1];decide),e1],hS4.forget⟩|(have e1:kO rs.length ds i=9:=by rw[kO,if_neg (by omega),if_neg (by omega),if_pos (by simp_all)]);exact⟨by rw[key (by rw[e1];decide),e1],hS4.forget⟩)
  simp(disch:=omega) only[↓RA,RZ,simprocAttr,h1,h2,h3,h4]
  refine Wp.drw jZ (by kernel_rfl) ?_
  simp(disch:=omega) only[↓RA,RZ,simprocAttr,hn,g1,(hS4.sl hd).aX,hS4.ai 1 rfl]
  refine hS4.cF (c1B _ (ds.take i) ((hS4.sl hd).cE i (by omega) (by omega)) (by simp;omega) (iB ds i)) fun H5 hS5=> ?_
  simp(disch:=omega) only[↓RA,RB,simprocAttr,hn]
  refine iA (fun h5=> ?_) (fun h5=> ?_)
  ·simp(disch:=omega) only[↓RA,RZ,simprocAttr,hn,a3h,h5]
   (first|(have e1:kO rs.length ds i=10:=by rw[kO,if_pos (by omega)]);exact⟨by rw[key (by rw[e1];decide),e1],hS5.forget⟩|(have e1:kO rs.length ds i=3:=by rw[kO,if_neg (by omega),if_pos (by omega)]);exact⟨by rw[key (by rw[e1];decide),e1],hS5.forget⟩|(have e1:kO rs.length ds i=9:=by rw[kO,if_neg (by omega),if_neg (by omega),if_pos (by simp_all)]);exact⟨by rw[key (by rw[e1];decide),e1],hS5.forget⟩)
  simp(disch:=omega) only[↓RA,RZ,simprocAttr,hn,g1,g2,oO,g11,g12,h5]
  have e0:kO rs.length ds i=0:=by rw[kO,if_neg (by omega),if_neg (by omega),if_neg (by simp_all)]
  exact⟨n-1,by omega,i+1,⟨by omega,fun j hj=>by rcases dw.1 hj with e|e;(· exact h0 j e);(· rw[e];exact e0)⟩,by simp,hS5.sub (by simp)⟩
 simp(disch:=omega) only[↓RA,RZ,simprocAttr,hn,a3h,h1]
 exact⟨by rw[kX,if_neg (by omega),kM _ _ fun j hj=>h0 j (by omega)],hS2.forget⟩
def lA(lo hi:Int)(m:Nat)(gs:List Seg)(j:Nat):Int:=if min (iB gs j).lo (iB gs j).hi<lo∨hi<max (iB gs j).lo (iB gs j).hi then 23 else if(iB gs j).hi<(iB gs j).lo∨(0<j∧(iB gs j).lo≤(iB gs (j-1)).hi)then 6 else kX m (iB gs j).draws
def stopE(rs:List Rk)(lo hi:Int)(s:Stp):Int:=if tF rs lo hi≠0 then tF rs lo hi else if lB s.name=false then 8 else if nW s.num s.den≠0 then nW s.num s.den else if s.segs.length=0 then 13 else if 12<s.segs.length then 4 else lL (lA lo hi rs.length s.segs) s.segs.length
theorem b9y(rv:Value)(rs:List Rk)(lo hi:Int)(hr:Sl 6 Rk.cells H rv rs)(hrk:∀r∈rs,r.In H)(hl:rs.length<1000000000)(s:Stp)(hs:s.In H):
 Fn prog 156 [.agg #[rv,I lo,I hi],.agg #[.string s.name,I s.num,I s.den,s.gv]] H fun v H'=>v=I (stopE rs lo hi s)∧St prog H H' []:=by
 have hl2:=hs.2.2
 refine .aI func156 rfl (by kernel_rfl) (m:=94) rfl fun l hn g0 g1=> ?_
 simp(disch:=omega) only[↓RA,RB,simprocAttr,g0]
 refine(sR H).eNew 3 [rv,I lo,I hi] rfl rfl (by simp[OC,((sR H).sl hr).cells.2.1]) b2O fun A1 H1 hS1=> ?_
 simp only[RT]at hS1
 simp(disch:=omega) only[↓RA,RB,simprocAttr,g1]
 refine hS1.eNew 4 [(.string s.name),I s.num,I s.den,s.gv] rfl rfl (by simp[OC,(hS1.sl hs.1).cells.2.1]) oK fun A2 H2 hS2=> ?_
 simp only[RT]at hS2
 simp(disch:=omega) only[↓RA,RZ,simprocAttr,hn,hS2.ai 0 rfl]
 refine hS2.cF (b7f rv rs lo hi (hS2.sl hr) (fun r h=>(hrk r h).ag hS2) hl) fun H3 hS3=> ?_
 simp(disch:=omega) only[↓RA,RB,simprocAttr,hn]
 refine iA (fun p1=> ?_) (fun p1=> ?_)
 ·simp(disch:=omega) only[↓RA,RZ,simprocAttr,hn,uY,p1]
  exact⟨by rw[stopE,if_pos p1],hS3.forget⟩
 simp(disch:=omega) only[↓RA,RZ,simprocAttr,hn,hS3.ld 1 rfl,p1]
 refine hS3.cF (qY s.name) fun H4 hS4=> ?_
 simp(disch:=omega) only[↓RA,RZ,simprocAttr,hn,p1]
 refine jO (fun p2=> ?_) (fun p2=> ?_)
 ·simp(disch:=omega) only[↓RA,RZ,simprocAttr,hn,uY,p1,p2]
  exact⟨by rw[stopE,if_neg p1,if_pos (by simpa using p2)],hS4.forget⟩
 have p2':¬lB s.name=false:=by simpa using p2
 simp(disch:=omega) only[↓RA,RZ,simprocAttr,hn,hS4.ai 1 rfl,p1,p2]
 refine hS4.cF (a1S s.num s.den) fun H5 hS5=> ?_
 simp(disch:=omega) only[↓RA,RZ,simprocAttr,hn,p1,p2]
 refine iA (fun p3=> ?_) (fun p3=> ?_)
 ·simp(disch:=omega) only[↓RA,RZ,simprocAttr,hn,uY,p1,p2,p3]
  exact⟨by rw[stopE,if_neg p1,if_neg p2',if_pos p3],hS5.forget⟩
 simp(disch:=omega) only[↓RA,RZ,simprocAttr,hn,hS5.ld 1 rfl,(hS5.sl hs.1).len,p1,p2,p3]
 refine iA (fun p4=> ?_) (fun p4=> ?_)
 ·simp(disch:=omega) only[↓RA,RZ,simprocAttr,hn,uY,p1,p2,p3,p4]
  exact⟨by rw[stopE,if_neg p1,if_neg p2',if_neg p3,if_pos (by omega)],hS5.forget⟩
 simp(disch:=omega) only[↓RA,RZ,simprocAttr,hn,hS5.ld 1 rfl,(hS5.sl hs.1).len,p1,p2,p3,p4]
 refine iA (fun p5=> ?_) (fun p5=> ?_)
 ·simp(disch:=omega) only[↓RA,RZ,simprocAttr,hn,uY,p1,p2,p3,p4,p5]
  exact⟨by rw[stopE,if_neg p1,if_neg p2',if_neg p3,if_neg (by omega),if_pos (by omega)],hS5.forget⟩
 have hE:stopE rs lo hi s=lL (lA lo hi rs.length s.segs) s.segs.length:=by rw[stopE,if_neg p1,if_neg p2',if_neg p3,if_neg (by omega),if_neg (by omega)]
 simp(disch:=omega) only[↓RA,RZ,simprocAttr,hn,hS5.ld 1 rfl,(hS5.sl hs.1).len,p1,p2,p3,p4,p5]
 refine Wp.aq (fun n l H'=>l.length=94∧get l 2=(ptr A1 0 3)∧get l 3=(ptr A2 0 4)∧get l 36=s.gv∧get l 37=I s.segs.length∧∃(i:Nat),(n+i=s.segs.length∧∀j,j<i→lA lo hi rs.length s.segs j=0)∧get l 38=I i∧St prog H H' [⟨ptr A1 0 3,0,[rv,I lo,I hi]⟩,⟨ptr A2 0 4,0,[(.string s.name),I s.num,I s.den,s.gv]⟩]) s.segs.length ?_ ?_
 ·simp(disch:=omega) only[RB,RC,simprocAttr,hn]
  exact⟨0,⟨by omega,by simp⟩,rfl,hS5⟩
 rintro n l H6⟨hn,g2,g3,g36,g37,i,⟨hi1,h0⟩,g38,hS6⟩
 simp(disch:=omega) only[↓RA,RB,simprocAttr,hn,g37,g38]
 refine iA (fun q1=> ?_) (fun q1=> ?_)
 ·have key:lA lo hi rs.length s.segs i≠0→stopE rs lo hi s=lA lo hi rs.length s.segs i:=fun hne=>by rw[hE,nU _ _ i (by omega) hne h0]
  have ei:((i:Int)-1).toNat=i-1:=by omega
  simp(disch:=omega) only[↓RA,RZ,simprocAttr,hn,g36,g38,(hS6.sl hs.1).idx,(hS6.sl hs.1).ai,Seg.cells,q1]
  refine hS6.eNew 3 [I 0,I 0,(.slice none 0 0)] rfl rfl rfl yX fun A3 H7 hS7=> ?_
  simp only[RT]at hS7
  simp(disch:=omega) only[↓RA,RZ,simprocAttr,hn,q1]
  refine hS7.ae 2 rfl [I (iB s.segs i).lo,I (iB s.segs i).hi,(iB s.segs i).dv] rfl (by simp[OC,(hS7.sl (hs.2.1 (iB s.segs i) (iD (by omega))).1).cells.2.1]) yX (by simp) fun H8 hS8=> ?_
  simp only[RT]at hS8
  simp(disch:=omega) only[↓RA,RZ,simprocAttr,hn,g2,hS8.ld 2 rfl,hS8.ld 0 rfl,q1]
  refine iL (fun h1=> ?_) (fun h1=> ?_)
  ·simp(disch:=omega) only[↓RA,RZ,simprocAttr,hn,uY,q1,h1]
   (first|(have e1:lA lo hi rs.length s.segs i=23:=by rw[lA,if_pos (by omega)]);exact⟨by rw[key (by rw[e1];decide),e1],hS8.forget⟩|(have e1:lA lo hi rs.length s.segs i=6:=by rw[lA,if_neg (by omega),if_pos (by omega)]);exact⟨by rw[key (by rw[e1];decide),e1],hS8.forget⟩|(have e1:lA lo hi rs.length s.segs i=kX rs.length (iB s.segs i).draws:=by rw[lA,if_neg (by omega),if_neg (by omega)]);exact⟨by rw[key (by rw[e1];assumption),e1],hS8.forget⟩)
  simp(disch:=omega) only[↓RA,RZ,simprocAttr,hn,g2,hS8.ld 2 rfl,hS8.ld 0 rfl,q1,h1]
  refine iA (fun h2=> ?_) (fun h2=> ?_)
  ·simp(disch:=omega) only[↓RA,RZ,simprocAttr,hn,uY,q1,h1,h2]
   (first|(have e1:lA lo hi rs.length s.segs i=23:=by rw[lA,if_pos (by omega)]);exact⟨by rw[key (by rw[e1];decide),e1],hS8.forget⟩|(have e1:lA lo hi rs.length s.segs i=6:=by rw[lA,if_neg (by omega),if_pos (by omega)]);exact⟨by rw[key (by rw[e1];decide),e1],hS8.forget⟩|(have e1:lA lo hi rs.length s.segs i=kX rs.length (iB s.segs i).draws:=by rw[lA,if_neg (by omega),if_neg (by omega)]);exact⟨by rw[key (by rw[e1];assumption),e1],hS8.forget⟩)
  simp(disch:=omega) only[↓RA,RZ,simprocAttr,q1,h1,h2]
  refine Wp.drw jZ (by kernel_rfl) ?_
  simp(disch:=omega) only[↓RA,RZ,simprocAttr,hn,hS8.ld 2 rfl]
  refine iL (fun h3=> ?_) (fun h3=> ?_)
  ·simp(disch:=omega) only[↓RA,RZ,simprocAttr,hn,uY,h3]
   (first|(have e1:lA lo hi rs.length s.segs i=23:=by rw[lA,if_pos (by omega)]);exact⟨by rw[key (by rw[e1];decide),e1],hS8.forget⟩|(have e1:lA lo hi rs.length s.segs i=6:=by rw[lA,if_neg (by omega),if_pos (by omega)]);exact⟨by rw[key (by rw[e1];decide),e1],hS8.forget⟩|(have e1:lA lo hi rs.length s.segs i=kX rs.length (iB s.segs i).draws:=by rw[lA,if_neg (by omega),if_neg (by omega)]);exact⟨by rw[key (by rw[e1];assumption),e1],hS8.forget⟩)
  simp(disch:=omega) only[↓RA,RZ,simprocAttr,hn,h3]
  refine jH (fun h4=> ?_) (fun h4=> ?_)
  ·simp(disch:=omega) only[↓RA,RZ,simprocAttr,hn,g3,hS8.ld 2 rfl,hS8.ld 1 rfl,(hS8.sl hs.1).idx,(hS8.sl hs.1).ba,(hS8.sl hs.1).ld,Seg.cells,ei,h3,h4]
   refine iA (fun h5=> ?_) (fun h5=> ?_)
   ·simp(disch:=omega) only[↓RA,RZ,simprocAttr,hn,uY,h3,h4,h5]
    (first|(have e1:lA lo hi rs.length s.segs i=23:=by rw[lA,if_pos (by omega)]);exact⟨by rw[key (by rw[e1];decide),e1],hS8.forget⟩|(have e1:lA lo hi rs.length s.segs i=6:=by rw[lA,if_neg (by omega),if_pos (by omega)]);exact⟨by rw[key (by rw[e1];decide),e1],hS8.forget⟩|(have e1:lA lo hi rs.length s.segs i=kX rs.length (iB s.segs i).draws:=by rw[lA,if_neg (by omega),if_neg (by omega)]);exact⟨by rw[key (by rw[e1];assumption),e1],hS8.forget⟩)
   simp(disch:=omega) only[↓RA,RZ,simprocAttr,hn,g2,hS8.ai 0 rfl,hS8.ld 2 rfl,h3,h4,h5]
   refine hS8.cF (a7A rv rs lo hi (hS8.sl hr) hl _ _ (hS8.sl (hs.2.1 _ (iD (by omega))).1) (hs.2.1 _ (iD (by omega))).2) fun H9 hS9=> ?_
   simp(disch:=omega) only[↓RA,RZ,simprocAttr,hn,h3,h4,h5]
   refine iA (fun h6=> ?_) (fun h6=> ?_)
   ·simp(disch:=omega) only[↓RA,RZ,simprocAttr,hn,uY,h3,h4,h5,h6]
    (first|(have e1:lA lo hi rs.length s.segs i=23:=by rw[lA,if_pos (by omega)]);exact⟨by rw[key (by rw[e1];decide),e1],hS9.forget⟩|(have e1:lA lo hi rs.length s.segs i=6:=by rw[lA,if_neg (by omega),if_pos (by omega)]);exact⟨by rw[key (by rw[e1];decide),e1],hS9.forget⟩|(have e1:lA lo hi rs.length s.segs i=kX rs.length (iB s.segs i).draws:=by rw[lA,if_neg (by omega),if_neg (by omega)]);exact⟨by rw[key (by rw[e1];assumption),e1],hS9.forget⟩)
   simp(disch:=omega) only[↓RA,RZ,simprocAttr,hn,g2,g3,g36,g37,g38,h3,h4,h5,h6]
   have e0:lA lo hi rs.length s.segs i=0:=by rw[lA,if_neg (by omega),if_neg (by omega)];omega
   exact⟨n-1,by omega,i+1,⟨by omega,fun j hj=>by rcases dw.1 hj with e|e;(· exact h0 j e);(· rw[e];exact e0)⟩,by simp,hS9.sub (by simp)⟩
  simp(disch:=omega) only[↓RA,RZ,simprocAttr,hn,g2,hS8.ai 0 rfl,hS8.ld 2 rfl,h3,h4]
  refine hS8.cF (a7A rv rs lo hi (hS8.sl hr) hl _ _ (hS8.sl (hs.2.1 _ (iD (by omega))).1) (hs.2.1 _ (iD (by omega))).2) fun H10 hS10=> ?_
  simp(disch:=omega) only[↓RA,RZ,simprocAttr,hn,h3,h4]
  refine iA (fun h7=> ?_) (fun h7=> ?_)
  ·simp(disch:=omega) only[↓RA,RZ,simprocAttr,hn,uY,h3,h4,h7]
   (first|(have e1:lA lo hi rs.length s.segs i=23:=by rw[lA,if_pos (by omega)]);exact⟨by rw[key (by rw[e1];decide),e1],hS10.forget⟩|(have e1:lA lo hi rs.length s.segs i=6:=by rw[lA,if_neg (by omega),if_pos (by omega)]);exact⟨by rw[key (by rw[e1];decide),e1],hS10.forget⟩|(have e1:lA lo hi rs.length s.segs i=kX rs.length (iB s.segs i).draws:=by rw[lA,if_neg (by omega),if_neg (by omega)]);exact⟨by rw[key (by rw[e1];assumption),e1],hS10.forget⟩)
  simp(disch:=omega) only[↓RA,RZ,simprocAttr,hn,g2,g3,g36,g37,g38,h3,h4,h7]
  have e0:lA lo hi rs.length s.segs i=0:=by rw[lA,if_neg (by omega),if_neg (by omega)];omega
  exact⟨n-1,by omega,i+1,⟨by omega,fun j hj=>by rcases dw.1 hj with e|e;(· exact h0 j e);(· rw[e];exact e0)⟩,by simp,hS10.sub (by simp)⟩
 simp(disch:=omega) only[↓RA,RZ,simprocAttr,hn,uY,q1]
 exact⟨by rw[hE,kM _ _ fun j hj=>h0 j (by omega)],hS6.forget⟩
theorem c1z(v:Value)(xs:List Cpl)(hv:Sl 5 Cpl.cells H v xs)(hl:xs.length<1000000000)(k:FuncId)(caps:List Value)(p:Nat→Bool)
 (hf:∀j H1,j<xs.length→St prog H H1 []→Fn prog k (.agg #[.string (iB xs j).name,I (iB xs j).src,I (iB xs j).dst,I (iB xs j).shift,.bool (iB xs j).thr]::caps) H1 fun r H2=>r=.bool (p j)∧St prog H1 H2 []):
 Fn prog 205 [v,.func (.func k) #[] caps.toArray] H fun r H'=>r=I (pU p xs.length)∧St prog H H' []:=by
 refine .aI func205 rfl (by kernel_rfl) (m:=19) rfl fun l hn g0 g1=> ?_
 simp(disch:=omega) only[↓RA,RZ,simprocAttr,hn,g0,((sR H).sl hv).len]
 refine Wp.aq (fun n l H'=>l.length=19∧get l 0=v∧get l 1=.func (.func k) #[] caps.toArray∧get l 7=I xs.length∧∃(j:Nat),(n+j=xs.length∧∀q,q<j→p q=false)∧get l 8=I j∧St prog H H' []) xs.length ?_ ?_
 ·simp(disch:=omega) only[RB,RC,simprocAttr,hn,g0,g1]
  exact⟨0,⟨by omega,fun q hq=>absurd hq (dM _)⟩,rfl,(sR H)⟩
 rintro n l H1⟨hn,g0,g1,g7,j,⟨hi,h0⟩,g8,hS1⟩
 simp(disch:=omega) only[↓RA,RB,simprocAttr,hn,g7,g8]
 refine iA (fun h=> ?_) (fun h=> ?_)
 ·simp(disch:=omega) only[↓RA,RZ,simprocAttr,hn,g0,g1,g8,(hS1.sl hv).idx,(hS1.sl hv).ai,Cpl.cells,h]
  refine hS1.cF (hf j _ (by omega) hS1) fun H2 hS2=> ?_
  simp(disch:=omega) only[↓RA,RZ,simprocAttr,hn,h]
  refine jO (fun hp=> ?_) (fun hp=> ?_)
  ·simp(disch:=omega) only[↓RA,RZ,simprocAttr,hn,c1V,h,hp]
   exact⟨by rw[yU p xs.length j (by omega) hp h0],hS2⟩
  simp(disch:=omega) only[↓RA,RZ,simprocAttr,hn,g0,g1,g7,g8,h,hp]
  exact⟨n-1,by omega,j+1,⟨by omega,fun q hq=>by rcases dw.1 hq with e|e;(· exact h0 q e);(· rw[e];exact hp)⟩,by simp,hS2⟩
 simp(disch:=omega) only[↓RA,RZ,simprocAttr,hn,c1V,h]
 exact⟨by rw[zT p xs.length fun q hq=>h0 q (by omega)],hS1⟩
theorem b9u(v:Value)(xs:List Cpl)(hv:Sl 5 Cpl.cells H v xs)(hl:xs.length<1000000000)(k:FuncId)(caps:List Value)(p:Nat→Bool)
 (hf:∀j H1,j<xs.length→St prog H H1 []→Fn prog k (.agg #[.string (iB xs j).name,I (iB xs j).src,I (iB xs j).dst,I (iB xs j).shift,.bool (iB xs j).thr]::caps) H1 fun r H2=>r=.bool (p j)∧St prog H1 H2 []):
 Fn prog 157 [v,.func (.func k) #[] caps.toArray] H fun r H'=>r=.bool (decide (0≤pU p xs.length))∧St prog H H' []:=by
 refine .aI func157 rfl (by kernel_rfl) (m:=9) rfl fun l hn g0 g1=> ?_
 simp(disch:=omega) only[↓RA,RZ,simprocAttr,hn,g0,g1]
 refine(sR H).cF (c1z v xs hv hl k caps p hf) fun H1 hS1=> ?_
 simp(disch:=omega) only[↓RA,RZ,simprocAttr,hn,c6H]
 first|exact hS1|exact⟨rfl,hS1⟩
theorem a9o(c:Cpl)(A:Nat)(d:Cpl)(hA:Var H A 5 d.cells):Fn prog 158 [.agg #[.string c.name,I c.src,I c.dst,I c.shift,.bool c.thr],ptr A 0 5] H fun r H'=>r=.bool (decide (c.name=d.name))∧St prog H H' []:=by
 refine .aI func158 rfl (by kernel_rfl) (m:=9) rfl fun l hn g0 g1=> ?_
 simp(disch:=omega) only[↓RA,RB,simprocAttr,g0]
 refine(sR H).eNew 5 [(.string c.name),I c.src,I c.dst,I c.shift,(.bool c.thr)] rfl rfl rfl uN fun A1 H1 hS1=> ?_
 simp only[RT]at hS1
 simp(disch:=omega) only[↓RA,RZ,simprocAttr,hn,g1,hS1.ld 0 rfl,(hS1.va hA).ld,c5f,Cpl.cells]
 first|exact hS1.forget|exact⟨rfl,hS1.forget⟩
def mS(m:Nat)(cs:List Cpl)(j:Nat):Int:=
 let c:=iB cs j
 if lB c.name=false then 8 else if ∃q,q<j∧(iB cs q).name=c.name then 9 else if c.src<0∨m≤c.src∨c.dst<0∨m≤c.dst then 10 else if c.shift< -127∨127<c.shift then 3 else if c.src=c.dst∧c.shift=0 then 7 else 0
def uM(ks:List (Int×Int))(cs:List Cpl):Int:=if 8<ks.length∨40<cs.length then 4 else if ∃k∈ks,rD k.1 k.2≠0 then 23 else lL (mS ks.length cs) cs.length
def kpc(k:Int×Int):List Value:=[I k.1,I k.2]
theorem a7N{α:Type}[Inhabited α](xs:List α)(i j:Nat)(h:j<i):iB (xs.take i) j=iB xs j:=by
 unfold iB
 rw[dg,dg,dY h]
theorem a8T(kv cv:Value)(ks:List (Int×Int))(cs:List Cpl)(hk:Sl 2 kpc H kv ks)(hc:Sl 5 Cpl.cells H cv cs)(hl:ks.length<1000000000)(hl2:cs.length<1000000000):
 Fn prog 117 [kv,cv] H fun v H'=>v=I (uM ks cs)∧St prog H H' []:=by
 refine .aI func117 rfl (by kernel_rfl) (m:=89) rfl fun l hn g0 g1=> ?_
 simp(disch:=omega) only[↓RA,RZ,simprocAttr,hn,g0,((sR H).sl hk).len]
 refine iL (fun p1=> ?_) (fun p1=> ?_)
 ·simp(disch:=omega) only[↓RA,RZ,simprocAttr,hn,sU,p1]
  exact⟨by rw[uM,if_pos (by omega)],(sR H)⟩
 simp(disch:=omega) only[↓RA,RZ,simprocAttr,hn,g1,((sR H).sl hc).len,p1]
 refine iA (fun p2=> ?_) (fun p2=> ?_)
 ·simp(disch:=omega) only[↓RA,RZ,simprocAttr,hn,sU,p1,p2]
  exact⟨by rw[uM,if_pos (by omega)],(sR H)⟩
 simp(disch:=omega) only[↓RA,RZ,simprocAttr,hn,g0,((sR H).sl hk).len,p1,p2]
 refine Wp.aq (fun n l H'=>l.length=89∧get l 0=kv∧get l 1=cv∧get l 17=kv∧get l 18=I ks.length∧∃(i:Nat),(n+i=ks.length∧∀j,j<i→rD (iB ks j).1 (iB ks j).2=0)∧get l 19=I i∧St prog H H' []) ks.length ?_ ?_
 ·simp(disch:=omega) only[RB,RC,simprocAttr,hn,g0,g1]
  exact⟨0,⟨by omega,by simp⟩,rfl,(sR H)⟩
 rintro n l H1⟨hn,g0,g1,g17,g18,i,⟨hi1,h0⟩,g19,hS1⟩
 simp(disch:=omega) only[↓RA,RB,simprocAttr,hn,g18,g19]
 refine iA (fun p3=> ?_) (fun p3=> ?_)
 ·simp(disch:=omega) only[↓RA,RZ,simprocAttr,hn,g17,g19,(hS1.sl hk).idx,(hS1.sl hk).ai,kpc,p3]
  refine hS1.eNew 2 [I 0,I 0] rfl rfl rfl yT fun A1 H2 hS2=> ?_
  simp only[RT]at hS2
  simp(disch:=omega) only[↓RA,RZ,simprocAttr,hn,p3]
  refine hS2.ae 0 rfl [I (iB ks i).1,I (iB ks i).2] rfl rfl yT (by simp) fun H3 hS3=> ?_
  simp only[RT]at hS3
  simp(disch:=omega) only[↓RA,RZ,simprocAttr,hn,hS3.ai 0 rfl,p3]
  refine hS3.cF (a2c _ _) fun H4 hS4=> ?_
  simp(disch:=omega) only[↓RA,RZ,simprocAttr,hn,p3]
  refine iA (fun p4=> ?_) (fun p4=> ?_)
  ·simp(disch:=omega) only[↓RA,RZ,simprocAttr,hn,sU,p3,p4]
   exact⟨by rw[uM,if_neg (by omega),if_pos ⟨_,iD (by omega),p4⟩],hS4.forget⟩
  simp(disch:=omega) only[↓RA,RZ,simprocAttr,hn,g0,g1,g17,g18,g19,p3,p4]
  exact⟨n-1,by omega,i+1,⟨by omega,fun j hj=>by rcases dw.1 hj with e|e;(· exact h0 j e);(· rw[e];exact dy.1 p4)⟩,by simp,hS4.sub (by simp)⟩
 have hE:uM ks cs=lL (mS ks.length cs) cs.length:=by
  rw[uM,if_neg (by omega),if_neg]
  rintro⟨k,hk,hne⟩
  obtain⟨j,hj,rfl⟩:=dL.1 hk
  rw[←jM ks j hj]at hne
  exact hne (h0 j (by omega))
 simp(disch:=omega) only[↓RA,RZ,simprocAttr,hn,g1,(hS1.sl hc).len,p3]
 refine Wp.aq (fun n l H'=>l.length=89∧get l 0=kv∧get l 1=cv∧get l 27=cv∧get l 28=I cs.length∧∃(i:Nat),(n+i=cs.length∧∀j,j<i→mS ks.length cs j=0)∧get l 29=I i∧St prog H H' []) cs.length ?_ ?_
 ·simp(disch:=omega) only[RB,RC,simprocAttr,hn,g0,g1]
  exact⟨0,⟨by omega,by simp⟩,rfl,hS1⟩
 rintro n l H5⟨hn,g0,g1,g27,g28,i,⟨hi2,hz⟩,g29,hS5⟩
 simp(disch:=omega) only[↓RA,RB,simprocAttr,hn,g28,g29]
 refine iA (fun q1=> ?_) (fun q1=> ?_)
 ·have key:mS ks.length cs i≠0→uM ks cs=mS ks.length cs i:=fun hne=>by rw[hE,nU _ _ i (by omega) hne hz]
  simp(disch:=omega) only[↓RA,RZ,simprocAttr,hn,g27,g29,(hS5.sl hc).idx,(hS5.sl hc).ai,Cpl.cells,q1]
  refine hS5.eNew 5 [(.string ⟨#[]⟩),I 0,I 0,I 0,(.bool false)] rfl rfl rfl uN fun A2 H6 hS6=> ?_
  simp only[RT]at hS6
  simp(disch:=omega) only[↓RA,RZ,simprocAttr,hn,q1]
  refine hS6.ae 0 rfl [(.string (iB cs i).name),I (iB cs i).src,I (iB cs i).dst,I (iB cs i).shift,(.bool (iB cs i).thr)] rfl rfl uN (by simp) fun H7 hS7=> ?_
  simp only[RT]at hS7
  simp(disch:=omega) only[↓RA,RZ,simprocAttr,hn,hS7.ld 0 rfl,q1]
  refine hS7.cF (qY _) fun H8 hS8=> ?_
  simp(disch:=omega) only[↓RA,RZ,simprocAttr,hn,q1]
  refine jO (fun q2=> ?_) (fun q2=> ?_)
  ·have e1:mS ks.length cs i=8:=by unfold mS;simp only;rw[if_pos (by simpa using q2)]
   simp(disch:=omega) only[↓RA,RZ,simprocAttr,hn,sU,q1,q2]
   exact⟨by rw[key (by rw[e1];decide),e1],hS8.forget⟩
  have q2':¬lB (iB cs i).name=false:=by simpa using q2
  simp(disch:=omega) only[↓RA,RZ,simprocAttr,hn,g1,(hS8.sl hc).aX,q1,q2]
  have hA:=hS8.var 0 rfl
  refine hS8.cF (b9u _ (cs.take i) ((hS8.sl hc).cE i (by omega) (by omega)) (by simp;omega) 158 [ptr A2 0 5] (fun j=>decide ((iB (cs.take i) j).name=(iB cs i).name)) (fun j H1 hj hS'=>a9o _ A2 (iB cs i) (hS'.va hA))) fun H9 hS9=> ?_
  have hx:0≤pU (fun j=>decide ((iB (cs.take i) j).name=(iB cs i).name)) (cs.take i).length↔∃q,q<i∧(iB cs q).name=(iB cs i).name:=by
   rw[zB]
   constructor
   ·rintro⟨j,hj,hp⟩
    have hj':j<i:=by simp at hj;omega
    exact⟨j,hj',by rw[←a7N cs i j hj'];exact of_decide_eq_true hp⟩
   ·rintro⟨j,hj,hp⟩
    exact⟨j,by simp;omega,decide_eq_true (by rw[a7N cs i j hj];exact hp)⟩
  simp(disch:=omega) only[↓RA,RZ,simprocAttr,hn,q1,q2]
  refine iA (fun q3=> ?_) (fun q3=> ?_)
  ·have e1:mS ks.length cs i=9:=by unfold mS;simp only;rw[if_neg q2',if_pos (hx.1 q3)]
   simp(disch:=omega) only[↓RA,RZ,simprocAttr,hn,sU,q1,q2,q3]
   exact⟨by rw[key (by rw[e1];decide),e1],hS9.forget⟩
  have q3':¬∃q,q<i∧(iB cs q).name=(iB cs i).name:=fun hh=>q3 (hx.2 hh)
  have hC:mS ks.length cs i=if(iB cs i).src<0∨ks.length≤(iB cs i).src∨(iB cs i).dst<0∨ks.length≤(iB cs i).dst then 10 else if(iB cs i).shift< -127∨127<(iB cs i).shift then 3 else if(iB cs i).src=(iB cs i).dst∧(iB cs i).shift=0 then 7 else 0:=by
   unfold mS;simp only;rw[if_neg q2',if_neg q3']
  clear hx
  simp(disch:=omega) only[↓RA,RZ,simprocAttr,hn,hS9.ld 0 rfl,q1,q2,q3]
  refine iL (fun h1=> ?_) (fun h1=> ?_)
  ·simp(disch:=omega) only[↓RA,RZ,simprocAttr,hn,sU,q1,q2,q3,h1]
   (first|(have e1:mS ks.length cs i=10:=by rw[hC,if_pos (by omega)]);exact⟨by rw[key (by rw[e1];decide),e1],hS9.forget⟩|(have e1:mS ks.length cs i=3:=by rw[hC,if_neg (by omega),if_pos (by omega)]);exact⟨by rw[key (by rw[e1];decide),e1],hS9.forget⟩|(have e1:mS ks.length cs i=7:=by rw[hC,if_neg (by omega),if_neg (by omega),if_pos (by omega)]);exact⟨by rw[key (by rw[e1];decide),e1],hS9.forget⟩)
  simp(disch:=omega) only[↓RA,RZ,simprocAttr,hn,g0,hS9.ld 0 rfl,(hS9.sl hk).len,q1,q2,q3,h1]
  refine iL (fun h2=> ?_) (fun h2=> ?_)
  ·simp(disch:=omega) only[↓RA,RZ,simprocAttr,hn,sU,q1,q2,q3,h1,h2]
   (first|(have e1:mS ks.length cs i=10:=by rw[hC,if_pos (by omega)]);exact⟨by rw[key (by rw[e1];decide),e1],hS9.forget⟩|(have e1:mS ks.length cs i=3:=by rw[hC,if_neg (by omega),if_pos (by omega)]);exact⟨by rw[key (by rw[e1];decide),e1],hS9.forget⟩|(have e1:mS ks.length cs i=7:=by rw[hC,if_neg (by omega),if_neg (by omega),if_pos (by omega)]);exact⟨by rw[key (by rw[e1];decide),e1],hS9.forget⟩)
  simp(disch:=omega) only[↓RA,RZ,simprocAttr,hn,hS9.ld 0 rfl,q1,q2,q3,h1,h2]
  refine iL (fun h3=> ?_) (fun h3=> ?_)
  ·simp(disch:=omega) only[↓RA,RZ,simprocAttr,hn,sU,q1,q2,q3,h1,h2,h3]
   (first|(have e1:mS ks.length cs i=10:=by rw[hC,if_pos (by omega)]);exact⟨by rw[key (by rw[e1];decide),e1],hS9.forget⟩|(have e1:mS ks.length cs i=3:=by rw[hC,if_neg (by omega),if_pos (by omega)]);exact⟨by rw[key (by rw[e1];decide),e1],hS9.forget⟩|(have e1:mS ks.length cs i=7:=by rw[hC,if_neg (by omega),if_neg (by omega),if_pos (by omega)]);exact⟨by rw[key (by rw[e1];decide),e1],hS9.forget⟩)
  simp(disch:=omega) only[↓RA,RZ,simprocAttr,hn,g0,hS9.ld 0 rfl,(hS9.sl hk).len,q1,q2,q3,h1,h2,h3]
  refine iA (fun h4=> ?_) (fun h4=> ?_)
  ·simp(disch:=omega) only[↓RA,RZ,simprocAttr,hn,sU,q1,q2,q3,h1,h2,h3,h4]
   (first|(have e1:mS ks.length cs i=10:=by rw[hC,if_pos (by omega)]);exact⟨by rw[key (by rw[e1];decide),e1],hS9.forget⟩|(have e1:mS ks.length cs i=3:=by rw[hC,if_neg (by omega),if_pos (by omega)]);exact⟨by rw[key (by rw[e1];decide),e1],hS9.forget⟩|(have e1:mS ks.length cs i=7:=by rw[hC,if_neg (by omega),if_neg (by omega),if_pos (by omega)]);exact⟨by rw[key (by rw[e1];decide),e1],hS9.forget⟩)
  simp(disch:=omega) only[↓RA,RZ,simprocAttr,hn,hS9.ld 0 rfl,q1,q2,q3,h1,h2,h3,h4]
  refine iL (fun h5=> ?_) (fun h5=> ?_)
  ·simp(disch:=omega) only[↓RA,RZ,simprocAttr,hn,sU,q1,q2,q3,h1,h2,h3,h4,h5]
   (first|(have e1:mS ks.length cs i=10:=by rw[hC,if_pos (by omega)]);exact⟨by rw[key (by rw[e1];decide),e1],hS9.forget⟩|(have e1:mS ks.length cs i=3:=by rw[hC,if_neg (by omega),if_pos (by omega)]);exact⟨by rw[key (by rw[e1];decide),e1],hS9.forget⟩|(have e1:mS ks.length cs i=7:=by rw[hC,if_neg (by omega),if_neg (by omega),if_pos (by omega)]);exact⟨by rw[key (by rw[e1];decide),e1],hS9.forget⟩)
  simp(disch:=omega) only[↓RA,RZ,simprocAttr,hn,hS9.ld 0 rfl,q1,q2,q3,h1,h2,h3,h4,h5]
  refine iA (fun h6=> ?_) (fun h6=> ?_)
  ·simp(disch:=omega) only[↓RA,RZ,simprocAttr,hn,sU,q1,q2,q3,h1,h2,h3,h4,h5,h6]
   (first|(have e1:mS ks.length cs i=10:=by rw[hC,if_pos (by omega)]);exact⟨by rw[key (by rw[e1];decide),e1],hS9.forget⟩|(have e1:mS ks.length cs i=3:=by rw[hC,if_neg (by omega),if_pos (by omega)]);exact⟨by rw[key (by rw[e1];decide),e1],hS9.forget⟩|(have e1:mS ks.length cs i=7:=by rw[hC,if_neg (by omega),if_neg (by omega),if_pos (by omega)]);exact⟨by rw[key (by rw[e1];decide),e1],hS9.forget⟩)
  simp(disch:=omega) only[↓RA,RZ,simprocAttr,hn,hS9.ld 0 rfl,q1,q2,q3,h1,h2,h3,h4,h5,h6]
  refine jH (fun h7=> ?_) (fun h7=> ?_)
  ·simp(disch:=omega) only[↓RA,RZ,simprocAttr,hn,hS9.ld 0 rfl,q1,q2,q3,h3,h4,h5,h6,h7]
   refine iA (fun h8=> ?_) (fun h8=> ?_)
   ·simp(disch:=omega) only[↓RA,RZ,simprocAttr,hn,sU,q1,q2,q3,h3,h4,h7,h8]
    (first|(have e1:mS ks.length cs i=10:=by rw[hC,if_pos (by omega)]);exact⟨by rw[key (by rw[e1];decide),e1],hS9.forget⟩|(have e1:mS ks.length cs i=3:=by rw[hC,if_neg (by omega),if_pos (by omega)]);exact⟨by rw[key (by rw[e1];decide),e1],hS9.forget⟩|(have e1:mS ks.length cs i=7:=by rw[hC,if_neg (by omega),if_neg (by omega),if_pos (by omega)]);exact⟨by rw[key (by rw[e1];decide),e1],hS9.forget⟩)
   simp(disch:=omega) only[↓RA,RZ,simprocAttr,hn,g0,g1,g27,g28,g29,q1,q2,q3,h3,h4,h5,h6,h7,h8]
   have e0:mS ks.length cs i=0:=by rw[hC,if_neg (by omega),if_neg (by omega),if_neg (by omega)]
   exact⟨n-1,by omega,i+1,⟨by omega,fun j hj=>by rcases dw.1 hj with e|e;(· exact hz j e);(· rw[e];exact e0)⟩,by simp,hS9.sub (by simp)⟩
  simp(disch:=omega) only[↓RA,RZ,simprocAttr,hn,g0,g1,g27,g28,g29,q1,q2,q3,h1,h2,h3,h4,h5,h6,h7]
  have e0:mS ks.length cs i=0:=by rw[hC,if_neg (by omega),if_neg (by omega),if_neg (by omega)]
  exact⟨n-1,by omega,i+1,⟨by omega,fun j hj=>by rcases dw.1 hj with e|e;(· exact hz j e);(· rw[e];exact e0)⟩,by simp,hS9.sub (by simp)⟩
 simp(disch:=omega) only[↓RA,RZ,simprocAttr,hn,sU,q1]
 exact⟨by rw[hE,kM _ _ fun j hj=>hz j (by omega)],hS5.forget⟩
def pB(rs:List Rk)(lo hi:Int)(l:List Stp)(j:Nat):Int:=if stopE rs lo hi (iB l j)≠0 then stopE rs lo hi (iB l j)else if ∃q,q<j∧(iB l q).name=(iB l j).name then 9 else 0
def divE(rs:List Rk)(d:Dvn):Int:=if rD d.lo d.hi≠0 then rD d.lo d.hi else if 60<d.stops.length then 4 else lL (pB rs d.lo d.hi d.stops) d.stops.length
theorem a0H{kvs kvs':List (ByteArray×Bool)}{f:Nat→ByteArray}{i:Nat}(h:∀t,qN kvs t=true↔∃q,q<i∧f q=t)(h':∀t,qN kvs' t=(qN kvs t||decide (t=f i))):∀t,qN kvs' t=true↔∃q,q<i+1∧f q=t:=by
 intro t
 rw[h',eE,h,decide_eq_true_iff]
 constructor
 ·rintro(⟨q,hq,e⟩|e)
  ·exact⟨q,by omega,e⟩
  ·exact⟨i,by omega,e.symm⟩
 ·rintro⟨q,hq,e⟩
  rcases dw.1 hq with hh|hh
  ·exact .inl ⟨q,hh,e⟩
  ·right;rw[←e,hh]
theorem a3p(t:ByteArray):qN [] t=false:=rfl
theorem c3m(o:Org)(ho:o.In H)(d:Dvn)(hd:d.In H):
 Fn prog 116 [.agg #[.string o.name,o.rv,o.dv,o.cv],.agg #[.string d.name,.bool d.pedal,I d.lo,I d.hi,d.sv]] H fun v H'=>v=I (divE o.ranks d)∧St prog H H' []:=by
 have hl:=hd.2.2
 refine .aI func116 rfl (by kernel_rfl) (m:=47) rfl fun l hn g0 g1=> ?_
 simp(disch:=omega) only[↓RA,RB,simprocAttr,g0]
 refine(sR H).eNew 4 [(.string o.name),o.rv,o.dv,o.cv] rfl rfl (by simp[OC,((sR H).sl ho.1).cells.2.1,((sR H).sl ho.2.2.1).cells.2.1,((sR H).sl ho.2.2.2.2.1).cells.2.1]) lP fun A1 H1 hS1=> ?_
 simp only[RT]at hS1
 simp(disch:=omega) only[↓RA,RB,simprocAttr,g1]
 refine hS1.eNew 5 [(.string d.name),(.bool d.pedal),I d.lo,I d.hi,d.sv] rfl rfl (by simp[OC,(hS1.sl hd.1).cells.2.1]) xB fun A2 H2 hS2=> ?_
 simp only[RT]at hS2
 simp(disch:=omega) only[↓RA,RZ,simprocAttr,hn,hS2.ai 1 rfl]
 refine hS2.cF (a2c d.lo d.hi) fun H3 hS3=> ?_
 simp(disch:=omega) only[↓RA,RB,simprocAttr,hn]
 refine iA (fun p1=> ?_) (fun p1=> ?_)
 ·simp(disch:=omega) only[↓RA,RZ,simprocAttr,hn,a6Z,p1]
  exact⟨by rw[divE,if_pos p1],hS3.forget⟩
 simp(disch:=omega) only[↓RA,RZ,simprocAttr,hn,hS3.ld 1 rfl,(hS3.sl hd.1).len,p1]
 refine iA (fun p2=> ?_) (fun p2=> ?_)
 ·simp(disch:=omega) only[↓RA,RZ,simprocAttr,hn,a6Z,p1,p2]
  exact⟨by rw[divE,if_neg p1,if_pos (by omega)],hS3.forget⟩
 have hE:divE o.ranks d=lL (pB o.ranks d.lo d.hi d.stops) d.stops.length:=by rw[divE,if_neg p1,if_neg (by omega)]
 simp(disch:=omega) only[↓RA,simprocAttr]
 refine hS3.bU a8Z fun M1 H4 hS4=> ?_
 simp only[RT]at hS4
 simp(disch:=omega) only[↓RA,RZ,simprocAttr,hn,hS4.ld 1 rfl,(hS4.sl hd.1).len,p1,p2]
 refine Wp.aq (fun n l H'=>l.length=47∧get l 2=(ptr A1 0 4)∧get l 3=(ptr A2 0 5)∧get l 6=(.map (some M1))∧get l 23=d.sv∧get l 24=I d.stops.length∧∃(i:Nat)(kvs:List (ByteArray×Bool)),(n+i=d.stops.length∧(∀j,j<i→pB o.ranks d.lo d.hi d.stops j=0)∧(∀t,qN kvs t=true↔∃q,q<i∧(iB d.stops q).name=t))∧get l 25=I i∧St prog H H' [⟨ptr A1 0 4,0,[(.string o.name),o.rv,o.dv,o.cv]⟩,⟨ptr A2 0 5,0,[(.string d.name),(.bool d.pedal),I d.lo,I d.hi,d.sv]⟩,⟨.map (some M1),0,KS kvs⟩]) d.stops.length ?_ ?_
 ·simp(disch:=omega) only[RB,RC,simprocAttr,hn]
  exact⟨0,[],⟨by omega,by simp,by simp[a3p]⟩,rfl,hS4⟩
 rintro n l H5⟨hn,g2,g3,g6,g23,g24,i,kvs,⟨hi1,hz,hk⟩,g25,hS5⟩
 simp(disch:=omega) only[↓RA,RB,simprocAttr,hn,g24,g25]
 refine iA (fun q1=> ?_) (fun q1=> ?_)
 ·have key:pB o.ranks d.lo d.hi d.stops i≠0→divE o.ranks d=pB o.ranks d.lo d.hi d.stops i:=fun hne=>by rw[hE,nU _ _ i (by omega) hne hz]
  simp(disch:=omega) only[↓RA,RZ,simprocAttr,hn,g23,g25,(hS5.sl hd.1).idx,(hS5.sl hd.1).ai,Stp.cells,q1]
  refine hS5.eNew 4 [(.string ⟨#[]⟩),I 0,I 0,(.slice none 0 0)] rfl rfl rfl oK fun A3 H6 hS6=> ?_
  simp only[RT]at hS6
  simp(disch:=omega) only[↓RA,RZ,simprocAttr,hn,q1]
  refine hS6.ae 3 rfl [(.string (iB d.stops i).name),I (iB d.stops i).num,I (iB d.stops i).den,(iB d.stops i).gv] rfl (by simp[OC,(hS6.sl (hd.2.1 (iB d.stops i) (iD (by omega))).1).cells.2.1]) oK (by simp) fun H7 hS7=> ?_
  simp only[RT]at hS7
  simp(disch:=omega) only[↓RA,RZ,simprocAttr,hn,g2,g3,hS7.ld 0 rfl,hS7.ai 1 rfl,b4V (hS7.sl ho.1).cells,hS7.ai 3 rfl,q1]
  refine hS7.cF (b9y o.rv o.ranks d.lo d.hi (hS7.sl ho.1) (fun r h=>(ho.2.1 r h).ag hS7) ho.2.2.2.2.2.1 (iB d.stops i) ((hd.2.1 _ (iD (by omega))).ag hS7)) fun H8 hS8=> ?_
  simp(disch:=omega) only[↓RA,RZ,simprocAttr,hn,q1]
  refine iA (fun q2=> ?_) (fun q2=> ?_)
  ·have e1:pB o.ranks d.lo d.hi d.stops i=stopE o.ranks d.lo d.hi (iB d.stops i):=by rw[pB,if_pos q2]
   simp(disch:=omega) only[↓RA,RZ,simprocAttr,hn,a6Z,q1,q2]
   exact⟨by rw[key (by rw[e1];exact q2),e1],hS8.forget⟩
  simp(disch:=omega) only[↓RA,RZ,simprocAttr,hn,g6,hS8.ld 3 rfl,q1,q2]
  have hM1:=hS8.pick (os':=[⟨.map (some M1),0,_⟩]) [2] (by decide) rfl
  have hR1:=hS8.pick (os':=[⟨.map (some M1),0,_⟩,⟨ptr A1 0 4,0,_⟩,⟨ptr A2 0 5,0,_⟩,⟨ptr A3 0 4,0,_⟩]) [2,0,1,3] (by decide) rfl
  refine iG (a3I _ M1 kvs (iB d.stops i).name hM1.aF) ?_
  rintro r H9⟨rfl,kvs',hk',hT3⟩
  have hS9:=hR1.frame hT3
  simp only[RT]at hS9
  simp(disch:=omega) only[↓RA,RZ,simprocAttr,hn,q1,q2]
  refine iA (fun q3=> ?_) (fun q3=> ?_)
  ·have q3':qN kvs (iB d.stops i).name=true:=by
    by_cases hh:qN kvs (iB d.stops i).name=true
    ·exact hh
    ·rw[if_neg hh]at q3;exact absurd rfl q3
   have e1:pB o.ranks d.lo d.hi d.stops i=9:=by rw[pB,if_neg q2,if_pos ((hk _).1 q3')]
   simp(disch:=omega) only[↓RA,RZ,simprocAttr,hn,a6Z,q1,q2,q3]
   exact⟨by rw[key (by rw[e1];decide),e1,if_pos q3'],hS9.forget⟩
  have q3':¬qN kvs (iB d.stops i).name=true:=fun hh=>q3 (by rw[if_pos hh];decide)
  have e0:pB o.ranks d.lo d.hi d.stops i=0:=by rw[pB,if_neg q2,if_neg (fun hh=>q3' ((hk _).2 hh))]
  simp(disch:=omega) only[↓RA,RZ,simprocAttr,hn,g2,g3,g6,g23,g24,g25,q1,q2,q3]
  exact⟨n-1,by omega,i+1,kvs',⟨by omega,fun j hj=>by rcases dw.1 hj with e|e;(· exact hz j e);(· rw[e];exact e0),a0H (f:=fun q=>(iB d.stops q).name) hk hk'⟩,by simp,hS9.pick [1,2,0] (by decide) rfl⟩
 simp(disch:=omega) only[↓RA,RZ,simprocAttr,hn,a6Z,q1]
 exact⟨by rw[hE,kM _ _ fun j hj=>hz j (by omega)],hS5.forget⟩
def oI(l:List Rk)(j:Nat):Int:=if rankE (iB l j)≠0 then rankE (iB l j)else if ∃q,q<j∧(iB l q).name=(iB l j).name then 9 else 0
def tI(rs:List Rk)(l:List Dvn)(j:Nat):Int:=if lB (iB l j).name=false then 8 else if ∃q,q<j∧(iB l q).name=(iB l j).name then 9 else divE rs (iB l j)
def kps(l:List Dvn):List (Int×Int):=l.map fun d=>(d.lo,d.hi)
def organE(o:Org):Int:=if lB o.name=false then 8 else if 60<o.ranks.length then 4 else if lL (oI o.ranks) o.ranks.length≠0 then lL (oI o.ranks) o.ranks.length else
 if o.dvs.length=0 then 13 else if 8<o.dvs.length then 4 else if lL (tI o.ranks o.dvs) o.dvs.length≠0 then lL (tI o.ranks o.dvs) o.dvs.length else uM (kps o.dvs) o.cpls
theorem wS(k:Int×Int):(kpc k).length=2:=rfl
theorem b5u(l:List Dvn)(i:Nat)(h:i<l.length):(kps (l.take (i+1))).flatMap kpc=(kps (l.take i)).flatMap kpc++[I (iB l i).lo,I (iB l i).hi]:=by
 unfold kps
 rw[a3Q l i h,dT,dF]
 rfl
theorem a0a(o:Org)(ho:o.In H):Fn prog 62 [.agg #[.string o.name,o.rv,o.dv,o.cv]] H fun v H'=>v=I (organE o)∧St prog H H' []:=by
 have hlr:=ho.2.2.2.2.2.1
 have hld:=ho.2.2.2.2.2.2.1
 have hlc:=ho.2.2.2.2.2.2.2
 refine .aR func62 rfl (by kernel_rfl) (m:=89) rfl fun l hn g0=> ?_
 simp(disch:=omega) only[↓RA,RB,simprocAttr,g0]
 refine(sR H).eNew 4 [(.string o.name),o.rv,o.dv,o.cv] rfl rfl (by simp[OC,((sR H).sl ho.1).cells.2.1,((sR H).sl ho.2.2.1).cells.2.1,((sR H).sl ho.2.2.2.2.1).cells.2.1]) lP fun A1 H1 hS1=> ?_
 simp only[RT]at hS1
 simp(disch:=omega) only[↓RA,RZ,simprocAttr,hn,hS1.ld 0 rfl]
 refine hS1.cF (qY _) fun H2 hS2=> ?_
 simp(disch:=omega) only[↓RA,RB,simprocAttr,hn]
 refine jO (fun p1=> ?_) (fun p1=> ?_)
 ·simp(disch:=omega) only[↓RA,RB,simprocAttr,hn,a4j,p1]
  exact⟨by rw[organE,if_pos (by simpa using p1)],hS2.forget⟩
 have p1':¬lB o.name=false:=by simpa using p1
 simp(disch:=omega) only[↓RA,RZ,simprocAttr,hn,hS2.ld 0 rfl,(hS2.sl ho.1).len,p1]
 refine iA (fun p2=> ?_) (fun p2=> ?_)
 ·simp(disch:=omega) only[↓RA,RZ,simprocAttr,hn,a4j,p1,p2]
  exact⟨by rw[organE,if_neg p1',if_pos (by omega)],hS2.forget⟩
 simp(disch:=omega) only[↓RA,simprocAttr]
 refine hS2.bU a8Z fun M1 H3 hS3=> ?_
 simp only[RT]at hS3
 simp(disch:=omega) only[↓RA,RZ,simprocAttr,hn,hS3.ld 0 rfl,(hS3.sl ho.1).len,p1,p2]
 refine Wp.aq (fun n l H'=>l.length=89∧get l 1=(ptr A1 0 4)∧get l 3=(.map (some M1))∧get l 25=o.rv∧get l 26=I o.ranks.length∧∃(i:Nat)(kvs:List (ByteArray×Bool)),(n+i=o.ranks.length∧(∀j,j<i→oI o.ranks j=0)∧(∀t,qN kvs t=true↔∃q,q<i∧(iB o.ranks q).name=t))∧get l 27=I i∧St prog H H' [⟨ptr A1 0 4,0,[(.string o.name),o.rv,o.dv,o.cv]⟩,⟨.map (some M1),0,KS kvs⟩]) o.ranks.length ?_ ?_
 ·simp(disch:=omega) only[RB,RC,simprocAttr,hn]
  exact⟨0,[],⟨by omega,by simp,by simp[a3p]⟩,rfl,hS3⟩
 rintro n l H4⟨hn,g1,g3,g25,g26,i,kvs,⟨hi1,hz,hk⟩,g27,hS4⟩
 simp(disch:=omega) only[↓RA,RB,simprocAttr,hn,g26,g27]
 refine iA (fun q1=> ?_) (fun q1=> ?_)
 ·have key:oI o.ranks i≠0→organE o=oI o.ranks i:=fun hne=>by rw[organE,if_neg p1',if_neg (by omega),nU _ _ i (by omega) hne hz,if_pos hne]
  simp(disch:=omega) only[↓RA,RZ,simprocAttr,hn,g25,g27,(hS4.sl ho.1).idx,(hS4.sl ho.1).ai,Rk.cells,q1]
  refine hS4.eNew 6 [(.string ⟨#[]⟩),(.string ⟨#[]⟩),I 0,I 0,I 0,(.slice none 0 0)] rfl rfl rfl uP fun A2 H5 hS5=> ?_
  simp only[RT]at hS5
  simp(disch:=omega) only[↓RA,RZ,simprocAttr,hn,q1]
  refine hS5.ae 2 rfl [(.string (iB o.ranks i).name),(.string (iB o.ranks i).tone),I (iB o.ranks i).num,I (iB o.ranks i).den,I (iB o.ranks i).first,(iB o.ranks i).wv] rfl (by simp[OC,(hS5.sl (ho.2.1 (iB o.ranks i) (iD (by omega))).1).cells.2.1]) uP (by simp) fun H6 hS6=> ?_
  simp only[RT]at hS6
  simp(disch:=omega) only[↓RA,RZ,simprocAttr,hn,hS6.ai 2 rfl,q1]
  refine hS6.cF (b2i (iB o.ranks i) ((ho.2.1 _ (iD (by omega))).ag hS6)) fun H7 hS7=> ?_
  simp(disch:=omega) only[↓RA,RZ,simprocAttr,hn,q1]
  refine iA (fun q2=> ?_) (fun q2=> ?_)
  ·have e1:oI o.ranks i=rankE (iB o.ranks i):=by rw[oI,if_pos q2]
   simp(disch:=omega) only[↓RA,RZ,simprocAttr,hn,a4j,q1,q2]
   exact⟨by rw[key (by rw[e1];exact q2),e1],hS7.forget⟩
  simp(disch:=omega) only[↓RA,RZ,simprocAttr,hn,g3,hS7.ld 2 rfl,q1,q2]
  have hM1:=hS7.pick (os':=[⟨.map (some M1),0,_⟩]) [1] (by decide) rfl
  have hR1:=hS7.pick (os':=[⟨.map (some M1),0,_⟩,⟨ptr A1 0 4,0,_⟩,⟨ptr A2 0 6,0,_⟩]) [1,0,2] (by decide) rfl
  refine iG (a3I _ M1 kvs (iB o.ranks i).name hM1.aF) ?_
  rintro r H8⟨rfl,kvs',hk',hT3⟩
  have hS8:=hR1.frame hT3
  simp only[RT]at hS8
  simp(disch:=omega) only[↓RA,RZ,simprocAttr,hn,q1,q2]
  refine iA (fun q3=> ?_) (fun q3=> ?_)
  ·have q3':qN kvs (iB o.ranks i).name=true:=by
    by_cases hh:qN kvs (iB o.ranks i).name=true
    ·exact hh
    ·rw[if_neg hh]at q3;exact absurd rfl q3
   have e1:oI o.ranks i=9:=by rw[oI,if_neg q2,if_pos ((hk _).1 q3')]
   simp(disch:=omega) only[↓RA,RZ,simprocAttr,hn,a4j,q1,q2,q3]
   exact⟨by rw[key (by rw[e1];decide),e1,if_pos q3'],hS8.forget⟩
  have q3':¬qN kvs (iB o.ranks i).name=true:=fun hh=>q3 (by rw[if_pos hh];decide)
  have e0:oI o.ranks i=0:=by rw[oI,if_neg q2,if_neg (fun hh=>q3' ((hk _).2 hh))]
  simp(disch:=omega) only[↓RA,RZ,simprocAttr,hn,g1,g3,g25,g26,g27,q1,q2,q3]
  exact⟨n-1,by omega,i+1,kvs',⟨by omega,fun j hj=>by rcases dw.1 hj with e|e;(· exact hz j e);(· rw[e];exact e0),a0H (f:=fun q=>(iB o.ranks q).name) hk hk'⟩,by simp,hS8.pick [1,0] (by decide) rfl⟩
 have hR:lL (oI o.ranks) o.ranks.length=0:=kM _ _ fun j hj=>hz j (by omega)
 clear hk hz
 simp(disch:=omega) only[↓RA,RZ,simprocAttr,hn,g1,hS4.ld 0 rfl,(hS4.sl ho.2.2.1).len,q1]
 refine iA (fun p4=> ?_) (fun p4=> ?_)
 ·simp(disch:=omega) only[↓RA,RZ,simprocAttr,hn,a4j,q1,p4]
  exact⟨by rw[organE,if_neg p1',if_neg (by omega),if_neg (by rw[hR];simp),if_pos (by omega)],hS4.forget⟩
 simp(disch:=omega) only[↓RA,RZ,simprocAttr,hn,g1,hS4.ld 0 rfl,(hS4.sl ho.2.2.1).len,q1,p4]
 refine iA (fun p5=> ?_) (fun p5=> ?_)
 ·simp(disch:=omega) only[↓RA,RZ,simprocAttr,hn,a4j,q1,p4,p5]
  exact⟨by rw[organE,if_neg p1',if_neg (by omega),if_neg (by rw[hR];simp),if_neg (by omega),if_pos (by omega)],hS4.forget⟩
 have hE:organE o=if lL (tI o.ranks o.dvs) o.dvs.length≠0 then lL (tI o.ranks o.dvs) o.dvs.length else uM (kps o.dvs) o.cpls:=by
  rw[organE,if_neg p1',if_neg (by omega),if_neg (by rw[hR];simp),if_neg (by omega),if_neg (by omega)]
 clear hR
 simp(disch:=omega) only[↓RA,simprocAttr]
 refine hS4.bU a8Z fun M2 H9 hS9=> ?_
 simp only[RT]at hS9
 simp(disch:=omega) only[↓RA,RZ,simprocAttr,hn,g1,hS9.ld 0 rfl,(hS9.sl ho.2.2.1).len,q1,p4,p5]
 have hS10:=hS9.pick (os':=[⟨ptr A1 0 4,0,_⟩,⟨.map (some M2),0,_⟩]) [0,2] (by decide) rfl
 have hS11:=hS10.nil 1
 simp only[RT]at hS11
 refine Wp.aq (fun n l H'=>l.length=89∧get l 1=(ptr A1 0 4)∧get l 3=(.map (some M2))∧get l 56=o.dv∧get l 57=I o.dvs.length∧∃(i:Nat)(kvs:List (ByteArray×Bool))(w:Value),(n+i=o.dvs.length∧(∀j,j<i→tI o.ranks o.dvs j=0)∧(∀t,qN kvs t=true↔∃q,q<i∧(iB o.dvs q).name=t))∧get l 58=I i∧get l 8=w∧St prog H H' [⟨ptr A1 0 4,0,[(.string o.name),o.rv,o.dv,o.cv]⟩,⟨.map (some M2),0,KS kvs⟩,⟨w,2,(kps (o.dvs.take i)).flatMap kpc⟩]) o.dvs.length ?_ ?_
 ·simp(disch:=omega) only[RB,RC,simprocAttr,hn,g1]
  exact⟨0,[],_,⟨by omega,by simp,by simp[a3p]⟩,rfl,rfl,hS11⟩
 rintro n l H10⟨hn,g1,g3,g56,g57,i,kvs,w,⟨hi1,hz,hk⟩,g58,g8,hS12⟩
 simp(disch:=omega) only[↓RA,RB,simprocAttr,hn,g57,g58]
 refine iA (fun q1=> ?_) (fun q1=> ?_)
 ·have key:tI o.ranks o.dvs i≠0→organE o=tI o.ranks o.dvs i:=fun hne=>by rw[hE,nU _ _ i (by omega) hne hz,if_pos hne]
  simp(disch:=omega) only[↓RA,RZ,simprocAttr,hn,g56,g58,(hS12.sl ho.2.2.1).idx,(hS12.sl ho.2.2.1).ai,Dvn.cells,q1]
  refine hS12.eNew 5 [(.string ⟨#[]⟩),(.bool false),I 0,I 0,(.slice none 0 0)] rfl rfl rfl xB fun A3 H11 hS13=> ?_
  simp only[RT]at hS13
  simp(disch:=omega) only[↓RA,RZ,simprocAttr,hn,q1]
  refine hS13.ae 3 rfl [(.string (iB o.dvs i).name),(.bool (iB o.dvs i).pedal),I (iB o.dvs i).lo,I (iB o.dvs i).hi,(iB o.dvs i).sv] rfl (by simp[OC,(hS13.sl (ho.2.2.2.1 (iB o.dvs i) (iD (by omega))).1).cells.2.1]) xB (by simp) fun H12 hS14=> ?_
  simp only[RT]at hS14
  simp(disch:=omega) only[↓RA,RZ,simprocAttr,hn,hS14.ld 3 rfl,q1]
  refine hS14.cF (qY _) fun H13 hS15=> ?_
  simp(disch:=omega) only[↓RA,RZ,simprocAttr,hn,q1]
  refine jO (fun q2=> ?_) (fun q2=> ?_)
  ·have e1:tI o.ranks o.dvs i=8:=by rw[tI,if_pos (by simpa using q2)]
   simp(disch:=omega) only[↓RA,RZ,simprocAttr,hn,a4j,q1,q2]
   exact⟨by rw[key (by rw[e1];decide),e1],hS15.forget⟩
  have q2':¬lB (iB o.dvs i).name=false:=by simpa using q2
  simp(disch:=omega) only[↓RA,RZ,simprocAttr,hn,g3,hS15.ld 3 rfl,q1,q2]
  have hM2:=hS15.pick (os':=[⟨.map (some M2),0,_⟩]) [1] (by decide) rfl
  have hR2:=hS15.pick (os':=[⟨.map (some M2),0,_⟩,⟨ptr A1 0 4,0,_⟩,⟨w,2,_⟩,⟨ptr A3 0 5,0,_⟩]) [1,0,2,3] (by decide) rfl
  refine iG (a3I _ M2 kvs (iB o.dvs i).name hM2.aF) ?_
  rintro r H14⟨rfl,kvs',hk',hT5⟩
  have hS16:=hR2.frame hT5
  simp only[RT]at hS16
  simp(disch:=omega) only[↓RA,RZ,simprocAttr,hn,q1,q2]
  refine iA (fun q3=> ?_) (fun q3=> ?_)
  ·have q3':qN kvs (iB o.dvs i).name=true:=by
    by_cases hh:qN kvs (iB o.dvs i).name=true
    ·exact hh
    ·rw[if_neg hh]at q3;exact absurd rfl q3
   have e1:tI o.ranks o.dvs i=9:=by rw[tI,if_neg q2',if_pos ((hk _).1 q3')]
   simp(disch:=omega) only[↓RA,RZ,simprocAttr,hn,a4j,q1,q2,q3]
   exact⟨by rw[key (by rw[e1];decide),e1,if_pos q3'],hS16.forget⟩
  have q3':¬qN kvs (iB o.dvs i).name=true:=fun hh=>q3 (by rw[if_pos hh];decide)
  simp(disch:=omega) only[↓RA,RZ,simprocAttr,hn,g1,hS16.ai 1 rfl,hS16.ai 3 rfl,q1,q2,q3]
  refine hS16.cF (c3m o (ho.ag hS16) (iB o.dvs i) ((ho.2.2.2.1 _ (iD (by omega))).ag hS16)) fun H15 hS17=> ?_
  have e0:tI o.ranks o.dvs i=divE o.ranks (iB o.dvs i):=by rw[tI,if_neg q2',if_neg (fun hh=>q3' ((hk _).2 hh))]
  simp(disch:=omega) only[↓RA,RZ,simprocAttr,hn,q1,q2,q3]
  refine iA (fun q4=> ?_) (fun q4=> ?_)
  ·simp(disch:=omega) only[↓RA,RZ,simprocAttr,hn,a4j,q1,q2,q3,q4]
   exact⟨by rw[key (by rw[e0];exact q4),e0],hS17.forget⟩
  have e2:tI o.ranks o.dvs i=0:=by rw[e0];exact dy.1 q4
  simp(disch:=omega) only[↓RA,RZ,simprocAttr,hn,g8,hS17.ai 3 rfl,q1,q2,q3,q4]
  refine hS17.ak [I (iB o.dvs i).lo,I (iB o.dvs i).hi] c2x c7y rfl rfl (by simp[Value.cells]) rfl rfl (by decide) (by decide) fun w1 H16 hS18=> ?_
  simp only[RT]at hS18
  simp(disch:=omega) only[↓RA,RZ,simprocAttr,hn,q1,q2,q3,q4]
  refine hS18.aw 2 rfl (hS18.rd 4 rfl) c2x (by rw[iO wS];simp[kps];omega) fun w2 H17 hS19=> ?_
  simp only[RT]at hS19
  simp(disch:=omega) only[↓RA,RZ,simprocAttr,hn,g1,g3,g56,g57,g58,q1,q2,q3,q4]
  refine⟨n-1,by omega,i+1,kvs',_,⟨by omega,fun j hj=>by rcases dw.1 hj with e|e;(· exact hz j e);(· rw[e];exact e2),a0H (f:=fun q=>(iB o.dvs q).name) hk hk'⟩,by simp,rfl,?_⟩
  rw[b5u _ _ (by omega)]
  exact hS19.pick [1,0,2] (by decide) rfl
 have hD:lL (tI o.ranks o.dvs) o.dvs.length=0:=kM _ _ fun j hj=>hz j (by omega)
 have hi:i=o.dvs.length:=by omega
 subst hi
 rw[ee]at hS12
 simp(disch:=omega) only[↓RA,RZ,simprocAttr,hn,g1,g8,hS12.ld 0 rfl,q1]
 refine hS12.cF (a8T w o.cv (kps o.dvs) o.cpls (hS12.ay 2 rfl wS) (hS12.sl ho.2.2.2.2.1) (by simp[kps];omega) hlc) fun H18 hS20=> ?_
 simp(disch:=omega) only[↓RA,RZ,simprocAttr,hn,a4j,q1]
 exact⟨by rw[hE,if_neg (by rw[hD];simp)],hS20.forget⟩
end Go.Ds
