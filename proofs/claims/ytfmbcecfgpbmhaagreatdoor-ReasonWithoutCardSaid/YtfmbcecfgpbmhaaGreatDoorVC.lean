/-
  A part of the proof of ReasonWithout.
-/
import Derived.Test.YtfmbcecfgpbmhaaGreatDoorVB
import Derived.Test.YtfmbcecfgpbmhaaGreatDoorProg
import Derived.KernelRfl
import Derived.Lib.LaidTab
import Derived.Stop.LaidErr
import Derived.Laws.Strings
set_option linter.unusedVariables false
set_option linter.unusedSimpArgs false
set_option linter.defProp false
set_option linter.unusedSectionVars false
namespace Go.Ds
variable {P:Program}
structure CallsOk(P:Program)(C:Calls')(H0:Heap):Prop where
 fn:∀p f args H v H1,LK H0 H→(C.fn p f args H).Is v H1→p=lT f→(FnS P f args H (fun v' H'=>v'=v∧H'=H1)∨rT P f args H=some (v,H1))∧LK H H1
 rd:∀L args H v H1,LK H0 H→(C.rd L args H).Is v H1→a0u P L args H v H1∧LK H H1
noncomputable def jW (x:Operand):LArg:=match x with
 | .tmp t=>.t (lT t)
 | .const v=>.c v
 | .global g=>.c (.pointer (some ⟨g,0,none⟩))
 | .func k=>.c (.func (.func k) #[] #[])
theorem lZ{α:Type}(x:Operand)(K:LArg→α):nB x K=K (jW x):=by
 cases x with
 | tmp t=>exact mT _ _
 | _=>rfl
theorem kU{f:Fr}{l:List Value}(h:FAg f l)(x:Operand):oB f (jW x)=ev l x:=by
 cases x with
 | tmp t=>exact h t
 | _=>rfl
theorem a5b{α:Type}(l:List Operand)(K:List LArg→α):a6a l K=K (l.map jW):=by
 induction l generalizing K with
 | nil=>rfl
 | cons x l ih=>
   show nB x (fun x=>a6a l fun l=>K (x::l))=_
   rw[lZ,ih];rfl
theorem a8V{α:Type}{f:Fr}{l:List Value}(h:FAg f l)(xs:List Operand)(K:List Value→α):a5N f (xs.map jW) K=K (xs.map (ev l)):=by
 induction xs generalizing K with
 | nil=>rfl
 | cons x xs ih=>
   show pN (oB f (jW x)) (fun v=>a5N f (xs.map jW) fun l=>K (v::l))=_
   rw[oG,ih,kU h];rfl
theorem c5N{f:Fr}{l:List Value}(h:FAg f l):evF f=ev l:=by
 funext x
 cases x with
 | tmp t=>exact h t
 | _=>rfl
def yL(P:Program)(o:Oper)(lo:LOp):Prop:=∀C H0 f l H v H1,CallsOk P C H0→LK H0 H→FAg f l→(opF P C lo f H).Is v H1→StepR P o l H v H1∧LK H H1
def LowPl(P:Program)(o:Oper)(lo:LOp):Prop:=∀C f l H v H1,FAg f l→(opF P C lo f H).Is v H1→opD P o l H=some (v,H1)
theorem LowPl.low{o:Oper}{lo:LOp}(hok:o.op.operands.toList.all jS=true)(h:LowPl P o lo):yL P o lo:=
 fun C _ f l H v H1 _ _ hf hr=>by have:=h C f l H v H1 hf hr;exact⟨.op hok this,b7i this⟩
theorem c2y(o:Oper):yL P o .bad:=fun _ _ _ _ _ _ _ _ _ _ h=>absurd h Rs.ax
theorem c2K(o:Oper):LowPl P o (.gen o):=fun C f l H v H1 hf hr=>by
 have hr:(match c4v P o (evF f) H with|some (v,H1)=>Rs.th v H1|none=>.no).Is v H1:=hr
 rw[c5N hf]at hr
 have e:c4v P o (ev l) H=opD P o l H:=rfl
 rw[e]at hr
 split at hr
 ·rename_i v2 H2 h2
  obtain⟨rfl,rfl⟩:=Rs.aU hr
  exact h2
 ·exact absurd hr Rs.ax
section
variable {dst:Option Tmp} {type:TypeId} {pos:String} {after:Array Edge} {guard:Option (Nat×Bool)}
theorem c5J(x:Operand):LowPl P ⟨dst,.move x,type,pos,after,guard⟩ (.mv (jW x)):=fun C f l H v H1 hf hr=>by
 have hr:(pN (oB f (jW x)) fun v=>Rs.ok v H).Is v H1:=hr
 rw[oG,kU hf]at hr
 obtain⟨rfl,rfl⟩:=Rs.aP hr
 rfl
theorem c5H(x:Operand):LowPl P ⟨dst,.assign x,type,pos,after,guard⟩ (.mv (jW x)):=fun C f l H v H1 hf hr=>by
 have hr:(pN (oB f (jW x)) fun v=>Rs.ok v H).Is v H1:=hr
 rw[oG,kU hf]at hr
 obtain⟨rfl,rfl⟩:=Rs.aP hr
 rfl
theorem b9d(c a b:Operand):LowPl P ⟨dst,.pick c a b,type,pos,after,guard⟩ (.pick (jW c) (jW a) (jW b)):=fun C f l H v H1 hf hr=>by
 have hr:(b8X (jW c) (jW a) (jW b) f H).Is v H1:=hr
 unfold b8X at hr
 rw[kU hf]at hr
 split at hr
 ·rename_i t ht
  rw[oG]at hr
  simp only[opD,ht]
  cases t
  ·have hr:(Rs.ok (oB f (jW b)) H).Is v H1:=hr
   rw[kU hf]at hr
   obtain⟨rfl,rfl⟩:=Rs.aP hr;rfl
  ·have hr:(Rs.ok (oB f (jW a)) H).Is v H1:=hr
   rw[kU hf]at hr
   obtain⟨rfl,rfl⟩:=Rs.aP hr;rfl
 ·exact absurd hr Rs.ax
theorem c0V(a b:Int):c7p a b=a*b:=by cases a<;>cases b<;>rfl
theorem a6y(a b:Int):c6T a b=a.tdiv b:=by cases a<;>cases b<;>rfl
theorem a6c(a b:Int):c8U a b=a.tmod b:=by cases a<;>cases b<;>rfl
theorem c1f{op:BinOp}{g:IntKind→Int→Int→Option Value}(h:c1S op=some g)(k:IntKind)(a b:Int):oC op k a b=g k a b:=by
 cases op<;>simp only[c1S]at h<;>first|(cases h;done)|(injection h with h;subst h)
 all_goals first
  | rfl
  | (simp only[oC,c8r,c0V];done)
  | (simp only[oC,c3i,a6y];done)
  | (simp only[oC,c1c,a6c];done)
  | (simp only[oC,c3i,a6y];rfl)
  | (simp only[oC,c1c,a6c];rfl)
  | (simp only[oC,c3i,a6y];cases eqI b 0<;>rfl)
  | (simp only[oC,c1c,a6c];cases eqI b 0<;>rfl)
theorem c8O{o:Option Value}{H H1:Heap}{v:Value}(h:(oV o H).Is v H1):o=some v∧H1=H:=by
 cases o with
 | none=>exact absurd h Rs.ax
 | some w=>obtain⟨rfl,rfl⟩:=Rs.aU h;exact⟨rfl,rfl⟩
theorem b7A{o:Option Value}{H H1:Heap}{v:Value}(h:(okV o H).Is v H1):o=some v∧H1=H:=by
 cases o with
 | none=>exact absurd h Rs.ax
 | some w=>
   have h:(pN w fun v=>Rs.ok v H).Is v H1:=h
   rw[oG]at h
   obtain⟨rfl,rfl⟩:=Rs.aP h;exact⟨rfl,rfl⟩
theorem c3p{op:BinOp}{g:IntKind→Int→Int→Option Value}(hg:c1S op=some g)(t yt:TypeId)(x y:Operand):LowPl P ⟨dst,.binOp op t x y yt,type,pos,after,guard⟩ (.bin g (jW x) (jW y)):=fun C f l H v H1 hf hr=>by
 have hr:(c6g g (jW x) (jW y) f H).Is v H1:=hr
 unfold c6g at hr
 rw[kU hf]at hr
 split at hr
 ·rename_i k a hx
  unfold c3H at hr
  rw[kU hf]at hr
  split at hr
  ·rename_i k' b hy
   obtain⟨hk,hq⟩:=mI hr
   obtain rfl:=c2g hk
   obtain⟨hv,rfl⟩:=c8O hq
   rw[←c1f hg]at hv
   have:opD P ⟨dst,.binOp op t x y yt,type,pos,after,guard⟩ l H1=if k=k then(match oC op k a b with|some v=>some (v,H1)|none=>lS P ⟨dst,.binOp op t x y yt,type,pos,after,guard⟩ l H1)else lS P ⟨dst,.binOp op t x y yt,type,pos,after,guard⟩ l H1:=by
    simp only[opD,hx,hy]
    cases op<;>rfl
   rw[this,if_pos rfl,hv]
  ·exact absurd hr Rs.ax
 ·exact absurd hr Rs.ax
theorem c2s{b:Option Blk}{i e:Nat}{H H1:Heap}{v:Value}(h:(c2W b i e H).Is v H1):H1=H∧∃cs ty rw lo ver,b=some (.cells cs ty rw lo ver)∧lo≤e∧e≤cs.length∧i+1≤e∧cs[i]? =some v:=by
 unfold c2W at h
 split at h
 ·rename_i cs ty rw lo ver
  obtain⟨h1,h⟩:=mI h
  obtain⟨h2,h⟩:=mI h
  obtain⟨h3,h⟩:=mI h
  have h:(okV (a2m cs i) H).Is v H1:=h
  obtain⟨h4,h5⟩:=b7A h
  rw[a0f]at h2
  rw[a0F]at h4
  exact⟨h5,cs,ty,rw,lo,ver,rfl,fj h1,by simpa using h2,fj h3,h4⟩
 ·exact absurd h Rs.ax
theorem c2u{b:Option Blk}{n i e:Nat}{H H1:Heap}{v:Value}(h:(c1L b n i e H).Is v H1):H1=H∧∃cs ty rw lo ver,b=some (.cells cs ty rw lo ver)∧lo≤e∧e≤cs.length∧i+n≤e∧v=.agg ((cs.drop i).take n).toArray:=by
 unfold c1L at h
 split at h
 ·rename_i cs ty rw lo ver
  obtain⟨h1,h⟩:=mI h
  obtain⟨h2,h⟩:=mI h
  obtain⟨h3,h⟩:=mI h
  obtain⟨h4,h⟩:=a7S h
  obtain⟨rfl,rfl⟩:=Rs.aP h
  rw[a0f]at h2
  exact⟨rfl,cs,ty,rw,lo,ver,rfl,fj h1,by simpa using h2,fj h3,by rw[a8Z]⟩
 ·exact absurd h Rs.ax
theorem b3i{X:LArg}{f:Fr}{H H1:Heap}{v w:Value}{t:TypeId}(ht:kM P t=some false)(hw:oB f X=w)(h:(b4g X f H).Is v H1):H1=H∧mA P H t w=some v:=by
 unfold b4g at h
 rw[hw]at h
 split at h
 ·rename_i A i e
  obtain⟨h1,cs,ty,rw',lo,ver,h2,h3,h4,h5,h6⟩:=c2s h
  refine⟨h1,?_⟩
  simp only[mA,ht,kF,h2]
  rw[if_pos (by simp;omega)]
  simp[h6]
 ·rename_i A i
  unfold c5A at h
  split at h
  ·rename_i cs ty lo hg
   obtain⟨h1,h⟩:=mI h
   rw[a0f]at h1
   have h1:lo≤cs.length:=by simpa using h1
   cases hn:a2m cs i with
   | none=>rw[hn]at h;exact absurd h Rs.ax
   | some c=>
     rw[hn]at h
     have h:(pN c fun v=>Rs.ok v H).Is v H1:=h
     rw[oG]at h
     obtain⟨rfl,rfl⟩:=Rs.aP h
     rw[a0F]at hn
     have hi:=(dL.1 hn).1
     refine⟨rfl,?_⟩
     simp only[mA,ht,kF,hg]
     rw[if_pos (by simp;omega)]
     simp[hn]
  ·exact absurd h Rs.ax
 ·exact absurd h Rs.ax
theorem b3b{X:LArg}{f:Fr}{H H1:Heap}{v w:Value}{t:TypeId}{n:Nat}(ht:kM P t=some true)(hn:jD P t=some n)(hw:oB f X=w)(h:(b3R n X f H).Is v H1):H1=H∧mA P H t w=some v:=by
 unfold b3R at h
 rw[hw]at h
 split at h
 ·rename_i A i e
  obtain⟨h1,cs,ty,rw',lo,ver,h2,h3,h4,h5,h6⟩:=c2u h
  refine⟨h1,?_⟩
  simp only[mA,ht,hn,dz,kF,h2]
  rw[if_pos (by simp;omega),h6]
  rfl
 ·exact absurd h Rs.ax
theorem c1w{t:TypeId}(ht:kM P t=some false)(x:Operand):LowPl P ⟨dst,.load t x,type,pos,after,guard⟩ (.ld1 (jW x)):=fun C f l H v H1 hf hr=>by
 obtain⟨rfl,h⟩:=b3i (P:=P) ht (kU hf x) hr
 simp only[opD,h,ee]
theorem c1R{t:TypeId}{n:Nat}(ht:kM P t=some true)(hn:jD P t=some n)(x:Operand):LowPl P ⟨dst,.load t x,type,pos,after,guard⟩ (.ldn n (jW x)):=fun C f l H v H1 hf hr=>by
 obtain⟨rfl,h⟩:=b3b (P:=P) ht hn (kU hf x) hr
 simp only[opD,h,ee]
theorem c5Q{t:TypeId}{n:Nat}(hn:jD P t=some n)(x y:Operand):LowPl P ⟨dst,.store t x y,type,pos,after,guard⟩ (.st n (jW x) (jW y)):=fun C f l H v H1 hf hr=>by
 have hr:(hSt n (jW x) (jW y) f H).Is v H1:=hr
 unfold hSt at hr
 rw[kU hf,kU hf]at hr
 split at hr
 ·rename_i A i e hx
  unfold stB at hr
  split at hr
  ·rename_i cs ty lo ver hg
   obtain⟨h1,hr⟩:=mI hr
   obtain⟨h2,hr⟩:=mI hr
   obtain⟨h3,hr⟩:=mI hr
   obtain⟨h4,hr⟩:=mI hr
   obtain⟨h5,hr⟩:=mI hr
   obtain⟨rfl,rfl⟩:=Rs.aU hr
   rw[a0a]at h1 h3
   have h1:n=(ev l y).cells.toList.length:=by simpa only[decide_eq_true_eq]using h1
   have h3:e=cs.length:=by simpa only[decide_eq_true_eq]using h3
   have h4:i+n≤e:=fj h4
   have h5:lo≤e:=fj h5
   simp only[opD,sG,hx,hg]
   rw[if_pos ⟨by rw[hn,h1],h2,h3,by omega,h5⟩]
   simp only[ee]
   rw[h3]
  ·exact absurd hr Rs.ax
 ·exact absurd hr Rs.ax
theorem c6d{s:TypeId}{k n:Nat}{fd:Field}(hf':pW P s k=some fd)(hn:jD P fd.type=some n)(hn0:n≠0)(x:Operand):LowPl P ⟨dst,.fieldAddr s x k,type,pos,after,guard⟩ (.fa fd.offset (jW x)):=fun C f l H v H1 hf hr=>by
 have hr:(hFa fd.offset (jW x) f H).Is v H1:=hr
 unfold hFa at hr
 rw[kU hf]at hr
 split at hr
 ·rename_i A i e hx
  rw[kZ]at hr
  obtain⟨rfl,rfl⟩:=Rs.aP hr
  simp only[opD,hx,hf',dz,hn]
  rw[if_neg (by simpa using hn0)];rfl
 ·exact absurd hr Rs.ax
theorem b7R{A i e size n:Nat}{H H1:Heap}{j v:Value}(h:(ixP A i e size n H j).Is v H1):H1=H∧∃k m,j=.int k (.ofNat m)∧m<n∧v=.pointer (some ⟨A,i+m*size,some e⟩):=by
 unfold ixP at h
 split at h
 ·rename_i k m
  obtain⟨h1,h⟩:=mI h
  rw[kZ]at h
  obtain⟨rfl,rfl⟩:=Rs.aP h
  rw[blt_eq]at h1
  exact⟨rfl,k,m,rfl,by simpa using h1,rfl⟩
 ·exact absurd h Rs.ax
theorem c2D{t elem:TypeId}{size:Nat}(ht:P.underlying t=some (.slice elem))(hs:jD P elem=some size)(x i:Operand):LowPl P ⟨dst,.indexAddr t x i,type,pos,after,guard⟩ (.ixs size (jW x) (jW i)):=fun C f l H v H1 hf hr=>by
 have hr:(c6j size (jW x) (jW i) f H).Is v H1:=hr
 unfold c6j at hr
 rw[kU hf,kU hf]at hr
 split at hr
 ·rename_i A a e n c hx
  obtain⟨rfl,k,m,hj,hm,rfl⟩:=b7R hr
  simp only[opD,ht,hx,hj,hs,dz]
  rw[if_pos (by simp;omega)]
  rfl
 ·exact absurd hr Rs.ax
theorem c8C(a b:Nat):Nat.beq a b=(a==b):=by
 cases h:Nat.beq a b with
 | true=>rw[eK h];simp
 | false=>have:=Nat.ne_of_beq_eq_false h;simp[this]
theorem c5p{A i size n:Nat}{H H1:Heap}{j v:Value}(h:(ixG A i size n H j).Is v H1):H1=H∧∃k m,j=.int k (.ofNat m)∧m<n∧v=.pointer (some ⟨A,i+m*size,none⟩):=by
 unfold ixG at h
 split at h
 ·rename_i k m
  obtain⟨h1,h⟩:=mI h
  rw[kZ]at h
  obtain⟨rfl,rfl⟩:=Rs.aP h
  exact⟨rfl,k,m,rfl,by simpa [iY]using h1,rfl⟩
 ·exact absurd h Rs.ax
theorem c1X{t elem:TypeId}{n size:Nat}(ht:P.underlying t=some (.array n elem))(hs:jD P elem=some size)(x i:Operand):LowPl P ⟨dst,.indexAddr t x i,type,pos,after,guard⟩ (.ixa n size (jW x) (jW i)):=fun C f l H v H1 hf hr=>by
 have hr:(c4T n size (jW x) (jW i) f H).Is v H1:=hr
 unfold c4T at hr
 rw[kU hf,kU hf]at hr
 split at hr
 ·rename_i A a e hx
  obtain⟨rfl,k,m,hj,hm,rfl⟩:=b7R hr
  simp only[opD,ht,hx,hj,hs,dz]
  rw[if_pos (by simp;omega)]
  rfl
 ·rename_i A a hx
  obtain⟨rfl,k,m,hj,hm,rfl⟩:=c5p hr
  simp only[opD,ht,hx,hj,hs,dz]
  rw[if_pos (by simp;omega)]
  rfl
 ·exact absurd hr Rs.ax
theorem c2t(i:Nat)(x:Operand):LowPl P ⟨dst,.extract x i,type,pos,after,guard⟩ (.ext i (jW x)):=fun C f l H v H1 hf hr=>by
 have hr:(c5U i (jW x) f H).Is v H1:=hr
 unfold c5U at hr
 rw[kU hf]at hr
 split at hr
 ·rename_i vs hx
  obtain⟨h1,rfl⟩:=b7A hr
  rw[a0F]at h1
  simp only[opD,hx]
  simp[h1]
 ·exact absurd hr Rs.ax
theorem c2c{c:Call}{elem:TypeId}(hc:c.callee=.builtin .len)(h1:c.args.size=1)(h2:c.argTypes.size=1)(ht:P.underlying (c.argTypes.getD 0 0)=some (.slice elem)):LowPl P ⟨dst,.call c,type,pos,after,guard⟩ (.len (jW (c.args.getD 0 (.tmp 0)))):=fun C f l H v H1 hf hr=>by
 have hr:(c4P (jW (c.args.getD 0 (.tmp 0))) f H).Is v H1:=hr
 unfold c4P at hr
 rw[kU hf]at hr
 split at hr
 ·rename_i a n k hx
  obtain⟨rfl,rfl⟩:=Rs.aU hr
  simp only[opD,hc,h1,h2,ht,hx,zA];rfl
 ·exact absurd hr Rs.ax
theorem b7p{c:Call}(hc:c.callee=.builtin .len)(h1:c.args.size=1)(h2:c.argTypes.size=1)(ht:P.underlying (c.argTypes.getD 0 0)=some .string):LowPl P ⟨dst,.call c,type,pos,after,guard⟩ (.slen (jW (c.args.getD 0 (.tmp 0)))):=fun C f l H v H1 hf hr=>by
 have hr:(c0m (jW (c.args.getD 0 (.tmp 0))) f H).Is v H1:=hr
 unfold c0m at hr
 rw[kU hf]at hr
 split at hr
 ·rename_i s hx
  obtain⟨rfl,rfl⟩:=Rs.aU hr
  simp only[opD,hc,h1,h2,ht,hx,zA];rfl
 ·exact absurd hr Rs.ax
theorem c2k{c:Call}{elem:TypeId}{size bytes:Nat}{z:Value}(hc:c.callee=.builtin .append)(h1:c.args.size=2)(h2:c.argTypes.size=2)(hi:((P.underlying (c.argTypes.getD 1 0)).map rK)=some true)
 (he:jJ P (c.argTypes.getD 0 0)=some elem) (hs:jD P elem=some size) (hb:pB P elem=some bytes) (hz:jZ P elem=some z) (hzs:z.cells.size=size) (hs0:size≠0):
 LowPl P ⟨dst,.call c,type,pos,after,guard⟩ (.app elem size bytes (jW (c.args.getD 0 (.tmp 0))) (jW (c.args.getD 1 (.tmp 0)))):=fun C f l H v H1 hf hr=>by
 have hr:(c5o P elem size bytes (jW (c.args.getD 0 (.tmp 0))) (jW (c.args.getD 1 (.tmp 0))) f H).Is v H1:=hr
 unfold c5o at hr
 rw[kU hf,kU hf]at hr
 have hD:opD P ⟨dst,.call c,type,pos,after,guard⟩ l H=oX P H (c.argTypes.getD 0 0) (ev l (c.args.getD 0 (.tmp 0))) (ev l (c.args.getD 1 (.tmp 0))):=by
  simp only[opD,hc,h1,h2,hi];rfl
 rw[hD]
 unfold oX
 rw[he,dz,hs,dz,hb,dz,hz,dz]
 split at hr
 ·rename_i n m hsrc
  rw[hsrc,dz]
  unfold c7X at hr
  split at hr
  ·rename_i k cc hx
   obtain⟨g1,hq1⟩:=mI hr
   obtain⟨g2,hq2⟩:=mI hq1
   obtain⟨g3,hq⟩:=mI hq2
   clear hr hq1 hq2
   obtain rfl:k=0:=eK g1
   obtain rfl:cc=0:=eK g2
   have g3:n*(bytes+1)≤qH:=fj g3
   simp only[hx]
   rw[if_pos (by simp[hs0,hzs,g3])]
   rw[lM]at hq
   by_cases hn:n=0
   ·subst hn
    rw[if_pos (by rfl)]at hq
    obtain⟨rfl,rfl⟩:=Rs.aP hq
    simp
   ·rw[if_neg (fun e=>hn (eK e))]at hq
    obtain⟨rfl,rfl⟩:=Rs.aU hq
    simp[hn]
  ·rename_i A i e k cc hx
   unfold c7o at hr
   split at hr
   ·rename_i cs ty lo ver hg
    obtain⟨g2,hr⟩:=mI hr
    obtain⟨g4,hr⟩:=mI hr
    obtain⟨g5,hr⟩:=mI hr
    have g2:(ty==elem||jD P ty==some size)=true:=by
     rw[c8C]at g2
     cases hh:(ty==elem)with
     | true=>rfl
     | false=>rw[hh]at g2;exact g2
    rw[a0a]at g4
    have g4:e=cs.length:=by simpa only[decide_eq_true_eq]using g4
    have g5:lo≤e:=fj g5
    simp only[hx,hg]
    rw[lM]at hr
    by_cases g3:i+k*size=e
    ·rw[if_pos (by simpa using g3)]at hr
     obtain⟨g1,hr⟩:=mI hr
     obtain⟨rfl,rfl⟩:=Rs.aU hr
     have g1:(k+n)*(bytes+1)≤qH:=fj g1
     have et:(Bool.rec (motive:=fun _=>Nat) 2 ver (Nat.beq ty elem))=(if(ty==elem)=true then ver else 2):=by
      rw[c8C]
      cases hh:(ty==elem)with
      | true=>rfl
      | false=>rfl
     rw[et,if_pos (by simp only[g2,gh,dy,bne_iff_ne,beq_iff_eq,decide_eq_true_eq];exact⟨⟨⟨⟨⟨hs0,g1⟩,by simpa using hzs⟩,g3⟩,g4⟩,g5⟩)]
    ·rw[if_neg (by simpa using g3)]at hr
     rw[lM]at hr
     by_cases hn:n=0
     ·rw[if_pos (by simpa using hn)]at hr
      exact absurd hr Rs.ax
     ·rw[if_neg (by simpa using hn)]at hr
      obtain⟨g6,hr⟩:=mI hr
      obtain⟨rfl,rfl⟩:=Rs.aU hr
      have g6:i+(k+n)*size≤e:=fj g6
      rw[if_neg (by simp[g3]),if_pos (by simp only[g2,gh,dy,bne_iff_ne,beq_iff_eq,decide_eq_true_eq];exact⟨⟨⟨⟨⟨hs0,hn⟩,by simpa using hzs⟩,g6⟩,g4⟩,g5⟩),g4]
   ·exact absurd hr Rs.ax
  ·exact absurd hr Rs.ax
 ·exact absurd hr Rs.ax
theorem b5U{c:Call}{k:FuncId}(hc:c.callee=.value (.func k))(hok:(Op.call c).operands.toList.all jS=true):yL P ⟨dst,.call c,type,pos,after,guard⟩ (.callF k (lT k) (c.args.toList.map jW)):=fun C H0 f l H v H1 hC hk hf hr=>by
 have hr:(a5N f (c.args.toList.map jW) fun l=>C.fn (lT k) k l H).Is v H1:=hr
 rw[a8V hf]at hr
 obtain⟨h1|hx,h2⟩:=hC.fn _ _ _ _ _ _ hk hr rfl
 case inr=>exact⟨.ext hok c (.func k) k #[] #[] rfl hc rfl (by simpa using hx),h2⟩
 obtain⟨he,v',H',hcall,rfl,rfl⟩:=h1.fn
 exact⟨.call hok c (.func k) k #[] #[] rfl hc rfl he (by simpa using hcall),h2⟩
theorem b5H{c:Call}{g:Operand}(hc:c.callee=.value g)(hok:(Op.call c).operands.toList.all jS=true):yL P ⟨dst,.call c,type,pos,after,guard⟩ (.callV (jW g) (c.args.toList.map jW)):=fun C H0 f l H v H1 hC hk hf hr=>by
 have hr:(a5N f (c.args.toList.map jW) fun l=>b1B C l H (oB f (jW g))).Is v H1:=hr
 rw[a8V hf,kU hf]at hr
 unfold b1B at hr
 split at hr
 ·rename_i k a b hg
  rw[kZ,mT]at hr
  obtain⟨h1|hx,h2⟩:=hC.fn _ _ _ _ _ _ hk hr rfl
  case inr=>exact⟨.ext hok c g k ⟨a⟩ ⟨b⟩ rfl hc hg (by simpa [a0G]using hx),h2⟩
  obtain⟨he,v',H',hcall,rfl,rfl⟩:=h1.fn
  exact⟨.call hok c g k ⟨a⟩ ⟨b⟩ rfl hc hg he (by simpa [a0G]using hcall),h2⟩
 ·rename_i L a b hg
  obtain⟨h1,h2⟩:=hC.rd _ _ _ _ _ hk hr
  exact⟨.round hok c g L _ _ rfl hc hg h1,h2⟩
 ·exact absurd hr Rs.ax
end
set_option maxHeartbeats 1000000 in
theorem b3s{α:Type}(o:Oper)(K:LOp→α):∃lo,yL P o lo∧a0I P o K=K lo:=by
 unfold a0I
 rw[lM]
 by_cases hok:o.op.operands.toList.all jS=true
 case neg=>rw[if_neg hok];exact⟨_,c2y o,rfl⟩
 rw[if_pos hok]
 have gen:∃lo,yL P o lo∧K (.gen o)=K lo:=⟨_,(c2K o).low hok,rfl⟩
 obtain⟨dst,op,type,pos,after,guard⟩:=o
 unfold c7u
 cases op with
 | move x=>simp only[lZ];exact⟨_,(c5J x).low hok,rfl⟩
 | assign x=>simp only[lZ];exact⟨_,(c5H x).low hok,rfl⟩
 | pick c a b=>simp only[lZ];exact⟨_,(b9d c a b).low hok,rfl⟩
 | binOp op t x y yt=>
   simp only[lZ,lM]
   split
   ·split
    ·rename_i g hg;exact⟨_,(c3p hg t yt x y).low hok,rfl⟩
    ·exact gen
   ·exact gen
 | load t x=>
   simp only[lZ]
   split
   ·rename_i ht
    cases hn:jD P t with
    | none=>exact gen
    | some n=>rw[qM];exact⟨_,(c1R ht hn x).low hok,rfl⟩
   ·rename_i ht;exact⟨_,(c1w ht x).low hok,rfl⟩
   ·exact gen
 | store t x y=>
   simp only[lZ]
   cases hn:jD P t with
   | none=>exact gen
   | some n=>rw[qM];exact⟨_,(c5Q hn x y).low hok,rfl⟩
 | fieldAddr s x k=>
   simp only[lZ]
   split
   ·rename_i fd hfd
    split
    ·exact gen
    ·rename_i n hn0 hn
     rw[kZ]
     exact⟨_,(c6d hfd hn (fun e=>hn0 e) x).low hok,rfl⟩
    ·exact gen
   ·exact gen
 | indexAddr t x i=>
   simp only[lZ]
   split
   ·rename_i elem ht
    cases hs:jD P elem with
    | none=>exact gen
    | some n=>rw[qM];exact⟨_,(c2D ht hs x i).low hok,rfl⟩
   ·rename_i n elem ht
    cases hs:jD P elem with
    | none=>exact gen
    | some m=>rw[qM];exact⟨_,(c1X ht hs x i).low hok,rfl⟩
   ·exact gen
 | extract t i=>simp only[lZ];rw[kZ];exact⟨_,(c2t i t).low hok,rfl⟩
 | call c=>
   simp only
   unfold b8U
   split
   ·rename_i k hc
    rw[mT,a5b]
    exact⟨_,b5U hc hok,rfl⟩
   ·rename_i g _ hc
    rw[lZ,a5b]
    exact⟨_,b5H hc hok,rfl⟩
   ·rename_i hc
    rw[lM]
    split
    ·rename_i h1
     simp only[dy,beq_iff_eq]at h1
     split
     ·rename_i elem ht;rw[lZ];exact⟨_,(c2c hc h1.1 h1.2 ht).low hok,rfl⟩
     ·rename_i ht;rw[lZ];exact⟨_,(b7p hc h1.1 h1.2 ht).low hok,rfl⟩
     ·exact gen
    ·exact gen
   ·rename_i hc
    rw[lM]
    split
    ·rename_i h1
     simp only[dy,beq_iff_eq]at h1
     split
     ·rename_i elem he
      cases hs:jD P elem with
      | none=>exact gen
      | some size=>
        rw[qM]
        cases hb:pB P elem with
        | none=>exact gen
        | some bytes=>
          rw[qM]
          split
          ·rename_i z hz
           rw[lM]
           split
           ·rename_i h2
            simp only[dy,beq_iff_eq,bne_iff_ne]at h2
            rw[kZ,lZ,lZ]
            exact⟨_,(c2k hc h1.1.1 h1.1.2 h1.2 he hs hb hz h2.1 h2.2).low hok,rfl⟩
           ·exact gen
          ·exact gen
     ·exact gen
    ·exact gen
   ·exact gen
 | _=>exact gen
def DOk(k:Nat)(dst:Option Tmp)(d:Option Pth):Prop:=(dst=none∧d=none)∨∃t,dst=some t∧t<k∧d=some (lT t)
inductive LowOps(P:Program)(k:Nat)(ops:Array Oper):List Oper→LOps→Prop
 | nil:LowOps P k ops [] .nil
 | cons {o:Oper} {os:List Oper} {d:Option Pth} {lo:LOp} {r:LOps} (hd:DOk k o.dst d) (ho:yL P o lo) (hg:o.guard=none) (hr:LowOps P k ops os r):LowOps P k ops (o::os) (.cons d lo r)
 | gcons {o:Oper} {os:List Oper} {d:Option Pth} {lo:LOp} {r:LOps} {j t:Nat} {w:Bool} (hd:DOk k o.dst d) (ho:yL P o lo) (hg:o.guard=some (j,w)) (ht:(ops[j]?).bind (·.dst)=some t) (htk:t<k) (hr:LowOps P k ops os r):LowOps P k ops (o::os) (.gcons (lT t) w d lo r)
def GOk(ops:Array Oper)(o:Oper)(g:Option (Pth×Bool)):Prop:=(o.guard=none∧g=none)∨∃j w t,o.guard=some (j,w)∧(ops[j]?).bind (·.dst)=some t∧g=some (lT t,w)
theorem GOk.runs{ops:Array Oper}{o:Oper}{g:Option (Pth×Bool)}(h:GOk ops o g){f:Fr}{l:List Value}(hf:FAg f l)(hw:Region.wanted o (jV ops l)=true):b8c f g=true:=by
 rcases h with⟨_,rfl⟩|⟨j,w,t,hg,ht,rfl⟩
 ·rfl
 ·simp only[Region.wanted,hg,jV,ht]at hw
  show isB (pM (lT t) f) w=true
  rw[hf t,pV,dB]
  cases hl:l[t]? with
  | none=>rw[hl]at hw;simp at hw
  | some v=>
    rw[hl]at hw
    cases v<;>simp at hw
    subst hw
    rename_i b
    cases b<;>rfl
inductive LowTab(P:Program)(ops:Array Oper):List (Nat×Nat)→List (Nat×Option Nat×Option (Pth×Bool)×LOp)→Prop
 | nil:LowTab P ops [] []
 | cons {i m:Nat} {o:Oper} {lo:LOp} {tab:List (Nat×Nat)} {t:List (Nat×Option Nat×Option (Pth×Bool)×LOp)} {g:Option (Pth×Bool)} (ho:ops[i]? =some o) (hgd:GOk ops o g) (hl:yL P o lo) (hr:LowTab P ops tab t):
    LowTab P ops ((i,m)::tab) ((ops.size-1-i,if m<ops.size then some (ops.size-1-m)else none,g,lo)::t)
inductive Low(P:Program)(k:Nat):Code→LCode→Prop
 | bad (c:Code):Low P k c .bad
 | skip:Low P k .skip .skip
 | label (t:Nat):Low P k (.label t) .skip
 | reg {id:Nat} {ops:Array Oper} {d:Bool} {lo:LOps} (h:LowOps P k ops ops.toList lo) (hd:d=true→oK P ops=some []):Low P k (.region id ops d) (.reg lo)
 | drw {id:Nat} {ops:Array Oper} {lo:LOps} {tab:List (Nat×Nat)} {t:List (Nat×Option Nat×Option (Pth×Bool)×LOp)} (h:LowOps P k ops ops.toList lo) (ht:oK P ops=some tab) (hl:LowTab P ops tab t):Low P k (.region id ops true) (.drw lo t)
 | seq {a b:Code} {A B:LCode} (ha:Low P k a A) (hb:Low P k b B):Low P k (.seq a b) (.seq A B)
 | cond {c:Operand} {x y:Code} {X Y:LCode} (hc:jS c=true) (hx:Low P k x X) (hy:Low P k y Y):Low P k (.cond c x y) (.cond (jW c) X Y)
 | block {id:Nat} {b:Code} {B:LCode} (hb:Low P k b B):Low P k (.block id b) (.block id B)
 | loop {b:Code} {B:LCode} (hb:Low P k b B):Low P k (.loop b) (.loop B)
 | exit (id:Nat):Low P k (.exit id) (.exit id)
 | ret:Low P k .ret .ret
 | range {g:Operand} {ps:Array Tmp} {assign body:Code} {A B:LCode} (hg:jS g=true) (hps:∀t∈ps.toList,t<k) (ha:Low P k assign A) (hb:Low P k body B):
    Low P k (.rangeFunc g ps assign body) (.range (jW g) ((List.range k).map lT) (ps.toList.map lT) ps assign body A B)
section
variable {α:Type}
theorem b7k(k:Nat)(dst:Option Tmp)(no:α)(K:Option Pth→α):(∃d,DOk k dst d∧a7N k dst no K=K d)∨a7N k dst no K=no:=by
 cases dst with
 | none=>exact .inl ⟨none,.inl ⟨rfl,rfl⟩,rfl⟩
 | some t=>
   simp only[a7N,lM]
   split
   ·rename_i h
    rw[mT]
    rw[blt_eq]at h
    exact .inl ⟨_,.inr ⟨t,rfl,by simpa using h,rfl⟩,rfl⟩
   ·exact .inr rfl
theorem a3C(k:Nat)(ops:Array Oper)(l:List Oper)(K:LOps→α)(no:α):(∃L,LowOps P k ops l L∧wJ P k ops l K no=K L)∨wJ P k ops l K no=no:=by
 induction l generalizing K with
 | nil=>exact .inl ⟨_,.nil,rfl⟩
 | cons o l ih=>
   let K2:Option Pth→LOp→α:=fun d o'=>match o.guard with
    | none=>wJ P k ops l (fun r=>K (.cons d o' r)) no
    | some (j,w)=>match (ops[j]?).bind (·.dst)with
      | some t=>pK (Nat.blt t k) no (mV (lT t) fun p=>a1t w fun w=>wJ P k ops l (fun r=>K (.gcons p w d o' r)) no)
      | none=>no
   have e:wJ P k ops (o::l) K no=a7N k o.dst no fun d=>a0I P o fun o'=>K2 d o':=rfl
   rw[e]
   rcases b7k k o.dst no (fun d=>a0I P o fun o'=>K2 d o')with⟨d,hd,h1⟩|h1
   ·rw[h1]
    obtain⟨lo,hlo,h2⟩:=b3s (P:=P) o (fun o'=>K2 d o')
    rw[h2]
    simp only[K2]
    split
    ·rename_i hg
     rcases ih (fun r=>K (.cons d lo r))with⟨L,hL,h3⟩|h3
     ·exact .inl ⟨_,.cons hd hlo hg hL,h3⟩
     ·exact .inr h3
    ·rename_i j w hg
     split
     ·rename_i t ht
      rw[lM]
      split
      ·rename_i htk
       rw[mT,xZ]
       rw[blt_eq]at htk
       rcases ih (fun r=>K (.gcons (lT t) w d lo r))with⟨L,hL,h3⟩|h3
       ·exact .inl ⟨_,.gcons hd hlo hg ht (by simpa using htk) hL,h3⟩
       ·exact .inr h3
      ·exact .inr rfl
     ·exact .inr rfl
   ·exact .inr h1
theorem c5v(k:Nat)(ops:Array Oper)(o:Oper)(no:α)(K:Option (Pth×Bool)→α):(∃g,GOk ops o g∧loG k ops o.guard no K=K g)∨loG k ops o.guard no K=no:=by
 cases hg:o.guard with
 | none=>exact .inl ⟨none,.inl ⟨hg,rfl⟩,rfl⟩
 | some x=>
   obtain⟨j,w⟩:=x
   unfold loG
   cases ht:(ops[j]?).bind (·.dst)with
   | none=>exact .inr (by simp only[ht])
   | some t=>
     simp only[ht,lM]
     split
     ·refine .inl ⟨some (lT t,w),.inr ⟨j,w,t,hg,ht,rfl⟩,?_⟩
      rw[mT,xZ]
     ·exact .inr rfl
theorem c0h(k:Nat)(ops:Array Oper)(tab:List (Nat×Nat))(K:List (Nat×Option Nat×Option (Pth×Bool)×LOp)→α)(no:α):(∃t,LowTab P ops tab t∧vT P k ops ops.size tab K no=K t)∨vT P k ops ops.size tab K no=no:=by
 induction tab generalizing K with
 | nil=>exact .inl ⟨_,.nil,rfl⟩
 | cons x tab ih=>
   obtain⟨i,m⟩:=x
   cases ho:ops[i]? with
   | none=>
     refine .inr ?_
     show(match ops[i]? with
      | some o=>_
      | none=>no)=no
     rw[ho]
   | some o=>
     let K2:Option (Pth×Bool)→LOp→α:=fun g o'=>lD (ops.size-1-i) fun i=>pK (Nat.blt m ops.size) (vT P k ops ops.size tab (fun l=>K ((i,none,g,o')::l)) no) (lD (ops.size-1-m) fun m=>vT P k ops ops.size tab (fun l=>K ((i,some m,g,o')::l)) no)
     have e:vT P k ops ops.size ((i,m)::tab) K no=loG k ops o.guard no fun g=>a0I P o fun o'=>K2 g o':=by
      show(match ops[i]? with
       | some o=>loG k ops o.guard no fun g=>a0I P o fun o'=>K2 g o'
       | none=>no)=_
      rw[ho]
     rw[e]
     rcases c5v k ops o no (fun g=>a0I P o fun o'=>K2 g o')with⟨g,hgd,h1⟩|h1
     ·rw[h1]
      obtain⟨lo,hlo,h2⟩:=b3s (P:=P) o (fun o'=>K2 g o')
      rw[h2]
      show(∃t,_∧lD (ops.size-1-i) (fun i=>pK (Nat.blt m ops.size) (vT P k ops ops.size tab (fun l=>K ((i,none,g,lo)::l)) no) (lD (ops.size-1-m) fun m=>vT P k ops ops.size tab (fun l=>K ((i,some m,g,lo)::l)) no))=K t)∨lD (ops.size-1-i) (fun i=>pK (Nat.blt m ops.size) (vT P k ops ops.size tab (fun l=>K ((i,none,g,lo)::l)) no) (lD (ops.size-1-m) fun m=>vT P k ops ops.size tab (fun l=>K ((i,some m,g,lo)::l)) no))=no
      rw[kZ,lM,kZ,blt_eq]
      by_cases hm:m<ops.size
      ·rw[if_pos (by simpa using hm)]
       rcases ih (fun l=>K ((ops.size-1-i,some (ops.size-1-m),g,lo)::l))with⟨t,ht,h3⟩|h3
       ·have:=LowTab.cons (m:=m) ho hgd hlo ht
        rw[if_pos hm]at this
        exact .inl ⟨_,this,h3⟩
       ·exact .inr h3
      ·rw[if_neg (by simpa using hm)]
       rcases ih (fun l=>K ((ops.size-1-i,none,g,lo)::l))with⟨t,ht,h3⟩|h3
       ·have:=LowTab.cons (m:=m) ho hgd hlo ht
        rw[if_neg hm]at this
        exact .inl ⟨_,this,h3⟩
       ·exact .inr h3
     ·exact .inr h1
theorem b3X(k:Nat)(l:List Tmp)(K:List Pth→α)(no:α):((∀t∈l,t<k)∧zO k l K no=K (l.map lT))∨zO k l K no=no:=by
 induction l generalizing K with
 | nil=>exact .inl ⟨by simp,rfl⟩
 | cons t l ih=>
   show _∨pK (Nat.blt t k) no (mV (lT t) fun p=>zO k l (fun l=>K (p::l)) no)=no
   have e:zO k (t::l) K no=pK (Nat.blt t k) no (mV (lT t) fun p=>zO k l (fun l=>K (p::l)) no):=rfl
   rw[e,lM,mT,blt_eq]
   by_cases h:t<k
   ·rw[if_pos (by simpa using h)]
    rcases ih (fun l=>K (lT t::l))with⟨h1,h2⟩|h2
    ·exact .inl ⟨by simpa using⟨h,h1⟩,h2⟩
    ·exact .inr h2
   ·rw[if_neg (by simpa using h)];exact .inr rfl
theorem b4G(k:Nat)(c:Code)(K:LCode→α):∃C,Low P k c C∧oO P k c K=K C:=by
 induction c generalizing K with
 | skip=>exact⟨_,.skip,rfl⟩
 | region id ops d=>
   cases d with
   | false=>
     show ∃C,_∧wJ P k ops ops.toList (fun l=>K (.reg l)) (K .bad)=K C
     rcases a3C (P:=P) k ops ops.toList (fun l=>K (.reg l)) (K .bad)with⟨L,hL,h⟩|h
     ·exact⟨_,.reg hL (fun h=>by cases h),h⟩
     ·exact⟨_,.bad _,h⟩
   | true=>
     show ∃C,_∧(match oK P ops with
      | some []=>wJ P k ops ops.toList (fun l=>K (.reg l)) (K .bad)
      | some tab=>wJ P k ops ops.toList (fun l=>vT P k ops ops.size tab (fun t=>K (.drw l t)) (K .bad)) (K .bad)
      | none=>K .bad)=K C
     split
     ·rename_i hd
      rcases a3C (P:=P) k ops ops.toList (fun l=>K (.reg l)) (K .bad)with⟨L,hL,h⟩|h
      ·exact⟨_,.reg hL (fun _=>hd),h⟩
      ·exact⟨_,.bad _,h⟩
     ·rename_i tab _ hd
      rcases a3C (P:=P) k ops ops.toList (fun l=>vT P k ops ops.size tab (fun t=>K (.drw l t)) (K .bad)) (K .bad)with⟨L,hL,h⟩|h
      ·rw[h]
       rcases c0h (P:=P) k ops tab (fun t=>K (.drw L t)) (K .bad)with⟨t,ht,h2⟩|h2
       ·exact⟨_,.drw hL hd ht,h2⟩
       ·exact⟨_,.bad _,h2⟩
      ·exact⟨_,.bad _,h⟩
     ·exact⟨_,.bad _,rfl⟩
 | seq a b iha ihb=>
   show ∃C,_∧oO P k a (fun a=>oO P k b fun b=>K (.seq a b))=K C
   obtain⟨A,hA,h1⟩:=iha (fun a=>oO P k b fun b=>K (.seq a b))
   obtain⟨B,hB,h2⟩:=ihb (fun b=>K (.seq A b))
   exact⟨_,.seq hA hB,h1.trans h2⟩
 | cond c x y ihx ihy=>
   show ∃C,_∧pK (jS c) (K .bad) (nB c fun c=>oO P k x fun x=>oO P k y fun y=>K (.cond c x y))=K C
   rw[lM]
   split
   ·rename_i hc
    rw[lZ]
    obtain⟨X,hX,h1⟩:=ihx (fun x=>oO P k y fun y=>K (.cond (jW c) x y))
    obtain⟨Y,hY,h2⟩:=ihy (fun y=>K (.cond (jW c) X y))
    exact⟨_,.cond hc hX hY,h1.trans h2⟩
   ·exact⟨_,.bad _,rfl⟩
 | block id b ih=>
   show ∃C,_∧lD id (fun id=>oO P k b fun b=>K (.block id b))=K C
   rw[kZ]
   obtain⟨B,hB,h1⟩:=ih (fun b=>K (.block id b))
   exact⟨_,.block hB,h1⟩
 | loop b ih=>
   show ∃C,_∧oO P k b (fun b=>K (.loop b))=K C
   obtain⟨B,hB,h1⟩:=ih (fun b=>K (.loop b))
   exact⟨_,.loop hB,h1⟩
 | rangeFunc g ps assign body iha ihb=>
   show ∃C,_∧pK (jS g) (K .bad) (nB g fun g'=>b4j k fun pp=>zO k ps.toList (fun q=>oO P k assign fun a=>oO P k body fun b=>K (.range g' pp q ps assign body a b)) (K .bad))=K C
   rw[lM]
   split
   ·rename_i hg
    rw[lZ,b2W]
    rcases b3X k ps.toList (fun q=>oO P k assign fun a=>oO P k body fun b=>K (.range (jW g) ((List.range k).map lT) q ps assign body a b)) (K .bad)with⟨hps,h⟩|h
    ·obtain⟨A,hA,h1⟩:=iha (fun a=>oO P k body fun b=>K (.range (jW g) ((List.range k).map lT) (ps.toList.map lT) ps assign body a b))
     obtain⟨B,hB,h2⟩:=ihb (fun b=>K (.range (jW g) ((List.range k).map lT) (ps.toList.map lT) ps assign body A b))
     exact⟨_,.range hg hps hA hB,h.trans (h1.trans h2)⟩
    ·exact⟨_,.bad _,h⟩
   ·exact⟨_,.bad _,rfl⟩
 | exit id=>
   show ∃C,_∧lD id (fun id=>K (.exit id))=K C
   rw[kZ]
   exact⟨_,.exit id,rfl⟩
 | label t=>exact⟨_,.label t,rfl⟩
 | ret=>exact⟨_,.ret,rfl⟩
 | scope b _=>exact⟨_,.bad _,rfl⟩
 | goto t=>exact⟨_,.bad _,rfl⟩
 | refuse w=>exact⟨_,.bad _,rfl⟩
end
theorem xX{α:Type}{k:Nat}{f:Fr}{l:List Value}(h:FRel k f l){dst:Option Tmp}{d:Option Pth}(hd:DOk k dst d)(v:Value)(K:Fr→α):∃f',wM d v f K=K f'∧FRel k f' (put l dst v):=by
 rcases hd with⟨rfl,rfl⟩|⟨t,rfl,ht,rfl⟩
 ·exact⟨f,rfl,h⟩
 ·exact⟨b8G f t v,vJ v (lT t) f K,h.put ht v⟩
theorem a0x{ops:Array Oper}{l:List Value}{j t:Nat}(ht:(ops[j]?).bind (·.dst)=some t)(htl:t<l.length)(w:Bool):(jV ops l j==some w)=isB (get l t) w:=by
 have hg:get l t=l[t]:=by rw[pV];simp[htl]
 unfold jV
 rw[ht,hg]
 simp only[dI htl]
 cases hv:l[t]<;>simp[isB]
 rename_i b
 cases b<;>cases w<;>rfl
theorem c2N{k:Nat}{ops:Array Oper}{C:Calls'}{H0:Heap}(hC:CallsOk P C H0){os:List Oper}{lo:LOps}(hlo:LowOps P k ops os lo):∀{i:Nat},ops.toList.drop i=os→∀{f:Fr}{l:List Value}{H:Heap}{f1:Fr}{H1:Heap},
 FRel k f l→LK H0 H→a0O P C lo f H=.ok f1 H1→∃l1,FRel k f1 l1∧OpsR P ops (List.range' i os.length) l H l1 H1∧LK H H1:=by
 induction hlo with
 | nil=>
   intro i _ f l H f1 H1 hf _ h
   injection h with h1 h2
   subst h1 h2
   exact⟨l,hf,.nil l H,.refl H⟩
 | @cons o os d lo r hd ho hg hr ih=>
   intro i hi f l H f1 H1 hf hk h
   have hio:ops[i]? =some o:=by
    have:(ops.toList.drop i)[0]? =some o:=by rw[hi];rfl
    rw[dW]at this
    simpa using this
   have hi':ops.toList.drop (i+1)=os:=by rw[←fX,hi];rfl
   have hw:Region.wanted o (jV ops l)=true:=by simp[Region.wanted,hg]
   have h:b3m Rf.no d f (a0O P C r) (opF P C lo f H)=.ok f1 H1:=h
   have key:∀v H2,(opF P C lo f H).Is v H2→(wM d v f fun f=>a0O P C r f H2)=.ok f1 H1→∃l1,FRel k f1 l1∧OpsR P ops (List.range' i (o::os).length) l H l1 H1∧LK H H1:=by
    intro v H2 hop hrest
    obtain⟨hs,hk2⟩:=ho C H0 f l H v H2 hC hk hf.2 hop
    obtain⟨f',e,hf'⟩:=xX hf hd v (fun f=>a0O P C r f H2)
    rw[e]at hrest
    obtain⟨l1,h1,h2,h3⟩:=ih hi' hf' (hk.trans hk2) hrest
    exact⟨l1,h1,.step hio hw hs h2,hk2.trans h3⟩
   cases hop:opF P C lo f H with
   | no=>rw[hop]at h;cases h
   | ok v H2=>rw[hop]at h;exact key v H2 (.inl hop) h
   | th v H2=>
     rw[hop]at h
     have h:a0J v (fun v=>pD H2 fun H2=>wM d v f fun f=>a0O P C r f H2)=.ok f1 H1:=h
     rw[a0n,nK]at h
     exact key v H2 (.inr hop) h
 | @gcons o os d lo r j t w hd ho hg ht htk hr ih=>
   intro i hi f l H f1 H1 hf hk h
   have hio:ops[i]? =some o:=by
    have:(ops.toList.drop i)[0]? =some o:=by rw[hi];rfl
    rw[dW]at this
    simpa using this
   have hi':ops.toList.drop (i+1)=os:=by rw[←fX,hi];rfl
   have hwi:Region.wanted o (jV ops l)=isB (pM (lT t) f) w:=by
    simp only[Region.wanted,hg]
    rw[a0x ht (by rw[hf.1];exact htk) w,hf.2 t]
   have h:pK (isB (pM (lT t) f) w) (wM d undef f fun f=>a0O P C r f H) (b3m Rf.no d f (a0O P C r) (opF P C lo f H))=.ok f1 H1:=h
   rw[lM]at h
   split at h
   ·rename_i hb
    have key:∀v H2,(opF P C lo f H).Is v H2→(wM d v f fun f=>a0O P C r f H2)=.ok f1 H1→∃l1,FRel k f1 l1∧OpsR P ops (List.range' i (o::os).length) l H l1 H1∧LK H H1:=by
     intro v H2 hop hrest
     obtain⟨hs,hk2⟩:=ho C H0 f l H v H2 hC hk hf.2 hop
     obtain⟨f',e,hf'⟩:=xX hf hd v (fun f=>a0O P C r f H2)
     rw[e]at hrest
     obtain⟨l1,h1,h2,h3⟩:=ih hi' hf' (hk.trans hk2) hrest
     exact⟨l1,h1,.step hio (by rw[hwi,hb]) hs h2,hk2.trans h3⟩
    cases hop:opF P C lo f H with
    | no=>rw[hop]at h;cases h
    | ok v H2=>rw[hop]at h;exact key v H2 (.inl hop) h
    | th v H2=>
      rw[hop]at h
      have h:a0J v (fun v=>pD H2 fun H2=>wM d v f fun f=>a0O P C r f H2)=.ok f1 H1:=h
      rw[a0n,nK]at h
      exact key v H2 (.inr hop) h
   ·rename_i hb
    obtain⟨f',e,hf'⟩:=xX hf hd undef (fun f=>a0O P C r f H)
    rw[e]at h
    obtain⟨l1,h1,h2,h3⟩:=ih hi' hf' hk h
    exact⟨l1,h1,.past hio (by rw[hwi];simpa using hb) h2,h3⟩
structure Noted(P:Program)(k:Nat)(ops:Array Oper)(H:Heap)(i n:Nat)(T:Nat→List Value×Heap)(val:Nat→Value)(tr0 tr:List (Fr×Heap×Value)):Prop where
 step:∀j,i≤j→j<i+n→yJ P ops j (T j) (T (j+1)) (val j)
 new:∀j,i≤j→j<i+n→∃g,tr[i+n-1-j]? =some (g,(T j).2,val j)∧FAg g (T j).1
 old:∀m,tr[n+m]? =tr0[m]?
 lk:∀j,i≤j→j≤i+n→LK H (T j).2
theorem b9x{k:Nat}{ops:Array Oper}{C:Calls'}{H0:Heap}(hC:CallsOk P C H0){os:List Oper}{lo:LOps}(hlo:LowOps P k ops os lo):∀{i:Nat},ops.toList.drop i=os→∀{tr0 tr:List (Fr×Heap×Value)}{f:Fr}{l:List Value}{H:Heap}{f1:Fr}{H1:Heap},
 FRel k f l→LK H0 H→tE P C lo tr0 f H=.ok tr f1 H1→∃T val l1,T i=(l,H)∧T (i+os.length)=(l1,H1)∧FRel k f1 l1∧Noted P k ops H i os.length T val tr0 tr:=by
 have more:∀{i n:Nat}{o:Oper}{tr0 tr:List (Fr×Heap×Value)}{f:Fr}{l:List Value}{H:Heap}{v:Value}{l2:List Value}{H2:Heap}{l1:List Value}{H1:Heap}{f1:Fr},FRel k f l→yJ P ops i (l,H) (l2,H2) v→LK H H2→
  (∃T val l1,T (i+1)=(l2,H2)∧T (i+1+n)=(l1,H1)∧FRel k f1 l1∧Noted P k ops H2 (i+1) n T val ((f,H,v)::tr0) tr)→
  ∃T val l1,T i=(l,H)∧T (i+(n+1))=(l1,H1)∧FRel k f1 l1∧Noted P k ops H i (n+1) T val tr0 tr:=by
  intro i n o tr0 tr f l H v l2 H2 _ H1 f1 hf hst hk ⟨T,val,l1,h1,h2,h3,hN⟩
  refine⟨fun j=>if j≤i then(l,H)else T j,fun j=>if j≤i then v else val j,l1,by simp,?_,h3,?_⟩
  ·show(if i+(n+1)≤i then(l,H)else T (i+(n+1)))=_
   rw[if_neg (by omega),←h2];congr 1;omega
  ·refine⟨fun j hj hn=> ?_,fun j hj hn=> ?_,fun m=> ?_,fun j hj hn=> ?_⟩
   ·by_cases he:j=i
    ·subst he
     simp only[dD,if_true]
     rw[if_neg (by omega),h1]
     exact hst
    ·rw[if_neg (by omega),if_neg (by omega),if_neg (by omega)]
     exact hN.step j (by omega) (by omega)
   ·by_cases he:j=i
    ·subst he
     simp only[dD,if_true]
     refine⟨f,?_,hf.2⟩
     have:=hN.old 0
     rw[show j+(n+1)-1-j=n+0 by omega,this];rfl
    ·rw[if_neg (by omega),if_neg (by omega)]
     obtain⟨g,hg,hag⟩:=hN.new j (by omega) (by omega)
     exact⟨g,by rw[←hg];congr 1;omega,hag⟩
   ·have:=hN.old (m+1)
    rw[show n+1+m=n+(m+1) by omega,this];rfl
   ·by_cases he:j=i
    ·subst he;simp only[dD,if_true];exact .refl H
    ·rw[if_neg (by omega)];exact hk.trans (hN.lk j (by omega) (by omega))
 induction hlo with
 | nil=>
   intro i _ tr0 tr f l H f1 H1 hf _ h
   injection h with h1 h2 h3
   subst h1 h2 h3
   exact⟨fun _=>(l,H),fun _=>undef,l,rfl,rfl,hf,fun j _ h=>absurd h (by simp;omega),fun j _ h=>absurd h (by simp;omega),fun m=>by simp,fun _ _ _=>.refl H⟩
 | @cons o os d lo r hd ho hg hr ih=>
   intro i hi tr0 tr f l H f1 H1 hf hk h
   have hio:ops[i]? =some o:=by
    have:(ops.toList.drop i)[0]? =some o:=by rw[hi];rfl
    rw[dW]at this
    simpa using this
   have hi':ops.toList.drop (i+1)=os:=by rw[←fX,hi];rfl
   have hw:Region.wanted o (jV ops l)=true:=by simp[Region.wanted,hg]
   have h:b2I tr0 f H d (tE P C r) (opF P C lo f H)=.ok tr f1 H1:=h
   have key:∀v H2,(opF P C lo f H).Is v H2→(wM d v f fun f2=>tE P C r ((f,H,v)::tr0) f2 H2)=.ok tr f1 H1→∃T val l1,T i=(l,H)∧T (i+(o::os).length)=(l1,H1)∧FRel k f1 l1∧Noted P k ops H i (o::os).length T val tr0 tr:=by
    intro v H2 hop hrest
    obtain⟨hs,hk2⟩:=ho C H0 f l H v H2 hC hk hf.2 hop
    obtain⟨f',e,hf'⟩:=xX hf hd v (fun f2=>tE P C r ((f,H,v)::tr0) f2 H2)
    rw[e]at hrest
    have:=ih hi' hf' (hk.trans hk2) hrest
    exact more (o:=o) (l1:=l) hf ⟨o,hio,rfl,.inl ⟨hw,hs⟩⟩ hk2 this
   cases hop:opF P C lo f H with
   | no=>rw[hop]at h;cases h
   | ok v H2=>rw[hop]at h;exact key v H2 (.inl hop) h
   | th v H2=>
     rw[hop]at h
     have h:a0J v (fun v=>pD H2 fun H2=>wM d v f fun f2=>tE P C r ((f,H,v)::tr0) f2 H2)=.ok tr f1 H1:=h
     rw[a0n,nK]at h
     exact key v H2 (.inr hop) h
 | @gcons o os d lo r j t w hd ho hg ht htk hr ih=>
   intro i hi tr0 tr f l H f1 H1 hf hk h
   have hio:ops[i]? =some o:=by
    have:(ops.toList.drop i)[0]? =some o:=by rw[hi];rfl
    rw[dW]at this
    simpa using this
   have hi':ops.toList.drop (i+1)=os:=by rw[←fX,hi];rfl
   have hwi:Region.wanted o (jV ops l)=isB (pM (lT t) f) w:=by
    simp only[Region.wanted,hg]
    rw[a0x ht (by rw[hf.1];exact htk) w,hf.2 t]
   have h:pK (isB (pM (lT t) f) w) (wM d undef f fun f2=>tE P C r ((f,H,undef)::tr0) f2 H) (b2I tr0 f H d (tE P C r) (opF P C lo f H))=.ok tr f1 H1:=h
   rw[lM]at h
   split at h
   ·rename_i hb
    have key:∀v H2,(opF P C lo f H).Is v H2→(wM d v f fun f2=>tE P C r ((f,H,v)::tr0) f2 H2)=.ok tr f1 H1→∃T val l1,T i=(l,H)∧T (i+(o::os).length)=(l1,H1)∧FRel k f1 l1∧Noted P k ops H i (o::os).length T val tr0 tr:=by
     intro v H2 hop hrest
     obtain⟨hs,hk2⟩:=ho C H0 f l H v H2 hC hk hf.2 hop
     obtain⟨f',e,hf'⟩:=xX hf hd v (fun f2=>tE P C r ((f,H,v)::tr0) f2 H2)
     rw[e]at hrest
     exact more (o:=o) (l1:=l) hf ⟨o,hio,rfl,.inl ⟨by rw[hwi,hb],hs⟩⟩ hk2 (ih hi' hf' (hk.trans hk2) hrest)
    cases hop:opF P C lo f H with
    | no=>rw[hop]at h;cases h
    | ok v H2=>rw[hop]at h;exact key v H2 (.inl hop) h
    | th v H2=>
      rw[hop]at h
      have h:a0J v (fun v=>pD H2 fun H2=>wM d v f fun f2=>tE P C r ((f,H,v)::tr0) f2 H2)=.ok tr f1 H1:=h
      rw[a0n,nK]at h
      exact key v H2 (.inr hop) h
   ·rename_i hb
    obtain⟨f',e,hf'⟩:=xX hf hd undef (fun f2=>tE P C r ((f,H,undef)::tr0) f2 H)
    rw[e]at h
    exact more (o:=o) (l1:=l) hf ⟨o,hio,rfl,.inr ⟨by rw[hwi];simpa using hb,rfl,rfl⟩⟩ (.refl H) (ih hi' hf' hk h)
theorem b3H{α:Type}(p:α→Bool)(l:List α):b9C p l=l.all p:=by
 induction l with
 | nil=>rfl
 | cons x l ih=>
   show pK (p x) false (b9C p l)=_
   rw[lM,ih,gg]
   cases p x<;>rfl
theorem c1h{v:Value}{r:Rs}(h:c0B v r=true):∃H,r.Is v H:=by
 cases r with
 | no=>cases h
 | ok w H=>exact⟨H,.inl (by rw[b7V (show veq w v=true from h)])⟩
 | th w H=>exact⟨H,.inr (by rw[b7V (show veq w v=true from h)])⟩
theorem LowTab.get{ops:Array Oper}{tab:List (Nat×Nat)}{t:List (Nat×Option Nat×Option (Pth×Bool)×LOp)}(h:LowTab P ops tab t){i m:Nat}(hm:(i,m)∈tab):∃o lo g,ops[i]? =some o∧GOk ops o g∧yL P o lo∧(ops.size-1-i,(if m<ops.size then some (ops.size-1-m)else none),g,lo)∈t:=by
 induction h with
 | nil=>cases hm
 | @cons i2 m2 o lo tab t g ho hgd hl hr ih=>
   rcases eF.1 hm with he|hm
   ·injection he with h1 h2
    subst h1 h2
    exact⟨o,lo,g,ho,hgd,hl,by simp⟩
   ·obtain⟨o',lo',g',h1,h0,h2,h3⟩:=ih hm
    exact⟨o',lo',g',h1,h0,h2,eV _ h3⟩
theorem b0S{fl:Fl}{ops:Array Oper}{i m:Nat}(h:(i,m)∈nY fl ops){o:Oper}(ho:ops[i]? =some o):pH o.op=true:=by
 unfold nY at h
 simp only[fi]at h
 obtain⟨⟨x,j⟩,hx,h⟩:=h
 dsimp only at h
 split at h
 ·rename_i hr
  simp only[dP]at h
  obtain⟨m',_,e⟩:=h
  injection e with e1 e2
  subst e1
  have:=ib.1 hx
  have:ops[j]? =some x:=by simpa using this
  rw[this]at ho
  injection ho with ho
  subst ho
  exact hr
 ·cases h
theorem c0T(kP:P.follows .mixedOrders=true){k id:Nat}{ops:Array Oper}{C:Calls'}{H:Heap}(hC:CallsOk P C H){lo:LOps}{tab:List (Nat×Nat)}{t:List (Nat×Option Nat×Option (Pth×Bool)×LOp)}(hlo:LowOps P k ops ops.toList lo)(htab:oK P ops=some tab)(hl:LowTab P ops tab t)
 {f:Fr} {l:List Value} {e:Ex} {f1:Fr} {H1:Heap} (hf:FRel k f l) (h:c4f P C t (tE P C lo [] f H)=.ok e f1 H1):∃l1,e=.normal∧FRel k f1 l1∧Sim P (.region id ops true) l H .normal l1 H1∧LK H H1:=by
 cases hr:tE P C lo [] f H with
 | no=>rw[hr]at h;cases h
 | ok tr f2 H2=>
   rw[hr]at h
   have h:pK (b9C (b9W P C tr H2) t) Rc.no (.ok .normal f2 H2)=.ok e f1 H1:=h
   rw[lM]at h
   split at h
   case isFalse=>cases h
   rename_i hall
   injection h with h1 h2 h3
   subst h1 h2 h3
   obtain⟨T,val,l1,hT0,hTn,hf1,hN⟩:=b9x hC hlo (i:=0) rfl hf (.refl H) hr
   rw[gn,fR]at hTn
   rw[gn]at hN
   have hlk:LK H H2:=by have:=hN.lk ops.size (fx _) (by omega);rwa [hTn]at this
   refine⟨l1,rfl,hf1,?_,hlk⟩
   have:=Sim.draw kP (id:=id) htab (T:=T) (val:=val) ⟨fun j hj=>hN.step j (fx _) (by omega)⟩ ?_
   ·rw[hT0,hTn]at this;exact this
   ·intro i m o hm ho hw
    obtain⟨o',lo',gd,ho',hgd,hlow,hmem⟩:=hl.get hm
    rw[ho]at ho'
    obtain rfl:=dx ho'
    rw[b3H,dO]at hall
    have hrd:=hall _ hmem
    have hi:i<ops.size:=(dG.1 ho).1
    obtain⟨g,hg,hag⟩:=hN.new i (fx _) (by omega)
    have hg:tr[ops.size-1-i]? =some (g,(T i).2,val i):=by rw[←hg];congr 1;omega
    have hread:pH o.op=true:=by
     obtain⟨fl,_,rfl⟩:=rU htab
     exact b0S hm ho
    have fin:∀H3,LK H H3→c0B (val i) (opF P C lo' g H3)=true→∃H4,opD P o (T i).1 H3=some (val i,H4):=by
     intro H3 hk3 hq
     obtain⟨H4,h4⟩:=c1h hq
     obtain⟨hs,_⟩:=hlow C H g (T i).1 H3 (val i) H4 hC hk3 hag h4
     refine⟨H4,hs.opD fun c fv hc hv=> ?_⟩
     rw[hc]at hread
     simp[pH,hv]at hread
    unfold b9W at hrd
    simp only[a0F,hg,hgd.runs hag hw]at hrd
    rw[lM,if_pos rfl]at hrd
    by_cases hms:m<ops.size
    ·rw[if_pos hms]at hrd
     obtain⟨g2,hg2,_⟩:=hN.new m (fx _) (by omega)
     have hg2:tr[ops.size-1-m]? =some (g2,(T m).2,val m):=by rw[←hg2];congr 1;omega
     simp only[hg2]at hrd
     exact fin _ (hN.lk m (fx _) (by omega)) hrd
    ·rw[if_neg hms]at hrd
     have hle:m=ops.size:=by
      obtain⟨fl,_,rfl⟩:=rU htab
      have:=a2X hm
      omega
     subst hle
     have:=fin H2 hlk hrd
     rw[hTn];exact this
def wR(P:Program):List ResultVar→List LRes→Prop
 | [],[]=>True
 | r::rs,l::ls=>(match r,l with
   | .tmp t,.t p=>p=lT t
   | .cell a t,.c1 p=>p=lT a∧kM P t=some false
   | .cell a t,.cn n p=>p=lT a∧kM P t=some true∧jD P t=some n
   | _,_=>False)∧wR P rs ls
 | _,_=>False
theorem b7s{α:Type}(l:List ResultVar)(K:List LRes→α)(no:α):(∃r,wR P l r∧a2a P l K no=K r)∨a2a P l K no=no:=by
 induction l generalizing K with
 | nil=>exact .inl ⟨[],trivial,rfl⟩
 | cons r l ih=>
   cases r with
   | tmp t=>
     have e:a2a P (.tmp t::l) K no=mV (lT t) fun p=>a2a P l (fun l=>K (.t p::l)) no:=rfl
     rw[e,mT]
     rcases ih (fun l=>K (.t (lT t)::l))with⟨q,h1,h2⟩|h2
     ·exact .inl ⟨.t (lT t)::q,⟨rfl,h1⟩,h2⟩
     ·exact .inr h2
   | cell a t=>
     have e:a2a P (.cell a t::l) K no=match kM P t with
      | some true=>a4A (jD P t) no fun n=>mV (lT a) fun p=>a2a P l (fun l=>K (.cn n p::l)) no
      | some false=>mV (lT a) fun p=>a2a P l (fun l=>K (.c1 p::l)) no
      | none=>no:=rfl
     rw[e]
     split
     ·rename_i ha
      cases hn:jD P t with
      | none=>exact .inr rfl
      | some n=>
        rw[qM,mT]
        rcases ih (fun l=>K (.cn n (lT a)::l))with⟨q,h1,h2⟩|h2
        ·exact .inl ⟨.cn n (lT a)::q,⟨⟨rfl,ha,hn⟩,h1⟩,h2⟩
        ·exact .inr h2
     ·rename_i ha
      rw[mT]
      rcases ih (fun l=>K (.c1 (lT a)::l))with⟨q,h1,h2⟩|h2
      ·exact .inl ⟨.c1 (lT a)::q,⟨⟨rfl,ha⟩,h1⟩,h2⟩
      ·exact .inr h2
     ·exact .inr rfl
theorem b3g{H H1:Heap}{f:Fr}{l:List Value}(hf:FAg f l){r:ResultVar}{q:LRes}{rs:List ResultVar}{qs:List LRes}(h:wR P (r::rs) (q::qs)){v:Value}(hv:(a5v H f q).Is v H1):H1=H∧a2G P l H r=some v∧wR P rs qs:=by
 obtain⟨h,hr⟩:=h
 cases r with
 | tmp t=>cases q with
   | t p=>
     have h:p=lT t:=h
     subst h
     have hv:(pN (pM (lT t) f) fun v=>Rs.ok v H).Is v H1:=hv
     rw[oG]at hv
     obtain⟨rfl,rfl⟩:=Rs.aP hv
     exact⟨rfl,by rw[hf t];rfl,hr⟩
   | c1 p=>exact h.elim
   | cn n p=>exact h.elim
 | cell a t=>cases q with
   | t p=>exact h.elim
   | c1 p=>
     obtain⟨rfl,ha⟩:=h
     obtain⟨e,h1⟩:=b3i (P:=P) (X:=.t (lT a)) (w:=get l a) ha (hf a) hv
     exact⟨e,h1,hr⟩
   | cn n p=>
     obtain⟨rfl,ha,hn⟩:=h
     obtain⟨e,h1⟩:=b3b (P:=P) (X:=.t (lT a)) (w:=get l a) ha hn (hf a) hv
     exact⟨e,h1,hr⟩
theorem c2M{H:Heap}{f:Fr}{q:LRes}{v:Value}{H1:Heap}:¬(a5v H f q=.th v H1):=by
 intro h
 cases q with
 | t p=>
   have h:(pN (pM p f) fun v=>Rs.ok v H)=.th v H1:=h
   rw[oG]at h;cases h
 | c1 p=>
   have h:b4g (.t p) f H=.th v H1:=h
   unfold b4g at h
   split at h
   ·unfold c2W at h
    split at h
    ·rw[lM,lM,lM]at h
     split at h
     ·split at h
      ·split at h
       ·rename_i cs _ _ _ _ _ _ _ _
        cases hn:a2m cs _ with
        | none=>rw[hn]at h;cases h
        | some w=>rw[hn]at h;have h:(pN w fun v=>Rs.ok v H)=.th v H1:=h;rw[oG]at h;cases h
       ·cases h
      ·cases h
     ·cases h
    ·cases h
   ·unfold c5A at h
    split at h
    ·rw[lM]at h
     split at h
     ·rename_i cs _ _ _ _
      cases hn:a2m cs _ with
      | none=>rw[hn]at h;cases h
      | some w=>rw[hn]at h;have h:(pN w fun v=>Rs.ok v H)=.th v H1:=h;rw[oG]at h;cases h
     ·cases h
    ·cases h
   ·cases h
 | cn n p=>
   have hh:b3R n (.t p) f H=.th v H1:=h
   unfold b3R at hh
   split at hh
   ·unfold c1L at hh
    split at hh
    ·rw[lM,lM,lM]at hh
     split at hh
     ·split at hh
      ·split at hh
       ·have key:∀{cs:List Value}{n:Nat}{pre:List Value},¬(a3j cs n fun l=>Rs.ok (.agg ⟨pre++l⟩) H)=.th v H1:=by
         intro cs
         induction cs with
         | nil=>intro n pre h;cases n<;>cases h
         | cons c cs ih=>
           intro n pre h
           cases n with
           | zero=>cases h
           | succ n=>
             have h:(a3j cs n fun l=>Rs.ok (.agg ⟨pre++(c::l)⟩) H)=.th v H1:=h
             have e:∀l:List Value,pre++(c::l)=(pre++[c])++l:=by intro l;simp
             have h2:(a3j cs n fun l=>Rs.ok (.agg ⟨(pre++[c])++l⟩) H)=.th v H1:=by
              rw[←h];congr 1;funext l;rw[e l]
             exact ih h2
        exact key (pre:=[]) hh
       ·cases hh
      ·cases hh
     ·cases hh
    ·cases hh
   ·cases hh
theorem a9N{H H1:Heap}{f:Fr}{l:List Value}(hf:FAg f l){v:Value}:∀{rs:List ResultVar}{qs:List LRes}{K:List Value→Rs},wR P rs qs→(b6J H f qs K).Is v H1→∃vs,oU P l H rs=some vs∧(K vs).Is v H1
 | [],[],K,_,h=>⟨[],rfl,h⟩
 | [],_::_,_,h,_=>h.elim
 | _::_,[],_,h,_=>h.elim
 | r::rs,q::qs,K,hl,h=>by
   have h:(Rs.rec (motive:=fun _=>Rs) .no (fun v _=>b6J H f qs fun l=>K (v::l)) (fun _ _=>.no) (a5v H f q)).Is v H1:=h
   cases hq:a5v H f q with
   | no=>rw[hq]at h;exact absurd h Rs.ax
   | th w H2=>exact absurd hq c2M
   | ok w H2=>
     rw[hq]at h
     obtain⟨e,h1,h2⟩:=b3g hf hl (.inl hq)
     obtain⟨vs,h3,h4⟩:=a9N hf h2 h
     exact⟨w::vs,by simp[oU,h1,h3],h4⟩
theorem b8P{fn:Func}{H H1:Heap}{f:Fr}{l:List Value}(hf:FAg f l){qs:List LRes}(hl:wR P fn.results.toList qs){v:Value}(h:(a8c qs f H).Is v H1):H1=H∧jC P fn l H=some v:=by
 unfold a8c at h
 split at h
 ·rename_i q
  cases hr:fn.results.toList with
  | nil=>rw[hr]at hl;exact hl.elim
  | cons r rs=>
    rw[hr]at hl
    obtain⟨e,h1,h2⟩:=b3g hf hl h
    cases rs with
    | cons _ _=>exact h2.elim
    | nil=>exact⟨e,by simp[jC,hr,oU,h1]⟩
 ·rename_i hne
  obtain⟨vs,h1,h2⟩:=a9N hf hl h
  obtain⟨h3,h4⟩:=mI h2
  obtain⟨rfl,rfl⟩:=Rs.aP h4
  refine⟨rfl,?_⟩
  have hlen:∀{rs:List ResultVar}{qs:List LRes},wR P rs qs→rs.length=qs.length:=by
   intro rs
   induction rs with
   | nil=>intro qs h;cases qs with|nil=>rfl|cons=>exact h.elim
   | cons r rs ih=>intro qs h;cases qs with|nil=>exact h.elim|cons q qs=>simp[ih h.2]
  have hvl:∀{rs:List ResultVar}{vs:List Value},oU P l H1 rs=some vs→vs.length=rs.length:=by
   intro rs
   induction rs with
   | nil=>intro vs h;injection h with h;subst h;rfl
   | cons r rs ih=>
     intro vs h
     simp only[oU,dA,dF]at h
     obtain⟨w,_,ws,h1,h2⟩:=h
     subst h2
     simp[ih h1]
  have hn1:vs.length≠1:=by
   rw[hvl h1,hlen hl]
   intro h1
   match qs,h1 with
   | [q],_=>exact hne q rfl
  unfold jC
  rw[h1,dz]
  rw[b3H]at h3
  have h3:vs.all kE=true:=by rw[←h3];congr 1
  split
  ·exact absurd rfl hn1
  ·rw[if_pos h3]
structure FuncOk(P:Program)(f:FuncId)(g:LFunc):Prop where
 ex:∃fn c,P.funcs[f]? =some fn∧fn.body=some c∧(fn.name== "runtime.NumGoroutine")=false∧g.ps=(List.range fn.ntmps).map lT∧Low P fn.ntmps c g.body∧wR P fn.results.toList g.res
def TOk(P:Program)(T:LT):Prop:=∀f g,a3H (lT f) T=some g→FuncOk P f g
def EOk(P:Program)(E:List LEnv)(H:Heap):Prop:=∀en∈E,en.L<H.length∧∀r,jR H en.L=some (.loop r)→
 ∃k,en.ps=(List.range k).map lT∧r.tmps.size=k∧en.pp=r.params.toList.map lT∧(∀t∈r.params.toList,t<k)∧Low P k r.assign en.a∧Low P k r.body en.b
theorem EOk.aj{E:List LEnv}{H H':Heap}(h:EOk P E H)(hk:LK H H'):EOk P E H':=fun en hen=>by
 obtain⟨h1,h2⟩:=h en hen
 refine⟨eo h1 hk.1,fun r' hr'=> ?_⟩
 obtain⟨r,hr,ea,eb,ep,et⟩:=hk.2 en.L r' h1 hr'
 obtain⟨k,a,b,c,d,e,f⟩:=h2 r hr
 exact⟨k,a,by rw[et];exact b,by rw[ep];exact c,by rw[ep];exact d,by rw[ea];exact e,by rw[eb];exact f⟩
def a4X(P:Program)(ih:rX):Prop:=∀(E:List LEnv)(C:LCode)(k:Nat)(c:Code)(f:Fr)(l:List Value)(H:Heap)(e:Ex)(f1:Fr)(H1:Heap),Low P k c C→FRel k f l→EOk P E H→ih E C f H=.ok e f1 H1→
 ∃l1,FRel k f1 l1∧Sim P c l H e l1 H1∧LK H H1∧∀b,c=.loop b→∃n,Rounds P b n l H e l1 H1
theorem a1O{α:Type}{no:α}:∀{l:List Value}{i m:Nat}{f:Fr}{K:Fr→α},(qQ no l ((List.range' i m).map lT) f K=no)∨(l.length≤m∧∃f',qQ no l ((List.range' i m).map lT) f K=K f'∧∀t,pM (lT t) f'=if i≤t∧t<i+l.length then get l (t-i)else pM (lT t) f)
 | [],i,m,f,K=>.inr ⟨fx _,f,rfl,fun t=>by rw[if_neg (by simp only[eN];omega)]⟩
 | v::l,i,0,f,K=>.inl rfl
 | v::l,i,m+1,f,K=>by
   have e:qQ no (v::l) ((List.range' i (m+1)).map lT) f K=rM v (lT i) f fun f=>qQ no l ((List.range' (i+1) m).map lT) f K:=by
    rw[iD];rfl
   rw[e,vJ]
   rcases a1O (l:=l) (i:=i+1) (m:=m) (f:=b8G f i v) (K:=K)with h|⟨h1,f',h2,h3⟩
   ·exact .inl h
   ·refine .inr ⟨by simp;omega,f',h2,fun t=> ?_⟩
    rw[h3 t,a4K]
    by_cases ht:t=i
    ·subst ht
     rw[if_neg (by omega),if_pos rfl,if_pos (by simp),iW];rfl
    ·rw[if_neg ht]
     by_cases h4:i+1≤t∧t<i+1+l.length
     ·rw[if_pos h4,if_pos (by simp;omega)]
      rw[show t-i=(t-(i+1))+1 by omega];rfl
     ·rw[if_neg h4,if_neg (by simp;omega)]
theorem yM{α:Type}{no:α}{k:Nat}:∀{args:List Value}{ps:List Tmp}{f:Fr}{l:List Value}{K:Fr→α},FRel k f l→(∀t∈ps,t<k)→args.length=ps.length→
 ∃f',qQ no args (ps.map lT) f K=K f'∧FRel k f' ((ps.zip args).foldl (fun t(p,v)=>t.set p v) l)
 | [],[],f,l,K,hf,_,_=>⟨f,rfl,hf⟩
 | v::args,p::ps,f,l,K,hf,hp,he=>by
   have e:qQ no (v::args) ((p::ps).map lT) f K=rM v (lT p) f fun f=>qQ no args (ps.map lT) f K:=rfl
   rw[e,vJ]
   exact yM (hf.set (hp p (by simp)) v) (fun t ht=>hp t (by simp[ht])) (by simpa using he)
 | [],_::_,_,_,_,_,_,he=>by simp at he
 | _::_,[],_,_,_,_,_,he=>by simp at he
theorem a1H(l:List Value)(n t:Nat):get (l++List.replicate n undef) t=get l t:=by
 rw[pV,pV]
 simp only[dB]
 by_cases h:t<l.length
 ·rw[eS h]
 ·rw[eu (by omega),eX (l:=l) (by omega),iR]
  split<;>rfl
theorem yB{T:LT}(hT:TOk P T){ih:rX}(hih:a4X P ih){E:List LEnv}{p:Pth}{f:FuncId}{args:List Value}{H H1:Heap}{v:Value}(hE:EOk P E H)(hp:p=lT f)(h:(nX T ih E p args H).Is v H1):
 FnS P f args H (fun v' H'=>v'=v∧H'=H1)∧LK H H1:=by
 unfold nX at h
 split at h
 case h_2=>exact absurd h Rs.ax
 rename_i g hg
 subst hp
 obtain⟨fn,c,hfn,hb,hn,hps,hlow,hres⟩:=(hT f g hg).ex
 rw[hps]at h
 rw[gA]at h
 rcases a1O (no:=Rs.no) (l:=args) (i:=0) (m:=fn.ntmps) (f:=.e) (K:=fun f=>c4z g.res (ih E g.body f H))with h1|⟨h1,f0,h2,h3⟩
 ·rw[h1]at h;exact absurd h Rs.ax
 ·rw[h2]at h
  have hf0:FRel fn.ntmps f0 (args++List.replicate (fn.ntmps-args.length) undef):=by
   refine⟨by simp;omega,fun t=> ?_⟩
   rw[h3 t,a1H]
   by_cases ht:t<args.length
   ·rw[if_pos (by omega)];rfl
   ·rw[if_neg (by omega),wX,pV,dB,eX (by omega)];try rfl
  cases hr:ih E g.body f0 H with
  | no=>rw[hr]at h;exact absurd h Rs.ax
  | ok e f1 H2=>
    rw[hr]at h
    obtain⟨l1,hf1,hs,hk,_⟩:=hih E g.body fn.ntmps c f0 _ H e f1 H2 hlow hf0 hE hr
    have key:(e=.normal∨e=.ret)→(a8c g.res f1 H2).Is v H1→FnS P f args H (fun v' H'=>v'=v∧H'=H1)∧LK H H1:=by
     intro he hv
     obtain⟨rfl,hv⟩:=b8P hf1.2 hres hv
     exact⟨⟨fn,c,e,l1,H1,v,hfn,hb,hn,hs,he,hv,rfl,rfl⟩,hk⟩
    cases e with
    | normal=>exact key (.inl rfl) h
    | ret=>exact key (.inr rfl) h
    | exit id=>exact absurd h Rs.ax
theorem c0d{T:LT}(hT:TOk P T){ih:rX}(hih:a4X P ih){E:List LEnv}{p:Pth}{f:FuncId}{args:List Value}{H H1:Heap}{v:Value}(hE:EOk P E H)(hp:p=lT f)(h:(b8z P T ih E p f args H).Is v H1):
 (FnS P f args H (fun v' H'=>v'=v∧H'=H1)∨rT P f args H=some (v,H1))∧LK H H1:=by
 unfold b8z at h
 cases hg:a3H p T with
 | some g=>
   rw[hg]at h
   obtain⟨a,b⟩:=yB (H1:=H1) (v:=v) hT hih hE hp (by unfold nX;rw[hg];exact h)
   exact⟨.inl a,b⟩
 | none=>
   rw[hg]at h
   have h:(c6k P f args H).Is v H1:=h
   unfold c6k at h
   split at h
   ·rename_i v2 H2 hx
    obtain⟨rfl,rfl⟩:=Rs.aU h
    exact⟨.inr hx,a5Y hx⟩
   ·exact absurd h Rs.ax
theorem b0s{E:List LEnv}{L:Nat}{en:LEnv}(h:b9t E L=some en):en∈E∧en.L=L:=by
 induction E with
 | nil=>cases h
 | cons e E ih=>
   have h:pK (Nat.beq e.L L) (b9t E L) (some e)=some en:=h
   rw[lM]at h
   split at h
   ·rename_i hh
    injection h with h
    subst h
    exact⟨by simp,eK hh⟩
   ·obtain⟨h1,h2⟩:=ih h
    exact⟨eV _ h1,h2⟩
theorem a9i(e:Ex):c3E e=tK e:=by cases e<;>rfl
theorem b5r{ih:rX}(hih:a4X P ih){E:List LEnv}{L:Nat}{args:List Value}{H H1:Heap}{v:Value}(hE:EOk P E H)(h:(b1W ih E L args H).Is v H1):a0u P L args H v H1∧LK H H1:=by
 unfold b1W at h
 split at h
 case h_2=>exact absurd h Rs.ax
 rename_i en hen
 obtain⟨hmem,rfl⟩:=b0s hen
 split at h
 case h_2=>exact absurd h Rs.ax
 rename_i p fn tmps ps a b d hg
 obtain⟨hlen,h⟩:=mI h
 rw[a0a]at hlen
 have hlen:ps.size=args.length:=by simpa only[decide_eq_true_eq]using hlen
 obtain⟨k,hps,hsz,hpp,hpk,hla,hlb⟩:=(hE en hmem).2 _ hg
 have hsz:tmps.length=k:=by simpa using hsz
 rw[hps,gA]at h
 rcases a1O (no:=Rs.no) (l:=tmps) (i:=0) (m:=k) (f:=.e) (K:=fun f=>qQ .no args en.pp f fun f=>uW ih E en (ih E en.a f H))with h1|⟨h1,f0,h2,h3⟩
 ·rw[h1]at h;exact absurd h Rs.ax
 rw[h2]at h
 have hf0:FRel k f0 tmps:=by
  refine⟨hsz,fun t=> ?_⟩
  rw[h3 t]
  by_cases ht:t<tmps.length
  ·rw[if_pos (by omega)];rfl
  ·rw[if_neg (by omega),wX,pV,dB,eX (by omega)];try rfl
 rw[hpp]at h
 obtain⟨f2,h4,hf2⟩:=yM (no:=Rs.no) (args:=args) (ps:=ps.toList) (K:=fun f=>uW ih E en (ih E en.a f H)) hf0 hpk (by simpa using hlen.symm)
 have h:(qQ Rs.no args (List.map lT ps.toList) f0 fun f=>uW ih E en (ih E en.a f H)).Is v H1:=h
 rw[h4]at h
 cases hr1:ih E en.a f2 H with
 | no=>rw[hr1]at h;exact absurd h Rs.ax
 | ok e f3 H2=>
   rw[hr1]at h
   obtain⟨l3,hf3,hs1,hk1,_⟩:=hih E en.a k a f2 _ H e f3 H2 hla hf2 hE hr1
   cases e with
   | ret=>exact absurd h Rs.ax
   | exit id=>exact absurd h Rs.ax
   | normal=>
     have h:(a1L ih E en f3 H2).Is v H1:=h
     unfold a1L at h
     split at h
     case h_2=>exact absurd h Rs.ax
     rename_i p2 fn2 tmps2 ps2 a2 b2 d2 hg2
     rw[nK]at h
     obtain⟨r0,hr0,ea,eb,ep,et⟩:=hk1.2 en.L _ (hE en hmem).1 hg2
     rw[hg]at hr0
     injection hr0 with hr0
     injection hr0 with hr0
     subst hr0
     have ea':a2=a:=ea
     have eb':b2=b:=eb
     have ep':ps2=ps:=ep
     have et':tmps2=⟨tmps⟩:=et
     clear ea eb ep et
     subst ea' eb' ep' et'
     have hk2:LK H2 (hset H2 en.L (.loop ⟨.busy,p2,fn2,⟨tmps⟩,ps2,a2,b2,d2⟩)):=.loop hg2 ⟨rfl,rfl,rfl,rfl⟩
     cases hr2:ih E en.b f3 (hset H2 en.L (.loop ⟨.busy,p2,fn2,⟨tmps⟩,ps2,a2,b2,d2⟩))with
     | no=>rw[hr2]at h;exact absurd h Rs.ax
     | ok e f4 H3=>
       rw[hr2]at h
       obtain⟨l4,_,hs2,hk3,_⟩:=hih E en.b k b2 f3 _ _ e f4 H3 hlb hf3 (hE.aj (hk1.trans hk2)) hr2
       have h:(a4f en.L e H3).Is v H1:=h
       unfold a4f at h
       split at h
       case h_2=>exact absurd h Rs.ax
       rename_i st3 p3 fn3 tmps3 ps3 a3 b3 d3 hg3
       have fin:∀r',H1=hset H3 en.L (.loop r')→(r'={(⟨st3,p3,fn3,tmps3,ps3,a3,b3,d3⟩:Loop)with state:=if(tK e).isNone then .ready else .done,pending:=tK e})→v=.bool (tK e).isNone→a0u P en.L args H v H1∧LK H H1:=by
        intro r' hH hr' hv
        refine⟨?_,hk1.trans (hk2.trans (hk3.trans (by rw[hH];exact .loop hg3 (by rw[hr'];exact⟨rfl,rfl,rfl,rfl⟩))))⟩
        have hW:=a2g (P:=P) (args:=args) (K:=fun v' H'=>v'=v∧H'=H1) hg hlen rfl
         ⟨.normal,l3,H2,hs1,rfl,_,hg2,rfl,e,l4,H3,hs2,_,hg3,hv.symm,by rw[hH,hr']⟩
        obtain⟨v',H',h1,rfl,rfl⟩:=hW
        exact h1
       split at h
       ·rename_i hj
        obtain⟨rfl,rfl⟩:=Rs.aU h
        rw[a9i]at hj
        exact fin _ rfl (by rw[hj];rfl) (by rw[hj];rfl)
       ·rename_i c hj
        obtain⟨rfl,rfl⟩:=Rs.aU h
        rw[a9i]at hj
        exact fin _ rfl (by rw[hj];rfl) (by rw[hj];rfl)
theorem a4R{T:LT}(hT:TOk P T){ih:rX}(hih:a4X P ih){E:List LEnv}{H0:Heap}(hE:EOk P E H0):CallsOk P (a1I P T ih E) H0 where
 fn p f args H v H1 hk h hp:=c0d hT hih (hE.aj hk) hp h
 rd L args H v H1 hk h:=b5r hih (hE.aj hk) h
theorem c4J{α:Type}{f:Fr}{l:List Value}(hf:FAg f l)(i m:Nat)(K:List Value→α):frL f ((List.range' i m).map lT) K=K ((List.range' i m).map (get l)):=by
 induction m generalizing i K with
 | zero=>rfl
 | succ m ih=>
   have e:frL f ((List.range' i (m+1)).map lT) K=pN (pM (lT i) f) fun v=>frL f ((List.range' (i+1) m).map lT) fun l=>K (v::l):=by
    rw[iD];rfl
   rw[e,oG,ih,hf i,iD];rfl
theorem c3a{α:Type}{k:Nat}{f:Fr}{l:List Value}(hf:FRel k f l)(K:List Value→α):frL f ((List.range k).map lT) K=K l:=by
 rw[gA,c4J hf.2,←gA]
 congr 1
 apply ig
 intro i
 rw[fh]
 by_cases hi:i<k
 ·rw[iK hi,ee,pV,dB]
  have:i<l.length:=by rw[hf.1];exact hi
  simp[dI this]
 ·rw[eX (by simp;omega),eX (by rw[hf.1];omega)];rfl
theorem b5L{T:LT}(hT:TOk P T){ih:rX}(hih:a4X P ih){E:List LEnv}{k:Nat}{g:Operand}{ps:Array Tmp}{assign body:Code}{A B:LCode}(hg:jS g=true)(hps:∀t∈ps.toList,t<k)(ha:Low P k assign A)(hb:Low P k body B)
 {x1 x2:Fr→Heap→Rc} {f:Fr} {l:List Value} {H:Heap} {e:Ex} {f1:Fr} {H1:Heap} (hf:FRel k f l) (hE:EOk P E H) (h:b2s T ih E (jW g) ((List.range k).map lT) (ps.toList.map lT) ps assign body A B x1 x2 f H=.ok e f1 H1):
 f1=f∧Sim P (.rangeFunc g ps assign body) l H e l H1∧LK H H1:=by
 unfold b2s at h
 rw[kU hf.2]at h
 split at h
 case h_2=>cases h
 rename_i j xa xb hgv
 rw[kZ,c3a hf,nK,kZ]at h
 unfold b2z at h
 rw[mT]at h
 generalize hH0:H.cons (.loop ⟨.ready,none,0,⟨l⟩,ps,assign,body,0⟩)=H0 at h
 have hl0:(⟨.ready,none,0,⟨l⟩,ps,assign,body,0⟩:Loop)=b3n l ps assign body:=rfl
 have hE0:EOk P (⟨H.length,(List.range k).map lT,ps.toList.map lT,A,B⟩::E) H0:=by
  intro en hen
  rcases eF.1 hen with rfl|hen
  ·refine⟨by rw[←hH0,length_cons];exact Nat.lt_succ_self _,fun r hr=> ?_⟩
   rw[←hH0,jP]at hr
   injection hr with hr
   injection hr with hr
   subst hr
   exact⟨k,rfl,by simpa using hf.1,rfl,hps,ha,hb⟩
  ·exact(hE.aj (by rw[←hH0];exact .cons _ _)) en hen
 have key:∀v H2,(nX T ih (⟨H.length,(List.range k).map lT,ps.toList.map lT,A,B⟩::E) (lT j) (a6Y xa (.func (.yield H.length) #[] #[]::xb)) H0).Is v H2→xJ H.length f H2=.ok e f1 H1→f1=f∧Sim P (.rangeFunc g ps assign body) l H e l H1∧LK H H1:=by
  intro v H2 hc hr
  obtain⟨hfn,hk⟩:=yB hT hih hE0 rfl hc
  have hargs:a6Y xa (.func (.yield H.length) #[] #[]::xb)=xa++[.func (.yield H.length) #[] #[]]++xb:=by rw[a0G];simp
  rw[hargs,←hH0,hl0]at hfn
  have fin:∀(r:Loop)(H3:Heap),jR H2 H.length=some (.loop r)→r.state≠.busy→H3=hset H2 H.length (.loop {r with state:=.exhausted})→(r.pending=none→e=.normal)→(∀c,r.pending=some c→(c=.ret∧e=.ret)∨∃id,c=.exit id∧e=.exit id)→f1=f→H1=H3→
   f1=f∧Sim P (.rangeFunc g ps assign body) l H e l H1∧LK H H1:=by
   intro r H3 hrl hnb hH3 hp0 hp1 he1 he2
   have hw:Wp P (.rangeFunc g ps assign body) l H (fun e' l' H'=>e'=e∧l'=l∧H'=H3):=by
    refine Wp.range (first:=xa) (captured:=xb) hg (by rw[hgv]) (hfn.mono ?_)
    rintro v' H'⟨rfl,rfl⟩
    refine⟨r,hrl,hnb,fun hp=>⟨(hp0 hp).symm,rfl,hH3.symm⟩,fun c hc=> ?_⟩
    rcases hp1 c hc with⟨rfl,he⟩|⟨id,rfl,he⟩
    ·exact Wp.ret ⟨he.symm,rfl,hH3.symm⟩
    ·exact Wp.exit ⟨he.symm,rfl,hH3.symm⟩
   obtain⟨e',l',H',hs,rfl,rfl,rfl⟩:=hw
   refine⟨he1,by rw[he2];exact hs,?_⟩
   rw[he2,hH3]
   have h1:LK H H0:=by rw[←hH0];exact .cons _ _
   exact h1.trans (hk.trans (.loop hrl ⟨rfl,rfl,rfl,rfl⟩))
  unfold xJ at hr
  split at hr
  ·rename_i hg2
   rw[nK]at hr
   injection hr with h1 h2 h3
   exact fin _ _ hg2 (by simp) rfl (fun _=>h1.symm) (fun c hc=>by cases hc) h2.symm h3.symm
  ·rename_i hg2
   rw[nK]at hr
   injection hr with h1 h2 h3
   exact fin _ _ hg2 (by simp) rfl (fun _=>h1.symm) (fun c hc=>by cases hc) h2.symm h3.symm
  ·rename_i hg2
   rw[nK]at hr
   injection hr with h1 h2 h3
   exact fin _ _ hg2 (by simp) rfl (fun hc=>by cases hc) (fun c hc=>by injection hc with hc;subst hc;exact .inl ⟨rfl,h1.symm⟩) h2.symm h3.symm
  ·rename_i hg2
   rw[nK]at hr
   injection hr with h1 h2 h3
   exact fin _ _ hg2 (by simp) rfl (fun hc=>by cases hc) (fun c hc=>by injection hc with hc;subst hc;exact .inr ⟨_,rfl,h1.symm⟩) h2.symm h3.symm
  ·cases hr
 cases hc:nX T ih (⟨H.length,(List.range k).map lT,ps.toList.map lT,A,B⟩::E) (lT j) (a6Y xa (.func (.yield H.length) #[] #[]::xb)) H0 with
 | no=>rw[hc]at h;cases h
 | ok v H2=>rw[hc]at h;exact key v H2 (.inl hc) h
 | th v H2=>
   rw[hc]at h
   have h:pD H2 (fun H=>xJ _ f H)=.ok e f1 H1:=h
   rw[nK]at h
   exact key v H2 (.inr hc) h
theorem b7N(kP:P.follows .mixedOrders=true){T:LT}(hT:TOk P T):∀n,a4X P (exF P T n):=by
 intro n
 induction n with
 | zero=>intro E C k c f l H e f1 H1 _ _ _ h;cases h
 | succ n ih=>
   intro E C k c f l H e f1 H1 hlow hf hE h
   have h:b3F P T (exF P T n) E C f H=.ok e f1 H1:=h
   have noloop:∀{c:Code},(∀b,c≠.loop b)→∀{l1:List Value},∀b,c=.loop b→∃n,Rounds P b n l H e l1 H1:=fun hne _ b hb=>absurd hb (hne b)
   cases hlow with
   | bad=>cases h
   | skip=>
     injection h with h1 h2 h3;subst h1 h2 h3
     exact⟨l,hf,.skip l H,.refl H,noloop (by intro b h;cases h)⟩
   | label t=>
     injection h with h1 h2 h3;subst h1 h2 h3
     exact⟨l,hf,.label t l H,.refl H,noloop (by intro b h;cases h)⟩
   | exit id=>
     injection h with h1 h2 h3;subst h1 h2 h3
     exact⟨l,hf,.exit id l H,.refl H,noloop (by intro b h;cases h)⟩
   | ret=>
     injection h with h1 h2 h3;subst h1 h2 h3
     exact⟨l,hf,.ret l H,.refl H,noloop (by intro b h;cases h)⟩
   | @reg id ops d lo hlo hd=>
     have h:c7Q (a0O P (a1I P T (exF P T n) E) lo f H)=.ok e f1 H1:=h
     cases hr:a0O P (a1I P T (exF P T n) E) lo f H with
     | no=>rw[hr]at h;cases h
     | ok f2 H2=>
       rw[hr]at h
       injection h with h1 h2 h3;subst h1 h2 h3
       obtain⟨l1,hf1,hops,hk⟩:=c2N (a4R hT ih hE) hlo (i:=0) rfl hf (.refl H) hr
       have hops:OpsR P ops (List.range ops.size) l H l1 H2:=by rw[gA];simpa using hops
       refine⟨l1,hf1,?_,hk,noloop (by intro b h;cases h)⟩
       cases d with
       | false=>exact .region hops
       | true=>exact .cp kP (hd rfl) hops
   | drw hlo ht hl=>
     obtain⟨l1,rfl,hf1,hs,hk⟩:=c0T kP (a4R hT ih hE) hlo ht hl hf h
     exact⟨l1,hf1,hs,hk,noloop (by intro b h;cases h)⟩
   | @seq a b A B ha hb=>
     have h:c0Q (exF P T n) E B (exF P T n E A f H)=.ok e f1 H1:=h
     cases hr:exF P T n E A f H with
     | no=>rw[hr]at h;cases h
     | ok e2 f2 H2=>
       rw[hr]at h
       obtain⟨l2,hf2,hs,hk,_⟩:=ih E A k a f l H e2 f2 H2 ha hf hE hr
       cases e2 with
       | normal=>
         obtain⟨l1,hf1,hs1,hk1,_⟩:=ih E B k b f2 l2 H2 e f1 H1 hb hf2 (hE.aj hk) h
         exact⟨l1,hf1,.seq hs hs1,hk.trans hk1,noloop (by intro b h;cases h)⟩
       | ret=>
         injection h with h1 h2 h3;subst h1 h2 h3
         exact⟨l2,hf2,.seq' hs (by intro h;cases h),hk,noloop (by intro b h;cases h)⟩
       | exit id=>
         injection h with h1 h2 h3;subst h1 h2 h3
         exact⟨l2,hf2,.seq' hs (by intro h;cases h),hk,noloop (by intro b h;cases h)⟩
   | @cond c x y X Y hc hx hy=>
     have h:b7W (exF P T n) E (jW c) X Y (b3F P T (exF P T n) E X) (b3F P T (exF P T n) E Y) f H=.ok e f1 H1:=h
     unfold b7W at h
     rw[kU hf.2]at h
     split at h
     ·rename_i t ht
      cases t with
      | true=>
        obtain⟨l1,hf1,hs,hk,_⟩:=ih E X k x f l H e f1 H1 hx hf hE h
        exact⟨l1,hf1,.cond ht hc hs,hk,noloop (by intro b h;cases h)⟩
      | false=>
        obtain⟨l1,hf1,hs,hk,_⟩:=ih E Y k y f l H e f1 H1 hy hf hE h
        exact⟨l1,hf1,.cond ht hc hs,hk,noloop (by intro b h;cases h)⟩
     ·cases h
   | @block id b B hb=>
     have h:c7R id (exF P T n E B f H)=.ok e f1 H1:=h
     cases hr:exF P T n E B f H with
     | no=>rw[hr]at h;cases h
     | ok e2 f2 H2=>
       rw[hr]at h
       obtain⟨l2,hf2,hs,hk,_⟩:=ih E B k b f l H e2 f2 H2 hb hf hE hr
       have hs':Sim P (.block id b) l H (e2.out id) l2 H2:=.block hs
       cases e2 with
       | normal=>injection h with h1 h2 h3;subst h1 h2 h3;exact⟨l2,hf2,hs',hk,noloop (by intro b h;cases h)⟩
       | ret=>injection h with h1 h2 h3;subst h1 h2 h3;exact⟨l2,hf2,hs',hk,noloop (by intro b h;cases h)⟩
       | exit i=>
         have h:Rc.ok (Bool.rec (motive:=fun _=>Ex) (.exit i) .normal (Nat.beq i id)) f2 H2=.ok e f1 H1:=h
         injection h with h1 h2 h3;subst h2 h3
         have:(Ex.exit i).out id=e:=by
          rw[←h1]
          by_cases hi:i=id
          ·subst hi;simp[Ex.out]
          ·have:Nat.beq i id=false:=gi.2 fun e=>hi (eK e)
           simp[Ex.out,hi,this]
         rw[this]at hs'
         exact⟨l2,hf2,hs',hk,noloop (by intro b h;cases h)⟩
   | @loop b B hb=>
     have h:c0Q (exF P T n) E (.loop B) (exF P T n E B f H)=.ok e f1 H1:=h
     cases hr:exF P T n E B f H with
     | no=>rw[hr]at h;cases h
     | ok e2 f2 H2=>
       rw[hr]at h
       obtain⟨l2,hf2,hs,hk,_⟩:=ih E B k b f l H e2 f2 H2 hb hf hE hr
       have last:e2≠.normal→e2=e→f2=f1→H2=H1→∃l1,FRel k f1 l1∧Sim P (.loop b) l H e l1 H1∧LK H H1∧∀b',Code.loop b=.loop b'→∃n,Rounds P b' n l H e l1 H1:=by
        intro hne h1 h2 h3
        subst h1 h2 h3
        have hr:Rounds P b 1 l H e2 l2 H2:=.last hs hne
        exact⟨l2,hf2,.loop hr,hk,fun b' hb'=>by injection hb' with hb';subst hb';exact⟨1,hr⟩⟩
       cases e2 with
       | normal=>
         obtain⟨l1,hf1,hs1,hk1,hro⟩:=ih E (.loop B) k (.loop b) f2 l2 H2 e f1 H1 (.loop hb) hf2 (hE.aj hk) h
         obtain⟨m,hm⟩:=hro b rfl
         have hr:Rounds P b (m+1) l H e l1 H1:=.more hs hm
         exact⟨l1,hf1,.loop hr,hk.trans hk1,fun b' hb'=>by injection hb' with hb';subst hb';exact⟨_,hr⟩⟩
       | ret=>injection h with h1 h2 h3;exact last (by intro h;cases h) h1 h2 h3
       | exit id=>injection h with h1 h2 h3;exact last (by intro h;cases h) h1 h2 h3
   | range hg hps ha hb=>
     obtain⟨rfl,hs,hk⟩:=b5L (x1:=fun _ _=>.no) (x2:=fun _ _=>.no) hT ih hg hps ha hb hf hE h
     exact⟨l,hf,hs,hk,noloop (by intro b h;cases h)⟩
theorem a0c{α:Type}(v:LFunc)(p:Pth)(f:LT)(K:LT→α):uG v p f K=K (uG v p f fun f=>f):=by
 induction p generalizing f α with
 | z=>cases f<;>rfl
 | l p ih=>
   cases f with
   | e=>
     show uG v p .e (fun l=>K (.n none l .e))=K (uG v p .e fun l=>.n none l .e)
     rw[ih,ih (K:=fun l=>LT.n none l .e)]
   | n w l r=>
     show uG v p l (fun l=>K (.n w l r))=K (uG v p l fun l=>.n w l r)
     rw[ih,ih (K:=fun l=>LT.n w l r)]
 | r p ih=>
   cases f with
   | e=>
     show uG v p .e (fun l=>K (.n none .e l))=K (uG v p .e fun l=>.n none .e l)
     rw[ih,ih (K:=fun l=>LT.n none .e l)]
   | n w l r=>
     show uG v p r (fun r=>K (.n w l r))=K (uG v p r fun r=>.n w l r)
     rw[ih,ih (K:=fun r=>LT.n w l r)]
theorem wU(p:Pth):a3H p .e=none:=by cases p<;>rfl
theorem b5i(v:LFunc)(p q:Pth)(f:LT){g:LFunc}(h:a3H q (uG v p f fun f=>f)=some g):(q=p∧g=v)∨a3H q f=some g:=by
 induction p generalizing f q with
 | z=>
   cases q with
   | z=>left;refine⟨rfl,?_⟩;cases f<;>(injection h with h;exact h.symm)
   | l q=>right;cases f with
     | e=>have h:a3H q .e=some g:=h
          rw[wU]at h;cases h
     | n=>exact h
   | r q=>right;cases f with
     | e=>have h:a3H q .e=some g:=h
          rw[wU]at h;cases h
     | n=>exact h
 | l p ih=>
   have h1:∀f,uG v (.l p) f (fun f=>f)=match f with|.e=>.n none (uG v p .e fun f=>f) .e|.n w l r=>.n w (uG v p l fun f=>f) r:=fun f=>by
    cases f with
    | e=>exact a0c v p .e fun l=>LT.n none l .e
    | n w l r=>exact a0c v p l fun l=>LT.n w l r
   rw[h1]at h
   cases q with
   | z=>right;cases f with
     | e=>exact h
     | n=>exact h
   | r q=>right;cases f with
     | e=>have h:a3H q .e=some g:=h
          rw[wU]at h;cases h
     | n=>exact h
   | l q=>
     cases f with
     | e=>
       rcases ih q .e h with⟨rfl,hq⟩|h
       ·exact .inl ⟨rfl,hq⟩
       ·rw[wU]at h;cases h
     | n w l r=>
       rcases ih q l h with⟨rfl,hq⟩|h
       ·exact .inl ⟨rfl,hq⟩
       ·exact .inr h
 | r p ih=>
   have h1:∀f,uG v (.r p) f (fun f=>f)=match f with|.e=>.n none .e (uG v p .e fun f=>f)|.n w l r=>.n w l (uG v p r fun f=>f):=fun f=>by
    cases f with
    | e=>exact a0c v p .e fun l=>LT.n none .e l
    | n w l r=>exact a0c v p r fun r=>LT.n w l r
   rw[h1]at h
   cases q with
   | z=>right;cases f with
     | e=>exact h
     | n=>exact h
   | l q=>right;cases f with
     | e=>have h:a3H q .e=some g:=h
          rw[wU]at h;cases h
     | n=>exact h
   | r q=>
     cases f with
     | e=>
       rcases ih q .e h with⟨rfl,hq⟩|h
       ·exact .inl ⟨rfl,hq⟩
       ·rw[wU]at h;cases h
     | n w l r=>
       rcases ih q r h with⟨rfl,hq⟩|h
       ·exact .inl ⟨rfl,hq⟩
       ·exact .inr h
theorem b4U{α:Type}(f:FuncId)(no:α)(K:LFunc→α):(∃g,FuncOk P f g∧a3e P f no K=K g)∨a3e P f no K=no:=by
 unfold a3e
 split
 ·rename_i fn hfn
  split
  ·rename_i c hb
   rw[lM]
   split
   ·exact .inr rfl
   ·rename_i hn
    rcases b7s (P:=P) fn.results.toList (fun res=>b4j fn.ntmps fun ps=>oO P fn.ntmps c fun b=>K ⟨ps,b,res⟩) no with⟨res,hres,h1⟩|h1
    ·rw[h1,b2W]
     obtain⟨C,hC,h2⟩:=b4G (P:=P) fn.ntmps c (fun b=>K ⟨(List.range fn.ntmps).map lT,b,res⟩)
     exact .inl ⟨⟨_,C,res⟩,⟨fn,c,hfn,hb,by simpa using hn,rfl,hC,hres⟩,h2⟩
    ·exact .inr h1
  ·exact .inr rfl
 ·exact .inr rfl
theorem a9b{α:Type}(fs:List FuncId)(T:LT)(hT:TOk P T)(K:LT→α):∃T',TOk P T'∧tT P fs T K=K T':=by
 induction fs generalizing T with
 | nil=>exact⟨T,hT,rfl⟩
 | cons f fs ih=>
   have e:tT P (f::fs) T K=a3e P f (tT P fs T K) fun g=>mV (lT f) fun p=>uG g p T fun T=>tT P fs T K:=rfl
   rw[e]
   rcases b4U (P:=P) f (tT P fs T K) (fun g=>mV (lT f) fun p=>uG g p T fun T=>tT P fs T K)with⟨g,hg,h⟩|h
   ·rw[h,mT,a0c]
    refine ih _ fun f' g' h'=> ?_
    rcases b5i g (lT f) (lT f') T h' with⟨he,rfl⟩|h'
    ·rw[b2E he];exact hg
    ·exact hT f' g' h'
   ·rw[h];exact ih T hT
end Go.Ds
namespace Go.Ds
open Go.Proofs Go.Proofs.Tryz
def t64:List Nat:=[0,1,56,2,57,49,28,3,61,58,42,50,38,29,17,4,62,47,59,36,45,43,51,22,53,39,33,30,24,18,12,5,63,55,48,27,60,41,37,16,46,35,44,21,52,32,23,11,54,26,40,15,34,20,31,10,25,14,19,9,13,8,7,6]
def t32:List Nat:=[0,1,28,2,29,14,24,3,30,22,20,15,25,17,4,8,31,27,13,23,21,19,16,7,26,12,18,6,11,5,10,9]
noncomputable def gH:Heap:=((((Heap.nil.cons (.cells (t64.map fun(n:Nat)=>Value.int .u8 (.ofNat n)) 5 false 0 1)).cons (.cells [] 3 false 0 1)).cons (.cells ([1,10,100,1000,10000,100000,1000000,10000000,100000000,1000000000,10000000000,100000000000,1000000000000,10000000000000,100000000000000,1000000000000000,10000000000000000,100000000000000000,1000000000000000000,10000000000000000000].map fun(n:Nat)=>Value.int .u64 (.ofNat n)) 48 false 0 1)).cons (.cells (t32.map fun(n:Nat)=>Value.int .u8 (.ofNat n)) 5 false 0 1))
theorem c4e:prog.follows .mixedOrders=true:=by kernel_rfl
def b6e:Nat→Nat→List UInt8→List UInt8
 | 0,_,acc=>acc
 | f+1,n,acc=>if n<10 then(48+n).toUInt8::acc else b6e f (n/10) ((48+n%10).toUInt8::acc)
def qR(n:Nat):ByteArray:=⟨(b6e 100 n []).toArray⟩
theorem a5V{b:ByteArray}{n:Nat}(h:b.data.toList=b6e 100 n []):b=qR n:=by
 cases b with|mk d=>cases d with|mk l=>simp only at h;subst h;rfl
def b2F(r:Rs)(n:Nat):Bool:=match r with
 | .ok (.string b) _=>decide (b.data.toList=b6e 100 n [])
 | .th (.string b) _=>decide (b.data.toList=b6e 100 n [])
 | _=>false
def c3j(v:Value)(n:Nat):Bool:=match v with
 | .tuple vs=>match vs.toList with
   | [.string b,.int .i64 m]=>decide (m=0)&&decide (b.data.toList=b6e 100 n [])
   | _=>false
 | _=>false
def b6W(r:Rs)(n:Nat):Bool:=match r with
 | .ok v _=>c3j v n
 | .th v _=>c3j v n
 | _=>false
def b8y(r:Rs)(n:Int):Bool:=match r with
 | .ok (.int .i64 m) _=>decide (m=n)
 | .th (.int .i64 m) _=>decide (m=n)
 | _=>false
noncomputable def c4l (ps:List Nat):Bool:=tT prog [140,192,157,115,158,188,201,202,203,204,230,231,232,233,248] .e fun T=>ps.all fun x=>b2F (nX T (exF prog T 4000) [] (lT 192) [.int .i64 x] gH) x
def fsP:List Nat:=[140,100,101,102,253,191,157,141,142,257,258,221,222,223,224,227,180,181,240,241,242,243,244,245,246,251,252,254,255,201,202,203,204,230,231,232,233,248]
noncomputable def wT (ps:List Nat):Bool:=tT prog fsP .e fun T=>ps.all fun x=>b6W (nX T (exF prog T 4000) [] (lT 191) [.string (qR x),.int .i64 24] gH) (x^24)
def fsM:List Nat:=[140,100,101,102,253,192,193,157,115,141,142,257,258,221,222,223,224,225,227,158,180,181,240,241,242,243,244,245,246,188,251,252,254,255,201,202,203,204,230,231,232,233,248]
noncomputable def nP (ps:List (Nat×Nat)):Bool:=tT prog fsM .e fun T=>ps.all fun x=>b2F (nX T (exF prog T 4000) [] (lT 193) [.string (qR x.1),.string (qR x.2)] gH) (x.1*x.2)
def tY(t:Nat×Nat):List (Nat×Nat):=(t.1^24,2)::(List.range t.2).map fun k=>(2*t.1^24*4^k,4)
def a9j(t:Nat×Nat×Nat):List (Nat×Nat):=(List.range (t.2.2+1)).map fun k=>(t.1^24,2*t.2.1^24*4^k)
def b9R(a b:Nat):Int:=if a<b then -1 else if b<a then 1 else 0
noncomputable def xL (ps:List (Nat×Nat)):Bool:=tT prog [194,226,227,228,245,246,247,255,256] .e fun T=>ps.all fun x=>b8y (nX T (exF prog T 4000) [] (lT 194) [.string (qR x.1),.string (qR x.2)] gH) (b9R x.1 x.2)
end Go.Ds
namespace Go.Ds
open Go.RowKit Go.Proofs
section
variable {P:Program} {ρ:Rho} {H:Heap} {w:World}
theorem a5e{name:String}{g:Nat}{k:IntKind}{zs:List Int}(hg:P.globalNamed name=some g)(ht:Lib.TabIs P w name k zs):∃t fr,w.heap[g]? =some (.cells (zs.map fun z=>Value.int k z).toArray t fr):=by
 unfold Lib.TabIs World.var? at ht
 rw[hg,dz]at ht
 split at ht
 ·rename_i cs t fr hb
  obtain rfl:=dx ht
  exact⟨t,fr,hb⟩
 ·cases ht
theorem InW.dc(h:InW P ρ H w){name:String}{g:Nat}{k:IntKind}{zs:List Int}{ty:TypeId}(hg:P.globalNamed name=some g)(ht:Lib.TabIs P w name k zs)(hgH:g=H.length)(hty:jD P ty=some 1):
 InW P (ρ.put H.length (zs.map fun z=>Value.int k z).length ⟨g,0,zs.length,1⟩) (H.cons (.cells (zs.map fun z=>Value.int k z) ty false 0 1)) w:=by
 obtain⟨t,fr,hb⟩:=a5e hg ht
 refine(h.row ⟨g,0,zs.length,1⟩ hb (ty:=ty) hty (by simp) (zs.map fun z=>Value.int k z) 1 (fun _=>⟨hgH,rfl⟩) (by simp) fun i c hi _ hc=>⟨c,?_,?_⟩).1
 ·have:(⟨g,0,zs.length,1⟩:Place).at i=i:=by simp[Place.at]
  rw[this]
  simpa using hc
 ·rw[fh]at hc
  obtain⟨z,_,rfl⟩:=dF.1 hc
  exact .c0 (.flat rfl)
end
theorem c6M:∀A b,jR gH A=some b→∃cs ty lo,b=.cells cs ty false lo 1∧lK cs=true:=by
 intro A b h
 unfold gH at h
 have hn:∀(H:Heap)(c:Blk),jR (H.cons c) A=some b→(A=H.length∧b=c)∨jR H A=some b:=fun H c h=>by
  by_cases he:A=H.length
  ·subst he;rw[jP]at h;exact .inl ⟨rfl,(dx h).symm⟩
  ·have hA:A<(H.cons c).length:=kK h
   rw[length_cons]at hA
   rw[kS _ (by omega)]at h
   exact .inr h
 rcases hn _ _ h with⟨_,rfl⟩|h
 ·exact⟨_,_,_,rfl,by kernel_rfl⟩
 rcases hn _ _ h with⟨_,rfl⟩|h
 ·exact⟨_,_,_,rfl,by kernel_rfl⟩
 rcases hn _ _ h with⟨_,rfl⟩|h
 ·exact⟨_,_,_,rfl,by kernel_rfl⟩
 rcases hn _ _ h with⟨_,rfl⟩|h
 ·exact⟨_,_,_,rfl,by kernel_rfl⟩
 ·have:A<0:=kK h
  omega
theorem ExtW.glob{ρ ρ':Rho}{H':Heap}(h:ExtW ρ gH ρ' H'):Glob gH H':=⟨h.len,fun A hA=>h.old A hA,c6M⟩
def p10:List Int:=[1,10,100,1000,10000,100000,1000000,10000000,100000000,1000000000,10000000000,100000000000,1000000000000,10000000000000,100000000000000,1000000000000000,10000000000000000,100000000000000000,1000000000000000000,10000000000000000000]
theorem g64:Tryz.prog.globalNamed "math/bits.deBruijn64tab" =some 0:=by kernel_rfl
theorem uL:Tryz.prog.globalNamed "internal/strconv.uint64pow10" =some 2:=by kernel_rfl
theorem g32:Tryz.prog.globalNamed "math/bits.deBruijn32tab" =some 3:=by kernel_rfl
theorem c3A{w:World}(h64:Lib.TabIs Tryz.prog w "math/bits.deBruijn64tab" .u8 (t64.map Int.ofNat))(h10:Lib.TabIs Tryz.prog w "internal/strconv.uint64pow10" .u64 p10)
 (h32:Lib.TabIs Tryz.prog w "math/bits.deBruijn32tab" .u8 (t32.map Int.ofNat)) (h1001:∃cs t fr,w.heap[1]? =some (.cells cs t fr)):∃ρ,InW Tryz.prog ρ gH w:=by
 have a0:=(InW.none (P:=Tryz.prog) w).dc g64 h64 (ty:=5) rfl (by kernel_rfl)
 obtain⟨cs1,t1,fr1,hb1⟩:=h1001
 have a1:=(a0.row ⟨1,0,cs1.size,1⟩ hb1 (ty:=3) (by kernel_rfl) rfl [] 1 (fun _=>⟨rfl,rfl⟩) (by simp) (fun i c hi=>by simp at hi)).1
 have a2:=a1.dc uL h10 (ty:=48) rfl (by kernel_rfl)
 have a3:=a2.dc g32 h32 (ty:=5) rfl (by kernel_rfl)
 exact⟨_,a3⟩
end Go.Ds
namespace Go.Ds
noncomputable section
variable {P:Program} {H0:Base} {H:Heap} {os:List Ob} {κ β:Type} [DecidableEq κ] {enc:κ→Value} {f:β→Value} {t:TypeId} {z:Value}
structure MapK(P:Program)(t:TypeId){κ:Type}[DecidableEq κ](enc:κ→Value)(z:Value):Prop where
 ex:∃kt et,a0j P t=some (kt,et)∧jZ P et=some z∧kD z=true∧(∀b k,a0y P b kt (enc k)=true)∧
  (∀k(es:List MapEntry)(ks:List κ),es.map (·.key)=ks.map enc→tJ P kt (enc k) es=some (ks.findIdx? fun x=>decide (x=k)))∧∀k,Instr.sameBits 10000 (enc k) (enc k)=true
def kcs(enc:κ→Value)(f:β→Value)(kvs:List (κ×β)):List Value:=kvs.flatMap fun p=>[enc p.1,f p.2]
def yF(kvs:List (κ×β))(k:κ):Option β:=(kvs.find? fun p=>decide (p.1=k)).map (·.2)
def a4E(kvs:List (κ×β))(k:κ)(v:β):List (κ×β):=match kvs.findIdx? (fun p=>decide (p.1=k))with
 | some j=>kvs.set j (k,v)
 | none=>kvs++[(k,v)]
theorem a6P:∀(es:List MapEntry)(kvs:List (κ×β)),kcs enc f kvs=mcs es→es.map (·.key)=kvs.map (fun p=>enc p.1)∧es.map (·.val)=kvs.map (fun p=>f p.2)
 | [],[],_=>⟨rfl,rfl⟩
 | [],p::kvs,h=>by simp[kcs,mcs]at h
 | e::es,[],h=>by simp[kcs,mcs]at h
 | e::es,p::kvs,h=>by
   simp only[kcs,mcs,ec,ga,fP,fq]at h
   obtain⟨h1,h2,h3⟩:=h
   obtain⟨h4,h5⟩:=a6P es kvs h3
   simp only[eG]
   exact⟨by rw[h4,h1],by rw[h5,h2]⟩
theorem b0x:∀(es:List MapEntry)(kvs:List (κ×β)),es.map (·.key)=kvs.map (fun p=>enc p.1)→es.map (·.val)=kvs.map (fun p=>f p.2)→kcs enc f kvs=mcs es
 | [],[],_,_=>rfl
 | [],p::kvs,h,_=>by simp at h
 | e::es,[],h,_=>by simp at h
 | e::es,p::kvs,h,h'=>by
   simp only[eG,fq]at h h'
   have:=b0x es kvs h.2 h'.2
   simp only[kcs,mcs,ec]at this ⊢
   rw[this,h.1,h'.1]
theorem St.cq(hS:St P H0 H os)(i:Nat){A:Nat}{cs:List Value}(ho:os[i]? =some ⟨.map (some A),0,cs⟩):∃es ck ver,jR H A=some (.map es ck ver)∧cs=mcs es∧Stamps es ck:=by
 have:=hS.own _ (dN ho)
 unfold OwnAt at this
 rw[if_pos rfl]at this
 rcases this with⟨_,_,_,_,_,_,h⟩|⟨A',es,ck,ver,h1,h2,h3,h4⟩
 ·cases h
 ·simp only[Value.map.injEq,dY]at h3
  subst h3
  exact⟨es,ck,ver,h1,h2,h4⟩
theorem b3a(kvs:List (κ×β))(k:κ):(∃j x,(kvs.map (·.1)).findIdx? (fun x=>decide (x=k))=some j∧kvs[j]? =some x∧kvs.find? (fun p=>decide (p.1=k))=some x)∨((kvs.map (·.1)).findIdx? (fun x=>decide (x=k))=none∧kvs.find? (fun p=>decide (p.1=k))=none):=by
 induction kvs with
 | nil=>exact .inr ⟨rfl,rfl⟩
 | cons p kvs ih=>
   by_cases h:p.1=k
   ·exact .inl ⟨0,p,by simp[fN,h],rfl,by simp[h]⟩
   ·rcases ih with⟨j,x,h1,h2,h3⟩|⟨h1,h2⟩
    ·exact .inl ⟨j+1,x,by simp[fN,h,h1],by simpa using h2,by simp[h,h3]⟩
    ·exact .inr ⟨by simp[fN,h,h1],by simp[h,h2]⟩
theorem St.dq(hS:St P H0 H os)(i:Nat){A:Nat}{kvs:List (κ×β)}(ho:os[i]? =some ⟨.map (some A),0,kcs enc f kvs⟩)(hk:MapK P t enc z)(hf:∀b,oL (f b)=true)(c:Bool)(k:κ):
 qV P H t (.map (some A)) (enc k) c=some (pairV c (((yF kvs k).map f).getD z) (yF kvs k).isSome):=by
 obtain⟨kt,et,h1,h2,h3,h4,h5,h6⟩:=hk.ex
 obtain⟨es,ck,ver,h7,h8,_⟩:=hS.cq i ho
 obtain⟨h9,h10⟩:=a6P es kvs h8
 have hi:=h5 k es (kvs.map (·.1)) (by rw[h9];simp[iV])
 simp only[qV,h1,dz,a3J,h7,h4,if_true,hi,yF]
 rcases b3a kvs k with⟨j,x,e1,e2,e3⟩|⟨e1,e3⟩
 ·have hj:es[j]?.map (·.val)=some (f x.2):=by
   rw[←fh,h10,fh,e2];rfl
  cases he:es[j]? with
  | none=>rw[he]at hj;simp at hj
  | some e=>
    rw[he]at hj
    simp only[ee,dY]at hj
    simp only[e1,he,dz,hj,hf,if_true,e3,ee,ef,Option.isSome_some]
 ·simp only[e1,e3,Option.map_none,Option.getD_none,Option.isSome_none,h2,dz,h3,if_true]
def a8C(P:Program)(H:Heap)(t:TypeId)(x k:Value)(c:Bool)(K:Value→Prop)(_k:Keep K:=⟨⟩):Prop:=∃v,qV P H t x k c=some v∧K v
theorem a8r{t:TypeId}{x x' k k':Value}{c:Bool}{K:Value→Prop}(h:x=x')(h2:k=k'):a8C P H t x k c K=a8C P H t x' k' c K:=by rw[h,h2]
attribute [congr] a8r
theorem b1s(d ty pos af g)(t:TypeId)(x k:Operand)(c:Bool)(l:List Value)(K:Value→Heap→Prop):
 nH P ⟨d,.lookup t x k c,ty,pos,af,g⟩ l H K=kI x l fun x=>kI k l fun k=>a8C P H t x k c fun v=>K v H:=by
 have h2:kW ((qV P H t (ev l x) (ev l k) c).map fun v=>(v,H)) K=∃v,qV P H t (ev l x) (ev l k) c=some v∧K v H:=by
  cases qV P H t (ev l x) (ev l k) c<;>simp[kW]
 simp only[nH,opD,kI,Op.operands,a8C,h2]
 simp[and_assoc]
theorem St.aY(hS:St P H0 H os)(i:Nat){A:Nat}{kvs:List (κ×β)}(ho:os[i]? =some ⟨.map (some A),0,kcs enc f kvs⟩)(hk:MapK P t enc z)(hf:∀b,oL (f b)=true){c:Bool}{k:κ}{K:Value→Prop}
 (h:K (pairV c (((yF kvs k).map f).getD z) (yF kvs k).isSome)):a8C P H t (.map (some A)) (enc k) c K:=⟨_,hS.dq i ho hk hf c k,h⟩
def a6U(P:Program)(H:Heap)(t:TypeId)(K:Value→Heap→Prop)(_k:Keep K:=⟨⟩):Prop:=∃v H1,rE P H t none=some (v,H1)∧K v H1
theorem a9F(d ty pos af g)(t:TypeId)(l:List Value)(K:Value→Heap→Prop):nH P ⟨d,.makeMap t none,ty,pos,af,g⟩ l H K=a6U P H t K:=by
 simp only[nH,opD,Op.operands,a6U,oF]
 simp
theorem St.cb(hS:St P H0 H os)(hk:MapK P t enc z){K:Value→Heap→Prop}(h:∀A H1,St P H0 H1 (os++[⟨.map (some A),0,[]⟩])→K (.map (some A)) H1):a6U P H t K:=by
 obtain⟨kt,et,h1,_⟩:=hk.ex
 refine⟨.map (some H.length),H.cons (.map [] 0 0),by simp[rE,h1],h _ _ (hS.add ?_ ?_ ?_ ?_)⟩
 ·unfold OwnAt
  rw[if_pos rfl]
  exact .inr ⟨_,[],0,0,jP H _,rfl,rfl,.nil 0⟩
 ·simp[qU]
 ·exact fun B hB=>kS _ hB
 ·intro B hB
  simp[kX]at hB
  omega
def b9k(P:Program)(H:Heap)(t:TypeId)(m k v:Value)(K:Heap→Prop)(_k:Keep K:=⟨⟩):Prop:=∃H1,a2p P H t m k v=some H1∧K H1
theorem b1U{t:TypeId}{m m' k k' v v':Value}{K:Heap→Prop}(h:m=m')(h2:k=k')(h3:v=v'):b9k P H t m k v K=b9k P H t m' k' v' K:=by rw[h,h2,h3]
attribute [congr] b1U
theorem a4o(d ty pos af g)(t:TypeId)(m k v:Operand)(l:List Value)(K:Value→Heap→Prop):
 nH P ⟨d,.mapUpdate t m k v,ty,pos,af,g⟩ l H K=kI m l fun m=>kI k l fun k=>kI v l fun v=>b9k P H t m k v fun H1=>K undef H1:=by
 have h2:kW ((a2p P H t (ev l m) (ev l k) (ev l v)).map fun H=>(undef,H)) K=∃H1,a2p P H t (ev l m) (ev l k) (ev l v)=some H1∧K undef H1:=by
  cases a2p P H t (ev l m) (ev l k) (ev l v)<;>simp[kW]
 simp only[nH,opD,kI,Op.operands,b9k,h2]
 simp[and_assoc]
theorem b2Q(kvs:List (κ×β))(k:κ)(v:β):a4E kvs k v=match (kvs.map (·.1)).findIdx? (fun x=>decide (x=k))with|some j=>kvs.set j (k,v)|none=>kvs++[(k,v)]:=by
 unfold a4E
 rw[List.findIdx?_map]
 rfl
theorem St.cE(hS:St P H0 H os)(i:Nat){A:Nat}{kvs:List (κ×β)}(ho:os[i]? =some ⟨.map (some A),0,kcs enc f kvs⟩)(hk:MapK P t enc z){k:κ}{v:β}{K:Heap→Prop}
 (h:∀H1,St P H0 H1 (os.set i ⟨.map (some A),0,kcs enc f (a4E kvs k v)⟩)→K H1):b9k P H t (.map (some A)) (enc k) (f v) K:=by
 obtain⟨kt,et,h1,h2,h3,h4,h5,h6⟩:=hk.ex
 obtain⟨es,ck,ver,h7,h8,hst⟩:=hS.cq i ho
 obtain⟨h9,h10⟩:=a6P es kvs h8
 have hi:=h5 k es (kvs.map (·.1)) (by rw[h9];simp[iV])
 have fin:∀es' ck',mcs es'=kcs enc f (a4E kvs k v)→Stamps es' ck'→St P H0 (hset H A (.map es' ck' (ver+1))) (os.set i ⟨.map (some A),0,kcs enc f (a4E kvs k v)⟩):=by
  intro es' ck' he hst'
  refine hS.put i ho ?_ ?_ ?_ ?_
  ·unfold OwnAt
   rw[if_pos rfl]
   exact .inr ⟨A,es',ck',_,jQ _ (kK h7),he.symm,rfl,hst'⟩
  ·rw[kN];exact dD _
  ·intro B hB hne
   exact rF fun hh=>hne (by simp[kX,hh])
  ·exact fun B hB=>.inl hB
 rcases b3a kvs k with⟨j,x,e1,e2,_⟩|⟨e1,_⟩
 ·have hj:es[j]?.map (·.key)=some (enc x.1):=by
   rw[←fh,h9,fh,e2];rfl
  have hx:x.1=k:=by
   have:=List.findIdx?_eq_some_iff_getElem.1 e1
   obtain⟨hlt,hd,_⟩:=this
   have hlt':j<kvs.length:=by simpa using hlt
   have:kvs[j]=x:=by
    rw[dI hlt']at e2
    exact dx e2
   simp[this]at hd
   exact hd
  cases he:es[j]? with
  | none=>rw[he]at hj;simp at hj
  | some e=>
    rw[he]at hj
    simp only[ee,dY]at hj
    refine⟨hset H A (.map (es.set j {e with key:=enc k,val:=f v}) ck (ver+1)),?_,h _ (fin _ _ ?_ (hst.set he _ rfl))⟩
    ·have hsb:Instr.sameBits 10000 e.key (enc k)=true:=by rw[hj,hx];exact h6 k
     simp only[a2p,h1,dz,h7,h4,if_true,hi,e1,he,hsb]
    ·symm
     rw[b2Q,e1]
     refine b0x _ _ ?_ ?_
     ·rw[iE,iE,h9]
     ·rw[iE,iE,h10]
 ·refine⟨hset H A (.map (es++[{key:=enc k,val:=f v,born:=ck}]) (ck+1) (ver+1)),?_,h _ (fin _ _ ?_ (hst.push _ rfl))⟩
  ·simp only[a2p,h1,dz,h7,h4,if_true,hi,e1]
  ·symm
   rw[b2Q,e1]
   refine b0x _ _ ?_ ?_
   ·rw[dU,dU,h9];rfl
   ·rw[dU,dU,h10];rfl
def c2G(P:Program)(H:Heap)(t:TypeId)(m k:Value)(K:Value→Heap→Prop)(_k:Keep K:=⟨⟩):Prop:=∃v H1,vB P H t m k=some (v,H1)∧K v H1
theorem b1l{t:TypeId}{m m' k k':Value}{K:Value→Heap→Prop}(h:m=m')(h2:k=k'):c2G P H t m k K=c2G P H t m' k' K:=by rw[h,h2]
attribute [congr] b1l
def b3v(H:Heap)(m b v:Value)(K:Heap→Prop)(_k:Keep K:=⟨⟩):Prop:=∃H1,tI H m b v=some H1∧K H1
theorem a7R{m m' b b' v v':Value}{K:Heap→Prop}(h:m=m')(h2:b=b')(h3:v=v'):b3v H m b v K=b3v H m' b' v' K:=by rw[h,h2,h3]
attribute [congr] a7R
theorem a7j(d ty pos af g)(t:TypeId)(m k:Operand)(l:List Value)(K:Value→Heap→Prop):
 nH P ⟨d,.mapEntry t m k,ty,pos,af,g⟩ l H K=kI m l fun m=>kI k l fun k=>c2G P H t m k K:=by
 have h2:kW (vB P H t (ev l m) (ev l k)) K=∃v H1,vB P H t (ev l m) (ev l k)=some (v,H1)∧K v H1:=oF ..
 simp only[nH,opD,kI,Op.operands,c2G,h2]
 simp[and_assoc]
theorem a2Y(d ty pos af g)(t:TypeId)(m b v:Operand)(l:List Value)(K:Value→Heap→Prop):
 nH P ⟨d,.entryStore t m b v,ty,pos,af,g⟩ l H K=kI m l fun m=>kI b l fun b=>kI v l fun v=>b3v H m b v fun H1=>K undef H1:=by
 have h2:kW ((tI H (ev l m) (ev l b) (ev l v)).map fun H=>(undef,H)) K=∃H1,tI H (ev l m) (ev l b) (ev l v)=some H1∧K undef H1:=by
  cases tI H (ev l m) (ev l b) (ev l v)<;>simp[kW]
 simp only[nH,opD,kI,Op.operands,b3v,h2]
 simp[and_assoc]
theorem a8Q(kvs:List (κ×β))(k k':κ)(v:β):yF (a4E kvs k v) k'=if k'=k then some v else yF kvs k':=by
 unfold yF a4E
 induction kvs with
 | nil=>
   by_cases h:k'=k
   ·simp[h]
   ·simp[h,fJ h]
 | cons p kvs ih=>
   by_cases hp:p.1=k
   ·simp only[fN,hp,decide_true,if_true,gK,List.find?_cons]
    by_cases h:k'=k
    ·simp[h]
    ·simp[h,fJ h]
   ·have hd:decide (p.1=k)=false:=by simp[hp]
    simp only[fN,hd,eO,if_false]
    by_cases hq:p.1=k'
    ·have hne:¬k'=k:=fun e=>hp (hq.trans e)
     cases hh:kvs.findIdx? (fun p=>decide (p.1=k))with
     | none=>simp[hq,hne]
     | some j=>simp[hq,hne]
    ·cases hh:kvs.findIdx? (fun p=>decide (p.1=k))with
     | none=>
       rw[hh]at ih
       simpa [hq,List.find?_cons]using ih
     | some j=>
       rw[hh]at ih
       simpa [hq,List.find?_cons]using ih
end
end Go.Ds
namespace Go.Ds
noncomputable section
variable {P:Program} {H:Heap}
theorem lQ{α:Type}(P:Program)(x:α):jO P (pure x)=some x:=rfl
theorem kV{t:TypeId}{d:TypeDesc}(h:P.underlying t=some d):jO P (underlying t)=some d:=by
 unfold underlying
 rw[jL]
 have:jO P program=some P:=rfl
 rw[this,dz,h]
 rfl
def mL:Operand→Bool
 | .const _=>true
 | _=>false
def qD(c:Bool)(i:Nat)(v:Value):Operand:=if c then .const v else .tmp i
def lJ(P:Program)(op:BinOp)(t t2:TypeId)(cx cy:Bool)(x y:Value):Option Value:=(opD P ⟨none,.binOp op t (qD cx 0 x) (qD cy 1 y) t2,t,"",#[],none⟩ [x,y] .nil).map (·.1)
def lU(P:Program)(op:BinOp)(t t2:TypeId)(cx cy:Bool)(x y:Value)(K:Value→Prop)(_k:Keep K:=⟨⟩):Prop:=match x,y with
 | .int k a,.int k' b=>(match (if k=k' then oC op k a b else none)with|some v=>K v|none=>kQ (lJ P op t t2 cx cy (.int k a) (.int k' b)) K)
 | x,y=>kQ (lJ P op t t2 cx cy x y) K
theorem a8x{op:BinOp}{t t2:TypeId}{cx cy:Bool}{x x' y y':Value}{K:Value→Prop}(h:x=x')(h2:y=y'):lU P op t t2 cx cy x y K=lU P op t t2 cx cy x' y' K:=by rw[h,h2]
attribute [congr] a8x
theorem b1M(x:Operand)(l m:List Value):ev (ev l x::m) (qD (mL x) 0 (ev l x))=ev l x:=by cases x<;>rfl
theorem b1o(x:Operand)(l m:List Value)(a:Value):ev (a::ev l x::m) (qD (mL x) 1 (ev l x))=ev l x:=by cases x<;>rfl
theorem c0k(op:BinOp)(t:TypeId)(x y:Operand)(l:List Value):eqGuard op t x y (ev l x) (ev l y)=eqGuard op t (qD (mL x) 0 (ev l x)) (qD (mL y) 1 (ev l y)) (ev l x) (ev l y):=by
 generalize hx:ev l x=vx
 generalize hy:ev l y=vy
 cases x<;>cases y<;>rfl
theorem c2v(d ty pos af g)(op:BinOp)(t:TypeId)(x y:Operand)(t2:TypeId)(l:List Value)(H:Heap):
 opD P ⟨d,.binOp op t x y t2,ty,pos,af,g⟩ l H=(lJ P op t t2 (mL x) (mL y) (ev l x) (ev l y)).map fun v=>(v,H):=by
 have hp:lS P ⟨d,.binOp op t x y t2,ty,pos,af,g⟩ l H=_:=oJ (P:=P) ⟨d,.binOp op t x y t2,ty,pos,af,g⟩ ⟨none,.binOp op t (qD (mL x) 0 (ev l x)) (qD (mL y) 1 (ev l y)) t2,t,"",#[],none⟩ l [ev l x,ev l y] H
  (by simp only[Op.operands,eG,gj,b1M,b1o]) (by
    simp only[execOp]
    rw[b1M,b1o,←c0k])
 simp only[opD,lJ,hp,b1M,b1o]
 generalize lS P _ _ _=r
 generalize ev l x=vx
 generalize ev l y=vy
 split
 all_goals first
  | (split<;>first|rfl|(split<;>first|rfl|(cases r<;>rfl))|(cases r<;>rfl))
  | (cases r<;>rfl)
theorem b6x(d ty pos af g)(op:BinOp)(t:TypeId)(x y:Operand)(t2:TypeId)(l:List Value)(K:Value→Heap→Prop):
 nH P ⟨d,.binOp op t x y t2,ty,pos,af,g⟩ l H K=kI x l fun x'=>kI y l fun y'=>lU P op t t2 (mL x) (mL y) x' y' fun v=>K v H:=by
 have h:kW (opD P ⟨d,.binOp op t x y t2,ty,pos,af,g⟩ l H) K=lU P op t t2 (mL x) (mL y) (ev l x) (ev l y) fun v=>K v H:=by
  have key:kW ((lJ P op t t2 (mL x) (mL y) (ev l x) (ev l y)).map fun v=>(v,H)) K=kQ (lJ P op t t2 (mL x) (mL y) (ev l x) (ev l y)) fun v=>K v H:=by
   cases lJ P op t t2 (mL x) (mL y) (ev l x) (ev l y)<;>rfl
  rw[c2v,key]
  unfold lU
  split
  ·rename_i k a k' b hx hy
   split
   ·rename_i v hv
    split at hv
    ·rename_i hk
     subst hk
     have:lJ P op t t2 (mL x) (mL y) (.int k a) (.int k b)=some v:=by
      have h1:∀m,ev ((.int k a:Value)::m) (qD (mL x) 0 (.int k a))=.int k a:=fun m=>by cases mL x<;>rfl
      have h2:∀m c,ev (c::(.int k b:Value)::m) (qD (mL y) 1 (.int k b))=.int k b:=fun m c=>by cases mL y<;>rfl
      cases op<;>simp only[oC]at hv<;>first|(cases hv;done)|(simp only[lJ,opD,h1,h2,oC,if_true,hv];rfl)
     rw[hx,hy,this]
     rfl
    ·cases hv
   ·rw[hx,hy]
  ·rfl
 simp only[nH,h,kI,Op.operands]
 simp[and_assoc]
theorem nJ(op:BinOp)(t t2:TypeId)(cx cy:Bool)(k:IntKind)(a b:Int){v:Value}(K:Value→Prop)(h:oC op k a b=some v):lU P op t t2 cx cy (.int k a) (.int k b) K=oN v K:=by
 simp[lU,h,oN]
section
theorem b5S(t t2:TypeId)(cx cy:Bool)(k:IntKind)(a b:Int)(K:Value→Prop):lU P .add t t2 cx cy (.int k a) (.int k b) K=oN (.int k (k.wrap (a+b))) K:=nJ _ _ _ _ _ _ _ _ _ (by simp[oC,b3z,xK])
theorem b5o(t t2:TypeId)(cx cy:Bool)(k:IntKind)(a b:Int)(K:Value→Prop):lU P .sub t t2 cx cy (.int k a) (.int k b) K=oN (.int k (k.wrap (a-b))) K:=nJ _ _ _ _ _ _ _ _ _ (by simp[oC,b3A,xK])
theorem b4d(t t2:TypeId)(cx cy:Bool)(k:IntKind)(a b:Int)(K:Value→Prop):lU P .mul t t2 cx cy (.int k a) (.int k b) K=oN (.int k (k.wrap (a*b))) K:=nJ _ _ _ _ _ _ _ _ _ (by simp[oC,xK])
theorem b5B(t t2:TypeId)(cx cy:Bool)(k:IntKind)(a b:Int)(K:Value→Prop):lU P .eql t t2 cx cy (.int k a) (.int k b) K=oN (.bool (decide (a=b))) K:=nJ _ _ _ _ _ _ _ _ _ (by simp[oC,a2R];rfl)
theorem b6f(t t2:TypeId)(cx cy:Bool)(k:IntKind)(a b:Int)(K:Value→Prop):lU P .neq t t2 cx cy (.int k a) (.int k b) K=oN (.bool (decide (¬a=b))) K:=nJ _ _ _ _ _ _ _ _ _ (by simp[oC,a2R];rfl)
theorem b5V(t t2:TypeId)(cx cy:Bool)(k:IntKind)(a b:Int)(K:Value→Prop):lU P .lss t t2 cx cy (.int k a) (.int k b) K=oN (.bool (decide (a<b))) K:=nJ _ _ _ _ _ _ _ _ _ (by simp[oC,a1w])
theorem b4k(t t2:TypeId)(cx cy:Bool)(k:IntKind)(a b:Int)(K:Value→Prop):lU P .leq t t2 cx cy (.int k a) (.int k b) K=oN (.bool (decide (a≤b))) K:=nJ _ _ _ _ _ _ _ _ _ (by simp[oC,a1w,←Int.not_lt])
theorem b5p(t t2:TypeId)(cx cy:Bool)(k:IntKind)(a b:Int)(K:Value→Prop):lU P .gtr t t2 cx cy (.int k a) (.int k b) K=oN (.bool (decide (b<a))) K:=nJ _ _ _ _ _ _ _ _ _ (by simp[oC,a1w])
theorem b4W(t t2:TypeId)(cx cy:Bool)(k:IntKind)(a b:Int)(K:Value→Prop):lU P .geq t t2 cx cy (.int k a) (.int k b) K=oN (.bool (decide (b≤a))) K:=nJ _ _ _ _ _ _ _ _ _ (by simp[oC,a1w,←Int.not_lt])
theorem b4P(t t2:TypeId)(cx cy:Bool)(k:IntKind)(a b:Int)(K:Value→Prop)(hb:b≠0):lU P .rem t t2 cx cy (.int k a) (.int k b) K=oN (.int k (a.tmod b)) K:=nJ _ _ _ _ _ _ _ _ _ (by
 have:(b==0)=false:=by simp[hb]
 simp[oC,a2R,this])
theorem b5m(t t2:TypeId)(cx cy:Bool)(k:IntKind)(a b:Int)(K:Value→Prop)(hb:b≠0):lU P .quo t t2 cx cy (.int k a) (.int k b) K=oN (.int k (k.wrap (a.tdiv b))) K:=nJ _ _ _ _ _ _ _ _ _ (by
 have:(b==0)=false:=by simp[hb]
 simp[oC,a2R,xK,this])
end
theorem mU{op:BinOp}{t t2:TypeId}{cx cy:Bool}{x y v:Value}(hx:flat x=true)(hy:flat y=true)(hg:jO P (eqGuard op t (qD cx 0 x) (qD cy 1 y) x y)=some ())
 (hv:jO P (binOp op t x y)=some v) (hf:flat v=true) (hs:∀a n c,x≠.slice (some a) n c) (hp:∀a,x≠.pointer (some a)) (hi:∀k a b,x=.int k a→y=.int k b→oC op k a b=none):lJ P op t t2 cx cy x y=some v:=by
 have h1:∀m,ev (x::m) (qD cx 0 x)=x:=fun m=>by cases cx<;>rfl
 have h2:∀m c,ev (c::y::m) (qD cy 1 y)=y:=fun m c=>by cases cy<;>rfl
 have hpl:lS P ⟨none,.binOp op t (qD cx 0 x) (qD cy 1 y) t2,t,"",#[],none⟩ [x,y] .nil=some (v,.nil):=by
  unfold lS
  rw[if_pos (by simp[Op.operands,h1,h2,hx,hy])]
  have:execOp (ev [x,y]) ⟨none,.binOp op t (qD cx 0 x) (qD cy 1 y) t2,t,"",#[],none⟩=(do let v ←(do eqGuard op t (qD cx 0 x) (qD cy 1 y) x y;binOp op t x y);pure (.value v)):=by
   simp only[execOp,h1,h2]
  rw[this,jL,jL,hg,dz,hv,dz,lQ]
  simp only[hf,if_true]
 simp only[lJ,opD,h1,h2,hpl]
 split
 ·exact absurd rfl (hs _ _ _)
 ·exact absurd rfl (hs _ _ _)
 ·rename_i k a k' b
  split
  ·rename_i hk
   subst hk
   rw[hi _ _ _ rfl rfl]
   rfl
  ·rfl
 ·exact absurd rfl (hp _)
 ·exact absurd rfl (hp _)
 ·exact absurd rfl (hp _)
 ·exact absurd rfl (hp _)
 ·rfl
theorem sB{op:BinOp}{t:TypeId}{x y:Operand}{k k':IntKind}{a b:Int}:jO P (eqGuard op t x y (.int k a) (.int k' b))=some ():=by
 unfold eqGuard
 split<;>rfl
section
theorem b7U(t t2:TypeId)(cx cy:Bool)(a b:Int){k k':IntKind}(hb:0≤b):lJ P .shr t t2 cx cy (.int k a) (.int k' b)=some (.int k (a.fdiv (2^(min b.toNat k.bits)))):=
 mU rfl rfl sB (by simp only[binOp,Op.shift];rw[if_neg (by omega)];rfl) rfl (by simp) (by simp) (by intros;rfl)
theorem b7Q(t t2:TypeId)(cx cy:Bool)(a b:Int){k k':IntKind}(hb:0≤b):lJ P .shl t t2 cx cy (.int k a) (.int k' b)=some (.int k (k.wrap (a*2^(min b.toNat k.bits)))):=
 mU rfl rfl sB (by simp only[binOp,Op.shift];rw[if_neg (by omega)];rfl) rfl (by simp) (by simp) (by intros;rfl)
theorem b6U(t t2:TypeId)(cx cy:Bool)(a b:Int)(k:IntKind):lJ P .and t t2 cx cy (.int k a) (.int k b)=some (.int k (k.wrap (BitVec.ofInt k.bits a&&&BitVec.ofInt k.bits b).toNat)):=
 mU rfl rfl sB (by simp only[binOp];rw[if_neg (by simp)];rfl) rfl (by simp) (by simp) (by intros;rfl)
theorem c1r(t t2:TypeId)(cx cy:Bool)(a b:Int)(k:IntKind):lJ P .or t t2 cx cy (.int k a) (.int k b)=some (.int k (k.wrap (BitVec.ofInt k.bits a|||BitVec.ofInt k.bits b).toNat)):=
 mU rfl rfl sB (by simp only[binOp];rw[if_neg (by simp)];rfl) rfl (by simp) (by simp) (by intros;rfl)
theorem b7a(t t2:TypeId)(cx cy:Bool)(a b:Int)(k:IntKind):lJ P .xor t t2 cx cy (.int k a) (.int k b)=some (.int k (k.wrap (BitVec.ofInt k.bits a^^^BitVec.ofInt k.bits b).toNat)):=
 mU rfl rfl sB (by simp only[binOp];rw[if_neg (by simp)];rfl) rfl (by simp) (by simp) (by intros;rfl)
theorem a9x(t t2:TypeId)(cx cy:Bool)(a b:Int)(k:IntKind):lJ P .andNot t t2 cx cy (.int k a) (.int k b)=some (.int k (k.wrap (BitVec.ofInt k.bits a&&&~~~ BitVec.ofInt k.bits b).toNat)):=
 mU rfl rfl sB (by simp only[binOp];rw[if_neg (by simp)];rfl) rfl (by simp) (by simp) (by intros;rfl)
end
section
variable (a b:ByteArray)
theorem a1e{op:BinOp}{t:TypeId}{x y:Operand}:jO P (eqGuard op t x y (.string a) (.string b))=some ():=by
 unfold eqGuard
 split<;>rfl
theorem a2e(h:a.data.toList=b.data.toList):a=b:=by
 cases a;cases b
 simp only[ByteArray.mk.injEq]
 exact Array.toList_inj.1 h
theorem a3i:(a.toList==b.toList)=decide (a=b):=by
 rw[ByteArray.toList_eq,ByteArray.toList_eq,eU,beq_iff_eq,decide_eq_true_iff]
 exact⟨a2e a b,fun h=>by rw[h]⟩
theorem b2n(t t2:TypeId)(cx cy:Bool)(a b:ByteArray):lJ P .eql t t2 cx cy (.string a) (.string b)=some (.bool (decide (a=b))):=
 mU rfl rfl (a1e a b) (by rw[←a3i];rfl) rfl (by simp) (by simp) (by intro _ _ _ h;cases h)
theorem b0Y(t t2:TypeId)(cx cy:Bool)(a b:ByteArray):lJ P .neq t t2 cx cy (.string a) (.string b)=some (.bool (decide (¬a=b))):=
 mU rfl rfl (a1e a b) (by
  have:decide (¬a=b)= !(a.toList==b.toList):=by rw[a3i];simp
  rw[this];rfl) rfl (by simp) (by simp) (by intro _ _ _ h;cases h)
theorem oD(t t2:TypeId)(cx cy:Bool)(a b:ByteArray)(h:a.size+b.size<9223372036854775808):lJ P .add t t2 cx cy (.string a) (.string b)=some (.string (a++b)):=
 mU rfl rfl (a1e a b) (by
  simp only[binOp,Op.stringOp]
  rw[if_neg]
  ·rfl
  ·have:IntKind.i64.max=9223372036854775807:=by decide
   rw[this];omega) rfl (by simp) (by simp) (by intro _ _ _ h;cases h)
end
theorem b9o{t:TypeId}(s:ByteArray)(ht:qC P t=true):a1y P H t (.string s)=some (.int .i64 s.size):=by
 unfold qC at ht
 unfold a1y
 split at ht
 ·rename_i h;rw[h];simp[zA,goInt]
 ·cases ht
def qO(P:Program)(t:TypeId)(x i:Value):Option Value:=(opD P ⟨none,.index t (.const x) (.const i),t,"",#[],none⟩ [] .nil).map (·.1)
theorem b3N(d ty pos af g)(t:TypeId)(x i:Operand)(l:List Value)(K:Value→Heap→Prop):
 nH P ⟨d,.index t x i,ty,pos,af,g⟩ l H K=kI x l fun x=>kI i l fun i=>kQ (qO P t x i) fun v=>K v H:=by
 have h:opD P ⟨d,.index t x i,ty,pos,af,g⟩ l H=(qO P t (ev l x) (ev l i)).map fun v=>(v,H):=by
  have hp:=oJ (P:=P) ⟨d,.index t x i,ty,pos,af,g⟩ ⟨none,.index t (.const (ev l x)) (.const (ev l i)),t,"",#[],none⟩ l [] H rfl rfl
  simp only[opD,qO]
  exact hp
 have h2:kW ((qO P t (ev l x) (ev l i)).map fun v=>(v,H)) K=kQ (qO P t (ev l x) (ev l i)) fun v=>K v H:=by cases qO P t (ev l x) (ev l i)<;>rfl
 simp only[nH,h,kI,Op.operands,h2]
 simp[and_assoc]
def pS(s:ByteArray)(i:Nat):Nat:=(s.data.toList.getD i 0).toNat
theorem b0g{t:TypeId}(s:ByteArray)(k:IntKind)(i:Int)(ht:qC P t=true)(h0:0≤i)(h1:i<s.size):qO P t (.string s) (.int k i)=some (.int .u8 (pS s i.toNat)):=by
 have hu:P.underlying t=some .string:=by
  unfold qC at ht
  split at ht
  ·rename_i h;exact h
  ·cases ht
 have hr:jO P (Instr.index t (.string s) (.int k i))=some (.int .u8 (pS s i.toNat)):=by
  unfold Instr.index
  rw[jL]
  have e1:jO P (asIntOf (.int k i))=some (k,i):=rfl
  rw[e1,dz]
  simp only[jL,kV hu,dz]
  rw[if_pos h0]
  have hlt:i.toNat<s.size:=by omega
  have hb:s[i.toNat]? =some s[i.toNat]:=by simp[getElem?_pos,hlt]
  simp only[hb]
  rw[lQ]
  congr 3
  unfold pS
  rw[dB]
  have hl:i.toNat<s.data.toList.length:=by simpa using hlt
  rw[dI hl]
  rfl
 have hpl:lS P ⟨none,.index t (.const (.string s)) (.const (.int k i)),t,"",#[],none⟩ [] .nil=some (.int .u8 (pS s i.toNat),.nil):=by
  unfold lS
  rw[if_pos (by rfl)]
  have:execOp (ev []) ⟨none,.index t (.const (.string s)) (.const (.int k i)),t,"",#[],none⟩=(do let v ←Instr.index t (.string s) (.int k i);pure (.value v)):=rfl
  rw[this,jL,hr,dz,lQ]
  rfl
 simp only[qO,opD,hpl]
 rfl
def a2u(P:Program)(t:TypeId):Option IntKind:=match P.underlying t with|some (.int k)=>some k|_=>none
theorem a1M{t:TypeId}{k:IntKind}(h:a2u P t=some k):P.underlying t=some (.int k):=by
 unfold a2u at h
 split at h
 ·rename_i h2;rw[h2];injection h with h;rw[h]
 ·cases h
theorem b5u{s t:TypeId}{k k':IntKind}(a:Int)(hs:a2u P s=some k)(ht:a2u P t=some k'):a3Z P s t (.int k a)=some (.int k' (k'.wrap a)):=by
 have hr:jO P (convert s t (.int k a))=some (.int k' (k'.wrap a)):=by
  unfold convert
  simp only[jL,kV (a1M hs),kV (a1M ht),dz]
  rfl
 have hpl:lS P ⟨none,.convert s t (.const (.int k a)),t,"",#[],none⟩ [] .nil=some (.int k' (k'.wrap a),.nil):=by
  unfold lS
  rw[if_pos (by rfl)]
  have:execOp (ev []) ⟨none,.convert s t (.const (.int k a)),t,"",#[],none⟩=(do let v ←convert s t (.int k a);pure (.value v)):=rfl
  rw[this,jL,hr,dz,lQ]
  rfl
 simp only[a3Z,hpl]
 rfl
def a6v(P:Program)(d:Nat)(xs ys:Array Value)(fs:List Field):Option Bool:=
 (jO P (forIn fs ((none,()):Option Bool×Unit) fun f _=>
   if f.name≠ "_" then do
    let a ←part f.type xs f.offset
    let b ←part f.type ys f.offset
    let c ←Op.equalIn d f.type a b
    if(!c)=true then pure (ForInStep.done (some false,()))else pure (ForInStep.yield (none,()))
   else pure (ForInStep.yield (none,())))).bind fun x=>jO P (match x.fst with|some r=>pure r|none=>pure true)
theorem a3q{d:Nat}{xs ys:Array Value}(g:Field→Bool):∀(fs:List Field),(∀f∈fs,f.name≠ "_" ∧jO P (part f.type xs f.offset>>=fun x=>part f.type ys f.offset>>=fun y=>Op.equalIn d f.type x y)=some (g f))→
 a6v P d xs ys fs=some (fs.all g)
 | [],_=>rfl
 | f::fs,hg=>by
   obtain⟨h1,h2⟩:=hg f (eY ..)
   have ih:=a3q g fs fun f' h=>hg f' (eV _ h)
   unfold a6v at ih ⊢
   rw[jL]at h2
   simp only[List.forIn_cons,h1,ne_eq,not_false_eq_true,if_true,jL]
   cases hx:jO P (part f.type xs f.offset)with
   | none=>rw[hx]at h2;cases h2
   | some x=>
     rw[hx,dz,jL]at h2
     cases hy:jO P (part f.type ys f.offset)with
     | none=>rw[hy]at h2;cases h2
     | some y=>
       rw[hy,dz]at h2
       simp only[dz,h2]
       cases hgf:g f with
       | false=>
         simp only[Bool.not_false,if_true,lQ,dz,gg,hgf,gB]
       | true=>
         simp only[Bool.not_true,eO,if_false,lQ,dz,gg,hgf,gy]
         exact ih
theorem b8M{d:Nat}{t:TypeId}{fs:List Field}{xs ys:Array Value}(hu:P.underlying t=some (.struct fs.toArray))(hst:P.stoodInHeld t=false)(g:Field→Bool)
 (hg:∀f∈fs,f.name≠ "_" ∧jO P (part f.type xs f.offset>>=fun x=>part f.type ys f.offset>>=fun y=>Op.equalIn d f.type x y)=some (g f)):jO P (Op.equalIn (d+1) t (.agg xs) (.agg ys))=some (fs.all g):=by
 rw[Op.equalIn,jL,kV hu,dz]
 have hp:jO P program=some P:=rfl
 simp only[jL,hp,dz,hst,eO,if_false,List.forIn_toArray]
 refine Eq.trans ?_ (a3q g fs hg)
 unfold a6v
 congr 1
 funext x
 cases x.fst<;>rfl
theorem a5S{op:BinOp}{t:TypeId}(ht:P.eqGuardType P.depth t=false){x y:Operand}{a b:Array Value}:jO P (eqGuard op t x y (.agg a) (.agg b))=some ():=by
 have hp:jO P program=some P:=rfl
 unfold eqGuard
 cases op<;>simp[jL,hp,ht,lQ]
theorem c0e{t t2:TypeId}{cx cy:Bool}{xs ys:List Value}(b:Bool)(ht:P.eqGuardType P.depth t=false)(hx:xs.all jX=true)(hy:ys.all jX=true)(h:jO P (Op.equalIn (9999+1) t (.agg xs.toArray) (.agg ys.toArray))=some b):
 lJ P .eql t t2 cx cy (.agg xs.toArray) (.agg ys.toArray)=some (.bool b):=
 mU (by simp[flat,kD,lK,hx]) (by simp[flat,kD,lK,hy]) (a5S ht) (by
  have hmd:Op.maxDepth=9999+1:=by decide
  simp only[binOp,jL,Op.equal]
  rw[hmd,h,dz,lQ]) rfl (by simp) (by simp) (by intro _ _ _ h;cases h)
theorem b7I{t t2:TypeId}{cx cy:Bool}{xs ys:List Value}(b:Bool)(ht:P.eqGuardType P.depth t=false)(hx:xs.all jX=true)(hy:ys.all jX=true)(h:jO P (Op.equalIn (9999+1) t (.agg xs.toArray) (.agg ys.toArray))=some b):
 lJ P .neq t t2 cx cy (.agg xs.toArray) (.agg ys.toArray)=some (.bool (!b)):=
 mU (by simp[flat,kD,lK,hx]) (by simp[flat,kD,lK,hy]) (a5S ht) (by
  have hmd:Op.maxDepth=9999+1:=by decide
  simp only[binOp,jL,Op.equal]
  rw[hmd,h,dz,lQ]) rfl (by simp) (by simp) (by intro _ _ _ h;cases h)
end
end Go.Ds
namespace Go.Ds
noncomputable section
variable {P:Program} {H:Heap}
theorem a2T(a b:ByteArray):(a==b)=decide (b=a):=by
 obtain⟨x⟩:=a
 obtain⟨y⟩:=b
 rw[eU,decide_eq_true_iff]
 constructor
 ·intro h
  have e:x=y:=by simpa using(show(x==y)=true from h)
  rw[e]
 ·intro h
  cases h
  show(x==x)=true
  simp
theorem a4S(o:Option Nat)(i:Nat):o.map (i+1+·)=(o.map (·+1)).map (i+·):=by
 cases o with
 | none=>rfl
 | some j=>simp only[ee];congr 1;omega
theorem a2h(k:ByteArray):∀(es:List MapEntry)(ks:List ByteArray)(i:Nat),es.map (·.key)=ks.map Value.string→
 (Instr.findNow .string (.string k) (es.map zG) i).map (·.map (·.1))=some ((ks.findIdx? fun x=>decide (x=k)).map (i+·))
 | [],[],i,_=>rfl
 | [],_::_,_,h=>by simp at h
 | _::_,[],_,h=>by simp at h
 | e::es,s::ks,i,h=>by
   simp only[eG,fq]at h
   have hs:Instr.sameNow .string (.string k) e.key=some (decide (s=k)):=by
    rw[h.1]
    show some (k==s)=_
    rw[a2T]
   simp only[eG,Instr.findNow,zG,hs,fN]
   by_cases hd:s=k
   ·simp[hd]
   ·simp only[hd,decide_false,eO,if_false]
    have:=a2h k es ks (i+1) h.2
    rw[a4S]at this
    exact this
theorem b3o{κ:Type}[DecidableEq κ]{enc:κ→Value}{kt:TypeId}(heq:∀a b,jO P (Op.equal kt (enc a) (enc b))=some (decide (b=a)))(k:κ):∀(es:List MapEntry)(ks:List κ)(i:Nat),es.map (·.key)=ks.map enc→
 (jO P (Instr.findAsking kt (enc k) (es.map zG) i)).map (·.map (·.1))=some ((ks.findIdx? fun x=>decide (x=k)).map (i+·))
 | [],[],i,_=>rfl
 | [],_::_,_,h=>by simp at h
 | _::_,[],_,h=>by simp at h
 | e::es,s::ks,i,h=>by
   simp only[eG,fq]at h
   simp only[eG,Instr.findAsking,zG,jL,fN]
   rw[h.1,heq,dz]
   by_cases hd:s=k
   ·simp[hd,lQ]
   ·simp only[hd,decide_false,eO,if_false]
    have:=b3o heq k es ks (i+1) h.2
    rw[a4S]at this
    exact this
theorem MapK.str{t kt et:TypeId}{z:Value}(hm:a0j P t=some (kt,et))(hu:P.underlying kt=some .string)(hz:jZ P et=some z)(hf:kD z=true):MapK P t Value.string z where
 ex:=by
  refine⟨kt,et,hm,hz,hf,?_,?_,?_⟩
  ·intro b k
   have:jO P (Instr.checkKey b 10000 kt (.string k))=some ():=by
    show jO P (Instr.checkKey b (9999+1) kt (.string k))=some ()
    unfold Instr.checkKey
    rw[jL,kV hu,dz]
    rfl
   simp only[a0y,this]
   rfl
  ·intro k es ks h
   have h1:=a2h k es ks 0 h
   unfold tJ Instr.findKey
   rw[jL,kV hu,dz]
   cases hn:Instr.findNow .string (.string k) (es.map zG) 0 with
   | none=>rw[hn]at h1;cases h1
   | some r=>
     rw[hn]at h1
     simp only[lQ]
     simpa using h1
  ·intro k
   show(k==k)=true
   rw[a2T]
   simp
theorem MapK.struct{κ:Type}[DecidableEq κ]{enc:κ→Value}{t kt et:TypeId}{z:Value}{fs:Array Field}(hm:a0j P t=some (kt,et))(hu:P.underlying kt=some (.struct fs))(hz:jZ P et=some z)(hf:kD z=true)
 (hk:∀b k,a0y P b kt (enc k)=true) (heq:∀a b,jO P (Op.equal kt (enc a) (enc b))=some (decide (b=a))) (hsb:∀k,Instr.sameBits 10000 (enc k) (enc k)=true):MapK P t enc z where
 ex:=by
  refine⟨kt,et,hm,hz,hf,hk,?_,hsb⟩
  intro k es ks h
  have h1:=b3o heq k es ks 0 h
  unfold tJ Instr.findKey
  rw[jL,kV hu,dz]
  have key:∀(l:List MapEntry),Instr.findNow (.struct fs) (enc k) l 0=none∨l=[]:=by
   intro l
   cases l with
   | nil=>exact .inr rfl
   | cons e l=>exact .inl rfl
  rcases key (es.map zG)with hn|hn
  ·rw[hn]
   simpa using h1
  ·rw[hn]
   have:es=[]:=by simpa using hn
   subst this
   have:ks=[]:=by cases ks with|nil=>rfl|cons a ks=>simp at h
   subst this
   rfl
end
end Go.Ds
namespace Go.Ds
noncomputable section
variable {P:Program} {H:Heap}
def a2M(o:Option (Nat×TypeId))(P:Program)(H:Heap)(t:TypeId)(z:Value)(K:Value→Heap→Prop)(_k:Keep K:=⟨⟩):Prop:=match o with
 | none=>xB (kD z) (a6k P H t z K)
 | some _=>xB (kD z) (b0j P H t z K)
theorem a5U{o o':Option (Nat×TypeId)}{t:TypeId}{z:Value}{K:Value→Heap→Prop}(h:o=o'):a2M o P H t z K=a2M o' P H t z K:=by rw[h]
attribute [congr] a5U
theorem b6F{t:TypeId}(z:Value)(K:Value→Heap→Prop):wV P H t (some z) K=a2M (kR P t) P H t z K:=by
 cases h:kR P t with
 | none=>exact a8i z K h
 | some n=>exact b1h z K h
theorem a8k{t:TypeId}(z:Value)(K:Value→Heap→Prop):a2M none P H t z K=xB (kD z) (a6k P H t z K):=rfl
theorem a7W{t:TypeId}(n:Nat×TypeId)(z:Value)(K:Value→Heap→Prop):a2M (some n) P H t z K=xB (kD z) (b0j P H t z K):=rfl
theorem a9K{t:TypeId}{k:IntKind}(h:a2u P t=some k):mF P t=false:=by
 simp[mF,a1M h]
def a4Z(ks kt:Option IntKind)(P:Program)(s t:TypeId)(H:Heap)(k:IntKind)(a:Int)(K:Value→Heap→Prop)(_k:Keep K:=⟨⟩):Prop:=match ks,kt with
 | some k0,some k'=>if k0=k then K (.int k' (k'.wrap a)) H else vY P s t H (.int k a) K
 | _,_=>vY P s t H (.int k a) K
theorem a8g{ks ks' kt kt':Option IntKind}{s t:TypeId}{k:IntKind}{a:Int}{K:Value→Heap→Prop}(h:ks=ks')(h2:kt=kt'):a4Z ks kt P s t H k a K=a4Z ks' kt' P s t H k a K:=by rw[h,h2]
attribute [congr] a8g
theorem c1n{s t:TypeId}(k:IntKind)(a:Int)(K:Value→Heap→Prop):vY P s t H (.int k a) K=a4Z (a2u P s) (a2u P t) P s t H k a K:=by
 unfold a4Z
 split
 ·rename_i k0 k' hs ht
  split
  ·rename_i hk
   subst hk
   rw[b4I k0 a K (a9K ht),b5u a hs ht]
   rfl
  ·rfl
 ·rfl
theorem b4V{s t:TypeId}(k k':IntKind)(a:Int)(K:Value→Heap→Prop):a4Z (some k) (some k') P s t H k a K=oN (.int k' (k'.wrap a)) fun v=>K v H:=by simp[a4Z,oN]
def c4L(b:Bool)(P:Program)(H:Heap)(t:TypeId)(v:Value):Option Value:=match b with
 | true=>(match v with|.string s=>some (.int .i64 s.size)|_=>a1y P H t v)
 | false=>a1y P H t v
theorem c5s(t:TypeId)(v:Value):a7s none P H t v=c4L (qC P t) P H t v:=by
 unfold c4L
 split
 ·rename_i h
  split
  ·exact b9o _ h
  ·rfl
 ·rfl
theorem b9q(t:TypeId)(s:ByteArray):c4L true P H t (.string s)=some (.int .i64 s.size):=rfl
def a3u(b:Bool)(P:Program)(t:TypeId)(x i:Value):Option Value:=match b,x,i with
 | true,.string s,.int k i=>if 0≤i∧i<s.size then some (.int .u8 (pS s i.toNat))else qO P t (.string s) (.int k i)
 | _,x,i=>qO P t x i
theorem a7Q(t:TypeId)(x i:Value):qO P t x i=a3u (qC P t) P t x i:=by
 unfold a3u
 split
 ·rename_i h
  split
  ·rename_i h2;exact b0g _ _ _ h h2.1 h2.2
  ·rfl
 ·rfl
theorem b0C(t:TypeId)(s:ByteArray)(k:IntKind)(i:Int)(h0:0≤i)(h1:i<s.size):a3u true P t (.string s) (.int k i)=some (.int .u8 (pS s i.toNat)):=by
 simp[a3u,h0,h1]
theorem OC:(∀k n,oneCell (.int k n)=true)∧(∀b,oneCell (.bool b)=true)∧(∀s,oneCell (.string s)=true)∧(∀a,oneCell (.pointer a)=true)∧(∀a n c,oneCell (.slice a n c)=true)∧(∀r,oneCell (.map r)=true)∧(∀f a b,oneCell (.func f a b)=true)∧oneCell .nilFunc=true:=
 ⟨fun _ _=>rfl,fun _=>rfl,fun _=>rfl,fun _=>rfl,fun _ _ _=>rfl,fun _=>rfl,fun _ _ _=>rfl,rfl⟩
theorem c7P(o:Option Bool):(o.map Value.bool).getD (.bool false)=.bool (o.getD false):=by cases o<;>rfl
theorem c6L(k:IntKind)(o:Option Int):(o.map (Value.int k)).getD (.int k 0)=.int k (o.getD 0):=by cases o<;>rfl
theorem c1P(v:Value)(b:Bool):pairV false v b=v:=rfl
theorem c1a(v:Value)(b:Bool):pairV true v b=.tuple #[v,.bool b]:=rfl
theorem b7H(t:Tmp):mL (.tmp t)=false:=rfl
theorem b2d(v:Value):mL (.const v)=true:=rfl
theorem b6P(s:ByteArray):flat (.string s)=true:=rfl
theorem b4m(s:ByteArray):kD (.string s)=true:=rfl
theorem b1Y(s:ByteArray):jX (.string s)=true:=rfl
theorem a8z(s:ByteArray):kE (.string s)=true:=rfl
theorem b8C(k:IntKind)(n:Int):nA (.int k n)=true:=rfl
theorem b4r(b:Bool):nA (.bool b)=true:=rfl
theorem b7b(s:ByteArray):nA (.string s)=true:=rfl
theorem lF{c b:Bool}{p q:Prop}(h1:c=true→uK (.bool true) b p q)(h2:c=false→uK (.bool false) b p q):uK (.bool c) b p q:=by
 cases c
 ·exact h2 rfl
 ·exact h1 rfl
theorem St.pick{H0:Base}{os os':List Ob}(hS:St P H0 H os)(idx:List Nat)(hn:idx.Nodup)(h:idx.map (os[·]?)=os'.map some):St P H0 H os':=by
 have hmem:∀o∈os',o∈os:=by
  intro o ho
  have:some o∈idx.map (os[·]?):=by rw[h];exact gD ho
  obtain⟨i,_,hi⟩:=dP.1 this
  exact dN hi
 refine⟨hS.len,hS.old,fun o ho=>hS.own o (hmem o ho),fun o ho=>hS.new o (hmem o ho),?_⟩
 have hpw:=eW.1 hS.sep
 rw[eW]
 intro i j hi hj hij
 have hl:idx.length=os'.length:=by simpa using congrArg List.length h
 have key:∀i(hi:i<os'.length),∃hk:idx[i]'(by omega)<os.length,os[idx[i]'(by omega)]=os'[i]:=by
  intro i hi
  have h1:(idx.map (os[·]?))[i]? =(os'.map some)[i]?:=by rw[h]
  rw[fh,fh,dI (by omega),dI hi]at h1
  simp only[ee,dY]at h1
  exact dL.1 h1
 obtain⟨h1,e1⟩:=key i hi
 obtain⟨h2,e2⟩:=key j hj
 have hne:idx[i]'(by omega)≠idx[j]'(by omega):=by
  have:=eW.1 hn i j (by omega) (by omega) hij
  exact this
 rcases gJ hne with hh|hh
 ·have:=hpw _ _ h1 h2 hh
  rw[e1,e2]at this
  exact this
 ·have:=hpw _ _ h2 h1 hh
  rw[e1,e2]at this
  intro B hb hb'
  exact this B hb' hb
theorem St.frame{H1:Heap}{H0:Base}{ls rest ls':List Ob}(hS:St P H0 H (ls++rest))(h1:St P ⟨H,sW ls⟩ H1 ls'):St P H0 H1 (ls'++rest):=by
 have hls:St P H0 H ls:=hS.sub (List.sublist_append_left ..)
 have h2:=hls.bG h1
 have hsep:=fA.1 hS.sep
 have hkeep:∀o∈rest,∀B,kX o.v=some B→jR H1 B=jR H B:=by
  intro o ho B hB
  have hlt:=(hS.own o (gO _ ho)).lt hB
  exact h1.old B hlt fun⟨x,hx,hxb⟩=>hsep.2.2 x hx o ho B hxb hB
 refine⟨h2.len,h2.old,?_,?_,?_⟩
 ·intro o ho
  rcases eh.1 ho with ho|ho
  ·exact h2.own o ho
  ·exact(hS.own o (gO _ ho)).aj (hkeep o ho)
 ·intro o ho B hB
  rcases eh.1 ho with ho|ho
  ·exact h2.new o ho B hB
  ·exact hS.new o (gO _ ho) B hB
 ·rw[fA]
  refine⟨h2.sep,hsep.2.1,?_⟩
  intro x hx y hy B hb hb'
  rcases h1.new x hx B hb with hh|⟨z,hz,hzb⟩
  ·have:=(hS.own y (gO _ hy)).lt hb'
   have hh:H.length≤B:=hh
   omega
  ·exact hsep.2.2 z hz y hy B hzb hb'
theorem c0I(t:TypeId)(k:IntKind)(n:Int):unV P .neg t (.int k n)=some (.int k (k.wrap (0-n))):=rfl
theorem b4Z(ops:Array Oper)(d:Option Tmp)(op:Op)(ty:TypeId)(pos:String)(af:Array Edge)(j:Nat)(b:Bool)(l:List Value)(H':Heap)(v:Value):
 rdW P ops (some ⟨d,op,ty,pos,af,some (j,b)⟩) (some (l,H',v)) H=wY (a0e ops j) l b (nH P ⟨d,op,ty,pos,af,some (j,b)⟩ l H fun v' _=>v'=v) True:=by
 rw[←uR ops l d op ty pos af]
 unfold rdW
 split
 ·rename_i h1 h2
  cases h1;cases h2
  split
  ·rename_i h;simp[h]
  ·rename_i h;simp[h]
 ·rename_i h
  exact(h _ _ _ _ rfl rfl).elim
theorem b5M(t t2:TypeId)(cx cy:Bool)(k:IntKind)(a b:Int)(K:Value→Prop):lU P .and t t2 cx cy (.int k a) (.int k b) K=kQ (lJ P .and t t2 cx cy (.int k a) (.int k b)) K:=by
 have h:(if k=k then oC .and k a b else none)=none:=by split<;>rfl
 unfold lU;dsimp only
 rw[h]
theorem b8J(t t2:TypeId)(cx cy:Bool)(k:IntKind)(a b:Int)(K:Value→Prop):lU P .or t t2 cx cy (.int k a) (.int k b) K=kQ (lJ P .or t t2 cx cy (.int k a) (.int k b)) K:=by
 have h:(if k=k then oC .or k a b else none)=none:=by split<;>rfl
 unfold lU;dsimp only
 rw[h]
theorem b4v(t t2:TypeId)(cx cy:Bool)(k:IntKind)(a b:Int)(K:Value→Prop):lU P .xor t t2 cx cy (.int k a) (.int k b) K=kQ (lJ P .xor t t2 cx cy (.int k a) (.int k b)) K:=by
 have h:(if k=k then oC .xor k a b else none)=none:=by split<;>rfl
 unfold lU;dsimp only
 rw[h]
theorem a6x(t t2:TypeId)(cx cy:Bool)(k:IntKind)(a b:Int)(K:Value→Prop):lU P .andNot t t2 cx cy (.int k a) (.int k b) K=kQ (lJ P .andNot t t2 cx cy (.int k a) (.int k b)) K:=by
 have h:(if k=k then oC .andNot k a b else none)=none:=by split<;>rfl
 unfold lU;dsimp only
 rw[h]
theorem b5O(t t2:TypeId)(cx cy:Bool)(k k':IntKind)(a b:Int)(K:Value→Prop):lU P .shl t t2 cx cy (.int k a) (.int k' b) K=kQ (lJ P .shl t t2 cx cy (.int k a) (.int k' b)) K:=by
 have h:(if k=k' then oC .shl k a b else none)=none:=by split<;>rfl
 unfold lU;dsimp only
 rw[h]
theorem b3M(t t2:TypeId)(cx cy:Bool)(k k':IntKind)(a b:Int)(K:Value→Prop):lU P .shr t t2 cx cy (.int k a) (.int k' b) K=kQ (lJ P .shr t t2 cx cy (.int k a) (.int k' b)) K:=by
 have h:(if k=k' then oC .shr k a b else none)=none:=by split<;>rfl
 unfold lU;dsimp only
 rw[h]
theorem b4c(op:BinOp)(t t2:TypeId)(cx cy:Bool)(a b:ByteArray)(K:Value→Prop):lU P op t t2 cx cy (.string a) (.string b) K=kQ (lJ P op t t2 cx cy (.string a) (.string b)) K:=rfl
theorem b5t(op:BinOp)(t t2:TypeId)(cx cy:Bool)(a b:Array Value)(K:Value→Prop):lU P op t t2 cx cy (.agg a) (.agg b) K=kQ (lJ P op t t2 cx cy (.agg a) (.agg b)) K:=rfl
theorem b3W(op:BinOp)(t t2:TypeId)(cx cy:Bool)(a b:Bool)(K:Value→Prop):lU P op t t2 cx cy (.bool a) (.bool b) K=kQ (lJ P op t t2 cx cy (.bool a) (.bool b)) K:=rfl
theorem b7M(n:Int)(h1: -9223372036854775808≤n)(h2:n<9223372036854775808):IntKind.wrap .i64 n=n:=by
 show(if(true&&decide (n%18446744073709551616≥9223372036854775808))=true then n%18446744073709551616-18446744073709551616 else n%18446744073709551616)=n
 simp only[gy,decide_eq_true_eq]
 omega
theorem c3d(n:Int)(h1: -128≤n)(h2:n<128):IntKind.wrap .i8 n=n:=by
 show(if(true&&decide (n%256≥128))=true then n%256-256 else n%256)=n
 simp only[gy,decide_eq_true_eq]
 omega
theorem pZ(n:Int)(h1:0≤n)(h2:n<18446744073709551616):IntKind.wrap .u64 n=n:=by
 show(if(false&&decide (n%18446744073709551616≥9223372036854775808))=true then n%18446744073709551616-18446744073709551616 else n%18446744073709551616)=n
 simp only[gB]
 rw[if_neg (by simp)]
 omega
theorem b7m(n:Int)(h1:0≤n)(h2:n<4294967296):IntKind.wrap .u32 n=n:=by
 show(if(false&&decide (n%4294967296≥2147483648))=true then n%4294967296-4294967296 else n%4294967296)=n
 simp only[gB]
 rw[if_neg (by simp)]
 omega
theorem c0p(n:Int)(h1:0≤n)(h2:n<65536):IntKind.wrap .u16 n=n:=by
 show(if(false&&decide (n%65536≥32768))=true then n%65536-65536 else n%65536)=n
 simp only[gB]
 rw[if_neg (by simp)]
 omega
theorem c3t(n:Int)(h1:0≤n)(h2:n<256):IntKind.wrap .u8 n=n:=by
 show(if(false&&decide (n%256≥128))=true then n%256-256 else n%256)=n
 simp only[gB]
 rw[if_neg (by simp)]
 omega
end
end Go.Ds
namespace Go.Ds
noncomputable section
variable {P:Program}
def a1d(P:Program)(t:TypeId):List Field:=match P.underlying t with|some (.struct fs)=>fs.toList|_=>[]
def eqC:Value→Value→Bool
 | .int _ a,.int _ b=>a==b
 | .bool a,.bool b=>a==b
 | .string a,.string b=>decide (a=b)
 | _,_=>false
def okC(P:Program)(t:TypeId)(x y:Value):Bool:=match P.underlying t with
 | some (.int _)=>(match x,y with|.int k _,.int k' _=>decide (k=k')|_,_=>false)
 | some .bool=>(match x,y with|.bool _,.bool _=>true|_,_=>false)
 | some .string=>(match x,y with|.string _,.string _=>true|_,_=>false)
 | _=>false
theorem eq1{t:TypeId}{x y:Value}(d:Nat)(h:okC P t x y=true):jO P (Op.equalIn (d+1) t x y)=some (eqC x y):=by
 unfold okC at h
 split at h
 ·rename_i k0 hu
  split at h
  ·rename_i k a k' b
   have hk:k=k':=by simpa using h
   subst hk
   rw[Op.equalIn,jL,kV hu,dz]
   simp only[if_true]
   rfl
  ·cases h
 ·rename_i hu
  split at h
  ·rw[Op.equalIn,jL,kV hu,dz];rfl
  ·cases h
 ·rename_i hu
  split at h
  ·rename_i a b
   rw[Op.equalIn,jL,kV hu,dz]
   show some (a==b)=some (decide (a=b))
   rw[a2T]
   congr 1
   simp[eq_comm]
  ·cases h
 ·cases h
theorem c3S{t:TypeId}{x y v:Value}{cs:Array Value}{off:Nat}(h:okC P t x y=true)(hc:cs[off]? =some v):jO P (part t cs off)=some v:=by
 have ha:jO P (isAgg t)=some false:=by
  unfold isAgg
  unfold okC at h
  split at h
  ·rename_i hu;rw[jL,kV hu,dz];rfl
  ·rename_i hu;rw[jL,kV hu,dz];rfl
  ·rename_i hu;rw[jL,kV hu,dz];rfl
  ·cases h
 unfold part
 rw[jL,ha,dz]
 simp only[eO,if_false,hc]
 rfl
theorem a4e{t:TypeId}{xs ys:List Value}(d:Nat)(hu:P.underlying t=some (.struct (a1d P t).toArray))(hst:P.stoodInHeld t=false)
 (hf:((a1d P t).map fun f=>(f.name != "_",f.offset))=(List.range xs.length).map fun j=>(true,j)) (hy:ys.length=xs.length)
 (hok:((a1d P t).all fun f=>okC P f.type (xs.getD f.offset undef) (ys.getD f.offset undef))=true):
 jO P (Op.equalIn (d+2) t (.agg xs.toArray) (.agg ys.toArray))=some ((List.range xs.length).all fun j=>eqC (xs.getD j undef) (ys.getD j undef)):=by
 rw[dO]at hok
 have hmem:∀f∈a1d P t,(f.name != "_")=true∧f.offset<xs.length:=fun f hf'=>by
  have:(f.name != "_",f.offset)∈(List.range xs.length).map fun j=>(true,j):=by rw[←hf];exact gD hf'
  obtain⟨j,hj,he⟩:=dP.1 this
  simp only[ic]at he
  exact⟨he.1.symm,by rw[←he.2];exact dT.1 hj⟩
 rw[b8M hu hst (fun f=>eqC (xs.getD f.offset undef) (ys.getD f.offset undef)) ?_]
 ·congr 1
  have h1:(a1d P t).all (fun f=>eqC (xs.getD f.offset undef) (ys.getD f.offset undef))=((a1d P t).map fun f=>(f.name != "_",f.offset)).all fun p=>eqC (xs.getD p.2 undef) (ys.getD p.2 undef):=by
   rw[List.all_map];rfl
  rw[h1,hf,List.all_map]
  rfl
 ·intro f hf'
  obtain⟨h1,h2⟩:=hmem f hf'
  refine⟨by simpa using h1,?_⟩
  have hx:xs.toArray[f.offset]? =some (xs.getD f.offset undef):=by
   rw[fW,dB,dI h2];rfl
  have hy':ys.toArray[f.offset]? =some (ys.getD f.offset undef):=by
   rw[fW,dB,dI (by omega)];rfl
  rw[jL,c3S (hok f hf') hx,dz,jL,c3S (hok f hf') hy',dz]
  exact eq1 d (hok f hf')
theorem xG{t t2:TypeId}{cx cy:Bool}{xs ys:List Value}(hu:P.underlying t=some (.struct (a1d P t).toArray))(hst:P.stoodInHeld t=false)(hg:P.eqGuardType P.depth t=false)
 (hf:((a1d P t).map fun f=>(f.name != "_",f.offset))=(List.range xs.length).map fun j=>(true,j)) (hy:ys.length=xs.length)
 (hok:((a1d P t).all fun f=>okC P f.type (xs.getD f.offset undef) (ys.getD f.offset undef))=true) (hx:xs.all jX=true) (hys:ys.all jX=true):
 lJ P .eql t t2 cx cy (.agg xs.toArray) (.agg ys.toArray)=some (.bool ((List.range xs.length).all fun j=>eqC (xs.getD j undef) (ys.getD j undef)))∧
 lJ P .neq t t2 cx cy (.agg xs.toArray) (.agg ys.toArray)=some (.bool (!((List.range xs.length).all fun j=>eqC (xs.getD j undef) (ys.getD j undef)))):=
 ⟨c0e _ hg hx hys (a4e 9998 hu hst hf hy hok),b7I _ hg hx hys (a4e 9998 hu hst hf hy hok)⟩
theorem c4K{t:TypeId}{k:IntKind}(hu:P.underlying t=some (.struct (a1d P t).toArray))(hst:P.stoodInHeld t=false)
 (hf:((a1d P t).map fun f=>(f.name != "_",f.offset))=(List.range 2).map fun j=>(true,j))
 (hok:∀a b c d:Int,((a1d P t).all fun f=>okC P f.type ([Value.int k a,.int k b].getD f.offset undef) ([Value.int k c,.int k d].getD f.offset undef))=true) (a b:Int×Int):
 jO P (Op.equal t (.agg #[.int k a.1,.int k a.2]) (.agg #[.int k b.1,.int k b.2]))=some (decide (b=a)):=by
 have hmd:Op.maxDepth=9998+2:=by decide
 unfold Op.equal
 rw[hmd,a4e (xs:=[.int k a.1,.int k a.2]) (ys:=[.int k b.1,.int k b.2]) 9998 hu hst hf rfl (hok _ _ _ _)]
 congr 1
 show((a.1==b.1)&&((a.2==b.2)&&true))=_
 rw[eU]
 simp only[gh,dy,beq_iff_eq,decide_eq_true_eq,Prod.ext_iff]
 constructor
 ·rintro⟨h1,h2⟩;exact⟨h1.symm,h2.symm⟩
 ·rintro⟨h1,h2⟩;exact⟨h1.symm,h2.symm⟩
theorem c5x{k:IntKind}(a:Int×Int):Instr.sameBits 10000 (.agg #[.int k a.1,.int k a.2]) (.agg #[.int k a.1,.int k a.2])=true:=by
 show((2:Nat)==2&&([(Value.int k a.1,Value.int k a.1),(Value.int k a.2,Value.int k a.2)]).all fun(x,y)=>Instr.sameBits 9999 x y)=true
 have h:∀n,Instr.sameBits 9999 (.int k n) (.int k n)=true:=fun n=>by
  show(k==k&&n==n)=true
  cases k<;>simp<;>rfl
 simp[h]
section
variable {H:Heap} {α:Type} {n:Nat} {cel:α→List Value} {v:Value} {xs:List α}
theorem Sl.aS(h:Sl n cel H v xs)(o:Oper)(l:List Value)(H':Heap)(k:IntKind)(a:Int)(K:Value→Heap→Prop)(h0:0<xs.length)(h1:0≤a)(h2:a≤xs.length):
 pG P o l H' (some n) v none (some (.int k a)) K=oN (lN v n 0 a.toNat) fun v=>K v H':=by
 obtain⟨m,rfl⟩:∃m,n=m+1:=⟨n-1,by have:=h.pos;omega⟩
 exact h.rd.aS (jK h.hc xs) o l H' k a K h0 h1 h2
theorem Sl.aF(h:Sl n cel H v xs)(o:Oper)(l:List Value)(H':Heap)(k:IntKind)(a:Int)(K:Value→Heap→Prop)(h0:0<xs.length)(h1:0≤a)(h2:a≤xs.length):
 pG P o l H' (some n) v (some (.int k a)) none K=oN (lN v n a.toNat (xs.length-a).toNat) fun v=>K v H':=by
 obtain⟨m,rfl⟩:∃m,n=m+1:=⟨n-1,by have:=h.pos;omega⟩
 rw[h.rd.aF (jK h.hc xs) o l H' k a K h0 h1 h2]
 congr 2
 omega
theorem Sl.sub(h:Sl n cel H v xs)(lo k:Nat)(hk:lo+k≤xs.length)(h0:0<xs.length):Sl n cel H (lN v n lo k) ((xs.drop lo).take k):=by
 refine⟨?_,h.hc,h.pos⟩
 have hne:xs.flatMap cel≠[]:=fun e=>by
  have:=jK h.hc xs
  rw[e,eN]at this
  have hp:=ik h0 h.pos
  omega
 have:=h.rd.sub lo k (by rw[jK h.hc,←fM];exact eH _ hk) hne
 rw[uU h.hc,a3D h.hc]at this
 exact this
theorem Sl.cR(h:Sl n cel H v xs)(k:Nat)(hk:k≤xs.length)(h0:0<xs.length):Sl n cel H (lN v n 0 k) (xs.take k):=by
 simpa using h.sub 0 k (by omega) h0
theorem Sl.cd(h:Sl n cel H v xs)(lo:Nat)(hk:lo≤xs.length)(h0:0<xs.length):Sl n cel H (lN v n lo (xs.length-lo)) (xs.drop lo):=by
 have:=h.sub lo (xs.length-lo) (by omega) h0
 rwa [List.take_of_length_le (by simp)]at this
end
def b1H(P:Program)(ts:Array TypeId)(ty:TypeId)(cx cy:Bool)(x y:Value):Option Value:=(lS P ⟨none,.call {callee:=.builtin .max,args:=#[qD cx 0 x,qD cy 1 y],argTypes:=ts},ty,"",#[],none⟩ [x,y] .nil).map (·.1)
theorem c0L(d:Option Tmp)(ty:TypeId)(pos:String)(af:Array Edge)(g:Option (Nat×Bool))(ts:Array TypeId)(x y:Operand)(l:List Value)(H:Heap)(K:Value→Heap→Prop):
 nH P ⟨d,.call {callee:=.builtin .max,args:=#[x,y],argTypes:=ts},ty,pos,af,g⟩ l H K=kI x l fun x'=>kI y l fun y'=>kQ (b1H P ts ty (mL x) (mL y) x' y') fun v=>K v H:=by
 have h:opD P ⟨d,.call {callee:=.builtin .max,args:=#[x,y],argTypes:=ts},ty,pos,af,g⟩ l H=(b1H P ts ty (mL x) (mL y) (ev l x) (ev l y)).map fun v=>(v,H):=
  oJ (P:=P) ⟨d,.call {callee:=.builtin .max,args:=#[x,y],argTypes:=ts},ty,pos,af,g⟩ ⟨none,.call {callee:=.builtin .max,args:=#[qD (mL x) 0 (ev l x),qD (mL y) 1 (ev l y)],argTypes:=ts},ty,"",#[],none⟩ l [ev l x,ev l y] H
   (by cases x<;>cases y<;>rfl) (by cases x<;>cases y<;>kernel_rfl)
 have h2:kW ((b1H P ts ty (mL x) (mL y) (ev l x) (ev l y)).map fun v=>(v,H)) K=kQ (b1H P ts ty (mL x) (mL y) (ev l x) (ev l y)) fun v=>K v H:=by cases b1H P ts ty (mL x) (mL y) (ev l x) (ev l y)<;>rfl
 simp only[nH,h,kI,Op.operands,Call.operands,h2]
 simp[and_assoc]
theorem b9c(ts:Array TypeId)(ty:TypeId)(cx cy:Bool)(a b:Int):b1H P ts ty cx cy (.int .i64 a) (.int .i64 b)=some (.int .i64 (max a b)):=by
 have h:b1H P ts ty cx cy (.int .i64 a) (.int .i64 b)=some (.int .i64 (if b>a then b else a)):=by cases cx<;>cases cy<;>kernel_rfl
 rw[h]
 congr 2
 split<;>omega
def b0Z(P:Program)(ts:Array TypeId)(ty:TypeId)(cx cy:Bool)(x y:Value):Option Value:=(lS P ⟨none,.call {callee:=.builtin .min,args:=#[qD cx 0 x,qD cy 1 y],argTypes:=ts},ty,"",#[],none⟩ [x,y] .nil).map (·.1)
theorem c2R(d:Option Tmp)(ty:TypeId)(pos:String)(af:Array Edge)(g:Option (Nat×Bool))(ts:Array TypeId)(x y:Operand)(l:List Value)(H:Heap)(K:Value→Heap→Prop):
 nH P ⟨d,.call {callee:=.builtin .min,args:=#[x,y],argTypes:=ts},ty,pos,af,g⟩ l H K=kI x l fun x'=>kI y l fun y'=>kQ (b0Z P ts ty (mL x) (mL y) x' y') fun v=>K v H:=by
 have h:opD P ⟨d,.call {callee:=.builtin .min,args:=#[x,y],argTypes:=ts},ty,pos,af,g⟩ l H=(b0Z P ts ty (mL x) (mL y) (ev l x) (ev l y)).map fun v=>(v,H):=
  oJ (P:=P) ⟨d,.call {callee:=.builtin .min,args:=#[x,y],argTypes:=ts},ty,pos,af,g⟩ ⟨none,.call {callee:=.builtin .min,args:=#[qD (mL x) 0 (ev l x),qD (mL y) 1 (ev l y)],argTypes:=ts},ty,"",#[],none⟩ l [ev l x,ev l y] H
   (by cases x<;>cases y<;>rfl) (by cases x<;>cases y<;>kernel_rfl)
 have h2:kW ((b0Z P ts ty (mL x) (mL y) (ev l x) (ev l y)).map fun v=>(v,H)) K=kQ (b0Z P ts ty (mL x) (mL y) (ev l x) (ev l y)) fun v=>K v H:=by cases b0Z P ts ty (mL x) (mL y) (ev l x) (ev l y)<;>rfl
 simp only[nH,h,kI,Op.operands,Call.operands,h2]
 simp[and_assoc]
theorem b7u(ts:Array TypeId)(ty:TypeId)(cx cy:Bool)(a b:Int):b0Z P ts ty cx cy (.int .i64 a) (.int .i64 b)=some (.int .i64 (min a b)):=by
 have h:b0Z P ts ty cx cy (.int .i64 a) (.int .i64 b)=some (.int .i64 (if b<a then b else a)):=by cases cx<;>cases cy<;>kernel_rfl
 rw[h]
 congr 2
 split<;>omega
section
variable {H:Heap}
def Var(H:Heap)(A n:Nat)(cs:List Value):Prop:=n=cs.length∧∃ty rw lo ver,jR H A=some (.cells cs ty rw lo ver)∧lo≤cs.length
theorem Var.aj{H':Heap}{A n:Nat}{cs:List Value}(h:Var H A n cs)(hk:∀B,B<H.length→jR H' B=jR H B):Var H' A n cs:=by
 obtain⟨h1,ty,rw,lo,ver,h2,h3⟩:=h
 exact⟨h1,ty,rw,lo,ver,by rw[hk A (kK h2),h2],h3⟩
theorem Var.ld{A n:Nat}{cs:List Value}(h:Var H A n cs)(s:Option Nat)(off:Nat):oP (some false) s H (ptr A off n)=cs[off]?:=by
 obtain⟨rfl,ty,rw,lo,ver,h1,h2⟩:=h
 simp only[oP,kF,h1]
 by_cases h:off<cs.length
 ·rw[if_pos (by simp;omega)]
  simp only[dz]
  rw[ew (by omega),dW]
  simp
 ·rw[if_neg (by simp;omega),eX (by omega)]
  rfl
theorem Var.ae{A n:Nat}{cs:List Value}(h:Var H A n cs)(m off:Nat):oP (some true) (some m) H (ptr A off n)=if off+m≤cs.length then some (.agg ((cs.drop off).take m).toArray)else none:=by
 obtain⟨rfl,ty,rw,lo,ver,h1,h2⟩:=h
 simp only[oP,kF,h1,dz]
 by_cases h:off+m≤cs.length
 ·rw[if_pos (by simp;omega),if_pos h]
  rfl
 ·rw[if_neg (by simp;omega),if_neg h]
  rfl
theorem St.var{P:Program}{H0:Base}{os:List Ob}(hS:St P H0 H os)(i:Nat){A n:Nat}{cs:List Value}(ho:os[i]? =some ⟨ptr A 0 n,0,cs⟩):Var H A n cs:=by
 obtain⟨h1,ty,lo,ver,h2,h3⟩:=hS.cell i ho
 exact⟨h1,ty,true,lo,ver,h2,h3⟩
theorem St.va{H0:Heap}{os:List Ob}(hS:St P H0 H os){A n:Nat}{cs:List Value}(h:Var H0 A n cs):Var H A n cs:=h.aj hS.aj
end
theorem uY{P:Program}(t t2:TypeId)(cx cy:Bool)(u x:UInt8):lJ P .add t t2 cx cy (.string ⟨#[u]⟩) (.string ⟨#[x]⟩)=some (.string ⟨#[u,x]⟩):=by
 rw[oD _ _ _ _ _ _ (by show 1+1<9223372036854775808;decide)]
 rfl
theorem yA{P:Program}{H:Heap}{s t:TypeId}{v:Value}{n:Int}(h:RdAt H v 1 [.int .u8 n])(hs:mF P s=true)(ht:qC P t=true)(hbt:mF P t=false)(h0:0≤n)(h1:n<256)(K:Value→Heap→Prop):
 vY P s t H v K=K (.string ⟨#[UInt8.ofNat n.toNat]⟩) H:=by
 obtain⟨m,rfl⟩:∃m:Nat,n=Int.ofNat m:=⟨n.toNat,by simp[gp h0]⟩
 have hm:m<256:=by have:(m:Int)<256:=h1;omega
 rcases h with⟨_,h⟩|⟨A,i,e,row,ty,rw,lo,ver,k,g1,g2,g3,g4,g5,g6,rfl⟩
 ·cases h
 have hk:k=1:=by simp at g6;omega
 subst hk
 have hc:kF H A i e 1=some [.int .u8 (Int.ofNat m)]:=by
  simp only[kF,g1]
  rw[if_pos (by simp at g4 ⊢;omega)]
  exact congrArg some g5
 have hb:oT [.int .u8 (Int.ofNat m)]=some ⟨#[UInt8.ofNat m]⟩:=by simp[oT,a3a,a2y,hm]
 have hd:opD P ⟨none,.convert s t (.const (.slice (some ⟨A,i,some e⟩) 1 1)),t,"",#[],none⟩ [] H=some (.string ⟨#[UInt8.ofNat m]⟩,H):=by
  have hf:flat (.slice (some ⟨A,i,some e⟩) 1 1)=false:=rfl
  simp only[opD,ev,hf,hs,ht,hc,hb,gB,eO,if_false,Bool.and_self,if_true,dz,ee]
 unfold vY
 rw[hd]
 apply propext
 constructor
 ·rintro⟨v,H1,h2,h3⟩
  injection (dx h2)with e1 e2
  subst e1 e2
  exact h3
 ·intro h3
  exact⟨_,_,rfl,h3⟩
theorem a6N{P:Program}{t:TypeId}{n:Nat}{elem:TypeId}{size:Nat}(ha:P.underlying t=some (.array n elem))(hs:jD P elem=some size)(A i e:Nat)(k:IntKind)(j:Int)(h0:0≤j)(h1:j<n):
 xD (jU P t) P t (ptr A i e) (.int k j)=some (ptr A (i+j.toNat*size) e):=by
 have hn:jU P t=none:=by simp[jU,jJ,ha]
 rw[hn]
 simp only[xD,a4d,ha,ptr,hs,dz]
 rw[if_pos (by simp[h0,h1])]
end
end Go.Ds
namespace Go.Ds
section
variable {P:Program}
def c6l(inv:List Nat)(e:Edge):Edge:={e with on:=inv.getD e.on 0}
def a0N(inv:List Nat)(o:Oper):Oper:={o with after:=o.after.map (c6l inv),guard:=o.guard.map fun g=>(inv.getD g.1 0,g.2)}
def lC(π inv:List Nat)(ops:Array Oper):Array Oper:=(π.map fun i=>a0N inv (ops.getD i default)).toArray
def b0r(π inv:List Nat)(ops:Array Oper):Bool:=
 decide (π.length=ops.size)&&decide (inv.length=ops.size)&&(List.range ops.size).all (fun i=>decide (π.getD i 0<ops.size)&&decide (inv.getD i 0<ops.size)&&decide (inv.getD (π.getD i 0) 0=i)&&decide (π.getD (inv.getD i 0) 0=i))&&
 ops.toList.all fun o=>o.after.toList.all (fun e=>decide (e.on<ops.size))&&(match o.guard with|some g=>decide (g.1<ops.size)|none=>true)
structure Perm(π inv:List Nat)(ops:Array Oper):Prop where
 len:π.length=ops.size
 pi:∀i,i<ops.size→π.getD i 0<ops.size
 iv:∀i,i<ops.size→inv.getD i 0<ops.size
 ip:∀i,i<ops.size→inv.getD (π.getD i 0) 0=i
 pv:∀i,i<ops.size→π.getD (inv.getD i 0) 0=i
 edge:∀(i:Nat)(o:Oper),ops[i]? =some o→∀e∈o.after,e.on<ops.size
 guard:∀(i:Nat)(o:Oper)(g:Nat×Bool),ops[i]? =some o→o.guard=some g→g.1<ops.size
theorem c3w{π inv:List Nat}{ops:Array Oper}(h:b0r π inv ops=true):Perm π inv ops:=by
 unfold b0r at h
 simp only[dy,decide_eq_true_eq,dO,dT]at h
 obtain⟨⟨⟨h1,h2⟩,h3⟩,h4⟩:=h
 refine⟨h1,fun i hi=>(h3 i hi).1.1.1,fun i hi=>(h3 i hi).1.1.2,fun i hi=>(h3 i hi).1.2,fun i hi=>(h3 i hi).2,fun i o ho e he=> ?_,fun i o g ho hg=> ?_⟩
 ·exact(h4 o (dN (i:=i) (by simpa using ho))).1 e (by simpa using he)
 ·have:=(h4 o (dN (i:=i) (by simpa using ho))).2
  rw[hg]at this
  simpa using this
variable {π inv:List Nat} {ops:Array Oper}
theorem a9a(p:Nat):(lC π inv ops)[p]? =(π[p]?).map fun i=>a0N inv (ops.getD i default):=by
 simp[lC]
theorem sS(D:Perm π inv ops){p i:Nat}{o:Oper}(hp:p<ops.size)(hi:π.getD p 0=i)(ho:ops[i]? =some o):(lC π inv ops)[p]? =some (a0N inv o):=by
 rw[a9a]
 have h1:π[p]? =some i:=by
  rw[dB]at hi
  rw[dI (by rw[D.len];exact hp)]at hi ⊢
  simpa using hi
 rw[h1]
 simp only[ee]
 rw[eT,ho]
 rfl
theorem rZ(D:Perm π inv ops):(lC π inv ops).size=ops.size:=by simp[lC,D.len]
theorem a7d(D:Perm π inv ops)(tmps:Array Value){j:Nat}(hj:j<ops.size):yielded (lC π inv ops) tmps (inv.getD j 0)=yielded ops tmps j:=by
 have ho:ops[j]? =some ops[j]:=dG.2 ⟨hj,rfl⟩
 unfold yielded
 rw[sS D (D.iv j hj) (D.pv j hj) ho,ho]
 rfl
theorem a9I(D:Perm π inv ops)(tmps:Array Value){i:Nat}{o:Oper}(ho:ops[i]? =some o):Region.wanted (a0N inv o) (yielded (lC π inv ops) tmps)=Region.wanted o (yielded ops tmps):=by
 unfold Region.wanted
 have e:(a0N inv o).guard=o.guard.map fun g=>(inv.getD g.1 0,g.2):=rfl
 rw[e]
 cases hg:o.guard with
 | none=>rfl
 | some g=>
   simp only[ee]
   rw[a7d D tmps (D.guard i o g ho hg)]
theorem c0S(ro:Option Nat)(ρ:Operand→Value)(o:Oper):(a0N inv o).semAt ro ρ=o.semAt ro ρ:=by
 obtain⟨dst,op,type,pos,after,guard⟩:=o
 rfl
theorem b6i(w:World)(ρ:Operand→Value)(o:Oper):(a0N inv o).about P w ρ=o.about P w ρ:=by
 obtain⟨dst,op,type,pos,after,guard⟩:=o
 rfl
theorem b9V(F:Fence)(n:Nat)(o:Oper)(a:Act)(next:Act→World→Prop)(Q:Exit→Act→World→Prop)(r:Result Next):(a0N inv o).uponIn F n P a next Q r=o.uponIn F n P a next Q r:=by
 obtain⟨dst,op,type,pos,after,guard⟩:=o
 cases r with
 | ok x w=>cases x<;>rfl
 | halt x w=>cases x<;>rfl
theorem b6a(D:Perm π inv ops)(F:Fence)(n:Nat)(Q:Exit→Act→World→Prop){i:Nat}(hi:i<ops.size)(K:Act→World→Prop)(a:Act)(w:World):
 wpOpIn F n P (lC π inv ops) Q (inv.getD i 0) K a w=wpOpIn F n P ops Q i K a w:=by
 have ho:ops[i]? =some ops[i]:=dG.2 ⟨hi,rfl⟩
 unfold wpOpIn
 rw[sS D (D.iv i hi) (D.pv i hi) ho,ho]
 simp only[a9I D a.tmps ho,Oper.wpIn,b6i,b9V,c0S]
 rfl
def c5W(inv:List Nat)(n:Nat)(listed listed':Array Bool):Prop:=listed.size=n∧listed'.size=n∧∀i,i<n→listed.getD i false=listed'.getD (inv.getD i 0) false
theorem zI(D:Perm π inv ops){listed listed':Array Bool}(hc:c5W inv ops.size listed listed'){i:Nat}(hi:i<ops.size):
 i∈Region.ready .any ops listed↔inv.getD i 0∈Region.ready .any (lC π inv ops) listed':=by
 have ho:ops[i]? =some ops[i]:=dG.2 ⟨hi,rfl⟩
 have ho':=sS D (D.iv i hi) (D.pv i hi) ho
 have hsz:=rZ D
 obtain⟨c1,c2,c3⟩:=hc
 constructor
 ·intro h
  obtain⟨o,h1,h2,h3⟩:=qN c1 h
  rw[ho]at h1
  obtain rfl:=dx h1
  refine a1o (by rw[hsz];exact c2) ho' (by rw[←c3 i hi];exact h2) ?_
  intro e he hb
  have he':e∈(ops[i]).after.map (c6l inv):=he
  obtain⟨e0,he0,rfl⟩:=Array.mem_map.1 he'
  have:=h3 e0 he0 hb
  show listed'.getD (inv.getD e0.on 0) false=true
  rw[←c3 _ (D.edge i _ ho e0 he0)]
  exact this
 ·intro h
  obtain⟨o,h1,h2,h3⟩:=qN (by rw[hsz];exact c2) h
  rw[ho']at h1
  obtain rfl:=dx h1
  refine a1o c1 ho (by rw[c3 i hi];exact h2) ?_
  intro e he hb
  have:=h3 (c6l inv e) (Array.mem_map.2 ⟨e,he,rfl⟩) hb
  rw[c3 _ (D.edge i _ ho e he)]
  exact this
theorem b9n(D:Perm π inv ops)(F:Fence)(k:Nat){Q:Exit→Act→World→Prop}:∀(fuel:Nat)(listed listed':Array Bool)(a:Act)(w:World),c5W inv ops.size listed listed'→
 wpAnyIn F k P .any (lC π inv ops) Q fuel listed' a w→wpAnyIn F k P .any ops Q fuel listed a w:=by
 have hsz:=rZ D
 have nil1:∀{listed listed':Array Bool},c5W inv ops.size listed listed'→(Region.ready .any ops listed=[]↔Region.ready .any (lC π inv ops) listed'=[]):=by
  intro listed listed' hc
  constructor
  ·intro h
   cases hr:Region.ready .any (lC π inv ops) listed' with
   | nil=>rfl
   | cons p r=>
     exfalso
     have hp:p∈Region.ready .any (lC π inv ops) listed':=by rw[hr];exact eY ..
     obtain⟨o,h1,_,_⟩:=qN (by rw[hsz];exact hc.2.1) hp
     have hpn:p<ops.size:=by rw[←hsz];exact(dG.1 h1).1
     have:=(zI D hc (D.pi p hpn)).2 (by rw[D.ip p hpn];exact hp)
     rw[h]at this
     cases this
  ·intro h
   cases hr:Region.ready .any ops listed with
   | nil=>rfl
   | cons i r=>
     exfalso
     have hi:i∈Region.ready .any ops listed:=by rw[hr];exact eY ..
     obtain⟨o,h1,_,_⟩:=qN hc.1 hi
     have:=(zI D hc (dG.1 h1).1).1 hi
     rw[h]at this
     cases this
 intro fuel
 induction fuel with
 | zero=>
   intro listed listed' a w hc h
   exact⟨(nil1 hc).2 h.1,h.2⟩
 | succ fuel ih=>
   intro listed listed' a w hc h
   refine⟨fun hn=>h.1 ((nil1 hc).1 hn),fun i hi=> ?_⟩
   obtain⟨o,h1,_,_⟩:=qN hc.1 hi
   have hin:=(dG.1 h1).1
   have h2:=h.2 _ ((zI D hc hin).1 hi)
   rw[b6a D F k Q hin]at h2
   refine wpOpIn_mono (fun a' w' h3=>ih _ _ a' w' ⟨by simpa using hc.1,by simpa using hc.2.1,fun j hj=> ?_⟩ h3) h2
   have e1:=vN (listed:=listed) (i:=i) (by rw[hc.1];exact hin) j
   have e2:=vN (listed:=listed') (i:=inv.getD i 0) (by rw[hc.2.1];exact D.iv i hin) (inv.getD j 0)
   have e3:(inv.getD j 0=inv.getD i 0)↔j=i:=⟨fun h=>by rw[←D.pv j hj,h,D.pv i hin],fun h=>by rw[h]⟩
   rw[eU,e1,e2,e3,hc.2.2 j hj]
end
section
variable {P:Program} {H:Heap} {π inv:List Nat} {ops:Array Oper}
theorem Sim.cS(kP:P.follows .mixedOrders=true){id:Nat}(Dp:Perm π inv ops){fl:Fl}(D:Draw P fl (lC π inv ops)){T:Nat→List Value×Heap}{val:Nat→Value}(X:Text P (lC π inv ops) T val)
 (hread:∀i m o,(i,m)∈nY fl (lC π inv ops)→(lC π inv ops)[i]? =some o→Region.wanted o (jV (lC π inv ops) (T i).1)=true→∃H2,opD P o (T i).1 (T m).2=some (val i,H2)):
 Sim P (.region id ops true) (T 0).1 (T 0).2 .normal (T ops.size).1 (T ops.size).2:=by
 intro ro k B ρ w a hr hE hl hM hB
 have hsz:=rZ Dp
 have:=a5G D X hread ro k B hr hE hM
 rw[hsz]at this
 exact wpIn_region_any kP (b9n Dp (fe ro) k ops.size _ _ a _ ⟨by simp,by simp,fun i hi=>by
  have:=Dp.iv i hi
  simp only[eT,Array.getElem?_replicate,hi,this,if_true]⟩ this)
theorem a4H(D:Perm π inv ops)(l:List Value){j:Nat}(hj:j<ops.size):jV (lC π inv ops) l (inv.getD j 0)=jV ops l j:=by
 have ho:ops[j]? =some ops[j]:=dG.2 ⟨hj,rfl⟩
 unfold jV
 rw[sS D (D.iv j hj) (D.pv j hj) ho,ho]
 rfl
theorem a0z(D:Perm π inv ops)(l:List Value){i:Nat}{o:Oper}(ho:ops[i]? =some o):Region.wanted (a0N inv o) (jV (lC π inv ops) l)=Region.wanted o (jV ops l):=by
 unfold Region.wanted
 have e:(a0N inv o).guard=o.guard.map fun g=>(inv.getD g.1 0,g.2):=rfl
 rw[e]
 cases hg:o.guard with
 | none=>rfl
 | some g=>
   simp only[ee]
   rw[a4H D l (D.guard i o g ho hg)]
theorem b2A(o:Oper)(l:List Value)(K:Value→Heap→Prop):nH P (a0N inv o) l H K=nH P o l H K:=by
 obtain⟨dst,op,type,pos,after,guard⟩:=o
 rfl
theorem a5B(D:Perm π inv ops):∀(os:List Oper)(tr:List (List Value×Heap×Value))(l:List Value)(H:Heap)(K:List (List Value×Heap×Value)→List Value→Heap→Prop),(∀o∈os,∃i:Nat,ops[i]? =some o)→
 nZ P (lC π inv ops) (os.map (a0N inv)) tr l H K=nZ P ops os tr l H K
 | [],_,_,_,_,_=>rfl
 | o::os,tr,l,H,K,h=>by
   obtain⟨i,ho⟩:=h o (by simp)
   have ih:=fun tr l H=>a5B D os tr l H K fun o ho=>h o (by simp[ho])
   rw[eG,nZ,nZ,a0z D l ho]
   have e:(a0N inv o).dst=o.dst:=rfl
   simp only[b2A,e,ih]
def c6u(o:Option Oper)(os:List Oper):List Oper:=match o with|some o=>o::os|none=>os
def sel(os:List Oper):List Nat→List Oper
 | []=>[]
 | i::π=>c6u os[i]? (sel os π)
theorem c0P(os:List Oper):sel os []=[]:=rfl
theorem a8K(os:List Oper)(i:Nat)(π:List Nat):sel os (i::π)=c6u os[i]? (sel os π):=rfl
theorem a5D(o:Oper)(os:List Oper):c6u (some o) os=o::os:=rfl
theorem b1K(os:List Oper):∀(π:List Nat),(∀i∈π,i<os.length)→sel os π=π.map fun i=>os.toArray.getD i default
 | [],_=>rfl
 | i::π,h=>by
   have hi:=h i (by simp)
   rw[a8K,b1K os π fun j hj=>h j (by simp[hj]),dI hi,a5D,eG]
   congr 1
   simp[eT,hi]
def a1Y(P:Program)(os:List Oper)(tr:List (List Value×Heap×Value))(H1:Heap)(π:List Nat):List (Nat×Nat)→Prop
 | []=>True
 | (p,m)::r=>rdW P os.toArray (os[π.getD p 0]?) tr[p]? (trH tr[m]? H1)∧a1Y P os tr H1 π r
theorem b2v(os:List Oper)(tr)(H1:Heap)(π:List Nat):a1Y P os tr H1 π []=True:=rfl
theorem a7I(os:List Oper)(tr)(H1:Heap)(π:List Nat)(p m:Nat)(r:List (Nat×Nat)):a1Y P os tr H1 π ((p,m)::r)=(rdW P os.toArray (os[π.getD p 0]?) tr[p]? (trH tr[m]? H1)∧a1Y P os tr H1 π r):=rfl
theorem a4i{os:List Oper}{tr}{H1:Heap}{π:List Nat}:∀{tab:List (Nat×Nat)},a1Y P os tr H1 π tab→∀x∈tab,rdW P os.toArray (os[π.getD x.1 0]?) tr[x.1]? (trH tr[x.2]? H1)
 | [],_,x,hx=>by cases hx
 | (i,m)::r,h,x,hx=>by
   rcases eF.1 hx with rfl|hx
   ·exact h.1
   ·exact a4i h.2 x hx
theorem Wp.cT(kP:P.follows .mixedOrders=true){id:Nat}{os:List Oper}{l:List Value}{Q:oI}(π inv:List Nat)(fl:Fl)(tab:List (Nat×Nat))(hp:b0r π inv os.toArray=true)
 (htab:a3P P fl (lC π inv os.toArray)=some tab) (hn:wL (lC π inv os.toArray) tab=true)
 (h:nZ P os.toArray (sel os π) [] l H fun tr l1 H1=>Q .normal l1 H1∧a1Y P os tr H1 π tab):Wp P (.region id os.toArray true) l H Q:=by
 have Dp:=c3w hp
 obtain⟨D,htb⟩:=a4k htab
 have hsz:=rZ Dp
 have hmem:∀i∈π,i<os.length:=fun i hi=>by
  obtain⟨p,hpl,hpe⟩:=eI.1 hi
  have:=Dp.pi p (by rw[←Dp.len];exact hpl)
  rw[dB,dI hpl,ef,hpe]at this
  simpa using this
 have hsel:(sel os π).map (a0N inv)=(lC π inv os.toArray).toList:=by
  rw[b1K os π hmem]
  simp[lC]
 rw[←a5B Dp (sel os π) [] l H _ (fun o ho=>by
  rw[b1K os π hmem,dP]at ho
  obtain⟨i,hi,rfl⟩:=ho
  have:=hmem i hi
  exact⟨i,by simp[eT,this]⟩),hsel]at h
 obtain⟨T,val,l',H',ext,h0,h1,h2,h3,h4,h5,h6⟩:=wI (lC π inv os.toArray).toList 0 rfl [] l H h
 have hlen:(lC π inv os.toArray).toList.length=os.toArray.size:=by rw[gn,hsz]
 rw[hlen]at h1 h2 h3 h4
 have:=Sim.cS kP (id:=id) Dp D (T:=T) (val:=val) ⟨fun k hk=>by rw[hsz]at hk;simpa using h4 k hk⟩ fun i m o hm ho hw=>by
  rw[←htb]at hm
  have hr:=a4i h6 (i,m) hm
  have hi:i<os.toArray.size:=by rw[←hsz];exact(dG.1 ho).1
  have hpi:=Dp.pi i hi
  have hoo:os.toArray[π.getD i 0]? =some (os.toArray[π.getD i 0]):=dG.2 ⟨hpi,rfl⟩
  have hat:=sS (inv:=inv) Dp hi rfl hoo
  rw[ho]at hat
  have hat:=dx hat
  have hoo':os[π.getD i 0]? =some (os.toArray[π.getD i 0]):=by rw[←hoo];simp
  simp only[fP]at hr
  rw[hoo',h3 i hi]at hr
  unfold rdW at hr
  rw[hat,a0z Dp _ hoo]at hw
  have hr:=hr hw
  have hno:a0M o=true:=by
   unfold wL at hn
   have:=dO.1 hn (i,m) hm
   simpa [ho]using this
  have hTm:trH ext[m]? H'=(T m).2∨os.toArray.size<m:=by
   unfold trH
   by_cases hm2:m<os.toArray.size
   ·left;rw[h3 m hm2]
   ·by_cases hm3:m=os.toArray.size
    ·left
     rw[eX (by omega),hm3,h1]
    ·right;omega
  rcases hTm with hTm|hTm
  ·rw[hTm,←b2A (inv:=inv),←hat]at hr
   obtain⟨v,H2,h7,h8⟩:=b2R hno hr
   exact⟨H2,by rw[h7,h8]⟩
  ·exfalso
   rw[htb]at hm
   have:=a2X hm
   rw[hsz]at this
   omega
 rw[h0,h1]at this
 exact⟨_,_,_,this,h5⟩
end
def RA:=
 And.intro @c1y<|And.intro @c0q<|And.intro @c3n<|And.intro @c4N<|And.intro @c5K<|And.intro @b6Q<|And.intro @c3e<|And.intro @c4A<|And.intro @c3k<|And.intro @c2e<|And.intro @c0o<|And.intro @a8a<|And.intro @b5q<|And.intro @b8x<|And.intro @b5T<|And.intro @b1Z<|And.intro @b1L<|And.intro @a8B<|And.intro @b8K<|And.intro @b0p<|And.intro @b9A<|And.intro @b6r<|And.intro @b4N<|And.intro @b6c<|And.intro @c2L<|And.intro @b5Z<|And.intro @a3x<|And.intro @a4v<|And.intro @b1t<|And.intro @b9h<|And.intro @b4a<|And.intro @c0X<|And.intro @a4x<|And.intro @a4G<|And.intro @b6x<|And.intro @c6v<|And.intro @a8G<|And.intro @a9C<|And.intro @b4p<|And.intro @b8W<|And.intro @a7o<|And.intro @b1O<|And.intro @b0h<|And.intro @b0l<|And.intro @b1s<|And.intro @a9F<|And.intro @a4o<|And.intro @a7j<|And.intro @a2Y<|And.intro @b3N<|And.intro @c0L<|And.intro @c2R<|And.intro @b9y<|And.intro @b0X<|And.intro @b4e<|And.intro @b3U<|And.intro @b0N<|And.intro @b1F<|And.intro @a8y<|And.intro @a9Q<|And.intro @b8i<|And.intro @b5Q<|And.intro @a4F<|And.intro @b0D<|And.intro @a9Z<|And.intro @a4n<|And.intro @a9S<|And.intro @b1p<|And.intro @a9l<| @b6N
def RB:=
 And.intro @c1D<|And.intro @b1b<|And.intro @b1k<|And.intro @b5f<|And.intro @b1c<|And.intro @a9B<|And.intro @a9Y<|And.intro @b6F<|And.intro @a8k<|And.intro @a7W<|And.intro @c1n<|And.intro @b4V<|And.intro @b0f<|And.intro @c1C<|And.intro @c0C<|And.intro @c1x<|And.intro @c1m<|And.intro @b1d<|And.intro @a7z<|And.intro @c3r<|And.intro @c5s<|And.intro @b9q<|And.intro @a7Q<|And.intro @b0C<|And.intro @c0U<|And.intro @c2d<|And.intro @b7r<|And.intro @b5S<|And.intro @b5o<|And.intro @b4d<|And.intro @b5B<|And.intro @b6f<|And.intro @b5V<|And.intro @b4k<|And.intro @b5p<|And.intro @b4W<|And.intro @b4P<|And.intro @b5m<|And.intro @b5M<|And.intro @b8J<|And.intro @b4v<|And.intro @a6x<|And.intro @b5O<|And.intro @b3M<|And.intro @b4c<|And.intro @b5t<|And.intro @b3W<|And.intro @b7U<|And.intro @b7Q<|And.intro @b6U<|And.intro @c1r<|And.intro @b7a<|And.intro @a9x<|And.intro @b2n<|And.intro @b0Y<|And.intro @c2H<|And.intro @b8A<|And.intro @a9J<|And.intro @b6H<|And.intro @b9S<|And.intro @b5l<|And.intro @b2k<|And.intro @b6P<|And.intro @b5s<|And.intro @b2l<|And.intro @b4m<|And.intro @c0i<|And.intro @b0w<|And.intro @b4A<|And.intro @b4x<|And.intro @b2r<|And.intro @b4J<|And.intro @b1y<|And.intro @c0P<|And.intro @a8K<|And.intro @a5D<|And.intro @b2v<|And.intro @a7I<|And.intro @c0Y<|And.intro @b6S<|And.intro @b4Z<|And.intro @b9v<|And.intro @b7C<|And.intro @b5e<|And.intro @c0l<|And.intro @b5g<|And.intro @a6T<|And.intro @b2m<|And.intro @a7T<|And.intro @b2u<|And.intro @b1Y<|And.intro @b6v<|And.intro @b8C<|And.intro @b4r<|And.intro @b7b<|And.intro @a8u<|And.intro @a6b<|And.intro @a7t<|And.intro @a7w<|And.intro @a8z<|And.intro @c7P<|And.intro @c6L<|And.intro @c1P<|And.intro @c1a<|And.intro @b9c<|And.intro @b7u<|And.intro @b7H<|And.intro @b2d<|And.intro @c0I<|And.intro @b7M<|And.intro @c3d<|And.intro @pZ<|And.intro @b7m<|And.intro @c0p<| @c3t
theorem RT:
 (∀{α:Type}(l:List α),[]++l=l)∧
 (∀{α:Type}(l:List α),l++[]=l)∧
 (∀{α:Type}{a:α}{l m:List α},a::l++m=a::(l++m))∧
 (∀(cs:List Value)(i:Nat)(v:Value)(vs:List Value),kC cs i (v::vs)=kC (cs.set i v) (i+1) vs)∧
 (∀(cs:List Value)(i:Nat),kC cs i []=cs)∧
 (∀{α:Type}{x:α}{xs:List α}{a:α},(x::xs).set 0 a=a::xs)∧
 (∀{α:Type}{x:α}{xs:List α}{i:Nat}{a:α},(x::xs).set (i+1) a=x::xs.set i a)∧
 (∀(n:Nat),0+n=n)∧
 (∀(n:Nat),n*1=n)∧
 (∀(n:Nat),n+0=n):=
 ⟨@List.nil_append, @List.append_nil, @List.cons_append, @rW, @wO, @List.set_cons_zero, @List.set_cons_succ, @Nat.zero_add, @Nat.mul_one, @Nat.add_zero⟩
end Go.Ds
namespace Go.Ds
open Go.Proofs Go.Proofs.Tryz
abbrev I(n:Int):Value:=.int .i64 n
theorem sR(H:Heap):St prog H H []:=.refl ..
theorem kP:prog.follows .mixedOrders=true:=by kernel_rfl
theorem a2J(place:Nat→Option (Nat×Nat)):∀(ps ps':List (Nat×Value))(cs:Array Value),ps.map (fun x=>(x.1,x.2.cells))=ps'.map (fun x=>(x.1,x.2.cells))→Instr.fill place cs ps=Instr.fill place cs ps'
 | [],[],_,_=>rfl
 | [],_::_,_,h=>by cases h
 | _::_,[],_,h=>by cases h
 | (i,a)::ps,(j,b)::ps',cs,h=>by
   simp only[eG,fq,ic]at h
   obtain⟨⟨rfl,h1⟩,h2⟩:=h
   simp only[Instr.fill,h1]
   split
   ·rfl
   ·split
    ·rfl
    ·exact a2J place ps ps' _ h2
theorem sE(a:Array Value):Value.cells (.agg a)=a:=rfl
theorem sA(k:IntKind)(a:Int):Value.cells (.int k a)=#[.int k a]:=rfl
theorem b2o(a:ByteArray):oneCell (.string a)=true:=rfl
theorem b0q(k:IntKind)(a:Int):oneCell (.int k a)=true:=rfl
theorem a6F(a:Bool):oneCell (.bool a)=true:=rfl
theorem a0Z{P:Program}{t:TypeId}{ps ps':List (Nat×Value)}{cs:Array Value}(hz:(jZ P t).any kD=true)(hm:ps.map (fun x=>(x.1,x.2.cells))=ps'.map (fun x=>(x.1,x.2.cells)))(ho:(ps.all fun x=>x.2.cells.toList.all oneCell)=true)(hb:P.built t ps'=some cs):kT P t ps=some (.agg cs):=by
 have e:P.built t ps=P.built t ps':=by
  unfold Program.built
  simp only[a2J _ ps ps' _ hm]
 unfold kT
 rw[hz,ho,e,hb]
 rfl
theorem tS3:jD prog 3=some 1:=by kernel_rfl
theorem tS4:jD prog 4=some 1:=by kernel_rfl
theorem mK:jD prog 23=some 2:=by kernel_rfl
theorem b3S:jD prog 24=some 1:=by kernel_rfl
theorem qP:jD prog 26=some 6:=by kernel_rfl
theorem c0n:jD prog 34=some 3:=by kernel_rfl
theorem c7i:jD prog 35=some 5:=by kernel_rfl
theorem c6S:jD prog 37=some 3:=by kernel_rfl
theorem c5O:jD prog 39=some 10:=by kernel_rfl
theorem c7h:jD prog 42=some 1:=by kernel_rfl
theorem c8i:jD prog 43=some 1:=by kernel_rfl
theorem c1d:jD prog 44=some 1:=by kernel_rfl
theorem yG:jD prog 46=some 4:=by kernel_rfl
theorem c5T:jD prog 47=some 1:=by kernel_rfl
theorem b1u:jD prog 48=some 1:=by kernel_rfl
theorem rJ:jD prog 50=some 3:=by kernel_rfl
theorem zX:jD prog 54=some 2:=by kernel_rfl
theorem qE:jD prog 56=some 10:=by kernel_rfl
theorem a2n:jD prog 63=some 3:=by kernel_rfl
theorem pE:jD prog 73=some 2:=by kernel_rfl
theorem c5E:jD prog 75=some 1:=by kernel_rfl
theorem rN:jD prog 102=some 2:=by kernel_rfl
theorem c4b:jD prog 103=some 1:=by kernel_rfl
theorem rR:jD prog 105=some 5:=by kernel_rfl
theorem b3y:jD prog 115=some 4:=by kernel_rfl
theorem tW:jD prog 119=some 2:=by kernel_rfl
theorem vX:jD prog 121=some 6:=by kernel_rfl
theorem yS:jD prog 127=some 1:=by kernel_rfl
theorem rQ:jD prog 129=some 4:=by kernel_rfl
theorem yU:jD prog 131=some 5:=by kernel_rfl
theorem c4r:jD prog 139=some 13:=by kernel_rfl
theorem a2f:jD prog 176=some 2:=by kernel_rfl
theorem a3E:jD prog 179=some 3:=by kernel_rfl
theorem b7G:jD prog 186=some 9:=by kernel_rfl
theorem b8S:jD prog 189=some 4:=by kernel_rfl
theorem b3J:jD prog 191=some 4:=by kernel_rfl
theorem b2N:jD prog 240=some 3:=by kernel_rfl
theorem oY:mF prog 125=true∧qC prog 9=true∧mF prog 9=false:=⟨by kernel_rfl,by kernel_rfl,by kernel_rfl⟩
theorem c9S(A i e:Nat)(k:IntKind)(j:Int)(h0:0≤j)(h1:j<5):xD (jU prog 35) prog 35 (ptr A i e) (.int k j)=some (ptr A (i+j.toNat*1) e):=a6N (n:=5) (elem:=5) (size:=1) (by kernel_rfl) (by kernel_rfl) A i e k j h0 h1
theorem d0B(A i e:Nat)(k:IntKind)(j:Int)(h0:0≤j)(h1:j<3):xD (jU prog 37) prog 37 (ptr A i e) (.int k j)=some (ptr A (i+j.toNat*1) e):=a6N (n:=3) (elem:=36) (size:=1) (by kernel_rfl) (by kernel_rfl) A i e k j h0 h1
theorem c8N(A i e:Nat)(k:IntKind)(j:Int)(h0:0≤j)(h1:j<64):xD (jU prog 294) prog 294 (ptr A i e) (.int k j)=some (ptr A (i+j.toNat*1) e):=a6N (n:=64) (elem:=5) (size:=1) (by kernel_rfl) (by kernel_rfl) A i e k j h0 h1
theorem tN:oA prog 24=some (1,8):=by kernel_rfl
theorem a1U:((jJ prog 24).bind (jZ prog)).any kD=true:=by kernel_rfl
theorem b5w:oA prog 40=some (3,24):=by kernel_rfl
theorem c4Z:((jJ prog 40).bind (jZ prog)).any kD=true:=by kernel_rfl
theorem c6b:oA prog 42=some (6,80):=by kernel_rfl
theorem c8b:((jJ prog 42).bind (jZ prog)).any kD=true:=by kernel_rfl
theorem c5X:oA prog 43=some (5,64):=by kernel_rfl
theorem c8K:((jJ prog 43).bind (jZ prog)).any kD=true:=by kernel_rfl
theorem b0o:oA prog 44=some (5,48):=by kernel_rfl
theorem c1i:((jJ prog 44).bind (jZ prog)).any kD=true:=by kernel_rfl
theorem b8E:oA prog 47=some (1,8):=by kernel_rfl
theorem c8L:((jJ prog 47).bind (jZ prog)).any kD=true:=by kernel_rfl
theorem b7d:oA prog 52=some (2,16):=by kernel_rfl
theorem c6r:((jJ prog 52).bind (jZ prog)).any kD=true:=by kernel_rfl
theorem c2l:oA prog 75=some (6,64):=by kernel_rfl
theorem c7c:((jJ prog 75).bind (jZ prog)).any kD=true:=by kernel_rfl
theorem c7U:oA prog 97=some (2,16):=by kernel_rfl
theorem d0O:((jJ prog 97).bind (jZ prog)).any kD=true:=by kernel_rfl
theorem b8T:oA prog 103=some (4,56):=by kernel_rfl
theorem c4k:((jJ prog 103).bind (jZ prog)).any kD=true:=by kernel_rfl
theorem b3E:oA prog 124=some (1,16):=by kernel_rfl
theorem b9Q:((jJ prog 124).bind (jZ prog)).any kD=true:=by kernel_rfl
theorem b2X:oA prog 125=some (1,1):=by kernel_rfl
theorem b2K:((jJ prog 125).bind (jZ prog)).any kD=true:=by kernel_rfl
theorem c3O:oA prog 126=some (2,16):=by kernel_rfl
theorem c9d:((jJ prog 126).bind (jZ prog)).any kD=true:=by kernel_rfl
theorem rP:oA prog 127=some (3,40):=by kernel_rfl
theorem yT:((jJ prog 127).bind (jZ prog)).any kD=true:=by kernel_rfl
theorem vZ:oA prog 140=some (2,16):=by kernel_rfl
theorem a8M:((jJ prog 140).bind (jZ prog)).any kD=true:=by kernel_rfl
theorem b2H:oA prog 154=some (1,24):=by kernel_rfl
theorem c3V:((jJ prog 154).bind (jZ prog)).any kD=true:=by kernel_rfl
theorem a5E:oA prog 177=some (2,16):=by kernel_rfl
theorem a5I:((jJ prog 177).bind (jZ prog)).any kD=true:=by kernel_rfl
theorem c4h:oA prog 274=some (2,16):=by kernel_rfl
theorem c3Y:((jJ prog 274).bind (jZ prog)).any kD=true:=by kernel_rfl
theorem c9q:c5t prog 24=some (8,.int .i64 0):=by kernel_rfl
theorem c7C(t2:TypeId)(cx cy:Bool)(a0:Int)(a1:Int)(b0:Int)(b1:Int):lJ prog .eql 23 t2 cx cy (.agg #[.int .i64 a0,.int .i64 a1]) (.agg #[.int .i64 b0,.int .i64 b1])=some (.bool (decide (a0=b0∧a1=b1)))∧lJ prog .neq 23 t2 cx cy (.agg #[.int .i64 a0,.int .i64 a1]) (.agg #[.int .i64 b0,.int .i64 b1])=some (.bool (decide (¬(a0=b0∧a1=b1)))):=by
 have h:=xG (P:=prog) (t:=23) (t2:=t2) (cx:=cx) (cy:=cy) (xs:=[.int .i64 a0,.int .i64 a1]) (ys:=[.int .i64 b0,.int .i64 b1]) (by kernel_rfl) (by kernel_rfl) (by kernel_rfl) (by kernel_rfl) rfl (by kernel_rfl) rfl rfl
 have e:((List.range [Value.int .i64 a0,.int .i64 a1].length).all fun j=>eqC ([Value.int .i64 a0,.int .i64 a1].getD j undef) ([Value.int .i64 b0,.int .i64 b1].getD j undef))=decide (a0=b0∧a1=b1):=by
  show(eqC (Value.int .i64 a0) (.int .i64 b0)&&(eqC (Value.int .i64 a1) (.int .i64 b1)&&true))=_
  rw[eU]
  simp[eqC]
 rw[e]at h
 exact⟨h.1,by rw[h.2];simp⟩
theorem c6Q(t2:TypeId)(cx cy:Bool)(a0:Int)(a1:Int)(b0:Int)(b1:Int):lJ prog .eql 23 t2 cx cy (.agg #[.int .i64 a0,.int .i64 a1]) (.agg #[.int .i64 b0,.int .i64 b1])=some (.bool (decide (a0=b0∧a1=b1))):=(c7C t2 cx cy a0 a1 b0 b1).1
theorem c7I(t2:TypeId)(cx cy:Bool)(a0:Int)(a1:Int)(b0:Int)(b1:Int):lJ prog .neq 23 t2 cx cy (.agg #[.int .i64 a0,.int .i64 a1]) (.agg #[.int .i64 b0,.int .i64 b1])=some (.bool (decide (¬(a0=b0∧a1=b1)))):=(c7C t2 cx cy a0 a1 b0 b1).2
theorem c7n(t2:TypeId)(cx cy:Bool)(a0:Int)(a1:Int)(b0:Int)(b1:Int):lJ prog .eql 54 t2 cx cy (.agg #[.int .i64 a0,.int .i64 a1]) (.agg #[.int .i64 b0,.int .i64 b1])=some (.bool (decide (a0=b0∧a1=b1)))∧lJ prog .neq 54 t2 cx cy (.agg #[.int .i64 a0,.int .i64 a1]) (.agg #[.int .i64 b0,.int .i64 b1])=some (.bool (decide (¬(a0=b0∧a1=b1)))):=by
 have h:=xG (P:=prog) (t:=54) (t2:=t2) (cx:=cx) (cy:=cy) (xs:=[.int .i64 a0,.int .i64 a1]) (ys:=[.int .i64 b0,.int .i64 b1]) (by kernel_rfl) (by kernel_rfl) (by kernel_rfl) (by kernel_rfl) rfl (by kernel_rfl) rfl rfl
 have e:((List.range [Value.int .i64 a0,.int .i64 a1].length).all fun j=>eqC ([Value.int .i64 a0,.int .i64 a1].getD j undef) ([Value.int .i64 b0,.int .i64 b1].getD j undef))=decide (a0=b0∧a1=b1):=by
  show(eqC (Value.int .i64 a0) (.int .i64 b0)&&(eqC (Value.int .i64 a1) (.int .i64 b1)&&true))=_
  rw[eU]
  simp[eqC]
 rw[e]at h
 exact⟨h.1,by rw[h.2];simp⟩
theorem c7x(t2:TypeId)(cx cy:Bool)(a0:Int)(a1:Int)(b0:Int)(b1:Int):lJ prog .eql 54 t2 cx cy (.agg #[.int .i64 a0,.int .i64 a1]) (.agg #[.int .i64 b0,.int .i64 b1])=some (.bool (decide (a0=b0∧a1=b1))):=(c7n t2 cx cy a0 a1 b0 b1).1
theorem c7T(t2:TypeId)(cx cy:Bool)(a0:Int)(a1:Int)(b0:Int)(b1:Int):lJ prog .neq 54 t2 cx cy (.agg #[.int .i64 a0,.int .i64 a1]) (.agg #[.int .i64 b0,.int .i64 b1])=some (.bool (decide (¬(a0=b0∧a1=b1)))):=(c7n t2 cx cy a0 a1 b0 b1).2
theorem c6I(t2:TypeId)(cx cy:Bool)(a0:Int)(a1:Int)(a2:Int)(b0:Int)(b1:Int)(b2:Int):lJ prog .eql 63 t2 cx cy (.agg #[.int .i64 a0,.int .i64 a1,.int .i64 a2]) (.agg #[.int .i64 b0,.int .i64 b1,.int .i64 b2])=some (.bool (decide (a0=b0∧a1=b1∧a2=b2)))∧lJ prog .neq 63 t2 cx cy (.agg #[.int .i64 a0,.int .i64 a1,.int .i64 a2]) (.agg #[.int .i64 b0,.int .i64 b1,.int .i64 b2])=some (.bool (decide (¬(a0=b0∧a1=b1∧a2=b2)))):=by
 have h:=xG (P:=prog) (t:=63) (t2:=t2) (cx:=cx) (cy:=cy) (xs:=[.int .i64 a0,.int .i64 a1,.int .i64 a2]) (ys:=[.int .i64 b0,.int .i64 b1,.int .i64 b2]) (by kernel_rfl) (by kernel_rfl) (by kernel_rfl) (by kernel_rfl) rfl (by kernel_rfl) rfl rfl
 have e:((List.range [Value.int .i64 a0,.int .i64 a1,.int .i64 a2].length).all fun j=>eqC ([Value.int .i64 a0,.int .i64 a1,.int .i64 a2].getD j undef) ([Value.int .i64 b0,.int .i64 b1,.int .i64 b2].getD j undef))=decide (a0=b0∧a1=b1∧a2=b2):=by
  show(eqC (Value.int .i64 a0) (.int .i64 b0)&&(eqC (Value.int .i64 a1) (.int .i64 b1)&&(eqC (Value.int .i64 a2) (.int .i64 b2)&&true)))=_
  rw[eU]
  simp[eqC]
 rw[e]at h
 exact⟨h.1,by rw[h.2];simp⟩
theorem c8W(t2:TypeId)(cx cy:Bool)(a0:Int)(a1:Int)(a2:Int)(b0:Int)(b1:Int)(b2:Int):lJ prog .eql 63 t2 cx cy (.agg #[.int .i64 a0,.int .i64 a1,.int .i64 a2]) (.agg #[.int .i64 b0,.int .i64 b1,.int .i64 b2])=some (.bool (decide (a0=b0∧a1=b1∧a2=b2))):=(c6I t2 cx cy a0 a1 a2 b0 b1 b2).1
theorem c6O(t2:TypeId)(cx cy:Bool)(a0:Int)(a1:Int)(a2:Int)(b0:Int)(b1:Int)(b2:Int):lJ prog .neq 63 t2 cx cy (.agg #[.int .i64 a0,.int .i64 a1,.int .i64 a2]) (.agg #[.int .i64 b0,.int .i64 b1,.int .i64 b2])=some (.bool (decide (¬(a0=b0∧a1=b1∧a2=b2)))):=(c6I t2 cx cy a0 a1 a2 b0 b1 b2).2
theorem c6Y(t2:TypeId)(cx cy:Bool)(a0:Int)(a1:Int)(b0:Int)(b1:Int):lJ prog .eql 73 t2 cx cy (.agg #[.int .u64 a0,.int .u64 a1]) (.agg #[.int .u64 b0,.int .u64 b1])=some (.bool (decide (a0=b0∧a1=b1)))∧lJ prog .neq 73 t2 cx cy (.agg #[.int .u64 a0,.int .u64 a1]) (.agg #[.int .u64 b0,.int .u64 b1])=some (.bool (decide (¬(a0=b0∧a1=b1)))):=by
 have h:=xG (P:=prog) (t:=73) (t2:=t2) (cx:=cx) (cy:=cy) (xs:=[.int .u64 a0,.int .u64 a1]) (ys:=[.int .u64 b0,.int .u64 b1]) (by kernel_rfl) (by kernel_rfl) (by kernel_rfl) (by kernel_rfl) rfl (by kernel_rfl) rfl rfl
 have e:((List.range [Value.int .u64 a0,.int .u64 a1].length).all fun j=>eqC ([Value.int .u64 a0,.int .u64 a1].getD j undef) ([Value.int .u64 b0,.int .u64 b1].getD j undef))=decide (a0=b0∧a1=b1):=by
  show(eqC (Value.int .u64 a0) (.int .u64 b0)&&(eqC (Value.int .u64 a1) (.int .u64 b1)&&true))=_
  rw[eU]
  simp[eqC]
 rw[e]at h
 exact⟨h.1,by rw[h.2];simp⟩
theorem c8e(t2:TypeId)(cx cy:Bool)(a0:Int)(a1:Int)(b0:Int)(b1:Int):lJ prog .eql 73 t2 cx cy (.agg #[.int .u64 a0,.int .u64 a1]) (.agg #[.int .u64 b0,.int .u64 b1])=some (.bool (decide (a0=b0∧a1=b1))):=(c6Y t2 cx cy a0 a1 b0 b1).1
theorem c7F(t2:TypeId)(cx cy:Bool)(a0:Int)(a1:Int)(b0:Int)(b1:Int):lJ prog .neq 73 t2 cx cy (.agg #[.int .u64 a0,.int .u64 a1]) (.agg #[.int .u64 b0,.int .u64 b1])=some (.bool (decide (¬(a0=b0∧a1=b1)))):=(c6Y t2 cx cy a0 a1 b0 b1).2
theorem c3R(t2:TypeId)(cx cy:Bool)(a0:Int)(a1:Int)(b0:Int)(b1:Int):lJ prog .eql 176 t2 cx cy (.agg #[.int .i64 a0,.int .i64 a1]) (.agg #[.int .i64 b0,.int .i64 b1])=some (.bool (decide (a0=b0∧a1=b1)))∧lJ prog .neq 176 t2 cx cy (.agg #[.int .i64 a0,.int .i64 a1]) (.agg #[.int .i64 b0,.int .i64 b1])=some (.bool (decide (¬(a0=b0∧a1=b1)))):=by
 have h:=xG (P:=prog) (t:=176) (t2:=t2) (cx:=cx) (cy:=cy) (xs:=[.int .i64 a0,.int .i64 a1]) (ys:=[.int .i64 b0,.int .i64 b1]) (by kernel_rfl) (by kernel_rfl) (by kernel_rfl) (by kernel_rfl) rfl (by kernel_rfl) rfl rfl
 have e:((List.range [Value.int .i64 a0,.int .i64 a1].length).all fun j=>eqC ([Value.int .i64 a0,.int .i64 a1].getD j undef) ([Value.int .i64 b0,.int .i64 b1].getD j undef))=decide (a0=b0∧a1=b1):=by
  show(eqC (Value.int .i64 a0) (.int .i64 b0)&&(eqC (Value.int .i64 a1) (.int .i64 b1)&&true))=_
  rw[eU]
  simp[eqC]
 rw[e]at h
 exact⟨h.1,by rw[h.2];simp⟩
theorem c4I(t2:TypeId)(cx cy:Bool)(a0:Int)(a1:Int)(b0:Int)(b1:Int):lJ prog .eql 176 t2 cx cy (.agg #[.int .i64 a0,.int .i64 a1]) (.agg #[.int .i64 b0,.int .i64 b1])=some (.bool (decide (a0=b0∧a1=b1))):=(c3R t2 cx cy a0 a1 b0 b1).1
theorem c5y(t2:TypeId)(cx cy:Bool)(a0:Int)(a1:Int)(b0:Int)(b1:Int):lJ prog .neq 176 t2 cx cy (.agg #[.int .i64 a0,.int .i64 a1]) (.agg #[.int .i64 b0,.int .i64 b1])=some (.bool (decide (¬(a0=b0∧a1=b1)))):=(c3R t2 cx cy a0 a1 b0 b1).2
theorem c6V:kT prog 23 []=some (.agg #[.int .i64 0,.int .i64 0]):=by kernel_rfl
theorem a0V{a1:Int}{a2:Int}:kT prog 23 [(0,.int .i64 a1),(1,.int .i64 a2)]=some (.agg #[.int .i64 a1,.int .i64 a2]):=by kernel_rfl
theorem c4u:kT prog 26 []=some (.agg #[.int .i64 0,.int .i64 0,.slice none 0 0,.int .i64 0,.int .i64 0,.int .i64 0]):=by kernel_rfl
theorem b0T{a1:Int}{a2:Int}{a3:Value}{a4:Int}{a5:Int}(h3:a3.cells=#[a3]∧oneCell a3=true∧nA a3=true):kT prog 26 [(0,.agg #[.int .i64 a1,.int .i64 a2]),(1,a3),(2,.agg #[.int .i64 a4,.int .i64 a5])]=some (.agg #[.int .i64 a1,.int .i64 a2,a3,.int .i64 a4,.int .i64 a5,.int .i64 0]):=by cases a3<;>first|(exfalso;simp[oneCell]at h3;done)|kernel_rfl
theorem a8H{a1:Int}{a2:Int}{a3:Int}{a4:Int}:kT prog 26 [(0,.agg #[.int .i64 a1,.int .i64 a2]),(2,.agg #[.int .i64 a3,.int .i64 a4])]=some (.agg #[.int .i64 a1,.int .i64 a2,.slice none 0 0,.int .i64 a3,.int .i64 a4,.int .i64 0]):=by kernel_rfl
theorem c4G{a1:ByteArray}:kT prog 46 [(0,.string a1)]=some (.agg #[.string a1,.slice none 0 0,.slice none 0 0,.slice none 0 0]):=by kernel_rfl
theorem a7h{a1:ByteArray}{a2:Value}{a3:Value}{a4:Value}(h2:a2.cells=#[a2]∧oneCell a2=true∧nA a2=true)(h3:a3.cells=#[a3]∧oneCell a3=true∧nA a3=true)(h4:a4.cells=#[a4]∧oneCell a4=true∧nA a4=true):kT prog 46 [(0,.string a1),(1,a2),(2,a3),(3,a4)]=some (.agg #[.string a1,a2,a3,a4]):=by cases a2<;>cases a3<;>cases a4<;>first|(exfalso;simp[oneCell]at h2;done)|(exfalso;simp[oneCell]at h3;done)|(exfalso;simp[oneCell]at h4;done)|kernel_rfl
theorem a0k:kT prog 50 []=some (.agg #[.slice none 0 0,.int .u64 0,.int .u64 0]):=by kernel_rfl
theorem b9I{a1:Value}{a2:Int}(h1:a1.cells=#[a1]∧oneCell a1=true∧nA a1=true):kT prog 50 [(0,a1),(1,.int .u64 a2)]=some (.agg #[a1,.int .u64 a2,.int .u64 0]):=by cases a1<;>first|(exfalso;simp[oneCell]at h1;done)|kernel_rfl
theorem b8N{a1:Int}{a2:Int}:kT prog 50 [(1,.int .u64 a1),(2,.int .u64 a2)]=some (.agg #[.slice none 0 0,.int .u64 a1,.int .u64 a2]):=by kernel_rfl
theorem c3P:kT prog 54 []=some (.agg #[.int .i64 0,.int .i64 0]):=by kernel_rfl
theorem a9c{a1:Int}{a2:Int}:kT prog 54 [(0,.int .i64 a1),(1,.int .i64 a2)]=some (.agg #[.int .i64 a1,.int .i64 a2]):=by kernel_rfl
theorem b1J{a1:ByteArray}{a2:Value}{a3:Value}{a4:Value}{a5:Value}{a6:Int}{a7:Int}{a8:Value}(h2:a2.cells=#[a2]∧oneCell a2=true∧nA a2=true)(h3:a3.cells=#[a3]∧oneCell a3=true∧nA a3=true)(h4:a4.cells=#[a4]∧oneCell a4=true∧nA a4=true)(h5:a5.cells=#[a5]∧oneCell a5=true∧nA a5=true)(h8:a8.cells=#[a8]∧oneCell a8=true∧nA a8=true):kT prog 56 [(0,.agg #[.string a1,a2,a3,a4]),(1,.agg #[a5,.int .u64 a6,.int .u64 a7]),(2,a8)]=some (.agg #[.string a1,a2,a3,a4,a5,.int .u64 a6,.int .u64 a7,a8,.int .i64 0,.int .i64 0]):=a0Z (ps':=[(0,.agg #[.string a1,a2,a3,a4]),(1,.agg #[a5,.int .u64 a6,.int .u64 a7]),(2,.agg #[a8])]) (by kernel_rfl) (by simp[sE,sA,h2.1,h3.1,h4.1,h5.1,h8.1]) (by simp[sE,sA,b2o,b0q,a6F,h2.1,h2.2.1,h3.1,h3.2.1,h4.1,h4.2.1,h5.1,h5.2.1,h8.1,h8.2.1]) (by kernel_rfl)
theorem a5Z{a1:ByteArray}{a2:Value}{a3:Value}{a4:Value}{a5:Value}{a6:Int}{a7:Int}{a8:Value}{a9:Int}{a10:Int}(h2:a2.cells=#[a2]∧oneCell a2=true∧nA a2=true)(h3:a3.cells=#[a3]∧oneCell a3=true∧nA a3=true)(h4:a4.cells=#[a4]∧oneCell a4=true∧nA a4=true)(h5:a5.cells=#[a5]∧oneCell a5=true∧nA a5=true)(h8:a8.cells=#[a8]∧oneCell a8=true∧nA a8=true):kT prog 56 [(0,.agg #[.string a1,a2,a3,a4]),(1,.agg #[a5,.int .u64 a6,.int .u64 a7]),(2,a8),(3,.agg #[.int .i64 a9,.int .i64 a10])]=some (.agg #[.string a1,a2,a3,a4,a5,.int .u64 a6,.int .u64 a7,a8,.int .i64 a9,.int .i64 a10]):=a0Z (ps':=[(0,.agg #[.string a1,a2,a3,a4]),(1,.agg #[a5,.int .u64 a6,.int .u64 a7]),(2,.agg #[a8]),(3,.agg #[.int .i64 a9,.int .i64 a10])]) (by kernel_rfl) (by simp[sE,sA,h2.1,h3.1,h4.1,h5.1,h8.1]) (by simp[sE,sA,b2o,b0q,a6F,h2.1,h2.2.1,h3.1,h3.2.1,h4.1,h4.2.1,h5.1,h5.2.1,h8.1,h8.2.1]) (by kernel_rfl)
theorem b6z{a1:Int}{a2:Int}:kT prog 63 [(0,.int .i64 a1),(1,.int .i64 a2)]=some (.agg #[.int .i64 a1,.int .i64 a2,.int .i64 0]):=by kernel_rfl
theorem b2w{a1:Int}{a2:Int}{a3:Int}:kT prog 63 [(0,.int .i64 a1),(1,.int .i64 a2),(2,.int .i64 a3)]=some (.agg #[.int .i64 a1,.int .i64 a2,.int .i64 a3]):=by kernel_rfl
theorem b8B{a1:Int}{a2:Int}:kT prog 63 [(0,.int .i64 a1),(2,.int .i64 a2)]=some (.agg #[.int .i64 a1,.int .i64 0,.int .i64 a2]):=by kernel_rfl
theorem c4d:kT prog 73 []=some (.agg #[.int .u64 0,.int .u64 0]):=by kernel_rfl
theorem b9p{a1:Int}{a2:Int}:kT prog 73 [(0,.int .u64 a1),(1,.int .u64 a2)]=some (.agg #[.int .u64 a1,.int .u64 a2]):=by kernel_rfl
theorem a5a{a1:Int}{a2:Int}:kT prog 102 [(0,.int .i64 a1),(1,.int .i64 a2)]=some (.agg #[.int .i64 a1,.int .i64 a2]):=by kernel_rfl
theorem a9y{a1:ByteArray}{a2:Bool}{a3:Int}{a4:Int}:kT prog 105 [(0,.string a1),(1,.bool a2),(2,.agg #[.int .i64 a3,.int .i64 a4])]=some (.agg #[.string a1,.bool a2,.int .i64 a3,.int .i64 a4,.slice none 0 0]):=by kernel_rfl
theorem a8f{a1:ByteArray}{a2:Int}{a3:Int}{a4:Value}(h4:a4.cells=#[a4]∧oneCell a4=true∧nA a4=true):kT prog 105 [(0,.string a1),(2,.agg #[.int .i64 a2,.int .i64 a3]),(3,a4)]=some (.agg #[.string a1,.bool false,.int .i64 a2,.int .i64 a3,a4]):=by cases a4<;>first|(exfalso;simp[oneCell]at h4;done)|kernel_rfl
theorem xO{a1:Int}{a2:Int}:kT prog 119 [(0,.int .i64 a1),(1,.int .i64 a2)]=some (.agg #[.int .i64 a1,.int .i64 a2]):=by kernel_rfl
theorem a4J{a1:ByteArray}{a2:ByteArray}{a3:Int}{a4:Int}{a5:Int}:kT prog 121 [(0,.string a1),(1,.string a2),(2,.agg #[.int .i64 a3,.int .i64 a4]),(3,.int .i64 a5)]=some (.agg #[.string a1,.string a2,.int .i64 a3,.int .i64 a4,.int .i64 a5,.slice none 0 0]):=by kernel_rfl
theorem a2x{a1:ByteArray}{a2:ByteArray}{a3:Int}{a4:Int}{a5:Int}{a6:Value}(h6:a6.cells=#[a6]∧oneCell a6=true∧nA a6=true):kT prog 121 [(0,.string a1),(1,.string a2),(2,.agg #[.int .i64 a3,.int .i64 a4]),(3,.int .i64 a5),(4,a6)]=some (.agg #[.string a1,.string a2,.int .i64 a3,.int .i64 a4,.int .i64 a5,a6]):=by cases a6<;>first|(exfalso;simp[oneCell]at h6;done)|kernel_rfl
theorem b5J{a1:ByteArray}{a2:Int}{a3:Int}:kT prog 129 [(0,.string a1),(1,.agg #[.int .i64 a2,.int .i64 a3])]=some (.agg #[.string a1,.int .i64 a2,.int .i64 a3,.slice none 0 0]):=by kernel_rfl
theorem a8X{a1:ByteArray}{a2:Int}{a3:Int}{a4:Value}(h4:a4.cells=#[a4]∧oneCell a4=true∧nA a4=true):kT prog 129 [(0,.string a1),(1,.agg #[.int .i64 a2,.int .i64 a3]),(2,a4)]=some (.agg #[.string a1,.int .i64 a2,.int .i64 a3,a4]):=by cases a4<;>first|(exfalso;simp[oneCell]at h4;done)|kernel_rfl
theorem a9v{a1:ByteArray}{a2:Int}{a3:Int}:kT prog 131 [(0,.string a1),(1,.int .i64 a2),(2,.int .i64 a3)]=some (.agg #[.string a1,.int .i64 a2,.int .i64 a3,.int .i64 0,.bool false]):=by kernel_rfl
theorem a2r{a1:ByteArray}{a2:Int}{a3:Int}{a4:Int}{a5:Bool}:kT prog 131 [(0,.string a1),(1,.int .i64 a2),(2,.int .i64 a3),(3,.int .i64 a4),(4,.bool a5)]=some (.agg #[.string a1,.int .i64 a2,.int .i64 a3,.int .i64 a4,.bool a5]):=by kernel_rfl
theorem b4h{a1:ByteArray}{a2:Value}{a3:Value}{a4:Value}{a5:Value}{a6:Int}{a7:Int}{a8:Value}{a9:Int}{a10:Int}{a11:Value}(h2:a2.cells=#[a2]∧oneCell a2=true∧nA a2=true)(h3:a3.cells=#[a3]∧oneCell a3=true∧nA a3=true)(h4:a4.cells=#[a4]∧oneCell a4=true∧nA a4=true)(h5:a5.cells=#[a5]∧oneCell a5=true∧nA a5=true)(h8:a8.cells=#[a8]∧oneCell a8=true∧nA a8=true)(h11:a11.cells=#[a11]∧oneCell a11=true∧nA a11=true):kT prog 139 [(0,.agg #[.string a1,a2,a3,a4,a5,.int .u64 a6,.int .u64 a7,a8,.int .i64 a9,.int .i64 a10]),(1,a11)]=some (.agg #[.string a1,a2,a3,a4,a5,.int .u64 a6,.int .u64 a7,a8,.int .i64 a9,.int .i64 a10,a11,.slice none 0 0,.bool false]):=a0Z (ps':=[(0,.agg #[.string a1,a2,a3,a4,a5,.int .u64 a6,.int .u64 a7,a8,.int .i64 a9,.int .i64 a10]),(1,.agg #[a11])]) (by kernel_rfl) (by simp[sE,sA,h2.1,h3.1,h4.1,h5.1,h8.1,h11.1]) (by simp[sE,sA,b2o,b0q,a6F,h2.1,h2.2.1,h3.1,h3.2.1,h4.1,h4.2.1,h5.1,h5.2.1,h8.1,h8.2.1,h11.1,h11.2.1]) (by kernel_rfl)
theorem c3q{a1:Int}:kT prog 176 [(0,.int .i64 a1)]=some (.agg #[.int .i64 a1,.int .i64 0]):=by kernel_rfl
theorem uB{a1:Int}{a2:Int}:kT prog 176 [(0,.int .i64 a1),(1,.int .i64 a2)]=some (.agg #[.int .i64 a1,.int .i64 a2]):=by kernel_rfl
theorem c5z:kT prog 179 []=some (.agg #[.int .i64 0,.int .i64 0,.slice none 0 0]):=by kernel_rfl
theorem mS{a1:Int}{a2:Int}{a3:Value}(h3:a3.cells=#[a3]∧oneCell a3=true∧nA a3=true):kT prog 179 [(0,.int .i64 a1),(1,.int .i64 a2),(2,a3)]=some (.agg #[.int .i64 a1,.int .i64 a2,a3]):=by cases a3<;>first|(exfalso;simp[oneCell]at h3;done)|kernel_rfl
theorem b5G{a1:Value}{a2:Int}{a3:Int}(h1:a1.cells=#[a1]∧oneCell a1=true∧nA a1=true):kT prog 240 [(0,a1),(1,.agg #[.int .i64 a2,.int .i64 a3])]=some (.agg #[a1,.int .i64 a2,.int .i64 a3]):=by cases a1<;>first|(exfalso;simp[oneCell]at h1;done)|kernel_rfl
theorem b3T{a1:Int}{a2:Int}:kT prog 267 [(0,.int .u64 a1),(1,.int .u64 a2)]=some (.agg #[.int .u64 a1,.int .u64 a2]):=by kernel_rfl
theorem tR4(l:List Value)(H:Heap):jC prog Tryz.f4 l H=some (get l 6):=rfl
theorem d0D(l:List Value)(H:Heap):jC prog Tryz.f10 l H=some (get l 0):=rfl
theorem c9O(l:List Value)(H:Heap):jC prog Tryz.f11 l H=some (get l 4):=rfl
theorem b0v(l:List Value)(H:Heap):jC prog Tryz.f13 l H=some (get l 2):=rfl
theorem d0o(l:List Value)(H:Heap):jC prog Tryz.f14 l H=oP (kM prog 56) (jD prog 56) H (get l 4):=by
 show(Option.bind (Option.bind (mA prog H 56 (get l 4)) fun v=>some [v]) fun vs=>_)=_
 rw[lH]
 cases oP _ _ H (get l 4)<;>rfl
theorem a4q(l:List Value)(H:Heap):jC prog Tryz.f15 l H=(oP (kM prog 50) (jD prog 50) H (get l 4)).bind fun v=>if(kE v&&(kE (get l 5)&&true))=true then some (.tuple #[v,get l 5])else none:=by
 show(Option.bind (Option.bind (mA prog H 50 (get l 4)) fun v=>some [v,get l 5]) fun vs=>_)=_
 rw[lH]
 cases oP _ _ H (get l 4)<;>rfl
theorem c9s(l:List Value)(H:Heap):jC prog Tryz.f16 l H=oP (kM prog 50) (jD prog 50) H (get l 4):=by
 show(Option.bind (Option.bind (mA prog H 50 (get l 4)) fun v=>some [v]) fun vs=>_)=_
 rw[lH]
 cases oP _ _ H (get l 4)<;>rfl
theorem d0l(l:List Value)(H:Heap):jC prog Tryz.f17 l H=some (get l 4):=rfl
theorem b0P(l:List Value)(H:Heap):jC prog Tryz.f20 l H=some (get l 2):=rfl
theorem c4E(l:List Value)(H:Heap):jC prog Tryz.f21 l H=if(kE (get l 2)&&(kE (get l 3)&&true))=true then some (.tuple #[get l 2,get l 3])else none:=rfl
theorem c7k(l:List Value)(H:Heap):jC prog Tryz.f22 l H=(oP (kM prog 26) (jD prog 26) H (get l 2)).bind fun v=>if(kE v&&(kE (get l 3)&&(kE (get l 4)&&true)))=true then some (.tuple #[v,get l 3,get l 4])else none:=by
 show(Option.bind (Option.bind (mA prog H 26 (get l 2)) fun v=>some [v,get l 3,get l 4]) fun vs=>_)=_
 rw[lH]
 cases oP _ _ H (get l 2)<;>rfl
theorem c6G(l:List Value)(H:Heap):jC prog Tryz.f23 l H=if(kE (get l 4)&&(kE (get l 5)&&true))=true then some (.tuple #[get l 4,get l 5])else none:=rfl
theorem c3f(l:List Value)(H:Heap):jC prog Tryz.f26 l H=if(kE (get l 2)&&(kE (get l 3)&&(kE (get l 4)&&true)))=true then some (.tuple #[get l 2,get l 3,get l 4])else none:=rfl
theorem a9L(l:List Value)(H:Heap):jC prog Tryz.f28 l H=some (get l 4):=rfl
theorem d0x(l:List Value)(H:Heap):jC prog Tryz.f38 l H=oP (kM prog 56) (jD prog 56) H (get l 0):=by
 show(Option.bind (Option.bind (mA prog H 56 (get l 0)) fun v=>some [v]) fun vs=>_)=_
 rw[lH]
 cases oP _ _ H (get l 0)<;>rfl
theorem c7V(l:List Value)(H:Heap):jC prog Tryz.f39 l H=some (get l 2):=rfl
theorem c5d(l:List Value)(H:Heap):jC prog Tryz.f40 l H=some (get l 4):=rfl
theorem d0d(l:List Value)(H:Heap):jC prog Tryz.f41 l H=some (get l 4):=rfl
theorem c1F(l:List Value)(H:Heap):jC prog Tryz.f42 l H=some (get l 4):=rfl
theorem c9G(l:List Value)(H:Heap):jC prog Tryz.f43 l H=oP (kM prog 46) (jD prog 46) H (get l 2):=by
 show(Option.bind (Option.bind (mA prog H 46 (get l 2)) fun v=>some [v]) fun vs=>_)=_
 rw[lH]
 cases oP _ _ H (get l 2)<;>rfl
theorem c9Q(l:List Value)(H:Heap):jC prog Tryz.f44 l H=some (get l 4):=rfl
theorem d0F(l:List Value)(H:Heap):jC prog Tryz.f45 l H=some (get l 2):=rfl
theorem c5F(l:List Value)(H:Heap):jC prog Tryz.f46 l H=some (get l 4):=rfl
theorem a4p(l:List Value)(H:Heap):jC prog Tryz.f47 l H=some (get l 2):=rfl
theorem b4B(l:List Value)(H:Heap):jC prog Tryz.f48 l H=some (get l 4):=rfl
theorem c3m(l:List Value)(H:Heap):jC prog Tryz.f49 l H=some (get l 4):=rfl
theorem d0I(l:List Value)(H:Heap):jC prog Tryz.f50 l H=some (get l 2):=rfl
theorem d0i(l:List Value)(H:Heap):jC prog Tryz.f51 l H=some (get l 2):=rfl
theorem c9a(l:List Value)(H:Heap):jC prog Tryz.f52 l H=some (.tuple #[]):=rfl
theorem c5M(l:List Value)(H:Heap):jC prog Tryz.f54 l H=(oP (kM prog 26) (jD prog 26) H (get l 6)).bind fun v=>if(kE v&&(kE (get l 7)&&true))=true then some (.tuple #[v,get l 7])else none:=by
 show(Option.bind (Option.bind (mA prog H 26 (get l 6)) fun v=>some [v,get l 7]) fun vs=>_)=_
 rw[lH]
 cases oP _ _ H (get l 6)<;>rfl
theorem c9v(l:List Value)(H:Heap):jC prog Tryz.f55 l H=some (get l 4):=rfl
theorem c4C(l:List Value)(H:Heap):jC prog Tryz.f56 l H=if(kE (get l 4)&&(kE (get l 5)&&true))=true then some (.tuple #[get l 4,get l 5])else none:=rfl
theorem c9B(l:List Value)(H:Heap):jC prog Tryz.f58 l H=some (get l 2):=rfl
theorem c9p(l:List Value)(H:Heap):jC prog Tryz.f61 l H=some (get l 4):=rfl
theorem d0f(l:List Value)(H:Heap):jC prog Tryz.f63 l H=some (get l 4):=rfl
theorem c5n(l:List Value)(H:Heap):jC prog Tryz.f64 l H=some (get l 2):=rfl
theorem c2w(l:List Value)(H:Heap):jC prog Tryz.f65 l H=if(kE (get l 6)&&(kE (get l 7)&&true))=true then some (.tuple #[get l 6,get l 7])else none:=rfl
theorem d0q(l:List Value)(H:Heap):jC prog Tryz.f66 l H=some (get l 4):=rfl
theorem d0w(l:List Value)(H:Heap):jC prog Tryz.f67 l H=some (get l 4):=rfl
theorem c0N(l:List Value)(H:Heap):jC prog Tryz.f68 l H=some (get l 6):=rfl
theorem d0A(l:List Value)(H:Heap):jC prog Tryz.f69 l H=some (get l 2):=rfl
theorem d0u(l:List Value)(H:Heap):jC prog Tryz.f81 l H=oP (kM prog 121) (jD prog 121) H (get l 2):=by
 show(Option.bind (Option.bind (mA prog H 121 (get l 2)) fun v=>some [v]) fun vs=>_)=_
 rw[lH]
 cases oP _ _ H (get l 2)<;>rfl
theorem c9J(l:List Value)(H:Heap):jC prog Tryz.f82 l H=oP (kM prog 105) (jD prog 105) H (get l 7):=by
 show(Option.bind (Option.bind (mA prog H 105 (get l 7)) fun v=>some [v]) fun vs=>_)=_
 rw[lH]
 cases oP _ _ H (get l 7)<;>rfl
theorem d0E(l:List Value)(H:Heap):jC prog Tryz.f83 l H=(oP (kM prog 73) (jD prog 73) H (get l 2)).bind fun v=>if(kE v&&(kE (get l 3)&&true))=true then some (.tuple #[v,get l 3])else none:=by
 show(Option.bind (Option.bind (mA prog H 73 (get l 2)) fun v=>some [v,get l 3]) fun vs=>_)=_
 rw[lH]
 cases oP _ _ H (get l 2)<;>rfl
theorem c9M(l:List Value)(H:Heap):jC prog Tryz.f84 l H=some (get l 2):=rfl
theorem c9A(l:List Value)(H:Heap):jC prog Tryz.f85 l H=oP (kM prog 121) (jD prog 121) H (get l 4):=by
 show(Option.bind (Option.bind (mA prog H 121 (get l 4)) fun v=>some [v]) fun vs=>_)=_
 rw[lH]
 cases oP _ _ H (get l 4)<;>rfl
theorem b2x(l:List Value)(H:Heap):jC prog Tryz.f86 l H=oP (kM prog 129) (jD prog 129) H (get l 8):=by
 show(Option.bind (Option.bind (mA prog H 129 (get l 8)) fun v=>some [v]) fun vs=>_)=_
 rw[lH]
 cases oP _ _ H (get l 8)<;>rfl
theorem b5a(l:List Value)(H:Heap):jC prog Tryz.f87 l H=some (get l 2):=rfl
theorem b0t(l:List Value)(H:Heap):jC prog Tryz.f88 l H=some (get l 2):=rfl
theorem c8k(l:List Value)(H:Heap):jC prog Tryz.f89 l H=some (get l 4):=rfl
theorem b6B(l:List Value)(H:Heap):jC prog Tryz.f90 l H=some (get l 4):=rfl
theorem a1C(l:List Value)(H:Heap):jC prog Tryz.f91 l H=some (get l 4):=rfl
theorem c9t(l:List Value)(H:Heap):jC prog Tryz.f92 l H=(oP (kM prog 73) (jD prog 73) H (get l 2)).bind fun v=>if(kE v&&(kE (get l 3)&&true))=true then some (.tuple #[v,get l 3])else none:=by
 show(Option.bind (Option.bind (mA prog H 73 (get l 2)) fun v=>some [v,get l 3]) fun vs=>_)=_
 rw[lH]
 cases oP _ _ H (get l 2)<;>rfl
theorem c9V(l:List Value)(H:Heap):jC prog Tryz.f93 l H=some (get l 4):=rfl
theorem d0v(l:List Value)(H:Heap):jC prog Tryz.f94 l H=some (get l 4):=rfl
theorem b2t(l:List Value)(H:Heap):jC prog Tryz.f95 l H=(oP (kM prog 23) (jD prog 23) H (get l 8)).bind fun v=>if(kE v&&(kE (get l 9)&&true))=true then some (.tuple #[v,get l 9])else none:=by
 show(Option.bind (Option.bind (mA prog H 23 (get l 8)) fun v=>some [v,get l 9]) fun vs=>_)=_
 rw[lH]
 cases oP _ _ H (get l 8)<;>rfl
theorem c7g(l:List Value)(H:Heap):jC prog Tryz.f96 l H=some (get l 2):=rfl
theorem c7Y(l:List Value)(H:Heap):jC prog Tryz.f97 l H=some (get l 2):=rfl
theorem c4s(l:List Value)(H:Heap):jC prog Tryz.f104 l H=some (get l 4):=rfl
theorem c3G(l:List Value)(H:Heap):jC prog Tryz.f106 l H=some (get l 4):=rfl
theorem c8X(l:List Value)(H:Heap):jC prog Tryz.f107 l H=some (get l 4):=rfl
theorem c7j(l:List Value)(H:Heap):jC prog Tryz.f108 l H=some (get l 6):=rfl
theorem c7d(l:List Value)(H:Heap):jC prog Tryz.f109 l H=some (get l 2):=rfl
theorem c8q(l:List Value)(H:Heap):jC prog Tryz.f110 l H=some (get l 2):=rfl
theorem c8d(l:List Value)(H:Heap):jC prog Tryz.f112 l H=some (get l 2):=rfl
theorem c4g(l:List Value)(H:Heap):jC prog Tryz.f113 l H=oP (kM prog 73) (jD prog 73) H (get l 4):=by
 show(Option.bind (Option.bind (mA prog H 73 (get l 4)) fun v=>some [v]) fun vs=>_)=_
 rw[lH]
 cases oP _ _ H (get l 4)<;>rfl
theorem c6U(l:List Value)(H:Heap):jC prog Tryz.f119 l H=oP (kM prog 119) (jD prog 119) H (get l 2):=by
 show(Option.bind (Option.bind (mA prog H 119 (get l 2)) fun v=>some [v]) fun vs=>_)=_
 rw[lH]
 cases oP _ _ H (get l 2)<;>rfl
theorem c8T(l:List Value)(H:Heap):jC prog Tryz.f120 l H=oP (kM prog 119) (jD prog 119) H (get l 2):=by
 show(Option.bind (Option.bind (mA prog H 119 (get l 2)) fun v=>some [v]) fun vs=>_)=_
 rw[lH]
 cases oP _ _ H (get l 2)<;>rfl
theorem c9c(l:List Value)(H:Heap):jC prog Tryz.f121 l H=if(kE (get l 4)&&(kE (get l 5)&&true))=true then some (.tuple #[get l 4,get l 5])else none:=rfl
theorem a9P(l:List Value)(H:Heap):jC prog Tryz.f122 l H=some (get l 2):=rfl
theorem a7A(l:List Value)(H:Heap):jC prog Tryz.f123 l H=some (get l 2):=rfl
theorem c4j(l:List Value)(H:Heap):jC prog Tryz.f124 l H=some (get l 2):=rfl
theorem c4t(l:List Value)(H:Heap):jC prog Tryz.f125 l H=some (get l 2):=rfl
theorem b2C(l:List Value)(H:Heap):jC prog Tryz.f126 l H=some (get l 2):=rfl
theorem vV(l:List Value)(H:Heap):jC prog Tryz.f127 l H=some (get l 4):=rfl
theorem c8I(l:List Value)(H:Heap):jC prog Tryz.f128 l H=some (get l 4):=rfl
theorem c8B(l:List Value)(H:Heap):jC prog Tryz.f129 l H=some (get l 3):=rfl
theorem c7Z(l:List Value)(H:Heap):jC prog Tryz.f130 l H=oP (kM prog 73) (jD prog 73) H (get l 4):=by
 show(Option.bind (Option.bind (mA prog H 73 (get l 4)) fun v=>some [v]) fun vs=>_)=_
 rw[lH]
 cases oP _ _ H (get l 4)<;>rfl
theorem c3U(l:List Value)(H:Heap):jC prog Tryz.f151 l H=some (get l 4):=rfl
theorem c3F(l:List Value)(H:Heap):jC prog Tryz.f152 l H=oP (kM prog 179) (jD prog 179) H (get l 4):=by
 show(Option.bind (Option.bind (mA prog H 179 (get l 4)) fun v=>some [v]) fun vs=>_)=_
 rw[lH]
 cases oP _ _ H (get l 4)<;>rfl
theorem b3e(l:List Value)(H:Heap):jC prog Tryz.f153 l H=(oP (kM prog 54) (jD prog 54) H (get l 6)).bind fun v=>if(kE v&&(kE (get l 7)&&true))=true then some (.tuple #[v,get l 7])else none:=by
 show(Option.bind (Option.bind (mA prog H 54 (get l 6)) fun v=>some [v,get l 7]) fun vs=>_)=_
 rw[lH]
 cases oP _ _ H (get l 6)<;>rfl
theorem c7w(l:List Value)(H:Heap):jC prog Tryz.f154 l H=some (get l 2):=rfl
theorem c8c(l:List Value)(H:Heap):jC prog Tryz.f155 l H=some (get l 4):=rfl
theorem c8P(l:List Value)(H:Heap):jC prog Tryz.f156 l H=some (.tuple #[]):=rfl
theorem c7l(l:List Value)(H:Heap):jC prog Tryz.f157 l H=some (get l 2):=rfl
theorem c0b(l:List Value)(H:Heap):jC prog Tryz.f161 l H=some (get l 2):=rfl
theorem a8I(l:List Value)(H:Heap):jC prog Tryz.f163 l H=some (get l 4):=rfl
theorem c8a(l:List Value)(H:Heap):jC prog Tryz.f165 l H=some (get l 4):=rfl
theorem b7v(l:List Value)(H:Heap):jC prog Tryz.f166 l H=some (get l 2):=rfl
theorem c3Q(l:List Value)(H:Heap):jC prog Tryz.f167 l H=some (get l 4):=rfl
theorem c6Z(l:List Value)(H:Heap):jC prog Tryz.f168 l H=some (get l 4):=rfl
theorem a4L(l:List Value)(H:Heap):jC prog Tryz.f169 l H=some (get l 2):=rfl
theorem c7A(l:List Value)(H:Heap):jC prog Tryz.f170 l H=some (get l 4):=rfl
theorem c4n(l:List Value)(H:Heap):jC prog Tryz.f171 l H=some (get l 2):=rfl
theorem b9T(l:List Value)(H:Heap):jC prog Tryz.f172 l H=some (get l 2):=rfl
theorem a3Y(l:List Value)(H:Heap):jC prog Tryz.f173 l H=some (get l 4):=rfl
theorem c4a(l:List Value)(H:Heap):jC prog Tryz.f174 l H=some (get l 4):=rfl
theorem c3C(l:List Value)(H:Heap):jC prog Tryz.f185 l H=some (get l 4):=rfl
theorem c3N(l:List Value)(H:Heap):jC prog Tryz.f186 l H=some (get l 3):=rfl
theorem c7B(l:List Value)(H:Heap):jC prog Tryz.f187 l H=some (get l 4):=rfl
theorem c9b(l:List Value)(H:Heap):jC prog Tryz.f195 l H=some (get l 4):=rfl
theorem c3B(l:List Value)(H:Heap):jC prog Tryz.f196 l H=some (get l 2):=rfl
theorem c4o(l:List Value)(H:Heap):jC prog Tryz.f197 l H=some (get l 4):=rfl
theorem c7y(l:List Value)(H:Heap):jC prog Tryz.f198 l H=some (get l 4):=rfl
theorem c3L(l:List Value)(H:Heap):jC prog Tryz.f229 l H=some (get l 4):=rfl
theorem wZ:MapK prog 136 (fun p:Int×Int=>.agg #[I p.1,I p.2]) (.int .i64 0):=MapK.struct (kt:=23) (et:=3) (fs:=(a1d prog 23).toArray) (by kernel_rfl) (by kernel_rfl) (by kernel_rfl) rfl (fun b k=>by cases b<;>kernel_rfl) (fun a b=>c4K (by kernel_rfl) (by kernel_rfl) (by kernel_rfl) (fun _ _ _ _=>by kernel_rfl) a b) (fun k=>c5x k)
theorem a8R:MapK prog 193 Value.string (.bool false):=MapK.str (kt:=9) (et:=4) (by kernel_rfl) (by kernel_rfl) (by kernel_rfl) rfl
theorem tt0:kM prog 3=some false∧kM prog 4=some false∧kM prog 5=some false∧jD prog 5=some 1∧kM prog 9=some false∧jD prog 9=some 1∧kM prog 23=some true∧kM prog 24=some false∧kM prog 26=some true∧kM prog 30=some false∧jD prog 30=some 1∧kM prog 31=some false∧jD prog 31=some 1∧kM prog 32=some false∧jD prog 32=some 1∧kM prog 34=some true∧kM prog 35=some true∧kM prog 36=some false∧jD prog 36=some 1∧kM prog 37=some true∧kM prog 39=some true∧kM prog 40=some false∧jD prog 40=some 1∧kM prog 42=some false∧kM prog 43=some false∧kM prog 44=some false∧kM prog 46=some true∧kM prog 47=some false∧kM prog 48=some false∧kM prog 50=some true∧kM prog 52=some false∧jD prog 52=some 1∧kM prog 54=some true∧kM prog 56=some true∧kM prog 63=some true∧kM prog 73=some true∧kM prog 75=some false∧kM prog 102=some true∧kM prog 103=some false∧kM prog 105=some true:=by and_intros<;>kernel_rfl
theorem tt1:kM prog 113=some false∧jD prog 113=some 1∧kM prog 115=some true∧kM prog 119=some true∧kM prog 121=some true∧kM prog 127=some false∧kM prog 129=some true∧kM prog 131=some true∧kM prog 136=some false∧jD prog 136=some 1∧kM prog 139=some true∧kM prog 176=some true∧kM prog 177=some false∧jD prog 177=some 1∧kM prog 179=some true∧kM prog 184=some false∧jD prog 184=some 1∧kM prog 186=some true∧kM prog 189=some true∧kM prog 191=some true∧kM prog 240=some true∧jU prog 24=some 1∧jU prog 30=some 9∧jU prog 31=some 4∧jU prog 32=some 4∧jU prog 40=some 3∧jU prog 42=some 6∧jU prog 43=some 5∧jU prog 44=some 5∧jU prog 47=some 1∧jU prog 52=some 2∧jU prog 75=some 6∧jU prog 97=some 2∧jU prog 103=some 4∧jU prog 113=some 4∧jU prog 124=some 1∧jU prog 125=some 1∧jU prog 126=some 2∧jU prog 127=some 3∧jU prog 140=some 2:=by and_intros<;>kernel_rfl
theorem tt2:jU prog 154=some 1∧jU prog 177=some 2∧jU prog 274=some 2∧mG prog 24=true∧mG prog 40=true∧mG prog 42=true∧mG prog 43=true∧mG prog 44=true∧mG prog 47=true∧mG prog 52=true∧mG prog 75=true∧mG prog 97=true∧mG prog 103=true∧mG prog 124=true∧mG prog 125=true∧mG prog 126=true∧mG prog 127=true∧mG prog 140=true∧mG prog 154=true∧mG prog 177=true∧mG prog 274=true∧jU prog 9=none∧qC prog 9=true∧jM prog 23 0=some 0∧jM prog 23 1=some 1∧jM prog 26 0=some 0∧jM prog 26 1=some 2∧jM prog 26 2=some 3∧jM prog 26 3=some 5∧jM prog 34 0=some 0∧jM prog 34 1=some 1∧jM prog 34 2=some 2∧jM prog 39 0=some 0∧jM prog 39 1=some 5∧jM prog 39 2=some 8∧jM prog 39 3=some 9∧jM prog 46 0=some 0∧jM prog 46 1=some 1∧jM prog 46 2=some 2∧jM prog 46 3=some 3:=by and_intros<;>kernel_rfl
theorem tt3:jM prog 50 0=some 0∧jM prog 50 1=some 1∧jM prog 50 2=some 2∧jM prog 54 0=some 0∧jM prog 54 1=some 1∧jM prog 56 0=some 0∧jM prog 56 1=some 4∧jM prog 56 2=some 7∧jM prog 56 3=some 8∧jM prog 63 0=some 0∧jM prog 63 1=some 1∧jM prog 63 2=some 2∧jM prog 73 0=some 0∧jM prog 73 1=some 1∧jM prog 102 0=some 0∧jM prog 102 1=some 1∧jM prog 105 0=some 0∧jM prog 105 2=some 2∧jM prog 105 3=some 4∧jM prog 115 0=some 0∧jM prog 115 1=some 1∧jM prog 115 2=some 2∧jM prog 115 3=some 3∧jM prog 119 0=some 0∧jM prog 119 1=some 1∧jM prog 121 0=some 0∧jM prog 121 1=some 1∧jM prog 121 2=some 2∧jM prog 121 3=some 4∧jM prog 121 4=some 5∧jM prog 129 0=some 0∧jM prog 129 1=some 1∧jM prog 129 2=some 3∧jM prog 131 0=some 0∧jM prog 131 1=some 1∧jM prog 131 2=some 2∧jM prog 131 3=some 3∧jM prog 131 4=some 4∧jM prog 139 0=some 0∧jM prog 139 1=some 10:=by and_intros<;>kernel_rfl
theorem tt4:jM prog 139 2=some 11∧jM prog 139 3=some 12∧jM prog 176 0=some 0∧jM prog 176 1=some 1∧jM prog 179 0=some 0∧jM prog 179 1=some 1∧jM prog 179 2=some 2∧jM prog 186 0=some 0∧jM prog 186 1=some 1∧jM prog 186 2=some 2∧jM prog 186 3=some 3∧jM prog 186 4=some 4∧jM prog 189 0=some 0∧jM prog 189 1=some 1∧jM prog 189 2=some 2∧jM prog 189 3=some 3∧jM prog 191 0=some 0∧jM prog 191 1=some 1∧jM prog 191 2=some 2∧jM prog 191 3=some 3∧jM prog 240 0=some 0∧jM prog 240 1=some 1∧jZ prog 23=some (.agg #[.int .i64 0,.int .i64 0])∧kR prog 23=none∧jZ prog 26=some (.agg #[.int .i64 0,.int .i64 0,.slice none 0 0,.int .i64 0,.int .i64 0,.int .i64 0])∧kR prog 26=none∧jZ prog 46=some (.agg #[.string ⟨#[]⟩,.slice none 0 0,.slice none 0 0,.slice none 0 0])∧kR prog 46=none∧jZ prog 50=some (.agg #[.slice none 0 0,.int .u64 0,.int .u64 0])∧kR prog 50=none∧jZ prog 54=some (.agg #[.int .i64 0,.int .i64 0])∧kR prog 54=none∧jZ prog 56=some (.agg #[.string ⟨#[]⟩,.slice none 0 0,.slice none 0 0,.slice none 0 0,.slice none 0 0,.int .u64 0,.int .u64 0,.slice none 0 0,.int .i64 0,.int .i64 0])∧kR prog 56=none∧jZ prog 63=some (.agg #[.int .i64 0,.int .i64 0,.int .i64 0])∧kR prog 63=none∧jZ prog 73=some (.agg #[.int .u64 0,.int .u64 0])∧kR prog 73=none∧jZ prog 102=some (.agg #[.int .i64 0,.int .i64 0])∧kR prog 102=none:=by and_intros<;>kernel_rfl
theorem tt5:jZ prog 105=some (.agg #[.string ⟨#[]⟩,.bool false,.int .i64 0,.int .i64 0,.slice none 0 0])∧kR prog 105=none∧jZ prog 115=some (.agg #[.int .u8 0,.int .u8 0,.bool false,.slice none 0 0])∧kR prog 115=none∧jZ prog 119=some (.agg #[.int .i64 0,.int .i64 0])∧kR prog 119=none∧jZ prog 121=some (.agg #[.string ⟨#[]⟩,.string ⟨#[]⟩,.int .i64 0,.int .i64 0,.int .i64 0,.slice none 0 0])∧kR prog 121=none∧jZ prog 129=some (.agg #[.string ⟨#[]⟩,.int .i64 0,.int .i64 0,.slice none 0 0])∧kR prog 129=none∧jZ prog 131=some (.agg #[.string ⟨#[]⟩,.int .i64 0,.int .i64 0,.int .i64 0,.bool false])∧kR prog 131=none∧jZ prog 176=some (.agg #[.int .i64 0,.int .i64 0])∧kR prog 176=none∧jZ prog 179=some (.agg #[.int .i64 0,.int .i64 0,.slice none 0 0])∧kR prog 179=none∧jZ prog 191=some (.agg #[.int .u8 0,.int .u8 0,.int .i8 0,.bool false])∧kR prog 191=none∧a2u prog 3=some .i64∧a2u prog 5=some .u8∧a2u prog 48=some .u64∧a2u prog 64=some .u64∧a2u prog 184=some .i8:=by and_intros<;>kernel_rfl
def TS:=(And.intro (And.intro (And.intro (And.intro (And.intro @tt0 (And.intro @tt1 @tt2)) (And.intro (And.intro @tt3 @tt4) (And.intro @tt5 @tS3))) (And.intro (And.intro @tS4 (And.intro @mK @b3S)) (And.intro (And.intro @qP @c0n) (And.intro @c7i @c6S)))) (And.intro (And.intro (And.intro @c5O (And.intro @c7h @c8i)) (And.intro (And.intro @c1d @yG) (And.intro @c5T @b1u))) (And.intro (And.intro @rJ (And.intro @zX @qE)) (And.intro (And.intro @a2n @pE) (And.intro @c5E @rN))))) (And.intro (And.intro (And.intro (And.intro @c4b (And.intro @rR @b3y)) (And.intro (And.intro @tW @vX) (And.intro @yS @rQ))) (And.intro (And.intro @yU (And.intro @c4r @a2f)) (And.intro (And.intro @a3E @b7G) (And.intro @b8S @b3J)))) (And.intro (And.intro (And.intro @b2N (And.intro @c9S @d0B)) (And.intro (And.intro @c8N @c6Q) (And.intro @c7I @c7x))) (And.intro (And.intro @c7T (And.intro @c8W @c6O)) (And.intro (And.intro @c8e @c7F) (And.intro @c4I @c5y))))))
def RZ:=And.intro @RB (And.intro @RC @TS)
end Go.Ds
namespace Go.Ds
open Go.Proofs
variable {P:Program} {H:Heap}
structure Drw where
 rank:Int
 shift:Int
 deriving DecidableEq,Inhabited
structure Seg where
 lo:Int
 hi:Int
 dv:Value
 draws:List Drw
 deriving Inhabited
structure Stp where
 name:ByteArray
 num:Int
 den:Int
 gv:Value
 segs:List Seg
 deriving Inhabited
structure Dvn where
 name:ByteArray
 pedal:Bool
 lo:Int
 hi:Int
 sv:Value
 stops:List Stp
 deriving Inhabited
structure Rk where
 name:ByteArray
 tone:ByteArray
 num:Int
 den:Int
 first:Int
 wv:Value
 wind:List Int
 deriving Inhabited
structure Cpl where
 name:ByteArray
 src:Int
 dst:Int
 shift:Int
 thr:Bool
 deriving Inhabited
structure Org where
 name:ByteArray
 rv:Value
 ranks:List Rk
 dv:Value
 dvs:List Dvn
 cv:Value
 cpls:List Cpl
 deriving Inhabited
def Drw.cells(d:Drw):List Value:=[I d.rank,I d.shift]
def Seg.cells(s:Seg):List Value:=[I s.lo,I s.hi,s.dv]
def Stp.cells(s:Stp):List Value:=[.string s.name,I s.num,I s.den,s.gv]
def Dvn.cells(d:Dvn):List Value:=[.string d.name,.bool d.pedal,I d.lo,I d.hi,d.sv]
def Rk.cells(r:Rk):List Value:=[.string r.name,.string r.tone,I r.num,I r.den,I r.first,r.wv]
def Cpl.cells(c:Cpl):List Value:=[.string c.name,I c.src,I c.dst,I c.shift,.bool c.thr]
def Org.cells(o:Org):List Value:=[.string o.name,o.rv,o.dv,o.cv]
def Seg.In(H:Heap)(s:Seg):Prop:=Sl 2 Drw.cells H s.dv s.draws∧s.draws.length<1000000000
def Stp.In(H:Heap)(s:Stp):Prop:=Sl 3 Seg.cells H s.gv s.segs∧(∀g∈s.segs,g.In H)∧s.segs.length<1000000000
def Dvn.In(H:Heap)(d:Dvn):Prop:=Sl 4 Stp.cells H d.sv d.stops∧(∀s∈d.stops,s.In H)∧d.stops.length<1000000000
def Rk.In(H:Heap)(r:Rk):Prop:=Sl 1 (one I) H r.wv r.wind∧r.wind.length<1000000000
def Org.In(H:Heap)(o:Org):Prop:=Sl 6 Rk.cells H o.rv o.ranks∧(∀r∈o.ranks,r.In H)∧Sl 5 Dvn.cells H o.dv o.dvs∧(∀d∈o.dvs,d.In H)∧Sl 5 Cpl.cells H o.cv o.cpls∧o.ranks.length<1000000000∧o.dvs.length<1000000000∧o.cpls.length<1000000000
section
variable {H0:Heap} {os:List Ob}
theorem Seg.In.aj{s:Seg}(h:s.In H0)(hS:St P H0 H os):s.In H:=⟨hS.sl h.1,h.2⟩
theorem Stp.In.aj{s:Stp}(h:s.In H0)(hS:St P H0 H os):s.In H:=⟨hS.sl h.1,fun g hg=>(h.2.1 g hg).aj hS,h.2.2⟩
theorem Dvn.In.aj{d:Dvn}(h:d.In H0)(hS:St P H0 H os):d.In H:=⟨hS.sl h.1,fun g hg=>(h.2.1 g hg).aj hS,h.2.2⟩
theorem Rk.In.aj{r:Rk}(h:r.In H0)(hS:St P H0 H os):r.In H:=⟨hS.sl h.1,h.2⟩
theorem Org.In.aj{o:Org}(h:o.In H0)(hS:St P H0 H os):o.In H:=⟨hS.sl h.1,fun r hr=>(h.2.1 r hr).aj hS,hS.sl h.2.2.1,fun d hd=>(h.2.2.2.1 d hd).aj hS,hS.sl h.2.2.2.2.1,h.2.2.2.2.2⟩
end
def c6K(n:Int):Prop:=-9223372036854775808≤n∧n<9223372036854775808
end Go.Ds
namespace Go.Ds
open Go.Proofs Go.Proofs.Tryz
variable {H:Heap}
def rY(b:Int):Bool:=(decide (65≤b)&&decide (b≤90))||(decide (97≤b)&&decide (b≤122))
theorem a5d(b:Int):Fn prog 122 [.int .u8 b] H fun r H'=>r=.bool (rY b)∧St prog H H' []:=by
 refine .aN func122 rfl (by kernel_rfl) (m:=17) rfl fun l hn g0=> ?_
 simp(disch:=omega) only[↓RA,RZ,simprocAttr,hn,g0]
 refine jY (fun h1=> ?_) (fun h1=> ?_)
 ·simp(disch:=omega) only[↓RA,RZ,simprocAttr,hn,g0,h1]
  refine jI (fun h2=> ?_) (fun h2=> ?_)
  ·simp(disch:=omega) only[↓RA,RZ,simprocAttr,hn,a9P,h1,h2]
   first|exact(sR H)|exact⟨by simp[rY,h1,h2],(sR H)⟩
  simp(disch:=omega) only[↓RA,RZ,simprocAttr,hn,g0,h1,h2]
  refine jY (fun h3=> ?_) (fun h3=> ?_)
  ·simp(disch:=omega) only[↓RA,RZ,simprocAttr,hn,g0,a9P,h1,h2,h3]
   first|exact(sR H)|exact⟨by simp[rY,h1,h2,h3],(sR H)⟩
  simp(disch:=omega) only[↓RA,RZ,simprocAttr,hn,a9P,h1,h2,h3]
  first|exact(sR H)|exact⟨by simp[rY,h1,h2,h3],(sR H)⟩
 simp(disch:=omega) only[↓RA,RZ,simprocAttr,hn,g0,h1]
 refine jY (fun h4=> ?_) (fun h4=> ?_)
 ·simp(disch:=omega) only[↓RA,RZ,simprocAttr,hn,g0,a9P,h1,h4]
  first|exact(sR H)|exact⟨by simp[rY,h1,h4],(sR H)⟩
 simp(disch:=omega) only[↓RA,RZ,simprocAttr,hn,a9P,h1,h4]
 first|exact(sR H)|exact⟨by simp[rY,h1,h4],(sR H)⟩
theorem b9E(b:Int):Fn prog 124 [I b] H fun r H'=>r=.bool (decide (-256≤b)&&decide (b≤256))∧St prog H H' []:=by
 refine .aN func124 rfl (by kernel_rfl) (m:=9) rfl fun l hn g0=> ?_
 simp(disch:=omega) only[↓RA,RZ,simprocAttr,hn,g0]
 refine jY (fun h1=> ?_) (fun h1=> ?_)
 ·simp(disch:=omega) only[↓RA,RZ,simprocAttr,hn,g0,c4j,h1]
  first|exact(sR H)|exact⟨by simp[h1],(sR H)⟩
 simp(disch:=omega) only[↓RA,RZ,simprocAttr,hn,c4j,h1]
 first|exact(sR H)|exact⟨by simp[],(sR H)⟩
theorem b9w(b:Int):Fn prog 171 [I b] H fun r H'=>r=.bool (decide (b<0)||decide (1000000<b))∧St prog H H' []:=by
 refine .aN func171 rfl (by kernel_rfl) (m:=9) rfl fun l hn g0=> ?_
 simp(disch:=omega) only[↓RA,RZ,simprocAttr,hn,g0]
 refine jI (fun h1=> ?_) (fun h1=> ?_)
 ·simp(disch:=omega) only[↓RA,RZ,simprocAttr,hn,c4n,h1]
  first|exact(sR H)|exact⟨by simp[],(sR H)⟩
 simp(disch:=omega) only[↓RA,RZ,simprocAttr,hn,g0,c4n,h1]
 first|exact(sR H)|exact⟨by simp[],(sR H)⟩
theorem a6L(n:Int)(h: -9223372036854775808≤n)(h0:n<0):IntKind.wrap .u64 (0-IntKind.wrap .u64 n)=n.natAbs:=by
 have e:∀m:Int,IntKind.wrap .u64 m=m%18446744073709551616:=fun m=>by
  show(if(false&&decide (m%18446744073709551616≥9223372036854775808))=true then m%18446744073709551616-18446744073709551616 else m%18446744073709551616)=_
  simp
 rw[e,e]
 omega
theorem a6V(n:Int)(hn0:c6K n):Fn prog 196 [I n] H fun r H'=>r=.int .u64 n.natAbs∧St prog H H' []:=by
 refine .aN func196 rfl (by kernel_rfl) (m:=10) rfl fun l hn g0=> ?_
 simp(disch:=omega) only[↓RA,RB,simprocAttr,hn,g0]
 refine jA (fun h=> ?_) (fun h=> ?_)
 ·simp(disch:=omega) only[↓RA,RZ,simprocAttr,hn,g0,c3B,h]
  exact⟨by rw[a6L n hn0.1 h],(sR H)⟩
 simp(disch:=omega) only[↓RA,RZ,simprocAttr,hn,g0,c3B,h]
 refine⟨?_,(sR H)⟩
 have:=hn0.2
 rw[pZ n (by omega) (by omega)]
 congr 1
 omega
theorem c5w(a b:Nat)(ha:a<18446744073709551616)(hb:b<18446744073709551616):Fn prog 195 [.int .u64 a,.int .u64 b] H fun r H'=>r=.int .u64 (Nat.gcd a b)∧St prog H H' []:=by
 refine .aE func195 rfl (by kernel_rfl) (m:=12) rfl fun l hn g0 g1=> ?_
 simp(disch:=omega) only[↓RA,RB,simprocAttr]
 refine Wp.al (fun n l H'=>l.length=12∧get l 4=(.int .u64 0)∧∃(x y:Nat),(n=y∧x<18446744073709551616∧y<18446744073709551616∧Nat.gcd a b=Nat.gcd x y)∧get l 0=(.int .u64 x)∧get l 1=(.int .u64 y)∧St prog H H' []) b ?_ ?_
 ·simp(disch:=omega) only[RB,RC,simprocAttr,hn,g0,g1]
  exact⟨a,b,⟨rfl,ha,hb,rfl⟩,rfl,rfl,(sR H)⟩
 rintro n l H1⟨hn,g4,x,y,⟨hy,hx1,hy1,hg⟩,g0,g1,hS1⟩
 simp(disch:=omega) only[↓RA,RB,simprocAttr,hn,g1]
 refine jA (fun h=> ?_) (fun h=> ?_)
 ·simp(disch:=omega) only[↓RA,RC,simprocAttr,h]
  refine Wp.drw kP (by kernel_rfl) ?_
  simp(disch:=omega) only[↓RA,RZ,simprocAttr,hn,g4,g0,g1]
  refine⟨x%y,?_,y,x%y,⟨rfl,hy1,?_,?_⟩,rfl,?_,hS1⟩
  ·rw[hy];exact fm _ (by omega)
  ·exact eo (fm _ (by omega)) (by omega)
  ·rw[hg,Nat.gcd_comm x y,Nat.gcd_rec]
   exact Nat.gcd_comm _ _
  ·rw[fg]
 simp(disch:=omega) only[↓RA,RZ,simprocAttr,hn,g0,c9b,h]
 have h0:y=0:=by omega
 subst h0
 exact⟨by rw[hg,Nat.gcd_zero_right],hS1⟩
theorem c0O(a b:Int)(ha0:0≤a)(ha:a<18446744073709551616)(hb0:0≤b)(hb:b<18446744073709551616):Fn prog 195 [.int .u64 a,.int .u64 b] H fun r H'=>r=.int .u64 (Nat.gcd a.toNat b.toNat)∧St prog H H' []:=by
 have:=c5w (H:=H) a.toNat b.toNat (by omega) (by omega)
 rwa [gp ha0,gp hb0]at this
def yN(num den:Int):Int:=if 0<den∧den≤1000000∧-1000000≤num∧num≤1000000∧Nat.gcd num.natAbs den.toNat=1 then 0 else 2
theorem c2V(num den:Int):Fn prog 169 [.agg #[I num,I den]] H fun r H'=>r=I (yN num den)∧St prog H H' []:=by
 refine .aN func169 rfl (by kernel_rfl) (m:=31) rfl fun l hn g0=> ?_
 simp(disch:=omega) only[↓RA,RB,simprocAttr,g0]
 refine(sR H).eNew 2 [I num,I den] rfl rfl rfl tW fun A1 H1 hS1=> ?_
 simp only[RT]at hS1
 simp(disch:=omega) only[↓RA,RB,simprocAttr]
 refine Wp.aK kP [(23,0),(24,0)] (by kernel_rfl) (by kernel_rfl) ?_
 simp(disch:=omega) only[↓RA,RZ,simprocAttr,hn,hS1.ld 0 rfl]
 refine jI (fun h1=> ?_) (fun h1=> ?_)
 ·simp(disch:=omega) only[↓RA,RZ,simprocAttr,hn,a4L,h1]
  refine⟨?_,hS1.forget⟩;unfold yN;(repeat' split);all_goals first|rfl|omega
 simp(disch:=omega) only[↓RA,RZ,simprocAttr,hn,hS1.ld 0 rfl,h1]
 refine jI (fun h2=> ?_) (fun h2=> ?_)
 ·simp(disch:=omega) only[↓RA,RZ,simprocAttr,hn,a4L,h1,h2]
  refine⟨?_,hS1.forget⟩;unfold yN;(repeat' split);all_goals first|rfl|omega
 simp(disch:=omega) only[↓RA,RZ,simprocAttr,hn,hS1.ld 0 rfl,h1,h2]
 refine jI (fun h3=> ?_) (fun h3=> ?_)
 ·simp(disch:=omega) only[↓RA,RZ,simprocAttr,hn,a4L,h1,h2,h3]
  refine⟨?_,hS1.forget⟩;unfold yN;(repeat' split);all_goals first|rfl|omega
 simp(disch:=omega) only[↓RA,RZ,simprocAttr,hn,hS1.ld 0 rfl,h1,h2,h3]
 refine jI (fun h4=> ?_) (fun h4=> ?_)
 ·simp(disch:=omega) only[↓RA,RZ,simprocAttr,hn,a4L,h1,h2,h3,h4]
  refine⟨?_,hS1.forget⟩;unfold yN;(repeat' split);all_goals first|rfl|omega
 simp(disch:=omega) only[↓RA,RZ,simprocAttr,hn,hS1.ld 0 rfl,h1,h2,h3,h4]
 refine hS1.cF (a6V num ⟨by omega,by omega⟩) fun H2 hS2=> ?_
 simp(disch:=omega) only[↓RA,RZ,simprocAttr,hn,hS2.ld 0 rfl,h1,h2,h3,h4]
 refine hS2.cF (c0O _ _ (by omega) (by omega) (by omega) (by omega)) fun H3 hS3=> ?_
 simp(disch:=omega) only[↓RA,RZ,simprocAttr,hn,hS1.ld 0 rfl,h1,h2,h3,h4]
 refine jA (fun h5=> ?_) (fun h5=> ?_)
 ·simp(disch:=omega) only[↓RA,RZ,simprocAttr,hn,a4L,h1,h2,h3,h4,h5]
  refine⟨?_,hS3.forget⟩;unfold yN;(repeat' split);all_goals first|rfl|omega
 simp(disch:=omega) only[↓RA,RZ,simprocAttr,hn,a4L,h1,h2,h3,h4,h5]
 refine⟨?_,hS3.forget⟩;unfold yN;(repeat' split);all_goals first|rfl|omega
def oS(num den:Int):Int:=if yN num den≠0 then 2 else if num≤0∨128*den<num then 3 else if 128<den then 4 else 0
theorem b6y{num den:Int}(h:yN num den=0):0<den∧den≤1000000∧-1000000≤num∧num≤1000000∧Nat.gcd num.natAbs den.toNat=1:=by
 unfold yN at h
 split at h
 ·assumption
 ·cases h
theorem a2I(num den:Int):Fn prog 123 [.agg #[I num,I den]] H fun r H'=>r=I (oS num den)∧St prog H H' []:=by
 refine .aN func123 rfl (by kernel_rfl) (m:=23) rfl fun l hn g0=> ?_
 simp(disch:=omega) only[↓RA,RB,simprocAttr,g0]
 refine(sR H).eNew 2 [I num,I den] rfl rfl rfl tW fun A1 H1 hS1=> ?_
 simp only[RT]at hS1
 simp(disch:=omega) only[↓RA,RZ,simprocAttr,hn,hS1.ae 0 rfl]
 refine hS1.cF (c2V num den) fun H2 hS2=> ?_
 simp(disch:=omega) only[↓RA,RB,simprocAttr,hn]
 refine jA (fun h=> ?_) (fun h=> ?_)
 ·simp(disch:=omega) only[↓RA,RZ,simprocAttr,hn,a7A,h]
  exact⟨by rw[oS,if_pos h],hS2.forget⟩
 have hf:=b6y (dQ.1 h)
 simp(disch:=omega) only[↓RA,RZ,simprocAttr,hn,hS2.ld 0 rfl,h]
 refine jI (fun h1=> ?_) (fun h1=> ?_)
 ·simp(disch:=omega) only[↓RA,RZ,simprocAttr,hn,a7A,h,h1]
  refine⟨?_,hS2.forget⟩;unfold oS;(repeat' split);all_goals first|rfl|omega
 simp(disch:=omega) only[↓RA,RZ,simprocAttr,hn,hS2.ld 0 rfl,h,h1]
 refine jA (fun h2=> ?_) (fun h2=> ?_)
 ·simp(disch:=omega) only[↓RA,RZ,simprocAttr,hn,a7A,h,h1,h2]
  refine⟨?_,hS2.forget⟩;unfold oS;(repeat' split);all_goals first|rfl|omega
 simp(disch:=omega) only[↓RA,RZ,simprocAttr,hn,hS2.ld 0 rfl,h,h1,h2]
 refine jA (fun h3=> ?_) (fun h3=> ?_)
 ·simp(disch:=omega) only[↓RA,RZ,simprocAttr,hn,a7A,h,h1,h2,h3]
  refine⟨?_,hS2.forget⟩;unfold oS;(repeat' split);all_goals first|rfl|omega
 simp(disch:=omega) only[↓RA,RZ,simprocAttr,hn,a7A,h,h1,h2,h3]
 refine⟨?_,hS2.forget⟩;unfold oS;(repeat' split);all_goals first|rfl|omega
def qK(p:Nat→Bool)(n:Nat):Int:=match (List.range n).find? p with|some j=>j|none=>-1
theorem yQ(p:Nat→Bool)(n i:Nat)(hi:i<n)(hp:p i=true)(h0:∀j,j<i→p j=false):(List.range n).find? p=some i:=by
 rw[List.find?_eq_some_iff_getElem]
 refine⟨hp,i,by simpa using hi,by simp,fun j hj=>by simp[h0 j hj]⟩
theorem uX(p:Nat→Bool)(n i:Nat)(hi:i<n)(hp:p i=true)(h0:∀j,j<i→p j=false):qK p n=i:=by
 unfold qK
 rw[yQ p n i hi hp h0]
theorem uM(p:Nat→Bool)(n:Nat)(h0:∀j,j<n→p j=false):qK p n=-1:=by
 unfold qK
 have:(List.range n).find? p=none:=by
  rw[gL]
  intro j hj
  simp[h0 j (dT.1 hj)]
 rw[this]
theorem xU(p:Nat→Bool)(n:Nat):(0≤qK p n)↔∃j,j<n∧p j=true:=by
 unfold qK
 cases h:(List.range n).find? p with
 | none=>
   rw[gL]at h
   simp only[dT]at h
   constructor
   ·intro hh;exact absurd hh (by decide)
   ·rintro⟨j,hj,hp⟩;exact absurd hp (h j hj)
 | some j=>
   constructor
   ·intro _
    exact⟨j,dT.1 (gR h),List.find?_some h⟩
   ·intro _;show(0:Int)≤(j:Int);omega
theorem c2S(v:Value)(xs:List Int)(hv:Sl 1 (one I) H v xs)(hl:xs.length<1000000000)(k:FuncId)(caps:List Value)(p:Nat→Bool)
 (hf:∀j H1,j<xs.length→St prog H H1 []→Fn prog k (I (jB xs j)::caps) H1 fun r H2=>r=.bool (p j)∧St prog H1 H2 []):
 Fn prog 197 [v,.func (.func k) #[] caps.toArray] H fun r H'=>r=I (qK p xs.length)∧St prog H H' []:=by
 refine .aE func197 rfl (by kernel_rfl) (m:=19) rfl fun l hn g0 g1=> ?_
 simp(disch:=omega) only[↓RA,RZ,simprocAttr,hn,g0,((sR H).sl hv).len]
 refine Wp.al (fun n l H'=>l.length=19∧get l 0=v∧get l 1=.func (.func k) #[] caps.toArray∧get l 7=I xs.length∧∃(j:Nat),(n+j=xs.length∧∀q,q<j→p q=false)∧get l 8=I j∧St prog H H' []) xs.length ?_ ?_
 ·simp(disch:=omega) only[RB,RC,simprocAttr,hn,g0,g1]
  exact⟨0,⟨by omega,fun q hq=>absurd hq (ed _)⟩,rfl,(sR H)⟩
 rintro n l H1⟨hn,g0,g1,g7,j,⟨hi,h0⟩,g8,hS1⟩
 simp(disch:=omega) only[↓RA,RB,simprocAttr,hn,g7,g8]
 refine jA (fun h=> ?_) (fun h=> ?_)
 ·simp(disch:=omega) only[↓RA,RZ,simprocAttr,hn,g0,g1,g8,(hS1.sl hv).idx,(hS1.sl hv).ld,one,h]
  refine hS1.cF (hf j _ (by omega) hS1) fun H2 hS2=> ?_
  simp(disch:=omega) only[↓RA,RZ,simprocAttr,hn,h]
  refine kA (fun hp=> ?_) (fun hp=> ?_)
  ·simp(disch:=omega) only[↓RA,RZ,simprocAttr,hn,c4o,h,hp]
   exact⟨by rw[uX p xs.length j (by omega) hp h0],hS2⟩
  simp(disch:=omega) only[↓RA,RZ,simprocAttr,hn,g0,g1,g7,g8,h,hp]
  exact⟨n-1,by omega,j+1,⟨by omega,fun q hq=>by rcases dJ.1 hq with e|e;(· exact h0 q e);(· rw[e];exact hp)⟩,by simp,hS2⟩
 simp(disch:=omega) only[↓RA,RZ,simprocAttr,hn,c4o,h]
 exact⟨by rw[uM p xs.length fun q hq=>h0 q (by omega)],hS1⟩
theorem c1v(v:Value)(xs:List Int)(hv:Sl 1 (one I) H v xs)(hl:xs.length<1000000000)(k:FuncId)(caps:List Value)(p:Nat→Bool)
 (hf:∀j H1,j<xs.length→St prog H H1 []→Fn prog k (I (jB xs j)::caps) H1 fun r H2=>r=.bool (p j)∧St prog H1 H2 []):
 Fn prog 170 [v,.func (.func k) #[] caps.toArray] H fun r H'=>r=.bool (decide (0≤qK p xs.length))∧St prog H H' []:=by
 refine .aE func170 rfl (by kernel_rfl) (m:=9) rfl fun l hn g0 g1=> ?_
 simp(disch:=omega) only[↓RA,RZ,simprocAttr,hn,g0,g1]
 refine(sR H).cF (c2S v xs hv hl k caps p hf) fun H1 hS1=> ?_
 simp(disch:=omega) only[↓RA,RZ,simprocAttr,hn,c7A]
 first|exact hS1|exact⟨rfl,hS1⟩
def a1x(xs:List Int):Int:=if xs.any fun w=>decide (w<0)||decide (1000000<w)then 3 else 0
theorem b7x(v:Value)(xs:List Int)(hv:Sl 1 (one I) H v xs)(hl:xs.length<1000000000):Fn prog 125 [v] H fun r H'=>r=I (a1x xs)∧St prog H H' []:=by
 have key:(0≤qK (fun j=>decide (jB xs j<0)||decide (1000000<jB xs j)) xs.length)↔(xs.any fun w=>decide (w<0)||decide (1000000<w))=true:=by
  rw[xU,iA]
  constructor
  ·rintro⟨j,hj,hp⟩;exact⟨_,jE hj,hp⟩
  ·rintro⟨x,hx,hp⟩
   obtain⟨j,hj,rfl⟩:=eI.1 hx
   exact⟨j,hj,by rw[kL xs j hj];exact hp⟩
 refine .aN func125 rfl (by kernel_rfl) (m:=5) rfl fun l hn g0=> ?_
 simp(disch:=omega) only[↓RA,RZ,simprocAttr,hn,g0]
 refine(sR H).cF (c1v v xs hv hl 171 [] _ (fun j H1 hj hS=>b9w (jB xs j))) fun H1 hS1=> ?_
 simp(disch:=omega) only[↓RA,RB,simprocAttr,hn]
 refine jA (fun h=> ?_) (fun h=> ?_)
 ·simp(disch:=omega) only[↓RA,RZ,simprocAttr,hn,c4t,h]
  exact⟨by rw[a1x,if_pos (key.1 h)],hS1⟩
 simp(disch:=omega) only[↓RA,RZ,simprocAttr,hn,c4t,h]
 exact⟨by rw[a1x,if_neg (fun hh=>h (key.2 hh))],hS1⟩
def ncF(b:Int):Bool:=rY b||(decide (48≤b)&&decide (b≤57))||decide (b=95)
def lP(s:ByteArray):Bool:=decide (0<s.size)&&decide (s.size≤32)&&rY (pS s 0)&&(List.range (s.size-1)).all fun j=>ncF (pS s (j+1))
theorem c8v(s z:ByteArray)(hz:z.size=0):s=z↔s.size=0:=⟨fun h=>by rw[h,hz],fun h=>by
 apply a2e
 have h1:s.data.toList=[]:=fV (by simpa using h)
 have h2:z.data.toList=[]:=fV (by simpa using hz)
 rw[h1,h2]⟩
theorem sC(s:ByteArray):Fn prog 87 [.string s] H fun r H'=>r=.bool (lP s)∧St prog H H' []:=by
 have hz:=c8v s {data:=#[]} rfl
 refine .aN func87 rfl (by kernel_rfl) (m:=42) rfl fun l hn g0=> ?_
 simp(disch:=omega) only[↓RA,RZ,simprocAttr,hn,g0,hz]
 refine jI (fun h1=> ?_) (fun h1=> ?_)
 ·simp(disch:=omega) only[↓RA,RZ,simprocAttr,hn,b5a,h1]
  first|exact(sR H)|exact⟨by simp[lP,h1],(sR H)⟩
 simp(disch:=omega) only[↓RA,RZ,simprocAttr,hn,g0,h1]
 refine jI (fun h2=> ?_) (fun h2=> ?_)
 ·simp(disch:=omega) only[↓RA,RZ,simprocAttr,hn,b5a,h1,h2]
  first|exact(sR H)|exact⟨by simp[lP,show¬s.size≤32 by omega],(sR H)⟩
 simp(disch:=omega) only[↓RA,RZ,simprocAttr,hn,g0,h1,h2]
 refine(sR H).cF (a5d _) fun H1 hS1=> ?_
 simp(disch:=omega) only[↓RA,RZ,simprocAttr,hn,h1,h2]
 refine kA (fun h3=> ?_) (fun h3=> ?_)
 ·simp(disch:=omega) only[↓RA,RZ,simprocAttr,hn,b5a,h1,h2,h3]
  first|exact hS1|exact⟨by simp at h3;simp[lP,h3],hS1⟩
 simp(disch:=omega) only[↓RA,RZ,simprocAttr,h1,h2,h3]
 have h4:rY (pS s 0)=true:=by simpa using h3
 have hA:lP s=(List.range (s.size-1)).all fun j=>ncF (pS s (j+1)):=by simp[lP,h4,show 0<s.size by omega,show s.size≤32 by omega]
 refine Wp.al (fun n l H'=>l.length=42∧get l 0=(.string s)∧∃(i:Nat),(n+i=s.size∧1≤i∧∀j,1≤j→j<i→ncF (pS s j)=true)∧get l 3=I i∧St prog H H' []) (s.size-1) ?_ ?_
 ·simp(disch:=omega) only[RB,RC,simprocAttr,hn,g0]
  exact⟨1,⟨by omega,by omega,fun j h1 h2=>by omega⟩,rfl,hS1⟩
 rintro n l H2⟨hn,g0,i,⟨hi,hi1,h0⟩,g3,hS2⟩
 simp(disch:=omega) only[↓RA,RZ,simprocAttr,hn,g0,g3]
 refine jA (fun h5=> ?_) (fun h5=> ?_)
 ·simp(disch:=omega) only[↓RA,RZ,simprocAttr,hn,g0,g3,h5]
  refine hS2.cF (a5d _) fun H3 hS3=> ?_
  have hF:ncF (pS s i)=false→lP s=false:=fun hh=>by
   rw[hA,List.all_eq_false]
   exact⟨i-1,dT.2 (by omega),by rw[show i-1+1=i by omega,hh];simp⟩
  have hT:ncF (pS s i)=true→∀j,1≤j→j<i+1→ncF (pS s j)=true:=fun hh j h1 h2=>by
   by_cases e:j=i
   ·rw[e];exact hh
   ·exact h0 j h1 (by omega)
  simp(disch:=omega) only[↓RA,RZ,simprocAttr,hn,h5]
  refine lF (fun h1=> ?_) (fun h1=> ?_)
  ·simp(disch:=omega) only[↓RA,RZ,simprocAttr,hn,h5,h1]
   refine jI (fun h2=> ?_) (fun h2=> ?_)
   ·simp(disch:=omega) only[↓RA,RZ,simprocAttr,hn,h5,h1,h2]
    refine jA (fun h3=> ?_) (fun h3=> ?_)
    ·simp(disch:=omega) only[↓RA,RZ,simprocAttr,hn,b5a,h5,h1,h2,h3]
     exact⟨by rw[hF (by simp_all [ncF]<;>omega)],hS3⟩
    simp(disch:=omega) only[↓RA,RZ,simprocAttr,hn,g0,g3,h5,h1,h2,h3]
    exact⟨n-1,by omega,i+1,⟨by omega,by omega,hT (by simp_all [ncF]<;>omega)⟩,by simp,hS3⟩
   simp(disch:=omega) only[↓RA,RZ,simprocAttr,hn,h5,h1,h2]
   refine jY (fun h4=> ?_) (fun h4=> ?_)
   ·simp(disch:=omega) only[↓RA,RZ,simprocAttr,hn,h5,h1,h2,h4]
    refine jA (fun h5=> ?_) (fun h5=> ?_)
    ·simp(disch:=omega) only[↓RA,RZ,simprocAttr,hn,b5a,h1,h2,h4,h5]
     exact⟨by rw[hF (by simp_all [ncF]<;>omega)],hS3⟩
    simp(disch:=omega) only[↓RA,RZ,simprocAttr,hn,g0,g3,h1,h2,h4,h5]
    exact⟨n-1,by omega,i+1,⟨by omega,by omega,hT (by simp_all [ncF]<;>omega)⟩,by simp,hS3⟩
   simp(disch:=omega) only[↓RA,RZ,simprocAttr,hn,g0,g3,h5,h1,h2,h4]
   exact⟨n-1,by omega,i+1,⟨by omega,by omega,hT (by simp_all [ncF]<;>omega)⟩,by simp,hS3⟩
  simp(disch:=omega) only[↓RA,RZ,simprocAttr,hn,g0,g3,h5,h1]
  exact⟨n-1,by omega,i+1,⟨by omega,by omega,hT (by simp_all [ncF]<;>omega)⟩,by simp,hS3⟩
 simp(disch:=omega) only[↓RA,RZ,simprocAttr,hn,b5a,h5]
 refine⟨?_,hS2⟩
 rw[hA]
 congr 1
 symm
 rw[dO]
 intro j hj
 exact h0 (j+1) (by omega) (by have:=dT.1 hj;omega)
def rankE(r:Rk):Int:=if lP r.name=false∨lP r.tone=false then 8 else if oS r.num r.den≠0 then oS r.num r.den else if¬(-256≤r.first∧r.first≤256)then 3 else if r.wind.length=0 then 13 else if 128<r.wind.length then 4 else a1x r.wind
theorem b3j(r:Rk)(hr:r.In H):Fn prog 88 [.agg #[.string r.name,.string r.tone,I r.num,I r.den,I r.first,r.wv]] H fun v H'=>v=I (rankE r)∧St prog H H' []:=by
 have hl:=hr.2
 refine .aN func88 rfl (by kernel_rfl) (m:=38) rfl fun l hn g0=> ?_
 simp(disch:=omega) only[↓RA,RB,simprocAttr,g0]
 refine(sR H).eNew 6 [(.string r.name),(.string r.tone),I r.num,I r.den,I r.first,r.wv] rfl rfl (by simp[OC,((sR H).sl hr.1).cells.2.1]) vX fun A1 H1 hS1=> ?_
 simp only[RT]at hS1
 simp(disch:=omega) only[↓RA,RZ,simprocAttr,hn,hS1.ld 0 rfl]
 refine hS1.cF (sC _) fun H2 hS2=> ?_
 simp(disch:=omega) only[↓RA,RZ,simprocAttr,hn]
 refine lF (fun h1=> ?_) (fun h1=> ?_)
 ·simp(disch:=omega) only[↓RA,RZ,simprocAttr,hn,b0t,h1]
  refine⟨?_,hS2.forget⟩;clear hS1;unfold rankE;(try simp only[eJ]at*);(repeat' split);all_goals first|rfl|omega|simp_all
 simp(disch:=omega) only[↓RA,RZ,simprocAttr,hn,hS2.ld 0 rfl,h1]
 refine hS2.cF (sC _) fun H3 hS3=> ?_
 simp(disch:=omega) only[↓RA,RZ,simprocAttr,hn,h1]
 refine kA (fun h2=> ?_) (fun h2=> ?_)
 ·simp(disch:=omega) only[↓RA,RB,simprocAttr,hn,b0t,h1,h2]
  refine⟨?_,hS3.forget⟩;clear hS1;unfold rankE;(try simp only[eJ]at*);(repeat' split);all_goals first|rfl|omega|simp_all
 simp(disch:=omega) only[↓RA,RZ,simprocAttr,hn,hS3.ae 0 rfl,h1,h2]
 refine hS3.cF (a2I _ _) fun H4 hS4=> ?_
 simp(disch:=omega) only[↓RA,RB,simprocAttr,hn,h1,h2]
 refine jA (fun h3=> ?_) (fun h3=> ?_)
 ·simp(disch:=omega) only[↓RA,RZ,simprocAttr,hn,b0t,h1,h2,h3]
  refine⟨?_,hS4.forget⟩;clear hS1;unfold rankE;(try simp only[gu,eJ,dy,decide_eq_true_eq,ij,gP,decide_eq_false_iff_not]at*);(repeat' split);all_goals first|rfl|omega|simp_all
 simp(disch:=omega) only[↓RA,RZ,simprocAttr,hn,hS4.ld 0 rfl,h1,h2,h3]
 refine hS4.cF (b9E _) fun H5 hS5=> ?_
 simp(disch:=omega) only[↓RA,RZ,simprocAttr,hn,h1,h2,h3]
 refine kA (fun h4=> ?_) (fun h4=> ?_)
 ·simp(disch:=omega) only[↓RA,RZ,simprocAttr,hn,b0t,h1,h2,h3,h4]
  refine⟨?_,hS5.forget⟩;clear hS1;unfold rankE;(try simp only[eJ,gP,decide_eq_false_iff_not]at*);(repeat' split);all_goals first|rfl|omega|simp_all
 simp(disch:=omega) only[↓RA,RZ,simprocAttr,hn,hS5.ld 0 rfl,(hS5.sl hr.1).len,h1,h2,h3,h4]
 refine jA (fun h5=> ?_) (fun h5=> ?_)
 ·simp(disch:=omega) only[↓RA,RZ,simprocAttr,hn,b0t,h1,h2,h3,h4,h5]
  refine⟨?_,hS5.forget⟩;clear hS1;unfold rankE;(try simp only[gu,eJ,dy,decide_eq_true_eq,ij,gP,decide_eq_false_iff_not]at*);(repeat' split);all_goals first|rfl|omega|simp_all
 simp(disch:=omega) only[↓RA,RZ,simprocAttr,hn,hS5.ld 0 rfl,(hS5.sl hr.1).len,h1,h2,h3,h4,h5]
 refine jA (fun h6=> ?_) (fun h6=> ?_)
 ·simp(disch:=omega) only[↓RA,RZ,simprocAttr,hn,b0t,h1,h2,h3,h4,h5,h6]
  refine⟨?_,hS5.forget⟩;clear hS1;unfold rankE;(try simp only[gu,eJ,dy,decide_eq_true_eq,ij,gP,decide_eq_false_iff_not]at*);(repeat' split);all_goals first|rfl|omega|simp_all
 simp(disch:=omega) only[↓RA,RZ,simprocAttr,hn,hS5.ld 0 rfl,h1,h2,h3,h4,h5,h6]
 refine hS5.cF (b7x r.wv r.wind (hS5.sl hr.1) (by have:=hr.2;omega)) fun H6 hS6=> ?_
 simp(disch:=omega) only[↓RA,RZ,simprocAttr,hn,b0t,h1,h2,h3,h4,h5,h6]
 refine⟨?_,hS6.forget⟩;clear hS1;unfold rankE;(try simp only[gu,eJ,dy,decide_eq_true_eq,ij,gP,decide_eq_false_iff_not]at*);(repeat' split);all_goals first|rfl|omega|simp_all
abbrev KS(kvs:List (ByteArray×Bool)):List Value:=kcs Value.string Value.bool kvs
def rV(kvs:List (ByteArray×Bool))(s:ByteArray):Bool:=(yF kvs s).getD false
theorem a3d(B:Base)(A:Nat)(kvs:List (ByteArray×Bool))(s:ByteArray)(hS:St prog B H [⟨.map (some A),0,KS kvs⟩]):
 Fn prog 89 [.map (some A),.string s] H fun r H'=>r=I (if rV kvs s=true then 9 else 0)∧∃kvs',(∀t,rV kvs' t=(rV kvs t||decide (t=s)))∧St prog B H' [⟨.map (some A),0,KS kvs'⟩]:=by
 refine .aE func89 rfl (by kernel_rfl) (m:=10) rfl fun l hn g0 g1=> ?_
 simp(disch:=omega) only[↓RA,RB,simprocAttr,hn,g0,g1]
 refine hS.aY 0 rfl a8R (fun _=>rfl) ?_
 simp(disch:=omega) only[↓RA,RB,simprocAttr,hn]
 refine kA (fun h=> ?_) (fun h=> ?_)
 ·simp(disch:=omega) only[↓RA,RB,simprocAttr,hn,c8k,h]
  refine⟨by simp[rV,h],kvs,fun t=> ?_,hS⟩
  by_cases e:t=s
  ·subst e;simp[rV,h]
  ·simp[e]
 simp(disch:=omega) only[↓RA,RB,simprocAttr,hn,g0,g1,h]
 refine hS.cE 0 rfl a8R fun H1 hS1=> ?_
 simp only[RT]at hS1
 simp(disch:=omega) only[↓RA,RB,simprocAttr,hn,c8k,h]
 refine⟨by simp[rV,h],_,fun t=> ?_,hS1⟩
 unfold rV
 rw[a8Q]
 by_cases e:t=s
 ·simp[e]
 ·simp[e]
def sO(lo hi:Int):Int:=if lo<0∨127<hi then 3 else if hi<lo then 23 else 0
theorem a2C(lo hi:Int):Fn prog 126 [.agg #[I lo,I hi]] H fun r H'=>r=I (sO lo hi)∧St prog H H' []:=by
 refine .aN func126 rfl (by kernel_rfl) (m:=18) rfl fun l hn g0=> ?_
 simp(disch:=omega) only[↓RA,RB,simprocAttr,g0]
 refine(sR H).eNew 2 [I lo,I hi] rfl rfl rfl rN fun A1 H1 hS1=> ?_
 simp only[RT]at hS1
 simp(disch:=omega) only[↓RA,RZ,simprocAttr,hn,hS1.ld 0 rfl]
 refine jI (fun h1=> ?_) (fun h1=> ?_)
 ·simp(disch:=omega) only[↓RA,RZ,simprocAttr,hn,b2C,h1]
  refine⟨?_,hS1.forget⟩;unfold sO;(repeat' split);all_goals first|rfl|omega
 simp(disch:=omega) only[↓RA,RZ,simprocAttr,hn,hS1.ld 0 rfl,h1]
 refine jA (fun h2=> ?_) (fun h2=> ?_)
 ·simp(disch:=omega) only[↓RA,RZ,simprocAttr,hn,b2C,h1,h2]
  refine⟨?_,hS1.forget⟩;unfold sO;(repeat' split);all_goals first|rfl|omega
 simp(disch:=omega) only[↓RA,RZ,simprocAttr,hn,hS1.ld 0 rfl,h1,h2]
 refine jA (fun h3=> ?_) (fun h3=> ?_)
 ·simp(disch:=omega) only[↓RA,RZ,simprocAttr,hn,b2C,h1,h2,h3]
  refine⟨?_,hS1.forget⟩;unfold sO;(repeat' split);all_goals first|rfl|omega
 simp(disch:=omega) only[↓RA,RZ,simprocAttr,hn,b2C,h1,h2,h3]
 refine⟨?_,hS1.forget⟩;unfold sO;(repeat' split);all_goals first|rfl|omega
def mR(f:Nat→Int)(n:Nat):Int:=match (List.range n).find? (fun j=>decide (f j≠0))with|some j=>f j|none=>0
theorem pO(f:Nat→Int)(n i:Nat)(hi:i<n)(hp:f i≠0)(h0:∀j,j<i→f j=0):mR f n=f i:=by
 unfold mR
 rw[yQ _ n i hi (by simpa using hp) (fun j hj=>by simpa using h0 j hj)]
theorem lW(f:Nat→Int)(n:Nat)(h0:∀j,j<n→f j=0):mR f n=0:=by
 unfold mR
 have:(List.range n).find? (fun j=>decide (f j≠0))=none:=by
  rw[gL]
  intro j hj
  simpa using h0 j (dT.1 hj)
 rw[this]
def uP(rs:List Rk)(lo hi:Int):Int:=if 60<rs.length then 4 else if mR (fun j=>rankE (jB rs j)) rs.length≠0 then mR (fun j=>rankE (jB rs j)) rs.length else sO lo hi
theorem b7Y(rv:Value)(rs:List Rk)(lo hi:Int)(hr:Sl 6 Rk.cells H rv rs)(hrk:∀r∈rs,r.In H)(hl:rs.length<1000000000):
 Fn prog 172 [.agg #[rv,I lo,I hi]] H fun v H'=>v=I (uP rs lo hi)∧St prog H H' []:=by
 refine .aN func172 rfl (by kernel_rfl) (m:=26) rfl fun l hn g0=> ?_
 simp(disch:=omega) only[↓RA,RB,simprocAttr,g0]
 refine(sR H).eNew 3 [rv,I lo,I hi] rfl rfl (by simp[OC,((sR H).sl hr).cells.2.1]) b2N fun A1 H1 hS1=> ?_
 simp only[RT]at hS1
 simp(disch:=omega) only[↓RA,RZ,simprocAttr,hn,hS1.ld 0 rfl,(hS1.sl hr).len]
 refine jA (fun h=> ?_) (fun h=> ?_)
 ·simp(disch:=omega) only[↓RA,RZ,simprocAttr,hn,b9T,h]
  exact⟨by rw[uP,if_pos (by omega)],hS1.forget⟩
 simp(disch:=omega) only[↓RA,RZ,simprocAttr,hn,hS1.ld 0 rfl,(hS1.sl hr).len,h]
 refine Wp.al (fun n l H'=>l.length=26∧get l 1=(ptr A1 0 3)∧get l 11=rv∧get l 12=I rs.length∧∃(i:Nat),(n+i=rs.length∧∀j,j<i→rankE (jB rs j)=0)∧get l 13=I i∧St prog H H' [⟨ptr A1 0 3,0,[rv,I lo,I hi]⟩]) rs.length ?_ ?_
 ·simp(disch:=omega) only[RB,RC,simprocAttr,hn]
  exact⟨0,⟨by omega,by simp⟩,rfl,hS1⟩
 rintro n l H2⟨hn,g1,g11,g12,i,⟨hi1,h0⟩,g13,hS2⟩
 simp(disch:=omega) only[↓RA,RB,simprocAttr,hn,g12,g13]
 refine jA (fun h1=> ?_) (fun h1=> ?_)
 ·simp(disch:=omega) only[↓RA,RZ,simprocAttr,hn,g11,g13,(hS2.sl hr).idx,(hS2.sl hr).ae,Rk.cells,h1]
  refine hS2.eNew 6 [(.string ⟨#[]⟩),(.string ⟨#[]⟩),I 0,I 0,I 0,(.slice none 0 0)] rfl rfl rfl vX fun A2 H3 hS3=> ?_
  simp only[RT]at hS3
  simp(disch:=omega) only[↓RA,RZ,simprocAttr,hn,h1]
  refine hS3.aa 1 rfl [(.string (jB rs i).name),(.string (jB rs i).tone),I (jB rs i).num,I (jB rs i).den,I (jB rs i).first,(jB rs i).wv] rfl (by simp[OC,(hS3.sl (hrk (jB rs i) (jE (by omega))).1).cells.2.1]) vX (by simp) fun H4 hS4=> ?_
  simp only[RT]at hS4
  simp(disch:=omega) only[↓RA,RZ,simprocAttr,hn,hS4.ae 1 rfl,h1]
  refine hS4.cF (b3j (jB rs i) ((hrk _ (jE (by omega))).aj hS4)) fun H5 hS5=> ?_
  simp(disch:=omega) only[↓RA,RZ,simprocAttr,hn,h1]
  refine jA (fun h2=> ?_) (fun h2=> ?_)
  ·simp(disch:=omega) only[↓RA,RZ,simprocAttr,hn,b9T,h1,h2]
   refine⟨?_,hS5.forget⟩
   rw[uP,if_neg (by omega),pO _ rs.length i (by omega) h2 h0,if_pos h2]
  simp(disch:=omega) only[↓RA,RZ,simprocAttr,hn,g1,g11,g12,g13,h1,h2]
  exact⟨n-1,by omega,i+1,⟨by omega,fun j hj=>by rcases dJ.1 hj with e|e;(· exact h0 j e);(· rw[e];exact dQ.1 h2)⟩,by simp,hS5.sub (by simp)⟩
 simp(disch:=omega) only[↓RA,RZ,simprocAttr,hn,g1,hS2.ae 0 rfl,h1]
 refine hS2.cF (a2C lo hi) fun H6 hS6=> ?_
 simp(disch:=omega) only[↓RA,RZ,simprocAttr,hn,b9T,h1]
 refine⟨?_,hS6.forget⟩
 have e:=lW (fun j=>rankE (jB rs j)) rs.length fun j hj=>h0 j (by omega)
 rw[uP,if_neg (by omega),if_neg (by rw[e];simp)]
theorem Drw.eq(a b:Drw):(a.rank=b.rank∧a.shift=b.shift)↔b=a:=by
 cases a;cases b;simp[eq_comm]
theorem b5X(v:Value)(xs:List Drw)(hv:Sl 2 Drw.cells H v xs)(hl:xs.length<1000000000)(d:Drw):
 Fn prog 229 [v,.agg #[I d.rank,I d.shift]] H fun r H'=>r=I (qK (fun j=>decide (jB xs j=d)) xs.length)∧St prog H H' []:=by
 refine .aE func229 rfl (by kernel_rfl) (m:=19) rfl fun l hn g0 g1=> ?_
 simp(disch:=omega) only[↓RA,RB,simprocAttr,g1]
 refine(sR H).eNew 2 [I d.rank,I d.shift] rfl rfl rfl a2f fun A1 H1 hS1=> ?_
 simp only[RT]at hS1
 simp(disch:=omega) only[↓RA,RZ,simprocAttr,hn,g0,(hS1.sl hv).len]
 refine Wp.al (fun n l H'=>l.length=19∧get l 0=v∧get l 3=(ptr A1 0 2)∧get l 7=I xs.length∧∃(j:Nat),(n+j=xs.length∧∀q,q<j→decide (jB xs q=d)=false)∧get l 8=I j∧St prog H H' [⟨ptr A1 0 2,0,[I d.rank,I d.shift]⟩]) xs.length ?_ ?_
 ·simp(disch:=omega) only[RB,RC,simprocAttr,hn,g0]
  exact⟨0,⟨by omega,fun q hq=>absurd hq (ed _)⟩,rfl,hS1⟩
 rintro n l H2⟨hn,g0,g3,g7,j,⟨hi,h0⟩,g8,hS2⟩
 simp(disch:=omega) only[↓RA,RB,simprocAttr,hn,g7,g8]
 refine jA (fun h=> ?_) (fun h=> ?_)
 ·simp(disch:=omega) only[↓RA,RZ,simprocAttr,hn,g8,h]
  refine Wp.drw kP (by kernel_rfl) ?_
  simp(disch:=omega) only[↓RA,RZ,simprocAttr,hn,g0,g3,hS2.ae 0 rfl,(hS2.sl hv).idx,(hS2.sl hv).ae,Drw.cells]
  refine jA (fun hp=> ?_) (fun hp=> ?_)
  ·simp(disch:=omega) only[↓RA,RZ,simprocAttr,hn,c3L,hp]
   exact⟨by rw[uX _ xs.length j (by omega) (by simpa using(Drw.eq _ _).1 hp) h0],hS2.forget⟩
  simp(disch:=omega) only[↓RA,RZ,simprocAttr,hn,g0,g3,g7,g8,hp]
  exact⟨n-1,by omega,j+1,⟨by omega,fun q hq=>by rcases dJ.1 hq with e|e;(· exact h0 q e);(· rw[e];simpa using fun hh=>hp ((Drw.eq _ _).2 hh))⟩,by simp,hS2⟩
 simp(disch:=omega) only[↓RA,RZ,simprocAttr,hn,c3L,h]
 exact⟨by rw[uM _ xs.length fun q hq=>h0 q (by omega)],hS2.forget⟩
theorem c1O(v:Value)(xs:List Drw)(hv:Sl 2 Drw.cells H v xs)(hl:xs.length<1000000000)(d:Drw):
 Fn prog 198 [v,.agg #[I d.rank,I d.shift]] H fun r H'=>r=.bool (decide (d∈xs))∧St prog H H' []:=by
 have e:decide (0≤qK (fun j=>decide (jB xs j=d)) xs.length)=decide (d∈xs):=by
  rw[eU,decide_eq_true_iff,decide_eq_true_iff,xU]
  constructor
  ·rintro⟨j,hj,hp⟩
   rw[←of_decide_eq_true hp];exact jE hj
  ·intro hx
   obtain⟨j,hj,rfl⟩:=eI.1 hx
   exact⟨j,hj,by rw[kL xs j hj];simp⟩
 refine .aE func198 rfl (by kernel_rfl) (m:=9) rfl fun l hn g0 g1=> ?_
 simp(disch:=omega) only[↓RA,RB,simprocAttr,g1]
 refine(sR H).eNew 2 [I d.rank,I d.shift] rfl rfl rfl a2f fun A1 H1 hS1=> ?_
 simp only[RT]at hS1
 simp(disch:=omega) only[↓RA,RZ,simprocAttr,hn,g0,hS1.ae 0 rfl]
 refine hS1.cF (b5X v xs (hS1.sl hv) hl d) fun H2 hS2=> ?_
 simp(disch:=omega) only[↓RA,RB,simprocAttr,hn,c7y]
 rw[←e]
 first|exact hS2.forget|exact⟨rfl,hS2.forget⟩
def lR(m:Nat)(l:List Drw)(j:Nat):Int:=if(jB l j).rank<0∨m≤(jB l j).rank then 10 else if(jB l j).shift< -127∨127<(jB l j).shift then 3 else if jB l j∈l.take j then 9 else 0
def mO(m:Nat)(l:List Drw):Int:=if 8<l.length then 4 else mR (lR m l) l.length
theorem a9n(rv:Value)(rs:List Rk)(lo hi:Int)(hr:Sl 6 Rk.cells H rv rs)(hl:rs.length<1000000000)(dv:Value)(ds:List Drw)(hd:Sl 2 Drw.cells H dv ds)(hl2:ds.length<1000000000):
 Fn prog 173 [.agg #[rv,I lo,I hi],dv] H fun v H'=>v=I (mO rs.length ds)∧St prog H H' []:=by
 refine .aE func173 rfl (by kernel_rfl) (m:=45) rfl fun l hn g0 g1=> ?_
 simp(disch:=omega) only[↓RA,RB,simprocAttr,g0]
 refine(sR H).eNew 3 [rv,I lo,I hi] rfl rfl (by simp[OC,((sR H).sl hr).cells.2.1]) b2N fun A1 H1 hS1=> ?_
 simp only[RT]at hS1
 simp(disch:=omega) only[↓RA,RZ,simprocAttr,hn,g1,(hS1.sl hd).len]
 refine jA (fun h=> ?_) (fun h=> ?_)
 ·simp(disch:=omega) only[↓RA,RZ,simprocAttr,hn,a3Y,h]
  exact⟨by rw[mO,if_pos (by omega)],hS1.forget⟩
 simp(disch:=omega) only[↓RA,RZ,simprocAttr,hn,g1,(hS1.sl hd).len,h]
 refine Wp.al (fun n l H'=>l.length=45∧get l 1=dv∧get l 2=(ptr A1 0 3)∧get l 10=dv∧get l 11=I ds.length∧∃(i:Nat),(n+i=ds.length∧∀j,j<i→lR rs.length ds j=0)∧get l 12=I i∧St prog H H' [⟨ptr A1 0 3,0,[rv,I lo,I hi]⟩]) ds.length ?_ ?_
 ·simp(disch:=omega) only[RB,RC,simprocAttr,hn,g1]
  exact⟨0,⟨by omega,by simp⟩,rfl,hS1⟩
 rintro n l H2⟨hn,g1,g2,uL,g11,i,⟨hi1,h0⟩,g12,hS2⟩
 simp(disch:=omega) only[↓RA,RB,simprocAttr,hn,g11,g12]
 refine jA (fun h1=> ?_) (fun h1=> ?_)
 ·have key:lR rs.length ds i≠0→mO rs.length ds=lR rs.length ds i:=fun hne=>by rw[mO,if_neg (by omega),pO _ ds.length i (by omega) hne h0]
  simp(disch:=omega) only[↓RA,RZ,simprocAttr,hn,uL,g12,(hS2.sl hd).idx,(hS2.sl hd).ae,Drw.cells,h1]
  refine hS2.eNew 2 [I 0,I 0] rfl rfl rfl a2f fun A2 H3 hS3=> ?_
  simp only[RT]at hS3
  simp(disch:=omega) only[↓RA,RZ,simprocAttr,hn,h1]
  refine hS3.aa 1 rfl [I (jB ds i).rank,I (jB ds i).shift] rfl rfl a2f (by simp) fun H4 hS4=> ?_
  simp only[RT]at hS4
  simp(disch:=omega) only[↓RA,RZ,simprocAttr,hn,hS4.ld 1 rfl,h1]
  refine jI (fun h1=> ?_) (fun h1=> ?_)
  ·simp(disch:=omega) only[↓RA,RZ,simprocAttr,hn,a3Y,h1]
   (first|(have e1:lR rs.length ds i=10:=by rw[lR,if_pos (by omega)]);exact⟨by rw[key (by rw[e1];decide),e1],hS4.forget⟩|(have e1:lR rs.length ds i=3:=by rw[lR,if_neg (by omega),if_pos (by omega)]);exact⟨by rw[key (by rw[e1];decide),e1],hS4.forget⟩|(have e1:lR rs.length ds i=9:=by rw[lR,if_neg (by omega),if_neg (by omega),if_pos (by simp_all)]);exact⟨by rw[key (by rw[e1];decide),e1],hS4.forget⟩)
  simp(disch:=omega) only[↓RA,RZ,simprocAttr,hn,g2,hS4.ld 1 rfl,hS4.ld 0 rfl,(hS4.sl hr).len,h1]
  refine jA (fun h2=> ?_) (fun h2=> ?_)
  ·simp(disch:=omega) only[↓RA,RZ,simprocAttr,hn,a3Y,h1,h2]
   (first|(have e1:lR rs.length ds i=10:=by rw[lR,if_pos (by omega)]);exact⟨by rw[key (by rw[e1];decide),e1],hS4.forget⟩|(have e1:lR rs.length ds i=3:=by rw[lR,if_neg (by omega),if_pos (by omega)]);exact⟨by rw[key (by rw[e1];decide),e1],hS4.forget⟩|(have e1:lR rs.length ds i=9:=by rw[lR,if_neg (by omega),if_neg (by omega),if_pos (by simp_all)]);exact⟨by rw[key (by rw[e1];decide),e1],hS4.forget⟩)
  simp(disch:=omega) only[↓RA,RZ,simprocAttr,hn,hS4.ld 1 rfl,h1,h2]
  refine jI (fun h3=> ?_) (fun h3=> ?_)
  ·simp(disch:=omega) only[↓RA,RZ,simprocAttr,hn,a3Y,h1,h2,h3]
   (first|(have e1:lR rs.length ds i=10:=by rw[lR,if_pos (by omega)]);exact⟨by rw[key (by rw[e1];decide),e1],hS4.forget⟩|(have e1:lR rs.length ds i=3:=by rw[lR,if_neg (by omega),if_pos (by omega)]);exact⟨by rw[key (by rw[e1];decide),e1],hS4.forget⟩|(have e1:lR rs.length ds i=9:=by rw[lR,if_neg (by omega),if_neg (by omega),if_pos (by simp_all)]);exact⟨by rw[key (by rw[e1];decide),e1],hS4.forget⟩)
  simp(disch:=omega) only[↓RA,RZ,simprocAttr,hn,hS4.ld 1 rfl,h1,h2,h3]
  refine jA (fun h4=> ?_) (fun h4=> ?_)
  ·simp(disch:=omega) only[↓RA,RZ,simprocAttr,hn,a3Y,h1,h2,h3,h4]
   (first|(have e1:lR rs.length ds i=10:=by rw[lR,if_pos (by omega)]);exact⟨by rw[key (by rw[e1];decide),e1],hS4.forget⟩|(have e1:lR rs.length ds i=3:=by rw[lR,if_neg (by omega),if_pos (by omega)]);exact⟨by rw[key (by rw[e1];decide),e1],hS4.forget⟩|(have e1:lR rs.length ds i=9:=by rw[lR,if_neg (by omega),if_neg (by omega),if_pos (by simp_all)]);exact⟨by rw[key (by rw[e1];decide),e1],hS4.forget⟩)
  simp(disch:=omega) only[↓RA,RZ,simprocAttr,h1,h2,h3,h4]
  refine Wp.drw kP (by kernel_rfl) ?_
  simp(disch:=omega) only[↓RA,RZ,simprocAttr,hn,g1,(hS4.sl hd).aS,hS4.ae 1 rfl]
  refine hS4.cF (c1O _ (ds.take i) ((hS4.sl hd).cR i (by omega) (by omega)) (by simp;omega) (jB ds i)) fun H5 hS5=> ?_
  simp(disch:=omega) only[↓RA,RB,simprocAttr,hn]
  refine jA (fun h5=> ?_) (fun h5=> ?_)
  ·simp(disch:=omega) only[↓RA,RZ,simprocAttr,hn,a3Y,h5]
   (first|(have e1:lR rs.length ds i=10:=by rw[lR,if_pos (by omega)]);exact⟨by rw[key (by rw[e1];decide),e1],hS5.forget⟩|(have e1:lR rs.length ds i=3:=by rw[lR,if_neg (by omega),if_pos (by omega)]);exact⟨by rw[key (by rw[e1];decide),e1],hS5.forget⟩|(have e1:lR rs.length ds i=9:=by rw[lR,if_neg (by omega),if_neg (by omega),if_pos (by simp_all)]);exact⟨by rw[key (by rw[e1];decide),e1],hS5.forget⟩)
  simp(disch:=omega) only[↓RA,RZ,simprocAttr,hn,g1,g2,uL,g11,g12,h5]
  have e0:lR rs.length ds i=0:=by rw[lR,if_neg (by omega),if_neg (by omega),if_neg (by simp_all)]
  exact⟨n-1,by omega,i+1,⟨by omega,fun j hj=>by rcases dJ.1 hj with e|e;(· exact h0 j e);(· rw[e];exact e0)⟩,by simp,hS5.sub (by simp)⟩
 simp(disch:=omega) only[↓RA,RZ,simprocAttr,hn,a3Y,h1]
 exact⟨by rw[mO,if_neg (by omega),lW _ _ fun j hj=>h0 j (by omega)],hS2.forget⟩
def mC(lo hi:Int)(m:Nat)(gs:List Seg)(j:Nat):Int:=if min (jB gs j).lo (jB gs j).hi<lo∨hi<max (jB gs j).lo (jB gs j).hi then 23 else if(jB gs j).hi<(jB gs j).lo∨(0<j∧(jB gs j).lo≤(jB gs (j-1)).hi)then 6 else mO m (jB gs j).draws
def stopE(rs:List Rk)(lo hi:Int)(s:Stp):Int:=if uP rs lo hi≠0 then uP rs lo hi else if lP s.name=false then 8 else if oS s.num s.den≠0 then oS s.num s.den else if s.segs.length=0 then 13 else if 12<s.segs.length then 4 else mR (mC lo hi rs.length s.segs) s.segs.length
theorem c1q(rv:Value)(rs:List Rk)(lo hi:Int)(hr:Sl 6 Rk.cells H rv rs)(hrk:∀r∈rs,r.In H)(hl:rs.length<1000000000)(s:Stp)(hs:s.In H):
 Fn prog 127 [.agg #[rv,I lo,I hi],.agg #[.string s.name,I s.num,I s.den,s.gv]] H fun v H'=>v=I (stopE rs lo hi s)∧St prog H H' []:=by
 have hl2:=hs.2.2
 refine .aE func127 rfl (by kernel_rfl) (m:=94) rfl fun l hn g0 g1=> ?_
 simp(disch:=omega) only[↓RA,RB,simprocAttr,g0]
 refine(sR H).eNew 3 [rv,I lo,I hi] rfl rfl (by simp[OC,((sR H).sl hr).cells.2.1]) b2N fun A1 H1 hS1=> ?_
 simp only[RT]at hS1
 simp(disch:=omega) only[↓RA,RB,simprocAttr,g1]
 refine hS1.eNew 4 [(.string s.name),I s.num,I s.den,s.gv] rfl rfl (by simp[OC,(hS1.sl hs.1).cells.2.1]) rQ fun A2 H2 hS2=> ?_
 simp only[RT]at hS2
 simp(disch:=omega) only[↓RA,RZ,simprocAttr,hn,hS2.ae 0 rfl]
 refine hS2.cF (b7Y rv rs lo hi (hS2.sl hr) (fun r h=>(hrk r h).aj hS2) hl) fun H3 hS3=> ?_
 simp(disch:=omega) only[↓RA,RB,simprocAttr,hn]
 refine jA (fun p1=> ?_) (fun p1=> ?_)
 ·simp(disch:=omega) only[↓RA,RZ,simprocAttr,hn,vV,p1]
  exact⟨by rw[stopE,if_pos p1],hS3.forget⟩
 simp(disch:=omega) only[↓RA,RZ,simprocAttr,hn,hS3.ld 1 rfl,p1]
 refine hS3.cF (sC s.name) fun H4 hS4=> ?_
 simp(disch:=omega) only[↓RA,RZ,simprocAttr,hn,p1]
 refine kA (fun p2=> ?_) (fun p2=> ?_)
 ·simp(disch:=omega) only[↓RA,RZ,simprocAttr,hn,vV,p1,p2]
  exact⟨by rw[stopE,if_neg p1,if_pos (by simpa using p2)],hS4.forget⟩
 have p2':¬lP s.name=false:=by simpa using p2
 simp(disch:=omega) only[↓RA,RZ,simprocAttr,hn,hS4.ae 1 rfl,p1,p2]
 refine hS4.cF (a2I s.num s.den) fun H5 hS5=> ?_
 simp(disch:=omega) only[↓RA,RZ,simprocAttr,hn,p1,p2]
 refine jA (fun p3=> ?_) (fun p3=> ?_)
 ·simp(disch:=omega) only[↓RA,RZ,simprocAttr,hn,vV,p1,p2,p3]
  exact⟨by rw[stopE,if_neg p1,if_neg p2',if_pos p3],hS5.forget⟩
 simp(disch:=omega) only[↓RA,RZ,simprocAttr,hn,hS5.ld 1 rfl,(hS5.sl hs.1).len,p1,p2,p3]
 refine jA (fun p4=> ?_) (fun p4=> ?_)
 ·simp(disch:=omega) only[↓RA,RZ,simprocAttr,hn,vV,p1,p2,p3,p4]
  exact⟨by rw[stopE,if_neg p1,if_neg p2',if_neg p3,if_pos (by omega)],hS5.forget⟩
 simp(disch:=omega) only[↓RA,RZ,simprocAttr,hn,hS5.ld 1 rfl,(hS5.sl hs.1).len,p1,p2,p3,p4]
 refine jA (fun p5=> ?_) (fun p5=> ?_)
 ·simp(disch:=omega) only[↓RA,RZ,simprocAttr,hn,vV,p1,p2,p3,p4,p5]
  exact⟨by rw[stopE,if_neg p1,if_neg p2',if_neg p3,if_neg (by omega),if_pos (by omega)],hS5.forget⟩
 have hE:stopE rs lo hi s=mR (mC lo hi rs.length s.segs) s.segs.length:=by rw[stopE,if_neg p1,if_neg p2',if_neg p3,if_neg (by omega),if_neg (by omega)]
 simp(disch:=omega) only[↓RA,RZ,simprocAttr,hn,hS5.ld 1 rfl,(hS5.sl hs.1).len,p1,p2,p3,p4,p5]
 refine Wp.al (fun n l H'=>l.length=94∧get l 2=(ptr A1 0 3)∧get l 3=(ptr A2 0 4)∧get l 36=s.gv∧get l 37=I s.segs.length∧∃(i:Nat),(n+i=s.segs.length∧∀j,j<i→mC lo hi rs.length s.segs j=0)∧get l 38=I i∧St prog H H' [⟨ptr A1 0 3,0,[rv,I lo,I hi]⟩,⟨ptr A2 0 4,0,[(.string s.name),I s.num,I s.den,s.gv]⟩]) s.segs.length ?_ ?_
 ·simp(disch:=omega) only[RB,RC,simprocAttr,hn]
  exact⟨0,⟨by omega,by simp⟩,rfl,hS5⟩
 rintro n l H6⟨hn,g2,g3,g36,g37,i,⟨hi1,h0⟩,g38,hS6⟩
 simp(disch:=omega) only[↓RA,RB,simprocAttr,hn,g37,g38]
 refine jA (fun q1=> ?_) (fun q1=> ?_)
 ·have key:mC lo hi rs.length s.segs i≠0→stopE rs lo hi s=mC lo hi rs.length s.segs i:=fun hne=>by rw[hE,pO _ _ i (by omega) hne h0]
  have ei:((i:Int)-1).toNat=i-1:=by omega
  simp(disch:=omega) only[↓RA,RZ,simprocAttr,hn,g36,g38,(hS6.sl hs.1).idx,(hS6.sl hs.1).ae,Seg.cells,q1]
  refine hS6.eNew 3 [I 0,I 0,(.slice none 0 0)] rfl rfl rfl a3E fun A3 H7 hS7=> ?_
  simp only[RT]at hS7
  simp(disch:=omega) only[↓RA,RZ,simprocAttr,hn,q1]
  refine hS7.aa 2 rfl [I (jB s.segs i).lo,I (jB s.segs i).hi,(jB s.segs i).dv] rfl (by simp[OC,(hS7.sl (hs.2.1 (jB s.segs i) (jE (by omega))).1).cells.2.1]) a3E (by simp) fun H8 hS8=> ?_
  simp only[RT]at hS8
  simp(disch:=omega) only[↓RA,RZ,simprocAttr,hn,g2,hS8.ld 2 rfl,hS8.ld 0 rfl,q1]
  refine jI (fun h1=> ?_) (fun h1=> ?_)
  ·simp(disch:=omega) only[↓RA,RZ,simprocAttr,hn,vV,q1,h1]
   (first|(have e1:mC lo hi rs.length s.segs i=23:=by rw[mC,if_pos (by omega)]);exact⟨by rw[key (by rw[e1];decide),e1],hS8.forget⟩|(have e1:mC lo hi rs.length s.segs i=6:=by rw[mC,if_neg (by omega),if_pos (by omega)]);exact⟨by rw[key (by rw[e1];decide),e1],hS8.forget⟩|(have e1:mC lo hi rs.length s.segs i=mO rs.length (jB s.segs i).draws:=by rw[mC,if_neg (by omega),if_neg (by omega)]);exact⟨by rw[key (by rw[e1];assumption),e1],hS8.forget⟩)
  simp(disch:=omega) only[↓RA,RZ,simprocAttr,hn,g2,hS8.ld 2 rfl,hS8.ld 0 rfl,q1,h1]
  refine jA (fun h2=> ?_) (fun h2=> ?_)
  ·simp(disch:=omega) only[↓RA,RZ,simprocAttr,hn,vV,q1,h1,h2]
   (first|(have e1:mC lo hi rs.length s.segs i=23:=by rw[mC,if_pos (by omega)]);exact⟨by rw[key (by rw[e1];decide),e1],hS8.forget⟩|(have e1:mC lo hi rs.length s.segs i=6:=by rw[mC,if_neg (by omega),if_pos (by omega)]);exact⟨by rw[key (by rw[e1];decide),e1],hS8.forget⟩|(have e1:mC lo hi rs.length s.segs i=mO rs.length (jB s.segs i).draws:=by rw[mC,if_neg (by omega),if_neg (by omega)]);exact⟨by rw[key (by rw[e1];assumption),e1],hS8.forget⟩)
  simp(disch:=omega) only[↓RA,RZ,simprocAttr,q1,h1,h2]
  refine Wp.drw kP (by kernel_rfl) ?_
  simp(disch:=omega) only[↓RA,RZ,simprocAttr,hn,hS8.ld 2 rfl]
  refine jI (fun h3=> ?_) (fun h3=> ?_)
  ·simp(disch:=omega) only[↓RA,RZ,simprocAttr,hn,vV,h3]
   (first|(have e1:mC lo hi rs.length s.segs i=23:=by rw[mC,if_pos (by omega)]);exact⟨by rw[key (by rw[e1];decide),e1],hS8.forget⟩|(have e1:mC lo hi rs.length s.segs i=6:=by rw[mC,if_neg (by omega),if_pos (by omega)]);exact⟨by rw[key (by rw[e1];decide),e1],hS8.forget⟩|(have e1:mC lo hi rs.length s.segs i=mO rs.length (jB s.segs i).draws:=by rw[mC,if_neg (by omega),if_neg (by omega)]);exact⟨by rw[key (by rw[e1];assumption),e1],hS8.forget⟩)
  simp(disch:=omega) only[↓RA,RZ,simprocAttr,hn,h3]
  refine jY (fun h4=> ?_) (fun h4=> ?_)
  ·simp(disch:=omega) only[↓RA,RZ,simprocAttr,hn,g3,hS8.ld 2 rfl,hS8.ld 1 rfl,(hS8.sl hs.1).idx,(hS8.sl hs.1).ba,(hS8.sl hs.1).ld,Seg.cells,ei,h3,h4]
   refine jA (fun h5=> ?_) (fun h5=> ?_)
   ·simp(disch:=omega) only[↓RA,RZ,simprocAttr,hn,vV,h3,h4,h5]
    (first|(have e1:mC lo hi rs.length s.segs i=23:=by rw[mC,if_pos (by omega)]);exact⟨by rw[key (by rw[e1];decide),e1],hS8.forget⟩|(have e1:mC lo hi rs.length s.segs i=6:=by rw[mC,if_neg (by omega),if_pos (by omega)]);exact⟨by rw[key (by rw[e1];decide),e1],hS8.forget⟩|(have e1:mC lo hi rs.length s.segs i=mO rs.length (jB s.segs i).draws:=by rw[mC,if_neg (by omega),if_neg (by omega)]);exact⟨by rw[key (by rw[e1];assumption),e1],hS8.forget⟩)
   simp(disch:=omega) only[↓RA,RZ,simprocAttr,hn,g2,hS8.ae 0 rfl,hS8.ld 2 rfl,h3,h4,h5]
   refine hS8.cF (a9n rv rs lo hi (hS8.sl hr) hl _ _ (hS8.sl (hs.2.1 _ (jE (by omega))).1) (hs.2.1 _ (jE (by omega))).2) fun H9 hS9=> ?_
   simp(disch:=omega) only[↓RA,RZ,simprocAttr,hn,h3,h4,h5]
   refine jA (fun h6=> ?_) (fun h6=> ?_)
   ·simp(disch:=omega) only[↓RA,RZ,simprocAttr,hn,vV,h3,h4,h5,h6]
    (first|(have e1:mC lo hi rs.length s.segs i=23:=by rw[mC,if_pos (by omega)]);exact⟨by rw[key (by rw[e1];decide),e1],hS9.forget⟩|(have e1:mC lo hi rs.length s.segs i=6:=by rw[mC,if_neg (by omega),if_pos (by omega)]);exact⟨by rw[key (by rw[e1];decide),e1],hS9.forget⟩|(have e1:mC lo hi rs.length s.segs i=mO rs.length (jB s.segs i).draws:=by rw[mC,if_neg (by omega),if_neg (by omega)]);exact⟨by rw[key (by rw[e1];assumption),e1],hS9.forget⟩)
   simp(disch:=omega) only[↓RA,RZ,simprocAttr,hn,g2,g3,g36,g37,g38,h3,h4,h5,h6]
   have e0:mC lo hi rs.length s.segs i=0:=by rw[mC,if_neg (by omega),if_neg (by omega)];omega
   exact⟨n-1,by omega,i+1,⟨by omega,fun j hj=>by rcases dJ.1 hj with e|e;(· exact h0 j e);(· rw[e];exact e0)⟩,by simp,hS9.sub (by simp)⟩
  simp(disch:=omega) only[↓RA,RZ,simprocAttr,hn,g2,hS8.ae 0 rfl,hS8.ld 2 rfl,h3,h4]
  refine hS8.cF (a9n rv rs lo hi (hS8.sl hr) hl _ _ (hS8.sl (hs.2.1 _ (jE (by omega))).1) (hs.2.1 _ (jE (by omega))).2) fun H10 hS10=> ?_
  simp(disch:=omega) only[↓RA,RZ,simprocAttr,hn,h3,h4]
  refine jA (fun h7=> ?_) (fun h7=> ?_)
  ·simp(disch:=omega) only[↓RA,RZ,simprocAttr,hn,vV,h3,h4,h7]
   (first|(have e1:mC lo hi rs.length s.segs i=23:=by rw[mC,if_pos (by omega)]);exact⟨by rw[key (by rw[e1];decide),e1],hS10.forget⟩|(have e1:mC lo hi rs.length s.segs i=6:=by rw[mC,if_neg (by omega),if_pos (by omega)]);exact⟨by rw[key (by rw[e1];decide),e1],hS10.forget⟩|(have e1:mC lo hi rs.length s.segs i=mO rs.length (jB s.segs i).draws:=by rw[mC,if_neg (by omega),if_neg (by omega)]);exact⟨by rw[key (by rw[e1];assumption),e1],hS10.forget⟩)
  simp(disch:=omega) only[↓RA,RZ,simprocAttr,hn,g2,g3,g36,g37,g38,h3,h4,h7]
  have e0:mC lo hi rs.length s.segs i=0:=by rw[mC,if_neg (by omega),if_neg (by omega)];omega
  exact⟨n-1,by omega,i+1,⟨by omega,fun j hj=>by rcases dJ.1 hj with e|e;(· exact h0 j e);(· rw[e];exact e0)⟩,by simp,hS10.sub (by simp)⟩
 simp(disch:=omega) only[↓RA,RZ,simprocAttr,hn,vV,q1]
 exact⟨by rw[hE,lW _ _ fun j hj=>h0 j (by omega)],hS6.forget⟩
theorem c1K(v:Value)(xs:List Cpl)(hv:Sl 5 Cpl.cells H v xs)(hl:xs.length<1000000000)(k:FuncId)(caps:List Value)(p:Nat→Bool)
 (hf:∀j H1,j<xs.length→St prog H H1 []→Fn prog k (.agg #[.string (jB xs j).name,I (jB xs j).src,I (jB xs j).dst,I (jB xs j).shift,.bool (jB xs j).thr]::caps) H1 fun r H2=>r=.bool (p j)∧St prog H1 H2 []):
 Fn prog 174 [v,.func (.func k) #[] caps.toArray] H fun r H'=>r=I (qK p xs.length)∧St prog H H' []:=by
 refine .aE func174 rfl (by kernel_rfl) (m:=19) rfl fun l hn g0 g1=> ?_
 simp(disch:=omega) only[↓RA,RZ,simprocAttr,hn,g0,((sR H).sl hv).len]
 refine Wp.al (fun n l H'=>l.length=19∧get l 0=v∧get l 1=.func (.func k) #[] caps.toArray∧get l 7=I xs.length∧∃(j:Nat),(n+j=xs.length∧∀q,q<j→p q=false)∧get l 8=I j∧St prog H H' []) xs.length ?_ ?_
 ·simp(disch:=omega) only[RB,RC,simprocAttr,hn,g0,g1]
  exact⟨0,⟨by omega,fun q hq=>absurd hq (ed _)⟩,rfl,(sR H)⟩
 rintro n l H1⟨hn,g0,g1,g7,j,⟨hi,h0⟩,g8,hS1⟩
 simp(disch:=omega) only[↓RA,RB,simprocAttr,hn,g7,g8]
 refine jA (fun h=> ?_) (fun h=> ?_)
 ·simp(disch:=omega) only[↓RA,RZ,simprocAttr,hn,g0,g1,g8,(hS1.sl hv).idx,(hS1.sl hv).ae,Cpl.cells,h]
  refine hS1.cF (hf j _ (by omega) hS1) fun H2 hS2=> ?_
  simp(disch:=omega) only[↓RA,RZ,simprocAttr,hn,h]
  refine kA (fun hp=> ?_) (fun hp=> ?_)
  ·simp(disch:=omega) only[↓RA,RZ,simprocAttr,hn,c4a,h,hp]
   exact⟨by rw[uX p xs.length j (by omega) hp h0],hS2⟩
  simp(disch:=omega) only[↓RA,RZ,simprocAttr,hn,g0,g1,g7,g8,h,hp]
  exact⟨n-1,by omega,j+1,⟨by omega,fun q hq=>by rcases dJ.1 hq with e|e;(· exact h0 q e);(· rw[e];exact hp)⟩,by simp,hS2⟩
 simp(disch:=omega) only[↓RA,RZ,simprocAttr,hn,c4a,h]
 exact⟨by rw[uM p xs.length fun q hq=>h0 q (by omega)],hS1⟩
theorem c0F(v:Value)(xs:List Cpl)(hv:Sl 5 Cpl.cells H v xs)(hl:xs.length<1000000000)(k:FuncId)(caps:List Value)(p:Nat→Bool)
 (hf:∀j H1,j<xs.length→St prog H H1 []→Fn prog k (.agg #[.string (jB xs j).name,I (jB xs j).src,I (jB xs j).dst,I (jB xs j).shift,.bool (jB xs j).thr]::caps) H1 fun r H2=>r=.bool (p j)∧St prog H1 H2 []):
 Fn prog 128 [v,.func (.func k) #[] caps.toArray] H fun r H'=>r=.bool (decide (0≤qK p xs.length))∧St prog H H' []:=by
 refine .aE func128 rfl (by kernel_rfl) (m:=9) rfl fun l hn g0 g1=> ?_
 simp(disch:=omega) only[↓RA,RZ,simprocAttr,hn,g0,g1]
 refine(sR H).cF (c1K v xs hv hl k caps p hf) fun H1 hS1=> ?_
 simp(disch:=omega) only[↓RA,RZ,simprocAttr,hn,c8I]
 first|exact hS1|exact⟨rfl,hS1⟩
theorem b0y(c:Cpl)(A:Nat)(d:Cpl)(hA:Var H A 5 d.cells):Fn prog 129 [.agg #[.string c.name,I c.src,I c.dst,I c.shift,.bool c.thr],ptr A 0 5] H fun r H'=>r=.bool (decide (c.name=d.name))∧St prog H H' []:=by
 refine .aE func129 rfl (by kernel_rfl) (m:=9) rfl fun l hn g0 g1=> ?_
 simp(disch:=omega) only[↓RA,RB,simprocAttr,g0]
 refine(sR H).eNew 5 [(.string c.name),I c.src,I c.dst,I c.shift,(.bool c.thr)] rfl rfl rfl yU fun A1 H1 hS1=> ?_
 simp only[RT]at hS1
 simp(disch:=omega) only[↓RA,RZ,simprocAttr,hn,g1,hS1.ld 0 rfl,(hS1.va hA).ld,c8B,Cpl.cells]
 first|exact hS1.forget|exact⟨rfl,hS1.forget⟩
def nW(m:Nat)(cs:List Cpl)(j:Nat):Int:=
 let c:=jB cs j
 if lP c.name=false then 8 else if ∃q,q<j∧(jB cs q).name=c.name then 9 else if c.src<0∨m≤c.src∨c.dst<0∨m≤c.dst then 10 else if c.shift< -127∨127<c.shift then 3 else if c.src=c.dst∧c.shift=0 then 7 else 0
def tB(ks:List (Int×Int))(cs:List Cpl):Int:=if 8<ks.length∨40<cs.length then 4 else if ∃k∈ks,sO k.1 k.2≠0 then 23 else mR (nW ks.length cs) cs.length
def kpc(k:Int×Int):List Value:=[I k.1,I k.2]
theorem a9m{α:Type}[Inhabited α](xs:List α)(i j:Nat)(h:j<i):jB (xs.take i) j=jB xs j:=by
 unfold jB
 rw[dB,dB,ew h]
theorem a8l(kv cv:Value)(ks:List (Int×Int))(cs:List Cpl)(hk:Sl 2 kpc H kv ks)(hc:Sl 5 Cpl.cells H cv cs)(hl:ks.length<1000000000)(hl2:cs.length<1000000000):
 Fn prog 91 [kv,cv] H fun v H'=>v=I (tB ks cs)∧St prog H H' []:=by
 refine .aE func91 rfl (by kernel_rfl) (m:=89) rfl fun l hn g0 g1=> ?_
 simp(disch:=omega) only[↓RA,RZ,simprocAttr,hn,g0,((sR H).sl hk).len]
 refine jI (fun p1=> ?_) (fun p1=> ?_)
 ·simp(disch:=omega) only[↓RA,RZ,simprocAttr,hn,a1C,p1]
  exact⟨by rw[tB,if_pos (by omega)],(sR H)⟩
 simp(disch:=omega) only[↓RA,RZ,simprocAttr,hn,g1,((sR H).sl hc).len,p1]
 refine jA (fun p2=> ?_) (fun p2=> ?_)
 ·simp(disch:=omega) only[↓RA,RZ,simprocAttr,hn,a1C,p1,p2]
  exact⟨by rw[tB,if_pos (by omega)],(sR H)⟩
 simp(disch:=omega) only[↓RA,RZ,simprocAttr,hn,g0,((sR H).sl hk).len,p1,p2]
 refine Wp.al (fun n l H'=>l.length=89∧get l 0=kv∧get l 1=cv∧get l 17=kv∧get l 18=I ks.length∧∃(i:Nat),(n+i=ks.length∧∀j,j<i→sO (jB ks j).1 (jB ks j).2=0)∧get l 19=I i∧St prog H H' []) ks.length ?_ ?_
 ·simp(disch:=omega) only[RB,RC,simprocAttr,hn,g0,g1]
  exact⟨0,⟨by omega,by simp⟩,rfl,(sR H)⟩
 rintro n l H1⟨hn,g0,g1,g17,g18,i,⟨hi1,h0⟩,g19,hS1⟩
 simp(disch:=omega) only[↓RA,RB,simprocAttr,hn,g18,g19]
 refine jA (fun p3=> ?_) (fun p3=> ?_)
 ·simp(disch:=omega) only[↓RA,RZ,simprocAttr,hn,g17,g19,(hS1.sl hk).idx,(hS1.sl hk).ae,kpc,p3]
  refine hS1.eNew 2 [I 0,I 0] rfl rfl rfl rN fun A1 H2 hS2=> ?_
  simp only[RT]at hS2
  simp(disch:=omega) only[↓RA,RZ,simprocAttr,hn,p3]
  refine hS2.aa 0 rfl [I (jB ks i).1,I (jB ks i).2] rfl rfl rN (by simp) fun H3 hS3=> ?_
  simp only[RT]at hS3
  simp(disch:=omega) only[↓RA,RZ,simprocAttr,hn,hS3.ae 0 rfl,p3]
  refine hS3.cF (a2C _ _) fun H4 hS4=> ?_
  simp(disch:=omega) only[↓RA,RZ,simprocAttr,hn,p3]
  refine jA (fun p4=> ?_) (fun p4=> ?_)
  ·simp(disch:=omega) only[↓RA,RZ,simprocAttr,hn,a1C,p3,p4]
   exact⟨by rw[tB,if_neg (by omega),if_pos ⟨_,jE (by omega),p4⟩],hS4.forget⟩
  simp(disch:=omega) only[↓RA,RZ,simprocAttr,hn,g0,g1,g17,g18,g19,p3,p4]
  exact⟨n-1,by omega,i+1,⟨by omega,fun j hj=>by rcases dJ.1 hj with e|e;(· exact h0 j e);(· rw[e];exact dQ.1 p4)⟩,by simp,hS4.sub (by simp)⟩
 have hE:tB ks cs=mR (nW ks.length cs) cs.length:=by
  rw[tB,if_neg (by omega),if_neg]
  rintro⟨k,hk,hne⟩
  obtain⟨j,hj,rfl⟩:=eI.1 hk
  rw[←kL ks j hj]at hne
  exact hne (h0 j (by omega))
 simp(disch:=omega) only[↓RA,RZ,simprocAttr,hn,g1,(hS1.sl hc).len,p3]
 refine Wp.al (fun n l H'=>l.length=89∧get l 0=kv∧get l 1=cv∧get l 27=cv∧get l 28=I cs.length∧∃(i:Nat),(n+i=cs.length∧∀j,j<i→nW ks.length cs j=0)∧get l 29=I i∧St prog H H' []) cs.length ?_ ?_
 ·simp(disch:=omega) only[RB,RC,simprocAttr,hn,g0,g1]
  exact⟨0,⟨by omega,by simp⟩,rfl,hS1⟩
 rintro n l H5⟨hn,g0,g1,g27,g28,i,⟨hi2,hz⟩,g29,hS5⟩
 simp(disch:=omega) only[↓RA,RB,simprocAttr,hn,g28,g29]
 refine jA (fun q1=> ?_) (fun q1=> ?_)
 ·have key:nW ks.length cs i≠0→tB ks cs=nW ks.length cs i:=fun hne=>by rw[hE,pO _ _ i (by omega) hne hz]
  simp(disch:=omega) only[↓RA,RZ,simprocAttr,hn,g27,g29,(hS5.sl hc).idx,(hS5.sl hc).ae,Cpl.cells,q1]
  refine hS5.eNew 5 [(.string ⟨#[]⟩),I 0,I 0,I 0,(.bool false)] rfl rfl rfl yU fun A2 H6 hS6=> ?_
  simp only[RT]at hS6
  simp(disch:=omega) only[↓RA,RZ,simprocAttr,hn,q1]
  refine hS6.aa 0 rfl [(.string (jB cs i).name),I (jB cs i).src,I (jB cs i).dst,I (jB cs i).shift,(.bool (jB cs i).thr)] rfl rfl yU (by simp) fun H7 hS7=> ?_
  simp only[RT]at hS7
  simp(disch:=omega) only[↓RA,RZ,simprocAttr,hn,hS7.ld 0 rfl,q1]
  refine hS7.cF (sC _) fun H8 hS8=> ?_
  simp(disch:=omega) only[↓RA,RZ,simprocAttr,hn,q1]
  refine kA (fun q2=> ?_) (fun q2=> ?_)
  ·have e1:nW ks.length cs i=8:=by unfold nW;simp only;rw[if_pos (by simpa using q2)]
   simp(disch:=omega) only[↓RA,RZ,simprocAttr,hn,a1C,q1,q2]
   exact⟨by rw[key (by rw[e1];decide),e1],hS8.forget⟩
  have q2':¬lP (jB cs i).name=false:=by simpa using q2
  simp(disch:=omega) only[↓RA,RZ,simprocAttr,hn,g1,(hS8.sl hc).aS,q1,q2]
  have hA:=hS8.var 0 rfl
  refine hS8.cF (c0F _ (cs.take i) ((hS8.sl hc).cR i (by omega) (by omega)) (by simp;omega) 129 [ptr A2 0 5] (fun j=>decide ((jB (cs.take i) j).name=(jB cs i).name)) (fun j H1 hj hS'=>b0y _ A2 (jB cs i) (hS'.va hA))) fun H9 hS9=> ?_
  have hx:0≤qK (fun j=>decide ((jB (cs.take i) j).name=(jB cs i).name)) (cs.take i).length↔∃q,q<i∧(jB cs q).name=(jB cs i).name:=by
   rw[xU]
   constructor
   ·rintro⟨j,hj,hp⟩
    have hj':j<i:=by simp at hj;omega
    exact⟨j,hj',by rw[←a9m cs i j hj'];exact of_decide_eq_true hp⟩
   ·rintro⟨j,hj,hp⟩
    exact⟨j,by simp;omega,decide_eq_true (by rw[a9m cs i j hj];exact hp)⟩
  simp(disch:=omega) only[↓RA,RZ,simprocAttr,hn,q1,q2]
  refine jA (fun q3=> ?_) (fun q3=> ?_)
  ·have e1:nW ks.length cs i=9:=by unfold nW;simp only;rw[if_neg q2',if_pos (hx.1 q3)]
   simp(disch:=omega) only[↓RA,RZ,simprocAttr,hn,a1C,q1,q2,q3]
   exact⟨by rw[key (by rw[e1];decide),e1],hS9.forget⟩
  have q3':¬∃q,q<i∧(jB cs q).name=(jB cs i).name:=fun hh=>q3 (hx.2 hh)
  have hC:nW ks.length cs i=if(jB cs i).src<0∨ks.length≤(jB cs i).src∨(jB cs i).dst<0∨ks.length≤(jB cs i).dst then 10 else if(jB cs i).shift< -127∨127<(jB cs i).shift then 3 else if(jB cs i).src=(jB cs i).dst∧(jB cs i).shift=0 then 7 else 0:=by
   unfold nW;simp only;rw[if_neg q2',if_neg q3']
  clear hx
  simp(disch:=omega) only[↓RA,RZ,simprocAttr,hn,hS9.ld 0 rfl,q1,q2,q3]
  refine jI (fun h1=> ?_) (fun h1=> ?_)
  ·simp(disch:=omega) only[↓RA,RZ,simprocAttr,hn,a1C,q1,q2,q3,h1]
   (first|(have e1:nW ks.length cs i=10:=by rw[hC,if_pos (by omega)]);exact⟨by rw[key (by rw[e1];decide),e1],hS9.forget⟩|(have e1:nW ks.length cs i=3:=by rw[hC,if_neg (by omega),if_pos (by omega)]);exact⟨by rw[key (by rw[e1];decide),e1],hS9.forget⟩|(have e1:nW ks.length cs i=7:=by rw[hC,if_neg (by omega),if_neg (by omega),if_pos (by omega)]);exact⟨by rw[key (by rw[e1];decide),e1],hS9.forget⟩)
  simp(disch:=omega) only[↓RA,RZ,simprocAttr,hn,g0,hS9.ld 0 rfl,(hS9.sl hk).len,q1,q2,q3,h1]
  refine jI (fun h2=> ?_) (fun h2=> ?_)
  ·simp(disch:=omega) only[↓RA,RZ,simprocAttr,hn,a1C,q1,q2,q3,h1,h2]
   (first|(have e1:nW ks.length cs i=10:=by rw[hC,if_pos (by omega)]);exact⟨by rw[key (by rw[e1];decide),e1],hS9.forget⟩|(have e1:nW ks.length cs i=3:=by rw[hC,if_neg (by omega),if_pos (by omega)]);exact⟨by rw[key (by rw[e1];decide),e1],hS9.forget⟩|(have e1:nW ks.length cs i=7:=by rw[hC,if_neg (by omega),if_neg (by omega),if_pos (by omega)]);exact⟨by rw[key (by rw[e1];decide),e1],hS9.forget⟩)
  simp(disch:=omega) only[↓RA,RZ,simprocAttr,hn,hS9.ld 0 rfl,q1,q2,q3,h1,h2]
  refine jI (fun h3=> ?_) (fun h3=> ?_)
  ·simp(disch:=omega) only[↓RA,RZ,simprocAttr,hn,a1C,q1,q2,q3,h1,h2,h3]
   (first|(have e1:nW ks.length cs i=10:=by rw[hC,if_pos (by omega)]);exact⟨by rw[key (by rw[e1];decide),e1],hS9.forget⟩|(have e1:nW ks.length cs i=3:=by rw[hC,if_neg (by omega),if_pos (by omega)]);exact⟨by rw[key (by rw[e1];decide),e1],hS9.forget⟩|(have e1:nW ks.length cs i=7:=by rw[hC,if_neg (by omega),if_neg (by omega),if_pos (by omega)]);exact⟨by rw[key (by rw[e1];decide),e1],hS9.forget⟩)
  simp(disch:=omega) only[↓RA,RZ,simprocAttr,hn,g0,hS9.ld 0 rfl,(hS9.sl hk).len,q1,q2,q3,h1,h2,h3]
  refine jA (fun h4=> ?_) (fun h4=> ?_)
  ·simp(disch:=omega) only[↓RA,RZ,simprocAttr,hn,a1C,q1,q2,q3,h1,h2,h3,h4]
   (first|(have e1:nW ks.length cs i=10:=by rw[hC,if_pos (by omega)]);exact⟨by rw[key (by rw[e1];decide),e1],hS9.forget⟩|(have e1:nW ks.length cs i=3:=by rw[hC,if_neg (by omega),if_pos (by omega)]);exact⟨by rw[key (by rw[e1];decide),e1],hS9.forget⟩|(have e1:nW ks.length cs i=7:=by rw[hC,if_neg (by omega),if_neg (by omega),if_pos (by omega)]);exact⟨by rw[key (by rw[e1];decide),e1],hS9.forget⟩)
  simp(disch:=omega) only[↓RA,RZ,simprocAttr,hn,hS9.ld 0 rfl,q1,q2,q3,h1,h2,h3,h4]
  refine jI (fun h5=> ?_) (fun h5=> ?_)
  ·simp(disch:=omega) only[↓RA,RZ,simprocAttr,hn,a1C,q1,q2,q3,h1,h2,h3,h4,h5]
   (first|(have e1:nW ks.length cs i=10:=by rw[hC,if_pos (by omega)]);exact⟨by rw[key (by rw[e1];decide),e1],hS9.forget⟩|(have e1:nW ks.length cs i=3:=by rw[hC,if_neg (by omega),if_pos (by omega)]);exact⟨by rw[key (by rw[e1];decide),e1],hS9.forget⟩|(have e1:nW ks.length cs i=7:=by rw[hC,if_neg (by omega),if_neg (by omega),if_pos (by omega)]);exact⟨by rw[key (by rw[e1];decide),e1],hS9.forget⟩)
  simp(disch:=omega) only[↓RA,RZ,simprocAttr,hn,hS9.ld 0 rfl,q1,q2,q3,h1,h2,h3,h4,h5]
  refine jA (fun h6=> ?_) (fun h6=> ?_)
  ·simp(disch:=omega) only[↓RA,RZ,simprocAttr,hn,a1C,q1,q2,q3,h1,h2,h3,h4,h5,h6]
   (first|(have e1:nW ks.length cs i=10:=by rw[hC,if_pos (by omega)]);exact⟨by rw[key (by rw[e1];decide),e1],hS9.forget⟩|(have e1:nW ks.length cs i=3:=by rw[hC,if_neg (by omega),if_pos (by omega)]);exact⟨by rw[key (by rw[e1];decide),e1],hS9.forget⟩|(have e1:nW ks.length cs i=7:=by rw[hC,if_neg (by omega),if_neg (by omega),if_pos (by omega)]);exact⟨by rw[key (by rw[e1];decide),e1],hS9.forget⟩)
  simp(disch:=omega) only[↓RA,RZ,simprocAttr,hn,hS9.ld 0 rfl,q1,q2,q3,h1,h2,h3,h4,h5,h6]
  refine jY (fun h7=> ?_) (fun h7=> ?_)
  ·simp(disch:=omega) only[↓RA,RZ,simprocAttr,hn,hS9.ld 0 rfl,q1,q2,q3,h3,h4,h5,h6,h7]
   refine jA (fun h8=> ?_) (fun h8=> ?_)
   ·simp(disch:=omega) only[↓RA,RZ,simprocAttr,hn,a1C,q1,q2,q3,h3,h4,h7,h8]
    (first|(have e1:nW ks.length cs i=10:=by rw[hC,if_pos (by omega)]);exact⟨by rw[key (by rw[e1];decide),e1],hS9.forget⟩|(have e1:nW ks.length cs i=3:=by rw[hC,if_neg (by omega),if_pos (by omega)]);exact⟨by rw[key (by rw[e1];decide),e1],hS9.forget⟩|(have e1:nW ks.length cs i=7:=by rw[hC,if_neg (by omega),if_neg (by omega),if_pos (by omega)]);exact⟨by rw[key (by rw[e1];decide),e1],hS9.forget⟩)
   simp(disch:=omega) only[↓RA,RZ,simprocAttr,hn,g0,g1,g27,g28,g29,q1,q2,q3,h3,h4,h5,h6,h7,h8]
   have e0:nW ks.length cs i=0:=by rw[hC,if_neg (by omega),if_neg (by omega),if_neg (by omega)]
   exact⟨n-1,by omega,i+1,⟨by omega,fun j hj=>by rcases dJ.1 hj with e|e;(· exact hz j e);(· rw[e];exact e0)⟩,by simp,hS9.sub (by simp)⟩
  simp(disch:=omega) only[↓RA,RZ,simprocAttr,hn,g0,g1,g27,g28,g29,q1,q2,q3,h1,h2,h3,h4,h5,h6,h7]
  have e0:nW ks.length cs i=0:=by rw[hC,if_neg (by omega),if_neg (by omega),if_neg (by omega)]
  exact⟨n-1,by omega,i+1,⟨by omega,fun j hj=>by rcases dJ.1 hj with e|e;(· exact hz j e);(· rw[e];exact e0)⟩,by simp,hS9.sub (by simp)⟩
 simp(disch:=omega) only[↓RA,RZ,simprocAttr,hn,a1C,q1]
 exact⟨by rw[hE,lW _ _ fun j hj=>hz j (by omega)],hS5.forget⟩
def pQ(rs:List Rk)(lo hi:Int)(l:List Stp)(j:Nat):Int:=if stopE rs lo hi (jB l j)≠0 then stopE rs lo hi (jB l j)else if ∃q,q<j∧(jB l q).name=(jB l j).name then 9 else 0
def divE(rs:List Rk)(d:Dvn):Int:=if sO d.lo d.hi≠0 then sO d.lo d.hi else if 60<d.stops.length then 4 else mR (pQ rs d.lo d.hi d.stops) d.stops.length
theorem a1k{kvs kvs':List (ByteArray×Bool)}{f:Nat→ByteArray}{i:Nat}(h:∀t,rV kvs t=true↔∃q,q<i∧f q=t)(h':∀t,rV kvs' t=(rV kvs t||decide (t=f i))):∀t,rV kvs' t=true↔∃q,q<i+1∧f q=t:=by
 intro t
 rw[h',fb,h,decide_eq_true_iff]
 constructor
 ·rintro(⟨q,hq,e⟩|e)
  ·exact⟨q,by omega,e⟩
  ·exact⟨i,by omega,e.symm⟩
 ·rintro⟨q,hq,e⟩
  rcases dJ.1 hq with hh|hh
  ·exact .inl ⟨q,hh,e⟩
  ·right;rw[←e,hh]
theorem a3r(t:ByteArray):rV [] t=false:=rfl
theorem c6c(o:Org)(ho:o.In H)(d:Dvn)(hd:d.In H):
 Fn prog 90 [.agg #[.string o.name,o.rv,o.dv,o.cv],.agg #[.string d.name,.bool d.pedal,I d.lo,I d.hi,d.sv]] H fun v H'=>v=I (divE o.ranks d)∧St prog H H' []:=by
 have hl:=hd.2.2
 refine .aE func90 rfl (by kernel_rfl) (m:=47) rfl fun l hn g0 g1=> ?_
 simp(disch:=omega) only[↓RA,RB,simprocAttr,g0]
 refine(sR H).eNew 4 [(.string o.name),o.rv,o.dv,o.cv] rfl rfl (by simp[OC,((sR H).sl ho.1).cells.2.1,((sR H).sl ho.2.2.1).cells.2.1,((sR H).sl ho.2.2.2.2.1).cells.2.1]) yG fun A1 H1 hS1=> ?_
 simp only[RT]at hS1
 simp(disch:=omega) only[↓RA,RB,simprocAttr,g1]
 refine hS1.eNew 5 [(.string d.name),(.bool d.pedal),I d.lo,I d.hi,d.sv] rfl rfl (by simp[OC,(hS1.sl hd.1).cells.2.1]) rR fun A2 H2 hS2=> ?_
 simp only[RT]at hS2
 simp(disch:=omega) only[↓RA,RZ,simprocAttr,hn,hS2.ae 1 rfl]
 refine hS2.cF (a2C d.lo d.hi) fun H3 hS3=> ?_
 simp(disch:=omega) only[↓RA,RB,simprocAttr,hn]
 refine jA (fun p1=> ?_) (fun p1=> ?_)
 ·simp(disch:=omega) only[↓RA,RZ,simprocAttr,hn,b6B,p1]
  exact⟨by rw[divE,if_pos p1],hS3.forget⟩
 simp(disch:=omega) only[↓RA,RZ,simprocAttr,hn,hS3.ld 1 rfl,(hS3.sl hd.1).len,p1]
 refine jA (fun p2=> ?_) (fun p2=> ?_)
 ·simp(disch:=omega) only[↓RA,RZ,simprocAttr,hn,b6B,p1,p2]
  exact⟨by rw[divE,if_neg p1,if_pos (by omega)],hS3.forget⟩
 have hE:divE o.ranks d=mR (pQ o.ranks d.lo d.hi d.stops) d.stops.length:=by rw[divE,if_neg p1,if_neg (by omega)]
 simp(disch:=omega) only[↓RA,simprocAttr]
 refine hS3.cb a8R fun M1 H4 hS4=> ?_
 simp only[RT]at hS4
 simp(disch:=omega) only[↓RA,RZ,simprocAttr,hn,hS4.ld 1 rfl,(hS4.sl hd.1).len,p1,p2]
 refine Wp.al (fun n l H'=>l.length=47∧get l 2=(ptr A1 0 4)∧get l 3=(ptr A2 0 5)∧get l 6=(.map (some M1))∧get l 23=d.sv∧get l 24=I d.stops.length∧∃(i:Nat)(kvs:List (ByteArray×Bool)),(n+i=d.stops.length∧(∀j,j<i→pQ o.ranks d.lo d.hi d.stops j=0)∧(∀t,rV kvs t=true↔∃q,q<i∧(jB d.stops q).name=t))∧get l 25=I i∧St prog H H' [⟨ptr A1 0 4,0,[(.string o.name),o.rv,o.dv,o.cv]⟩,⟨ptr A2 0 5,0,[(.string d.name),(.bool d.pedal),I d.lo,I d.hi,d.sv]⟩,⟨.map (some M1),0,KS kvs⟩]) d.stops.length ?_ ?_
 ·simp(disch:=omega) only[RB,RC,simprocAttr,hn]
  exact⟨0,[],⟨by omega,by simp,by simp[a3r]⟩,rfl,hS4⟩
 rintro n l H5⟨hn,g2,g3,g6,g23,g24,i,kvs,⟨hi1,hz,hk⟩,g25,hS5⟩
 simp(disch:=omega) only[↓RA,RB,simprocAttr,hn,g24,g25]
 refine jA (fun q1=> ?_) (fun q1=> ?_)
 ·have key:pQ o.ranks d.lo d.hi d.stops i≠0→divE o.ranks d=pQ o.ranks d.lo d.hi d.stops i:=fun hne=>by rw[hE,pO _ _ i (by omega) hne hz]
  simp(disch:=omega) only[↓RA,RZ,simprocAttr,hn,g23,g25,(hS5.sl hd.1).idx,(hS5.sl hd.1).ae,Stp.cells,q1]
  refine hS5.eNew 4 [(.string ⟨#[]⟩),I 0,I 0,(.slice none 0 0)] rfl rfl rfl rQ fun A3 H6 hS6=> ?_
  simp only[RT]at hS6
  simp(disch:=omega) only[↓RA,RZ,simprocAttr,hn,q1]
  refine hS6.aa 3 rfl [(.string (jB d.stops i).name),I (jB d.stops i).num,I (jB d.stops i).den,(jB d.stops i).gv] rfl (by simp[OC,(hS6.sl (hd.2.1 (jB d.stops i) (jE (by omega))).1).cells.2.1]) rQ (by simp) fun H7 hS7=> ?_
  simp only[RT]at hS7
  simp(disch:=omega) only[↓RA,RZ,simprocAttr,hn,g2,g3,hS7.ld 0 rfl,hS7.ae 1 rfl,b5G (hS7.sl ho.1).cells,hS7.ae 3 rfl,q1]
  refine hS7.cF (c1q o.rv o.ranks d.lo d.hi (hS7.sl ho.1) (fun r h=>(ho.2.1 r h).aj hS7) ho.2.2.2.2.2.1 (jB d.stops i) ((hd.2.1 _ (jE (by omega))).aj hS7)) fun H8 hS8=> ?_
  simp(disch:=omega) only[↓RA,RZ,simprocAttr,hn,q1]
  refine jA (fun q2=> ?_) (fun q2=> ?_)
  ·have e1:pQ o.ranks d.lo d.hi d.stops i=stopE o.ranks d.lo d.hi (jB d.stops i):=by rw[pQ,if_pos q2]
   simp(disch:=omega) only[↓RA,RZ,simprocAttr,hn,b6B,q1,q2]
   exact⟨by rw[key (by rw[e1];exact q2),e1],hS8.forget⟩
  simp(disch:=omega) only[↓RA,RZ,simprocAttr,hn,g6,hS8.ld 3 rfl,q1,q2]
  have hM1:=hS8.pick (os':=[⟨.map (some M1),0,_⟩]) [2] (by decide) rfl
  have hR1:=hS8.pick (os':=[⟨.map (some M1),0,_⟩,⟨ptr A1 0 4,0,_⟩,⟨ptr A2 0 5,0,_⟩,⟨ptr A3 0 4,0,_⟩]) [2,0,1,3] (by decide) rfl
  refine jF (a3d _ M1 kvs (jB d.stops i).name hM1.aR) ?_
  rintro r H9⟨rfl,kvs',hk',hT3⟩
  have hS9:=hR1.frame hT3
  simp only[RT]at hS9
  simp(disch:=omega) only[↓RA,RZ,simprocAttr,hn,q1,q2]
  refine jA (fun q3=> ?_) (fun q3=> ?_)
  ·have q3':rV kvs (jB d.stops i).name=true:=by
    by_cases hh:rV kvs (jB d.stops i).name=true
    ·exact hh
    ·rw[if_neg hh]at q3;exact absurd rfl q3
   have e1:pQ o.ranks d.lo d.hi d.stops i=9:=by rw[pQ,if_neg q2,if_pos ((hk _).1 q3')]
   simp(disch:=omega) only[↓RA,RZ,simprocAttr,hn,b6B,q1,q2,q3]
   exact⟨by rw[key (by rw[e1];decide),e1,if_pos q3'],hS9.forget⟩
  have q3':¬rV kvs (jB d.stops i).name=true:=fun hh=>q3 (by rw[if_pos hh];decide)
  have e0:pQ o.ranks d.lo d.hi d.stops i=0:=by rw[pQ,if_neg q2,if_neg (fun hh=>q3' ((hk _).2 hh))]
  simp(disch:=omega) only[↓RA,RZ,simprocAttr,hn,g2,g3,g6,g23,g24,g25,q1,q2,q3]
  exact⟨n-1,by omega,i+1,kvs',⟨by omega,fun j hj=>by rcases dJ.1 hj with e|e;(· exact hz j e);(· rw[e];exact e0),a1k (f:=fun q=>(jB d.stops q).name) hk hk'⟩,by simp,hS9.pick [1,2,0] (by decide) rfl⟩
 simp(disch:=omega) only[↓RA,RZ,simprocAttr,hn,b6B,q1]
 exact⟨by rw[hE,lW _ _ fun j hj=>hz j (by omega)],hS5.forget⟩
end Go.Ds
