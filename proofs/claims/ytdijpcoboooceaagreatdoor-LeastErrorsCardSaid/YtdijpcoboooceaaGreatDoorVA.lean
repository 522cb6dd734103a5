/-
  A part of the proof of LeastErrors.
-/
import Derived.RangeFuncLeaves
import Derived.OrdersIn
import Derived.Laws.Tables
import Derived.Laws.MakeOwn
import Derived.Laws.Cells
import Derived.Laws.CopyRow
import Derived.Laws.Append
import Derived.Laws.AppendOwn
import Derived.Great.BuildSlice
import Derived.IntWalk
import Derived.Orders
import Derived.RangeFuncRecord
import Derived.Laws.BytesString
import Derived.Laws.Pointers
import Derived.LaidEqlPtr
import Derived.Lib.UnsafeStr
import Derived.Lib.MakeNoZero
import Derived.Lib.Builder
import Derived.Laws.IdiomStrings
import Derived.Laws.Cover3
import Derived.LoopNIn
import Derived.Laws.Externs
import Derived.KernelRfl
set_option linter.unusedVariables false
set_option linter.unusedSimpArgs false
set_option linter.defProp false
set_option linter.unusedSectionVars false
set_option maxRecDepth 100000
set_option maxHeartbeats 2000000
namespace Go.Ds
def dC:= @Option.some.inj
def dD:= @Option.bind_some
def dE:= @Bool.and_eq_true
def dF:= @Option.bind_eq_some_iff
def dG:= @List.getD_eq_getElem?_getD
def dH:= @Result.andThen_ok
def dI:= @List.getElem?_eq_getElem
def dJ:= @Nat.le_refl
def dK:= @List.getElem?_eq_some_iff
def dL:= @Sem.run_bind
def dM:= @Array.getElem?_eq_some_iff
def dN:= @List.length_append
def dO:= @Option.map_eq_some_iff
def dP:= @Sem.run_pure
def dQ:= @List.all_eq_true
def dR:= @List.length_map
def dS:= @List.mem_map
def dT:= @List.mem_cons_self
def dU:= @Nat.lt_succ_iff_lt_or_eq
def dV:= @List.length_cons
def dW:= @List.flatMap_append
def dX:= @List.mem_singleton
def dY:= @List.map_append
def dZ:= @Nat.lt_of_lt_of_le
def ec:= @List.mem_range
def ed:= @List.mem_cons
def ee:= @List.append_nil
def ef:= @List.mem_of_getElem?
def eh:= @Nat.not_lt_zero
def ek:= @List.flatMap_cons
def eo:= @List.length_nil
def eu:= @Option.some.injEq
def ew:= @List.mem_cons_of_mem
def ey:= @Nat.le_trans
def ez:= @List.mem_append
def eE:= @List.mem_iff_getElem
def eF:= @Bool.not_eq_true'
def eG:= @Option.map_some
def eH:= @List.getElem?_drop
def eI:= @List.not_mem_nil
def eJ:= @List.getElem?_append_right
def eK:= @Classical.not_not
def eL:= @List.map_cons
def eM:= @List.mem_map_of_mem
def eN:= @Bool.false_eq_true
def eO:= @Nat.mul_le_mul_right
def eP:= @List.getElem?_take_of_lt
def eQ:= @List.getElem?_map
def eR:= @Nat.pow_le_pow_right
def eS:= @List.getElem?_append_left
def eT:= @Nat.eq_of_beq_eq_true
def eU:= @List.getElem?_toArray
def eV:= @List.length_filter_le
def eW:= @Classical.byContradiction
def eX:= @List.pairwise_iff_getElem
def eY:= @Int.ofNat_tmod
def eZ:= @List.getElem?_cons_zero
def fb:= @Nat.zero_le
def fc:= @Nat.eq_of_testBit_eq
def ff:= @List.getElem?_eq_none
def fg:= @List.take_length
def fh:= @Array.getD_eq_getD_getElem?
def fi:= @Bool.or_eq_true
def fj:= @List.range_succ
def fm:= @Nat.shiftRight_eq_div_pow
def fo:= @List.length_replicate
def fp:= @List.append_assoc
def fq:= @Bool.eq_iff_iff
def ft:= @Nat.lt_irrefl
def fu:= @List.eq_nil_of_length_eq_zero
def fw:= @List.pairwise_append
def fx:= @List.mem_flatMap
def fy:= @Nat.le_of_ble_eq_true
def fz:= @Nat.mod_lt
def fA:= @Nat.zero_testBit
def fB:= @Int.toNat_natCast
def fC:= @List.filter_append
def fD:= @List.getElem?_cons_succ
def fE:= @List.findIdx?_eq_some_iff_getElem
def fF:= @Bool.not_eq_true
def fG:= @List.range_eq_range'
def fH:= @Nat.testBit_lt_two_pow
def fI:= @List.pairwise_cons
def fJ:= @Nat.lt_or_eq_of_le
def fK:= @Array.getElem?_setIfInBounds_ne
def fL:= @List.set_append_right
def fM:= @Ne.symm
def fN:= @Nat.zero_add
def fO:= @Nat.testBit_two_pow
def fP:= @List.foldl_cons
def fQ:= @List.nil_append
def fR:= @List.mem_filter
def fS:= @Nat.two_pow_pos
def fT:= @List.length_eq_zero_iff
def fU:= @Array.getElem?_append_left
def fV:= @Nat.succ_ne_zero
def fW:= @Array.getElem?_eq_getElem
def fX:= @List.mem_of_find?_eq_some
def fY:= @List.findIdx?_cons
def fZ:= @Option.isSome_iff_exists
def ga:= @Option.getD_some
def gb:= @List.size_toArray
def gf:= @List.map_map
def gg:= @Nat.add_sub_cancel_left
def gh:= @Nat.eq_of_mul_eq_mul_right
def gi:= @Nat.pow_lt_pow_right
def gj:= @Bool.and_true
def gk:= @Bool.true_and
def gm:= @List.cons_append
def gn:= @List.drop_eq_getElem_cons
def gp:= @Int.toNat_of_nonneg
def gq:= @List.pairwise_map
def gr:= @Array.getElem?_modify
def gu:= @List.all_cons
def gx:= @Bool.false_and
def gy:= @List.cons.injEq
def gz:= @Nat.succ_pos
def gA:= @Nat.testBit_and
def gB:= @List.mem_filterMap
def gC:= @Nat.add_mul
def gD:= @List.getElem_mem
def gE:= @List.length_take
def gF:= @List.length_drop
def gG:= @Nat.testBit_or
def gI:= @List.drop_drop
def gJ:= @Function.comp_def
def gK:= @Nat.succ_mul
def gL:= @Nat.or_lt_two_pow
def gM:= @List.take_add_one
def gN:= @List.filter_eq_nil_iff
def gO:= @Array.length_toList
def gP:= @Array.toList_append
def gQ:= @Nat.min_eq_left
def gR:= @List.length_set
def gS:= @Bool.and_eq_false_iff
def gT:= @List.length_singleton
def gU:= @Nat.lt_or_gt_of_ne
def gV:= @List.range'_succ
def gW:= @List.find?_eq_none
def gX:= @Nat.lt_of_le_of_lt
def gY:= @List.flatMap_nil
def gZ:= @Option.toList_some
def ia:= @Array.getElem?_setIfInBounds_self_of_lt
def ib:= @List.map_set
def ic:= @List.sublist_append_left
def ig:= @Int.ofNat_eq_natCast
def ij:= @BitVec.testBit_toNat
def ik:= @List.getElem?_set
def il:= @Int.eq_ofNat_of_zero_le
def im:= @List.length_pos_iff
def iq:= @Nat.testBit_two_pow_sub_one
def ir:= @Nat.add_assoc
def iu:= @Nat.mod_eq_of_lt
def iw:= @Nat.div_eq_of_lt
def iy:= @BitVec.toNat_and
def iz:= @List.set_cons_zero
def iA:= @Int.fdiv_eq_ediv_of_nonneg
def iB:= @Array.getElem?_toList
def iC:= @List.set_getElem_self
def iD:= @List.take_append_drop
def iE:= @Bool.eq_false_iff
def iF:= @List.ext_getElem?
def iG:= @Nat.lt_trichotomy
def iH:= @List.length_range
def iI:= @List.foldl_append
def iJ:= @BitVec.ofInt_natCast
def iK:= @List.mem_of_mem_take
def iL:= @Nat.le_of_lt_succ
def iM:= @Oper.semAt_eq
def iN:= @List.map_congr_left
def iO:= @Nat.le_mul_of_pos_right
def iP:= @Nat.lt_succ_self
def iQ:= @List.find?_eq_some_iff_getElem
def iR:= @Nat.testBit_mod_two_pow
def iS:= @Nat.add_zero
def iT:= @Nat.pos_of_ne_zero
def iU:= @Array.ext_getElem?
def iV:= @List.map_nil
def iW:= @List.getElem_range
def iX:= @List.flatMap_singleton
def iY:= @List.map_singleton
def iZ:= @List.mem_zipIdx_iff_getElem?
def ja:= @List.find?_some
def jb:= @Nat.and_le_left
def jc:= @Prod.mk.injEq
def jd:= @List.mem_append_right
def je:= @List.nodup_append
def jf:= @Array.toList_map
def jg:= @List.any_eq_true
def jh:= @Nat.lt_of_not_le
def ji:= @Nat.le_of_not_lt
def jj:= @Nat.lt_or_ge
def jl:= @List.filter_cons
def jn:= @List.drop_length
def jo:= @List.mem_or_eq_of_mem_set
def jq:= @List.findIdx?_eq_none_iff
def jr:= @List.getElem?_range
def js:= @List.drop_succ_cons
def jt:= @Prod.ext
def ju:= @List.nodup_cons
def jv:= @Array.foldl_toList
def jw:= @Nat.mul_one
def jy:= @List.getElem?_replicate
def jz:= @List.pairwise_singleton
def jA:= @List.filter_cons_of_pos
def jB:= @List.filter_cons_of_neg
def jC:= @List.all_nil
def jD:= @Nat.sub_self
def jE:= @Nat.add_comm
def jF:= @Bool.not_eq_false
def jG:= @Nat.mul_comm
def jH:= @Nat.or_assoc
def jI:= @Array.ext'
def jJ:= @Nat.blt_eq
def jK:= @List.mem_toArray
def jL:= @List.getElem_map
def jM:= @List.getElem_set
def jN:= @Nat.min_eq_right
def jO:= @Bool.and_self
def jP:= @Nat.mul_pos
noncomputable section
def kG:Value->Bool| .bool _|.int _ _|.string _|.nilFunc|.nilIface=>true| .pointer none|.map none=>true| .slice none n c=>n==0&&c==0| _=>false
def lX(l:List Value):Bool:=l.all kG
def kR:Value->Bool| .agg cs=>lX cs.toList| v=>kG v
def flat:Value->Bool| .tuple vs=>vs.toList.all kR| v=>kR v
def oneCell:Value->Bool| .agg _|.tuple _=>false| _=>true
def lV{α:Type}(n:Nat)(K:Nat->α):α:=match n with| 0=>K 0| m+1=>K (m+1)
def b3h{α:Type}(n:Int)(K:Int->α):α:=match n with| .ofNat m=>lV m λm=>K (.ofNat m)| .negSucc m=>lV m λm=>K (.negSucc m)
def a2C{α:Type}(b:Bool)(K:Bool->α):α:=match b with| true=>K true| false=>K false
def a8z{α:Type}(n:Option Nat)(K:Option Nat->α):α:=match n with| none=>K none| some n=>lV n λn=>K (some n)
def a7L{α:Type}(a:Option Addr)(K:Option Addr->α):α:=match a with| none=>K none| some ⟨b,o,s⟩=>lV b λb=>lV o λo=>a8z s λs=>K (some ⟨b,o,s⟩)
def a1Z{α:Type}(v:Value)(K:Value->α):α:=match v with| .int k n=>b3h n λn=>K (.int k n)| .bool b=>a2C b λb=>K (.bool b)| .pointer a=>a7L a λa=>K (.pointer a)| .slice a n c=>a7L a λa=>lV n λn=>lV c λc=>K (.slice a n c)| .map r=>a8z r λr=>K (.map r)| v=>K v
def a0l{α β:Type}(f:β->(β->α)->α)(l:List β):(List β->α)->α:=List.rec (motive:=λ_=>(List β->α)->α) (λK=>K []) (λv _ ih K=>f v λv=>ih λl=>K (v::l)) l
def a0j{α:Type}(v:Value)(K:Value->α):α:=match v with| .agg ⟨cs⟩=>a0l a1Z cs λcs=>K (.agg ⟨cs⟩)| .func fn ⟨a⟩ ⟨b⟩=>a0l a1Z a λa=>a0l a1Z b λb=>K (.func fn ⟨a⟩ ⟨b⟩)| v=>a1Z v K
def a1N{α:Type}(v:Value)(K:Value->α):α:=match v with| .tuple ⟨cs⟩=>a0l a0j cs λcs=>K (.tuple ⟨cs⟩)| v=>a0j v K
inductive Blk where| cells (cs:List Value) (ty:TypeId) (rw:Bool) (lo ver:Nat)| map (es:List MapEntry) (clock ver:Nat)| loop (r:Loop) deriving Inhabited
inductive Tr where| e| n (b:Option Blk) (l r:Tr)
def rI(t:Tr):Nat->Option Blk:=Tr.rec (motive:=λ_=>Nat->Option Blk) (λ_=>none) (λb _ _ ihl ihr k=>Nat.rec (motive:=λ_=>Option Blk) b (λk _=>Bool.rec (motive:=λ_=>Option Blk) (ihr (Nat.div k 2)) (ihl (Nat.div k 2)) (Nat.beq (Nat.mod k 2) 0)) k) t
def a4P(b:Blk)(f:Nat):Nat->Tr:=Nat.rec (motive:=λ_=>Nat->Tr) (λ_=>.n (some b) .e .e) (λ_ ih k=>Nat.rec (motive:=λ_=>Tr) (.n (some b) .e .e) (λk _=>Bool.rec (motive:=λ_=>Tr) (.n none .e (ih (Nat.div k 2))) (.n none (ih (Nat.div k 2)) .e) (Nat.beq (Nat.mod k 2) 0)) k) f
def pT{α:Type}(b:Blk)(t:Tr):Nat->(Tr->α)->α:=Tr.rec (motive:=λ_=>Nat->(Tr->α)->α) (λk K=>K (a4P b k k)) (λc l r ihl ihr k K=>Nat.rec (motive:=λ_=>α) (K (.n (some b) l r)) (λk _=>Bool.rec (motive:=λ_=>α) (ihr (Nat.div k 2) λr=>K (.n c l r)) (ihl (Nat.div k 2) λl=>K (.n c l r)) (Nat.beq (Nat.mod k 2) 0)) k) t
structure Heap where
 length:Nat
 tr:Tr
def Heap.nil:Heap:=⟨0,.e⟩
def Heap.cons(H:Heap)(b:Blk):Heap:=pT b H.tr H.length λt=>⟨Nat.succ H.length,t⟩
def pX{α:Type}(H:Heap)(K:Heap->α):α:=Heap.rec (motive:=λ_=>α) (λn t=>lV n λn=>K ⟨n,t⟩) H
def Blk.dB:Blk->Nat| .cells _ _ _ _ v=>v| .map _ _ v=>v| .loop _=>0
def kB(H:Heap)(A:Nat):Option Blk:=match Nat.blt A H.length with| true=>rI H.tr A| false=>none
def d0a{α β:Type}(x:α)(l:List α):Nat->(List α->β)->β:=List.rec (motive:=λ_=>Nat->(List α->β)->β) (λ_ K=>K []) (λv t ih n K=>Nat.rec (motive:=λ_=>β) (K (x::t)) (λm _=>ih m λt=>K (v::t)) n) l
def c9w{α:Type}(l:List α)(k:Nat)(x:α):List α:=d0a x l k λl=>l
def c8m{α β:Type}(m:List α)(l:List α):(List α->β)->β:=List.rec (motive:=λ_=>(List α->β)->β) (λK=>K m) (λv _ ih K=>ih λt=>K (v::t)) l
def a7Z{α:Type}(l m:List α):List α:=c8m m l λl=>l
def uV{α:Type}(b:Blk)(K:Blk->α):α:=match b with| .cells cs ty rw lo ver=>a0l a0j cs λcs=>a2C rw λrw=>lV lo λlo=>lV ver λver=>K (.cells cs ty rw lo ver)| .map es c v=>K (.map es c v)| .loop r=>K (.loop r)
def hset(H:Heap)(A:Nat)(b:Blk):Heap:=match Nat.blt A H.length with| true=>uV b λb=>pT b H.tr A λt=>⟨H.length,t⟩| false=>H
def d5b:Value->Option Nat| .pointer (some a)=>some a.block| .map (some r)=>some r| _=>none
def get(l:List Value)(t:Tmp):Value:=List.rec (motive:=λ_=>Nat->Value) (λ_=>undef) (λv _ ih n=>Nat.rec (motive:=λ_=>Value) v (λm _=>ih m) n) l t
def put(l:List Value)(d:Option Tmp)(v:Value):List Value:=match d with|some k=>c9w l k v|none=>l
def ev(l:List Value):Operand->Value| .tmp t=>get l t| .const v=>v| .global g=>.pointer (some ⟨g,0,none⟩)| .func f=>.func (.func f) #[] #[]
def kC{α:Type}(P:Program):Sem α->Option α| .pure a=>some a| .program k=>kC P (k P)| _=>none
def jT(P:Program)(t:TypeId):Option Nat:=(P.info? t).map (·.size)
def oW(P:Program)(t:TypeId):Option Nat:=(P.info? t).map (·.bytes)
def lE(P:Program)(t:TypeId):Option Bool:=match P.underlying t with| some (.struct _)|some (.array _ _)=>some true| some _=>some false| none=>none
def kN(P:Program)(t:TypeId):Option Value:=(P.info? t).bind (·.zero)
def kQ:List Value->Nat->List Value->List Value| cs,_,[]=>cs| cs,i,v::vs=>kQ (c9w cs i v) (i+1) vs
def kT(H:Heap)(A i e n:Nat):Option (List Value):=match kB H A with| some (.cells cs _ _ lo _)=>if lo<=e&&e<=cs.length&&i+n<=e then some ((cs.drop i).take n)else none| _=>none
def mU(P:Program)(H:Heap)(t:TypeId)(v:Value):Option Value:=match v with| .pointer (some ⟨A,i,some e⟩)=>(match lE P t with| some true=>(jT P t).bind λn=>(kT H A i e n).map λl=>.agg l.toArray| some false=>(kT H A i e 1).bind λl=>l[0]?| none=>none)| .pointer (some ⟨A,i,none⟩)=>(match kB H A with| some (.cells cs _ false _ 1)=>(match lE P t with| some true=>(jT P t).bind λn=>(kT H A i cs.length n).map λl=>.agg l.toArray| some false=>(kT H A i cs.length 1).bind λl=>l[0]?| none=>none)| _=>none)| _=>none
def tJ(P:Program)(H:Heap)(t:TypeId)(p v:Value):Option Heap:=
 match p with
 | .pointer (some ⟨A,i,some e⟩)=>
   match kB H A with
   | some (.cells cs ty true lo ver)=>
     let vs:=v.cells.toList
     if jT P t=some vs.length∧vs.all oneCell=true∧e=cs.length∧i+vs.length≤e∧lo≤e then
      some (hset H A (.cells (kQ cs i vs) ty true cs.length ver))
     else none
   | _=>none
 | _=>none
def uI(H:Heap)(ty:TypeId)(cs:List Value):Heap:=uV (.cells cs ty true cs.length 0) λb=>H.cons b
def a0p(P:Program)(H:Heap)(t:TypeId)(v:Value):Option (Value×Heap):=
 let cs:=v.cells.toList
 if cs.all oneCell&&jT P t==some cs.length then some (.pointer (some ⟨H.length,0,some cs.length⟩),uI H t cs)else none
def c2g(H:Heap)(ty:TypeId)(cs:List Value):Heap:=uV (.cells cs ty false cs.length 0) λb=>H.cons b
def c2S(H:Heap)(ty:TypeId)(cs:List Value):Heap:=uV (.cells cs ty true cs.length 2) λb=>H.cons b
def tL(P:Program)(H:Heap)(t:TypeId)(v:Value):Option (Value×Heap):=
 match P.underlying t with
 | some (.array n elem)=>let cs:=v.cells.toList
   if cs.all oneCell&&jT P t==some cs.length&&(match jT P elem with|some k=>n*k==cs.length&&k !=0|none=>false)then some (.pointer (some ⟨H.length,0,some cs.length⟩),c2S H elem cs)else none
 | _=>a0p P H t v
def qI:Nat:=2^44
def jX(P:Program)(t:TypeId):Option TypeId:=match P.underlying t with| some (.slice e)=>some e| _=>none
def a2v(H:Heap)(size:Nat)(x:Value):Option (Nat×List Value):=match x with| .slice none _ _=>some (0,[])| .slice (some ⟨A,i,some e⟩) n _=>(kT H A i e (n*size)).map λl=>(n,l)| .string b=>if size==1 then some (b.size,b.data.toList.map λc=>.int .u8 c.toNat)else none| _=>none
def pV(P:Program)(H:Heap)(sType:TypeId)(s x:Value):Option (Value×Heap):=(jX P sType).bind λelem=>(jT P elem).bind λsize=>(oW P elem).bind λbytes=>(kN P elem).bind λz=>(a2v H size x).bind λ(n,l)=>match s with| .slice none k c=>if k==0&&c==0&&size !=0&&n*(bytes+1)<=qI&&z.cells.size==size then if n==0 then some (s,H)else some (.slice (some ⟨H.length,0,some l.length⟩) n size,uI H elem l) else none| .slice (some ⟨A,i,some e⟩) k _=>(match kB H A with| some (.cells cs ty true lo ver)=>if size !=0&&(k+n)*(bytes+1)<=qI&&z.cells.size==size&&(ty==elem||jT P ty==some size)&&i+k*size==e&&e==cs.length&&lo<=e then some (.slice (some ⟨A,i,some (e+l.length)⟩) (k+n) size,hset H A (.cells (a7Z cs l) ty true lo (if ty==elem then ver else 2))) else if size !=0&&n !=0&&z.cells.size==size&&(ty==elem||jT P ty==some size)&&i+(k+n)*size<=e&&e==cs.length&&lo<=e then some (.slice (some ⟨A,i,some e⟩) (k+n) size,hset H A (.cells (kQ cs (i+k*size) l) ty true cs.length ver)) else none| _=>none)| _=>none
def d0i(H:Heap)(size n:Nat)(x:Value):Option (List Value):=match x with| .slice none _ _=>if n==0 then some []else none| .slice (some ⟨A,i,some e⟩) k _=>if n<=k then kT H A i e (n*size)else none| .string b=>if size==1&&n<=b.size then some ((b.data.toList.take n).map λc=>.int .u8 c.toNat)else none| _=>none
def a4I:Value->Option Nat| .slice _ n _=>some n| .string s=>some s.size| _=>none
def a5m(P:Program)(H:Heap)(dType:TypeId)(d x:Value):Option (Value×Heap):=
 (jX P dType).bind fun elem=>(jT P elem).bind fun size=>(a4I x).bind fun m=>
 match d with
 | .slice none k _=>if k==0 then some (goInt 0,H)else none
 | .slice (some ⟨A,i,some e⟩) k _=>
   let n:=Nat.min m k
   if n==0 then some (goInt 0,H)else
   (d0i H size n x).bind fun l=>
   match kB H A with
   | some (.cells cs ty true lo ver)=>
     if e==cs.length&&i+l.length≤e&&lo≤e then some (goInt n,hset H A (.cells (kQ cs i l) ty true cs.length ver))else none
   | _=>none
 | _=>none
def xG(e:MapEntry):MapEntry:={e with val:=undef}
def tQ(P:Program)(kt:TypeId)(k:Value)(es:List MapEntry):Option (Option Nat):=(kC P (Instr.findKey kt k (es.map xG))).map λr=>r.map (·.1)
def a0e(P:Program)(t:TypeId):Option (TypeId×TypeId):=match P.underlying t with|some (.map k e)=>some (k,e)|_=>none
def a5E(H:Heap):Value->Option (List MapEntry)| .map none=>some []| .map (some A)=>(match kB H A with|some (.map es _ _)=>some es|_=>none)| _=>none
def zZ(P:Program)(b:Bool)(kt:TypeId)(k:Value):Bool:=flat k&&(kC P (Instr.checkKey b 10000 kt k)).isSome
def pairV(c:Bool)(v:Value)(b:Bool):Value:=if c then .tuple #[v,.bool b]else v
def oL:Value->Bool| .tuple _=>false| _=>true
def sA(P:Program)(H:Heap)(t:TypeId)(x k:Value)(c:Bool):Option Value:=(a0e P t).bind λ(kt,et)=>(a5E H x).bind λes=>if zZ P es.isEmpty kt k then (tQ P kt k es).bind (λr=>match r with| some j=>(es[j]?).bind λe=>if oL e.val then some (pairV c e.val true)else none| none=>(kN P et).bind λz=>if kR z then some (pairV c z false)else none) else none
def a0w(P:Program)(H:Heap)(t:TypeId)(m k v:Value):Option Heap:=(a0e P t).bind λ(kt,_)=>match m with| .map (some A)=>(match kB H A with| some (.map es ck ver)=>if zZ P false kt k then (tQ P kt k es).bind (λr=>match r with| some j=>(es[j]?).bind λe=>if Instr.sameBits 10000 e.key k then some (hset H A (.map (es.set j {e with key:=k,val:=v}) ck (ver+1)))else none| none=>some (hset H A (.map (es++[{key:=k,val:=v,born:=ck}]) (ck+1) (ver+1)))) else none| _=>none)| _=>none
def sG(P:Program)(H:Heap)(t:TypeId)(r:Option Value):Option (Value×Heap):=(a0e P t).bind λ_=>match r with| none|some (.int _ _)=>some (.map (some H.length),H.cons (.map [] 0 0))| _=>none
def tI(P:Program)(H:Heap)(t:TypeId)(m k:Value):Option (Value×Heap):=(a0e P t).bind λ(kt,et)=>match m with| .map (some A)=>(match kB H A with| some (.map es ck ver)=>if zZ P false kt k then (tQ P kt k es).bind (λr=>match r with| some j=>(es[j]?).bind λe=>if Instr.sameBits 10000 e.key k&&oL e.val then some (.tuple #[e.val,goInt e.born],hset H A (.map (es.set j {e with key:=k}) ck (ver+1)))else none| none=>(kN P et).bind λz=>if kR z then some (.tuple #[z,goInt ck],hset H A (.map (es++[{key:=k,val:=z,born:=ck}]) (ck+1) (ver+1)))else none) else none| _=>none)| _=>none
def tH(H:Heap)(m b v:Value):Option Heap:=match m,b with| .map (some A),.int _ n=>(match kB H A with| some (.map es ck ver)=>(match es.findIdx? (λe=>(e.born:Int)==n)with| some j=>(es[j]?).bind λe=>some (hset H A (.map (es.set j {e with val:=v}) ck (ver+1)))| none=>none)| _=>none)| _,_=>none
def mP(P:Program)(t:TypeId):Bool:=match P.underlying t with| some (.slice e)=>(match P.underlying e with|some (.int .u8)=>jT P e==some 1|_=>false)| _=>false
def qH(P:Program)(t:TypeId):Bool:=match P.underlying t with|some .string=>true|_=>false
def xC(P:Program)(t:TypeId):Bool:=match P.underlying t with|some (.pointer e)=>(P.info? e).isSome|_=>false
def a1k:Value->Option UInt8| .int .u8 (.ofNat n)=>if n<256 then some (UInt8.ofNat n)else none| _=>none
def a2a:List Value->Option (List UInt8)| []=>some []| v::l=>(a1k v).bind λb=>(a2a l).map λl=>b::l
def oH(l:List Value):Option ByteArray:=(a2a l).map λl=>⟨l.toArray⟩
def a7e(P:Program)(H:Heap)(s t:TypeId)(A e:Nat):Bool:=match P.underlying s,P.underlying t,kB H A with| some (.pointer u),some .unsafePointer,some (.cells cs ty true _ 0)=>u==ty&&e==cs.length&&e !=0&&jT P ty==some e| some .unsafePointer,some (.pointer u),some (.cells cs ty true _ 0)=>u==ty&&e==cs.length&&e !=0&&jT P ty==some e| _,_,_=>false
def yZ(P:Program)(H:Heap)(pt:TypeId)(p n:Value):Option (Value×Heap):=match P.underlying pt,p,n with| some (.pointer e0),.pointer (some ⟨A,i,some e⟩),.int .i64 (.ofNat n)=>(match kB H A with| some (.cells cs ty true lo 0)=>if n !=0&&i==0&&e0==ty&&e==cs.length&&n<=2^62&&jT P ty==some 1 then ((kT H A i e n).bind oH).map λb=>(.string b,hset H A (.cells cs ty false lo 0)) else none| _=>none)| _,_,_=>none
def sQ(P:Program)(k:FuncId)(args:List Value)(H:Heap):Option (Value×Heap):=(P.funcs[k]?).bind λfn=>if fn.body.isNone&&fn.origin== "" then if fn.name== "internal/abi.NoEscape" then (match args with|[v]=>some (v,H)|_=>none) else if fn.name== "internal/bytealg.MakeNoZero" then (match args,fn.resultTypes[0]? with| [.int .i64 (.ofNat n)],some t=>if n<=2^40&&n !=0 then(jX P t).bind λelem=>if jT P elem==some 1 then some (.slice (some ⟨H.length,0,some n⟩) n 1,uI H elem (List.replicate n (.chan (some 0))))else none else none| _,_=>none) else if fn.name== "internal/bytealg.abigen_runtime_cmpstring" then (match args with| [.string a,.string b]=>(match kC P (Extern.BytealgCompare.compare #[.string a,.string b])with|some v=>if flat v then some (v,H)else none|none=>none)| _=>none) else none else none
def wN(P:Program)(H:Heap)(t:TypeId)(x:Value):Option (Value×Heap):=
 (jX P t).bind fun elem=>(kN P elem).bind fun z=>
 match x with
 | .slice none _ _=>some (.tuple #[],H)
 | .slice (some ⟨A,i,some e⟩) n _=>if n==0 then some (.tuple #[],H)else
   let l:=(Builtin.zeroCells z.cells n).toList
   match kB H A with
   | some (.cells cs ty true lo ver)=>
     if lX l&&e==cs.length&&i+l.length≤e&&lo≤e then some (.tuple #[],hset H A (.cells (kQ cs i l) ty true cs.length ver))else none
   | _=>none
 | _=>none
def yH:Value->Option Nat| .int _ n=>if 0<=n then some n.toNat else none| _=>none
def c3e(hi:Option Value)(n:Nat):Option Nat:=match hi with|some h=>yH h|none=>some n
def b6r(lo:Option Value):Option Nat:=match lo with|some l=>yH l|none=>some 0
def a0g(P:Program)(t:TypeId)(x:Value)(lo hi:Option Value):Option Value:=(jX P t).bind λelem=>(jT P elem).bind λsize=>match x with| .slice (some ⟨A,i,some e⟩) n c=>(c3e hi n).bind λh=>(b6r lo).bind λl=>if l<=h&&h<=n&&c==size then some (.slice (some ⟨A,i+l*size,some e⟩) (h-l) size)else none| _=>none
def lG(P:Program)(t:TypeId):Option (Nat×TypeId):=match P.underlying t with| some (.array n e)=>some (n,e)| _=>none
def a8H(P:Program)(H:Heap)(n:Nat)(elem:TypeId)(x:Value)(lo hi:Option Value):Option Value:=(jT P elem).bind λsize=>match x with| .pointer (some ⟨A,0,some e⟩)=>(match kB H A with| some (.cells _ ty true _ _)=>(c3e hi n).bind λh=>(b6r lo).bind λl=>if l<=h&&h<=n&&e==n*size&&ty==elem then some (.slice (some ⟨A,l*size,some e⟩) (h-l) size)else none| _=>none)| _=>none
def qQ(P:Program)(s:TypeId)(f:Nat):Option Field:=match P.underlying s with| some (.struct fs)=>fs[f]?| _=>none
def a0D(H:Heap)(x:Value):Option Value:=match x with| .slice _ n _=>some (goInt n)| .string s=>some (goInt s.size)| .map (some r)=>(match kB H r with|some (.map es _ _)=>some (goInt es.length)|_=>none)| .map none=>some (goInt 0)| _=>none
def sJ:TypeDesc->Bool|.int _=>false|_=>true
def yU:TypeDesc->Bool|.slice _=>true|_=>false
def kH:Operand->Bool| .tmp _=>true| .const v=>flat v| .global _=>true| .func _=>true
def c5e:Int->Int->Int| .ofNat a,.ofNat b=>.ofNat (a+b)| a,b=>a+b
def c6p:Int->Int->Int| .ofNat a,.ofNat b=>(match Nat.ble b a with| true=>.ofNat (a-b)| false=>.negSucc (b-a-1))| a,b=>a-b
def ltI:Int->Int->Bool| .ofNat a,.ofNat b=>Nat.blt a b| .ofNat _,.negSucc _=>false| .negSucc _,.ofNat _=>true| .negSucc a,.negSucc b=>Nat.blt b a
def eqI:Int->Int->Bool| .ofNat a,.ofNat b=>Nat.beq a b| .negSucc a,.negSucc b=>Nat.beq a b| _,_=>false
def a0c(k:IntKind)(n:Int):Int:=match k with| .i64=>(match n with| .ofNat m=>(match Nat.blt m 9223372036854775808 with| true=>.ofNat m| false=>k.wrap n)| n=>match ltI n (-9223372036854775808)with| true=>k.wrap n| false=>n)| .u64=>(match n with| .ofNat m=>(match Nat.blt m 18446744073709551616 with| true=>.ofNat m| false=>k.wrap n)| n=>k.wrap n)| k=>k.wrap n
def oR(op:BinOp)(k:IntKind)(a b:Int):Option Value:=match op with| .add=>some (.int k (a0c k (c5e a b)))| .sub=>some (.int k (a0c k (c6p a b)))| .mul=>some (.int k (a0c k (a*b)))| .quo=>(match eqI b 0 with|true=>none|false=>some (.int k (a0c k (a.tdiv b))))| .rem=>(match eqI b 0 with|true=>none|false=>some (.int k (a.tmod b)))| .eql=>some (.bool (eqI a b))| .neq=>some (.bool (!eqI a b))| .lss=>some (.bool (ltI a b))| .leq=>some (.bool (!ltI b a))| .gtr=>some (.bool (ltI b a))| .geq=>some (.bool (!ltI a b))| _=>none
def mE(P:Program)(o:Oper)(l:List Value)(H:Heap):Option (Value×Heap):=if o.op.operands.toList.all (λx=>flat (ev l x))then (match kC P (execOp (ev l) o)with| some (.value v)=>if flat v then some (v,H)else none| _=>none) else none
def rF:Value->Bool| .func _ _ _|.agg _|.tuple _|.iface _ _=>false| _=>true
def a3I(P:Program)(t:TypeId)(x i:Value):Option Value:=match P.underlying t,x,i with| some (.array n elem),.agg cs,.int _ j=>if lE P elem=some false∧jT P elem=some 1∧0<=j∧j<n then cs[j.toNat]? else none| _,_,_=>none
def opD(P:Program)(o:Oper)(l:List Value)(H:Heap):Option (Value×Heap):=
 let ρ:=ev l
 let keep (v:Option Value):Option (Value×Heap):=v.map fun v=>(v,H)
 let plain:Option (Value×Heap):=mE P o l H
 match o.op with
 | .move x|.assign x=>some (ρ x,H)
 | .pick c a b=>match ρ c with|.bool t=>some (if t then ρ a else ρ b,H)|_=>none
 | .alloc t=>(kN P t).bind fun z=>if kR z then tL P H t z else none
 | .box t x=>a0p P H t (ρ x)
 | .build t parts=>
   let ps:=parts.toList.map fun(i,x)=>(i,ρ x)
   if(kN P t).any kR&&ps.all (fun x=>x.2.cells.toList.all oneCell)then
    (P.built t ps).map fun cs=>(.agg cs,H)
   else none
 | .buildSlice t len parts=>
   (jX P t).bind fun elem=>(jT P elem).bind fun size=>(kN P elem).bind fun z=>
   let ps:=parts.toList.map fun(i,x)=>(i,ρ x)
   if len==0&&ps.isEmpty&&size !=0 then some (.slice (some ⟨H.length,0,some 0⟩) 0 size,uI H elem [])else
   if kR z&&ps.all (fun x=>x.2.cells.toList.all oneCell)&&len*size≤2^24&&len*size !=0&&z.cells.size==size then
    (Instr.fill (fun i=>some (i*size,size)) ((Array.range (len*size)).map (z.cells[·%z.cells.size]!)) ps).map fun cs=>
      (.slice (some ⟨H.length,0,some cs.toList.length⟩) len size,uI H elem cs.toList)
   else none
 | .makeSlice t n c=>
   (jX P t).bind fun elem=>(jT P elem).bind fun size=>(oW P elem).bind fun bytes=>(kN P elem).bind fun z=>
   match ρ n,ρ c with
   | .int _ a,.int _ b=>
     if kR z&&decide (a≤b)&&0≤a&&b*(bytes+1)≤(qI:Int)&&size !=0&&z.cells.size==size then
      let cs:=if size=1 then List.replicate b.toNat (z.cells[0]!)else(madeCells z.cells (b.toNat*size)).toList
      some (.slice (some ⟨H.length,0,some cs.length⟩) a.toNat size,uI H elem cs)
     else none
   | _,_=>none
 | .load t a=>keep (mU P H t (ρ a))
 | .store t a x=>(tJ P H t (ρ a) (ρ x)).map fun H=>(undef,H)
 | .nilCheck x=>match ρ x with
   | .pointer (some a)=>some (.pointer (some a),H)
   | .func (.func f) a b=>some (.func (.func f) a b,H)
   | _=>none
 | .fieldAddr s x f=>match ρ x with
   | .pointer (some ⟨A,i,some e⟩)=>(qQ P s f).bind fun fd=>(jT P fd.type).bind fun n=>if n==0 then none else some (.pointer (some ⟨A,i+fd.offset,some e⟩),H)
   | _=>none
 | .indexAddr t x ix=>match P.underlying t,ρ x,ρ ix with
   | some (.slice elem),.slice (some ⟨A,i,some e⟩) n _,.int _ j=>(jT P elem).bind fun size=>
     if 0≤j&&j<n then some (.pointer (some ⟨A,i+j.toNat*size,some e⟩),H)else none
   | some (.array n elem),.pointer (some ⟨A,i,some e⟩),.int _ j=>(jT P elem).bind fun size=>
     if 0≤j&&j<n then some (.pointer (some ⟨A,i+j.toNat*size,some e⟩),H)else none
   | some (.array n elem),.pointer (some ⟨A,i,none⟩),.int _ j=>(jT P elem).bind fun size=>
     if 0≤j&&j<n then some (.pointer (some ⟨A,i+j.toNat*size,none⟩),H)else none
   | _,_,_=>none
 | .slice t x lo hi none=>if flat (ρ x)then plain else match lG P t with
   | some (n,elem)=>keep (a8H P H n elem (ρ x) (lo.map ρ) (hi.map ρ))
   | none=>keep (a0g P t (ρ x) (lo.map ρ) (hi.map ρ))
 | .field t x f=>if flat (ρ x)then plain else
   match ρ x with
   | .agg cs=>(qQ P t f).bind fun fd=>match lE P fd.type with
     | some true=>(jT P fd.type).map fun n=>(.agg (cs.extract fd.offset (fd.offset+n)),H)
     | some false=>(cs[fd.offset]?).map fun v=>(v,H)
     | none=>none
   | _=>none
 | .extract t i=>match ρ t with
   | .tuple vs=>(vs[i]?).map fun v=>(v,H)
   | _=>none
 | .makeFunc fn first captured=>match fn with
   | .func f=>if(first++captured).toList.all (fun x=>rF (ρ x))then some (.func (.func f) (first.map ρ) (captured.map ρ),H)else none
   | _=>none
 | .binOp op t x y _=>match op,ρ x,ρ y with
   | .eql,.slice (some _) _ _,.slice none 0 0=>if((P.underlying t).map yU)==some true then some (.bool false,H)else none
   | .neq,.slice (some _) _ _,.slice none 0 0=>if((P.underlying t).map yU)==some true then some (.bool true,H)else none
   | op,.int k a,.int k' b=>if k=k' then(match oR op k a b with|some v=>some (v,H)|none=>plain)else plain
   | .eql,.pointer (some _),.pointer none=>if xC P t then some (.bool false,H)else none
   | .neq,.pointer (some _),.pointer none=>if xC P t then some (.bool true,H)else none
   | .eql,.pointer (some ⟨A,i,some e⟩),.pointer (some ⟨A',i',some e'⟩)=>if xC P t&&A==A'&&i==i'&&e==e' then some (.bool true,H)else none
   | .neq,.pointer (some ⟨A,i,some e⟩),.pointer (some ⟨A',i',some e'⟩)=>if xC P t&&A==A'&&i==i'&&e==e' then some (.bool false,H)else none
   | _,_,_=>plain
 | .call c=>match c.callee with
   | .builtin .len=>if c.args.size==1&&c.argTypes.size==1 then
      match (P.underlying (c.argTypes.getD 0 0)),ρ (c.args.getD 0 (.tmp 0))with
      | some (.slice _),.slice a n k=>keep (a0D H (.slice a n k))
      | some .string,.string s=>keep (a0D H (.string s))
      | some (.map _ _),.map r=>keep (a0D H (.map r))
      | _,_=>none
     else none
   | .builtin .append=>if c.args.size==2&&c.argTypes.size==2&&((P.underlying (c.argTypes.getD 1 0)).map sJ)==some true then
      pV P H (c.argTypes.getD 0 0) (ρ (c.args.getD 0 (.tmp 0))) (ρ (c.args.getD 1 (.tmp 0)))
     else none
   | .builtin .copy=>if c.args.size==2&&c.argTypes.size==2 then a5m P H (c.argTypes.getD 0 0) (ρ (c.args.getD 0 (.tmp 0))) (ρ (c.args.getD 1 (.tmp 0)))else none
   | .builtin .clear=>if c.args.size==1&&c.argTypes.size==1 then wN P H (c.argTypes.getD 0 0) (ρ (c.args.getD 0 (.tmp 0)))else none
   | .builtin .cap=>plain
   | .builtin .unsafeSliceData=>if c.args.size==1&&c.argTypes.size==1 then match ρ (c.args.getD 0 (.tmp 0))with
      | .slice (some a) n _=>if n==0 then none else some (.pointer (some a),H)
      | _=>none
     else none
   | .builtin .unsafeString=>if c.args.size==2&&c.argTypes.size==2 then yZ P H (c.argTypes.getD 0 0) (ρ (c.args.getD 0 (.tmp 0))) (ρ (c.args.getD 1 (.tmp 0)))else none
   | .builtin .max=>plain
   | .builtin .min=>plain
   | _=>none
 | .unOp op _ x=>match op,ρ x with
   | .not,.bool b=>some (.bool (!b),H)
   | _,_=>plain
 | .makeMap t r=>sG P H t (r.map ρ)
 | .lookup t x k c=>keep (sA P H t (ρ x) (ρ k) c)
 | .mapUpdate t m k v|.insert t m k v=>(a0w P H t (ρ m) (ρ k) (ρ v)).map fun H=>(undef,H)
 | .mapEntry t m k=>tI P H t (ρ m) (ρ k)
 | .entryStore _ m b v=>(tH H (ρ m) (ρ b) (ρ v)).map fun H=>(undef,H)
 | .convert s t x=>if flat (ρ x)&& !(mP P t)then plain else match ρ x with
   | .slice (some ⟨A,i,some e⟩) n _=>if mP P s&&qH P t then keep ((kT H A i e n).bind fun l=>(oH l).map .string)else none
   | .string b=>if mP P t&&qH P s&&b.size≤2^40 then(jX P t).bind fun elem=>some (.slice (some ⟨H.length,0,some b.size⟩) b.size 1,c2g H elem (b.data.toList.map fun c=>.int .u8 c.toNat))else none
   | .pointer (some ⟨A,0,some e⟩)=>if a7e P H s t A e then some (.pointer (some ⟨A,0,some e⟩),H)else none
   | _=>none
 | .index t x i=>if flat (ρ x)then plain else keep (a3I P t (ρ x) (ρ i))
 | .makeInterface _ _=>plain
 | _=>none
inductive Ex where| normal| exit (id:Nat)| ret deriving DecidableEq
abbrev Run:=Code->List Value->Heap->Option (Ex×List Value×Heap)
def a3J(P:Program)(l:List Value)(H:Heap):ResultVar->Option Value| .tmp t=>some (get l t)| .cell a t=>mU P H t (get l a)
def pP(P:Program)(l:List Value)(H:Heap):List ResultVar->Option (List Value)| []=>some []| r::rs=>(a3J P l H r).bind λv=>(pP P l H rs).map λvs=>v::vs
def kL:Value->Bool| .tuple _=>false| _=>true
def jS(P:Program)(fn:Func)(l:List Value)(H:Heap):Option Value:=(pP P l H fn.results.toList).bind λvs=>match vs with| [v]=>some v| vs=>if vs.all kL then some (.tuple vs.toArray)else none
def callF(P:Program)(ex:Run)(f:FuncId)(args:List Value)(H:Heap):Option (Value×Heap):=match P.funcs[f]? with| some fn=>(match fn.body with| some c=>if fn.name== "runtime.NumGoroutine" then none else (match ex c (args++List.replicate (fn.ntmps-args.length) undef) H with| some (.normal,l,H1)=>(jS P fn l H1).map λv=>(v,H1)| some (.ret,l,H1)=>(jS P fn l H1).map λv=>(v,H1)| _=>none)| none=>none)| none=>none
def a3S(ex:Run)(L:Nat)(args:List Value)(H:Heap):Option (Value×Heap):=
 match kB H L with
 | some (.loop r)=>
   if r.params.size=args.length∧r.state=.ready then
    match ex r.assign ((r.params.toList.zip args).foldl (fun t(p,v)=>t.set p v) r.tmps.toList) H with
    | some (.normal,l1,H1)=>match kB H1 L with
      | some (.loop r1)=>
        if r1.state=.ready then
         match ex r.body l1 (hset H1 L (.loop {r1 with state:=.busy}))with
         | some (e,_,H2)=>match kB H2 L with
           | some (.loop r2)=>
             let jump:Option Code:=match e with|.normal=>none|.ret=>some .ret|.exit id=>some (.exit id)
             some (.bool jump.isNone,hset H2 L (.loop {r2 with state:=if jump.isNone then .ready else .done,pending:=jump}))
           | _=>none
         | none=>none
        else none
      | _=>none
    | _=>none
   else none
 | _=>none
def callV(P:Program)(ex:Run)(f:Value)(args:List Value)(H:Heap):Option (Value×Heap):=match f with| .func (.func k) first captured=>(match sQ P k (first.toList++args++captured.toList) H with| some r=>some r| none=>callF P ex k (first.toList++args++captured.toList) H)| .func (.yield L) _ _=>a3S ex L args H| _=>none
def a7T(P:Program)(ex:Run)(g:Value)(L:Nat)(H:Heap):Option (Value×Heap):=match g with| .func (.func k) first captured=>callF P ex k (first.toList++[Value.func (.yield L) #[] #[]]++captured.toList) H| _=>none
def kO(ops:Array Oper)(l:List Value)(j:Nat):Option Bool:=match (ops[j]?).bind (·.dst)with| some d=>(match l[d]? with| some (.bool b)=>some b| _=>none)| none=>none
structure Fl where
 sl:Bool
 st:List TypeId:=[]
 dv:List (Nat×Nat):=[]
def Fl.F:Fl:=⟨false,[],[]⟩
def Fl.T:Fl:=⟨true,[],[]⟩
def Fl.bM(fl:Fl)(t:TypeId):Bool:=fl.st.any λs=>Nat.beq s t
def Fl.base(fl:Fl)(i:Nat):Option Nat:=fl.dv.lookup i
def lD(fl:Fl):Op->Bool| .buildSlice t _ _=> !fl.sl||fl.bM t| .makeSlice t _ _=> !fl.sl||fl.bM t| .build t _=>fl.bM t| .store ..|.box ..|.makeMap ..|.mapUpdate ..|.mapEntry ..|.entryStore ..|.insert ..=>true| .call c=>(match c.callee with|.builtin .len|.builtin .max|.builtin .min=>false|_=>true)| _=>false
def kI(fl:Fl):Op->Bool| .alloc _=>true| .buildSlice t _ _=>fl.sl&& !fl.bM t| .makeSlice t _ _=>fl.sl&& !fl.bM t| _=>false
def mJ(fl:Fl)(i:Nat)(o:Op):Option Nat:=if kI fl o then some i else match o with| .indexAddr _ _ _=>fl.base i| _=>none
def c2e(fl:Fl)(ops:Array Oper)(i:Nat)(o:Oper):Bool:=match fl.base i with| none=>true| some j=>decide (j<i)&&o.guard.isNone&&(List.range i).all (λk=> !decide (j<k)||(match ops[k]? with|some y=> !lD fl y.op|none=>true))&& (match ops[j]? with| some ⟨some d,.buildSlice t _ _,_,_,_,none⟩=>fl.sl&& !fl.bM t&&(match o.op with| .indexAddr _ (.tmp x) _=>Nat.beq x d| .convert _ _ (.tmp x)=>Nat.beq x d| .load _ (.tmp x)=>(List.range i).any λk=>decide (j<k)&&fl.base k==some j&&(match ops[k]? with|some ⟨some d',.indexAddr _ _ _,_,_,_,_⟩=>Nat.beq d' x|_=>false)| _=>false)| _=>false)
def qA:Op->Bool| .load ..|.lookup ..|.convert ..=>true| .call c=>(match c.callee with|.builtin .len=>true|_=>false)| _=>false
def a5Z:List Nat->List Oper->List Nat| acc,[]=>acc| acc,o::r=>a5Z (acc++[o.after.toList.foldl (λm e=>if Region.binds .any e then(m|||2^e.on)|||acc.getD e.on 0 else m) 0]) r
def a0r(fl:Fl)(ops:Array Oper)(b:List Nat)(i j:Nat)(x y:Oper):Bool:=
 let bj:=(b.getD j 0).testBit i
 (match x.dst with
   | some d=>(!(y.looksAt ops).contains d||bj)&&y.dst !=some d&&(match mJ fl i x.op with|none=>true|some b=>lD fl y.op||fl.base j==some b|| !(y.looksAt ops).contains d)
   | none=>true)&&
 (match y.dst with
   | some d=> !(x.looksAt ops).contains d||bj
   | none=>true)&&
 (!(lD fl x.op||kI fl x.op)|| !lD fl y.op||bj)
def a0X(fl:Fl)(ops:Array Oper):Bool:=
 let b:=a5Z [] ops.toList
 let l:=ops.toList.zipIdx
 l.all fun(y,j)=>y.after.toList.all (fun e=> !Region.binds .any e||decide (e.on<j))&&(!kI fl y.op||y.guard.isNone)&&c2e fl ops j y&&l.all fun(x,i)=> !decide (i<j)||a0r fl ops b i j x y
def a1K(fl:Fl)(ops:Array Oper):List Nat:=ops.toList.zipIdx.filterMap λ(y,j)=>if lD fl y.op then some j else none
def a2o(fl:Fl)(ops:Array Oper):List Nat:=ops.toList.zipIdx.filterMap λ(y,j)=>if lD fl y.op||kI fl y.op then some j else none
def oN(fl:Fl)(ops:Array Oper):List (Nat×Nat):=
 let b:=a5Z [] ops.toList
 let mains:=a1K fl ops
 let es:=a2o fl ops
 ops.toList.zipIdx.flatMap fun(x,i)=>if qA x.op then
  ((0::mains.map (·+1)).filter fun m=>mains.all (fun k=>(!(b.getD i 0).testBit k||decide (k<m))&&(!(b.getD k 0).testBit i||decide (m≤k)))&&
    (es.any fun k=>decide (min m i≤k)&&decide (k<max m i))&&(match fl.base i with|some j=>decide (j<m)|none=>true)).map fun m=>(i,m)else[]
def b4c(P:Program)(t:TypeId):Bool:=match P.underlying t with|some (.pointer _)|some .unsafePointer=>true|_=>false
def wF(P:Program)(o:Oper):Bool:=match o.op with| .slice t _ _ _ _=>(lG P t).isNone| .convert s t _=> !(mP P t)&& !(b4c P s)| _=>true
def pJ(P:Program)(ops:Array Oper):Option (List (Nat×Nat)):=if ops.toList.all (wF P)then if a0X .F ops then some (oN .F ops)else if a0X .T ops then some (oN .T ops)else none else none
def a4S(P:Program)(fl:Fl)(ops:Array Oper):Option (List (Nat×Nat)):=if ops.toList.all (wF P)&&a0X fl ops then some (oN fl ops)else none
def c4h:Value->Value->Bool| .bool x,.bool y=>x==y| .int k x,.int k' y=>decide (k=k')&&decide (x=y)| .string x,.string y=>decide (x.data.toList=y.data.toList)| .pointer x,.pointer y=>decide (x=y)| .slice x n c,.slice y n' c'=>decide (x=y)&&Nat.beq n n'&&Nat.beq c c'| .map x,.map y=>decide (x=y)| .nilFunc,.nilFunc=>true| .nilIface,.nilIface=>true| _,_=>false
def b6C:List Value->List Value->Bool| [],[]=>true| a::l,b::m=>c4h a b&&b6C l m| _,_=>false
def veq:Value->Value->Bool| .agg a,.agg b=>b6C a.toList b.toList| a,b=>c4h a b
end
structure Place where
 b:Nat
 d:Int
 sz:Nat
 k:Nat
def Place.at(p:Place)(i:Nat):Nat:=((i:Int)+p.d).toNat
abbrev Rho:=Nat->Nat->Option Place
def Rho.Le(ρ ρ':Rho):Prop:=∀A e p,ρ A e=some p->ρ' A e=some p
theorem Rho.Le.refl(ρ:Rho):ρ.Le ρ:=λ_ _ _ h=>h
theorem Rho.Le.trans{a b c:Rho}(h:a.Le b)(k:b.Le c):a.Le c:=λ_ _ _ e=>k _ _ _ (h _ _ _ e)
def All2{α β:Type}(R:α->β->Prop):List α->List β->Prop| [],[]=>True| a::l,b::m=>R a b∧All2 R l m| _,_=>False
theorem All2.mono{α β:Type}{R S:α->β->Prop}(h:∀a b,R a b->S a b):∀{l:List α}{m:List β},All2 R l m->All2 S l m| [],[],_=>trivial| _::_,_::_,⟨a,b⟩=>⟨h _ _ a,b.mono h⟩| [],_::_,h=>h.elim| _::_,[],h=>h.elim
theorem All2.length{α β:Type}{R:α->β->Prop}:∀{l:List α}{m:List β},All2 R l m->l.length=m.length| [],[],_=>rfl| _::_,_::_,⟨_,b⟩=>by simp[b.length]| [],_::_,h=>h.elim| _::_,[],h=>h.elim
theorem All2.get{α β:Type}{R:α->β->Prop}:∀{l:List α}{m:List β},All2 R l m->∀(i:Nat)(a:α),l[i]? =some a->∃b,m[i]? =some b∧R a b| [],[],_,i,a,h=>by simp at h| x::_,y::_,⟨r,_⟩,0,a,h=>by simp at h;subst h;exact⟨y,by simp,r⟩| _::l,_::m,⟨_,s⟩,i+1,a,h=>by simpa using s.get i a (by simpa using h)| [],_::_,h,_,_,_=>h.elim| _::_,[],h,_,_,_=>h.elim
theorem All2.bp{α β:Type}{R:α->β->Prop}:∀{l:List α}{m:List β},l.length=m.length->(∀(i:Nat)(a:α),l[i]? =some a->∃b,m[i]? =some b∧R a b)->All2 R l m| [],[],_,_=>trivial| x::l,y::m,e,h=>⟨by obtain⟨b,hb,r⟩:=h 0 x (by simp);simp at hb;subst hb;exact r,All2.bp (by simpa using e) (λi a hi=>by simpa using h (i+1) a (by simpa using hi))⟩| [],_::_,e,_=>by simp at e| _::_,[],e,_=>by simp at e
theorem All2.append{α β:Type}{R:α->β->Prop}:∀{l:List α}{m:List β}{l':List α}{m':List β},All2 R l m->All2 R l' m'->All2 R (l++l') (m++m')| [],[],_,_,_,k=>k| _::_,_::_,_,_,⟨a,b⟩,k=>⟨a,b.append k⟩| [],_::_,_,_,h,_=>h.elim| _::_,[],_,_,h,_=>h.elim
theorem All2.same{α:Type}{R:α->α->Prop}:∀{l:List α},(∀a∈l,R a a)->All2 R l l| [],_=>trivial| a::_,h=>⟨h a (by simp),All2.same λb hb=>h b (by simp[hb])⟩
theorem All2.map{α β γ δ:Type}{R:γ->δ->Prop}(f:α->γ)(g:β->δ):∀{l:List α}{m:List β},All2 (λa b=>R (f a) (g b)) l m->All2 R (l.map f) (m.map g)| [],[],_=>trivial| _::_,_::_,⟨a,b⟩=>⟨a,b.map f g⟩| [],_::_,h=>h.elim| _::_,[],h=>h.elim
theorem All2.set{α β:Type}{R:α->β->Prop}{a:α}{b:β}(r:R a b):∀{l:List α}{m:List β}(k:Nat),All2 R l m->All2 R (l.set k a) (m.set k b)| [],[],_,_=>trivial| _::_,_::_,0,⟨_,s⟩=>⟨r,s⟩| _::_,_::_,k+1,⟨q,s⟩=>⟨q,s.set r k⟩| [],_::_,_,h=>h.elim| _::_,[],_,h=>h.elim
inductive C0(ρ:Rho):Value->Value->Prop| flat {v:Value} (h:kG v=true):C0 ρ v v| ptr {A i e:Nat} {p:Place} (h:ρ A e=some p) (h0:0<=(i:Int)+p.d):C0 ρ (.pointer (some ⟨A,i,some e⟩)) (.pointer (some ⟨p.b,p.at i,none⟩))| slice {A i e n c':Nat} {p:Place} {a:Addr} (h:ρ A e=some p) (h0:0<=(i:Int)+p.d) (hn:i+n*p.k<=e) (hc:n<=c'∧e<=i+c'*p.k) (hs:(a=⟨p.b,p.at i,none⟩∧p.at i+c'*p.k<=p.sz)∨(n=0∧c'=0)): C0 ρ (.slice (some ⟨A,i,some e⟩) n p.k) (.slice (some a) n c')| map {A:Nat} {p:Place} (h:ρ A 0=some p):C0 ρ (.map (some A)) (.map (some p.b))| glob (g i:Nat):C0 ρ (.pointer (some ⟨g,i,none⟩)) (.pointer (some ⟨g,i,none⟩))| junk (m:Int):C0 ρ (.chan (some 0)) (.int .u8 m)
inductive C1(ρ:Rho):Value->Value->Prop| c0 {v v':Value} (h:C0 ρ v v'):C1 ρ v v'| fn {f:FuncId} {a b a' b':Array Value} (ha:All2 (C0 ρ) a.toList a'.toList) (hb:All2 (C0 ρ) b.toList b'.toList):C1 ρ (.func (.func f) a b) (.func (.func f) a' b')| yld {L:Nat} {p:Place} (h:ρ L 0=some p):C1 ρ (.func (.yield L) #[] #[]) (.func (.yield p.b) #[] #[])
inductive V1(ρ:Rho):Value->Value->Prop| c1 {v v':Value} (h:C1 ρ v v'):V1 ρ v v'| agg {a a':Array Value} (h:All2 (C1 ρ) a.toList a'.toList):V1 ρ (.agg a) (.agg a')
inductive V(ρ:Rho):Value->Value->Prop| v1 {v v':Value} (h:V1 ρ v v'):V ρ v v'| tuple {a a':Array Value} (h:All2 (V1 ρ) a.toList a'.toList):V ρ (.tuple a) (.tuple a')
section
variable {ρ ρ':Rho}
theorem C0.mono(hl:ρ.Le ρ'){v v':Value}(h:C0 ρ v v'):C0 ρ' v v':=by cases h with| flat h=>exact .flat h| ptr h h0=>exact .ptr (hl _ _ _ h) h0| slice h h0 hn hc hs=>exact .slice (hl _ _ _ h) h0 hn hc hs| map h=>exact .map (hl _ _ _ h)| glob g i=>exact .glob g i| junk m=>exact .junk m
theorem C1.mono(hl:ρ.Le ρ'){v v':Value}(h:C1 ρ v v'):C1 ρ' v v':=by cases h with| c0 h=>exact .c0 (h.mono hl)| fn ha hb=>exact .fn (ha.mono λ_ _ h=>h.mono hl) (hb.mono λ_ _ h=>h.mono hl)| yld h=>exact .yld (hl _ _ _ h)
theorem V1.mono(hl:ρ.Le ρ'){v v':Value}(h:V1 ρ v v'):V1 ρ' v v':=by cases h with| c1 h=>exact .c1 (h.mono hl)| agg h=>exact .agg (h.mono λ_ _ h=>h.mono hl)
theorem V.mono(hl:ρ.Le ρ'){v v':Value}(h:V ρ v v'):V ρ' v v':=by cases h with| v1 h=>exact .v1 (h.mono hl)| tuple h=>exact .tuple (h.mono λ_ _ h=>h.mono hl)
end
theorem C0.aC{ρ:Rho}{v v':Value}(h:C0 ρ v v')(hs:kG v=true):v'=v:=by cases h with| flat _=>rfl| ptr _ _=>simp[kG]at hs| slice _ _ _ _ _=>simp[kG]at hs| map _=>simp[kG]at hs| glob _ _=>simp[kG]at hs| junk _=>simp[kG]at hs
theorem C1.aC{ρ:Rho}{v v':Value}(h:C1 ρ v v')(hs:kG v=true):v'=v:=by cases h with| c0 h=>exact h.aC hs| fn _ _=>simp[kG]at hs| yld _=>simp[kG]at hs
theorem All2.aP{ρ:Rho}:∀{l m:List Value},All2 (C1 ρ) l m->lX l=true->m=l| [],[],_,_=>rfl| a::l,b::m,⟨r,s⟩,h=>by simp only[lX,gu,dE]at h;rw[r.aC h.1,s.aP (by simpa [lX]using h.2)]| [],_::_,h,_=>h.elim| _::_,[],h,_=>h.elim
theorem V1.ai{ρ:Rho}{v v':Value}(h:V1 ρ v v')(hs:kR v=true):v'=v:=by cases h with| c1 h=>(cases v<;>first|exact h.aC hs|(cases h with|c0 h=>cases h with|flat h=>simp[kG]at h))| agg h=>have:=h.aP hs;exact congrArg Value.agg (jI this)
theorem V.ai{ρ:Rho}{v v':Value}(h:V ρ v v')(hs:flat v=true):v'=v:=by cases h with| v1 h=>refine h.ai ?_;(cases v<;>first|exact hs|(cases h with|c1 h=>cases h with|c0 h=>cases h with|flat h=>simp[kG]at h))| tuple h=>rename_i a a';(have key:∀{l m:List Value},All2 (V1 ρ) l m->l.all kR=true->m=l:=by intro l;induction l with| nil=>intro m h _;(cases m with|nil=>rfl|cons=>exact h.elim)| cons x l ih=>intro m h hs;cases m with| nil=>exact h.elim| cons y m=>simp only[gu,dE]at hs;rw[h.1.ai hs.1,ih h.2 hs.2]);exact congrArg Value.tuple (jI (key h hs))
theorem C1.aF{ρ:Rho}{v:Value}(h:kG v=true):C1 ρ v v:=.c0 (.flat h)
theorem All2.aL{ρ:Rho}{l:List Value}(h:lX l=true):All2 (C1 ρ) l l:=All2.same λa ha=>.aF (by simp only[lX,dQ]at h;exact h a ha)
theorem V1.of_flat{ρ:Rho}{v:Value}(hs:kR v=true):V1 ρ v v:=by cases v<;>first|exact .agg (.aL hs)|exact .c1 (.aF hs)
theorem V.of_flat{ρ:Rho}{v:Value}(hs:flat v=true):V ρ v v:=by cases v<;>first| exact .v1 (.agg (.aL hs))| exact .v1 (.c1 (.aF hs))| (refine .tuple (All2.same λa ha=>V1.of_flat ?_);simp only[flat,dQ]at hs;exact hs a ha)
theorem V.undef{ρ:Rho}:V ρ undef undef:=.of_flat rfl
theorem V.cells{ρ:Rho}{v v':Value}(h:V ρ v v')(h1:v.cells.toList.all oneCell=true):All2 (C1 ρ) v.cells.toList v'.cells.toList:=by cases h with| v1 h=>(cases h with| agg h=>exact h| c1 h=>(have:v.cells.toList=[v]∧v'.cells.toList=[v']:=by cases h with| c0 h=>(cases h with| flat h=>(cases v<;>first|exact⟨rfl,rfl⟩|simp[kG]at h)| _=>exact⟨rfl,rfl⟩)| _=>exact⟨rfl,rfl⟩);rw[this.1,this.2];exact⟨h,trivial⟩)| tuple h=>simp[Value.cells,oneCell]at h1
theorem C1.oneCell{ρ:Rho}{v v':Value}(h:C1 ρ v v'):v'.oneCell'=true:=by cases h with| c0 h=>(cases h with| flat h=>(cases v<;>first|rfl|simp[kG]at h)| _=>rfl)| _=>rfl
theorem All2.aQ{ρ:Rho}:∀{l m:List Value},All2 (C1 ρ) l m->∀v∈m,v.oneCell'=true| [],[],_,_,h=>by simp at h| _::_,_::_,⟨r,s⟩,v,h=>by simp only[ed]at h;rcases h with rfl|h;(·exact r.oneCell);(·exact s.aQ v h)| [],_::_,h,_,_=>h.elim| _::_,[],h,_,_=>h.elim
theorem b5d{α β:Type}(x:α):∀(l:List α)(k:Nat)(K:List α->β),d0a x l k K=K (l.set k x)| [],_,_=>rfl| _::_,0,_=>rfl| b::t,k+1,K=>by show d0a x t k (λt=>K (b::t))=_;rw[b5d x t k];rfl
theorem pG{α:Type}(l:List α)(k:Nat)(x:α):c9w l k x=l.set k x:=b5d x l k _
theorem b5Q{α β:Type}(m:List α):∀(l:List α)(K:List α->β),c8m m l K=K (l++m)| [],_=>rfl| b::t,K=>by show c8m m t (λt=>K (b::t))=_;rw[b5Q m t];rfl
theorem a1n{α:Type}(l m:List α):a7Z l m=l++m:=b5Q m l _
theorem qS:∀(l:List Value)(t:Tmp),get l t=l.getD t undef| [],_=>rfl| _::_,0=>rfl| _::l,t+1=>by show get l t=_;rw[qS l t];rfl
theorem sB{α:Type}(b:Blk):∀(t:Tr)(k:Nat)(K:Tr->α),pT b t k K=K (pT b t k λt=>t)| .e,_,_=>rfl| .n _ _ _,0,_=>rfl| .n c l r,k+1,K=>by cases h:Nat.beq (Nat.mod k 2) 0 with| true=>(have h1:∀{α:Type}(K:Tr->α),pT b (.n c l r) (k+1) K=pT b l (Nat.div k 2) λl=>K (.n c l r):=λK=>by show Bool.rec (motive:=λ_=>_) _ _ (Nat.beq (Nat.mod k 2) 0)=_;rw[h];rfl);rw[h1,h1,sB b l (Nat.div k 2),sB b l (Nat.div k 2) λl=>Tr.n c l r]| false=>(have h1:∀{α:Type}(K:Tr->α),pT b (.n c l r) (k+1) K=pT b r (Nat.div k 2) λr=>K (.n c l r):=λK=>by show Bool.rec (motive:=λ_=>_) _ _ (Nat.beq (Nat.mod k 2) 0)=_;rw[h];rfl);rw[h1,h1,sB b r (Nat.div k 2),sB b r (Nat.div k 2) λr=>Tr.n c l r]
theorem nT(c:Option Blk)(l r:Tr)(k:Nat):rI (.n c l r) (k+1)=if k%2=0 then rI l (k/2)else rI r (k/2):=by show Bool.rec (motive:=λ_=>_) (rI r (k/2)) (rI l (k/2)) (Nat.beq (k%2) 0)=_;by_cases h:k%2=0;(·rw[if_pos h,h];rfl);·rw[if_neg h];have:Nat.beq (k%2) 0=false:=iE.2 λe=>h (eT e);rw[this]
theorem a7d(b:Blk):∀(f k:Nat),k<=f->∀j,rI (a4P b f k) j=if j=k then some b else none| 0,k,hk,j=>by(obtain rfl:k=0:=by omega);(cases j with| zero=>rfl| succ j=>show rI (.n (some b) .e .e) (j+1)=_;rw[nT];simp;rfl)| f+1,0,_,j=>by(cases j with| zero=>rfl| succ j=>show rI (.n (some b) .e .e) (j+1)=_;rw[nT];simp;rfl)| f+1,k+1,hk,j=>by have ih:=a7d b f (k/2) (by omega);cases h:Nat.beq (Nat.mod k 2) 0 with| true=>(have h1:a4P b (f+1) (k+1)=.n none (a4P b f (k/2)) .e:=by show Bool.rec (motive:=λ_=>Tr) _ _ (Nat.beq (Nat.mod k 2) 0)=_;rw[h];rfl);have h2:k%2=0:=eT h;rw[h1];(cases j with| zero=>simp;rfl| succ j=>rw[nT,ih];by_cases hj:j%2=0;(·rw[if_pos hj];by_cases he:j/2=k/2;(·rw[if_pos he,if_pos (by omega)]);·rw[if_neg he,if_neg (by omega)]);·rw[if_neg hj,if_neg (by omega)];rfl)| false=>(have h1:a4P b (f+1) (k+1)=.n none .e (a4P b f (k/2)):=by show Bool.rec (motive:=λ_=>Tr) _ _ (Nat.beq (Nat.mod k 2) 0)=_;rw[h];rfl);(have h2:¬k%2=0:=λe=>by(have:Nat.beq (Nat.mod k 2) 0=true:=by show Nat.beq (k%2) 0=true;rw[e];rfl);rw[h]at this;cases this);rw[h1];cases j with| zero=>simp;rfl| succ j=>rw[nT,ih];by_cases hj:j%2=0;(·rw[if_pos hj,if_neg (by omega)];rfl);·rw[if_neg hj];by_cases he:j/2=k/2;(·rw[if_pos he,if_pos (by omega)]);·rw[if_neg he,if_neg (by omega)]
theorem tC(b:Blk):∀(t:Tr)(k j:Nat),rI (pT b t k λt=>t) j=if j=k then some b else rI t j| .e,k,j=>by show rI (a4P b k k) j=_;rw[a7d b k k (dJ _)];rfl| .n c l r,0,j=>by show rI (.n (some b) l r) j=_;(cases j with| zero=>rfl| succ j=>rw[nT,nT,if_neg (by omega:¬j+1=0)])| .n c l r,k+1,j=>by cases h:Nat.beq (Nat.mod k 2) 0 with| true=>(have h1:pT b (.n c l r) (k+1) (λt=>t)=.n c (pT b l (k/2) λt=>t) r:=by show Bool.rec (motive:=λ_=>Tr) _ (pT b l (k/2) λl=>.n c l r) (Nat.beq (Nat.mod k 2) 0)=_;rw[h];exact sB b l _ _);have h2:k%2=0:=eT h;rw[h1];(cases j with| zero=>rw[if_neg (by omega)];rfl| succ j=>rw[nT,nT,tC b l];by_cases hj:j%2=0;(·rw[if_pos hj,if_pos hj];by_cases he:j/2=k/2;(·rw[if_pos he,if_pos (by omega)]);·rw[if_neg he,if_neg (by omega)]);·rw[if_neg hj,if_neg hj,if_neg (by omega)])| false=>(have h1:pT b (.n c l r) (k+1) (λt=>t)=.n c l (pT b r (k/2) λt=>t):=by show Bool.rec (motive:=λ_=>Tr) (pT b r (k/2) λr=>.n c l r) _ (Nat.beq (Nat.mod k 2) 0)=_;rw[h];exact sB b r _ _);(have h2:¬k%2=0:=λe=>by(have:Nat.beq (Nat.mod k 2) 0=true:=by show Nat.beq (k%2) 0=true;rw[e];rfl);rw[h]at this;cases this);rw[h1];cases j with| zero=>rw[if_neg (by omega)];rfl| succ j=>rw[nT,nT,tC b r];by_cases hj:j%2=0;(·rw[if_pos hj,if_pos hj,if_neg (by omega)]);·rw[if_neg hj,if_neg hj];by_cases he:j/2=k/2;(·rw[if_pos he,if_pos (by omega)]);·rw[if_neg he,if_neg (by omega)]
theorem lR{α:Type}(n:Nat)(K:Nat->α):lV n K=K n:=by cases n<;>rfl
theorem b9m{α:Type}(n:Int)(K:Int->α):b3h n K=K n:=by cases n<;>simp[b3h,lR]
theorem zG{α:Type}(b:Bool)(K:Bool->α):a2C b K=K b:=by cases b<;>rfl
theorem a6P{α:Type}(n:Option Nat)(K:Option Nat->α):a8z n K=K n:=by cases n<;>simp[a8z,lR]
theorem b8w{α:Type}(a:Option Addr)(K:Option Addr->α):a7L a K=K a:=by cases a with| none=>rfl| some a=>cases a;simp[a7L,lR,a6P]
theorem a1U{α:Type}(v:Value)(K:Value->α):a1Z v K=K v:=by cases v<;>simp[a1Z,b9m,zG,b8w,lR,a6P]
theorem uO{α β:Type}(f:β->(β->α)->α)(hf:∀b K,f b K=K b):∀(l:List β)(K:List β->α),a0l f l K=K l| [],_=>rfl| b::l,K=>by show f b (λv=>a0l f l λl=>K (v::l))=_;rw[hf,uO f hf l]
theorem a2J{α:Type}(v:Value)(K:Value->α):a0j v K=K v:=by cases v with| agg cs=>cases cs;simp[a0j,uO _ a1U]| func fn a b=>cases a;cases b;simp[a0j,uO _ a1U]| _=>simp only[a0j,a1U]
theorem a1i{α:Type}(v:Value)(K:Value->α):a1N v K=K v:=by cases v with| tuple cs=>cases cs;simp[a1N,uO _ a2J]| _=>simp only[a1N,a2J]
theorem tZ{α:Type}(b:Blk)(K:Blk->α):uV b K=K b:=by cases b<;>simp[uV,uO _ a2J,zG,lR]
theorem nV{α:Type}(H:Heap)(K:Heap->α):pX H K=K H:=by cases H;exact lR _ λn=>K ⟨n,_⟩
theorem tY(H:Heap)(A:Nat):kB H A=if A<H.length then rI H.tr A else none:=by unfold kB;by_cases h:A<H.length;(·rw[if_pos h];(have:Nat.blt A H.length=true:=by simpa [jJ]using h);rw[this]);·rw[if_neg h];have:Nat.blt A H.length=false:=iE.2 (λe=>h (by simpa [jJ]using e));rw[this]
theorem kV{H:Heap}{A:Nat}{b:Blk}(h:kB H A=some b):A<H.length:=by rw[tY]at h;split at h<;>simp_all
theorem qR(H:Heap)(b:Blk):H.cons b=⟨H.length+1,pT b H.tr H.length λt=>t⟩:=sB b _ _ _
@[simp] theorem length_cons(H:Heap)(b:Blk):(H.cons b).length=H.length+1:=by rw[qR]
theorem kU{H:Heap}{A:Nat}(b:Blk)(h:A<H.length):kB (H.cons b) A=kB H A:=by rw[tY,tY,if_pos h,if_pos (by simp;omega),qR];show rI (pT b H.tr H.length λt=>t) A=_;rw[tC,if_neg (by omega)]
theorem jY(H:Heap)(b:Blk):kB (H.cons b) H.length=some b:=by rw[tY,if_pos (by simp),qR];show rI (pT b H.tr H.length λt=>t) H.length=_;rw[tC,if_pos rfl]
theorem zD{H:Heap}{A:Nat}(h:H.length<=A):kB H A=none:=by rw[tY,if_neg (by omega)]
theorem a8P(H:Heap)(A:Nat)(b:Blk):hset H A b=if A<H.length then⟨H.length,pT b H.tr A λt=>t⟩else H:=by unfold hset;by_cases h:A<H.length;(·rw[if_pos h];(have:Nat.blt A H.length=true:=by simpa [jJ]using h);rw[this];simp only[tZ];exact sB b _ _ _);·rw[if_neg h];have:Nat.blt A H.length=false:=iE.2 (λe=>h (by simpa [jJ]using e));rw[this]
theorem lC(H:Heap)(A:Nat)(b:Blk):(hset H A b).length=H.length:=by rw[a8P];split<;>rfl
theorem kF{H:Heap}{A:Nat}(b:Blk)(h:A<H.length):kB (hset H A b) A=some b:=by rw[tY,lC,if_pos h,a8P,if_pos h];show rI (pT b H.tr A λt=>t) A=_;rw[tC,if_pos rfl]
theorem kS{H:Heap}{A B:Nat}(b:Blk)(h:A≠B):kB (hset H A b) B=kB H B:=by rw[tY,tY,lC,a8P];by_cases hB:B<H.length;(·simp only[hB,if_true];by_cases hA:A<H.length;(·rw[if_pos hA];show rI (pT b H.tr A λt=>t) B=_;rw[tC,if_neg (fM h)]);·rw[if_neg hA]);·simp[hB]
theorem mO(H:Heap)(ty:TypeId)(cs:List Value):uI H ty cs=H.cons (.cells cs ty true cs.length 0):=by simp[uI,tZ]
def Blk.wr:Blk->Bool| .cells _ _ rw _ _=>rw| _=>true
def Blk.bS:Blk->Bool| .cells _ _ false _ 1=>true| _=>false
def Blk.aK:Blk->Bool| .cells ..=>true| _=>false
def Wr(ρ:Rho)(H:Heap)(b:Nat):Prop:=∃A e p blk,ρ A e=some p∧p.b=b∧kB H A=some blk∧blk.wr=true
def Off(ρ:Rho)(b:Nat):Prop:=∀A e p,ρ A e=some p->p.b≠b
structure CellsAt(P:Program)(ρ:Rho)(w:World)(cs:List Value)(ty:TypeId)(rw:Bool)(tg lo e:Nat)(p:Place):Prop where
 le:e≤cs.length
 k:jT P ty=some p.k
 d1J:(e:Int)+p.d≤p.sz
 row:∃cur ty' fr,w.heap[p.b]? =some (.cells cur ty' fr)∧cur.size=p.sz∧(rw=true→fr=(0,0)∧p.d≤0∧(tg=0→ty'=ty))∧
  (lo≤e→∀i c,i<e→0≤(i:Int)+p.d→cs[i]? =some c→∃c',cur[p.at i]? =some c'∧C1 ρ c c')
structure EntryRel(ρ:Rho)(a b:MapEntry):Prop where
 key:b.key=a.key
 flat:flat a.key=true
 val:V ρ a.val b.val
 born:b.born=a.born
structure LoopRel(ρ:Rho)(a b:Loop):Prop where
 state:b.state=a.state
 pending:b.pending=a.pending
 tmps:All2 (V ρ) a.tmps.toList b.tmps.toList
 params:b.params=a.params
 assign:b.assign=a.assign
 body:b.body=a.body
structure HRel(P:Program)(ρ:Rho)(H:Heap)(w:World):Prop where
 dom:∀A e p,ρ A e=some p→A<H.length∧p.b<w.heap.size
 cells:∀A cs ty rw lo ver,kB H A=some (.cells cs ty rw lo ver)→(∃p,ρ A cs.length=some p)∧∀e p,ρ A e=some p→CellsAt P ρ w cs ty rw ver lo e p
 map:∀A es ck ver,kB H A=some (.map es ck ver)→∃p es',ρ A 0=some p∧w.heap[p.b]? =some (.map es' ck)∧All2 (EntryRel ρ) es es'.toList
 loop:∀A r,kB H A=some (.loop r)→∃p r',ρ A 0=some p∧w.heap[p.b]? =some (.loop r')∧LoopRel ρ r r'
 one:∀A e p blk,ρ A e=some p→kB H A=some blk→(blk.aK=true∨e=0)
 excl:∀A e p A2 e2 p2 blk,ρ A e=some p→ρ A2 e2=some p2→p.b=p2.b→kB H A=some blk→blk.wr=true→A2=A∧p2.d=p.d
 full:∀A,A<H.length→(kB H A).isSome=true
 glob:∀A cs ty lo,kB H A=some (.cells cs ty false lo 1)→∃p,ρ A cs.length=some p∧p.b=A∧p.d=0∧(cs≠[]→p.sz=cs.length)
structure Post(P:Program)(ρ:Rho)(H:Heap)(w:World)(ρ':Rho)(H':Heap)(w':World):Prop where
 le:ρ.Le ρ'
 rel:HRel P ρ' H' w'
 len:H.length≤H'.length
 size:w.heap.size≤w'.heap.size
 os:w'.os=w.os
 tape:w'.tape=w.tape∧w.drawn≤w'.drawn
 output:w'.output=w.output
 frame:∀b,b<w.heap.size→¬Wr ρ H b→w'.heap[b]? =w.heap[b]?∧¬Wr ρ' H' b
 loops:∀(b:Nat)(r:Loop),w.heap[b]? =some (Obj.loop r)→∃r',w'.heap[b]? =some (Obj.loop r')
 img:∀b,b<w.heap.size→Off ρ b→Off ρ' b
theorem Post.refl{P:Program}{ρ:Rho}{H:Heap}{w:World}(h:HRel P ρ H w):Post P ρ H w ρ H w:=⟨.refl ρ,h,dJ _,dJ _,rfl,⟨rfl,dJ _⟩,rfl,λ_ _ hw=>⟨rfl,hw⟩,λ_ r h=>⟨r,h⟩,λ_ _ h=>h⟩
theorem Post.trans{P:Program}{ρ ρ' ρ'':Rho}{H H' H'':Heap}{w w' w'':World}(h:Post P ρ H w ρ' H' w')(k:Post P ρ' H' w' ρ'' H'' w''):Post P ρ H w ρ'' H'' w'' where
 le:=h.le.trans k.le
 rel:=k.rel
 len:=ey h.len k.len
 size:=ey h.size k.size
 os:=k.os.trans h.os
 tape:=⟨k.tape.1.trans h.tape.1,ey h.tape.2 k.tape.2⟩
 output:=k.output.trans h.output
 frame b hb hw:=by
  obtain⟨e,hw'⟩:=h.frame b hb hw;obtain⟨e',hw''⟩:=k.frame b (dZ hb h.size) hw';exact⟨e'.trans e,hw''⟩
 loops b r hr:=by
  obtain⟨r',hr'⟩:=h.loops b r hr;exact k.loops b r' hr'
 img b hb hw:=k.img b (dZ hb h.size) (h.img b hb hw)
theorem CellsAt.world{P:Program}{ρ ρ':Rho}{w w':World}{cs:List Value}{ty:TypeId}{rw:Bool}{tg lo e:Nat}{p:Place} (hl:ρ.Le ρ') (hb:w'.heap[p.b]? =w.heap[p.b]?) (h:CellsAt P ρ w cs ty rw tg lo e p):CellsAt P ρ' w' cs ty rw tg lo e p:=by obtain⟨h1,h2,h3,cur,ty',fr,h4,h5,h6,h7⟩:=h;exact⟨h1,h2,h3,cur,ty',fr,hb.trans h4,h5,h6,λhlo i c hi h0 hc=>by obtain⟨c',a,b⟩:=h7 hlo i c hi h0 hc;exact⟨c',a,b.mono hl⟩⟩
theorem HRel.heap{P:Program}{ρ:Rho}{H:Heap}{w w':World}(h:HRel P ρ H w)(e:w'.heap=w.heap):HRel P ρ H w':=by refine⟨by rw[e];exact h.dom,λA cs ty rw lo ver hg=>⟨(h.cells A cs ty rw lo ver hg).1,λf p hp=>((h.cells A cs ty rw lo ver hg).2 f p hp).world (.refl ρ) (by rw[e])⟩,by rw[e];exact h.map,by rw[e];exact h.loop,h.one,h.excl,h.full,h.glob⟩
theorem HRel.drew{P:Program}{ρ:Rho}{H:Heap}{w:World}(h:HRel P ρ H w):HRel P ρ H w.drew:=h.heap rfl
theorem Post.drew{P:Program}{ρ:Rho}{H:Heap}{w:World}(h:HRel P ρ H w):Post P ρ H w ρ H w.drew:=⟨.refl ρ,h.drew,dJ _,dJ _,rfl,⟨rfl,Nat.le_succ _⟩,rfl,λ_ _ hw=>⟨rfl,hw⟩,λ_ r h=>⟨r,h⟩,λ_ _ h=>h⟩
theorem EntryRel.mono{ρ ρ':Rho}(hl:ρ.Le ρ'){a b:MapEntry}(h:EntryRel ρ a b):EntryRel ρ' a b:=⟨h.key,h.flat,h.val.mono hl,h.born⟩
theorem LoopRel.mono{ρ ρ':Rho}(hl:ρ.Le ρ'){a b:Loop}(h:LoopRel ρ a b):LoopRel ρ' a b:=⟨h.state,h.pending,h.tmps.mono λ_ _ h=>h.mono hl,h.params,h.assign,h.body⟩
def Rho.put(ρ:Rho)(A e:Nat)(p:Place):Rho:=λB f=>if B=A∧f=e then some p else ρ B f
theorem Rho.aq(ρ:Rho)(A e:Nat)(p:Place):ρ.put A e p A e=some p:=by simp[Rho.put]
theorem Rho.aM{ρ:Rho}{A e B f:Nat}{p:Place}(h:¬(B=A∧f=e)):ρ.put A e p B f=ρ B f:=by simp[Rho.put,h]
theorem Rho.Le.put{ρ:Rho}{A e:Nat}{p:Place}(h:ρ A e=none):ρ.Le (ρ.put A e p):=λB f q hq=>by by_cases hh:B=A∧f=e;(·obtain⟨rfl,rfl⟩:=hh;rw[h]at hq;cases hq);·rw[Rho.aM hh];exact hq
theorem kZ{w:World}{o:Obj}{b:Nat}(h:b<w.heap.size):(w.alloc o).heap[b]? =w.heap[b]?:=by show(w.heap.push o)[b]? =_;rw[Array.getElem?_push,if_neg (by omega)]
theorem lA(w:World)(o:Obj):(w.alloc o).heap[w.heap.size]? =some o:=by show(w.heap.push o)[w.heap.size]? =_;rw[Array.getElem?_push,if_pos rfl]
theorem oF{w:World}{b:Nat}{o:Obj}(h:w.heap[b]? =some o):b<w.heap.size:=(dM.1 h).1
theorem Post.new{P:Program}{ρ:Rho}{H:Heap}{w:World}(h:HRel P ρ H w)(blk:Blk)(o:Obj)(e:Nat)(p:Place)(hb:p.b=w.heap.size) (hc:∀cs ty rw lo ver,blk=.cells cs ty rw lo ver->cs.length=e∧CellsAt P (ρ.put H.length e p) (w.alloc o) cs ty rw ver lo e p) (hm:∀es ck ver,blk=.map es ck ver->e=0∧∃es',o=.map es' ck∧All2 (EntryRel (ρ.put H.length e p)) es es'.toList) (hlp:∀r,blk=.loop r->e=0∧∃r',o=.loop r'∧LoopRel (ρ.put H.length e p) r r') (hng:blk.bS=false:=by rfl): Post P ρ H w (ρ.put H.length e p) (H.cons blk) (w.alloc o):=by
 (have hno:∀f,ρ H.length f=none:=λf=>by cases hh:ρ H.length f with| none=>rfl| some q=>exact absurd (h.dom _ _ _ hh).1 (ft _));have hle:ρ.Le (ρ.put H.length e p):=.put (hno e);(have hold:∀A f q,(ρ.put H.length e p) A f=some q->(A=H.length∧f=e∧q=p)∨(A<H.length∧ρ A f=some q∧q.b<w.heap.size):=λA f q hq=>by by_cases hh:A=H.length∧f=e;(·obtain⟨rfl,rfl⟩:=hh;rw[Rho.aq]at hq;exact .inl ⟨rfl,rfl,(dC hq).symm⟩);·rw[Rho.aM hh]at hq;exact .inr ⟨(h.dom _ _ _ hq).1,hq,(h.dom _ _ _ hq).2⟩);have hget_old:∀A,A<H.length->kB (H.cons blk) A=kB H A:=λA hA=>kU blk hA;(have hrel:HRel P (ρ.put H.length e p) (H.cons blk) (w.alloc o):=by refine⟨?_,?_,?_,?_,?_,?_,λA hA=>by by_cases he:A=H.length;(·subst he;rw[jY];rfl);·rw[length_cons]at hA;rw[hget_old A (by omega)];exact h.full A (by omega),λA cs ty lo hg=>by by_cases he:A=H.length;(·subst he;rw[jY]at hg;rw[dC hg]at hng;cases hng);·have hA:A<(H.cons blk).length:=kV hg;simp at hA;rw[hget_old A (by omega)]at hg;obtain⟨q,h1,h2,h3⟩:=h.glob A cs ty lo hg;exact⟨q,hle _ _ _ h1,h2,h3⟩⟩;(·intro A f q hq;rcases hold A f q hq with⟨rfl,rfl,rfl⟩|⟨hA,_,hqb⟩;(·exact⟨by simp,by rw[hb];simp⟩);·exact⟨by simp;omega,by simp;omega⟩);(·intro A cs ty rw lo ver hg;have hA:A<(H.cons blk).length:=kV hg;by_cases he:A=H.length;(·subst he;rw[jY]at hg;obtain⟨hlen,hcell⟩:=hc _ _ _ _ _ (dC hg);refine⟨⟨p,by rw[hlen,Rho.aq]⟩,λf q hq=> ?_⟩;rcases hold _ f q hq with⟨_,rfl,rfl⟩|⟨hlt,_,_⟩;(·exact hcell);·exact absurd hlt (ft _));·(have hA':A<H.length:=by simp at hA;omega);rw[hget_old A hA']at hg;obtain⟨⟨q,hq⟩,hall⟩:=h.cells _ _ _ _ _ _ hg;refine⟨⟨q,hle _ _ _ hq⟩,λf q hq=> ?_⟩;rcases hold _ f q hq with⟨rfl,_,_⟩|⟨_,hq',hqb⟩;(·exact absurd hA' (ft _));·exact(hall f q hq').world hle (kZ hqb));(·intro A es ck ver hg;have hA:A<(H.cons blk).length:=kV hg;by_cases he:A=H.length;(·subst he;rw[jY]at hg;obtain⟨rfl,es',ho,hall⟩:=hm _ _ _ (dC hg);exact⟨p,es',Rho.aq _ _ _ _,by rw[hb,lA,ho],hall⟩);·(have hA':A<H.length:=by simp at hA;omega);rw[hget_old A hA']at hg;obtain⟨q,es',hq,hw,hall⟩:=h.map _ _ _ _ hg;exact⟨q,es',hle _ _ _ hq,by rw[kZ (oF hw),hw],hall.mono λ_ _ x=>x.mono hle⟩);(·intro A r hg;have hA:A<(H.cons blk).length:=kV hg;by_cases he:A=H.length;(·subst he;rw[jY]at hg;obtain⟨rfl,r',ho,hall⟩:=hlp _ (dC hg);exact⟨p,r',Rho.aq _ _ _ _,by rw[hb,lA,ho],hall⟩);·(have hA':A<H.length:=by simp at hA;omega);rw[hget_old A hA']at hg;obtain⟨q,r',hq,hw,hall⟩:=h.loop _ _ hg;exact⟨q,r',hle _ _ _ hq,by rw[kZ (oF hw),hw],hall.mono hle⟩);(·intro A f q blk' hq hg;rcases hold A f q hq with⟨rfl,rfl,rfl⟩|⟨hA,hq',_⟩;(·rw[jY]at hg;obtain rfl:=dC hg;cases blk with| cells=>exact .inl rfl| map=>exact .inr (hm _ _ _ rfl).1| loop=>exact .inr (hlp _ rfl).1);·rw[hget_old A hA]at hg;exact h.one _ _ _ _ hq' hg);·intro A f q A2 f2 q2 blk' hq hq2 hbb hg hwr;rcases hold A f q hq with⟨rfl,rfl,rfl⟩|⟨hA,hq',hqb⟩;(·rcases hold A2 f2 q2 hq2 with⟨rfl,rfl,rfl⟩|⟨hA2,hq2',hqb2⟩;(·exact⟨rfl,rfl⟩);·omega);·rcases hold A2 f2 q2 hq2 with⟨rfl,rfl,rfl⟩|⟨hA2,hq2',hqb2⟩;(·omega);·rw[hget_old A hA]at hg;exact h.excl _ _ _ _ _ _ _ hq' hq2' hbb hg hwr)
 refine⟨hle,hrel,by simp,by simp,rfl,⟨rfl,dJ _⟩,rfl,λb hb' hw=>⟨kZ hb',?_⟩,λb r hr=>⟨r,by rw[kZ (oF hr),hr]⟩,λb hb' hw A f q hq=> ?_⟩;(case refine_2=>rcases hold A f q hq with⟨rfl,rfl,rfl⟩|⟨hA,hq',_⟩;(·omega);·exact hw _ _ _ hq');rintro⟨A,f,q,blk',hq,rfl,hg,hwr⟩;rcases hold A f q hq with⟨rfl,rfl,rfl⟩|⟨hA,hq',_⟩;(·omega);·rw[hget_old A hA]at hg;exact hw ⟨A,f,q,blk',hq',rfl,hg,hwr⟩
theorem HRel.bn{P:Program}{ρ:Rho}{H:Heap}{w:World}(h:HRel P ρ H w)(A:Nat)(b:Blk):∀B,B<(hset H A b).length->(kB (hset H A b) B).isSome=true:=λB hB=>by rw[lC]at hB;by_cases he:A=B;(·subst he;rw[kF _ hB];rfl);·rw[kS _ he];exact h.full B hB
theorem Post.ct{P:Program}{ρ ρ':Rho}{H:Heap}{w w':World}(h:HRel P ρ H w){A e:Nat}{blk:Blk}{p:Place}(blk':Blk)(hg:kB H A=some blk)(hwr:blk.wr=true)(hp:ρ A e=some p) (hle:ρ.Le ρ') (hnew:∀B f q,ρ' B f=some q->ρ B f=some q∨(B=A∧q.b=p.b∧q.d=p.d)) (hsz:w'.heap.size=w.heap.size) (hoth:∀b,b≠p.b->w'.heap[b]? =w.heap[b]?) (hos:w'.os=w.os) (htape:w'.tape=w.tape∧w.drawn<=w'.drawn) (hout:w'.output=w.output) (hc:∀cs ty rw lo ver,blk'=.cells cs ty rw lo ver->(∃q,ρ' A cs.length=some q)∧∀f q,ρ' A f=some q->CellsAt P ρ' w' cs ty rw ver lo f q) (hm:∀es ck ver,blk'=.map es ck ver->∃q es',ρ' A 0=some q∧w'.heap[q.b]? =some (.map es' ck)∧All2 (EntryRel ρ') es es'.toList) (hl:∀r,blk'=.loop r->∃q r',ρ' A 0=some q∧w'.heap[q.b]? =some (.loop r')∧LoopRel ρ' r r') (hone:∀f q,ρ' A f=some q->blk'.aK=true∨f=0) (hloops:∀r,w.heap[p.b]? =some (Obj.loop r)->∃r',w'.heap[p.b]? =some (Obj.loop r')) (hng:blk'.bS=false:=by rfl): Post P ρ H w ρ' (hset H A blk') w':=by
 have hA:=kV hg;have hpb:=(h.dom _ _ _ hp).2;(have hold:∀B f q,B≠A->ρ' B f=some q->ρ B f=some q∧q.b≠p.b:=λB f q hne hq=>by rcases hnew B f q hq with hq'|⟨e,_⟩;(·exact⟨hq',λhb=>hne (h.excl _ _ _ _ _ _ _ hp hq' hb.symm hg hwr).1⟩);·exact absurd e hne);(have hrel:HRel P ρ' (hset H A blk') w':=by refine⟨?_,?_,?_,?_,?_,?_,h.bn _ _,λB cs ty lo hg'=>by by_cases hB:B=A;(·subst hB;rw[kF _ hA]at hg';rw[dC hg']at hng;cases hng);·rw[kS _ (fM hB)]at hg';obtain⟨q,h1,h2,h3⟩:=h.glob B cs ty lo hg';exact⟨q,hle _ _ _ h1,h2,h3⟩⟩;(·intro B f q hq;rw[lC,hsz];rcases hnew B f q hq with hq'|⟨rfl,hb,_⟩;(·exact h.dom _ _ _ hq');·exact⟨hA,by rw[hb];exact hpb⟩);(·intro B cs ty rw lo ver hg';by_cases hB:B=A;(·subst hB;rw[kF _ hA]at hg';exact hc _ _ _ _ _ (dC hg'));·rw[kS _ (fM hB)]at hg';obtain⟨⟨q,hq⟩,hall⟩:=h.cells _ _ _ _ _ _ hg';refine⟨⟨q,hle _ _ _ hq⟩,λf q hq=> ?_⟩;obtain⟨hq',hne⟩:=hold B f q hB hq;exact(hall f q hq').world hle (hoth _ hne));(·intro B es ck ver hg';by_cases hB:B=A;(·subst hB;rw[kF _ hA]at hg';exact hm _ _ _ (dC hg'));·rw[kS _ (fM hB)]at hg';obtain⟨q,es',hq,hw,hall⟩:=h.map _ _ _ _ hg';exact⟨q,es',hle _ _ _ hq,by rw[hoth _ (hold B 0 q hB (hle _ _ _ hq)).2,hw],hall.mono λ_ _ x=>x.mono hle⟩);(·intro B r hg';by_cases hB:B=A;(·subst hB;rw[kF _ hA]at hg';exact hl _ (dC hg'));·rw[kS _ (fM hB)]at hg';obtain⟨q,r',hq,hw,hall⟩:=h.loop _ _ hg';exact⟨q,r',hle _ _ _ hq,by rw[hoth _ (hold B 0 q hB (hle _ _ _ hq)).2,hw],hall.mono hle⟩);(·intro B f q b hq hg';by_cases hB:B=A;(·subst hB;rw[kF _ hA]at hg';obtain rfl:=dC hg';exact hone f q hq);·rw[kS _ (fM hB)]at hg';exact h.one _ _ _ _ (hold B f q hB hq).1 hg');·intro B f q B2 f2 q2 b hq hq2 hbb hg' hw;(have hAd:∀f q,ρ' A f=some q->q.b=p.b->q.d=p.d:=λf q hq hb=>by rcases hnew A f q hq with hq'|⟨_,_,hd⟩;(·exact(h.excl _ _ _ _ _ _ _ hp hq' hb.symm hg hwr).2);·exact hd);by_cases hB:B=A;(·subst hB;by_cases hB2:B2=B;(·subst hB2;refine⟨rfl,?_⟩;rcases hnew B2 f q hq with hq'|⟨_,hb,hd⟩;(·rcases hnew B2 f2 q2 hq2 with hq2'|⟨_,hb2,hd2⟩;(·exact(h.excl _ _ _ _ _ _ _ hq' hq2' hbb hg hwr).2);·rw[hd2];exact(hAd f q hq (hbb.trans hb2)).symm);·rw[hd];exact hAd f2 q2 hq2 (hbb▸hb));·obtain⟨hq2',hne⟩:=hold B2 f2 q2 hB2 hq2;rcases hnew B f q hq with hq'|⟨_,hb,_⟩;(·exact h.excl _ _ _ _ _ _ _ hq' hq2' hbb hg hwr);·exact absurd (hbb▸hb) hne);·rw[kS _ (fM hB)]at hg';obtain⟨hq',hne⟩:=hold B f q hB hq;rcases hnew B2 f2 q2 hq2 with hq2'|⟨rfl,hb2,_⟩;(·exact h.excl _ _ _ _ _ _ _ hq' hq2' hbb hg' hw);·exact absurd (hbb.trans hb2) hne)
 refine⟨hle,hrel,by rw[lC];exact dJ _,by rw[hsz];exact dJ _,hos,htape,hout,λb _ hw=> ?_,λb r hr=> ?_,λb _ hw B f q hq=> ?_⟩;rotate_right;(·rcases hnew B f q hq with hq'|⟨_,e,_⟩;(·exact hw _ _ _ hq');·rw[e];exact hw _ _ _ hp);(·have hb:b≠p.b:=λe=>hw ⟨A,_,p,blk,hp,e.symm,hg,hwr⟩;refine⟨hoth _ hb,?_⟩;rintro⟨B,f,q,b',hq,rfl,hg',hw'⟩;by_cases hB:B=A;(·subst hB;rcases hnew B f q hq with hq'|⟨_,e,_⟩;(·exact hw ⟨B,f,q,blk,hq',rfl,hg,hwr⟩);·exact hb e);·rw[kS _ (fM hB)]at hg';exact hw ⟨B,f,q,b',(hold B f q hB hq).1,rfl,hg',hw'⟩);·by_cases hb:b=p.b;(·subst hb;exact hloops r hr);·exact⟨r,by rw[hoth _ hb,hr]⟩
theorem CellsAt.grow{P:Program}{ρ:Rho}{w:World}{cs:List Value}{ty:TypeId}{rw:Bool}{tg tg2 lo e:Nat}{p:Place}(l:List Value) (htg:tg2=0->tg=0) (h:CellsAt P ρ w cs ty rw tg lo e p):CellsAt P ρ w (cs++l) ty rw tg2 lo e p:=by obtain⟨h1,h2,h3,cur,ty',fr,h4,h5,h6,h7⟩:=h;exact⟨by simp;omega,h2,h3,cur,ty',fr,h4,h5,λhr=>⟨(h6 hr).1,(h6 hr).2.1,λh=>(h6 hr).2.2 (htg h)⟩,λhlo i c hi h0 hc=>h7 hlo i c hi h0 (by rwa [eS (by omega)]at hc)⟩
theorem Post.cH{P:Program}{ρ:Rho}{H:Heap}{w:World}(h:HRel P ρ H w){A:Nat}{cs:List Value}{ty:TypeId}{lo ver tg:Nat}(l:List Value)(o:Obj)(p:Place)(htg:tg=0->ver=0) (hg:kB H A=some (.cells cs ty true lo ver)) (hl:l≠[]) (hb:p.b=w.heap.size) (hc:CellsAt P (ρ.put A (cs.length+l.length) p) (w.alloc o) (cs++l) ty true tg lo (cs.length+l.length) p): Post P ρ H w (ρ.put A (cs.length+l.length) p) (hset H A (.cells (cs++l) ty true lo tg)) (w.alloc o):=by
 have hA:=kV hg;have hlen:0<l.length:=im.2 hl;obtain⟨⟨p0,hp0⟩,hall0⟩:=h.cells _ _ _ _ _ _ hg;(have hno:ρ A (cs.length+l.length)=none:=by cases hh:ρ A (cs.length+l.length)with| none=>rfl| some q=>have:=(hall0 _ _ hh).le;omega);have hle:ρ.Le (ρ.put A (cs.length+l.length) p):=.put hno;(have hold:∀B f q,(ρ.put A (cs.length+l.length) p) B f=some q->(B=A∧f=cs.length+l.length∧q=p)∨(ρ B f=some q∧q.b<w.heap.size):=λB f q hq=>by by_cases hh:B=A∧f=cs.length+l.length;(·obtain⟨rfl,rfl⟩:=hh;rw[Rho.aq]at hq;exact .inl ⟨rfl,rfl,(dC hq).symm⟩);·rw[Rho.aM hh]at hq;exact .inr ⟨hq,(h.dom _ _ _ hq).2⟩);(have hrel:HRel P (ρ.put A (cs.length+l.length) p) (hset H A (.cells (cs++l) ty true lo tg)) (w.alloc o):=by refine⟨?_,?_,?_,?_,?_,?_,h.bn _ _,λB cs' ty' lo' hg'=>by by_cases hB:B=A;(·subst hB;rw[kF _ hA]at hg';cases (dC hg'));·rw[kS _ (fM hB)]at hg';obtain⟨q,h1,h2,h3⟩:=h.glob B cs' ty' lo' hg';exact⟨q,hle _ _ _ h1,h2,h3⟩⟩;(·intro B f q hq;rw[lC];rcases hold B f q hq with⟨rfl,rfl,rfl⟩|⟨hq',hqb⟩;(·exact⟨hA,by rw[hb];simp⟩);·exact⟨(h.dom _ _ _ hq').1,by simp;omega⟩);(·intro B cs' ty' rw' lo' ver' hg';by_cases hB:B=A;(·subst hB;rw[kF _ hA]at hg';injection (dC hg')with e1 e2 e3 e4 e5;subst e1 e2 e3 e4 e5;refine⟨⟨p,by rw[dN,Rho.aq]⟩,λf q hq=> ?_⟩;rcases hold _ f q hq with⟨_,rfl,rfl⟩|⟨hq',hqb⟩;(·exact hc);·exact((hall0 f q hq').world hle (kZ hqb)).grow l htg);·rw[kS _ (fM hB)]at hg';obtain⟨⟨q,hq⟩,hall⟩:=h.cells _ _ _ _ _ _ hg';refine⟨⟨q,hle _ _ _ hq⟩,λf q hq=> ?_⟩;rcases hold _ f q hq with⟨e,_,_⟩|⟨hq',hqb⟩;(·exact absurd e hB);·exact(hall f q hq').world hle (kZ hqb));(·intro B es ck ver' hg';by_cases hB:B=A;(·subst hB;rw[kF _ hA]at hg';cases hg');·rw[kS _ (fM hB)]at hg';obtain⟨q,es',hq,hw,hall⟩:=h.map _ _ _ _ hg';exact⟨q,es',hle _ _ _ hq,by rw[kZ (oF hw),hw],hall.mono λ_ _ x=>x.mono hle⟩);(·intro B r hg';by_cases hB:B=A;(·subst hB;rw[kF _ hA]at hg';cases hg');·rw[kS _ (fM hB)]at hg';obtain⟨q,r',hq,hw,hall⟩:=h.loop _ _ hg';exact⟨q,r',hle _ _ _ hq,by rw[kZ (oF hw),hw],hall.mono hle⟩);(·intro B f q b hq hg';by_cases hB:B=A;(·subst hB;rw[kF _ hA]at hg';obtain rfl:=dC hg';exact .inl rfl);·rw[kS _ (fM hB)]at hg';rcases hold _ f q hq with⟨e,_,_⟩|⟨hq',_⟩;(·exact absurd e hB);·exact h.one _ _ _ _ hq' hg');·intro B f q B2 f2 q2 b hq hq2 hbb hg' hw;rcases hold _ f q hq with⟨rfl,rfl,rfl⟩|⟨hq',hqb⟩;(·rcases hold _ f2 q2 hq2 with⟨rfl,rfl,rfl⟩|⟨hq2',hqb2⟩;(·exact⟨rfl,rfl⟩);·omega);·rcases hold _ f2 q2 hq2 with⟨rfl,rfl,rfl⟩|⟨hq2',hqb2⟩;(·omega);·by_cases hB:B=A;(·subst hB;exact h.excl _ _ _ _ _ _ _ hq' hq2' hbb hg rfl);·rw[kS _ (fM hB)]at hg';exact h.excl _ _ _ _ _ _ _ hq' hq2' hbb hg' hw)
 refine⟨hle,hrel,by rw[lC];exact dJ _,by simp,rfl,⟨rfl,dJ _⟩,rfl,λb hb' hw=>⟨kZ hb',?_⟩,λb r hr=>⟨r,by rw[kZ (oF hr),hr]⟩,λb hb' hw B f q hq=> ?_⟩;(case refine_2=>rcases hold _ f q hq with⟨rfl,rfl,rfl⟩|⟨hq',_⟩;(·omega);·exact hw _ _ _ hq');rintro⟨B,f,q,b',hq,rfl,hg',hw'⟩;rcases hold _ f q hq with⟨rfl,rfl,rfl⟩|⟨hq',_⟩;(·omega);·by_cases hB:B=A;(·subst hB;exact hw ⟨B,f,q,_,hq',rfl,hg,rfl⟩);·rw[kS _ (fM hB)]at hg';exact hw ⟨B,f,q,b',hq',rfl,hg',hw'⟩
section
variable {P:Program} {ρ:Rho} {H:Heap} {w:World}
def OpOk(P:Program)(ρ:Rho)(H:Heap)(w:World)(res:Result Next)(v:Value)(H':Heap):Prop:=∃ρ' v' nx w',res=.ok nx w'∧(nx=.value v'∨(nx=.skip∧v'=undef))∧Post P ρ H w ρ' H' w'∧V ρ' v v'
theorem OpOk.pure(h:HRel P ρ H w){res:Result Next}{v v':Value}(hr:res=.ok (.value v') w)(hv:V ρ v v'):OpOk P ρ H w res v H:=⟨ρ,v',_,w,hr,.inl rfl,.refl h,hv⟩
theorem mM{α:Type}(s:Sem α){x:α}(h:kC P s=some x)(w:World):s.run P w=.ok x w:=by induction s with| pure a=>simp only[kC,eu]at h;subst h;rfl| program k ih=>simp only[kC]at h;simp only[Sem.run];exact ih P h| _=>simp[kC]at h
theorem a5A{l:List Value}{tm:Array Value}(hE:All2 (V ρ) l tm.toList)(t:Tmp):V ρ (get l t) (tm.getD t undef):=by rw[qS];rw[dG];(have e:tm.getD t undef=(tm.toList[t]?).getD undef:=by simp);rw[e];cases h:l[t]? with| none=>(have:tm.toList[t]? =none:=by rw[List.getElem?_eq_none_iff]at h ⊢;rw[<-hE.length];exact h);rw[this];exact .undef| some a=>obtain⟨b,hb,r⟩:=hE.get t a h;rw[hb];exact r
theorem vC{l:List Value}{a:Act}(hE:All2 (V ρ) l a.tmps.toList){x:Operand}(hx:kH x=true):V ρ (ev l x) (a.eval x):=by cases x with| tmp t=>exact a5A hE t| const v=>exact .of_flat hx| global g=>exact .v1 (.c1 (.c0 (.glob g 0)))| func f=>exact .v1 (.c1 (.fn trivial trivial))
theorem tR{l:List Value}{a:Act}(hE:All2 (V ρ) l a.tmps.toList){v v':Value}(hv:V ρ v v')(d:Option Tmp):All2 (V ρ) (put l d v) (a.put d v').tmps.toList:=by cases d with| none=>exact hE| some k=>simp only[put,pG,Act.put,Array.toList_setIfInBounds];exact hE.set hv k
theorem xT{p:Place}{i:Nat}(h0:0<=(i:Int)+p.d)(j:Nat):p.at (i+j)=p.at i+j:=by unfold Place.at;omega
theorem pR(b o j:Nat):(⟨b,o,none⟩:Addr).add j=⟨b,o+j,none⟩:=by unfold Addr.add;split<;>simp_all
def a9Y(P:Program)(ρ:Rho)(H:Heap)(w:World)(A e:Nat)(p:Place):Prop:=∀cs ty rw lo ver,kB H A=some (.cells cs ty rw lo ver)->CellsAt P ρ w cs ty rw ver lo e p
theorem HRel.row(h:HRel P ρ H w){A e:Nat}{p:Place}(hp:ρ A e=some p):a9Y P ρ H w A e p:=λ_ _ _ _ _ hg=>(h.cells _ _ _ _ _ _ hg).2 e p hp
theorem a1m{A i e n:Nat}{l:List Value}{p:Place}(h:a9Y P ρ H w A e p)(hc:kT H A i e n=some l)(h0:0<=(i:Int)+p.d): ∃l',All2 (C1 ρ) l l'∧l.length=n∧i+n<=e∧(∀(j:Nat)v,l'[j]? =some v->w.cell? ((⟨p.b,p.at i,none⟩:Addr).add j)=some v):=by
 unfold kT at hc;split at hc;(·rename_i cs ty rw lo ver hg;split at hc;(·rename_i hcond;simp only[dE,decide_eq_true_eq]at hcond;obtain⟨⟨hlo,hle⟩,hin⟩:=hcond;obtain rfl:=dC hc;obtain⟨_,_,_,cur,ty',fr,hw,hsz,_,hcell⟩:=h _ _ _ _ _ hg;(have hll:((cs.drop i).take n).length=n:=by simp;omega);(have hcur:∀j,j<n->∃c',cur[p.at i+j]? =some c'∧∃c,cs[i+j]? =some c∧C1 ρ c c':=λj hj=>by(have hlt:i+j<cs.length:=by omega);obtain⟨c',a,b⟩:=hcell hlo (i+j) cs[i+j] (by omega) (by omega) (dI hlt);exact⟨c',by rw[xT h0]at a;exact a,_,dI hlt,b⟩);refine⟨(cur.toList.drop (p.at i)).take n,All2.bp ?_ ?_,hll,hin,?_⟩;(·rw[hll];(have:n=0∨p.at i+n<=cur.size:=by rcases Nat.eq_zero_or_pos n with hn|hn;(·exact .inl hn);·obtain⟨c',hc',_⟩:=hcur (n-1) (by omega);have:=(dM.1 hc').1;exact .inr (by omega));simp;omega);(·intro j a ha;(have hj:j<n:=by have:=(dK.1 ha).1;rw[hll]at this;exact this);obtain⟨c',hc',c,hcc,hr⟩:=hcur j hj;rw[eP hj,eH,hcc]at ha;obtain rfl:=dC ha;exact⟨c',by rw[eP hj,eH];simpa using hc',hr⟩);·intro j v hv;(have hj:j<n:=by have:=(dK.1 hv).1;simp at this;omega);rw[eP hj,eH]at hv;rw[pR];simp only[World.cell?,hw];simpa using hv);·cases hc)
 ·cases hc
theorem a9R(h:HRel P ρ H w){A i e n:Nat}{l:List Value}{p:Place}(hc:kT H A i e n=some l)(hp:ρ A e=some p)(h0:0<=(i:Int)+p.d): ∃l',All2 (C1 ρ) l l'∧l.length=n∧i+n<=e∧(∀(j:Nat)v,l'[j]? =some v->w.cell? ((⟨p.b,p.at i,none⟩:Addr).add j)=some v):=a1m (h.row hp) hc h0
theorem V.aI{A i e:Nat}{v':Value}(h:V ρ (.pointer (some ⟨A,i,some e⟩)) v'):∃p,ρ A e=some p∧0<=(i:Int)+p.d∧v'=.pointer (some ⟨p.b,p.at i,none⟩):=by cases h with| v1 h=>cases h with| c1 h=>cases h with| c0 h=>cases h with| flat h=>simp[kG]at h| ptr h h0=>exact⟨_,h,h0,rfl⟩
theorem V.az{A i e n c:Nat}{v':Value}(h:V ρ (.slice (some ⟨A,i,some e⟩) n c) v'): ∃p c' a,ρ A e=some p∧0<=(i:Int)+p.d∧i+n*p.k<=e∧(n<=c'∧e<=i+c'*p.k)∧((a=⟨p.b,p.at i,none⟩∧p.at i+c'*p.k<=p.sz)∨(n=0∧c'=0))∧c=p.k∧v'=.slice (some a) n c':=by cases h with| v1 h=>cases h with| c1 h=>cases h with| c0 h=>cases h with| flat h=>simp[kG]at h| slice h h0 hn hc hs=>exact⟨_,_,_,h,h0,hn,hc,hs,rfl,rfl⟩
theorem V.aA{o:Option Addr}{n c:Nat}{v':Value}(h:V ρ (.slice o n c) v'): (o=none∧n=0∧c=0∧v'=.slice none 0 0)∨(∃A i e p c' a,o=some ⟨A,i,some e⟩∧ρ A e=some p∧0<=(i:Int)+p.d∧i+n*p.k<=e∧(n<=c'∧e<=i+c'*p.k)∧((a=⟨p.b,p.at i,none⟩∧p.at i+c'*p.k<=p.sz)∨(n=0∧c'=0))∧c=p.k∧v'=.slice (some a) n c'):=by cases h with| v1 h=>cases h with| c1 h=>cases h with| c0 h=>cases h with| flat h=>(cases o with| none=>simp only[kG,dE,beq_iff_eq]at h;obtain⟨rfl,rfl⟩:=h;exact .inl ⟨rfl,rfl,rfl,rfl⟩| some a=>simp[kG]at h)| slice h h0 hn hc hs=>exact .inr ⟨_,_,_,_,_,_,rfl,h,h0,hn,hc,hs,rfl,rfl⟩
theorem tP{t:TypeId}{b:Bool}(h:lE P t=some b)(w:World):(isAgg t).run P w=.ok b w:=by unfold lE at h;unfold isAgg;cases hu:P.underlying t with| none=>rw[hu]at h;cases h| some d=>rw[hu]at h;simp only[dL,run_underlying hu,dH];cases d<;>simp at h<;>subst h<;>rfl
theorem lP{t:TypeId}{n:Nat}(h:jT P t=some n)(w:World):(sizeOf t).run P w=.ok n w:=by unfold jT at h;cases hi:P.info? t with| none=>rw[hi]at h;cases h| some i=>rw[hi]at h;obtain rfl:=dC h;simp[sizeOf,typeInfo,hi]
theorem sZ{t:TypeId}{z:Value}(h:kN P t=some z)(w:World):(zeroValue t).run P w=.ok z w:=by unfold kN at h;cases hi:P.info? t with| none=>rw[hi]at h;cases h| some i=>rw[hi]at h;simp only[dD]at h;simp[zeroValue,typeInfo,hi,h]
theorem V.bA{g i:Nat}{v':Value}(h:V ρ (.pointer (some ⟨g,i,none⟩)) v'):v'=.pointer (some ⟨g,i,none⟩):=by cases h with| v1 h=>cases h with| c1 h=>cases h with| c0 h=>cases h with| flat h=>simp[kG]at h| glob=>rfl
theorem b0n{t:TypeId}{A i e:Nat}{r:Value}{p:Place}(h:a9Y P ρ H w A e p)(h0:0<=(i:Int)+p.d) (hl:(match lE P t with| some true=>(jT P t).bind λn=>(kT H A i e n).map λl=>Value.agg l.toArray| some false=>(kT H A i e 1).bind λl=>l[0]?| none=>none)=some r):∃r',(Instr.loadAt t (.pointer (some ⟨p.b,p.at i,none⟩))).run P w=.ok r' w∧V ρ r r':=by
 split at hl;(·rename_i hagg;cases hs:jT P t with| none=>rw[hs]at hl;cases hl| some n=>rw[hs]at hl;simp only[dD,dO]at hl;obtain⟨l,hc,rfl⟩:=hl;obtain⟨l',hall,hlen,_,hcell⟩:=a1m h hc h0;refine⟨.agg l'.toArray,?_,.v1 (.agg (by simpa using hall))⟩;(have hn:l'.length=n:=by rw[<-hall.length,hlen]);have:=run_loadCells_list (P:=P) w ⟨p.b,p.at i,none⟩ l' hcell;rw[hn]at this;simp[Instr.loadAt,Instr.sureAddr,loadVar,tP hagg,lP hs,this]);(·rename_i hagg;cases hc:kT H A i e 1 with| none=>rw[hc]at hl;cases hl| some l=>rw[hc]at hl;simp only[dD]at hl;obtain⟨l',hall,hlen,_,hcell⟩:=a1m h hc h0;obtain⟨r',hr',hrel⟩:=hall.get 0 r hl;refine⟨r',?_,.v1 (.c1 hrel)⟩;have hcl:w.cell? ⟨p.b,p.at i,none⟩=some r':=hcell 0 r' hr';simp[Instr.loadAt,Instr.sureAddr,loadVar,tP hagg,run_load,hcl]);·cases hl
theorem b6n(h:HRel P ρ H w){t:TypeId}{A i e:Nat}{r:Value}{p:Place}(hp:ρ A e=some p)(h0:0<=(i:Int)+p.d) (hl:(match lE P t with| some true=>(jT P t).bind λn=>(kT H A i e n).map λl=>Value.agg l.toArray| some false=>(kT H A i e 1).bind λl=>l[0]?| none=>none)=some r):∃r',(Instr.loadAt t (.pointer (some ⟨p.b,p.at i,none⟩))).run P w=.ok r' w∧V ρ r r':=b0n (h.row hp) h0 hl
theorem b6e(h:HRel P ρ H w){t:TypeId}{v v' r:Value}(hl:mU P H t v=some r)(hv:V ρ v v'):∃r',(Instr.loadAt t v').run P w=.ok r' w∧V ρ r r':=by unfold mU at hl;split at hl;(·rename_i A i e;obtain⟨p,hp,h0,rfl⟩:=hv.aI;exact b6n h hp h0 hl);(·rename_i A i;obtain rfl:=hv.bA;split at hl;(·rename_i cs ty lo hg;obtain⟨p,hp,hb,hd,_⟩:=h.glob A cs ty lo hg;obtain⟨r',h1,h2⟩:=b6n h (i:=i) hp (by rw[hd];omega) hl;(have e:p.at i=i:=by simp[Place.at,hd]);rw[hb,e]at h1;exact⟨r',h1,h2⟩);·cases hl);·cases hl
end
section
variable {P:Program} {ρ:Rho} {H:Heap} {w:World}
theorem qZ:∀(l cs:List Value)(i:Nat),(kQ cs i l).length=cs.length| [],_,_=>rfl| v::l,cs,i=>by simp[kQ,pG,qZ l]
theorem getElem?_setMany:∀(l cs:List Value)(i j:Nat),i+l.length<=cs.length->(kQ cs i l)[j]? =if i<=j∧j<i+l.length then l[j-i]? else cs[j]?| [],cs,i,j,_=>by simp[kQ];omega| v::l,cs,i,j,h=>by simp only[kQ,pG,dV]at h ⊢;rw[getElem?_setMany l (cs.set i v) (i+1) j (by simp;omega)];by_cases hj:j=i;(·subst hj;rw[if_neg (by omega),if_pos (by omega),List.getElem?_set_self (by omega)];simp);·by_cases h2:i+1<=j∧j<i+1+l.length;(·rw[if_pos h2,if_pos (by omega)];(have:j-i=(j-(i+1))+1:=by omega);rw[this];rfl);·rw[if_neg h2,if_neg (by omega),List.getElem?_set_ne (by omega)]
theorem a3F(l m:List Value)(o j:Nat)(h:o+m.length<=l.length):(l.take o++m++l.drop (o+m.length))[j]? =if o<=j∧j<o+m.length then m[j-o]? else l[j]?:=by(have hlen:(l.take o).length=o:=by simp;omega);by_cases h1:j<o;(·rw[if_neg (by omega),fp,eS (by omega),eP h1]);·by_cases h2:j<o+m.length;(·rw[if_pos (by omega),eS (by simp;omega),eJ (by omega),hlen]);·rw[if_neg (by omega),eJ (by simp;omega)];simp only[dN,hlen,eH];congr 1;omega
theorem vE(h:HRel P ρ H w){A i:Nat}{cs:List Value}{ty:TypeId}{lo ver:Nat}{p:Place}{l l':List Value}(hg:kB H A=some (.cells cs ty true lo ver)) (hp:ρ A cs.length=some p) (h0:0<=(i:Int)+p.d) (hl:All2 (C1 ρ) l l') (hi:i+l.length<=cs.length) (hlo0:lo<=cs.length): ∃w',(storeCells ⟨p.b,p.at i,none⟩ l').run P w=.ok () w'∧Post P ρ H w ρ (hset H A (.cells (kQ cs i l) ty true cs.length ver)) w':=by
 have hall:=(h.cells _ _ _ _ _ _ hg).2;obtain⟨_,hk,hfit,cur,ty',fr,hw,hsz,hfr,hcell⟩:=hall _ _ hp;obtain⟨rfl,hpd,hty'⟩:=hfr rfl;have hll:=hl.length;(have hati:p.at i+l'.length<=cur.size:=by rw[<-hll,hsz];unfold Place.at;omega);have hst:=run_storeCells_at P p.b (p.at i) ty' l' 0 cur w hw (by simpa using hati) hl.aQ;simp only[iS]at hst;refine⟨_,hst,?_⟩;(have hseg:∀(j:Nat),((cur.toList.take (p.at i)++l'++cur.toList.drop (p.at i+l'.length)).toArray)[j]? =if p.at i<=j∧j<p.at i+l'.length then l'[j-p.at i]? else cur[j]?:=λj=>by have:=a3F cur.toList l' (p.at i) j (by simpa using hati);simpa using this);(have hsize:((cur.toList.take (p.at i)++l'++cur.toList.drop (p.at i+l'.length)).toArray).size=cur.size:=by simp;omega);generalize (cur.toList.take (p.at i)++l'++cur.toList.drop (p.at i+l'.length)).toArray=new at hseg hsize;refine Post.ct h _ hg rfl hp (.refl ρ) (λ_ _ _ hq=>.inl hq) (setRow_size _ _ _) (λb hb=>setRow_other _ _ _ _ hb) rfl ⟨rfl,dJ _⟩ rfl ?_ (λ_ _ _ e=>by cases e) (λ_ e=>by cases e) (λ_ _ _=>.inl rfl) (λr hr=>by rw[hw]at hr;cases hr)
 intro cs2 ty2 rw2 lo2 ver2 e;injection e with e1 e2 e3 e4 e5;subst e1 e2 e3 e4 e5;rw[qZ];refine⟨⟨p,hp⟩,λf q hq=> ?_⟩;have hq0:=hall f q hq;obtain⟨q1,q2,q3,qcur,qty,qfr,q4,q5,q6,q7⟩:=hq0;by_cases hqb:q.b=p.b;(·have hqd:q.d=p.d:=(h.excl _ _ _ _ _ _ _ hp hq hqb.symm hg rfl).2;rw[hqb,hw]at q4;injection (dC q4)with e1 e2 e3;subst e1 e2 e3;refine⟨by rw[qZ];exact q1,q2,q3,new,ty',(0,0),by rw[hqb];exact setRow_heap w p.b cur new ty' (0,0) hw,by rw[hsize];exact q5,q6,λhlo j c hj hj0 hc=> ?_⟩;(have hf:f=cs.length:=by omega);subst hf;(have hat:q.at j=p.at j:=by unfold Place.at;rw[hqd]);(have hj0':0<=(j:Int)+p.d:=by rw[<-hqd];exact hj0);rw[getElem?_setMany l cs i j hi]at hc;rw[hat,hseg];by_cases hin:i<=j∧j<i+l.length;(·rw[if_pos hin]at hc;obtain⟨c',hc',hr⟩:=hl.get _ _ hc;refine⟨c',?_,hr⟩;(have e1:p.at j=p.at i+(j-i):=by unfold Place.at;omega);rw[if_pos (by omega),e1];simpa using hc');·rw[if_neg hin]at hc;obtain⟨c',hc',hr⟩:=q7 (by omega) j c hj hj0 hc;refine⟨c',?_,hr⟩;rw[hat]at hc';rw[if_neg (by unfold Place.at;omega)];exact hc')
 ·refine⟨by rw[qZ];exact q1,q2,q3,qcur,qty,qfr,by rw[setRow_other _ _ _ _ hqb];exact q4,q5,q6,λhlo j c hj hj0 hc=> ?_⟩;(have hf:f=cs.length:=by omega);subst hf;rw[hp]at hq;exact absurd (by rw[dC hq]) hqb
theorem c1A(h:HRel P ρ H w){t:TypeId}{v v' x x':Value}{H':Heap}(hs:tJ P H t v x=some H')(hv:V ρ v v')(hx:V ρ x x'): ∃w',(Instr.storeAt t v' x').run P w=.ok () w'∧Post P ρ H w ρ H' w':=by unfold tJ at hs;split at hs;(·rename_i A i e;obtain⟨p,hp,h0,rfl⟩:=hv.aI;split at hs;(·rename_i cs ty lo ver hg;simp only at hs;split at hs;(·rename_i hcond;obtain⟨hsize,hone,rfl,hin,hlo⟩:=hcond;obtain rfl:=dC hs;have hl:=hx.cells hone;obtain⟨w',hrun,hpost⟩:=vE h hg hp h0 hl hin hlo;refine⟨w',?_,hpost⟩;(have hsz:x'.cells.size=x.cells.toList.length:=by rw[hl.length];simp);simp[Instr.storeAt,Instr.sureAddr,storeVar,lP hsize,hsz,hrun]);·cases hs);·cases hs);·cases hs
theorem b2C(h:HRel P ρ H w)(ty:TypeId){n:Nat}(hn:jT P ty=some n){l l':List Value}(hl:All2 (C1 ρ) l l'): Post P ρ H w (ρ.put H.length l.length ⟨w.heap.size,0,l.length,n⟩) (uI H ty l) (w.alloc (.cells l'.toArray ty)):=by
 rw[mO];(have hno:∀f,ρ H.length f=none:=λf=>by cases hh:ρ H.length f with| none=>rfl| some q=>exact absurd (h.dom _ _ _ hh).1 (ft _));refine Post.new h _ _ l.length ⟨w.heap.size,0,l.length,n⟩ rfl ?_ (λ_ _ _ e=>by cases e) (λ_ e=>by cases e);intro cs ty2 rw2 lo ver e;injection e with e1 e2 e3 e4 e5;subst e1 e2 e3 e4 e5;refine⟨rfl,dJ _,hn,by simp,l'.toArray,ty,(0,0),lA _ _,by simp[hl.length],λ_=>⟨rfl,Int.le_refl _,λ_=>rfl⟩,λ_ i c hi _ hc=> ?_⟩;obtain⟨c',hc',hr⟩:=hl.get i c hc;exact⟨c',by simpa [Place.at]using hc',hr.mono (.put (hno _))⟩
theorem b9Z(h:HRel P ρ H w){t:TypeId}{v v' r:Value}{H':Heap}(hs:a0p P H t v=some (r,H'))(hv:V ρ v v'): ∃ρ' r' w',(do pure (Value.pointer (some (<-newVar t v'))):Sem Value).run P w=.ok r' w'∧Post P ρ H w ρ' H' w'∧V ρ' r r':=by
 unfold a0p at hs;simp only at hs;split at hs;(·rename_i hcond;simp only[dE,beq_iff_eq]at hcond;obtain⟨hone,hsz⟩:=hcond;injection (dC hs)with e1 e2;subst e1 e2;have hl:=hv.cells hone;have hpost:=b2C h t hsz hl;refine⟨_,.pointer (some ⟨w.heap.size,0,none⟩),_,?_,hpost,.v1 (.c1 (.c0 ?_))⟩;(·simp[newVar,newRow]);·have:=C0.ptr (ρ:=ρ.put H.length v.cells.toList.length ⟨w.heap.size,0,v.cells.toList.length,v.cells.toList.length⟩) (A:=H.length) (i:=0) (e:=v.cells.toList.length) (Rho.aq _ _ _ _) (by simp);simpa [Place.at]using this);·cases hs
theorem a7M{vs vs':List Value}(off:Nat)(hv:All2 (C1 ρ) vs vs'):∀(k:Nat)(cs cs':Array Value),All2 (C1 ρ) cs.toList cs'.toList-> All2 (C1 ρ) ((vs.zipIdx k).foldl (λ(cs:Array Value)(c,j)=>cs.setIfInBounds (off+j) c) cs).toList ((vs'.zipIdx k).foldl (λ(cs:Array Value)(c,j)=>cs.setIfInBounds (off+j) c) cs').toList:=by induction vs generalizing vs' with| nil=>intro k cs cs' hc;(cases vs' with|nil=>exact hc|cons=>exact hv.elim)| cons a vs ih=>intro k cs cs' hc;cases vs' with| nil=>exact hv.elim| cons b vs'=>simp only[List.zipIdx_cons,fP];refine ih hv.2 _ _ _ ?_;simp only[Array.toList_setIfInBounds];exact hc.set hv.1 _
def b1E(ρ:Rho):List (Nat×Value)->List (Nat×Value)->Prop:=All2 λa b=>b.1=a.1∧V ρ a.2 b.2
theorem V.bE{v v':Value}(h:V ρ v v'):v'.cells.size=v.cells.size:=by cases h with| v1 h=>(cases h with| agg h=>simpa [Value.cells]using h.length.symm| c1 h=>(have:v.cells.toList=[v]∧v'.cells.toList=[v']:=by cases h with| c0 h=>(cases h with| flat h=>(cases v<;>first|exact⟨rfl,rfl⟩|simp[kG]at h)| _=>exact⟨rfl,rfl⟩)| _=>exact⟨rfl,rfl⟩);rw[<-gO,<-gO,this.1,this.2];rfl)| tuple h=>rfl
theorem a1P(place:Nat->Option (Nat×Nat)):∀(ps ps':List (Nat×Value)),b1E ρ ps ps'->(∀x∈ps,x.2.cells.toList.all oneCell=true)->∀(cs cs':Array Value)(r:Array Value),All2 (C1 ρ) cs.toList cs'.toList->Instr.fill place cs ps=some r->∃r',Instr.fill place cs' ps'=some r'∧All2 (C1 ρ) r.toList r'.toList| [],[],_,_,cs,cs',r,hc,hf=>by simp only[Instr.fill,eu]at hf;subst hf;exact⟨cs',rfl,hc⟩| (i,v)::ps,(i',v')::ps',⟨⟨hi,hv⟩,hps⟩,h1,cs,cs',r,hc,hf=>by simp only at hi hv;subst hi;simp only[Instr.fill]at hf ⊢;(cases hp:place i' with| none=>rw[hp]at hf;cases hf| some os=>obtain⟨off,size⟩:=os;rw[hp]at hf;simp only at hf ⊢;have hsz:=hv.bE;(have hcs:cs'.size=cs.size:=by simpa using hc.length.symm);split at hf;(·cases hf);·rename_i hcond;rw[if_neg (by rw[hsz,hcs];exact hcond)];refine a1P place ps ps' hps (λx hx=>h1 x (by simp[hx])) _ _ _ ?_ hf;have:=a7M off (hv.cells (h1 (i',v) (by simp))) 0 cs cs' hc;(have e:∀(a:Array Value)(b:Array Value),(a.zipIdx.foldl (λcs(c,j)=>cs.setIfInBounds (off+j) c) b)=((a.toList.zipIdx 0).foldl (λ(cs:Array Value)(c,j)=>cs.setIfInBounds (off+j) c) b):=λa b=>by rw[<-jv];simp);rw[e,e];exact this)| [],_::_,h,_,_,_,_,_,_=>h.elim| _::_,[],h,_,_,_,_,_,_=>h.elim
end
section
variable {P:Program} {ρ:Rho} {H:Heap} {w:World}
theorem V1.cells{v v':Value}(h:V1 ρ v v'):All2 (C1 ρ) v.cells.toList v'.cells.toList:=by cases h with| agg h=>exact h| c1 h=>(have:v.cells.toList=[v]∧v'.cells.toList=[v']:=by cases h with| c0 h=>(cases h with| flat h=>(cases v<;>first|exact⟨rfl,rfl⟩|simp[kG]at h)| _=>exact⟨rfl,rfl⟩)| _=>exact⟨rfl,rfl⟩);rw[this.1,this.2];exact⟨h,trivial⟩
theorem a0q{z:Value}(h:kR z=true):All2 (C1 ρ) z.cells.toList z.cells.toList:=(V1.of_flat h).cells
theorem c0C{t:TypeId}{ps ps':List (Nat×Value)}(hps:b1E ρ ps ps')(h1:∀x∈ps,x.2.cells.toList.all oneCell=true)(hz:∀z,kN P t=some z->kR z=true) {r:Array Value} (hb:P.built t ps=some r):∃r',P.built t ps'=some r'∧All2 (C1 ρ) r.toList r'.toList:=by
 unfold Program.built at hb ⊢;cases hit:P.info? t with| none=>simp[hit]at hb| some it=>cases hu:P.underlying t with| none=>simp[hit,hu]at hb| some d=>cases hzz:it.zero with| none=>cases d<;>simp[hit,hu,hzz]at hb| some z=>have hfl:kR z=true:=hz z (by simp[kN,hit,hzz]);(cases d<;>try (simp[hit,hu]at hb;done));(case array n e=>cases hie:P.info? e with| none=>simp[hit,hu,hzz,hie]at hb| some ie=>simp only[hit,hu,hzz,hie]at hb ⊢;exact a1P _ ps ps' hps h1 _ _ _ (a0q hfl) hb);case struct fields=>cases hp:fields.toList.mapM (λf=>(P.info? f.type).map λi=>(f.offset,i.size))with| none=>simp[hit,hu,hzz,hp]at hb| some places=>simp only[hit,hu,hzz,hp]at hb ⊢;exact a1P _ ps ps' hps h1 _ _ _ (a0q hfl) hb
theorem a1h{l:List Value}{a:Act}:∀(parts:List (Nat×Operand)),(∀x∈parts,V ρ (ev l x.2) (a.eval x.2))-> b1E ρ (parts.map λ(i,x)=>(i,ev l x)) (parts.map λ(i,x)=>(i,a.eval x))| [],_=>trivial| (i,x)::ps,h=>⟨⟨rfl,h (i,x) (by simp)⟩,a1h ps λy hy=>h y (by simp[hy])⟩
theorem b4g(off:Nat)(a:Array (Value×Nat))(cs:Array Value):(a.foldl (λ(cs:Array Value)(x:Value×Nat)=>cs.setIfInBounds (off+x.2) x.1) cs).size=cs.size:=by rw[<-jv];generalize a.toList=l;induction l generalizing cs with| nil=>rfl| cons x l ih=>simp only[fP];rw[ih];simp
theorem a2H(place:Nat->Option (Nat×Nat)):∀(ps:List (Nat×Value))(cs r:Array Value),Instr.fill place cs ps=some r->r.size=cs.size| [],cs,r,h=>by simp only[Instr.fill,eu]at h;rw[h]| (i,v)::ps,cs,r,h=>by simp only[Instr.fill]at h;cases hp:place i with| none=>rw[hp]at h;cases h| some os=>obtain⟨off,size⟩:=os;rw[hp]at h;simp only at h;split at h;(·cases h);·rw[a2H place ps _ _ h];exact b4g off _ _
theorem a6M{ρ:Rho}{A n k sz b:Nat}(hsz:n*k=sz)(hp:ρ A sz=some ⟨b,0,sz,k⟩):V ρ (.slice (some ⟨A,0,some sz⟩) n k) (.slice (some ⟨b,0,none⟩) n n):=by have:=C0.slice (ρ:=ρ) (A:=A) (i:=0) (e:=sz) (n:=n) (c':=n) hp (by simp) (by simp[hsz]) ⟨dJ _,by simp[hsz]⟩ (.inl ⟨rfl,by simp[Place.at,hsz]⟩);exact .v1 (.c1 (.c0 (by simpa [Place.at]using this)))
theorem a0U{z:Value}(h:kR z=true)(n:Nat):All2 (C1 ρ) (((Array.range n).map (z.cells[·%z.cells.size]!)).toList) (((Array.range n).map (z.cells[·%z.cells.size]!)).toList):=by refine All2.same λa ha=> ?_;simp only[jf,dS]at ha;obtain⟨i,_,rfl⟩:=ha;by_cases hz:i%z.cells.size<z.cells.size;(·rw[getElem!_pos z.cells _ hz];have:=a0q (ρ:=ρ) h;obtain⟨b,hb,hr⟩:=this.get (i%z.cells.size) (z.cells[i%z.cells.size]) (by simp);simp only[iB,fW hz,eu]at hb;subst hb;exact hr);·rw[getElem!_neg z.cells _ hz];exact .aF rfl
theorem lM{t e:TypeId}(h:jX P t=some e):P.underlying t=some (.slice e):=by unfold jX at h;split at h;(·rename_i heq;rw[heq,dC h]);·cases h
theorem a4t{t:TypeId}{n:Nat}(h:jT P t=some n):∃i,P.info? t=some i∧i.size=n:=by unfold jT at h;cases hi:P.info? t with| none=>rw[hi]at h;cases h| some i=>rw[hi]at h;exact⟨i,rfl,dC h⟩
theorem a9p{n b:Nat}(h:(n:Int)*(b+1)<=(qI:Int)):n<=17592186044416∧n*b<=17592186044416:=by(have hr:qI=17592186044416:=by decide);rw[hr]at h;(have h':n*(b+1)<=17592186044416:=by exact_mod_cast h);exact⟨ey (iO n (by omega)) h',ey (Nat.mul_le_mul_left n (by omega)) h'⟩
end
section
variable {P:Program} {ρ:Rho} {H:Heap} {w:World}
theorem oX(h:HRel P ρ H w)(f:Nat):ρ H.length f=none:=by cases hh:ρ H.length f with| none=>rfl| some q=>exact absurd (h.dom _ _ _ hh).1 (ft _)
theorem a3a(h:HRel P ρ H w){elem:TypeId}{size len:Nat}(hs:jT P elem=some size){l l':List Value}(hl:All2 (C1 ρ) l l')(hlen:len*size=l.length): ∃ρ',Post P ρ H w ρ' (uI H elem l) (w.alloc (.cells l'.toArray elem))∧V ρ' (.slice (some ⟨H.length,0,some l.length⟩) len size) (.slice (some ⟨w.heap.size,0,none⟩) len len):=⟨_,b2C h elem hs hl,a6M hlen (Rho.aq _ _ _ _)⟩
theorem a5D{t:TypeId}{n b:Nat}{z:Value}(h1:jT P t=some n)(h2:oW P t=some b)(h3:kN P t=some z):∃i,P.info? t=some i∧i.size=n∧i.bytes=b∧i.zero=some z:=by unfold jT at h1;unfold oW at h2;unfold kN at h3;cases hi:P.info? t with| none=>rw[hi]at h1;cases h1| some i=>rw[hi]at h1 h2 h3;exact⟨i,rfl,dC h1,dC h2,h3⟩
structure SrcOk(P:Program)(w:World)(size n:Nat)(x:Value)(l:List Value):Prop where
 len:∀w2:World,(Builtin.lenOf x).run P w2=.ok n w2
 cells:∀w2:World,w2.heap=w.heap→(Builtin.firstCells size n x).run P w2=.ok l.toArray w2
 size:l.length=n*size
theorem cell?_heap{w w2:World}(h:w2.heap=w.heap)(a:Addr):w2.cell? a=w.cell? a:=by simp[World.cell?,h]
theorem uL(h:HRel P ρ H w){A i e n size k c:Nat}{l:List Value}{p:Place}{a:Addr}(hc:kT H A i e (n*size)=some l)(hp:ρ A e=some p)(h0:0<=(i:Int)+p.d) (ha:a=⟨p.b,p.at i,none⟩∨n=0): ∃l',All2 (C1 ρ) l l'∧l.length=n*size∧i+n*size<=e∧∀w2:World,w2.heap=w.heap->(Builtin.firstCells size n (.slice (some a) k c)).run P w2=.ok l'.toArray w2:=by
 obtain⟨l',hall,hlen,hin,hcell⟩:=a9R h hc hp h0;refine⟨l',hall,hlen,hin,λw2 hw=> ?_⟩;rcases ha with rfl|rfl;(·exact run_firstCells_some w2 size n _ k c l' (by rw[<-hall.length,hlen]) λj v hv=>by rw[cell?_heap hw];exact hcell j v hv);·have:l'=[]:=fT.1 (by rw[<-hall.length,hlen];simp);subst this;exact run_firstCells_some w2 size 0 _ k c [] (by simp) (λj v hv=>by simp at hv)
theorem a0M{st xt elem:TypeId}{d:TypeDesc}{size n sLen sCap:Nat}{a:Addr}{x:Value}{l:List Value}(hst:P.underlying st=some (.slice elem))(hxt:P.underlying xt=some d) (hd:sJ d=true) (hs:jT P elem=some size) (hx:SrcOk P w size n x l) (hroom:sLen+n<=sCap) (ty:TypeId) {w':World} (hw:(storeCells (a.add (sLen*size)) l).run P w=.ok () w'): (Builtin.append_ #[st,xt] ty #[.slice (some a) sLen sCap,x]).run P w=.ok (.slice (some a) (sLen+n) sCap) w':=by unfold Builtin.append_;simp only[eU,eZ,fD,dL,run_underlying hst,lP hs,run_underlying hxt,dH,dP];cases d<;>first| (simp[sJ]at hd;done)| simp[hx.len,hroom,hx.cells w rfl,hw]
theorem Post.cQ(h:HRel P ρ H w){A:Nat}{cs:List Value}{ty:TypeId}{lo ver:Nat}{p:Place}(hg:kB H A=some (.cells cs ty true lo ver))(hp:ρ A cs.length=some p)(tg:Nat)(htg:tg=0->ver=0): Post P ρ H w ρ (hset H A (.cells cs ty true lo tg)) w:=by
 have hall:=(h.cells _ _ _ _ _ _ hg).2;obtain⟨_,hk,hfit,cur,ty',fr,hw,hsz,hfr,hcell⟩:=hall _ _ hp;refine Post.ct h _ hg rfl hp (.refl ρ) (λ_ _ _ hq=>.inl hq) rfl (λb hb=>rfl) rfl ⟨rfl,dJ _⟩ rfl ?_ (λ_ _ _ e=>by cases e) (λ_ e=>by cases e) (λ_ _ _=>.inl rfl) (λr hr=>by rw[hw]at hr;cases hr);intro cs2 ty2 rw2 lo2 ver2 e;injection e with e1 e2 e3 e4 e5;subst e1 e2 e3 e4 e5;refine⟨⟨p,hp⟩,λf q hq=> ?_⟩;obtain⟨q1,q2,q3,qcur,qty,qfr,q4,q5,q6,q7⟩:=hall f q hq;exact⟨q1,q2,q3,qcur,qty,qfr,q4,q5,λhr=>⟨(q6 hr).1,(q6 hr).2.1,λh=>(q6 hr).2.2 (htg h)⟩,q7⟩
theorem a1J{st xt elem:TypeId}{d:TypeDesc}{i:TypeInfo}{z:Value}{n sLen sCap:Nat}{base:Option Addr}{x:Value}{l olds:List Value}(hst:P.underlying st=some (.slice elem))(hxt:P.underlying xt=some d) (hd:sJ d=true) (hi:P.info? elem=some i) (hz0:i.zero=some z) (hx:SrcOk P w i.size n x l) (hroom:sCap<sLen+n) (ty:TypeId) (hold:∀w2:World,w2.heap=w.heap->(Builtin.firstCells i.size sLen (.slice base sLen sCap)).run P w2=.ok olds.toArray w2) (hmax:(sLen+n)*(i.bytes+1)<=qI): ∃m,sLen+n<=m∧(Builtin.append_ #[st,xt] ty #[.slice base sLen sCap,x]).run P w=.ok (.slice (some ⟨w.heap.size,0,none⟩) (sLen+n) m) (w.drew.alloc (.cells (olds.toArray++(l.toArray++Builtin.zeroCells z.cells (m-(sLen+n)))) elem)):=by
 (have hr:qI=17592186044416:=by decide);rw[hr]at hmax;have hn:sLen+n<=17592186044416:=ey (iO _ (by omega)) hmax;have hb:(sLen+n)*i.bytes<=17592186044416:=ey (Nat.mul_le_mul_left _ (by omega)) hmax;have hfit:=growslice_fits (need:=sLen+n) (old:=sCap) (bytes:=i.bytes) hroom (by omega);(have hn1:¬(sLen+n<=sCap):=by omega);(have hn2:¬(9223372036854775807<((sLen:Int)+(n:Int))):=by omega);(have hn3:¬(281474976710656<Builtin.nextslicecap (sLen+n) sCap*i.bytes):=by omega);refine⟨grownCap w (sLen+n) sCap elem,?_,?_⟩;(·unfold grownCap Question.cut;simp only;omega);·unfold Builtin.append_;have hsz:∀w2:World,(sizeOf elem).run P w2=.ok i.size w2:=λw2=>lP (by simp[jT,hi]) w2;simp only[eU,eZ,fD,dL,run_underlying hst,hsz,run_underlying hxt,dH,dP];have hold':=hold w.drew rfl;have hx':=hx.cells w.drew rfl;cases d<;>first| (simp[sJ]at hd;done)| simp[hx.len,hn1,hn2,hn3,typeInfo,hi,Question.forced,hold',hx',zeroValue,hz0,newRow,grownCap]
theorem xZ(z:Array Value)(n:Nat):(Builtin.zeroCells z n).size=n*z.size:=by simp[Builtin.zeroCells]
theorem b7e(h:HRel P ρ H w){size n:Nat}{l:List Value}{x x':Value}(hx:V ρ x x')(hn:a2v H size x=some (n,l)):∃l',All2 (C1 ρ) l l'∧SrcOk P w size n x' l':=by
 unfold a2v at hn;split at hn;(·injection (dC hn)with e1 e2;subst e1 e2;rcases hx.aA with⟨_,_,_,rfl⟩|⟨A,j,e,p,c',a,hh,_⟩;(·exact⟨[],trivial,λ_=>rfl,λ_ _=>run_firstCells_none _ _ _ _ _,by simp⟩);·cases hh);(·rename_i A j e k c;obtain⟨p,c',a,hp,h0,_,_,ha,_,rfl⟩:=hx.az;cases hc:kT H A j e (k*size)with| none=>rw[hc]at hn;cases hn| some l0=>rw[hc]at hn;injection (dC hn)with e1 e2;subst e1 e2;obtain⟨l',hall,hlen,_,hrun⟩:=uL (k:=k) (c:=c') h hc hp h0 (ha.imp And.left And.left);exact⟨l',hall,λ_=>rfl,hrun,by rw[<-hall.length,hlen]⟩);(·rename_i b;have hx':x'=.string b:=hx.ai rfl;subst hx';split at hn;(·rename_i h1;simp only[beq_iff_eq]at h1;injection (dC hn)with e1 e2;subst e1 e2;refine⟨_,All2.same λv hv=> ?_,λ_=>rfl,λw2 _=> ?_,by subst h1;simp⟩;(·simp only[dS]at hv;obtain⟨u,_,rfl⟩:=hv;exact .aF rfl);·simp only[Builtin.firstCells];(have e:b.extract 0 b.size=b:=by simp);rw[e];simp only[dP];congr 1;apply jI;simp);·cases hn)
 ·cases hn
theorem b3Y(h:HRel P ρ H w){st xt:TypeId}{d:TypeDesc}{s s' x x' r:Value}{H':Heap}(ty:TypeId)(ha:pV P H st s x=some (r,H'))(hxt:P.underlying xt=some d)(hd:sJ d=true) (hs:V ρ s s') (hx:V ρ x x'):∃ρ' r' w',(Builtin.append_ #[st,xt] ty #[s',x']).run P w=.ok r' w'∧Post P ρ H w ρ' H' w'∧V ρ' r r':=by
 unfold pV at ha;simp only[dF]at ha;obtain⟨elem,he,size,hsz,bytes,hby,z,hze,⟨n,l⟩,hnew,ha⟩:=ha;have hst:=lM he;obtain⟨i,hi,hisz,hiby,hiz⟩:=a5D hsz hby hze;obtain⟨l',hl,hso⟩:=b7e h hx hnew;(have hln:l.length=n*size:=by rw[hl.length,hso.size]);subst hisz hiby;simp only at ha;split at ha;(·rename_i k c;split at ha;(·rename_i hc;simp only[dE,beq_iff_eq,bne_iff_ne,decide_eq_true_eq]at hc;obtain⟨⟨⟨⟨rfl,rfl⟩,hs0⟩,hroom⟩,hzs⟩:=hc;have hs':s'=.slice none 0 0:=hs.ai rfl;subst hs';split at ha;(·rename_i hn0;simp only[beq_iff_eq]at hn0;subst hn0;injection (dC ha)with e1 e2;subst e1 e2;refine⟨ρ,.slice none 0 0,w,?_,.refl h,hs⟩;have hlen0:=hso.len w;have hc0:=hso.cells w rfl;unfold Builtin.append_;simp only[eU,eZ,fD,dL,run_underlying hst,lP hsz,run_underlying hxt,dH,dP];cases d<;>first| (simp[sJ]at hd;done)| simp[hlen0,hc0]);·rename_i hn0;simp only[beq_iff_eq]at hn0;injection (dC ha)with e1 e2;subst e1 e2;obtain⟨m,hm,hrun⟩:=a1J (sLen:=0) (sCap:=0) (base:=none) (olds:=[]) hst hxt hd hi hiz hso (by omega) ty (λw2 _=>run_firstCells_none _ _ _ _ _) (by simpa using hroom);simp only[fN]at hrun hm;have hpost0:=Post.drew h;have hle:ρ.Le (ρ.put H.length l.length ⟨w.heap.size,0,m*i.size,i.size⟩):=.put (oX h _);have hmi:n*i.size<=m*i.size:=eO _ hm;refine⟨_,_,_,hrun,hpost0.trans (by rw[mO];refine Post.new hpost0.rel _ _ l.length ⟨w.heap.size,0,m*i.size,i.size⟩ rfl ?_ (λ_ _ _ e=>by cases e) (λ_ e=>by cases e);intro cs ty2 rw2 lo ver e;injection e with e1 e2 e3 e4 e5;subst e1 e2 e3 e4 e5;refine⟨rfl,dJ _,hsz,by simp only;omega,_,elem,(0,0),lA _ _,?_,λ_=>⟨rfl,Int.le_refl _,λ_=>rfl⟩,λ_ j c hj _ hcc=> ?_⟩;(·simp only[Array.empty_append,Array.size_append,gb,xZ,hzs,<-hl.length,hln];rw[<-gC];congr 1;omega);·obtain⟨c',hc',hr⟩:=hl.get j c hcc;refine⟨c',?_,hr.mono hle⟩;have hj':j<l'.length:=(dK.1 hc').1;simp only[Array.empty_append,Place.at,Int.add_zero,fB];rw[fU (by simpa using hj')];simpa using hc'),?_⟩;have:=C0.slice (ρ:=ρ.put H.length l.length ⟨w.heap.size,0,m*i.size,i.size⟩) (A:=H.length) (i:=0) (e:=l.length) (n:=n) (c':=m) (Rho.aq _ _ _ _) (by simp) (by simp[hln]) ⟨hm,by simp only[hln,fN];exact hmi⟩ (.inl ⟨rfl,by simp[Place.at]⟩);exact .v1 (.c1 (.c0 (by simpa [Place.at]using this))));·cases ha)
 (·rename_i A j e k c;obtain⟨p,c',a,hp,h0,hjk,⟨hkc,hec⟩,hsz2,hck,rfl⟩:=hs.az;split at ha;(·rename_i cs ty2 lo ver hg;split at ha;(·rename_i hc;simp only[dE,beq_iff_eq,bne_iff_ne,decide_eq_true_eq]at hc;obtain⟨⟨⟨⟨⟨⟨hs0,hroom⟩,hzs⟩,hty0⟩,hjke⟩,rfl⟩,hlo⟩:=hc;(have hty:jT P ty2=some i.size:=by simp only[fi,beq_iff_eq]at hty0;rcases hty0 with rfl|hty0;(·exact hsz);·exact hty0);(obtain⟨tg,htg,htg2,htge⟩:∃tg,(tg=0->ver=0)∧(tg=0->elem=ty2)∧(if(ty2==elem)=true then ver else 2)=tg:=by by_cases hh:(ty2==elem)=true;(·exact⟨ver,id,λ_=>by simpa using(beq_iff_eq.1 hh).symm,by rw[if_pos hh]⟩);·exact⟨2,(λh=>by cases h),(λh=>by cases h),by rw[if_neg hh]⟩);rw[htge]at ha;injection (dC ha)with e1 e2;subst e1 e2;obtain⟨_,hk,hfit,cur,ty',fr,hw,hcur,hfr,hcell⟩:=(h.cells _ _ _ _ _ _ hg).2 _ _ hp;obtain⟨rfl,hpd,hty'⟩:=hfr rfl;(have hpk:p.k=i.size:=by rw[hty]at hk;exact(dC hk).symm);rw[a1n];by_cases hin:k+n<=c';(·(have hcapp:p.at j+(k+n)*i.size<=cur.size∧(a=⟨p.b,p.at j,none⟩∨(k+n=0∧c'=0)):=by rcases hsz2 with⟨ha,hs2⟩|⟨hk0,hc0⟩;(·refine⟨?_,.inl ha⟩;rw[hcur];(have:(k+n)*i.size<=c'*p.k:=by rw[hpk];exact eO _ hin);omega);·(have:k+n=0:=by omega);refine⟨?_,.inr ⟨this,hc0⟩⟩;rw[this,hcur];unfold Place.at;omega);(have hats:p.at j+k*i.size=p.at cs.length:=by unfold Place.at;omega);have hl':=hl.length;have hcap:p.at j+(k+n)*i.size<=cur.size:=hcapp.1;(have hcap':p.at cs.length+l'.length<=cur.size:=by rw[gC]at hcap;omega);have hst2:=run_storeCells_at P p.b (p.at cs.length) ty' l' 0 cur w hw (by simpa using hcap') hl.aQ;simp only[iS]at hst2;(have hstw:(storeCells (a.add (k*i.size)) l').run P w=.ok () (w.setRow p.b (cur.toList.take (p.at cs.length)++l'++cur.toList.drop (p.at cs.length+l'.length)).toArray):=by rcases hcapp.2 with rfl|⟨h00,_⟩;(·rw[pR,hats];exact hst2);·have:l'=[]:=fT.1 (by(have:n=0:=by omega);subst this;rw[<-hl',hln];simp);subst this;simp only[storeCells]at hst2 ⊢;exact hst2);have hrun:=a0M (P:=P) (w:=w) (a:=a) (sLen:=k) (sCap:=c') hst hxt hd hsz hso hin ty hstw;(have hseg:∀(q:Nat),((cur.toList.take (p.at cs.length)++l'++cur.toList.drop (p.at cs.length+l'.length)).toArray)[q]? =if p.at cs.length<=q∧q<p.at cs.length+l'.length then l'[q-p.at cs.length]? else cur[q]?:=λq=>by have:=a3F cur.toList l' (p.at cs.length) q (by simpa using hcap');simpa using this);(have hsize:((cur.toList.take (p.at cs.length)++l'++cur.toList.drop (p.at cs.length+l'.length)).toArray).size=cur.size:=by simp;omega);revert hrun;generalize (cur.toList.take (p.at cs.length)++l'++cur.toList.drop (p.at cs.length+l'.length)).toArray=new at hseg hsize;intro hrun;(have hcsd:0<=(cs.length:Int)+p.d:=by omega);by_cases hl0:l=[];(·subst hl0;(have hn0:n=0:=by rcases Nat.eq_zero_or_pos n with h1|h1;(·exact h1);·have:=jP h1 (iT hs0);simp at hln;omega);subst hn0;have hl0':l'=[]:=fT.1 (by rw[<-hl'];rfl);subst hl0';refine⟨ρ,_,_,hrun,?_,?_⟩;(·(have hnew:new=cur:=by apply iU;intro q;rw[hseg];rw[if_neg (by simp)]);rw[hnew,setRow_self w p.b cur ty' (0,0) hw,ee];exact Post.cQ h hg hp tg htg);·rw[hck,hpk]at hs;simpa using hs);·(have hno:ρ A (cs.length+l.length)=none:=by cases hh:ρ A (cs.length+l.length)with| none=>rfl| some q=>have:=((h.cells _ _ _ _ _ _ hg).2 _ _ hh).le;have:=im.2 hl0;omega);have hle:ρ.Le (ρ.put A (cs.length+l.length) p):=.put hno;refine⟨ρ.put A (cs.length+l.length) p,_,_,hrun,?_,?_⟩;(·refine Post.ct h _ hg rfl hp hle (λB f q hq=> ?_) (setRow_size _ _ _) (λb hb=>setRow_other _ _ _ _ hb) rfl ⟨rfl,dJ _⟩ rfl ?_ (λ_ _ _ e=>by cases e) (λ_ e=>by cases e) (λ_ _ _=>.inl rfl) (λr hr=>by rw[hw]at hr;cases hr);(·by_cases hh:B=A∧f=cs.length+l.length;(·obtain⟨rfl,rfl⟩:=hh;rw[Rho.aq]at hq;obtain rfl:=dC hq;exact .inr ⟨rfl,rfl,rfl⟩);·rw[Rho.aM hh]at hq;exact .inl hq);·intro cs2 ty3 rw2 lo2 ver2 e;injection e with e1 e2 e3 e4 e5;subst e1 e2 e3 e4 e5;refine⟨⟨p,by rw[dN,Rho.aq]⟩,λf q hq=> ?_⟩;(have hnewcell:∀(f:Nat),(f<=cs.length∨True)->∀(m:Nat)cc,0<=(m:Int)+p.d->(cs++l)[m]? =some cc->∃c',new[p.at m]? =some c'∧C1 ρ cc c':=λ_ _ m cc hm0 hcc=>by rw[hseg];by_cases hm:m<cs.length;(·rw[eS hm]at hcc;obtain⟨c',hc',hr⟩:=hcell hlo m cc hm hm0 hcc;exact⟨c',by rw[if_neg (by unfold Place.at;omega)];exact hc',hr⟩);·rw[eJ (by omega)]at hcc;obtain⟨c',hc',hr⟩:=hl.get _ _ hcc;have hlt:=(dK.1 hc').1;(have hatm:p.at m=p.at cs.length+(m-cs.length):=by unfold Place.at;omega);exact⟨c',by rw[if_pos (by omega),hatm];simpa using hc',hr⟩);by_cases hh:f=cs.length+l.length;(·subst hh;rw[Rho.aq]at hq;obtain rfl:=dC hq;refine⟨by simp,hk,by unfold Place.at at hcap';omega,new,ty',(0,0),setRow_heap w p.b cur new ty' (0,0) hw,by rw[hsize,hcur],λ_=>⟨rfl,hpd,λh=>hty' (htg h)⟩,λ_ m cc _ hm0 hcc=> ?_⟩;obtain⟨c',a,b⟩:=hnewcell 0 (.inr trivial) m cc hm0 hcc;exact⟨c',a,b.mono hle⟩);·rw[Rho.aM (by simp[hh])]at hq;obtain⟨q1,q2,q3,qcur,qty,qfr,q4,q5,q6,q7⟩:=(h.cells _ _ _ _ _ _ hg).2 _ _ hq;by_cases hqb:q.b=p.b;(·have hqd:q.d=p.d:=(h.excl _ _ _ _ _ _ _ hp hq hqb.symm hg rfl).2;rw[hqb,hw]at q4;injection (dC q4)with e1 e2 e3;subst e1 e2 e3;refine⟨by simp;omega,q2,q3,new,ty',(0,0),by rw[hqb];exact setRow_heap w p.b cur new ty' (0,0) hw,by rw[hsize];exact q5,λhr=>⟨(q6 hr).1,(q6 hr).2.1,λh=>(q6 hr).2.2 (htg h)⟩,λ_ m cc _ hm0 hcc=> ?_⟩;(have hat:q.at m=p.at m:=by unfold Place.at;rw[hqd]);obtain⟨c',a,b⟩:=hnewcell 0 (.inr trivial) m cc (by rw[<-hqd];exact hm0) hcc;exact⟨c',by rw[hat];exact a,b.mono hle⟩);·exact(CellsAt.world hle (setRow_other _ _ _ _ hqb) ⟨q1,q2,q3,qcur,qty,qfr,q4,q5,q6,q7⟩).grow l htg);·(have hke:k*i.size+n*i.size=(k+n)*i.size:=by rw[gC]);have:=C0.slice (ρ:=ρ.put A (cs.length+l.length) p) (A:=A) (i:=j) (e:=cs.length+l.length) (n:=k+n) (c':=c') (p:=p) (Rho.aq _ _ _ _) h0 (by rw[hpk,<-hke];omega) ⟨hin,by(have:(k+n)*i.size<=c'*p.k:=by rw[hpk];exact eO _ hin);omega⟩ (hsz2.imp id λq=>⟨by omega,q.2⟩);rw[hpk]at this;exact .v1 (.c1 (.c0 this)));·obtain⟨p1,p2,p3,cur2,ty3,fr3,p4,p5,p6,p7⟩:=(h.cells _ _ _ _ _ _ hg).2 _ _ hp;(have hca:kT H A j cs.length (k*i.size)=some ((cs.drop j).take (k*i.size)):=by unfold kT;rw[hg];simp only[dE,decide_eq_true_eq];rw[if_pos (by omega)]);obtain⟨olds,hold,hollen,_,hofc⟩:=uL (k:=k) (c:=c') h hca hp h0 (hsz2.imp And.left And.left);obtain⟨m,hm,hrun⟩:=a1J (sLen:=k) (sCap:=c') (base:=some a) (olds:=olds) hst hxt hd hi hiz hso (by omega) ty hofc hroom;have hpost0:=Post.drew h;have hl':=hl.length;have hol':=hold.length;have hkm:(k+n)*i.size<=m*i.size:=eO _ hm;rw[gC]at hkm;(have hn0:n≠0:=by omega);(have hl0:l≠[]:=by intro hl0;subst hl0;have:=jP (iT hn0) (iT hs0);simp at hln;omega);(have hno:ρ A (cs.length+l.length)=none:=by cases hh:ρ A (cs.length+l.length)with| none=>rfl| some q=>have:=((h.cells _ _ _ _ _ _ hg).2 _ _ hh).le;have:=im.2 hl0;omega);have hle:ρ.Le (ρ.put A (cs.length+l.length) ⟨w.heap.size,-(j:Int),m*i.size,i.size⟩):=.put hno;refine⟨_,_,_,hrun,hpost0.trans (Post.cH hpost0.rel l _ ⟨w.heap.size,-(j:Int),m*i.size,i.size⟩ htg hg hl0 rfl ?_),?_⟩;(·refine⟨by simp,hty▸rfl,by simp only;omega,_,elem,(0,0),lA _ _,?_,λ_=>⟨rfl,by simp only;omega,htg2⟩,λ_ q cc hq hq0 hcc=> ?_⟩;(·simp only[Array.size_append,gb,xZ,hzs,<-hl',<-hol',hollen,hln];rw[<-ir,<-gC,<-gC];congr 1;omega);·simp only at hq0;(have hat:Place.at ⟨w.heap.size,-(j:Int),m*i.size,i.size⟩ q=q-j:=by unfold Place.at;simp only;omega);rw[hat];by_cases hqc:q<cs.length;(·rw[eS hqc]at hcc;(have:((cs.drop j).take (k*i.size))[q-j]? =some cc:=by rw[eP (by omega),eH];(have:j+(q-j)=q:=by omega);rw[this];exact hcc);obtain⟨c1,hc1,hr⟩:=hold.get _ _ this;have hlt:=(dK.1 hc1).1;refine⟨c1,?_,hr.mono hle⟩;rw[fU (by simpa using hlt)];simpa using hc1);·rw[eJ (by omega)]at hcc;obtain⟨c1,hc1,hr⟩:=hl.get _ _ hcc;have hlt:=(dK.1 hc1).1;refine⟨c1,?_,hr.mono hle⟩;rw[Array.getElem?_append_right (by simp;omega),fU (by simp;omega)];simp only[gb,eU];(have:q-j-olds.length=q-cs.length:=by omega);rw[this];exact hc1);·have:=C0.slice (ρ:=ρ.put A (cs.length+l.length) ⟨w.heap.size,-(j:Int),m*i.size,i.size⟩) (A:=A) (i:=j) (e:=cs.length+l.length) (n:=k+n) (c':=m) (Rho.aq _ _ _ _) (by simp only;omega) (by simp only[gC];omega) ⟨hm,by simp only;omega⟩ (.inl ⟨rfl,by unfold Place.at;simp only;omega⟩);refine .v1 (.c1 (.c0 ?_));(have e0:Place.at ⟨w.heap.size,-(j:Int),m*i.size,i.size⟩ j=0:=by unfold Place.at;simp only;omega);rw[e0]at this;exact this);·split at ha;(·rename_i hc;simp only[dE,beq_iff_eq,bne_iff_ne,decide_eq_true_eq]at hc;obtain⟨⟨⟨⟨⟨⟨hs0,hn0⟩,hzs⟩,hty0⟩,hjke⟩,rfl⟩,hlo⟩:=hc;(have hty:jT P ty2=some i.size:=by simp only[fi,beq_iff_eq]at hty0;rcases hty0 with rfl|hty0;(·exact hsz);·exact hty0);injection (dC ha)with e1 e2;subst e1 e2;obtain⟨_,hk,_⟩:=(h.cells _ _ _ _ _ _ hg).2 _ _ hp;(have hpk:p.k=i.size:=by rw[hty]at hk;exact(dC hk).symm);rw[hpk]at hjk hec hsz2;(have hin:k+n<=c':=by(have h1:(k+n)*i.size<=c'*i.size:=by omega);exact Nat.le_of_mul_le_mul_right h1 (iT hs0));(obtain⟨rfl,hsz3⟩:a=⟨p.b,p.at j,none⟩∧p.at j+c'*i.size<=p.sz:=by rcases hsz2 with h1|h1;(·exact h1);·omega);have hadd:(k+n)*i.size=k*i.size+n*i.size:=gC _ _ _;obtain⟨w',hrun,hpost⟩:=vE h (i:=j+k*i.size) hg hp (by omega) hl (by rw[hln];omega) hlo;have hat:p.at (j+k*i.size)=p.at j+k*i.size:=xT h0 _;rw[hat]at hrun;refine⟨ρ,_,w',a0M hst hxt hd hsz hso hin ty (by rw[pR];exact hrun),hpost,?_⟩;have:=C0.slice (ρ:=ρ) (A:=A) (i:=j) (e:=cs.length) (n:=k+n) (c':=c') (p:=p) (a:=⟨p.b,p.at j,none⟩) hp h0 (by rw[hpk];omega) ⟨hin,by rw[hpk];exact hec⟩ (.inl ⟨rfl,by rw[hpk];exact hsz3⟩);rw[hpk]at this;exact .v1 (.c1 (.c0 this)));·cases ha);·cases ha)
 ·cases ha
end
section
variable {P:Program} {ρ:Rho} {H:Heap} {w:World}
theorem c5p(h:HRel P ρ H w){size n:Nat}{l:List Value}{x x':Value}(hx:V ρ x x')(hn:d0i H size n x=some l): ∃l',All2 (C1 ρ) l l'∧(Builtin.firstCells size n x').run P w=.ok l'.toArray w:=by
 unfold d0i at hn;split at hn;(·split at hn;(·obtain rfl:=dC hn;rcases hx.aA with⟨_,_,_,rfl⟩|⟨A,j,e,p,c',a,hh,_⟩;(·exact⟨[],trivial,run_firstCells_none _ _ _ _ _⟩);·cases hh);·cases hn);(·rename_i A j e k c;split at hn;(·rename_i hnk;obtain⟨p,c',a,hp,h0,_,_,ha,_,rfl⟩:=hx.az;obtain⟨l',hall,_,_,hrun⟩:=uL (k:=k) (c:=c') h hn hp h0 (ha.imp And.left (λq=>by have:=q.1;omega));exact⟨l',hall,hrun w rfl⟩);·cases hn);(·rename_i b;have hx':x'=.string b:=hx.ai rfl;subst hx';split at hn;(·rename_i hc;simp only[dE,beq_iff_eq,decide_eq_true_eq]at hc;obtain rfl:=dC hn;refine⟨_,All2.same λv hv=> ?_,?_⟩;(·simp only[dS]at hv;obtain⟨u,_,rfl⟩:=hv;exact .aF rfl);·simp only[Builtin.firstCells,dP];congr 1;apply jI;simp[ByteArray.data_extract]);·cases hn);·cases hn
theorem b8a{x x':Value}(hx:V ρ x x'){m:Nat}(h:a4I x=some m):(Builtin.lenOf x').run P w=.ok m w:=by unfold a4I at h;split at h;(·rename_i a n c;obtain rfl:=dC h;rcases hx.aA with⟨_,hn,_,rfl⟩|⟨A,j,e,p,c',a,hh,_,_,_,_,_,_,rfl⟩;(·simp[Builtin.lenOf,hn]);·simp[Builtin.lenOf]);(·rename_i s;obtain rfl:=dC h;have:x'=.string s:=hx.ai rfl;subst this;simp[Builtin.lenOf]);·cases h
theorem c0m(h:HRel P ρ H w){dt xt:TypeId}{d d' x x' r:Value}{H':Heap}(ty:TypeId)(hc:a5m P H dt d x=some (r,H'))(hd:V ρ d d')(hx:V ρ x x'): ∃r' w',(Builtin.copy_ #[dt,xt] ty #[d',x']).run P w=.ok r' w'∧Post P ρ H w ρ H' w'∧V ρ r r':=by
 unfold a5m at hc;simp only[dF]at hc;obtain⟨elem,he,size,hsz,m,hm,hc⟩:=hc;have hst:=lM he;have hlen:(Builtin.lenOf x').run P w=.ok m w:=b8a hx hm;split at hc;(·rename_i k c;split at hc;(·rename_i hk;simp only[beq_iff_eq]at hk;subst hk;injection (dC hc)with e1 e2;subst e1 e2;rcases hd.aA with⟨_,_,_,rfl⟩|⟨A,j,e,p,c',a,hh,_⟩;(·refine⟨goInt 0,w,?_,.refl h,.of_flat rfl⟩;(have hf:(Builtin.firstCells size 0 x').run P w=.ok #[] w:=by unfold a4I at hm;split at hm;(·rename_i a n c;rcases hx.aA with⟨_,_,_,rfl⟩|⟨A,j,e,p,c',a,hh,_,_,_,_,_,_,rfl⟩;(·exact run_firstCells_none _ _ _ _ _);·exact run_firstCells_some w size 0 _ _ _ [] (by simp) (λj v hv=>by simp at hv));(·rename_i s;have:x'=.string s:=hx.ai rfl;subst this;simp[Builtin.firstCells]);·cases hm);unfold Builtin.copy_;simp[run_underlying hst,hlen,lP hsz,hf]);·cases hh);·cases hc);(·rename_i A i e k c;obtain⟨p,c',a,hp,h0,_,_,ha,_,rfl⟩:=hd.az;split at hc;(·rename_i hn0;simp only[beq_iff_eq]at hn0;injection (dC hc)with e1 e2;subst e1 e2;refine⟨goInt 0,w,?_,.refl h,.of_flat rfl⟩;(have hf:(Builtin.firstCells size 0 x').run P w=.ok #[] w:=by unfold a4I at hm;split at hm;(·rcases hx.aA with⟨_,_,_,rfl⟩|⟨A,j,e,p,c',a,hh,_,_,_,_,_,_,rfl⟩;(·exact run_firstCells_none _ _ _ _ _);·exact run_firstCells_some w size 0 _ _ _ [] (by simp) (λj v hv=>by simp at hv));(·rename_i s;have:x'=.string s:=hx.ai rfl;subst this;simp[Builtin.firstCells]);·cases hm);have hn0':min m k=0:=hn0;unfold Builtin.copy_;simp[run_underlying hst,hlen,lP hsz,hn0',hf,storeCells]);rename_i hn0;simp only[beq_iff_eq]at hn0;(have ha':a=⟨p.b,p.at i,none⟩:=by rcases ha with ha|ha;(·exact ha.1);·exact absurd (by rw[ha.1];exact Nat.min_zero m) hn0);subst ha';simp only[dF]at hc;obtain⟨l,hl,hc⟩:=hc;obtain⟨l',hall,hf⟩:=c5p h hx hl;split at hc;(·rename_i cs ty2 lo ver hg;split at hc;(·rename_i hcond;simp only[dE,beq_iff_eq,decide_eq_true_eq]at hcond;obtain⟨⟨rfl,hin⟩,hlo⟩:=hcond;injection (dC hc)with e1 e2;subst e1 e2;obtain⟨w',hrun,hpost⟩:=vE h hg hp h0 hall hin hlo;refine⟨_,w',?_,hpost,.of_flat rfl⟩;unfold Builtin.copy_;simp[run_underlying hst,hlen,lP hsz,hf,hrun]);·cases hc);·cases hc)
 ·cases hc
theorem b8V(h:HRel P ρ H w){t:TypeId}{x x' r:Value}{H':Heap}(ty:TypeId)(hc:wN P H t x=some (r,H'))(hx:V ρ x x'): ∃r' w',(Builtin.clear_ #[t] ty #[x']).run P w=.ok r' w'∧Post P ρ H w ρ H' w'∧V ρ r r':=by
 unfold wN at hc;simp only[dF]at hc;obtain⟨elem,he,z,hz,hc⟩:=hc;have hst:=lM he;have ht:V ρ (.tuple #[]) (.tuple #[]):=.tuple trivial;split at hc;(·injection (dC hc)with e1 e2;subst e1 e2;rcases hx.aA with⟨_,_,_,rfl⟩|⟨A,j,e,p,c',a,hh,_⟩;(·refine⟨_,w,?_,.refl h,ht⟩;unfold Builtin.clear_;simp[run_underlying hst]);·cases hh);(·rename_i A i e n c;obtain⟨p,c',a,hp,h0,_,_,ha,_,rfl⟩:=hx.az;split at hc;(·rename_i hn0;simp only[beq_iff_eq]at hn0;subst hn0;injection (dC hc)with e1 e2;subst e1 e2;refine⟨_,w,?_,.refl h,ht⟩;unfold Builtin.clear_;simp[run_underlying hst]);·rename_i hn0;simp only[beq_iff_eq]at hn0;(have ha':a=⟨p.b,p.at i,none⟩:=by rcases ha with ha|ha;(·exact ha.1);·exact absurd ha.1 hn0);subst ha';split at hc;(·rename_i cs ty2 lo ver hg;split at hc;(·rename_i hcond;simp only[dE,beq_iff_eq,decide_eq_true_eq]at hcond;obtain⟨⟨⟨hsc,rfl⟩,hin⟩,hlo⟩:=hcond;injection (dC hc)with e1 e2;subst e1 e2;obtain⟨w',hrun,hpost⟩:=vE h hg hp h0 (.aL hsc) hin hlo;refine⟨_,w',?_,hpost,ht⟩;unfold Builtin.clear_;cases n with| zero=>exact(hn0 rfl).elim| succ n=>simp[run_underlying hst,sZ hz,hrun]);·cases hc);·cases hc)
 ·cases hc
theorem a4Q{v v':Value}{n:Nat}(hv:V ρ v v')(h:yH v=some n):∃k,v=.int k n∧v'=.int k n:=by unfold yH at h;split at h;(·rename_i k m;split at h;(·rename_i h0;obtain rfl:=dC h;have e:((m.toNat:Nat):Int)=m:=gp h0;exact⟨k,by rw[e],by rw[e];exact hv.ai rfl⟩);·cases h);·cases h
theorem a1L{k:IntKind}{n y:Nat}(h:n<=y)(code:BoundsCode)(w:World):(Instr.sliceBound (.int k n) y code).run P w=.ok n w:=by unfold Instr.sliceBound;simp only[asIntOf,dL,dP,dH];rw[if_pos (by omega)];simp
def b1F(ρ:Rho):Option Value->Option Value->Prop| none,none=>True| some a,some b=>V ρ a b| _,_=>False
theorem a6W{b:Bool}{n c' ll hh:Nat}{lo lo' hi hi':Option Value}(hlo:b1F ρ lo lo')(hhi:b1F ρ hi hi') (h1:c3e hi n=some hh) (h2:b6r lo=some ll) (hlh:ll<=hh) (hhc:hh<=c') (w:World): (Instr.sliceBounds b n c' lo' hi' none).run P w=.ok (ll,hh,c') w:=by
 unfold Instr.sliceBounds;cases hi with| none=>(cases hi' with| some _=>exact hhi.elim| none=>simp only[c3e]at h1;obtain rfl:=dC h1;cases lo with| none=>(cases lo' with| some _=>exact hlo.elim| none=>simp only[b6r]at h2;obtain rfl:=dC h2;simp)| some a=>cases lo' with| none=>exact hlo.elim| some b=>obtain⟨k,rfl,rfl⟩:=a4Q hlo (show yH _=some _ from h2);simp[a1L hlh])| some a=>cases hi' with| none=>exact hhi.elim| some b=>obtain⟨k,rfl,rfl⟩:=a4Q hhi (show yH _=some _ from h1);cases lo with| none=>(cases lo' with| some _=>exact hlo.elim| none=>simp only[b6r]at h2;obtain rfl:=dC h2;simp[a1L hhc])| some a=>cases lo' with| none=>exact hlo.elim| some b=>obtain⟨k',rfl,rfl⟩:=a4Q hlo (show yH _=some _ from h2);simp[a1L hlh,a1L hhc]
theorem b1y{t:TypeId}{x r:Value}{lo hi:Option Value}(hs:a0g P t x lo hi=some r):∃elem size A i e n hh ll,jX P t=some elem∧jT P elem=some size∧x=.slice (some ⟨A,i,some e⟩) n size∧c3e hi n=some hh∧b6r lo=some ll∧ll<=hh∧hh<=n∧ r=.slice (some ⟨A,i+ll*size,some e⟩) (hh-ll) size:=by unfold a0g at hs;simp only[dF]at hs;obtain⟨elem,he,size,hsz,hs⟩:=hs;split at hs;(·simp only[dF]at hs;obtain⟨hh,h1,ll,h2,hs⟩:=hs;split at hs;(·rename_i hc;simp only[dE,decide_eq_true_eq,beq_iff_eq]at hc;obtain⟨⟨hlh,hhn⟩,rfl⟩:=hc;exact⟨elem,_,_,_,_,_,hh,ll,he,hsz,rfl,h1,h2,hlh,hhn,(dC hs).symm⟩);·cases hs);·cases hs
theorem b6P(h:HRel P ρ H w){t:TypeId}{x x' r:Value}{lo lo' hi hi':Option Value}(hs:a0g P t x lo hi=some r)(hx:V ρ x x') (hlo:b1F ρ lo lo') (hhi:b1F ρ hi hi'): ∃r',(Instr.sliceAt t x' lo' hi' none).run P w=.ok r' w∧V ρ r r':=by
 obtain⟨elem,size,A,i,e,n,hh,ll,he,hsz,rfl,h1,h2,hlh,hhn,rfl⟩:=b1y hs;have hst:=lM he;obtain⟨p,c',a,hp,h0,hin,⟨hnc,hec⟩,hsz2,hck,rfl⟩:=hx.az;have hk:p.k=size:=hck.symm;have hbounds:(Instr.sliceBounds true n c' lo' hi' none).run P w=.ok (ll,hh,c') w:=a6W hlo hhi h1 h2 hlh (by omega) w;have hb1:ll*size<=hh*size:=eO _ hlh;have hb2:hh*size<=n*size:=eO _ hhn;have hb3:n*size<=c'*size:=eO _ hnc;have hb4:(hh-ll)*size=hh*size-ll*size:=Nat.sub_mul _ _ _;have hb5:(c'-ll)*size=c'*size-ll*size:=Nat.sub_mul _ _ _;rw[hk]at hin hsz2 hec;by_cases hm:c'=ll;(·refine⟨.slice (some a) (hh-ll) (c'-ll),?_,?_⟩;(·unfold Instr.sliceAt Instr.slice;simp only[dL,run_underlying hst,dH,hbounds,lP hsz,dP];simp[hm]);·(have h1:hh-ll=0:=by omega);(have h2:c'-ll=0:=by omega);rw[h1,h2];have:=C0.slice (ρ:=ρ) (A:=A) (i:=i+ll*size) (e:=e) (n:=0) (c':=0) (p:=p) (a:=a) hp (by omega) (by omega) ⟨dJ _,by rw[hm]at hec;omega⟩ (.inr ⟨rfl,rfl⟩);rw[hk]at this;exact .v1 (.c1 (.c0 this)))
 ·(have ha:a=⟨p.b,p.at i,none⟩∧p.at i+c'*size<=p.sz:=by rcases hsz2 with ha|ha;(·exact ha);·omega);obtain⟨rfl,hsz3⟩:=ha;refine⟨.slice (some ⟨p.b,p.at i+ll*size,none⟩) (hh-ll) (c'-ll),?_,?_⟩;(·unfold Instr.sliceAt Instr.slice;simp[run_underlying hst,hbounds,lP hsz,hm,pR]);·have:=C0.slice (ρ:=ρ) (A:=A) (i:=i+ll*size) (e:=e) (n:=hh-ll) (c':=c'-ll) (p:=p) (a:=⟨p.b,p.at (i+ll*size),none⟩) hp (by omega) (by rw[hk];omega) ⟨by omega,by rw[hk];omega⟩ (.inl ⟨rfl,by rw[hk,xT h0];omega⟩);rw[xT h0,hk]at this;exact .v1 (.c1 (.c0 this))
theorem a8O{t n e:Nat}(h:lG P t=some (n,e)):P.underlying t=some (.array n e):=by unfold lG at h;split at h;(·rename_i a b hu;injection h with h;injection h with h1 h2;subst h1 h2;exact hu);·cases h
theorem b8b(h:HRel P ρ H w){t n elem:Nat}(ht:lG P t=some (n,elem)){x x' r:Value}{lo lo' hi hi':Option Value}(hs:a8H P H n elem x lo hi=some r)(hx:V ρ x x') (hlo:b1F ρ lo lo') (hhi:b1F ρ hi hi'): ∃r',(Instr.sliceAt t x' lo' hi' none).run P w=.ok r' w∧V ρ r r':=by
 have hst:=a8O ht;unfold a8H at hs;simp only[dF]at hs;obtain⟨size,hsz,hs⟩:=hs;split at hs;(·rename_i A e;obtain⟨p,hp,h0,rfl⟩:=hx.aI;split at hs;(·rename_i cs ty lo0 tg hg;simp only[dF]at hs;obtain⟨hh,h1,ll,h2,hs⟩:=hs;split at hs;(·rename_i hc;simp only[dE,decide_eq_true_eq,beq_iff_eq]at hc;obtain⟨⟨⟨hlh,hhn⟩,hen⟩,hte⟩:=hc;obtain rfl:=dC hs;have hbounds:(Instr.sliceBounds false n n lo' hi' none).run P w=.ok (ll,hh,n) w:=a6W hlo hhi h1 h2 hlh hhn w;obtain⟨_,hk,hfit,cur,ty',fr,hw,hsz2,hfr,_⟩:=(h.cells _ _ _ _ _ _ hg).2 _ _ hp;obtain⟨_,hpd,_⟩:=hfr rfl;(have hk:p.k=size:=by rw[hte,hsz]at hk;exact(dC hk).symm);(have hd0:p.d=0:=by omega);(have hat:∀i,p.at i=i:=λi=>by simp[Place.at,hd0]);have hb1:ll*size<=hh*size:=eO _ hlh;have hb2:hh*size<=n*size:=eO _ hhn;have hb4:(hh-ll)*size=hh*size-ll*size:=Nat.sub_mul _ _ _;have hb5:(n-ll)*size=n*size-ll*size:=Nat.sub_mul _ _ _;by_cases hm:n=ll;(·refine⟨.slice (some ⟨p.b,p.at 0,none⟩) (hh-ll) (n-ll),?_,?_⟩;(·unfold Instr.sliceAt;simp only[dL,run_underlying hst,dH,Instr.sureAddr,hbounds,lP hsz,dP];simp[hm]);·(have h1:hh-ll=0:=by omega);(have h2:n-ll=0:=by omega);rw[h1,h2];have:=C0.slice (ρ:=ρ) (A:=A) (i:=ll*size) (e:=e) (n:=0) (c':=0) (p:=p) (a:=⟨p.b,p.at 0,none⟩) hp (by omega) (by rw[hen,hm];omega) ⟨dJ _,by rw[hen,hm];omega⟩ (.inr ⟨rfl,rfl⟩);rw[hk]at this;exact .v1 (.c1 (.c0 this)));·refine⟨.slice (some ⟨p.b,p.at 0+ll*size,none⟩) (hh-ll) (n-ll),?_,?_⟩;(·unfold Instr.sliceAt;simp[run_underlying hst,Instr.sureAddr,hbounds,lP hsz,hm,pR]);·have:=C0.slice (ρ:=ρ) (A:=A) (i:=ll*size) (e:=e) (n:=hh-ll) (c':=n-ll) (p:=p) (a:=⟨p.b,p.at (ll*size),none⟩) hp (by omega) (by rw[hk,hen];omega) ⟨by omega,by rw[hk,hen];omega⟩ (.inl ⟨rfl,by rw[hk,hat];rw[hd0]at hfit;omega⟩);rw[hk]at this;rw[hat 0,fN];rw[hat]at this;exact .v1 (.c1 (.c0 this)));·cases hs);·cases hs)
 ·cases hs
end
section
variable {P:Program} {ρ:Rho} {H:Heap} {w:World}
theorem jZ{α β:Type}(P:Program)(f:α->Sem β)(s:Sem α):kC P (s>>=f)=(kC P s).bind λx=>kC P (f x):=by induction s with| pure a=>rfl| program k ih=>exact ih P| _=>rfl
theorem a1e(kind:TypeDesc)(k:Value):∀(es:List MapEntry)(i:Nat),Instr.findNow kind k (es.map xG) i=(Instr.findNow kind k es i).map λr=>r.map λx=>(x.1,undef)| [],i=>rfl| e::es,i=>by simp only[eL,Instr.findNow];have hk:(xG e).key=e.key:=rfl;rw[hk];cases Instr.sameNow kind k e.key with| none=>rfl| some b=>cases b with| true=>rfl| false=>exact a1e kind k es (i+1)
theorem a5C(kind:TypeDesc)(k:Value):∀(es:List MapEntry)(i:Nat)(r:Nat×Value),Instr.findNow kind k es i=some (some r)->i<=r.1∧∃e,es[r.1-i]? =some e∧e.val=r.2| [],i,r,h=>by simp[Instr.findNow]at h| e::es,i,r,h=>by simp only[Instr.findNow]at h;cases hs:Instr.sameNow kind k e.key with| none=>rw[hs]at h;simp at h| some b=>rw[hs]at h;cases b with| true=>simp only[eu]at h;subst h;exact⟨dJ _,e,by simp,rfl⟩| false=>obtain⟨h1,e',h2,h3⟩:=a5C kind k es (i+1) r h;refine⟨by omega,e',?_,h3⟩;rw[show r.1-i=(r.1-(i+1))+1 from by omega];simpa using h2
theorem xD(kt:TypeId)(k:Value):∀(es:List MapEntry)(i:Nat),kC P (Instr.findAsking kt k (es.map xG) i)=(kC P (Instr.findAsking kt k es i)).map λr=>r.map λx=>(x.1,undef)| [],i=>rfl| e::es,i=>by simp only[eL,Instr.findAsking,jZ];have hk:(xG e).key=e.key:=rfl;rw[hk];cases kC P (Op.equal kt k e.key)with| none=>rfl| some b=>cases b with| true=>rfl| false=>exact xD kt k es (i+1)
theorem zP(kt:TypeId)(k:Value):∀(es:List MapEntry)(i:Nat)(r:Nat×Value),kC P (Instr.findAsking kt k es i)=some (some r)->i<=r.1∧∃e,es[r.1-i]? =some e∧e.val=r.2| [],i,r,h=>by have h:some none=some (some r):=h;simp at h| e::es,i,r,h=>by simp only[Instr.findAsking,jZ]at h;cases hs:kC P (Op.equal kt k e.key)with| none=>rw[hs]at h;simp at h| some b=>rw[hs]at h;cases b with| true=>have h:some (some (i,e.val))=some (some r):=h;simp only[eu]at h;subst h;exact⟨dJ _,e,by simp,rfl⟩| false=>obtain⟨h1,e',h2,h3⟩:=zP kt k es (i+1) r h;refine⟨by omega,e',?_,h3⟩;rw[show r.1-i=(r.1-(i+1))+1 from by omega];simpa using h2
theorem a0Y(kt:TypeId)(k:Value)(es:List MapEntry):kC P (Instr.findKey kt k (es.map xG))=(kC P (Instr.findKey kt k es)).map λr=>r.map λx=>(x.1,undef):=by unfold Instr.findKey;rw[jZ,jZ];cases kC P (underlying kt)with| none=>rfl| some kd=>simp only[dD];rw[a1e];cases Instr.findNow kd k es 0 with| none=>exact xD kt k es 0| some r=>rfl
theorem b2E(kt:TypeId)(k:Value)(es:List MapEntry)(r:Nat×Value)(h:kC P (Instr.findKey kt k es)=some (some r)):∃e,es[r.1]? =some e∧e.val=r.2:=by unfold Instr.findKey at h;rw[jZ]at h;cases hu:kC P (underlying kt)with| none=>rw[hu]at h;simp at h| some kd=>rw[hu]at h;simp only[dD]at h;cases hf:Instr.findNow kd k es 0 with| none=>rw[hf]at h;exact(zP kt k es 0 r h).2| some q=>rw[hf]at h;have h:some q=some (some r):=h;simp only[eu]at h;subst h;exact(a5C kd k es 0 r hf).2
theorem a4C:∀{es es':List MapEntry},All2 (EntryRel ρ) es es'->es'.map xG=es.map xG| [],[],_=>rfl| a::es,b::es',⟨h,hs⟩=>by simp only[eL];rw[a4C hs];congr 1;unfold xG;rw[h.key,h.born]| [],_::_,h=>h.elim| _::_,[],h=>h.elim
theorem xW{kt:TypeId}{k:Value}{es es':List MapEntry}(hr:All2 (EntryRel ρ) es es'){j:Nat}(h:tQ P kt k es=some (some j)):∃a b,es[j]? =some a∧es'[j]? =some b∧EntryRel ρ a b∧kC P (Instr.findKey kt k es')=some (some (j,b.val)):=by unfold tQ at h;rw[<-a4C hr,a0Y]at h;cases hf:kC P (Instr.findKey kt k es')with| none=>rw[hf]at h;simp at h| some r=>rw[hf]at h;cases r with| none=>simp at h| some q=>simp at h;subst h;obtain⟨b,hb,hv⟩:=b2E kt k es' q hf;(have hlt:q.1<es.length:=by rw[hr.length];exact(dK.1 hb).1);obtain⟨b',hb',hrel⟩:=hr.get q.1 _ (dI hlt);rw[hb]at hb';obtain rfl:=dC hb';exact⟨_,b,dI hlt,hb,hrel,by rw[hv]⟩
theorem xS{kt:TypeId}{k:Value}{es es':List MapEntry}(hr:All2 (EntryRel ρ) es es')(h:tQ P kt k es=some none):kC P (Instr.findKey kt k es')=some none:=by unfold tQ at h;rw[<-a4C hr,a0Y]at h;cases hf:kC P (Instr.findKey kt k es')with| none=>rw[hf]at h;simp at h| some r=>rw[hf]at h;cases r with| none=>rfl| some q=>simp at h
theorem wR{t kt et:TypeId}(h:a0e P t=some (kt,et)):P.underlying t=some (.map kt et):=by unfold a0e at h;split at h;(·rename_i k e hu;simp only[eu,jc]at h;obtain⟨rfl,rfl⟩:=h;exact hu);·cases h
theorem V.aZ{r:Option Nat}{v':Value}(h:V ρ (.map r) v'):(r=none∧v'=.map none)∨∃A p,r=some A∧ρ A 0=some p∧v'=.map (some p.b):=by cases h with| v1 h=>cases h with| c1 h=>cases h with| c0 h=>cases h with| flat h=>(cases r with| none=>exact .inl ⟨rfl,rfl⟩| some A=>simp[kG]at h)| map h=>exact .inr ⟨_,_,rfl,h,rfl⟩
theorem V.cI{v v':Value}(h:V ρ v v')(ht:oL v=true):V1 ρ v v':=by cases h with| v1 h=>exact h| tuple h=>simp[oL]at ht
theorem V.pairV{v v':Value}{c b:Bool}(h:V ρ v v')(ht:oL v=true):V ρ (Go.Ds.pairV c v b) (if c then .tuple #[v',.bool b]else v'):=by cases c with| false=>exact h| true=>exact .tuple ⟨h.cI ht,.c1 (.c0 (.flat rfl)),trivial⟩
theorem xA{z:Value}(h:kR z=true):oL z=true:=by cases z<;>simp_all [kR,kG,oL]
theorem pZ{b ck:Nat}{es:Array MapEntry}(h:w.heap[b]? =some (.map es ck)):(getObj b).run P w=.ok (.map es ck) w:=by simp[getObj,Sem.run,h]
theorem tV{b ck:Nat}{es:Array MapEntry}(o:Obj)(h:w.heap[b]? =some (.map es ck)):(setObj b o).run P w=.ok () (w.putObj b o):=by simp[setObj,Sem.run,h,World.putObj]
theorem a0d{z:Value}(h:kR z=true):flat z=true:=by cases z<;>simp_all [flat,kR,kG]
theorem b7Q(h:HRel P ρ H w){t:TypeId}{x x' k k' v:Value}{c:Bool}(hl:sA P H t x k c=some v)(hx:V ρ x x')(hk:V ρ k k'):∃v',(Instr.lookup t x' k' c).run P w=.ok v' w∧V ρ v v':=by
 unfold sA at hl;simp only[dF]at hl;obtain⟨⟨kt,et⟩,hty,es,he,hl⟩:=hl;have hu:=wR hty;split at hl;(case isFalse=>cases hl);rename_i hok;unfold zZ at hok;simp only[dE]at hok;have hkk:=hk.ai hok.1;subst hkk;obtain⟨u,hck⟩:=fZ.1 hok.2;(have hent:∃es':Array MapEntry,All2 (EntryRel ρ) es es'.toList∧((x'=.map none∧es'=#[])∨∃b ck,x'=.map (some b)∧w.heap[b]? =some (.map es' ck)):=by unfold a5E at he;split at he;(·obtain rfl:=dC he;rcases hx.aZ with⟨_,rfl⟩|⟨A,p,hh,_⟩;(·exact⟨#[],trivial,.inl ⟨rfl,rfl⟩⟩);·cases hh);(·rename_i A;split at he;(·rename_i es0 ck ver hg;obtain rfl:=dC he;obtain⟨p,es',hp,hw,hall⟩:=h.map _ _ _ _ hg;rcases hx.aZ with⟨hh,_⟩|⟨A',q,hh,hq,rfl⟩;(·cases hh);·obtain rfl:=dC hh;rw[hp]at hq;obtain rfl:=dC hq;exact⟨es',hall,.inr ⟨_,_,rfl,hw⟩⟩);·cases he);·cases he);obtain⟨es',hall,hx'⟩:=hent;(have hemp:es'.isEmpty=es.isEmpty:=by rw[fq,Array.isEmpty_iff_size_eq_zero,List.isEmpty_iff_length_eq_zero,hall.length];simp)
 (have hcheck:(Instr.checkKey es'.isEmpty 10000 kt k').run P w=.ok u w:=by rw[hemp];exact mM _ hck w);(have hlS:∀(j:Nat)(b:Value),kC P (Instr.findKey kt k' es'.toList)=some (some (j,b))->(Instr.lookup t x' k' c).run P w=.ok (if c then .tuple #[b,.bool true]else b) w:=by intro j b hf;have h1:=mM _ hf w;unfold Instr.lookup;rcases hx' with⟨rfl,rfl⟩|⟨b2,ck,rfl,hw⟩;(·simp only[dL,run_underlying hu,dH,dP,hcheck,h1]);·simp only[dL,run_underlying hu,dH,dP,hcheck,h1,pZ hw]);(have hlN:∀(z:Value),kN P et=some z->kC P (Instr.findKey kt k' es'.toList)=some none->(Instr.lookup t x' k' c).run P w=.ok (if c then .tuple #[z,.bool false]else z) w:=by intro z hz hf;have h1:=mM _ hf w;unfold Instr.lookup;rcases hx' with⟨rfl,rfl⟩|⟨b2,ck,rfl,hw⟩;(·simp only[dL,run_underlying hu,dH,dP,hcheck,h1,sZ hz]);·simp only[dL,run_underlying hu,dH,dP,hcheck,h1,pZ hw,sZ hz]);simp only[dF]at hl;obtain⟨r,hr,hl⟩:=hl;split at hl
 (·rename_i j;simp only[dF]at hl;obtain⟨e,hej,hl⟩:=hl;split at hl;(case isFalse=>cases hl);rename_i htl;obtain rfl:=dC hl;obtain⟨a,b,ha,hb,hrel,hf⟩:=xW hall hr;rw[hej]at ha;obtain rfl:=dC ha;exact⟨_,hlS _ b.val hf,hrel.val.pairV htl⟩);·simp only[dF]at hl;obtain⟨z,hz,hl⟩:=hl;split at hl;(case isFalse=>cases hl);rename_i hfz;obtain rfl:=dC hl;have hf:=xS hall hr;exact⟨_,hlN z hz hf,(V.of_flat (a0d hfz)).pairV (xA hfz)⟩
theorem b4L(h:HRel P ρ H w){t:TypeId}{r r':Option Value}{v:Value}{H':Heap}(hm:sG P H t r=some (v,H'))(hr:match r,r' with|none,none=>True|some a,some b=>V ρ a b|_,_=>False): ∃ρ' v' w',(Instr.makeMap t r').run P w=.ok v' w'∧Post P ρ H w ρ' H' w'∧V ρ' v v':=by
 unfold sG at hm;simp only[dF]at hm;obtain⟨⟨kt,et⟩,hty,hm⟩:=hm;have hu:=wR hty;(have hp:Post P ρ H w (ρ.put H.length 0 ⟨w.heap.size,0,0,1⟩) (H.cons (.map [] 0 0)) (w.alloc (.map #[] 0)):=by refine Post.new h _ _ 0 ⟨w.heap.size,0,0,1⟩ rfl (λ_ _ _ _ _ e=>by cases e) ?_ (λ_ e=>by cases e);intro es ck ver e;injection e with e1 e2 e3;subst e1 e2 e3;exact⟨rfl,#[],rfl,trivial⟩);have hv:V (ρ.put H.length 0 ⟨w.heap.size,0,0,1⟩) (.map (some H.length)) (.map (some w.heap.size)):=.v1 (.c1 (.c0 (.map (p:=⟨w.heap.size,0,0,1⟩) (Rho.aq _ _ _ _))));(have hnone:(Instr.makeMap t none).run P w=.ok (.map (some w.heap.size)) (w.alloc (.map #[] 0)):=by unfold Instr.makeMap;simp);split at hm;(·injection (dC hm)with e1 e2;subst e1 e2;cases r' with| none=>exact⟨_,_,_,hnone,hp,hv⟩| some=>exact hr.elim);(·rename_i k n _;injection (dC hm)with e1 e2;subst e1 e2;cases r' with| none=>exact hr.elim| some y=>have:y=.int k n:=V.ai hr rfl;subst this;refine⟨_,_,_,?_,hp,hv⟩;unfold Instr.makeMap;simp[run_underlying hu,asInt,asIntOf])
 ·cases hm
theorem EntryRel.ct{a b:MapEntry}(h:EntryRel ρ a b){k v v':Value}(hk:Go.Ds.flat k=true)(hv:V ρ v v'):EntryRel ρ {a with key:=k,val:=v} {b with key:=k,val:=v'}:=⟨rfl,hk,hv,h.born⟩
theorem c0K(h:HRel P ρ H w){t:TypeId}{m m' k k' v v':Value}{H':Heap}(hu:a0w P H t m k v=some H')(hm:V ρ m m')(hk:V ρ k k')(hv:V ρ v v'): ∃w',(Instr.mapUpdate t m' k' v').run P w=.ok () w'∧Post P ρ H w ρ H' w':=by
 unfold a0w at hu;simp only[dF]at hu;obtain⟨⟨kt,et⟩,hty,hu⟩:=hu;have hun:=wR hty;split at hu;(case h_2=>cases hu);rename_i A;split at hu;(case h_2=>cases hu);rename_i es ck ver hg;split at hu;(case isFalse=>cases hu);rename_i hok;unfold zZ at hok;simp only[dE]at hok;have hkk:=hk.ai hok.1;subst hkk;obtain⟨u,hck⟩:=fZ.1 hok.2;have hcheck:=mM _ hck w;obtain⟨p,es',hp,hw,hall⟩:=h.map _ _ _ _ hg;(have hmm:m'=.map (some p.b):=by rcases hm.aZ with⟨hh,_⟩|⟨A',q,hh,hq,rfl⟩;(·cases hh);·obtain rfl:=dC hh;rw[hp]at hq;obtain rfl:=dC hq;rfl);subst hmm;(have hpost:∀(es1:List MapEntry)(es2:Array MapEntry)(ck1:Nat),All2 (EntryRel ρ) es1 es2.toList->Post P ρ H w ρ (hset H A (.map es1 ck1 (ver+1))) (w.putObj p.b (.map es2 ck1)):=λes1 es2 ck1 ha=>by have hlt:=oF hw;(have hself:(w.putObj p.b (.map es2 ck1)).heap[p.b]? =some (.map es2 ck1):=by simp only[World.putObj];rw[ia hlt]);refine Post.ct h _ hg rfl hp (.refl ρ) (λ_ _ _ hq=>.inl hq) (by simp[World.putObj]) (λb hb=>by simp only[World.putObj];rw[fK (fM hb)]) rfl ⟨rfl,dJ _⟩ rfl (λ_ _ _ _ _ e=>by cases e) ?_ (λ_ e=>by cases e) (λf q hq=>.inr ?_) (λr hr=>by rw[hw]at hr;cases hr);(·intro es3 ck3 ver3 e;injection e with e1 e2 e3;subst e1 e2 e3;exact⟨p,es2,hp,hself,ha⟩);·exact(h.one _ _ _ _ hq hg).resolve_left (by simp[Blk.aK]))
 simp only[dF]at hu;obtain⟨r,hr,hu⟩:=hu;split at hu;(·rename_i j;simp only[dF]at hu;obtain⟨e,hej,hu⟩:=hu;split at hu;(case isFalse=>cases hu);rename_i hsb;obtain rfl:=dC hu;obtain⟨a,b,ha,hb,hrel,hf⟩:=xW hall hr;rw[hej]at ha;obtain rfl:=dC ha;have h1:=mM _ hf w;(have hb':es'[j]? =some b:=by simpa using hb);refine⟨_,?_,hpost _ (es'.modify j λe=>{e with key:=k',val:=v'}) ck ?_⟩;(·unfold Instr.mapUpdate Instr.keyThatStays;(have hsb2:Instr.sameBits 10000 b.key k'=true:=by rw[hrel.key];exact hsb);simp only[dL,run_underlying hun,dH,dP,hcheck,h1,pZ hw,hb',eG,ga,hsb2,if_true,tV _ hw]);·(have e1:(es'.modify j λe=>{e with key:=k',val:=v'}).toList=es'.toList.set j {b with key:=k',val:=v'}:=by rw[Array.toList_modify];apply iF;intro n;rw[List.getElem?_modify,ik];have hjl:j<es'.toList.length:=(dK.1 hb).1;by_cases hjn:j=n;(·subst hjn;(have hjl2:j<es'.size:=by simpa using hjl);have hbj:es'[j]=b:=(dM.1 hb').2;simp[hjl2,hbj]);·simp[hjn]);rw[e1];exact All2.set (hrel.ct hok.1 hv) j hall)
 ·obtain rfl:=dC hu;have hf:=xS hall hr;have h1:=mM _ hf w;refine⟨_,?_,hpost _ (es'.push {key:=k',val:=v',born:=ck}) (ck+1) ?_⟩;(·unfold Instr.mapUpdate;simp only[dL,run_underlying hun,dH,hcheck,h1,pZ hw,tV _ hw]);·rw[Array.toList_push];exact hall.append ⟨⟨rfl,hok.1,hv,rfl⟩,trivial⟩
theorem a8X(h:HRel P ρ H w){A:Nat}{es:List MapEntry}{ck ver:Nat}(hg:kB H A=some (.map es ck ver)){p:Place}{es':Array MapEntry}(hp:ρ A 0=some p)(hw:w.heap[p.b]? =some (.map es' ck))(es1:List MapEntry)(es2:Array MapEntry)(ck1:Nat)(ha:All2 (EntryRel ρ) es1 es2.toList): Post P ρ H w ρ (hset H A (.map es1 ck1 (ver+1))) (w.putObj p.b (.map es2 ck1)):=by
 have hlt:=oF hw;(have hself:(w.putObj p.b (.map es2 ck1)).heap[p.b]? =some (.map es2 ck1):=by simp only[World.putObj];rw[ia hlt]);refine Post.ct h _ hg rfl hp (.refl ρ) (λ_ _ _ hq=>.inl hq) (by simp[World.putObj]) (λb hb=>by simp only[World.putObj];rw[fK (fM hb)]) rfl ⟨rfl,dJ _⟩ rfl (λ_ _ _ _ _ e=>by cases e) ?_ (λ_ e=>by cases e) (λf q hq=>.inr ?_) (λr hr=>by rw[hw]at hr;cases hr);(·intro es3 ck3 ver3 e;injection e with e1 e2 e3;subst e1 e2 e3;exact⟨p,es2,hp,hself,ha⟩);·exact(h.one _ _ _ _ hq hg).resolve_left (by simp[Blk.aK])
theorem a3q{es':Array MapEntry}{j:Nat}{b:MapEntry}(hb:es'.toList[j]? =some b)(f:MapEntry->MapEntry):(es'.modify j f).toList=es'.toList.set j (f b):=by(have hb':es'[j]? =some b:=by simpa using hb);rw[Array.toList_modify];apply iF;intro n;rw[List.getElem?_modify,ik];have hjl:j<es'.toList.length:=(dK.1 hb).1;by_cases hjn:j=n;(·subst hjn;(have hjl2:j<es'.size:=by simpa using hjl);have hbj:es'[j]=b:=(dM.1 hb').2;simp[hjl2,hbj]);·simp[hjn]
theorem c7Q(h:HRel P ρ H w){A:Nat}{es:List MapEntry}{ck ver:Nat}(hg:kB H A=some (.map es ck ver)){m':Value}(hm:V ρ (.map (some A)) m'): ∃(p:Place)(es':Array MapEntry),ρ A 0=some p∧w.heap[p.b]? =some (.map es' ck)∧All2 (EntryRel ρ) es es'.toList∧m'=.map (some p.b):=by obtain⟨p,es',hp,hw,hall⟩:=h.map _ _ _ _ hg;refine⟨p,es',hp,hw,hall,?_⟩;rcases hm.aZ with⟨hh,_⟩|⟨A',q,hh,hq,rfl⟩;(·cases hh);·obtain rfl:=dC hh;rw[hp]at hq;obtain rfl:=dC hq;rfl
theorem c2X(h:HRel P ρ H w){t:TypeId}{m m' k k' v:Value}{H':Heap}(hu:tI P H t m k=some (v,H'))(hm:V ρ m m')(hk:V ρ k k'): ∃v' w',(Instr.mapEntry t m' k').run P w=.ok v' w'∧Post P ρ H w ρ H' w'∧V ρ v v':=by
 unfold tI at hu;simp only[dF]at hu;obtain⟨⟨kt,et⟩,hty,hu⟩:=hu;have hun:=wR hty;split at hu;(case h_2=>cases hu);rename_i A;split at hu;(case h_2=>cases hu);rename_i es ck ver hg;split at hu;(case isFalse=>cases hu);rename_i hok;unfold zZ at hok;simp only[dE]at hok;have hkk:=hk.ai hok.1;subst hkk;obtain⟨u,hck⟩:=fZ.1 hok.2;have hcheck:=mM _ hck w;obtain⟨p,es',hp,hw,hall,rfl⟩:=c7Q h hg hm;simp only[dF]at hu;obtain⟨r,hr,hu⟩:=hu;split at hu;(·rename_i j;simp only[dF]at hu;obtain⟨e,hej,hu⟩:=hu;split at hu;(case isFalse=>cases hu);rename_i hsb;rw[dE]at hsb;injection hu with hu;injection hu with e1 e2;subst e1 e2;obtain⟨a,b,ha,hb,hrel,hf⟩:=xW hall hr;rw[hej]at ha;obtain rfl:=dC ha;have h1:=mM _ hf w;(have hb':es'[j]? =some b:=by simpa using hb);refine⟨.tuple #[b.val,goInt b.born],_,?_,a8X h hg hp hw _ (es'.modify j λe=>{e with key:=k'}) ck ?_,.tuple ⟨hrel.val.cI hsb.2,?_,trivial⟩⟩;(·unfold Instr.mapEntry Instr.keyThatStays;(have hsb2:Instr.sameBits 10000 b.key k'=true:=by rw[hrel.key];exact hsb.1);simp only[dL,run_underlying hun,dH,dP,hcheck,h1,pZ hw,hb',eG,ga,hsb2,if_true,tV _ hw]);(·rw[a3q hb];exact All2.set ⟨rfl,hok.1,hrel.val,hrel.born⟩ j hall);·rw[hrel.born];exact .c1 (.c0 (.flat rfl)))
 ·simp only[dF]at hu;obtain⟨z,hz,hu⟩:=hu;split at hu;(case isFalse=>cases hu);rename_i hfz;injection hu with hu;injection hu with e1 e2;subst e1 e2;have hf:=xS hall hr;have h1:=mM _ hf w;have hvz:V ρ z z:=V.of_flat (a0d hfz);refine⟨.tuple #[z,goInt ck],_,?_,a8X h hg hp hw _ (es'.push {key:=k',val:=z,born:=ck}) (ck+1) ?_,.tuple ⟨hvz.cI (xA hfz),.c1 (.c0 (.flat rfl)),trivial⟩⟩;(·unfold Instr.mapEntry;simp only[dL,run_underlying hun,dH,dP,hcheck,h1,pZ hw,tV _ hw,sZ hz]);·rw[Array.toList_push];exact hall.append ⟨⟨rfl,hok.1,hvz,rfl⟩,trivial⟩
theorem c9z{α:Type}(xs:Array α)(p:α->Bool):xs.findIdx? p=xs.toList.findIdx? p:=by obtain⟨l⟩:=xs;simp
theorem b6d:∀{es es':List MapEntry}(n:Int),All2 (EntryRel ρ) es es'->es'.findIdx? (λe=>(e.born:Int)==n)=es.findIdx? (λe=>(e.born:Int)==n)| [],[],_,_=>rfl| a::es,b::es',n,h=>by rw[fY,fY,h.1.born,b6d n h.2]| [],b::es',_,h=>h.elim| a::es,[],_,h=>h.elim
theorem c0o(h:HRel P ρ H w){t:TypeId}{m m' b b' v v':Value}{H':Heap}(hu:tH H m b v=some H')(hm:V ρ m m')(hb:V ρ b b')(hv:V ρ v v'): ∃w',(Instr.entryStore t m' b' v').run P w=.ok () w'∧Post P ρ H w ρ H' w':=by
 unfold tH at hu;split at hu;(case h_2=>cases hu);rename_i A k n;split at hu;(case h_2=>cases hu);rename_i es ck ver hg;obtain rfl:=hb.ai rfl;obtain⟨p,es',hp,hw,hall,rfl⟩:=c7Q h hg hm;split at hu;(case h_2=>cases hu);rename_i j hj;simp only[dF]at hu;obtain⟨e,hej,hu⟩:=hu;obtain rfl:=dC hu;(obtain⟨e',hej',hrel⟩:∃e',es'.toList[j]? =some e'∧EntryRel ρ e e':=by exact hall.get j e hej);refine⟨_,?_,a8X h hg hp hw _ (es'.modify j λe=>{e with val:=v'}) ck ?_⟩;(·unfold Instr.entryStore;(have hj':es'.findIdx? (λe=>(e.born:Int)==n)=some j:=by rw[c9z,b6d n hall];exact hj);simp only[dL,dH,dP,pZ hw,asInt,asIntOf,hj',tV _ hw]);·rw[a3q hej'];exact All2.set ⟨hrel.key,hrel.flat,hv,hrel.born⟩ j hall
end
section
variable {P:Program} {ρ:Rho} {H:Heap} {w:World}
theorem a3O(H:Heap)(ty:TypeId)(cs:List Value):c2S H ty cs=H.cons (.cells cs ty true cs.length 2):=by simp[c2S,tZ]
theorem c4s(h:HRel P ρ H w)(ty t:TypeId){n:Nat}(hn:jT P ty=some n){l l':List Value}(hl:All2 (C1 ρ) l l'): Post P ρ H w (ρ.put H.length l.length ⟨w.heap.size,0,l.length,n⟩) (c2S H ty l) (w.alloc (.cells l'.toArray t)):=by rw[a3O];have hno:∀f,ρ H.length f=none:=λf=>oX h f;refine Post.new h _ _ l.length ⟨w.heap.size,0,l.length,n⟩ rfl ?_ (λ_ _ _ e=>by cases e) (λ_ e=>by cases e);intro cs ty2 rw2 lo ver e;injection e with e1 e2 e3 e4 e5;subst e1 e2 e3 e4 e5;refine⟨rfl,dJ _,hn,by simp,l'.toArray,t,(0,0),lA _ _,by simp[hl.length],λ_=>⟨rfl,Int.le_refl _,λh=>by cases h⟩,λ_ i c hi _ hc=> ?_⟩;obtain⟨c',hc',hr⟩:=hl.get i c hc;exact⟨c',by simpa [Place.at]using hc',hr.mono (.put (hno _))⟩
theorem b9F(h:HRel P ρ H w){t:TypeId}{v v' r:Value}{H':Heap}(hs:tL P H t v=some (r,H'))(hv:V ρ v v'): ∃ρ' r' w',(do pure (Value.pointer (some (<-newVar t v'))):Sem Value).run P w=.ok r' w'∧Post P ρ H w ρ' H' w'∧V ρ' r r':=by
 unfold tL at hs;split at hs;(·rename_i n elem hu;cases hse:jT P elem with| none=>rw[hse]at hs;simp at hs| some k=>rw[hse]at hs;dsimp only at hs;split at hs;(·rename_i hcond;simp only[dE,beq_iff_eq]at hcond;obtain⟨⟨hone,hsz⟩,hk⟩:=hcond;injection (dC hs)with e1 e2;subst e1 e2;have hl:=hv.cells hone;have hpost:=c4s h elem t hse hl;refine⟨_,.pointer (some ⟨w.heap.size,0,none⟩),_,?_,hpost,.v1 (.c1 (.c0 ?_))⟩;(·simp[newVar,newRow]);·have:=C0.ptr (ρ:=ρ.put H.length v.cells.toList.length ⟨w.heap.size,0,v.cells.toList.length,k⟩) (A:=H.length) (i:=0) (e:=v.cells.toList.length) (Rho.aq _ _ _ _) (by simp);simpa [Place.at]using this);·cases hs);·exact b9Z h hs hv
theorem a1D{t:TypeId}(h:mP P t=true):∃e,P.underlying t=some (.slice e)∧P.underlying e=some (.int .u8)∧jT P e=some 1:=by unfold mP at h;split at h;(·rename_i e hu;split at h;(·rename_i hi;exact⟨e,hu,hi,by simpa using h⟩);·cases h);·cases h
theorem a5e{t:TypeId}(h:qH P t=true):P.underlying t=some .string:=by unfold qH at h;split at h;(·assumption);·cases h
theorem a8d{v:Value}{b:UInt8}(h:a1k v=some b):v=.int .u8 b.toNat:=by unfold a1k at h;split at h;(·rename_i n;split at h;(·rename_i hn;injection h with h;subst h;simp[UInt8.toNat_ofNat',iu hn]);·cases h);·cases h
theorem xI:∀{l:List Value}{bs:List UInt8},a2a l=some bs->l=bs.map λb=>.int .u8 b.toNat| [],bs,h=>by injection h with h;subst h;rfl| v::l,bs,h=>by simp only[a2a,dF,dO]at h;obtain⟨b,hb,bs',hl,rfl⟩:=h;rw[a8d hb,xI hl];rfl
theorem a5H{bs:List UInt8}{l':List Value}(h:All2 (C1 ρ) (bs.map λb=>(.int .u8 b.toNat:Value)) l'):l'=bs.map λb=>.int .u8 b.toNat:=h.aP (by simp[lX,kG])
theorem b3e(bs:List UInt8)(s:ByteArray):(bs.map λb=>(b.toNat:Int)).foldl (λr n=>r.push (UInt8.ofNat n.toNat)) s=⟨s.data++bs.toArray⟩:=by induction bs generalizing s with| nil=>simp| cons b bs ih=>rw[eL,fP,ih];simp[ByteArray.push]
theorem uD{s t:TypeId}{A i e n sz c':Nat}{p:Place}{a:Addr}(h:a9Y P ρ H w A e p)(h0:0<=(i:Int)+p.d)(hs:mP P s=true)(ht:qH P t=true){l:List Value}{b:ByteArray}(hc:kT H A i e n=some l)(hb:oH l=some b) (ha:(a=⟨p.b,p.at i,none⟩∧p.at i+c'*p.k<=sz)∨(n=0∧c'=0)):(convert s t (.slice (some a) n c')).run P w=.ok (.string b) w:=by
 obtain⟨el,hu,hi,_⟩:=a1D hs;obtain⟨l',hall,hlen,_,hcell⟩:=a1m h hc h0;unfold oH at hb;rw[dO]at hb;obtain⟨bs,hbs,rfl⟩:=hb;have hl:=xI hbs;rw[hl]at hall hlen;have hl':=a5H hall;rw[dR]at hlen;(have hload:(loadCells a n).run P w=.ok ((bs.map λb=>(b.toNat:Int)).map (Value.int .u8)).toArray w:=by rw[gf];rcases ha with⟨rfl,_⟩|⟨hn0,_⟩;(·have:=run_loadCells_list (P:=P) w ⟨p.b,p.at i,none⟩ l' hcell;rw[hl',dR,hlen]at this;exact this);·subst hn0;have:bs=[]:=fT.1 hlen;subst this;exact run_loadCells_list (P:=P) w a [] (λj v hv=>by simp at hv));have:=run_bytesToString w a n c' _ hload;rw[b3e]at this;(have e0:(⟨ByteArray.empty.data++bs.toArray⟩:ByteArray)=⟨bs.toArray⟩:=by show(⟨#[]++bs.toArray⟩:ByteArray)=_;simp);rw[e0]at this;simp only[convert,dL,run_underlying hu,run_underlying (a5e ht),dH,run_underlying hi,this]
theorem a1R(h:HRel P ρ H w){s t:TypeId}{A i e n k:Nat}{x':Value}(hs:mP P s=true)(ht:qH P t=true){l:List Value}{b:ByteArray}(hc:kT H A i e n=some l)(hb:oH l=some b) (hx:V ρ (.slice (some ⟨A,i,some e⟩) n k) x'):(convert s t x').run P w=.ok (.string b) w:=by obtain⟨p,c',a,hp,h0,_,_,ha,_,rfl⟩:=hx.az;exact uD (h.row hp) h0 hs ht hc hb ha
theorem a4Y{t:TypeId}(h:xC P t=true):∃e j,P.underlying t=some (.pointer e)∧P.info? e=some j:=by unfold xC at h;split at h;(·rename_i e hu;obtain⟨j,hj⟩:=fZ.1 h;exact⟨e,j,hu,hj⟩);·cases h
theorem a7G{t:TypeId}(ht:xC P t=true)(x y:Operand){ad:Addr}{vx vy:Value}(hx:V ρ (.pointer (some ad)) vx)(hy:V ρ (.pointer none) vy): (do eqGuard .eql t x y vx vy;binOp .eql t vx vy:Sem Value).run P w=.ok (.bool false) w∧(do eqGuard .neq t x y vx vy;binOp .neq t vx vy:Sem Value).run P w=.ok (.bool true) w:=by
 obtain⟨e,j,hu,hj⟩:=a4Y ht;obtain rfl:=hy.ai rfl;(have hxx:∃b,vx=.pointer (some b):=by cases hx with| v1 h1=>cases h1 with| c1 h1=>cases h1 with| c0 h1=>cases h1 with| flat h1=>simp[kG]at h1| ptr _ _=>exact⟨_,rfl⟩| glob _ _=>exact⟨_,rfl⟩);obtain⟨b,rfl⟩:=hxx;(have hpt:P.underlying t=some (.pointer (P.pointee t)):=by rw[hu];simp[Program.pointee,hu]);have:=run_equal_pointer_nil (P:=P) w t (some b) hpt;constructor;(·simp[eqGuard,binOp,this]);·simp[eqGuard,binOp,this]
theorem a5d{t:TypeId}(ht:xC P t=true)(x y:Operand){A i e:Nat}{vx vy:Value}(hx:V ρ (.pointer (some ⟨A,i,some e⟩)) vx)(hy:V ρ (.pointer (some ⟨A,i,some e⟩)) vy): (do eqGuard .eql t x y vx vy;binOp .eql t vx vy:Sem Value).run P w=.ok (.bool true) w∧(do eqGuard .neq t x y vx vy;binOp .neq t vx vy:Sem Value).run P w=.ok (.bool false) w:=by obtain⟨te,j,hu,hj⟩:=a4Y ht;obtain⟨p,hp,_,rfl⟩:=hx.aI;obtain⟨q,hq,_,rfl⟩:=hy.aI;rw[hp]at hq;obtain rfl:=dC hq;constructor;(·have:=run_eql_ptr_same (P:=P) (w:=w) ⟨p.b,p.at i,none⟩ hu hj;simp[eqGuard,this]);·have:=Lib.run_neq_ptr_same (P:=P) (w:=w) ⟨p.b,p.at i,none⟩ hu hj;simp[eqGuard,this]
theorem a9O{u:TypeId}{count:Nat}(hc:P.cellsOf u≠0)(hn:1<=count):liesAt P P.depth u count 0 u 1=true:=by have hd:P.depth=(2*(P.types.size+Made.depth)+1)+1:=rfl;rw[hd];simp only[liesAt,fi];left;rw[hd];simp[rowAt,hc,hn,sameLayout]
theorem a1j{t:TypeId}{n:Nat}(h:jT P t=some n):∃j,P.info? t=some j∧j.size=n∧P.cellsOf t=n:=by unfold jT at h;cases hi:P.info? t with| none=>rw[hi]at h;cases h| some j=>rw[hi]at h;exact⟨j,rfl,dC h,by simp[Program.cellsOf,hi];exact dC h⟩
theorem b3l(h:HRel P ρ H w){s t:TypeId}{A e:Nat}{x':Value}(hk:a7e P H s t A e=true)(hx:V ρ (.pointer (some ⟨A,0,some e⟩)) x'):(convert s t x').run P w=.ok x' w:=by
 obtain⟨p,hp,h0,rfl⟩:=hx.aI;(have key:∀{cs ty lo u},kB H A=some (.cells cs ty true lo 0)->(u==ty&&e==cs.length&&e !=0&&jT P ty==some e)=true-> u=ty∧e≠0∧p.at 0=0∧(∃j,P.info? u=some j∧j.size=e∧P.cellsOf u=e)∧∃cells,w.shape? p.b=some (u,cells)∧e<=cells:=by intro cs ty lo u hg hc;simp only[dE,beq_iff_eq,bne_iff_ne]at hc;obtain⟨⟨⟨rfl,rfl⟩,he0⟩,hsz⟩:=hc;obtain⟨_,hk,hfit,cur,ty',fr,hw,hcur,hfr,_⟩:=(h.cells _ _ _ _ _ _ hg).2 _ _ hp;obtain⟨rfl,hpd,hty⟩:=hfr rfl;obtain rfl:=hty rfl;(have hd0:p.d=0:=by omega);refine⟨rfl,he0,by simp[Place.at,hd0],a1j hsz,cur.size,by simp[World.shape?,hw],by rw[hcur];omega⟩);unfold a7e at hk;split at hk;(·rename_i u cs ty lo hs ht hg;obtain⟨rfl,he0,hat,⟨j,hj,hjs,_⟩,cells,hsh,hle⟩:=key hg hk;rw[hat];exact Lib.run_to_unsafe (P:=P) (w:=w) ⟨p.b,0,none⟩ hs ht hj (by omega) hsh (by simp only;omega));(·rename_i u cs ty lo hs ht hg;obtain⟨rfl,he0,hat,⟨j,hj,hjs,hco⟩,cells,hsh,hle⟩:=key hg hk;rw[hat];exact Lib.run_from_unsafe (P:=P) (w:=w) ⟨p.b,0,none⟩ hs ht hj hsh (a9O (by omega) (by rw[hco];exact Nat.div_pos hle (by omega))))
 ·cases hk
theorem b0r(a:Addr)(n:Nat):(w.freeze a n).heap.size=w.heap.size:=by unfold World.freeze;split;(·rfl);·simp
theorem a1q{a:Addr}{n b:Nat}(h:b≠a.block):(w.freeze a n).heap[b]? =w.heap[b]?:=by unfold World.freeze;split;(·rfl);·simp only[gr];rw[if_neg (fM h)]
theorem b9e{a:Addr}{n:Nat}{cur:Array Value}{ty:TypeId}{fr:Nat×Nat}(h:w.heap[a.block]? =some (.cells cur ty fr)):∃fr',(w.freeze a n).heap[a.block]? =some (.cells cur ty fr'):=by unfold World.freeze;split;(·exact⟨fr,h⟩);·obtain⟨lo,hi⟩:=fr;simp only[gr,h,eG];exact⟨_,rfl⟩
theorem b2i(a:Addr)(n:Nat):(w.freeze a n).os=w.os∧((w.freeze a n).tape=w.tape∧w.drawn<=(w.freeze a n).drawn)∧(w.freeze a n).output=w.output:=by unfold World.freeze;split<;>exact⟨rfl,⟨rfl,dJ _⟩,rfl⟩
theorem c3Z(h:HRel P ρ H w){A:Nat}{cs:List Value}{ty:TypeId}{lo:Nat}{p:Place}(hg:kB H A=some (.cells cs ty true lo 0))(hp:ρ A cs.length=some p)(a:Addr)(ha:a.block=p.b)(n:Nat): Post P ρ H w ρ (hset H A (.cells cs ty false lo 0)) (w.freeze a n):=by
 have hall:=(h.cells _ _ _ _ _ _ hg).2;obtain⟨_,hk,hfit,cur,ty',fr,hw,hsz,hfr,hcell⟩:=hall _ _ hp;(have hw':w.heap[a.block]? =some (.cells cur ty' fr):=by rw[ha];exact hw);obtain⟨fr',hf⟩:=b9e (n:=n) hw';obtain⟨e1,e2,e3⟩:=b2i (w:=w) a n;refine Post.ct h _ hg rfl hp (.refl ρ) (λ_ _ _ hq=>.inl hq) (b0r a n) (λb hb=>a1q (by rw[ha];exact hb)) e1 e2 e3 ?_ (λ_ _ _ e=>by cases e) (λ_ e=>by cases e) (λ_ _ _=>.inl rfl) (λr hr=>by rw[hw]at hr;cases hr);intro cs2 ty2 rw2 lo2 ver2 e;injection e with e1 e2 e3 e4 e5;subst e1 e2 e3 e4 e5;refine⟨⟨p,hp⟩,λf q hq=> ?_⟩;obtain⟨q1,q2,q3,qcur,qty,qfr,q4,q5,q6,q7⟩:=hall f q hq;by_cases hqb:q.b=p.b;(·rw[hqb,hw]at q4;injection (dC q4)with e1 e2 e3;subst e1 e2 e3;exact⟨q1,q2,q3,cur,ty',fr',by rw[hqb,<-ha];exact hf,q5,(λh=>by cases h),q7⟩);·exact⟨q1,q2,q3,qcur,qty,qfr,by rw[a1q (by rw[ha];exact hqb)];exact q4,q5,(λh=>by cases h),q7⟩
theorem b6w(h:HRel P ρ H w){pt it ty:TypeId}{x y x' y' v:Value}{H':Heap}(hd:yZ P H pt x y=some (v,H'))(hx:V ρ x x')(hy:V ρ y y'): ∃w',(Builtin.unsafeString_ #[pt,it] ty #[x',y']).run P w=.ok v w'∧Post P ρ H w ρ H' w'∧flat v=true:=by
 unfold yZ at hd;split at hd;(·rename_i e0 A i e n hpt;split at hd;(·rename_i cs ty2 lo hg;split at hd;(·rename_i hc;simp only[dE,bne_iff_ne,beq_iff_eq,decide_eq_true_eq]at hc;obtain⟨⟨⟨⟨⟨hn0,rfl⟩,rfl⟩,rfl⟩,hn62⟩,hsz⟩:=hc;simp only[dO,dF]at hd;obtain⟨b,⟨l,hcl,hb⟩,hd⟩:=hd;injection hd with e1 e2;subst e1 e2;obtain⟨p,hp,h0,rfl⟩:=hx.aI;obtain rfl:=hy.ai rfl;obtain⟨l',hall,hlen,hin,hcell⟩:=a9R h hcl hp h0;unfold oH at hb;rw[dO]at hb;obtain⟨bs,hbs,rfl⟩:=hb;have hl:=xI hbs;rw[hl]at hall hlen;have hl':=a5H hall;rw[dR]at hlen;obtain⟨hle,hk,hfit,cur,ty',fr,hw,hcur,hfr,_⟩:=(h.cells _ _ _ _ _ _ hg).2 _ _ hp;obtain⟨rfl,hpd,hty⟩:=hfr rfl;obtain rfl:=hty rfl;(have hd0:p.d=0:=by omega);(have hat:p.at 0=0:=by simp[Place.at,hd0]);obtain⟨j,hj,hjs,hco⟩:=a1j hsz;rw[hat]at hcell ⊢;have hrun:=Lib.run_unsafeString_row (P:=P) w pt it ty ty' hpt hco p.b cur.size (by simp[World.shape?,hw]) bs (by intro e;subst e;simp at hlen;omega) (by rw[hcur];omega) (by omega) (λj x hjx=>by refine hcell j _ ?_;rw[hl',eQ,hjx];rfl);rw[hlen]at hrun;exact⟨_,hrun,c3Z h hg hp _ rfl _,rfl⟩);·cases hd);·cases hd)
 ·cases hd
theorem b5r(H:Heap)(ty:TypeId)(cs:List Value):c2g H ty cs=H.cons (.cells cs ty false cs.length 0):=by simp[c2g,tZ]
theorem a2E(h:HRel P ρ H w){s t elem:TypeId}{b:ByteArray}{x':Value}(hs:qH P s=true)(ht:mP P t=true)(he:jX P t=some elem)(hx:V ρ (.string b) x'): ∃ρ' r' w',(convert s t x').run P w=.ok r' w'∧Post P ρ H w ρ' (c2g H elem (b.data.toList.map λc=>.int .u8 c.toNat)) w'∧V ρ' (.slice (some ⟨H.length,0,some b.size⟩) b.size 1) r':=by
 obtain⟨el,hu,hi,hsz⟩:=a1D ht;have he':=lM he;rw[hu]at he';injection he' with he';injection he' with he';subst he';obtain rfl:=hx.ai rfl;have hrun:=run_bytes_of_string (P:=P) w s t el b (a5e hs) hu hi;(have hle:b.size<=grownCap w b.size 0 el:=by unfold grownCap Question.cut;simp only;omega);generalize grownCap w b.size 0 el=cap at hrun hle;(have hbl:(b.data.toList.map λc=>(.int .u8 c.toNat:Value)).length=b.size:=by simp);(have hrow:∀(j:Nat)(c:Value),(b.data.toList.map λc=>(.int .u8 c.toNat:Value))[j]? =some c->(bytesRow b cap)[j]? =some c:=by intro j c hjc;have hj:=(dK.1 hjc).1;rw[hbl]at hj;unfold bytesRow;rw[fU (by simpa using hj)];rw[eQ]at hjc;rw[Array.getElem?_map,<-iB];exact hjc);(have hsize:(bytesRow b cap).size=cap:=by unfold bytesRow;simp only[Array.size_append,Array.size_map,Array.size_replicate];show b.size+(cap-b.size)=cap;omega);have hpost0:=Post.drew h;have hno:∀f,ρ H.length f=none:=λf=>oX h f
 refine⟨ρ.put H.length b.size ⟨w.heap.size,0,cap,1⟩,_,_,hrun,hpost0.trans ?_,?_⟩;(·rw[b5r,<-hbl];refine Post.new hpost0.rel _ _ _ ⟨w.heap.size,0,cap,1⟩ rfl ?_ (λ_ _ _ e=>by cases e) (λ_ e=>by cases e);intro cs ty2 rw2 lo ver e;injection e with e1 e2 e3 e4 e5;subst e1 e2 e3 e4 e5;refine⟨rfl,dJ _,hsz,by simp only[hbl];omega,_,el,_,lA _ _,hsize,(λh=>by cases h),λ_ i c hi _ hc=> ?_⟩;exact⟨c,by simpa [Place.at]using hrow i c hc,by rw[eQ,dO]at hc;obtain⟨u,_,rfl⟩:=hc;exact .aF rfl⟩);·have:=C0.slice (ρ:=ρ.put H.length b.size ⟨w.heap.size,0,cap,1⟩) (A:=H.length) (i:=0) (e:=b.size) (n:=b.size) (c':=cap) (p:=⟨w.heap.size,0,cap,1⟩) (a:=⟨w.heap.size,0,none⟩) (Rho.aq _ _ _ _) (by simp) (by simp) ⟨hle,by simp;exact hle⟩ (.inl ⟨by simp[Place.at],by simp[Place.at]⟩);exact .v1 (.c1 (.c0 this))
end
section
variable {P:Program} {ρ:Rho} {H:Heap} {w:World}
theorem b5T(a b:Int):c5e a b=a+b:=by cases a<;>cases b<;>simp[c5e]
theorem b5e(a b:Int):c6p a b=a-b:=by cases a with| ofNat a=>(cases b with| ofNat b=>simp only[c6p];(cases h:Nat.ble b a with| true=>have:=fy h;simp only[ig];omega| false=>(have:¬b<=a:=λe=>by rw[Nat.ble_eq_true_of_le e]at h;cases h);simp only[ig,Int.negSucc_eq];omega)| negSucc b=>rfl)| negSucc a=>cases b<;>rfl
theorem blt_eq(a b:Nat):Nat.blt a b=decide (a<b):=by by_cases h:a<b;(·rw[decide_eq_true h];simpa [jJ]using h);·rw[decide_eq_false h];exact iE.2 λe=>h (by simpa [jJ]using e)
theorem a2w(a b:Int):ltI a b=decide (a<b):=by cases a<;>cases b<;>simp only[ltI,blt_eq,ig,Int.negSucc_eq]<;>rw[fq]<;>simp<;>omega
theorem a5n(a b:Int):eqI a b=(a==b):=by cases a<;>cases b<;>simp only[eqI,ig,Int.negSucc_eq]<;>rw[fq]<;>simp<;>omega
theorem yI(k:IntKind)(n:Int):a0c k n=k.wrap n:=by unfold a0c;cases k with| i64=>(cases n with| ofNat m=>simp only[blt_eq];by_cases h:m<9223372036854775808;(·rw[decide_eq_true h];exact(IntWalk.i64_in _ (by simp only[ig];omega)).symm);(·rw[decide_eq_false h])| negSucc m=>simp only[a2w];by_cases h:Int.negSucc m< -9223372036854775808;(·rw[decide_eq_true h]);·rw[decide_eq_false h];exact(IntWalk.i64_in _ (by simp only[Int.negSucc_eq]at*;omega)).symm)| u64=>(cases n with| ofNat m=>simp only[blt_eq];by_cases h:m<18446744073709551616;(·rw[decide_eq_true h];exact(IntWalk.u64_in _ (by simp only[ig];omega)).symm);(·rw[decide_eq_false h])| negSucc m=>rfl)| _=>rfl
theorem c4V{op:BinOp}{k:IntKind}{a b:Int}{v:Value}(h:oR op k a b=some v)(t:TypeId)(x y:Operand)(w:World): (do eqGuard op t x y (.int k a) (.int k b);binOp op t (.int k a) (.int k b):Sem Value).run P w=.ok v w∧flat v=true:=by
 cases op<;>simp only[oR,b5T,b5e,a2w,a5n,yI,reduceCtorEq,eu]at h;all_goals first| (subst h;refine⟨?_,rfl⟩;simp[eqGuard,binOp,Op.intArith,Op.intCmp];done)| (subst h;refine⟨?_,rfl⟩;simp[eqGuard,binOp,Op.intCmp,bne];done)| (subst h;refine⟨?_,rfl⟩;simp[eqGuard,binOp,Op.intCmp];rw[fq];simp;done)| (by_cases h0:b=0;(·subst h0;simp at h);·(have e:(b==0)=false:=by simpa using h0);rw[e]at h;simp only[eu]at h;subst h;refine⟨?_,rfl⟩;simp[eqGuard,binOp,Op.intDiv,h0])
theorem oJ(h:HRel P ρ H w){o:Oper}{l:List Value}{a:Act}(hV:∀x,x∈o.op.operands->V ρ (ev l x) (a.eval x))(hsel:∀cs b,o.op≠.select cs b) {v:Value} {H':Heap} (hp:mE P o l H=some (v,H')):OpOk P ρ H w ((execOp a.eval o).run P w) v H':=by unfold mE at hp;split at hp;(·rename_i hfl;(have heq:execOp a.eval o=execOp (ev l) o:=execOp_congr o hsel λx hx=>by(have hx':x∈o.op.operands.toList:=by simpa using hx);simp only[dQ]at hfl;exact(hV x hx).ai (hfl x hx'));rw[heq];split at hp;(·rename_i v0 hr;split at hp;(·rename_i hv0;injection (dC hp)with e1 e2;subst e1 e2;exact OpOk.pure h (mM _ hr w) (.of_flat hv0));·cases hp);·cases hp);·cases hp
theorem V.c0{v v':Value}(h:V ρ v v')(hc:rF v=true):C0 ρ v v':=by cases h with| v1 h=>(cases h with| c1 h=>(cases h with| c0 h=>exact h| _=>simp[rF]at hc)| agg h=>simp[rF]at hc)| tuple h=>simp[rF]at hc
theorem V.aG{b:Bool}{v':Value}(h:V ρ (.bool b) v'):v'=.bool b:=h.ai rfl
theorem V.aH{k:IntKind}{n:Int}{v':Value}(h:V ρ (.int k n) v'):v'=.int k n:=h.ai rfl
theorem a3h{s:TypeId}{f:Nat}{fd:Field}(h:qQ P s f=some fd):∃fs,P.underlying s=some (.struct fs)∧fs[f]? =some fd:=by unfold qQ at h;split at h;(·rename_i fs hu;exact⟨fs,hu,h⟩);·cases h
theorem All2.captured{l:List Value}{a:Act}:∀(xs:List Operand),(∀x∈xs,V ρ (ev l x) (a.eval x))->(∀x∈xs,rF (ev l x)=true)->All2 (C0 ρ) (xs.map (ev l)) (xs.map a.eval)| [],_,_=>trivial| x::xs,h1,h2=>⟨(h1 x (by simp)).c0 (h2 x (by simp)),All2.captured xs (λy hy=>h1 y (by simp[hy])) λy hy=>h2 y (by simp[hy])⟩
theorem a1u{l:List Value}{a:Act}:∀(xs:List Operand),(∀x∈xs,V ρ (ev l x) (a.eval x))->All2 (V ρ) (xs.map (ev l)) (xs.map a.eval)| [],_=>trivial| x::xs,h1=>⟨h1 x (by simp),a1u xs λy hy=>h1 y (by simp[hy])⟩
theorem c9j(h:HRel P ρ H w){t:TypeId}{x x' r:Value}{d:TypeDesc}(hu:P.underlying t=some d)(hx:V ρ x x')(hl:a0D H x=some r) (hd:match d,x with|.slice _,.slice _ _ _=>True|.string,.string _=>True|.map _ _,.map _=>True|_,_=>False) (ty:TypeId): (Builtin.len_ #[t] ty #[x']).run P w=.ok r w∧flat r=true:=by
 unfold a0D at hl;cases x with| slice o n c=>obtain rfl:=dC hl;refine⟨?_,rfl⟩;(cases d<;>try exact hd.elim);rcases hx.aA with⟨_,hn,_,rfl⟩|⟨A,j,e,p,c',a,hh,_,_,_,_,_,_,rfl⟩;(·simp[Builtin.len_,run_underlying hu,hn]);(·simp[Builtin.len_,run_underlying hu])| string s=>obtain rfl:=dC hl;refine⟨?_,rfl⟩;(cases d<;>try exact hd.elim);obtain rfl:=hx.ai rfl;simp[Builtin.len_,run_underlying hu]| map r0=>(cases d<;>try exact hd.elim);(cases r0 with| none=>obtain rfl:=dC hl;obtain rfl:=hx.ai rfl;exact⟨by simp[Builtin.len_,run_underlying hu],rfl⟩| some A=>simp only at hl;split at hl;(·rename_i es ck ver hg;obtain rfl:=dC hl;obtain⟨p,es',hp,hw,hall⟩:=h.map _ _ _ _ hg;(have hx':x'=.map (some p.b):=by cases hx with| v1 h1=>cases h1 with| c1 h1=>cases h1 with| c0 h1=>cases h1 with| flat h1=>simp[kG]at h1| map hq=>rw[hp]at hq;rw[dC hq]);subst hx';refine⟨?_,rfl⟩;(have hg2:(getObj p.b).run P w=.ok (.map es' ck) w:=by simp[getObj,Sem.run,hw]);(have he:es'.size=es.length:=by simpa using hall.length.symm);simp[Builtin.len_,run_underlying hu,hg2,he]);·cases hl)| _=>cases hl
theorem OpOk.mem{ρ':Rho}{res:Result Next}{v v':Value}{H':Heap}{w':World}(hr:res=.ok (.value v') w')(hp:Post P ρ H w ρ' H' w')(hv:V ρ' v v'):OpOk P ρ H w res v H':=⟨ρ',v',_,w',hr,.inl rfl,hp,hv⟩
theorem V.bf{ad:Addr}{v':Value}(h:V ρ (.pointer (some ad)) v'):∃b,v'=.pointer (some b):=by cases h with| v1 h1=>cases h1 with| c1 h1=>cases h1 with| c0 h1=>cases h1 with| flat h1=>simp[kG]at h1| ptr _ _=>exact⟨_,rfl⟩| glob _ _=>exact⟨_,rfl⟩
theorem V.bg{f:FuncId}{b c:Array Value}{v':Value}(h:V ρ (.func (.func f) b c) v'):∃b' c',v'=.func (.func f) b' c'∧All2 (C0 ρ) b.toList b'.toList∧All2 (C0 ρ) c.toList c'.toList:=by cases h with| v1 h1=>cases h1 with| c1 h1=>cases h1 with| c0 h1=>(cases h1 with| flat h1=>simp[kG]at h1)| fn ha hb=>exact⟨_,_,rfl,ha,hb⟩
theorem V.bN{vs vs':Array Value}(h:V ρ (.tuple vs) (.tuple vs'))(i:Nat)(r:Value)(hr:vs[i]? =some r):∃r',vs'[i]? =some r'∧V1 ρ r r':=by cases h with| v1 h1=>(cases h1 with| c1 h1=>cases h1 with| c0 h1=>cases h1 with| flat h1=>simp[kG]at h1)| tuple h1=>obtain⟨b,hb,hrel⟩:=h1.get i r (by simpa using hr);exact⟨b,by simpa using hb,hrel⟩
theorem V.bO{vs:Array Value}{v':Value}(h:V ρ (.tuple vs) v')(hn:∀x,v'≠.tuple x:=by intro x e;cases e):False:=by cases h with| v1 h1=>(cases h1 with| c1 h1=>cases h1 with| c0 h1=>cases h1 with| flat h1=>simp[kG]at h1)| tuple h1=>exact hn _ rfl
theorem V.bI{cs:Array Value}{v':Value}(h:V ρ (.agg cs) v'):∃cs',v'=.agg cs'∧All2 (C1 ρ) cs.toList cs'.toList:=by cases h with| v1 h1=>cases h1 with| c1 h1=>(cases h1 with| c0 h1=>cases h1 with| flat h1=>simp[kG]at h1)| agg h1=>exact⟨_,rfl,h1⟩
theorem All2.extract{α β:Type}{R:α->β->Prop}{l:List α}{m:List β}(h:All2 R l m)(i j:Nat):All2 R (l.extract i j) (m.extract i j):=by refine All2.bp (by simp[h.length]) λk a hk=> ?_;simp only[List.extract_eq_take_drop]at hk ⊢;by_cases hkj:k<j-i;(·rw[eP hkj,eH]at hk;obtain⟨b,hb,hr⟩:=h.get _ _ hk;exact⟨b,by rw[eP hkj,eH];exact hb,hr⟩);·rw[List.getElem?_take_eq_none (by omega)]at hk;cases hk
theorem a1d{t:TypeId}(h:((P.underlying t).map yU==some true)=true):∃e,P.underlying t=some (.slice e):=by simp only[beq_iff_eq]at h;obtain⟨d,hd,hs⟩:=dO.1 h;cases d<;>simp[yU]at hs;exact⟨_,hd⟩
theorem a0k{α:Type}{a:Array α}(h:a.size=2):∃x y,a=#[x,y]:=by cases a with|mk l=>match l,h with|[x,y],_=>exact⟨x,y,rfl⟩
theorem yJ{α:Type}{a:Array α}(h:a.size=1):∃x,a=#[x]:=by cases a with|mk l=>match l,h with|[x],_=>exact⟨x,rfl⟩
theorem a9l{z:Value}(n:Nat){k:Nat}(hz:z.cells.size=k):(if k=1 then List.replicate n (z.cells[0]!)else(madeCells z.cells (n*k)).toList)=(madeCells z.cells (n*k)).toList:=by split;(·rename_i h1;subst h1;simp only[madeCells,hz,Nat.mod_one,jw];apply iF;intro j;simp only[jy,iB,Array.getElem?_map,Array.getElem?_range];split<;>simp);·rfl
theorem a2Z{k b:Nat}(h:k*b<=17592186044416):(b:Int)*(k:Int)<=281474976710656:=by(have e:(b:Int)*(k:Int)=((k*b:Nat):Int):=by rw[Int.mul_comm];simp);rw[e];omega
theorem a8f(h:HRel P ρ H w){dst:Option Tmp}{t type:TypeId}{n c:Operand}{pos:String}{after:Array Edge}{guard:Option (Nat×Bool)}{l:List Value}{a:Act}(h1:V ρ (ev l n) (a.eval n))(h2:V ρ (ev l c) (a.eval c)){v:Value}{H':Heap} (hd:opD P ⟨dst,.makeSlice t n c,type,pos,after,guard⟩ l H=some (v,H')):OpOk P ρ H w ((execOp a.eval ⟨dst,.makeSlice t n c,type,pos,after,guard⟩).run P w) v H':=by
 simp only[opD,dF]at hd;obtain⟨elem,he,size,hs,bytes,hby,z,hz,hd⟩:=hd;have hst:=lM he;obtain⟨i,hi,hisz,hiby,hiz⟩:=a5D hs hby hz;subst hisz hiby;split at hd;(·rename_i k1 x k2 y hx hy;rw[hx]at h1;rw[hy]at h2;split at hd;(·rename_i hc;simp only[dE,decide_eq_true_eq,bne_iff_ne,beq_iff_eq]at hc;obtain⟨⟨⟨⟨⟨hfz,hab⟩,h0⟩,hroom⟩,hs0⟩,hzs⟩:=hc;obtain⟨k,rfl⟩:=il h0;obtain⟨m,rfl⟩:=il (Int.le_trans h0 hab);(have hkm:k<=m:=by omega);obtain⟨r1,r2⟩:=a9p hroom;have hrun:=run_make (P:=P) w t elem i z hst hi hiz k1 k2 (k:Int) (m:Int) h0 hab (a2Z r2) (by omega);simp only[fB]at hrun hd;injection (dC hd)with e1 e2;rw[a9l m hzs]at e1 e2;subst e1 e2;(have hlen:(madeCells z.cells (m*i.size)).toList.length=m*i.size:=by simp[madeCells]);have hrow:=b2C h elem hs (a0U (ρ:=ρ) hfz (m*i.size));simp only[Array.toArray_toList]at hrow;change Post P ρ H w _ (uI H elem (madeCells z.cells (m*i.size)).toList) (w.alloc (.cells (madeCells z.cells (m*i.size)) elem))at hrow;refine OpOk.mem (v':=.slice (some ⟨w.heap.size,0,none⟩) k m) (by simp only[execOp,h1.aH,h2.aH,dL,hrun,dH,dP]) hrow ?_;have hmul:k*i.size<=m*i.size:=eO _ hkm;have e:((Array.range (m*i.size)).map (z.cells[·%z.cells.size]!)).toList=(madeCells z.cells (m*i.size)).toList:=rfl;rw[e];have:=C0.slice (ρ:=ρ.put H.length (madeCells z.cells (m*i.size)).toList.length ⟨w.heap.size,0,(madeCells z.cells (m*i.size)).toList.length,i.size⟩) (A:=H.length) (i:=0) (e:=(madeCells z.cells (m*i.size)).toList.length) (n:=k) (c':=m) (p:=⟨w.heap.size,0,(madeCells z.cells (m*i.size)).toList.length,i.size⟩) (a:=⟨w.heap.size,0,none⟩) (Rho.aq _ _ _ _) (by simp) (by simp only[hlen];omega) ⟨hkm,by simp only[hlen];omega⟩ (.inl ⟨by simp[Place.at],by simp only[hlen];simp[Place.at]⟩);exact .v1 (.c1 (.c0 this)));·cases hd)
 ·cases hd
theorem a6i(h:HRel P ρ H w){dst:Option Tmp}{t len type:Nat}{parts:Array (Nat×Operand)}{pos:String}{after:Array Edge}{guard:Option (Nat×Bool)}{l:List Value}{a:Act} (hps:b1E ρ (parts.toList.map λ(i,x)=>(i,ev l x)) (parts.toList.map λ(i,x)=>(i,a.eval x))) {v:Value} {H':Heap} (hd:opD P ⟨dst,.buildSlice t len parts,type,pos,after,guard⟩ l H=some (v,H')):OpOk P ρ H w ((execOp a.eval ⟨dst,.buildSlice t len parts,type,pos,after,guard⟩).run P w) v H':=by
 simp only[opD,dF]at hd;obtain⟨elem,he,size,hs,z,hz,hd⟩:=hd;split at hd;(·rename_i hc;simp only[dE,bne_iff_ne,beq_iff_eq,List.isEmpty_iff,List.map_eq_nil_iff]at hc;obtain⟨⟨rfl,hp0⟩,hs0⟩:=hc;injection (dC hd)with e1 e2;subst e1 e2;have hst:=lM he;have hpa:parts=#[]:=jI hp0;subst hpa;obtain⟨ρ',hp,hv⟩:=a3a h hs (l:=[]) (l':=[]) (len:=0) trivial (by simp);(have hrun:(Instr.buildSlice t 0 #[]).run P w=.ok (.slice (some ⟨w.heap.size,0,none⟩) 0 0) (w.alloc (.cells #[] elem)):=by unfold Instr.buildSlice;(have er:(Array.range 0).map (λ_=>(default:Value))=#[]:=by simp[Array.range]);simp[run_underlying hst,lP hs,Instr.fill,newRow,er]);exact OpOk.mem (v':=.slice (some ⟨w.heap.size,0,none⟩) 0 0) (by simp only[execOp,Array.map_empty,dL,hrun,dH,dP]) hp (by simpa using hv));split at hd;(·rename_i hc;simp only[dE,decide_eq_true_eq,bne_iff_ne,beq_iff_eq]at hc;obtain⟨⟨⟨⟨hfz,hall1⟩,hsmall⟩,hpos⟩,hzs⟩:=hc;simp only[dO]at hd;obtain⟨cs,hb,hd⟩:=hd;injection hd with e1 e2;subst e1 e2;have hst:=lM he;obtain⟨i,hi,hisz⟩:=a4t hs;subst hisz;(have hiz:i.zero=some z:=by unfold kN at hz;rw[hi]at hz;exact hz);(have hone:∀x∈(parts.toList.map λ(i,x)=>(i,ev l x)),x.2.cells.toList.all oneCell=true:=by simp only[dQ]at hall1 ⊢;exact hall1);obtain⟨r',hr',hall⟩:=a1P _ _ _ hps hone _ _ _ (a0U hfz _) hb;(have hsz:len*i.size=cs.toList.length:=by have:=a2H _ _ _ _ hb;rw[gO,this];simp);obtain⟨ρ',hp,hv⟩:=a3a h hs hall hsz;have hsm:¬len*i.size>2^24:=Nat.not_lt.2 hsmall;(have hparts:(parts.map λ(i,x)=>(i,a.eval x)).toList=(parts.toList.map λ(i,x)=>(i,a.eval x)):=by simp);have hrun:=run_buildSlice (P:=P) w t elem len (parts.map λ(i,x)=>(i,a.eval x)) r' i z hst hi hiz hsm hpos (by rw[hparts];exact hr');rw[Array.toArray_toList]at hp;exact OpOk.mem (by simp only[execOp,dL,hrun,dH,dP]) hp hv)
 ·cases hd
set_option maxHeartbeats 1000000 in
theorem c8i(h:HRel P ρ H w){o:Oper}{l:List Value}{a:Act}(hV:∀x,x∈o.op.operands→V ρ (ev l x) (a.eval x)){v:Value}{H':Heap}(hd:opD P o l H=some (v,H')):
 OpOk P ρ H w ((execOp a.eval o).run P w) v H':=by
 obtain⟨dst,op,type,pos,after,guard⟩:=o;simp only at hV;cases op with
 | move x=>
   simp only[opD]at hd;injection (dC hd)with e1 e2;subst e1 e2
   exact OpOk.pure h rfl (hV x (by simp[Op.operands]))
 | assign x=>
   simp only[opD]at hd;injection (dC hd)with e1 e2;subst e1 e2
   exact OpOk.pure h rfl (hV x (by simp[Op.operands]))
 | pick c x y=>
   simp only[opD]at hd;split at hd
   ·rename_i t hc;injection (dC hd)with e1 e2;subst e1 e2
    have hcv:=hV c (by simp[Op.operands]);rw[hc]at hcv
    have:=hcv.aG
    refine OpOk.pure h (v':=if t then a.eval x else a.eval y) (by simp only[execOp];rw[this];cases t<;>simp[asBool]) ?_;cases t
    ·exact hV y (by simp[Op.operands])
    ·exact hV x (by simp[Op.operands])
   ·cases hd
 | alloc t=>
   simp only[opD,dF]at hd;obtain⟨z,hz,hd⟩:=hd;split at hd
   ·rename_i hf;obtain⟨ρ',r',w',hr,hp,hv⟩:=b9F h hd (.v1 (V1.of_flat hf));have hr2:(Instr.alloc t true (.tuple #[])).run P w=.ok r' w':=by
     simp only[Instr.alloc,dL,sZ hz,dH];simpa using hr
    exact OpOk.mem (by simp only[execOp,dL,hr2,dH,dP]) hp hv
   ·cases hd
 | box t x=>
   simp only[opD]at hd;obtain⟨ρ',r',w',hr,hp,hv⟩:=b9Z h hd (hV x (by simp[Op.operands]));have hr2:(Instr.box t (a.eval x)).run P w=.ok r' w':=hr;exact OpOk.mem (by simp only[execOp,dL,hr2,dH,dP]) hp hv
 | build t parts=>
   simp only[opD]at hd;split at hd
   ·rename_i hc;simp only[dE,dQ]at hc;simp only[dO]at hd;obtain⟨cs,hb,hd⟩:=hd;injection hd with e1 e2;subst e1 e2
    have hps:=a1h parts.toList fun x hx=>hV x.2 (by simp only[Op.operands,jK,dS];exact⟨x,hx,rfl⟩);obtain⟨r',hr',hall⟩:=c0C hps (fun x hx=>by simp only[dQ];exact hc.2 x hx) (fun z hz=>by have:=hc.1;rw[hz]at this;simpa using this) hb;have hparts:(parts.map fun(i,x)=>(i,a.eval x)).toList=(parts.toList.map fun(i,x)=>(i,a.eval x)):=by simp
    have hrun:=run_build (P:=P) w t (parts.map fun(i,x)=>(i,a.eval x)) r' (by rw[hparts];exact hr');exact OpOk.mem (by simp only[execOp,dL,hrun,dH,dP]) (.refl h) (.v1 (.agg hall))
   ·cases hd
 | buildSlice t len parts=>
   exact a6i h (a1h parts.toList fun x hx=>hV x.2 (by simp only[Op.operands,jK,dS];exact⟨x,hx,rfl⟩)) hd
 | makeSlice t n c=>
   have h1:=(hV n (by simp[Op.operands]));have h2:=(hV c (by simp[Op.operands]));exact a8f h h1 h2 hd
 | load t x=>
   simp only[opD,dO]at hd;obtain⟨r,hl,hd⟩:=hd;injection hd with e1 e2;subst e1 e2
   obtain⟨r',hr,hv⟩:=b6e h hl (hV x (by simp[Op.operands]));exact OpOk.mem (by simp only[execOp,dL,hr,dH,dP]) (.refl h) hv
 | store t x y=>
   simp only[opD,dO]at hd;obtain⟨H1,hs,hd⟩:=hd;injection hd with e1 e2;subst e1 e2
   obtain⟨w',hr,hp⟩:=c1A h hs (hV x (by simp[Op.operands])) (hV y (by simp[Op.operands]));exact⟨ρ,undef,.skip,w',by simp only[execOp,dL,hr,dH,dP],.inr ⟨rfl,rfl⟩,hp,.undef⟩
 | nilCheck x=>
   simp only[opD]at hd;have hv:=hV x (by simp[Op.operands]);split at hd
   ·rename_i ad hx;injection (dC hd)with e1 e2;subst e1 e2
    rw[hx]at hv;obtain⟨b,hb⟩:=hv.bf;rw[hb]at hv;exact OpOk.mem (by simp only[execOp,hb,dP]) (.refl h) hv
   ·rename_i f b c hx;injection (dC hd)with e1 e2;subst e1 e2
    rw[hx]at hv;obtain⟨b',c',hb,_⟩:=hv.bg;rw[hb]at hv;exact OpOk.mem (by simp only[execOp,hb,dP]) (.refl h) hv
   ·cases hd
 | fieldAddr s x f=>
   simp only[opD]at hd;have hv:=hV x (by simp[Op.operands]);split at hd
   ·rename_i A i e hx;simp only[dF]at hd;obtain⟨fd,hf,n,hn,hd⟩:=hd;split at hd
    ·cases hd
    ·rename_i hn0;simp only[beq_iff_eq]at hn0;injection (dC hd)with e1 e2;subst e1 e2
     rw[hx]at hv;obtain⟨p,hp,h0,hb⟩:=hv.aI;obtain⟨fs,hu,hfs⟩:=a3h hf;have hrun:(Instr.fieldAt s (a.eval x) f).run P w=.ok (.pointer (some ⟨p.b,p.at i+fd.offset,none⟩)) w:=by
      unfold Instr.fieldAt;simp only[dL,run_underlying hu,dH,hfs,hb,Instr.sureAddr,dP,fieldPlace,lP hn];simp[hn0,pR]
     refine OpOk.mem (v':=.pointer (some ⟨p.b,p.at i+fd.offset,none⟩)) (by simp only[execOp,dL,hrun,dH,dP]) (.refl h) ?_;rw[←xT h0];exact .v1 (.c1 (.c0 (.ptr hp (by omega))))
   ·cases hd
 | indexAddr t x ix=>
   simp only[opD]at hd;have hv:=hV x (by simp[Op.operands]);have hvi:=hV ix (by simp[Op.operands]);split at hd
   ·rename_i elem A i e n c k j hu hx hi;simp only[dF]at hd;obtain⟨size,hs,hd⟩:=hd;split at hd
    ·rename_i hc;simp only[dE,decide_eq_true_eq]at hc;injection (dC hd)with e1 e2;subst e1 e2
     rw[hx]at hv;rw[hi]at hvi;obtain⟨p,c',ad,hp,h0,hin,hnc,ha,hck,hb⟩:=hv.az;obtain⟨ha,hsz⟩:ad=⟨p.b,p.at i,none⟩∧p.at i+c'*p.k≤p.sz:=by
      rcases ha with ha|ha
      ·exact ha
      ·omega
     subst ha;have hrun:(Instr.indexAt t (a.eval x) (a.eval ix)).run P w=.ok (.pointer (some ⟨p.b,p.at i+j.toNat*size,none⟩)) w:=by
      unfold Instr.indexAt;simp only[hb,hvi.aH,asIntOf,dL,dP,dH,run_underlying hu];simp[hc,pR,lP hs]
     refine OpOk.mem (v':=.pointer (some ⟨p.b,p.at i+j.toNat*size,none⟩)) (by simp only[execOp,dL,hrun,dH,dP]) (.refl h) ?_;rw[←xT h0];exact .v1 (.c1 (.c0 (.ptr hp (by
      have:0≤j.toNat*size:=fb _
      omega))))
    ·cases hd
   ·rename_i n elem A i e k j hu hx hi;simp only[dF]at hd;obtain⟨size,hs,hd⟩:=hd;split at hd
    ·rename_i hc;simp only[dE,decide_eq_true_eq]at hc;injection (dC hd)with e1 e2;subst e1 e2
     rw[hx]at hv;rw[hi]at hvi;obtain⟨p,hp,h0,hb⟩:=hv.aI;have hrun:(Instr.indexAt t (a.eval x) (a.eval ix)).run P w=.ok (.pointer (some ⟨p.b,p.at i+j.toNat*size,none⟩)) w:=by
      unfold Instr.indexAt;simp only[hb,hvi.aH,asIntOf,Instr.sureAddr,dL,dP,dH,run_underlying hu];simp[hc,pR,lP hs]
     refine OpOk.mem (v':=.pointer (some ⟨p.b,p.at i+j.toNat*size,none⟩)) (by simp only[execOp,dL,hrun,dH,dP]) (.refl h) ?_;rw[←xT h0];exact .v1 (.c1 (.c0 (.ptr hp (by
      have:0≤j.toNat*size:=fb _
      omega))))
    ·cases hd
   ·rename_i n elem A i k j hu hx hi;simp only[dF]at hd;obtain⟨size,hs,hd⟩:=hd;split at hd
    ·rename_i hc;simp only[dE,decide_eq_true_eq]at hc;injection (dC hd)with e1 e2;subst e1 e2
     rw[hx]at hv;rw[hi]at hvi;have hb:=hv.bA;have hrun:(Instr.indexAt t (a.eval x) (a.eval ix)).run P w=.ok (.pointer (some ⟨A,i+j.toNat*size,none⟩)) w:=by
      unfold Instr.indexAt;simp only[hb,hvi.aH,asIntOf,Instr.sureAddr,dL,dP,dH,run_underlying hu];simp[hc,pR,lP hs]
     exact OpOk.mem (v':=.pointer (some ⟨A,i+j.toNat*size,none⟩)) (by simp only[execOp,dL,hrun,dH,dP]) (.refl h) (.v1 (.c1 (.c0 (.glob _ _))))
    ·cases hd
   ·cases hd
 | extract t i=>
   simp only[opD]at hd;have hv:=hV t (by simp[Op.operands]);split at hd
   ·rename_i vs hx;simp only[dO]at hd;obtain⟨r,hr,hd⟩:=hd;injection hd with e1 e2;subst e1 e2
    rw[hx]at hv;cases hva:a.eval t with
    | tuple vs'=>
      rw[hva]at hv;obtain⟨r',hr',hrel⟩:=hv.bN i r hr;exact OpOk.mem (by simp only[execOp,hva,Instr.extract,hr',dL,dP,dH]) (.refl h) (.v1 hrel)
    | _=>rw[hva]at hv;exact hv.bO.elim
   ·cases hd
 | makeFunc fn first captured=>
   simp only[opD]at hd;split at hd
   ·rename_i f;split at hd
    ·rename_i hc;injection (dC hd)with e1 e2;subst e1 e2
     simp only[dQ,gP,ez]at hc;have h1:∀x∈first.toList,V ρ (ev l x) (a.eval x):=fun x hx=>hV x (by simp[Op.operands];exact .inl (by simpa using hx));have h2:∀x∈captured.toList,V ρ (ev l x) (a.eval x):=fun x hx=>hV x (by simp[Op.operands];exact .inr (by simpa using hx));refine OpOk.mem (v':=.func (.func f) (first.map a.eval) (captured.map a.eval)) (by simp only[execOp,Instr.makeFunc,dL,dP,dH]) (.refl h) (.v1 (.c1 (.fn ?_ ?_)))
     ·simpa using All2.captured first.toList h1 fun x hx=>hc x (.inl hx)
     ·simpa using All2.captured captured.toList h2 fun x hx=>hc x (.inr hx)
    ·cases hd
   ·cases hd
 | unOp op t x=>
   simp only[opD]at hd;split at hd
   ·rename_i b hx;injection (dC hd)with e1 e2;subst e1 e2
    have hv:=hV x (by simp[Op.operands]);rw[hx]at hv;exact OpOk.mem (by simp only[execOp,hv.aG,Op.unary,dL,dP,dH]) (.refl h) (.of_flat rfl)
   ·exact oJ h hV (by simp) hd
 | convert s t x=>
   have hv:=hV x (by simp[Op.operands]);simp only[opD]at hd;split at hd
   ·exact oJ h hV (by simp) hd
   ·split at hd
    ·rename_i A i e n c hx;split at hd
     ·rename_i hc;simp only[dE]at hc;simp only[dO,dF]at hd;obtain⟨r,⟨l,hl,b,hb,rfl⟩,hd⟩:=hd;injection hd with e1 e2;subst e1 e2
      rw[hx]at hv;have hrun:=a1R h hc.1 hc.2 hl hb hv;exact OpOk.mem (by simp only[execOp,dL,hrun,dH,dP]) (.refl h) (.of_flat rfl)
     ·cases hd
    ·rename_i b hx;split at hd
     ·rename_i hc;simp only[dE]at hc;simp only[dF]at hd;obtain⟨elem,he,hd⟩:=hd;injection (dC hd)with e1 e2;subst e1 e2
      rw[hx]at hv;obtain⟨ρ',r',w',hrun,hp,hvr⟩:=a2E h hc.1.2 hc.1.1 he hv;exact OpOk.mem (by simp only[execOp,dL,hrun,dH,dP]) hp hvr
     ·cases hd
    ·rename_i A e hx;split at hd
     ·rename_i hk;injection (dC hd)with e1 e2;subst e1 e2
      rw[hx]at hv;have hrun:=b3l h hk hv;exact OpOk.mem (by simp only[execOp,dL,hrun,dH,dP]) (.refl h) hv
     ·cases hd
    ·cases hd
 | index t x y=>
   simp only[opD]at hd;split at hd
   ·exact oJ h hV (by simp) hd
   ·have hvx:=hV x (by simp[Op.operands]);have hvy:=hV y (by simp[Op.operands]);simp only[dO]at hd;obtain⟨r,hr,hd⟩:=hd;injection hd with e1 e2;subst e1 e2
    unfold a3I at hr;split at hr
    ·rename_i n elem cs k j hu hx hy;split at hr
     ·rename_i hc;obtain⟨hagg,hsz,h0,hj⟩:=hc;rw[hx]at hvx;rw[hy]at hvy;obtain⟨cs',hb,hall⟩:=hvx.bI;have hi:=hvy.aH;obtain⟨r',hr',hrel⟩:=hall.get j.toNat r (by simpa using hr);have hr2:cs'[j.toNat]? =some r':=by simpa using hr'
      have hrun:(Instr.index t (a.eval x) (a.eval y)).run P w=.ok r' w:=by
       unfold Instr.index part;simp only[dL,run_underlying hu,dH,hb,hi,asIntOf,dP];simp[lP hsz,h0,hj,hr2,tP hagg]
      exact OpOk.mem (by simp only[execOp,dL,hrun,dH,dP]) (.refl h) (.v1 (.c1 hrel))
     ·cases hr
    ·cases hr
 | makeInterface t x=>simp only[opD]at hd;exact oJ h hV (by simp) hd
 | slice t x lo hi mx=>
   cases mx with
   | some _=>simp only[opD]at hd;cases hd
   | none=>
     simp only[opD]at hd;split at hd
     ·exact oJ h hV (by simp) hd
     ·have hlo:b1F ρ (lo.map (ev l)) (lo.map a.eval):=by cases lo with|none=>trivial|some y=>exact hV y (by simp[Op.operands])
      have hhi:b1F ρ (hi.map (ev l)) (hi.map a.eval):=by cases hi with|none=>trivial|some y=>exact hV y (by simp[Op.operands])
      split at hd
      ·rename_i n elem ht;simp only[dO]at hd;obtain⟨r,hr,hd⟩:=hd;injection hd with e1 e2;subst e1 e2
       obtain⟨r',hrun,hv⟩:=b8b h ht hr (hV x (by simp[Op.operands])) hlo hhi;exact OpOk.mem (by simp only[execOp,Option.map_none,dL,hrun,dH,dP]) (.refl h) hv
      ·simp only[dO]at hd;obtain⟨r,hr,hd⟩:=hd;injection hd with e1 e2;subst e1 e2
       obtain⟨r',hrun,hv⟩:=b6P h hr (hV x (by simp[Op.operands])) hlo hhi;exact OpOk.mem (by simp only[execOp,Option.map_none,dL,hrun,dH,dP]) (.refl h) hv
 | field t x f=>
   simp only[opD]at hd;split at hd
   ·exact oJ h hV (by simp) hd
   ·have hv:=hV x (by simp[Op.operands]);split at hd
    ·rename_i cs hx;simp only[dF]at hd;obtain⟨fd,hf,hd⟩:=hd;obtain⟨fs,hu,hfs⟩:=a3h hf;rw[hx]at hv;obtain⟨cs',hb,hall⟩:=hv.bI;split at hd
     ·rename_i hagg;simp only[dO]at hd;obtain⟨n,hn,hd⟩:=hd;injection hd with e1 e2;subst e1 e2
      have hrun:(Instr.field t (a.eval x) f).run P w=.ok (.agg (cs'.extract fd.offset (fd.offset+n))) w:=by
       unfold Instr.field part;simp only[dL,run_underlying hu,dH,hfs,hb,asAgg,dP,tP hagg];simp[lP hn]
      refine OpOk.mem (v':=.agg (cs'.extract fd.offset (fd.offset+n))) (by simp only[execOp,dL,hrun,dH,dP]) (.refl h) (.v1 (.agg ?_));simp only[Array.toList_extract];exact hall.extract _ _
     ·rename_i hagg;simp only[dO]at hd;obtain⟨r,hr,hd⟩:=hd;injection hd with e1 e2;subst e1 e2
      obtain⟨r',hr',hrel⟩:=hall.get fd.offset r (by simpa using hr);have hr2:cs'[fd.offset]? =some r':=by simpa using hr'
      have hrun:(Instr.field t (a.eval x) f).run P w=.ok r' w:=by
       unfold Instr.field part;simp only[dL,run_underlying hu,dH,hfs,hb,asAgg,dP,tP hagg];simp[hr2]
      exact OpOk.mem (by simp only[execOp,dL,hrun,dH,dP]) (.refl h) (.v1 (.c1 hrel))
     ·cases hd
    ·cases hd
 | binOp op t x y yt=>
   have hvx:=hV x (by simp[Op.operands]);have hvy:=hV y (by simp[Op.operands]);simp only[opD]at hd;split at hd
   ·rename_i ad n c hx hy;split at hd
    ·rename_i hc;injection (dC hd)with e1 e2;subst e1 e2
     rw[hx]at hvx;rw[hy]at hvy;obtain⟨elem,hu⟩:=a1d hc;have hy':a.eval y=.slice none 0 0:=hvy.ai rfl;rcases hvx.aA with⟨hh,_⟩|⟨A,j,e,p,c',ad2,hh,_,_,_,_,_,_,hx'⟩
     ·cases hh
     ·have hrun:(do eqGuard .eql t x y (a.eval x) (a.eval y);binOp .eql t (a.eval x) (a.eval y):Sem Value).run P w=.ok (.bool false) w:=by
       rw[hx',hy'];simp[eqGuard,binOp,run_equal_slice_nil w t elem (some ad2) n c' hu]
      simp only[dL]at hrun;exact OpOk.mem (v':=.bool false) (by simp only[execOp,dL,hrun,dH,dP]) (.refl h) (.of_flat rfl)
    ·cases hd
   ·rename_i ad n c hx hy;split at hd
    ·rename_i hc;injection (dC hd)with e1 e2;subst e1 e2
     rw[hx]at hvx;rw[hy]at hvy;obtain⟨elem,hu⟩:=a1d hc;have hy':a.eval y=.slice none 0 0:=hvy.ai rfl;rcases hvx.aA with⟨hh,_⟩|⟨A,j,e,p,c',ad2,hh,_,_,_,_,_,_,hx'⟩
     ·cases hh
     ·have hrun:(do eqGuard .neq t x y (a.eval x) (a.eval y);binOp .neq t (a.eval x) (a.eval y):Sem Value).run P w=.ok (.bool true) w:=by
       rw[hx',hy'];simp[eqGuard,binOp,run_equal_slice_nil w t elem (some ad2) n c' hu]
      simp only[dL]at hrun;exact OpOk.mem (v':=.bool true) (by simp only[execOp,dL,hrun,dH,dP]) (.refl h) (.of_flat rfl)
    ·cases hd
   ·rename_i k i k' j hx hy;split at hd
    ·rename_i hk;subst hk;split at hd
     ·rename_i r hb;injection (dC hd)with e1 e2;subst e1 e2
      rw[hx]at hvx;rw[hy]at hvy;obtain⟨hrun,hfl⟩:=c4V (P:=P) hb t x y w;simp only[dL]at hrun;exact OpOk.mem (by simp only[execOp,hvx.aH,hvy.aH,dL,hrun,dH,dP]) (.refl h) (.of_flat hfl)
     ·exact oJ h hV (by simp) hd
    ·exact oJ h hV (by simp) hd
   ·rename_i ad hx hy;split at hd
    ·rename_i hc;injection (dC hd)with e1 e2;subst e1 e2
     rw[hx]at hvx;rw[hy]at hvy;have hrun:=(a7G (P:=P) (w:=w) hc x y hvx hvy).1;simp only[dL]at hrun;exact OpOk.mem (v':=.bool false) (by simp only[execOp,dL,hrun,dH,dP]) (.refl h) (.of_flat rfl)
    ·cases hd
   ·rename_i ad hx hy;split at hd
    ·rename_i hc;injection (dC hd)with e1 e2;subst e1 e2
     rw[hx]at hvx;rw[hy]at hvy;have hrun:=(a7G (P:=P) (w:=w) hc x y hvx hvy).2;simp only[dL]at hrun;exact OpOk.mem (v':=.bool true) (by simp only[execOp,dL,hrun,dH,dP]) (.refl h) (.of_flat rfl)
    ·cases hd
   ·rename_i A i e A' i' e' hx hy;split at hd
    ·rename_i hc;simp only[dE,beq_iff_eq]at hc;obtain⟨⟨⟨hc,rfl⟩,rfl⟩,rfl⟩:=hc;injection (dC hd)with e1 e2;subst e1 e2
     rw[hx]at hvx;rw[hy]at hvy;have hrun:=(a5d (P:=P) (w:=w) hc x y hvx hvy).1;simp only[dL]at hrun;exact OpOk.mem (v':=.bool true) (by simp only[execOp,dL,hrun,dH,dP]) (.refl h) (.of_flat rfl)
    ·cases hd
   ·rename_i A i e A' i' e' hx hy;split at hd
    ·rename_i hc;simp only[dE,beq_iff_eq]at hc;obtain⟨⟨⟨hc,rfl⟩,rfl⟩,rfl⟩:=hc;injection (dC hd)with e1 e2;subst e1 e2
     rw[hx]at hvx;rw[hy]at hvy;have hrun:=(a5d (P:=P) (w:=w) hc x y hvx hvy).2;simp only[dL]at hrun;exact OpOk.mem (v':=.bool false) (by simp only[execOp,dL,hrun,dH,dP]) (.refl h) (.of_flat rfl)
    ·cases hd
   ·exact oJ h hV (by simp) hd
 | call c=>
   obtain⟨callee,args,argTypes⟩:=c;have hargs:∀x∈args,V ρ (ev l x) (a.eval x):=fun x hx=>hV x (by simp[Op.operands,Call.operands];exact .inr hx);simp only[opD]at hd;split at hd
   ·
    split at hd
    ·rename_i hc;simp only[dE,beq_iff_eq]at hc;obtain⟨y,rfl⟩:=yJ hc.1;obtain⟨t,rfl⟩:=yJ hc.2;have hv:=hargs y (by simp);have e1:(#[t]:Array TypeId).getD 0 0=t:=rfl;have e2:(#[y]:Array Operand).getD 0 (.tmp 0)=y:=rfl;rw[e1,e2]at hd;split at hd
     all_goals first
      | cases hd;done
      | (rename_i hu hx
         simp only[dO]at hd;obtain⟨r,hr,hd⟩:=hd;injection hd with e3 e4;subst e3 e4
         rw[hx]at hv;obtain⟨hrun,hfl⟩:=c9j h hu hv hr trivial type;exact OpOk.mem (by simp[execOp,resolve,invoke,builtin,hrun]) (.refl h) (.of_flat hfl))
    ·cases hd
   ·
    split at hd
    ·rename_i hc;simp only[dE,beq_iff_eq]at hc;obtain⟨y,z,rfl⟩:=a0k hc.1.1;obtain⟨t,u,rfl⟩:=a0k hc.1.2;have e1:(#[t,u]:Array TypeId).getD 0 0=t:=rfl;have e2:(#[y,z]:Array Operand).getD 0 (.tmp 0)=y:=rfl;have e3:(#[y,z]:Array Operand).getD 1 (.tmp 0)=z:=rfl;have e4:(#[t,u]:Array TypeId).getD 1 0=u:=rfl;rw[e1,e2,e3]at hd;have hn:=hc.2;rw[e4]at hn;obtain⟨d,hu,hni⟩:=dO.1 hn;obtain⟨ρ',r',w',hrun,hp,hv⟩:=b3Y h type hd hu hni (hargs y (by simp)) (hargs z (by simp));exact OpOk.mem (by simp[execOp,resolve,invoke,builtin,hrun]) hp hv
    ·cases hd
   ·
    split at hd
    ·rename_i hc;simp only[dE,beq_iff_eq]at hc;obtain⟨y,z,rfl⟩:=a0k hc.1;obtain⟨t,u,rfl⟩:=a0k hc.2;have e1:(#[t,u]:Array TypeId).getD 0 0=t:=rfl;have e2:(#[y,z]:Array Operand).getD 0 (.tmp 0)=y:=rfl;have e3:(#[y,z]:Array Operand).getD 1 (.tmp 0)=z:=rfl;rw[e1,e2,e3]at hd;obtain⟨r',w',hrun,hp,hv⟩:=c0m (xt:=u) h type hd (hargs y (by simp)) (hargs z (by simp));exact OpOk.mem (by simp[execOp,resolve,invoke,builtin,hrun]) hp hv
    ·cases hd
   ·
    split at hd
    ·rename_i hc;simp only[dE,beq_iff_eq]at hc;obtain⟨y,rfl⟩:=yJ hc.1;obtain⟨t,rfl⟩:=yJ hc.2;have e1:(#[t]:Array TypeId).getD 0 0=t:=rfl;have e2:(#[y]:Array Operand).getD 0 (.tmp 0)=y:=rfl;rw[e1,e2]at hd;obtain⟨r',w',hrun,hp,hv⟩:=b8V h type hd (hargs y (by simp));exact OpOk.mem (by simp[execOp,resolve,invoke,builtin,hrun]) hp hv
    ·cases hd
   ·exact oJ h hV (by simp) hd
   ·
    split at hd
    ·rename_i hc;simp only[dE,beq_iff_eq]at hc;obtain⟨y,rfl⟩:=yJ hc.1;obtain⟨t,rfl⟩:=yJ hc.2;have e2:(#[y]:Array Operand).getD 0 (.tmp 0)=y:=rfl;rw[e2]at hd;split at hd
     ·rename_i ad n k hx;split at hd
      ·cases hd
      ·rename_i hn0;simp only[beq_iff_eq]at hn0;injection (dC hd)with e3 e4;subst e3 e4
       have hv:=hargs y (by simp);rw[hx]at hv;rcases hv.aA with⟨hh,_⟩|⟨A,j,e,p,c',ad2,hh,hp,h0,hin,⟨hnc,_⟩,ha,_,hx'⟩
       ·cases hh
       ·obtain rfl:=dC hh;obtain⟨rfl,_⟩:ad2=⟨p.b,p.at j,none⟩∧p.at j+c'*p.k≤p.sz:=by
         rcases ha with ha|ha
         ·exact ha
         ·exact absurd ha.1 hn0
        have hc0:c'≠0:=by omega
        have hrun:(Builtin.unsafeSliceData_ #[t] type #[a.eval y]).run P w=.ok (.pointer (some ⟨p.b,p.at j,none⟩)) w:=by
         rw[hx'];exact Go.Lib.run_unsafeSliceData_row w #[t] type _ n c' hc0
        exact OpOk.mem (by simp[execOp,resolve,invoke,builtin,hrun]) (.refl h) (.v1 (.c1 (.c0 (.ptr hp h0))))
     ·cases hd
    ·cases hd
   ·
    split at hd
    ·rename_i hc;simp only[dE,beq_iff_eq]at hc;obtain⟨y,z,rfl⟩:=a0k hc.1;obtain⟨t,u,rfl⟩:=a0k hc.2;have e1:(#[t,u]:Array TypeId).getD 0 0=t:=rfl;have e2:(#[y,z]:Array Operand).getD 0 (.tmp 0)=y:=rfl;have e3:(#[y,z]:Array Operand).getD 1 (.tmp 0)=z:=rfl;rw[e1,e2,e3]at hd;obtain⟨w',hrun,hp,hfl⟩:=b6w (it:=u) (ty:=type) h hd (hargs y (by simp)) (hargs z (by simp));exact OpOk.mem (by simp[execOp,resolve,invoke,builtin,hrun]) hp (.of_flat hfl)
    ·cases hd
   ·exact oJ h hV (by simp) hd
   ·exact oJ h hV (by simp) hd
   ·cases hd
 | makeMap t r=>
   simp only[opD]at hd;obtain⟨ρ',v',w',hrun,hp,hv⟩:=b4L (r':=r.map a.eval) h hd (by
    cases r with
    | none=>trivial
    | some x=>exact hV x (by simp[Op.operands]))
   exact OpOk.mem (by simp only[execOp,dL,hrun,dH,dP]) hp hv
 | lookup t x y c=>
   simp only[opD,dO]at hd;obtain⟨r,hl,hd⟩:=hd;injection hd with e1 e2;subst e1 e2
   obtain⟨r',hr,hv⟩:=b7Q h hl (hV x (by simp[Op.operands])) (hV y (by simp[Op.operands]));exact OpOk.mem (by simp only[execOp,dL,hr,dH,dP]) (.refl h) hv
 | mapUpdate t m x y=>
   simp only[opD,dO]at hd;obtain⟨H1,hs,hd⟩:=hd;injection hd with e1 e2;subst e1 e2
   obtain⟨w',hrun,hp⟩:=c0K h hs (hV m (by simp[Op.operands])) (hV x (by simp[Op.operands])) (hV y (by simp[Op.operands]));exact⟨ρ,undef,.skip,w',by simp only[execOp,dL,hrun,dH,dP],.inr ⟨rfl,rfl⟩,hp,.undef⟩
 | insert t m x y=>
   simp only[opD,dO]at hd;obtain⟨H1,hs,hd⟩:=hd;injection hd with e1 e2;subst e1 e2
   obtain⟨w',hrun,hp⟩:=c0K h hs (hV m (by simp[Op.operands])) (hV x (by simp[Op.operands])) (hV y (by simp[Op.operands]));exact⟨ρ,undef,.skip,w',by simp only[execOp,dL,hrun,dH,dP],.inr ⟨rfl,rfl⟩,hp,.undef⟩
 | mapEntry t m x=>
   simp only[opD]at hd;obtain⟨v',w',hrun,hp,hv⟩:=c2X h hd (hV m (by simp[Op.operands])) (hV x (by simp[Op.operands]));exact OpOk.mem (by simp only[execOp,dL,hrun,dH,dP]) hp hv
 | entryStore t m x y=>
   simp only[opD,dO]at hd;obtain⟨H1,hs,hd⟩:=hd;injection hd with e1 e2;subst e1 e2
   obtain⟨w',hrun,hp⟩:=c0o (t:=t) h hs (hV m (by simp[Op.operands])) (hV x (by simp[Op.operands])) (hV y (by simp[Op.operands]));exact⟨ρ,undef,.skip,w',by simp only[execOp,dL,hrun,dH,dP],.inr ⟨rfl,rfl⟩,hp,.undef⟩
 | _=>simp only[opD]at hd;cases hd
end
section
variable {P:Program} {ρ:Rho} {H:Heap} {w:World}
def fe(ro:Option Nat):Fence:={fn:=λ_=>True,depth:=none,alive:=false,round:=ro}
theorem a1r(ro:Option Nat){p:Prop}:(fe ro).depth.isSome=true->p:=λh=>by cases h
def Marks(B:Nat)(w:World)(ds:List Deferred):Prop:=∃rs:List Nat,ds.map (·.target)=rs.map Target.collected∧rs.Nodup∧∀r∈rs,B<=r∧w.heap[r]? =some (.deferred (some []))
def LoopAt(ro:Option Nat)(w:World):Prop:=∀l,ro=some l->∃r,w.heap[l]? =some (Obj.loop r)
theorem d0b(h:HRel P ρ H w){b:Nat}{ds:Option (List Deferred)}(hb:w.heap[b]? =some (.deferred ds)):¬Wr ρ H b:=by rintro⟨A,e,p,blk,hp,rfl,hg,hwr⟩;cases blk with| cells cs ty rw lo ver=>obtain⟨_,_,_,cur,ty',fr,hw,_⟩:=(h.cells _ _ _ _ _ _ hg).2 _ _ hp;rw[hw]at hb;cases hb| map es ck ver=>have he:e=0:=(h.one _ _ _ _ hp hg).resolve_left (by simp[Blk.aK]);subst he;obtain⟨q,es',hq,hw,_⟩:=h.map _ _ _ _ hg;rw[hp]at hq;obtain rfl:=dC hq;rw[hw]at hb;cases hb| loop r=>have he:e=0:=(h.one _ _ _ _ hp hg).resolve_left (by simp[Blk.aK]);subst he;obtain⟨q,es',hq,hw,_⟩:=h.loop _ _ hg;rw[hp]at hq;obtain rfl:=dC hq;rw[hw]at hb;cases hb
theorem b2Y(h:HRel P ρ H w){b:Nat}{ds:Option (List Deferred)}(hb:w.heap[b]? =some (.deferred ds)){A e:Nat}{p:Place}(hp:ρ A e=some p):p.b≠b:=by
 intro hpb;subst hpb;have hA:=(h.dom _ _ _ hp).1;cases hg:kB H A with| none=>have:=h.full A hA;rw[hg]at this;cases this| some blk=>cases blk with| cells cs ty rw lo ver=>obtain⟨_,_,_,cur,ty',fr,hw,_⟩:=(h.cells _ _ _ _ _ _ hg).2 _ _ hp;rw[hw]at hb;cases hb| map es ck ver=>have he:e=0:=(h.one _ _ _ _ hp hg).resolve_left (by simp[Blk.aK]);subst he;obtain⟨q,es',hq,hw,_⟩:=h.map _ _ _ _ hg;rw[hp]at hq;obtain rfl:=dC hq;rw[hw]at hb;cases hb| loop r=>have he:e=0:=(h.one _ _ _ _ hp hg).resolve_left (by simp[Blk.aK]);subst he;obtain⟨q,es',hq,hw,_⟩:=h.loop _ _ hg;rw[hp]at hq;obtain rfl:=dC hq;rw[hw]at hb;cases hb
theorem Marks.post{ρ':Rho}{H':Heap}{w':World}{B:Nat}{ds:List Deferred}(h:Marks B w ds)(hr:HRel P ρ H w)(hp:Post P ρ H w ρ' H' w'):Marks B w' ds:=by obtain⟨rs,h1,h2,h3⟩:=h;exact⟨rs,h1,h2,λr hr'=>⟨(h3 r hr').1,by rw[(hp.frame r (oF (h3 r hr').2) (d0b hr (h3 r hr').2)).1];exact(h3 r hr').2⟩⟩
theorem LoopAt.post{ρ':Rho}{H':Heap}{w':World}{ro:Option Nat}(h:LoopAt ro w)(hp:Post P ρ H w ρ' H' w'):LoopAt ro w':=λl hl=>by obtain⟨r,hr⟩:=h l hl;exact hp.loops l r hr
theorem HRel.other{w':World}(h:HRel P ρ H w)(hsz:w.heap.size≤w'.heap.size)(hb:∀A e p,ρ A e=some p→w'.heap[p.b]? =w.heap[p.b]?):HRel P ρ H w' where
 dom A e p hp:=⟨(h.dom _ _ _ hp).1,dZ (h.dom _ _ _ hp).2 hsz⟩
 cells A cs ty rw lo ver hg:=⟨(h.cells _ _ _ _ _ _ hg).1,fun e p hp=>((h.cells _ _ _ _ _ _ hg).2 e p hp).world (.refl ρ) (hb _ _ _ hp)⟩
 map A es ck ver hg:=by obtain⟨p,es',hp,hw,ha⟩:=h.map _ _ _ _ hg;exact⟨p,es',hp,by rw[hb _ _ _ hp,hw],ha⟩
 loop A r hg:=by obtain⟨p,r',hp,hw,ha⟩:=h.loop _ _ hg;exact⟨p,r',hp,by rw[hb _ _ _ hp,hw],ha⟩
 one:=h.one
 excl:=h.excl
 full:=h.full
 glob:=h.glob
theorem Post.bh(h:HRel P ρ H w)(o:Obj):Post P ρ H w ρ H (w.alloc o) where
 le:=.refl ρ
 rel:=h.other (by simp) fun A e p hp=>kZ (h.dom _ _ _ hp).2
 len:=dJ _
 size:=by simp
 os:=rfl
 tape:=⟨rfl,dJ _⟩
 output:=rfl
 frame b hb hw:=⟨kZ hb,hw⟩
 loops b r hr:=⟨r,by rw[kZ (oF hr),hr]⟩
 img _ _ h:=h
theorem Post.bB{w0:World}{ρ0:Rho}{H0:Heap}(h:Post P ρ0 H0 w0 ρ H w){b:Nat}{ds:Option (List Deferred)}(hb:w.heap[b]? =some (.deferred ds))(hn:w0.heap.size<=b)(ds':Option (List Deferred)): Post P ρ0 H0 w0 ρ H (w.putObj b (.deferred ds')):=by
 (have hne:∀c,c≠b->(w.putObj b (.deferred ds')).heap[c]? =w.heap[c]?:=λc hc=>by simp only[World.putObj];rw[fK (fM hc)]);(have hsz:(w.putObj b (.deferred ds')).heap.size=w.heap.size:=by simp[World.putObj]);exact{le:=h.le,rel:=h.rel.other (by rw[hsz];exact dJ _) λA e p hp=>hne _ (b2Y h.rel hb hp),len:=h.len,size:=by rw[hsz];exact h.size,os:=h.os,tape:=h.tape,output:=h.output,frame:=λc hc hw=>⟨by rw[hne c (by omega)];exact(h.frame c hc hw).1,(h.frame c hc hw).2⟩,loops:=(λc r hr=>by obtain⟨r',hr'⟩:=h.loops c r hr;have:=oF hr;exact⟨r',by rw[hne c (by omega)];exact hr'⟩),img:=h.img}
def Ex.cz:Ex->Exit| .normal=>.normal| .exit id=>.exit id| .ret=>.ret
def QD(P:Program)(ρ:Rho)(H:Heap)(w:World)(B:Nat)(e:Ex)(l':List Value)(H':Heap):Exit->Act->World->Prop:=λe' a' w'=>e'=e.cz∧∃ρ',Post P ρ H w ρ' H' w'∧All2 (V ρ') l' a'.tmps.toList∧Marks B w' a'.defers
def Sim(P:Program)(c:Code)(l:List Value)(H:Heap)(e:Ex)(l':List Value)(H':Heap):Prop:=∀(ro:Option Nat)(k B:Nat)(ρ:Rho)(w:World)(a:Act),HRel P ρ H w->All2 (V ρ) l a.tmps.toList->LoopAt ro w->Marks B w a.defers->B<=w.heap.size->c.wpIn (fe ro) k P (QD P ρ H w B e l' H') a w
theorem QD.trans{ρ1:Rho}{H1:Heap}{w1:World}{B:Nat}{e:Ex}{l':List Value}{H':Heap}(hp:Post P ρ H w ρ1 H1 w1){e':Exit}{a':Act}{w':World}(h:QD P ρ1 H1 w1 B e l' H' e' a' w'):QD P ρ H w B e l' H' e' a' w':=by obtain⟨h1,ρ',h2,h3,h4⟩:=h;exact⟨h1,ρ',hp.trans h2,h3,h4⟩
def CallOk(P:Program)(f:FuncId)(args:List Value)(H:Heap)(v:Value)(H':Heap):Prop:=∀(k:Nat)(ρ:Rho)(w:World)(args':Array Value),HRel P ρ H w->All2 (V ρ) args args'.toList-> CallsIn (fe none) k P f args' w λe w'=>∃ρ' v',e=.returned v'∧Post P ρ H w ρ' H' w'∧V ρ' v v'
def b8Q(tm:Array Value):ResultVar->Sem Value| .tmp t=>Pure.pure (tm.getD t undef)| .cell a t=>do loadVar t (<-asAddr (tm.getD a undef))
theorem a8n(fn:Func)(tm:Array Value):results fn tm=(do let vs <-fn.results.mapM (b8Q tm);Pure.pure (if h:vs.size=1 then vs[0]else .tuple vs)):=rfl
theorem a2Y(h:HRel P ρ H w){l:List Value}{tm:Array Value}(hE:All2 (V ρ) l tm.toList):∀(rs:List ResultVar)(vs:List Value),pP P l H rs=some vs-> ∃vs',(rs.mapM (b8Q tm)).run P w=.ok vs' w∧All2 (V ρ) vs vs'| [],vs,hv=>by simp only[pP,eu]at hv;subst hv;exact⟨[],by simp,trivial⟩| r::rs,vs,hv=>by simp only[pP,dF,dO]at hv;obtain⟨v,hr,vs0,hrs,rfl⟩:=hv;obtain⟨vs',hrun,hall⟩:=a2Y h hE rs vs0 hrs;cases r with| tmp t=>simp only[a3J,eu]at hr;subst hr;exact⟨tm.getD t undef::vs',by simp only[List.mapM_cons,dL,b8Q,dP,dH,hrun],a5A hE t,hall⟩| cell a t=>simp only[a3J]at hr;obtain⟨r',hrun2,hv⟩:=b6e h hr (a5A hE a);have hva:=a5A hE a;(have hp:∃b,tm.getD a undef=.pointer (some b):=by unfold mU at hr;split at hr;(·rename_i heq;rw[heq]at hva;exact hva.bf);(·rename_i heq;rw[heq]at hva;exact hva.bf);·cases hr);obtain⟨b,hb⟩:=hp;rw[hb]at hrun2;(have hlv:(loadVar t b).run P w=.ok r' w:=by simpa [Instr.loadAt,Instr.sureAddr]using hrun2);refine⟨r'::vs',?_,hv,hall⟩;(have hone:(b8Q tm (.cell a t)).run P w=.ok r' w:=by simp only[b8Q,dL,hb,asAddr,dP,dH,hlv]);simp only[List.mapM_cons,dL,hone,dP,dH,hrun]
theorem V.bT{v v':Value}(h:V ρ v v')(hn:kL v=true):V1 ρ v v':=by cases h with| v1 h=>exact h| tuple h=>simp[kL]at hn
theorem b3o(h:HRel P ρ H w){fn:Func}{l:List Value}{tm:Array Value}(hE:All2 (V ρ) l tm.toList){v:Value}(hr:jS P fn l H=some v): ∃v',(results fn tm).run P w=.ok v' w∧V ρ v v':=by
 unfold jS at hr;simp only[dF]at hr;obtain⟨vs,hvs,hr⟩:=hr;obtain⟨vs',hrun,hall⟩:=a2Y h hE _ _ hvs;(have hm:(fn.results.mapM (b8Q tm)).run P w=.ok vs'.toArray w:=by rw[Array.mapM_eq_mapM_toList];simp only[Sem.run_map,hrun,dH]);rw[a8n];split at hr;(·rename_i x;obtain rfl:=dC hr;cases vs' with| nil=>exact hall.elim| cons y vs'=>cases vs' with| cons=>exact hall.2.elim| nil=>refine⟨y,?_,hall.1⟩;simp only[dL];rw[hm];simp);·rename_i hne;split at hr;(·rename_i hnt;obtain rfl:=dC hr;refine⟨.tuple vs'.toArray,?_,.tuple ?_⟩;(·simp only[dL];rw[hm];have hlen:=hall.length;(have:¬vs'.toArray.size=1:=by intro h1;(have:vs.length=1:=by rw[hlen];simpa using h1);obtain⟨x,hx⟩:=List.length_eq_one_iff.1 this;exact hne x hx);simp only[dH,dP,dif_neg this]);·(have key:∀{a b:List Value},All2 (V ρ) a b->a.all kL=true->All2 (V1 ρ) a b:=by intro a;induction a with| nil=>intro b h _;(cases b with|nil=>trivial|cons=>exact h.elim)| cons x a ih=>intro b h hs;cases b with| nil=>exact h.elim| cons y b=>simp only[gu,dE]at hs;exact⟨h.1.bT hs.1,ih h.2 hs.2⟩);simpa using key hall hnt);·cases hr
theorem a2V{fn:Func}{tm:Array Value}{k B:Nat}{R:Ending->World->Prop}{w0:World}{ρ0:Rho}{H0:Heap}{v:Value}{l:List Value}(hE:All2 (V ρ) l tm.toList)(hr:jS P fn l H=some v)(hB:w0.heap.size<=B) (hR:∀w2 v',Post P ρ0 H0 w0 ρ H w2->V ρ v v'->R (.returned v') w2):∀(ds:List Deferred)(w1:World),Post P ρ0 H0 w0 ρ H w1->Marks B w1 ds->LeavesInM (fe none) k P fn tm R ds .returning w1| [],w1,hp,_=>by obtain⟨v',hrun,hv⟩:=b3o hp.rel hE hr;exact⟨v',hrun,hR _ _ hp hv⟩| d::ds,w1,hp,⟨rs,h1,h2,h3⟩=>by cases rs with| nil=>simp at h1| cons r rs=>simp only[eL,gy]at h1;obtain⟨hd,hds⟩:=h1;have hb:=h3 r (by simp);refine⟨by simp,.inl ⟨r,_,hd,run_takeDeferred hb.2,?_⟩⟩;refine a2V hE hr hB hR ds _ (hp.bB hb.2 (ey hB hb.1) none) ⟨rs,hds,(ju.1 h2).2,λq hq=>⟨(h3 q (by simp[hq])).1,?_⟩⟩;have hne:q≠r:=λe=>(ju.1 h2).1 (e▸hq);simp only[World.putObj];rw[fK (fM hne)];exact(h3 q (by simp[hq])).2
theorem b1W{ex:Run}(hex:∀c l H e l' H',ex c l H=some (e,l',H')->Sim P c l H e l' H'){f:FuncId}{args:List Value}{v:Value}{H':Heap}(hc:callF P ex f args H=some (v,H')):CallOk P f args H v H':=by
 intro k ρ w args' hr ha;unfold callF at hc;split at hc;(·rename_i fn hf;split at hc;(·rename_i c hb;split at hc;(·cases hc);·rename_i hname;have hlen:=ha.length;(have hE:All2 (V ρ) (args++List.replicate (fn.ntmps-args.length) undef) ({tmps:=args'++Array.replicate (fn.ntmps-args'.size) undef,defers:=[]}:Act).tmps.toList:=by simp only[gP,Array.toList_replicate];refine ha.append ?_;(have:args'.size=args.length:=by simpa using hlen.symm);rw[this];exact All2.same λx hx=>by rw[List.mem_replicate]at hx;rw[hx.2];exact .undef);(have key:∀e l1 H1,ex c (args++List.replicate (fn.ntmps-args.length) undef) H=some (e,l1,H1)->(e=.normal∨e=.ret)->(jS P fn l1 H1).map (λv=>(v,H1))=some (v,H')-> CallsIn (fe none) k P f args' w λe w'=>∃ρ' v',e=.returned v'∧Post P ρ H w ρ' H' w'∧V ρ' v v':=λe l1 H1 he hen hres=>by simp only[dO]at hres;obtain⟨v0,hv0,hq⟩:=hres;injection hq with e1 e2;subst e1 e2;refine callsIn_of_wp_marks hf hb trivial ?_ rfl;refine wpIn_mono (hex _ _ _ _ _ _ he none k w.heap.size ρ w _ hr hE (λ_ h=>by cases h) ⟨[],rfl,List.nodup_nil,by simp⟩ (dJ _)) ?_;rintro e' a' w'⟨he',ρ',hp,hE',hM⟩;have hl:=a2V (P:=P) (fn:=fn) (k:=k) (R:=λe w'=>∃ρ' v',e=.returned v'∧Post P ρ H w ρ' H1 w'∧V ρ' v0 v') hE' hv0 (dJ _) (λw2 v' hp2 hv=>⟨ρ',v',rfl,hp2,hv⟩) a'.defers w' hp hM;rcases hen with rfl|rfl;(·subst he';exact hl);·subst he';exact hl);split at hc;(·rename_i l1 H1 he;exact key _ _ _ he (.inl rfl) hc);(·rename_i l1 H1 he;exact key _ _ _ he (.inr rfl) hc);·cases hc);·cases hc)
 ·cases hc
end
section
variable {P:Program} {ρ:Rho} {H:Heap} {w:World}
theorem Post.bq(h:HRel P ρ H w){L:Nat}{r r0:Loop}{p:Place}{r' r0':Loop}(hg:kB H L=some (.loop r0))(hp:ρ L 0=some p)(hw:w.heap[p.b]? =some (.loop r0'))(hr:LoopRel ρ r r'): Post P ρ H w ρ (hset H L (.loop r)) (w.putObj p.b (.loop r')):=by
 have hlt:=oF hw;(have hne:∀c,c≠p.b->(w.putObj p.b (.loop r')).heap[c]? =w.heap[c]?:=λc hc=>by simp only[World.putObj];rw[fK (fM hc)]);(have hsame:(w.putObj p.b (.loop r')).heap[p.b]? =some (.loop r'):=by simp only[World.putObj];rw[ia hlt]);exact Post.ct h _ hg rfl hp (.refl ρ) (λ_ _ _ hq=>.inl hq) (by simp[World.putObj]) hne rfl ⟨rfl,dJ _⟩ rfl (λ_ _ _ _ _ e=>by cases e) (λ_ _ _ e=>by cases e) (λr2 e=>by injection e with e;subst e;exact⟨p,r',hp,hsame,hr⟩) (λf q hq=>.inr ((h.one _ _ _ _ hq hg).resolve_left (by simp[Blk.aK]))) (λr2 _=>⟨r',hsame⟩)
theorem a3H(h:HRel P ρ H w){L:Nat}{r:Loop}{p:Place}(hg:kB H L=some (.loop r))(hp:ρ L 0=some p):∃r',w.heap[p.b]? =some (.loop r')∧LoopRel ρ r r':=by obtain⟨q,r',hq,hw,hr⟩:=h.loop _ _ hg;rw[hp]at hq;obtain rfl:=dC hq;exact⟨r',hw,hr⟩
theorem b4k{ps:List Tmp}:∀{args args':List Value}{l m:List Value},All2 (V ρ) args args'->All2 (V ρ) l m-> All2 (V ρ) ((ps.zip args).foldl (λt(p,v)=>t.set p v) l) ((ps.zip args').foldl (λt(p,v)=>t.set p v) m):=by induction ps with| nil=>intro args args' l m _ h;simpa using h| cons q ps ih=>intro args args' l m ha h;cases args with| nil=>(cases args' with|nil=>simpa using h|cons=>exact ha.elim)| cons x args=>cases args' with| nil=>exact ha.elim| cons y args'=>simp only[List.zip_cons_cons,fP];exact ih ha.2 (h.set ha.1 q)
theorem c1f{ex:Run}(hex:∀c l H e l' H',ex c l H=some (e,l',H')->Sim P c l H e l' H'){L:Nat}{args:List Value}{v:Value}{H':Heap}(hc:a3S ex L args H=some (v,H')) (hr:HRel P ρ H w) {p:Place} (hp:ρ L 0=some p) {args':Array Value} (ha:All2 (V ρ) args args'.toList) (k:Nat): ∃r',w.heap[p.b]? =some (.loop r')∧args'.size=r'.params.size∧ RoundIn (fe none) k P p.b r'.fn ((r'.params.zip args').foldl (λtmps(t,a)=>tmps.setIfInBounds t a) r'.tmps) r'.assign r'.body w λe w'=>∃ρ' v',e=.returned v'∧Post P ρ H w ρ' H' w'∧V ρ' v v':=by
 unfold a3S at hc;split at hc;(·rename_i r hg;obtain⟨r',hw,hrel⟩:=a3H hr hg hp;split at hc;(·rename_i hcond;obtain⟨hsz,hst⟩:=hcond;(have hsz':args'.size=r'.params.size:=by rw[hrel.params,hsz];simpa using ha.length.symm);refine⟨r',hw,hsz',roundIn_of_wpIn trivial ?_⟩;split at hc;(·rename_i l1 H1 he1;split at hc;(·rename_i r1 hg1;split at hc;(·rename_i hst1;(have hE:All2 (V ρ) ((r.params.toList.zip args).foldl (λt(p,v)=>t.set p v) r.tmps.toList) ((r'.params.zip args').foldl (λtmps(t,a)=>tmps.setIfInBounds t a) r'.tmps).toList:=by(have e:((r'.params.zip args').foldl (λtmps(t,a)=>tmps.setIfInBounds t a) r'.tmps).toList=(r.params.toList.zip args'.toList).foldl (λt(p,v)=>t.set p v) r'.tmps.toList:=by rw[<-jv,Array.toList_zip,hrel.params];generalize r.params.toList.zip args'.toList=zs;generalize r'.tmps=tm;induction zs generalizing tm with| nil=>rfl| cons z zs ih=>simp only[fP];rw[ih];simp);rw[e];exact b4k ha hrel.tmps);have hs1:=hex _ _ _ _ _ _ he1 (some p.b) k w.heap.size ρ w {tmps:=((r'.params.zip args').foldl (λtmps(t,a)=>tmps.setIfInBounds t a) r'.tmps),defers:=[]} hr hE (λl hl=>by cases hl;exact⟨r',hw⟩) ⟨[],rfl,List.nodup_nil,by simp⟩ (dJ _);rw[hrel.assign];refine wpIn_mono hs1 ?_;rintro e' a1 w1⟨he',ρ1,hp1,hE1,hM1⟩;subst he';obtain⟨r1',hw1,hrel1⟩:=a3H hp1.rel hg1 (hp1.le _ _ _ hp);have hbr:=run_beginRound (P:=P) hw1 (by rw[hrel1.state,hst1]);have hp2:=Post.bq (r:={r1 with state:=.busy}) (r':={r1' with state:=.busy}) hp1.rel hg1 (hp1.le _ _ _ hp) hw1 ⟨rfl,hrel1.pending,hrel1.tmps,hrel1.params,hrel1.assign,hrel1.body⟩;refine⟨_,hbr,?_⟩;split at hc;(·rename_i e l2 H2 he2;split at hc;(·rename_i r2 hg2;have hpost2:=hp1.trans hp2;have hs2:=hex _ _ _ _ _ _ he2 (some p.b) k w.heap.size ρ1 _ a1 hp2.rel hE1 (λl hl=>by cases hl;exact hpost2.loops _ _ hw) (hM1.post hp1.rel hp2) hpost2.size;rw[hrel.body];refine wpIn_mono hs2 ?_;rintro e3 a3 w3⟨he3,ρ3,hp3,hE3,hM3⟩;obtain⟨r2',hw2,hrel2⟩:=a3H hp3.rel hg2 (hp3.le _ _ _ (hp1.le _ _ _ hp));have hpost3:=hpost2.trans hp3;(have fin:∀jump:Option Code,(some (Value.bool jump.isNone,hset H2 L (.loop {r2 with state:=if jump.isNone then .ready else .done,pending:=jump})):Option (Value×Heap))=some (v,H')-> ∃v' w',(Instr.endRound p.b jump).run P w3=.ok v' w'∧∃ρ' v2,Ending.returned v'=.returned v2∧Post P ρ H w ρ' H' w'∧V ρ' v v2:=λjump hj=>by injection (dC hj)with e1 e2;subst e1 e2;have hp4:=Post.bq (r:={r2 with state:=if jump.isNone then .ready else .done,pending:=jump}) (r':={r2' with state:=if jump.isNone then .ready else .done,pending:=jump}) hp3.rel hg2 (hp3.le _ _ _ (hp1.le _ _ _ hp)) hw2 ⟨rfl,rfl,hrel2.tmps,hrel2.params,hrel2.assign,hrel2.body⟩;exact⟨_,_,run_endRound jump hw2,_,_,rfl,hpost3.trans hp4,.of_flat rfl⟩);cases e with| normal=>subst he3;exact fin none hc| exit id=>subst he3;exact fin (some (.exit id)) hc| ret=>subst he3;exact fin (some .ret) hc);·cases hc);·cases hc);·cases hc);·cases hc);·cases hc);·cases hc)
 ·cases hc
end
section
variable {P:Program} {ρ:Rho} {H:Heap} {w:World}
theorem a7U{fn:Func}(ho:fn.origin= "")(h:Extern.allNextRows.lookup fn.name=none):Extern.findNext fn=none:=by(have h0:Extern.allNextRows.lookup "" =none:=by kernel_rfl);simp[Extern.findNext,ho,h,h0]
theorem a5Q{fn:Func}(hn:fn.name= "internal/abi.NoEscape"):Extern.find fn=some Extern.AbiNoEscape.same:=by(have h1:Extern.allGenericRows.lookup "internal/abi.NoEscape" =none:=by kernel_rfl);(have h2:Extern.allTypedRows.lookup "internal/abi.NoEscape" =none:=by kernel_rfl);(have h3:Extern.allRows.lookup "internal/abi.NoEscape" =some Extern.AbiNoEscape.same:=by kernel_rfl);simp[Extern.find,hn,h1,h2,h3]
theorem a3y{fn:Func}(hn:fn.name= "internal/bytealg.MakeNoZero"):Extern.find fn=some (Extern.BytealgMakeNoZero.makeNoZero fn.params fn.resultTypes):=by(have h1:Extern.allGenericRows.lookup "internal/bytealg.MakeNoZero" =none:=by kernel_rfl);(have h2:Extern.allTypedRows.lookup "internal/bytealg.MakeNoZero" =some Extern.BytealgMakeNoZero.makeNoZero:=by kernel_rfl);simp[Extern.find,hn,h1,h2]
theorem a5h{fn:Func}(hn:fn.name= "internal/bytealg.abigen_runtime_cmpstring"):Extern.find fn=some Extern.BytealgCompare.compare:=by(have h1:Extern.allGenericRows.lookup "internal/bytealg.abigen_runtime_cmpstring" =none:=by kernel_rfl);(have h2:Extern.allTypedRows.lookup "internal/bytealg.abigen_runtime_cmpstring" =none:=by kernel_rfl);(have h3:Extern.allRows.lookup "internal/bytealg.abigen_runtime_cmpstring" =some Extern.BytealgCompare.compare:=by kernel_rfl);simp[Extern.find,hn,h1,h2,h3]
theorem a3j:∀(n t:Nat)(acc:Array Value),(∀i,i<acc.size->∃m:Int,acc[i]? =some (.int .u8 m))->∀i,i<(Extern.BytealgMakeNoZero.digits n t acc).size->∃m:Int,(Extern.BytealgMakeNoZero.digits n t acc)[i]? =some (.int .u8 m)| 0,_,_,h,i,hi=>h i hi| n+1,t,acc,h,i,hi=>by rw[Extern.BytealgMakeNoZero.digits]at hi ⊢;refine a3j n _ _ (λj hj=> ?_) i hi;rw[Array.size_push]at hj;by_cases hj':j<acc.size;(·obtain⟨c,hc⟩:=h j hj';exact⟨c,by rw[Array.getElem?_push_lt hj'];rw[fW hj']at hc;exact hc⟩);·(obtain rfl:j=acc.size:=by omega);exact⟨Int.ofNat (t%256),by rw[Array.getElem?_push_size]⟩
theorem a2F(w:World)(ps ts:Array TypeId)(t e:TypeId)(h0:ts[0]? =some t)(ht:P.underlying t=some (.slice e))(n:Nat)(hn:n≤281474976710656):
 ∃cs:Array Value,(Extern.BytealgMakeNoZero.makeNoZero ps ts #[.int .i64 n]).run P w=.ok (.slice (some ⟨w.heap.size,0,none⟩) n cs.size) (w.drew.drew.alloc (.cells cs e))∧n≤cs.size∧∀i,i<cs.size→∃m:Int,cs[i]? =some (.int .u8 m):=by
 obtain⟨q,hdef,hq⟩:∃q:Question,Extern.BytealgMakeNoZero.makeNoZero ps ts #[.int .i64 n]=
  (do
    let some t:=ts[0]?|stuck "bytealg.MakeNoZero: no result type"
    let .slice elem ←underlying t|stuck "bytealg.MakeNoZero: slice type expected"
    if(n:Int)<0||(n:Int)>2^48 then runtimePanic (.error "makeslice: len out of range")
    let cap ←choose (.appendCap (n:Int).toNat 0 elem)
    askRoom cap
    let bytes ←choose q
    let a ←newRow elem (Extern.BytealgMakeNoZero.digits cap bytes #[])
    pure (.slice (some a) (n:Int).toNat cap))∧q.forced=false:=⟨_,rfl,rfl⟩
 refine⟨Extern.BytealgMakeNoZero.digits (grownCap w n 0 e) (q.cut (w.tape (w.drawn+1) q)) #[],?_,?_,fun i hi=>a3j _ _ _ (by simp) i hi⟩
 ·rw[hdef,h0];have h1:¬(n:Int)<0:=by omega
  have h2:¬(281474976710656:Int)<(n:Int):=by omega
  have hf:∀a b c,(Question.appendCap a b c).forced=false:=fun _ _ _=>rfl;simp[run_underlying ht,h1,h2,hq,hf,newRow,Go.Lib.size_digits,grownCap]
 ·rw[Go.Lib.size_digits];simpa using grownCap_ge w n 0 e
theorem a3x(w:World)(ps ts:Array TypeId)(t e:TypeId)(h0:ts[0]? =some t)(ht:P.underlying t=some (.slice e))(n:Nat)(hn:n<=281474976710656): ∃cs:Array Value,(Extern.BytealgMakeNoZero.makeNoZero ps ts #[.int .i64 n]).run P w=.ok (.slice (some ⟨w.heap.size,0,none⟩) n cs.size) (w.drew.drew.alloc (.cells cs e))∧n<=cs.size∧∀i,i<cs.size->∃m:Int,cs[i]? =some (.int .u8 m):=by obtain⟨cs,h1,h2,h3⟩:=a2F w ps ts t e h0 ht n hn;exact⟨cs,h1,h2,h3⟩
theorem b2x(h:HRel P ρ H w){k:FuncId}{args:List Value}{v:Value}{H':Heap}(hx:sQ P k args H=some (v,H')){args':Array Value}(ha:All2 (V ρ) args args'.toList): ∃ρ' v' w',(callFunc k args').run P w=.ok (.value v') w'∧Post P ρ H w ρ' H' w'∧V ρ' v v':=by
 unfold sQ at hx;simp only[dF]at hx;obtain⟨fn,hf,hx⟩:=hx;split at hx;(case isFalse=>cases hx);rename_i hc;simp only[dE,beq_iff_eq]at hc;obtain⟨hb,ho⟩:=hc;(have hnm:∀s:String,fn.name=s->s≠ "runtime.NumGoroutine" ->(fn.name== "runtime.NumGoroutine")=false:=λs e h=>by simpa [e]using h);split at hx;(·rename_i hn;simp only[beq_iff_eq]at hn;split at hx;(·rename_i x;injection (dC hx)with e1 e2;subst e1 e2;(obtain⟨x',rfl⟩:∃x',args'=#[x']:=by have:=ha.length;exact yJ (by simpa using this.symm));have hnext:Extern.findNext fn=none:=a7U ho (by rw[hn];kernel_rfl);refine⟨ρ,x',w,?_,.refl h,ha.1⟩;rw[run_callFunc_extern hf (hnm _ hn (by decide)) hb hnext (a5Q hn)];rfl);·cases hx);split at hx;(·rename_i hn;simp only[beq_iff_eq]at hn;split at hx;(·rename_i n t hrt;split at hx;(·rename_i hc;simp only[dE,decide_eq_true_eq,bne_iff_ne]at hc;simp only[dF]at hx;obtain⟨elem,he,hx⟩:=hx;split at hx;(·rename_i hs1;simp only[beq_iff_eq]at hs1;injection (dC hx)with e1 e2;subst e1 e2;(obtain⟨x',rfl⟩:∃x',args'=#[x']:=by have:=ha.length;exact yJ (by simpa using this.symm));have hx':x'=.int .i64 (n:Nat):=(show V ρ (.int .i64 (Int.ofNat n)) x' from ha.1).ai rfl;subst hx';have hnext:Extern.findNext fn=none:=a7U ho (by rw[hn];kernel_rfl);obtain⟨cs,hrun,hle,hcs⟩:=a3x (P:=P) w fn.params fn.resultTypes t elem hrt (lM he) n (by omega);have hpost0:=(Post.drew h).trans (Post.drew (Post.drew h).rel);have hle':ρ.Le (ρ.put H.length n ⟨w.heap.size,0,cs.size,1⟩):=.put (oX h _);refine⟨_,.slice (some ⟨w.heap.size,0,none⟩) n cs.size,w.drew.drew.alloc (.cells cs elem),?_,hpost0.trans (by rw[mO];refine Post.new hpost0.rel _ _ n ⟨w.heap.size,0,cs.size,1⟩ rfl ?_ (λ_ _ _ e=>by cases e) (λ_ e=>by cases e);intro cs0 ty2 rw2 lo ver e;injection e with e1 e2 e3 e4 e5;subst e1 e2 e3 e4 e5;refine⟨by simp,by simp,hs1,by simp only;omega,cs,elem,(0,0),lA _ _,by simp,λ_=>⟨rfl,Int.le_refl _,λ_=>rfl⟩,λ_ j c hj _ hcc=> ?_⟩;(obtain⟨rfl,hjn⟩:c=.chan (some 0)∧j<n:=by rw[jy,if_pos hj]at hcc;exact⟨(dC hcc).symm,hj⟩);obtain⟨m,hc'⟩:=hcs j (by omega);exact⟨.int .u8 m,by simpa [Place.at]using hc',.c0 (.junk m)⟩),?_⟩;(·rw[run_callFunc_extern hf (hnm _ hn (by decide)) hb hnext (a3y hn)];simp[hrun]);·have:=C0.slice (ρ:=ρ.put H.length n ⟨w.heap.size,0,cs.size,1⟩) (A:=H.length) (i:=0) (e:=n) (n:=n) (c':=cs.size) (Rho.aq _ _ _ _) (by simp) (by simp) ⟨hle,by simpa using hle⟩ (.inl ⟨rfl,by simp[Place.at]⟩);exact .v1 (.c1 (.c0 (by simpa [Place.at]using this))));·cases hx);·cases hx);·cases hx)
 split at hx;(·rename_i hn;simp only[beq_iff_eq]at hn;split at hx;(·rename_i a b;split at hx;(·rename_i v0 hp;split at hx;(·rename_i hfl;injection (dC hx)with e1 e2;subst e1 e2;(obtain⟨x',y',rfl⟩:∃x' y',args'=#[x',y']:=by have:=ha.length;exact a0k (by simpa using this.symm));have hx':x'=.string a:=ha.1.ai rfl;have hy':y'=.string b:=ha.2.1.ai rfl;subst hx' hy';have hnext:Extern.findNext fn=none:=a7U ho (by rw[hn];kernel_rfl);refine⟨ρ,v0,w,?_,.refl h,.of_flat hfl⟩;rw[run_callFunc_extern hf (hnm _ hn (by decide)) hb hnext (a5h hn)];simp[mM _ hp w]);·cases hx);·cases hx);·cases hx);·cases hx
end
section
variable {P:Program} {ρ:Rho} {H:Heap} {w:World}
theorem V.of_bool{v:Value}{b:Bool}(h:V ρ v (.bool b)):v=.bool b:=by cases h with| v1 h1=>cases h1 with| c1 h1=>cases h1 with| c0 h1=>cases h1 with| flat h1=>rfl
theorem b3J{l:List Value}{tm:Array Value}(hE:All2 (V ρ) l tm.toList)(ops:Array Oper)(j:Nat):yielded ops tm j=kO ops l j:=by unfold yielded kO;cases hd:(ops[j]?).bind (·.dst)with| none=>rfl| some d=>simp only[dD];cases hl:l[d]? with| none=>(have:tm[d]? =none:=by have h1:=List.getElem?_eq_none_iff.1 hl;rw[hE.length]at h1;rw[Array.getElem?_eq_none_iff];simpa using h1);rw[this]| some v=>obtain⟨v',hv',hr⟩:=hE.get d v hl;(have:tm[d]? =some v':=by simpa using hv');rw[this];cases v' with| bool b=>rw[hr.of_bool]| _=>cases v with| bool b=>have:=hr.aG;cases this| _=>rfl
theorem vH{l:List Value}{tm:Array Value}(hE:All2 (V ρ) l tm.toList)(ops:Array Oper)(o:Oper):Region.wanted o (yielded ops tm)=Region.wanted o (kO ops l):=by unfold Region.wanted;cases o.guard with| none=>rfl| some g=>simp only[b3J hE]
theorem V.bP{L:Nat}{b c:Array Value}{v':Value}(h:V ρ (.func (.yield L) b c) v'):∃p,ρ L 0=some p∧v'=.func (.yield p.b) #[] #[]:=by cases h with| v1 h1=>cases h1 with| c1 h1=>cases h1 with| c0 h1=>(cases h1 with| flat h1=>simp[kG]at h1)| yld hp=>exact⟨_,hp,rfl⟩
theorem All2.aO{a b:List Value}(h:All2 (C0 ρ) a b):All2 (V ρ) a b:=h.mono λ_ _ h=>.v1 (.c1 (.c0 h))
theorem vQ{f:FuncId}{fn:Func}(hf:P.funcs[f]? =some fn)(hb:fn.body.isNone=false)(hn:(fn.name== "runtime.NumGoroutine")=false)(args:Array Value)(w:World):(callFunc f args).run P w=.ok (.enter f args) w:=by unfold callFunc;simp only[dL,run_program,dH,hf,hn,hb];simp
theorem c1Z{ex:Run}{f:FuncId}{args:List Value}{r:Value×Heap}(hc:callF P ex f args H=some r):∃fn,P.funcs[f]? =some fn∧fn.body.isNone=false∧(fn.name== "runtime.NumGoroutine")=false:=by unfold callF at hc;split at hc;(·rename_i fn hf;split at hc;(·rename_i c hb;split at hc;(·cases hc);·rename_i hn;exact⟨fn,hf,by rw[hb];rfl,by simpa using hn⟩);·cases hc);·cases hc
def a0L(P:Program)(L:Nat)(args:List Value)(H:Heap)(v:Value)(H':Heap):Prop:=∀(ρ:Rho)(w:World)(p:Place)(args':Array Value)(k:Nat),HRel P ρ H w->ρ L 0=some p->All2 (V ρ) args args'.toList-> ∃r',w.heap[p.b]? =some (.loop r')∧args'.size=r'.params.size∧ RoundIn (fe none) k P p.b r'.fn ((r'.params.zip args').foldl (λtmps(t,a)=>tmps.setIfInBounds t a) r'.tmps) r'.assign r'.body w λe w'=>∃ρ' v',e=.returned v'∧Post P ρ H w ρ' H' w'∧V ρ' v v'
def qU(P:Program)(f:FuncId):Prop:=∃fn,P.funcs[f]? =some fn∧fn.body.isNone=false∧(fn.name== "runtime.NumGoroutine")=false
inductive StepR(P:Program)(o:Oper)(l:List Value)(H:Heap)(v:Value)(H':Heap):Prop where| op (hok:o.op.operands.toList.all kH=true) (hd:opD P o l H=some (v,H'))| call (hok:o.op.operands.toList.all kH=true) (c:Call) (f:Operand) (k:FuncId) (first captured:Array Value) (hc:o.op=.call c) (hf:c.callee=.value f) (hev:ev l f=.func (.func k) first captured) (he:qU P k) (hcall:CallOk P k (first.toList++c.args.toList.map (ev l)++captured.toList) H v H')| ext (hok:o.op.operands.toList.all kH=true) (c:Call) (f:Operand) (k:FuncId) (first captured:Array Value) (hc:o.op=.call c) (hf:c.callee=.value f) (hev:ev l f=.func (.func k) first captured) (hx:sQ P k (first.toList++c.args.toList.map (ev l)++captured.toList) H=some (v,H'))| round (hok:o.op.operands.toList.all kH=true) (c:Call) (f:Operand) (L:Nat) (b d:Array Value) (hc:o.op=.call c) (hf:c.callee=.value f) (hev:ev l f=.func (.yield L) b d) (hround:a0L P L (c.args.toList.map (ev l)) H v H')
theorem StepR.ok{o:Oper}{l:List Value}{v:Value}{H':Heap}(h:StepR P o l H v H'):o.op.operands.toList.all kH=true:=by cases h<;>assumption
theorem StepR.opD{o:Oper}{l:List Value}{v:Value}{H':Heap}(h:StepR P o l H v H')(hn:∀c f,o.op=.call c->c.callee≠.value f):opD P o l H=some (v,H'):=by cases h with| op _ hd=>exact hd| call _ c f k first captured hc hf=>exact absurd hf (hn c f hc)| ext _ c f k first captured hc hf=>exact absurd hf (hn c f hc)| round _ c f L b d hc hf=>exact absurd hf (hn c f hc)
theorem StepR.sound{o:Oper}{l:List Value}{v:Value}{H':Heap}(hs:StepR P o l H v H'){a:Act}(hr:HRel P ρ H w) (hV:∀x,x∈o.op.operands->kH x=true->V ρ (ev l x) (a.eval x)) (ro:Option Nat) (k:Nat) {next:Act->World->Prop} {Q:Exit->Act->World->Prop} (hn:∀ρ' v' w',Post P ρ H w ρ' H' w'->V ρ' v v'->next (a.put o.dst v') w'): o.wpIn (fe ro) k P a w next Q:=by
 refine⟨λ_ _=>trivial,?_⟩;have hok:=hs.ok;(have hok':∀x,x∈o.op.operands->kH x=true:=λx hx=>by simp only[dQ]at hok;exact hok x (by simpa using hx));have hV':∀x,x∈o.op.operands->V ρ (ev l x) (a.eval x):=λx hx=>hV x hx (hok' x hx);(have exec:∀{c:Call}{f:Operand},o.op=.call c->c.callee=.value f->(∀d,o.op≠.defer d)∧o.op.operands=#[f]++c.args∧execOp a.eval o=(do let d <-resolve a.eval c o.type;invoke d.target d.args):=by intro c f hc hf;refine⟨λc' hc'=>(by rw[hc]at hc';cases hc'),by rw[hc];simp[Op.operands,Call.operands,hf],?_⟩;obtain⟨dst,op,type,pos,after,guard⟩:=o;simp only at hc;subst hc;rfl);cases hs with| op _ hd=>(have hdef:∀c,o.op≠.defer c:=λc hc=>by simp only[Go.Ds.opD,hc]at hd;cases hd);rw[iM _ _ _ hdef];obtain⟨ρ',v',nx,w',hrun,hnx,hp,hv⟩:=c8i hr hV' hd;rw[hrun];rcases hnx with rfl|⟨rfl,rfl⟩;(·exact hn ρ' v' w' hp hv);(·exact hn ρ' undef w' hp hv)| call _ c f fk first captured hc hf hev he hcall=>obtain⟨hdef,hops,hexec⟩:=exec hc hf;rw[iM _ _ _ hdef];have hfv:=hV' f (by rw[hops];simp);have hav:=a1u c.args.toList λx hx=>hV' x (by rw[hops];simp;exact .inr (by simpa using hx));rw[hexec];rw[hev]at hfv;obtain⟨first',captured',hfe,hfa,hfc⟩:=hfv.bg;obtain⟨fn,hfn,hbody,hname⟩:=he;(have hrun:(do let d <-resolve a.eval c o.type;invoke d.target d.args:Sem Next).run P w=.ok (.enter fk (first'++c.args.map a.eval++captured')) w:=by simp only[resolve,hf,hfe,Deferred.ofValue,dL,dP,dH,invoke];exact vQ hfn hbody hname _ w);rw[hrun];refine⟨a1r ro,?_⟩;(have hargs:All2 (V ρ) (first.toList++c.args.toList.map (ev l)++captured.toList) (first'++c.args.map a.eval++captured').toList:=by simp only[gP,jf];exact((hfa.aO).append hav).append hfc.aO);have hci:CallsIn (fe ro) (k-1) P fk (first'++c.args.map a.eval++captured') w λe w'=>∃ρ' v',e=.returned v'∧Post P ρ H w ρ' H' w'∧V ρ' v v':=hcall (k-1) ρ w _ hr hargs;refine hci.mono ?_;rintro e w'⟨ρ',v',rfl,hp,hv⟩;exact hn ρ' v' w' hp hv| ext _ c f fk first captured hc hf hev hx=>obtain⟨hdef,hops,hexec⟩:=exec hc hf;rw[iM _ _ _ hdef];have hfv:=hV' f (by rw[hops];simp);have hav:=a1u c.args.toList λx hx=>hV' x (by rw[hops];simp;exact .inr (by simpa using hx));rw[hexec];rw[hev]at hfv;obtain⟨first',captured',hfe,hfa,hfc⟩:=hfv.bg;(have hargs:All2 (V ρ) (first.toList++c.args.toList.map (ev l)++captured.toList) (first'++c.args.map a.eval++captured').toList:=by simp only[gP,jf];exact((hfa.aO).append hav).append hfc.aO);obtain⟨ρ',v',w',hrunx,hp,hv⟩:=b2x hr hx hargs;(have hrun:(do let d <-resolve a.eval c o.type;invoke d.target d.args:Sem Next).run P w=.ok (.value v') w':=by simp only[resolve,hf,hfe,Deferred.ofValue,dL,dP,dH,invoke];exact hrunx);rw[hrun];exact hn ρ' v' w' hp hv| round _ c f L b d hc hf hev hround=>obtain⟨hdef,hops,hexec⟩:=exec hc hf;rw[iM _ _ _ hdef];have hfv:=hV' f (by rw[hops];simp);have hav:=a1u c.args.toList λx hx=>hV' x (by rw[hops];simp;exact .inr (by simpa using hx));rw[hexec];rw[hev]at hfv;obtain⟨p,hp,hfe⟩:=hfv.bP;(have hargs:All2 (V ρ) (c.args.toList.map (ev l)) (c.args.map a.eval).toList:=by simpa using hav);obtain⟨r',hw,hsz,hround⟩:=hround ρ w p _ (k-1) hr hp hargs;(have hrun:(do let d <-resolve a.eval c o.type;invoke d.target d.args:Sem Next).run P w=.ok (.round p.b r'.fn ((r'.params.zip (c.args.map a.eval)).foldl (λtmps(t,a)=>tmps.setIfInBounds t a) r'.tmps) r'.assign r'.body) w:=by simp only[resolve,hf,hfe,Deferred.ofValue,dL,dP,dH,invoke];simp only[Array.empty_append];exact run_yield hw hsz);rw[hrun];refine⟨a1r ro,?_⟩;have hri:RoundIn (fe ro) (k-1) P p.b r'.fn ((r'.params.zip (c.args.map a.eval)).foldl (λtmps(t,a)=>tmps.setIfInBounds t a) r'.tmps) r'.assign r'.body w λe w'=>∃ρ' v',e=.returned v'∧Post P ρ H w ρ' H' w'∧V ρ' v v':=hround;refine hri.mono ?_;rintro e w'⟨ρ',v',rfl,hp,hv⟩;exact hn ρ' v' w' hp hv
def c7Z(P:Program)(ρ:Rho)(H:Heap)(w:World)(ds:List Deferred)(l':List Value)(H':Heap)(a':Act)(w':World):Prop:=∃ρ',Post P ρ H w ρ' H' w'∧All2 (V ρ') l' a'.tmps.toList∧a'.defers=ds
theorem nK(a:Act)(d:Option Tmp)(v:Value):(a.put d v).defers=a.defers:=by cases d<;>rfl
inductive OpsR(P:Program)(ops:Array Oper):List Nat->List Value->Heap->List Value->Heap->Prop where| nil (l:List Value) (H:Heap):OpsR P ops [] l H l H| step {i:Nat} {is:List Nat} {o:Oper} {l:List Value} {H:Heap} {v:Value} {H1:Heap} {l':List Value} {H':Heap} (ho:ops[i]? =some o) (hw:Region.wanted o (kO ops l)=true) (hs:StepR P o l H v H1) (rest:OpsR P ops is (put l o.dst v) H1 l' H'):OpsR P ops (i::is) l H l' H'| past {i:Nat} {is:List Nat} {o:Oper} {l:List Value} {H:Heap} {l':List Value} {H':Heap} (ho:ops[i]? =some o) (hw:Region.wanted o (kO ops l)=false) (rest:OpsR P ops is (put l o.dst undef) H l' H'):OpsR P ops (i::is) l H l' H'
theorem OpsR.sound{ops:Array Oper}(ro:Option Nat)(k:Nat){Q:Exit->Act->World->Prop}{is:List Nat}{l:List Value}{H:Heap}{l':List Value}{H':Heap}(h:OpsR P ops is l H l' H'): ∀(ρ:Rho)(w:World)(a:Act),HRel P ρ H w->All2 (V ρ) l a.tmps.toList->(∀a' w',c7Z P ρ H w a.defers l' H' a' w'->Q .normal a' w')->wpOpsIn (fe ro) k P ops Q is a w:=by
 induction h with| nil l H=>intro ρ w a hr hE hQ;exact hQ a w ⟨ρ,.refl hr,hE,rfl⟩| step ho hw hs rest ih=>intro ρ w a hr hE hQ;unfold wpOpsIn;rw[ho];simp only[vH hE];rw[if_pos hw];refine hs.sound hr (λx _ hx=>vC hE hx) ro k λρ1 v1 w1 hp1 hv1=> ?_;refine ih ρ1 w1 _ hp1.rel (tR (hE.mono λ_ _ h=>h.mono hp1.le) hv1 _) ?_;rintro a' w'⟨ρ',hp',hE',hd'⟩;exact hQ a' w' ⟨ρ',hp1.trans hp',hE',by rw[hd',nK]⟩| past ho hw rest ih=>intro ρ w a hr hE hQ;unfold wpOpsIn;rw[ho];simp only[vH hE];rw[if_neg (by simp[hw])];refine⟨λ_ _=>trivial,?_⟩;refine ih ρ w _ hr (tR hE .undef _) ?_;rintro a' w'⟨ρ',hp',hE',hd'⟩;exact hQ a' w' ⟨ρ',hp',hE',by rw[hd',nK]⟩
theorem QD.cR{c:Code}{l:List Value}{l1:List Value}{H1:Heap}{ro:Option Nat}{k B:Nat}{e2:Ex}{l2:List Value}{H2:Heap}{d:Code}{a:Act} (h1:Sim P c l H .normal l1 H1) (h2:Sim P d l1 H1 e2 l2 H2) (hr:HRel P ρ H w) (hE:All2 (V ρ) l a.tmps.toList) (hl:LoopAt ro w) (hM:Marks B w a.defers) (hB:B<=w.heap.size): c.wpIn (fe ro) k P (Exit.then (d.wpIn (fe ro) k P (QD P ρ H w B e2 l2 H2)) (QD P ρ H w B e2 l2 H2)) a w:=by refine wpIn_mono (h1 ro k B ρ w a hr hE hl hM hB) ?_;rintro e' a' w'⟨he,ρ',hp,hE',hM'⟩;subst he;refine wpIn_mono (h2 ro k B ρ' w' a' hp.rel hE' (hl.post hp) hM' (ey hB hp.size)) ?_;intro e3 a3 w3 hq;exact hq.trans hp
end
section
variable {P:Program} {ρ:Rho} {H:Heap} {w:World} {fl:Fl}
theorem b5j{a b:Value}(h:c4h a b=true):a=b:=by(cases a<;>cases b<;>simp only[c4h,dE,decide_eq_true_eq,beq_iff_eq,eN]at h<;>try rfl);(·rw[h]);(·rw[h.1,h.2]);(·rename_i x y;cases x with|mk x=>cases y with|mk y=>cases x;cases y;simp only at h;rw[h]);(·rw[h]);(·rw[h.1.1,eT h.1.2,eT h.2]);·rw[h]
theorem b4V:∀{a b:List Value},b6C a b=true->a=b| [],[],_=>rfl| a::l,b::m,h=>by simp only[b6C,dE]at h;rw[b5j h.1,b4V h.2]| [],_::_,h=>by simp[b6C]at h| _::_,[],h=>by simp[b6C]at h
theorem c0M{a b:Value}(h:veq a b=true):a=b:=by unfold veq at h;split at h;(·rename_i x y;cases x;cases y;have:=b4V h;simp only at this;rw[this]);·exact b5j h
def zY(P:Program)(ops:Array Oper)(i:Nat)(s s':List Value×Heap)(v:Value):Prop:=∃o,ops[i]? =some o∧s'.1=put s.1 o.dst v∧ ((Region.wanted o (kO ops s.1)=true∧StepR P o s.1 s.2 v s'.2)∨(Region.wanted o (kO ops s.1)=false∧v=undef∧s'.2=s.2))
def bef(ops:Array Oper)(j i:Nat):Bool:=((a5Z [] ops.toList).getD j 0).testBit i
def b3N(ops:Array Oper)(S:Nat->Prop):Prop:=∀j o,S j->ops[j]? =some o->∀e∈o.after,Region.binds .any e=true->S e.on
structure Draw(P:Program)(fl:Fl)(ops:Array Oper):Prop where
 conv:∀(j:Nat)(o:Oper),ops[j]? =some o→wF P o=true
 back:∀(j:Nat)(o:Oper)(e:Edge),ops[j]? =some o→e∈o.after→Region.binds .any e=true→e.on<j
 guard:∀(j:Nat)(o:Oper),ops[j]? =some o→kI fl o.op=true→o.guard=none
 der:∀(j:Nat)(o:Oper),ops[j]? =some o→c2e fl ops j o=true
 pair:∀(i j:Nat)(x y:Oper),i<j→ops[i]? =some x→ops[j]? =some y→a0r fl ops (a5Z [] ops.toList) i j x y=true
theorem pA{ops:Array Oper}{i:Nat}{o:Oper}(h:ops[i]? =some o):(o,i)∈ops.toList.zipIdx:=by rw[iZ];simpa using h
theorem a8J{ops:Array Oper}(h:(ops.toList.all (wF P)&&a0X fl ops)=true):Draw P fl ops:=by rw[dE]at h;obtain⟨hcv,h⟩:=h;unfold a0X at h;simp only[dQ,dE,Prod.forall,fi,eF,decide_eq_true_eq,decide_eq_false_iff_not,Array.mem_toList_iff]at h;refine⟨λj o ho=> ?_,λj o e ho he hb=> ?_,λj o ho ha=> ?_,λj o ho=>(h o j (pA ho)).1.2,λi j x y hij hx hy=> ?_⟩;(·rw[dQ]at hcv;exact hcv o (ef (i:=j) (by simpa using ho)));(·rcases(h o j (pA ho)).1.1.1 e he with h1|h1;(·rw[hb]at h1;cases h1);·exact h1);(·rcases(h o j (pA ho)).1.1.2 with h1|h1;(·rw[ha]at h1;cases h1);·simpa using h1);·rcases(h y j (pA hy)).2 x i (pA hx)with h1|h1;(·exact absurd hij h1);·exact h1
theorem sT{ops:Array Oper}{tab:List (Nat×Nat)}(h:pJ P ops=some tab):∃fl,Draw P fl ops∧tab=oN fl ops:=by unfold pJ at h;split at h;(case isFalse=>cases h);rename_i hc;split at h;(·rename_i h1;exact⟨.F,a8J (by rw[hc,h1];rfl),(dC h).symm⟩);·split at h;(·rename_i h1;exact⟨.T,a8J (by rw[hc,h1];rfl),(dC h).symm⟩);·cases h
theorem a5W{fl:Fl}{ops:Array Oper}{tab:List (Nat×Nat)}(h:a4S P fl ops=some tab):Draw P fl ops∧tab=oN fl ops:=by unfold a4S at h;split at h;(·rename_i h1;exact⟨a8J h1,(dC h).symm⟩);·cases h
section
variable {ops:Array Oper} (D:Draw P fl ops)
include D
theorem Draw.ne{i j:Nat}{x y:Oper}(hij:i<j)(hx:ops[i]? =some x)(hy:ops[j]? =some y){d:Tmp}(hd:x.dst=some d):y.dst≠some d:=by have:=D.pair i j x y hij hx hy;simp only[a0r,hd,dE,bne_iff_ne,ne_eq]at this;exact this.1.1.1.2
theorem Draw.raw{i j:Nat}{x y:Oper}(hij:i<j)(hx:ops[i]? =some x)(hy:ops[j]? =some y){d:Tmp}(hd:x.dst=some d)(hl:d∈y.looksAt ops):bef ops j i=true:=by have:=D.pair i j x y hij hx hy;simp only[a0r,hd,dE,fi,eF]at this;rcases this.1.1.1.1 with h|h;(·simp[hl]at h);·exact h
theorem Draw.dr{i j:Nat}{x y:Oper}(hij:i<j)(hx:ops[i]? =some x)(hy:ops[j]? =some y){d:Tmp}(hd:y.dst=some d)(hl:d∈x.looksAt ops):bef ops j i=true:=by have:=D.pair i j x y hij hx hy;simp only[a0r,hd,dE,fi,eF]at this;rcases this.1.2 with h|h;(·simp[hl]at h);·exact h
theorem Draw.fresh{i j:Nat}{x y:Oper}(hij:i<j)(hx:ops[i]? =some x)(hy:ops[j]? =some y){d:Tmp}(hd:x.dst=some d){b:Nat}(hb:mJ fl i x.op=some b)(hl:d∈y.looksAt ops):lD fl y.op=true∨fl.base j=some b:=by have:=D.pair i j x y hij hx hy;simp only[a0r,hd,dE,fi,eF,hb]at this;rcases this.1.1.2 with(h|h)|h;(·exact .inl h);(·exact .inr (by simpa using h));·simp[hl]at h
theorem Draw.main{i j:Nat}{x y:Oper}(hij:i<j)(hx:ops[i]? =some x)(hy:ops[j]? =some y)(he:lD fl x.op=true∨kI fl x.op=true)(hm:lD fl y.op=true):bef ops j i=true:=by have:=D.pair i j x y hij hx hy;simp only[a0r,dE,fi,eF,hm,Bool.or_eq_false_iff]at this;rcases this.2 with(h|h)|h;(·rcases he with he|he;(·rw[he]at h;cases h.1);·rw[he]at h;cases h.2);(·cases h);·exact h
end
inductive Der(fl:Fl)(ops:Array Oper)(j:Nat)(d:Tmp)(i:Nat):Op->Prop| addr (t:TypeId) (ix:Operand):Der fl ops j d i (.indexAddr t (.tmp d) ix)| conv (s t:TypeId):Der fl ops j d i (.convert s t (.tmp d))| load (t:TypeId) (x:Tmp) (k:Nat) (y:Oper) (t':TypeId) (x' ix':Operand) (h1:j<k) (h2:k<i) (h3:ops[k]? =some y) (h4:fl.base k=some j) (h5:y.op=.indexAddr t' x' ix') (h6:y.dst=some x):Der fl ops j d i (.load t (.tmp x))
theorem Draw.aE{ops:Array Oper}(D:Draw P fl ops){i j:Nat}{o:Oper}(ho:ops[i]? =some o)(hj:fl.base i=some j): j<i∧o.guard=none∧(∀k y,j<k->k<i->ops[k]? =some y->lD fl y.op=false)∧ ∃(b:Oper)(d:Tmp)(t:TypeId)(len:Nat)(parts:Array (Nat×Operand)),ops[j]? =some b∧b.dst=some d∧b.op=.buildSlice t len parts∧kI fl b.op=true∧Der fl ops j d i o.op:=by
 have h:=D.der i o ho;unfold c2e at h;rw[hj]at h;simp only[dE,decide_eq_true_eq,dQ,ec,fi,eF,decide_eq_false_iff_not]at h;obtain⟨⟨⟨h1,h2⟩,h3⟩,h4⟩:=h;refine⟨h1,by simpa using h2,λk y hk hki hy=> ?_,?_⟩;(·rcases h3 k hki with h|h;(·exact absurd hk h);·rw[hy]at h;simpa using h);·split at h4;(·rename_i d t len parts ty pos af hb;simp only[dE]at h4;obtain⟨⟨h5,h6⟩,h7⟩:=h4;refine⟨_,d,t,len,parts,hb,rfl,rfl,by simp[kI,h5]at h6 ⊢;exact h6,?_⟩;split at h7;(·rename_i t' x ix hop;have:=eT h7;subst this;rw[hop];exact .addr _ _);(·rename_i s t' x hop;have:=eT h7;subst this;rw[hop];exact .conv _ _);(·rename_i t' x hop;simp only[jg,ec,dE,decide_eq_true_eq]at h7;obtain⟨k,hk,⟨h8,h9⟩,h10⟩:=h7;split at h10;(·rename_i d' t2 x2 ix2 ty2 pos2 af2 g2 hy;have:=eT h10;subst this;rw[hop];exact .load _ _ k _ t2 x2 ix2 h8 hk hy (by simpa using h9) rfl rfl);·cases h10);·cases h7);·cases h4
theorem b1V:∀(os:List Oper)(acc:List Nat),∃r:List Nat,a5Z acc os=acc++r∧r.length=os.length∧∀(k:Nat)(o:Oper),os[k]? =some o-> r[k]? =some (o.after.toList.foldl (λm e=>if Region.binds .any e then(m|||2^e.on)|||(acc++r.take k).getD e.on 0 else m) 0)| [],acc=>⟨[],by simp[a5Z],rfl,by simp⟩| o::os,acc=>by obtain⟨r,h1,h2,h3⟩:=b1V os (acc++[o.after.toList.foldl (λm e=>if Region.binds .any e then(m|||2^e.on)|||acc.getD e.on 0 else m) 0]);refine⟨o.after.toList.foldl (λm e=>if Region.binds .any e then(m|||2^e.on)|||acc.getD e.on 0 else m) 0::r,by rw[a5Z,h1];exact fp _ _ _,by rw[dV,dV,h2],λk x hx=> ?_⟩;cases k with| zero=>rw[eZ]at hx;obtain rfl:=dC hx;rw[eZ,List.take_zero,ee]| succ k=>have:=h3 k x (by rwa [fD]at hx);rw[fD,List.take_succ_cons];rw[fp]at this;exact this
theorem a9v{acc:List Nat}{i:Nat}:∀(es:List Edge)(m:Nat),(es.foldl (λm e=>if Region.binds .any e then(m|||2^e.on)|||acc.getD e.on 0 else m) m).testBit i=true-> m.testBit i=true∨∃e∈es,Region.binds .any e=true∧(i=e.on∨(acc.getD e.on 0).testBit i=true)| [],m,h=>.inl h| e::es,m,h=>by rw[fP]at h;rcases a9v es _ h with h1|⟨e',he,hb,hh⟩;(·by_cases hb:Region.binds .any e=true;(·rw[if_pos hb,gG,gG,fO]at h1;simp only[fi,decide_eq_true_eq]at h1;rcases h1 with(h1|h1)|h1;(·exact .inl h1);(·exact .inr ⟨e,by simp,hb,.inl h1.symm⟩);·exact .inr ⟨e,by simp,hb,.inr h1⟩);·rw[if_neg hb]at h1;exact .inl h1);·exact .inr ⟨e',by simp[he],hb,hh⟩
theorem Draw.bef{ops:Array Oper}(D:Draw P fl ops){S:Nat->Prop}(hS:b3N ops S):∀(j:Nat)(o:Oper),ops[j]? =some o->(∀e∈o.after,Region.binds .any e=true->S e.on)->∀i,bef ops j i=true->S i:=by
 intro j;induction j using Nat.strongRecOn with| _ j ih=>intro o ho hr i hb;obtain⟨r,h1,h2,h3⟩:=b1V ops.toList [];simp only[fQ]at h1 h3;unfold Go.Ds.bef at hb;rw[h1,dG,h3 j o (by simpa using ho),ga]at hb;rcases a9v _ _ hb with h|⟨e,he,hbind,hh⟩;(·simp at h);·(have he':e∈o.after:=by simpa using he);have hlt:=D.back j o e ho he' hbind;have hSe:=hr e he' hbind;rcases hh with rfl|hh;(·exact hSe);·have hj:j<ops.size:=(dM.1 ho).1;have hoe:ops[e.on]? =some (ops[e.on]'(by omega)):=dM.2 ⟨by omega,rfl⟩;refine ih e.on hlt _ hoe (λe' he' hb'=>hS _ _ hSe hoe e' he' hb') i ?_;unfold Go.Ds.bef;rw[h1];rw[dG,eP hlt]at hh;rw[dG];exact hh
theorem b6G{s t:TypeId}{A e:Nat}(h:a7e P H s t A e=true):b4c P s=true:=by unfold a7e at h;unfold b4c;split at h;(·rename_i h1 _ _;rw[h1]);(·rename_i h1 _ _;rw[h1]);·cases h
theorem b1R(H2:Heap){o:Oper}{l:List Value}{v:Value}{H':Heap}(hcv:wF P o=true)(hm:lD fl o.op=false)(ha:kI fl o.op=false)(hr:qA o.op=false)(hd:opD P o l H=some (v,H')): H'=H∧opD P o l H2=some (v,H2):=by
 obtain⟨dst,op,type,pos,after,guard⟩:=o;(have keep:∀{x:Option Value}{H':Heap},x.map (λv=>(v,H))=some (v,H')->H'=H∧x=some v:=by intro x H' h;cases x with| none=>cases h| some y=>injection h with h;injection h with h1 h2;exact⟨h2.symm,by rw[h1]⟩);(have plain:∀{H':Heap},mE P ⟨dst,op,type,pos,after,guard⟩ l H=some (v,H')->H'=H∧mE P ⟨dst,op,type,pos,after,guard⟩ l H2=some (v,H2):=by intro H' h;unfold mE at h ⊢;by_cases h1:(Oper.op ⟨dst,op,type,pos,after,guard⟩).operands.toList.all (λx=>flat (ev l x))=true;(·rw[if_pos h1]at h ⊢;cases h2:kC P (execOp (ev l) ⟨dst,op,type,pos,after,guard⟩)with| none=>rw[h2]at h;cases h| some nx=>rw[h2]at h;cases nx with| value v2=>simp only at h ⊢;by_cases h3:flat v2=true;(·rw[if_pos h3]at h ⊢;injection h with h;injection h with h4 h5;subst h4 h5;exact⟨rfl,rfl⟩);(·rw[if_neg h3]at h;cases h)| _=>cases h);·rw[if_neg h1]at h;cases h);cases op with| call c=>simp only[lD,qA]at hm hr;split at hm;(·rename_i h1;simp[h1]at hr);(·rename_i h1;simp only[opD,h1]at hd ⊢;exact plain hd);(·rename_i h1;simp only[opD,h1]at hd ⊢;exact plain hd);(·cases hm)| index t x i=>simp only[opD]at hd ⊢;split at hd;(·rename_i h1;simp only[h1,if_true];exact plain hd);(·rename_i h1;obtain⟨h2,h3⟩:=keep hd;exact⟨h2,by simp[h1,h3]⟩)| field t x f=>simp only[opD]at hd ⊢;split at hd;(·rename_i h1;simp only[h1,if_true];exact plain hd);(·rename_i h1;simp only[h1];split at hd;(·rename_i cs h2;simp only[dF]at hd;obtain⟨fd,h3,hd⟩:=hd;split at hd;(·rename_i h4;simp only[dO]at hd;obtain⟨n,h5,hd⟩:=hd;injection hd with h6 h7;subst h6 h7;exact⟨rfl,by simp only[h3,dD,h4,h5,eG,eN,if_false]⟩);(·rename_i h4;simp only[dO]at hd;obtain⟨n,h5,hd⟩:=hd;injection hd with h6 h7;subst h6 h7;exact⟨rfl,by simp only[h3,dD,h4,h5,eG,eN,if_false]⟩);·cases hd);·cases hd)| slice t x lo hi mx=>(cases mx with| some _=>simp only[opD]at hd;cases hd| none=>simp only[opD]at hd ⊢;split at hd;(·rename_i h1;simp only[h1,if_true];exact plain hd);·rename_i h1;simp only[wF,Option.isNone_iff_eq_none]at hcv;simp only[hcv]at hd ⊢;obtain⟨h2,h3⟩:=keep hd;exact⟨h2,by simp[h1,h3]⟩)| fieldAddr s x f=>simp only[opD]at hd ⊢;split at hd;(·rename_i A i e h1;simp only[dF]at hd;obtain⟨fd,h3,n,h4,hd⟩:=hd;split at hd;(·cases hd);·rename_i h5;injection hd with hd;injection hd with h6 h7;subst h6 h7;exact⟨rfl,by simp only[h3,h4,dD];rw[if_neg h5]⟩);(·cases hd)| indexAddr t x ix=>simp only[opD]at hd ⊢;split at hd;(all_goals first| cases hd;done| (rename_i h1 h2 h3;simp only[dF]at hd;obtain⟨n,h4,hd⟩:=hd;split at hd;(·rename_i h5;injection hd with hd;injection hd with h6 h7;subst h6 h7;exact⟨rfl,by simp only[h4,dD,h5,if_true]⟩);·cases hd))| binOp bo t x y z=>simp only[opD]at hd ⊢;split at hd;(·rename_i h2 h3;split at hd;(·rename_i h4;injection hd with hd;injection hd with h6 h7;subst h6 h7;exact⟨rfl,by first|rw[if_pos h4]|simp only[h2,h3,h4,if_true]⟩);·cases hd);(·rename_i h2 h3;split at hd;(·rename_i h4;injection hd with hd;injection hd with h6 h7;subst h6 h7;exact⟨rfl,by first|rw[if_pos h4]|simp only[h2,h3,h4,if_true]⟩);·cases hd);(·rename_i k a k' b h2 h3;split at hd;(·rename_i h4;rw[if_pos h4];split at hd;(·rename_i r h5;injection hd with hd;injection hd with h6 h7;subst h6 h7;exact⟨rfl,by first|rfl|simp only[h5]⟩);·rename_i h5;first|exact plain hd|(simp only[h5];exact plain hd));·rename_i h4;rw[if_neg h4];exact plain hd);(all_goals first| exact plain hd| (split at hd;(·rename_i h4;injection hd with hd;injection hd with h6 h7;subst h6 h7;exact⟨rfl,if_pos h4⟩);·cases hd)| (simp only[*];exact plain hd))| build t parts=>simp only[opD]at hd ⊢;split at hd;(·rename_i h1;simp only[dO]at hd;obtain⟨cs,h2,hd⟩:=hd;injection hd with h6 h7;subst h6 h7;exact⟨rfl,by rw[if_pos h1,h2];rfl⟩);(·cases hd)| unOp uo t x=>simp only[opD]at hd ⊢;split at hd;(·rename_i h1;injection hd with hd;injection hd with h6 h7;subst h6 h7;exact⟨rfl,by simp only[]⟩);(·first|exact plain hd|(simp only[*];exact plain hd))| convert _ _ _=>simp[qA]at hr| makeInterface _ _=>simp only[opD]at hd ⊢;exact plain hd| move x=>simp only[opD]at hd ⊢;injection hd with hd;injection hd with h6 h7;subst h6 h7;exact⟨rfl,by first|rfl|simp only[h1]⟩| assign x=>simp only[opD]at hd ⊢;injection hd with hd;injection hd with h6 h7;subst h6 h7;exact⟨rfl,by first|rfl|simp only[h1]⟩| pick c x y=>simp only[opD]at hd ⊢;split at hd;(·rename_i h1;injection hd with hd;injection hd with h6 h7;subst h6 h7;exact⟨rfl,by first|rfl|simp only[h1]⟩);(·cases hd)| nilCheck x=>simp only[opD]at hd ⊢;split at hd;(·rename_i h1;injection hd with hd;injection hd with h6 h7;subst h6 h7;exact⟨rfl,by first|rfl|simp only[h1]⟩);(·rename_i h1;injection hd with hd;injection hd with h6 h7;subst h6 h7;exact⟨rfl,by first|rfl|simp only[h1]⟩);(·cases hd)| extract x i=>simp only[opD]at hd ⊢;split at hd;(·obtain⟨h2,h3⟩:=keep hd;exact⟨h2,by first|(rw[h3];rfl)|simp[*]⟩);(·cases hd)| makeFunc fn first captured=>simp only[opD]at hd ⊢;split at hd;(·split at hd;(·rename_i h1;injection hd with hd;injection hd with h6 h7;subst h6 h7;exact⟨rfl,by rw[if_pos h1]⟩);·cases hd);(·cases hd)| alloc t=>simp[kI]at ha| buildSlice a b c=>simp[lD]at hm;simp[kI,hm]at ha| makeSlice a b c=>simp[lD]at hm;simp[kI,hm]at ha| load t x=>simp[qA]at hr| lookup a b c d=>simp[qA]at hr| _=>first|(simp only[opD]at hd;cases hd;done)|(simp[lD]at hm;done)
theorem a2y{o:Oper}{l:List Value}{v:Value}{H':Heap}(hcv:wF P o=true)(hr:qA o.op=true)(hd:opD P o l H=some (v,H')):H'=H:=by
 obtain⟨dst,op,type,pos,after,guard⟩:=o;(have keep:∀{x:Option Value}{H':Heap},x.map (λv=>(v,H))=some (v,H')->H'=H:=by intro x H' h;cases x with| none=>cases h| some y=>injection h with h;injection h with h1 h2;exact h2.symm);cases op with| load t x=>simp only[opD]at hd;exact keep hd| lookup a b c d=>simp only[opD]at hd;exact keep hd| convert s t x=>simp only[wF,dE,eF]at hcv;simp only[opD]at hd;split at hd;(·unfold mE at hd;split at hd;(·split at hd;(·split at hd;(·injection hd with hd;injection hd with h1 h2;exact h2.symm);·cases hd);·cases hd);·cases hd);(·split at hd;(·split at hd;(·exact keep hd);·cases hd);(·split at hd;(·rename_i h1;simp only[dE]at h1;rw[hcv.1]at h1;cases h1.1.1);·cases hd);(·split at hd;(·rename_i h1;have:=b6G h1;rw[hcv.2]at this;cases this);·cases hd);·cases hd)| call c=>simp only[qA]at hr;split at hr;(·rename_i h1;simp only[opD,h1]at hd;split at hd;(·split at hd;(·exact keep hd);(·exact keep hd);(·exact keep hd);·cases hd);·cases hd);(·cases hr)| _=>simp[qA]at hr
end
end Go.Ds
