/-
  A part of the proof of ReasonCompares.
-/
import Derived.Test.YtfmbcecfgpbmhaaGreatDoorVE
import Derived.Test.YtfmbcecfgpbmhaaGreatDoorVF
import Derived.Test.YtfmbcecfgpbmhaaGreatDoorVG
import Derived.Test.YtfmbcecfgpbmhaaGreatDoorVH
import Derived.Test.YtfmbcecfgpbmhaaGreatDoorVC
import Derived.Test.YtfmbcecfgpbmhaaGreatDoorVD
import Derived.WideShapes
import Derived.OpenShut
import Derived.Handed
import Derived.LaidMore
import Derived.ProofKit
import Derived.Stop.Joined
import Derived.Test.YtfmbcecfgpbmhaaGreatDoorRows
set_option linter.unusedVariables false
set_option linter.unusedSimpArgs false
set_option linter.defProp false
set_option linter.unusedSectionVars false
namespace Go.Ds
open Go.Proofs Go.Proofs.Tryz
variable {H:Heap}
theorem b3m{P:Program}{k:FuncId}{args:List Value}{v:Value}{G:Heap}(hfa:∀x∈args,flat x=true)(hv:flat v=true)(h:Fn P k args G fun r _=>r=v)(hG:Glob G H):Fn P k args H fun r H'=>r=v∧St P H H' []:=by
 obtain⟨h1,r,H1,h2,rfl⟩:=h
 exact⟨h1,r,H,CallOk.bP hfa hv h2 hG,rfl,St.refl _ _⟩
theorem a8C{fs:List FuncId}{α:Type}{ps:List α}{f:LT→α→Bool}(h:(rY prog fs .e fun T=>ps.all fun x=>f T x)=true):∃T,TOk prog T∧∀x∈ps,f T x=true:=by
 obtain⟨T,hT,e⟩:=a5u (P:=prog) fs .e (fun f g h=>by rw[uW]at h;cases h) (fun T=>ps.all fun x=>f T x)
 rw[e]at h
 exact⟨T,hT,dJ.1 h⟩
theorem a0E{T:LT}(hT:TOk prog T){k:FuncId}{args:List Value}{v:Value}{H1:Heap}(h:(nT T (exF prog T 4000) [] (kW k) args gH).Is v H1):Fn prog k args gH fun r _=>r=v:=
 ((vJ hT (b5L c0w hT 4000) (fun en hen=>by cases hen) rfl h).1.fn).mono fun _ _ h=>h.1
end Go.Ds
namespace Go.Ds
open Go.Proofs
variable {H:Heap}
set_option maxRecDepth 100000
def up:Nat→Int×Int×Int→Int×Int×Int
 | 0,s=>s
 | n+1,s=>if s.1<s.2.1 then up n (s.1*2,s.2.1,s.2.2-12)else s
def dn:Nat→Int×Int×Int→Int×Int×Int
 | 0,s=>s
 | n+1,s=>if 2*s.2.1≤s.1 then dn n (s.1,s.2.1*2,s.2.2+12)else s
end Go.Ds
namespace Go.Ds
open Go.Proofs
variable {H:Heap}
theorem St.gl{P:Program}{G H:Heap}{B:Heap}{os:List Ob}(hS:St P B H os)(hG:Glob G B):Glob G H:=
 ⟨dK hG.len hS.len,fun A hA=>by rw[hS.ag A (dV hA hG.len)];exact hG.same A hA,hG.glob⟩
end Go.Ds
namespace Go.Ds
open Go.Proofs
variable {P:Program} {H:Heap}
structure Pul where
 rank:Nat
 feet:Nat
 kind:Nat
 pos:Nat
 deriving Inhabited
def Pul.cells(p:Pul):List Value:=[.int .u8 p.rank,.int .u8 p.feet,.int .u8 p.kind,.int .u8 p.pos]
def Pul.Ok(p:Pul):Prop:=p.rank<256∧p.feet<256∧p.kind<256∧p.pos<256
section
variable {H':Heap} {os:List Ob}
end
structure Brd where
 low:Nat
 keys:Nat
 pedal:Bool
 sv:Value
 stops:List Pul
 deriving Inhabited
structure Lnk where
 src:Nat
 dst:Nat
 shift:Int
 thr:Bool
 deriving Inhabited
structure Pln where
 rv:Value
 ranks:List RPl
 dv:Value
 dvs:List Brd
 cv:Value
 cpls:List Lnk
 deriving Inhabited
def Brd.cells(b:Brd):List Value:=[.int .u8 b.low,.int .u8 b.keys,.bool b.pedal,b.sv]
def Lnk.cells(l:Lnk):List Value:=[.int .u8 l.src,.int .u8 l.dst,.int .i8 l.shift,.bool l.thr]
def Pln.cells(p:Pln):List Value:=[p.rv,p.dv,p.cv]
def Brd.In(H:Heap)(b:Brd):Prop:=Sl 4 Pul.cells H b.sv b.stops∧b.stops.length<9223372036854775808
def Pln.In(H:Heap)(p:Pln):Prop:=Sl 9 RPl.cells H p.rv p.ranks∧Sl 4 Brd.cells H p.dv p.dvs∧(∀b∈p.dvs,b.In H)∧Sl 4 Lnk.cells H p.cv p.cpls∧p.ranks.length<9223372036854775808∧p.dvs.length<9223372036854775808∧p.cpls.length<9223372036854775808
def Brd.Ok(b:Brd):Prop:=b.low<256∧b.keys<256∧∀s∈b.stops,s.Ok
def Lnk.Ok(l:Lnk):Prop:=l.src<256∧l.dst<256∧-128≤l.shift∧l.shift<128
def Pln.Ok(p:Pln):Prop:=(∀r∈p.ranks,r.Ok)∧(∀b∈p.dvs,b.Ok)∧∀l∈p.cpls,l.Ok
theorem Brd.In.ag{H0:Heap}{os:List Ob}{b:Brd}(h:b.In H0)(hS:St P H0 H os):b.In H:=⟨hS.sl h.1,h.2⟩
theorem Pln.In.ag{H0:Heap}{os:List Ob}{p:Pln}(h:p.In H0)(hS:St P H0 H os):p.In H:=⟨hS.sl h.1,hS.sl h.2.1,fun b hb=>(h.2.2.1 b hb).ag hS,hS.sl h.2.2.2.1,h.2.2.2.2⟩
end Go.Ds
namespace Go.Ds
open Go.Proofs
variable {H:Heap}
set_option maxRecDepth 10000
structure Made(p:Pln)(o:Org):Prop where
 ok:OrgOk o
 rlen:o.ranks.length=p.ranks.length
 dlen:o.dvs.length=p.dvs.length
 clen:o.cpls.length=p.cpls.length
 slen:∀j,j<p.dvs.length→(iG o.dvs j).stops.length=(iG p.dvs j).stops.length
end Go.Ds
namespace Go.Ds
open Go.Proofs
variable {H:Heap}
set_option maxRecDepth 10000
set_option maxHeartbeats 1000000
end Go.Ds
namespace Go.Ds
open Go.Proofs Go.Proofs.Tryz Go.ChangeShapes Go.WideShapes Go.RowKit Go.Deep
set_option maxRecDepth 10000
section
variable {H0:Type} {enc:TypeId×Value→H0} {w:World} {base n:Nat} {spare:Nat→Bool} {lW:Bool} {x:DataW H0×List MemPlace}
theorem b6J{t:TypeId}{fs:Array Field}{cs:List Value}(ht:prog.underlying t=some (.struct fs))(h:DataW.trod enc prog w base spare lW n t cs=some x):
 cs.length=prog.cellsOf t∧∃m,∀(i:Nat)(f:Field),fs[i]? =some f→∃y,DataW.trod enc prog w base spare lW m f.type ((cs.drop f.offset).take (prog.cellsOf f.type))=some y:=by
 obtain⟨xs,m,_,_,hl,hxl,hf⟩:=DataW.trod_struct ht h
 refine⟨hl,m,fun i f hi=> ?_⟩
 have hlt:i<xs.length:=by rw[hxl];exact(dz.1 hi).1
 exact⟨xs[i],by rw[hf i f hi,dx hlt]⟩
end
theorem All2.at{α β:Type}{R:α→β→Prop}:∀{l:List α}{l':List β},All2 R l l'→∀(i:Nat)c,l[i]? =some c→∃c',l'[i]? =some c'∧R c c'
 | [],[],_,i,c,h=>by simp at h
 | a::l,b::l',h,0,c,hc=>by
   simp only[fp,dH]at hc
   subst hc
   exact⟨b,rfl,h.1⟩
 | a::l,b::l',h,i+1,c,hc=>All2.at h.2 i c (by simpa using hc)
section
variable {P:Program} {ρ:Rho} {H:Heap} {w:World} {base:Nat}
theorem b5X{α:Type}[Inhabited α]{cel:α→List Value}{sz:Nat}(h:InW P ρ H w){b0:Nat}{cur0:Array Value}{t0:TypeId}{fr0:Nat×Nat}(hb0:w.heap[b0]? =some (.cells cur0 t0 fr0)){ty:TypeId}(hty:iJ P ty=some sz)(hs:0<sz)(hc:∀x,(cel x).length=sz)
 {a:Addr} {len cap:Nat} (hl:len≤cap) (f:Nat→List Value) (hf:∀i,i<cap→w.cells? base (a.add (i*sz)) sz=some (f i)) (xs:List α) (hx:xs.length=len) (hR:∀i,i<len→All2 (C1 ρ) (cel (iG xs i)) (f i)):
 ∃ρ' H' v,InW P ρ' H' w∧ExtW ρ H ρ' H'∧C1 ρ' v (.slice (some a) len cap)∧Sl sz cel H' v xs:=by
 have hcell:∀q r,q<cap→r<sz→w.cell? (a.add (q*sz+r))=(f q)[r]?∧(f q).length=sz:=fun q r hq hr=>by
  obtain⟨_,h1,h2⟩:=World.cells?_some (hf q hq)
  have:=h2 r hr
  rw[add_add]at this
  exact⟨this,h1⟩
 have hqr:∀i n,i<n*sz→i/sz<n∧i%sz<sz∧i=i/sz*sz+i%sz:=fun i n hi=>by
  refine⟨Nat.div_lt_of_lt_mul (by rwa [Nat.mul_comm]),iD _ hs,?_⟩
  rw[Nat.mul_comm]
  exact(Nat.div_add_mod i sz).symm
 obtain⟨ρ',H',v,h1,h2,h3,h4⟩:=h.slice hb0 hty hs hl (fun i hi=>by
  obtain⟨k1,k2,k3⟩:=hqr i cap hi
  obtain⟨e1,e2⟩:=hcell _ _ k1 k2
  rw[k3,e1,dx (by omega)]
  rfl) (xs.flatMap cel) (by rw[jF hc,hx]) (fun i c hi=>by
  have hi':i<len*sz:=by
   have:=(dy.1 hi).1
   rwa [jF hc,hx]at this
  obtain⟨k1,k2,k3⟩:=hqr i len hi'
  rw[k3,a3c hc xs _ _ (by omega) k2]at hi
  obtain⟨c',g1,g2⟩:=(hR _ k1).at _ _ hi
  refine⟨c',?_,g2⟩
  rw[k3,(hcell _ _ (by omega) k2).1,g1])
 exact⟨ρ',H',v,h1,h2,h3,h4,hc,hs⟩
end
theorem Sl.ext{α:Type}{sz:Nat}{cel:α→List Value}{ρ ρ':Rho}{H H':Heap}{v:Value}{xs:List α}(h:Sl sz cel H v xs)(e:ExtW ρ H ρ' H'):Sl sz cel H' v xs:=⟨h.rd.ag e.old,h.hc,h.pos⟩
theorem All2.flat{ρ:Rho}:∀(l:List Value),(∀c∈l,iZ c=true)→All2 (C1 ρ) l l
 | [],_=>trivial
 | c::l,h=>⟨.c0 (.flat (h c (eX ..))),All2.flat l fun d hd=>h d (eH _ hd)⟩
section
variable {H0:Type} {enc:TypeId×Value→H0} {w:World} {base fuel:Nat} {lW:Bool} {x:DataW H0×List MemPlace} {ρ:Rho} {H:Heap}
theorem b7L{α:Type}[Inhabited α]{cel:α→List Value}{ok:α→Prop}{t e:TypeId}{sz:Nat}(ht:prog.underlying t=some (.slice e))(hce:prog.cellsOf e=sz)(hty:iJ prog e=some sz)(hs:0<sz)(hc:∀x,(cel x).length=sz)(hsc:∀x,∀c∈cel x,iZ c=true)
 (hit:∀{n cs}{x:DataW H0×List MemPlace},DataW.trod enc prog w base (fun _=>true) lW n e cs=some x→∃p,cs=cel p∧ok p)
 (h:InW prog ρ H w) {b0:Nat} {cur0:Array Value} {t0:TypeId} {fr0:Nat×Nat} (hb0:w.heap[b0]? =some (.cells cur0 t0 fr0)) {v:Value} (hv:DataW.trod enc prog w base (fun _=>true) lW fuel t [v]=some x):
 ∃ρ' H' v' xs,InW prog ρ' H' w∧ExtW ρ H ρ' H'∧C1 ρ' v' v∧Sl sz cel H' v' xs∧(∀x∈xs,ok x)∧xs.length<9223372036854775808:=by
 rcases open_slice ht hv with⟨hcs,_⟩|⟨a,len,cap,m,n,D,Pl,hcs,_,hl,hm,hmm,_,hi⟩
 ·obtain rfl:v=.slice none 0 0:=by simpa using hcs
  exact⟨ρ,H,.slice none 0 0,[],h,.refl _ _,.c0 (.flat rfl),⟨.inl ⟨rfl,rfl⟩,hc,hs⟩,by simp,by simp⟩
 ·obtain rfl:v=.slice (some a) len cap:=by simpa using hcs
  simp only[if_true]at hmm
  subst hmm
  rw[hce]at hi
  obtain⟨f,hf⟩:=choose_lt (α:=α) (p:=fun i p=>w.cells? base (a.add (i*sz)) sz=some (cel p)∧ok p) (fun i hi'=>by
   obtain⟨cs',h1,h2⟩:=hi i hi'
   obtain⟨p,rfl,hp⟩:=hit h2
   exact⟨p,h1,hp⟩)
  have hn:∀i,i<len→iG ((List.range len).map f) i=f i:=fun i hi=>by
   rw[b8S _ (by simpa using hi),jV _ _ (by simpa using hi),List.getElem_range]
  obtain⟨ρ',H',v',h1,h2,h3,h4⟩:=b5X h hb0 hty hs hc hl (fun i=>cel (f i)) (fun i hi=>(hf i hi).1) ((List.range len).map f) (by simp) (fun i hi=>by
   rw[hn i hi]
   exact All2.flat _ (hsc _))
  refine⟨ρ',H',v',_,h1,h2,h3,h4,fun x hx=> ?_,?_⟩
  ·obtain⟨i,hi,rfl⟩:=dE.1 hx
   exact(hf i (by have:=dG.1 hi;omega)).2
  ·have:maxLen=9223372036854775807:=rfl
   simp
   omega
end
end Go.Ds
namespace Go.Ds
open Go.Proofs Go.ChangeShapes Go.WideShapes Go.RowKit Go.Deep
set_option maxRecDepth 10000
section
variable {H0:Type} {enc:TypeId×Value→H0} {w:World} {base fuel:Nat} {lW:Bool} {x:DataW H0×List MemPlace} {ρ:Rho} {H:Heap}
end
end Go.Ds
namespace Go.Ds
open Go.Proofs Go.ChangeShapes Go.WideShapes Go.RowKit Go.Deep
section
variable {H:Type} {enc:TypeId×Value→H}
theorem a2Q{a:Assume}{C:Checked}{os:Os}{f:FuncId}{fn:Func}{s:ChangeSpec}{conds:List PathCond}{apart fresh handsOn again:Bool}{X:World→Array Value→Prop}
 (hX:∀(w w':World)(args:Array Value),w.heap=w'.heap→X w args→X w' args)
 (own:ownKnob C.prog.godebug=none) (started:os.Started) (noInit:C.prog.inits.idxOf? f=none) (hfn:C.prog.funcs[f]? =some fn)
 (witness:∃(w:World)(tape:Tape)(i:Input),w.os=os∧(w.forCall tape i).Shaped C.prog∧i.vars=[]∧Input.okWide C.prog (w.forCall tape i) .any w.heap.size f i∧
   ((s.pre enc C.prog fn conds apart (w.forCall tape i).memory i.args∧X (w.forCall tape i).memory i.args)∧sizedMet enc C.prog fn (OpenSpec.ofChange s) apart (w.forCall tape i).memory i.args)∧a.holds C.prog (lone (Frame.enter C.prog f i.args .normal) [] (w.forCall tape i)))
 (contract:∀(W:World)(args:Array Value)(ds gs:List (DataW H))(before:List MemPlace),W.ShapedOpen C.prog→
   (∃base,∀(j:Nat)t v,fn.params[j]? =some t→args[j]? =some v→Value.okWide C.prog W .any base t v)→
   DataW.Whole enc C.prog fn.params.toList s.vars apart W args.toList ds gs before→X W args→
   Calls C.prog f args W fun e W'=>∃v,e=.returned v∧s.post enc C.prog fn apart fresh handsOn again W args v W'):
 ReturnsInHanded a C os f .any (fun w args=>(s.pre enc C.prog fn conds apart w args∧X w args)∧sizedMet enc C.prog fn (OpenSpec.ofChange s) apart w args) (s.post enc C.prog fn apart fresh handsOn again):=by
 refine returnsInHanded_of_calls own started noInit witness ?_
 intro w tape i _ hsh _ hok hpre hholds
 obtain⟨_,_,_,fn',hfn',_,_,_,_,hval⟩:=hok
 obtain rfl:fn'=fn:=dc (hfn'.symm.trans hfn)
 obtain⟨⟨⟨ds,gs,before,hw,hc⟩,hx⟩,hz⟩:=hpre
 refine(contract (w.forCall tape i) i.args ds gs before hsh ⟨_,hval⟩ (DataW.Whole.of_heap (w':=w.forCall tape i) (by rfl) hw) (hX _ _ _ (by rfl) hx)).mono fun e W'⟨v,he,hp⟩=> ?_
 subst he
 exact ChangeSpec.post_blind hp
end
end Go.Ds
namespace Go.Proofs.YtfmbcecfgpbmhaaGreatDoor
open Go.ChangeShapes Go.WideShapes Go.ChangeAt Go.RowKit Go.Deep Go.Ds
theorem own:ownKnob Tryz.prog.godebug=none:=by kernel_rfl
theorem laidOut:laidOutB Tryz.prog=true:=by kernel_rfl
def laid3:List (String×DataW Unit):=[("math/bits.deBruijn32tab",Rows.laid_math_bits_deBruijn32tab),("math/bits.deBruijn64tab",Rows.laid_math_bits_deBruijn64tab),("internal/strconv.uint64pow10",Rows.laid_internal_strconv_uint64pow10)]
theorem door_met(os:Os)(args:Array Value):laidMetH Tryz.prog laid3 ((World.doorLaid Tryz.prog 400 os).forCall (fun _ _=>0) ⟨#[],args,[]⟩).memory:=
 laidMetH_of_parts3 (fuel:=8) (laidMet_of_run' 8 (by kernel_rfl) (by kernel_rfl)) (by kernel_rfl) (by kernel_rfl)
set_option maxRecDepth 100000 in
theorem of_laid{W:World}(h:laidMetH Tryz.prog laid3 W)(hsh:W.ShapedOpen Tryz.prog):(∃ρ,InW Tryz.prog ρ gH W)∧∃cs t fr,W.heap[0]? =some (.cells cs t fr):=by
 rw[MakeChecks.laidMetH_plain _ _ _ (by kernel_rfl)]at h
 have h32:Lib.TabIs Tryz.prog W "math/bits.deBruijn32tab" .u8 (t32.map Int.ofNat):=Lib.tabIs_of_head (g:=3) g32 (t:=359) (by kernel_rfl) Tryz.underlying359 (e:=5) (n:=32) Tryz.underlying5 (by kernel_rfl) (by kernel_rfl) (rest:=_) h
 have h64:Lib.TabIs Tryz.prog W "math/bits.deBruijn64tab" .u8 (t64.map Int.ofNat):=Lib.tabIs_of_head (g:=0) g64 (t:=294) (by kernel_rfl) Tryz.underlying294 (e:=5) (n:=64) Tryz.underlying5 (by kernel_rfl) (by kernel_rfl) (rest:=_) h.tail
 have h10:Lib.TabIs Tryz.prog W "internal/strconv.uint64pow10" .u64 (p10):=Lib.tabIs_of_head (g:=2) yT (t:=339) (by kernel_rfl) Tryz.underlying339 (e:=48) (n:=20) Tryz.underlying48 (by kernel_rfl) (by kernel_rfl) (rest:=_) h.tail.tail
 obtain⟨cs1,h1001,_⟩:=hsh.1 1 #[.int .i64 0] 3 (by rw[show Tryz.prog.globals.size=4 from by kernel_rfl];decide) (by kernel_rfl)
 obtain⟨t,fr,h0⟩:=a3H g64 h64
 exact⟨b8y h64 h10 h32 ⟨_,_,_,h1001⟩,_,_,_,h0⟩
end Go.Proofs.YtfmbcecfgpbmhaaGreatDoor
