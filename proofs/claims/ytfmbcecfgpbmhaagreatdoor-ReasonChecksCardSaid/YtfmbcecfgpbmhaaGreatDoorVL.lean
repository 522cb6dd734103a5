/-
  A part of the proof of ReasonChecks.
-/
import Derived.Test.YtfmbcecfgpbmhaaGreatDoorVD
import Derived.Test.YtfmbcecfgpbmhaaGreatDoorVB
import Derived.Test.YtfmbcecfgpbmhaaGreatDoorVK
import Derived.Shelf.SlGeneric
import Derived.Shelf.SlLaysF0
import Derived.Test.YtfmbcecfgpbmhaaGreatDoorProg
import Derived.Shelf.SlSortCmp.NoneTotal
import Derived.Test.YtfmbcecfgpbmhaaGreatDoorVC
import Derived.Test.YtfmbcecfgpbmhaaGreatDoorVI
set_option linter.unusedVariables false
set_option linter.unusedSimpArgs false
set_option linter.defProp false
set_option linter.unusedSectionVars false
namespace Go.Ds
open Go.Proofs
open Go.Shelf Go.RowKit Go.Lib Go.Sort
def b8b(P:Program)(K kc:FuncId)(k:Nat):Prop:=∀{N:Nat}[Inhabited (Fin N)](enc:Fin N→List Value)(_:∀x,(enc x).length=k)(_:∀x,∀v∈enc x,v.oneCell'=true)(cf:Fin N→Fin N→Int)(_:SWO (ltOf cf))(_:∀x y,(ltOf cf) x y=false→(ltOf cf) y x=false→x=y)(kY off cap:Nat)(d:Array (Fin N))(w:World),
    CmpLays P kc #[] enc k cf kY off d.size w→HoldsK enc k w kY off d→kY<w.heap.size→d.size<4611686018427387904→
    Calls P K #[.slice (some ⟨kY,off,none⟩) d.size cap,.func (.func kc) #[] #[]] w fun e w'=>e=.returned (.tuple #[])∧∃n os,w'=sortWorldK enc k w kY off n (d.toList.mergeSort fun x y=> !(ltOf cf) y x).toArray os
theorem b7Z{α:Type}[Inhabited α]{enc:α→List Value}{k:Nat}(hk0:0<k)(hk:∀x,(enc x).length=k):∀(l:List α)(j:Nat),j<l.length*k→(enc (l.toArray[j/k]!))[j%k]! =(l.flatMap enc).getD j undef:=by
 intro l
 induction l with
 | nil=>intro j hj;simp at hj
 | cons x l ih=>
   intro j hj
   rw[ed]
   by_cases h:j<k
   ·have h1:j/k=0:=ij h
    have h2:j%k=j:=ig h
    rw[h1,h2,dE,eW (by rw[hk];exact h)]
    simp only[List.getElem!_toArray,List.getElem!_cons_zero]
    rw[dM (by rw[hk];exact h),List.getElem!_eq_getElem?_getD,dM (by rw[hk];exact h)]
    rfl
   ·have h1:j/k=(j-k)/k+1:=by
     rw[←Nat.sub_add_cancel (iH h),Nat.add_div_right _ hk0,Nat.add_sub_cancel]
    have h2:j%k=(j-k)%k:=by
     conv=>lhs;rw[←Nat.sub_add_cancel (iH h),Nat.add_mod_right]
    have h3:=ih (j-k) (by rw[dS,gp]at hj;omega)
    rw[h1,h2,dE,eH (by rw[hk];omega),hk,←dE,←h3]
    simp only[List.getElem!_toArray,List.getElem!_cons_succ]
theorem a8P{α:Type}{enc:α→List Value}{k:Nat}(hk:∀x,(enc x).length=k)(l:List α):(l.flatMap enc).length=l.length*k:=by
 rw[List.length_flatMap]
 induction l with
 | nil=>simp
 | cons x l ih=>rw[eK,List.sum_cons,ih,hk,dS,gp];omega
theorem All2.bE{α:Type}{R:Value→Value→Prop}{f g:α→List Value}(h:∀x,All2 R (f x) (g x)):∀l:List α,All2 R (l.flatMap f) (l.flatMap g)
 | []=>trivial
 | x::l=>by
   rw[ed,ed]
   exact(h x).append (All2.bE h l)
theorem All2.db{R:Value→Value→Prop}:∀{l m:List Value},l.length=m.length→(∀(j:Nat)(c:Value),l[j]? =some c→∃c',m[j]? =some c'∧R c c')→All2 R l m
 | [],[],_,_=>trivial
 | [],_::_,h,_=>by cases h
 | _::_,[],h,_=>by cases h
 | a::l,b::m,h,hh=>by
   obtain⟨c',h1,h2⟩:=hh 0 a rfl
   cases h1
   exact⟨h2,All2.db (by simpa using h) fun j c hj=>hh (j+1) c hj⟩
theorem a7q{k:Nat}:∀{rs:List (List Value)},(∀r∈rs,r.length=k)→rs.flatten.length=rs.length*k
 | [],_=>by simp
 | r::rs,h=>by
   rw[List.flatten_cons,dH,a7q fun x hx=>h x (fb _ hx),h r (fh ..),dS,gp]
   omega
theorem b3g{k:Nat}:∀{rs:List (List Value)}(_:∀r∈rs,r.length=k)(x:Fin rs.length)(t:Nat),t<k→rs.flatten[x.1*k+t]? =(rs[x])[t]?
 | [],_,x,_,_=>absurd x.2 (ez _)
 | r::rs,h,⟨0,_⟩,t,ht=>by
   rw[List.flatten_cons,Nat.zero_mul,fR,eW (by rw[h r (fh ..)];exact ht)]
   rfl
 | r::rs,h,⟨x+1,hx⟩,t,ht=>by
   have hr:=h r (fh ..)
   rw[List.flatten_cons,gp,eH (by rw[hr];omega),hr,show x*k+k+t-k=x*k+t from by omega]
   exact b3g (fun x hx=>h x (fb _ hx)) ⟨x,by simpa using hx⟩ t ht
theorem d1m(N:Nat)(j:Nat)(h:j<N)[Inhabited (Fin N)]:((List.finRange N).toArray)[j]! =⟨j,h⟩:=by
 simp[h]
set_option maxRecDepth 10000 in
theorem b5Z{P:Program}{K kc:FuncId}{k:Nat}(hk0:0<k)(hso:b8b P K kc k){H:Heap}{A i lo ver:Nat}{ty:TypeId}{pre:List Value}{rs:List (List Value)}(hne:0<rs.length)(hbig:rs.length<100000000000)(hrk:∀r∈rs,r.length=k)
 (hg:jS H A=some (.cells (pre++rs.flatten) ty true lo ver)) (hlo:lo≤i+rs.flatten.length) (hpre:pre.length=i) (hty:jD P ty=some k) (cf:Fin rs.length→Fin rs.length→Int) (hO:SWO (ltOf cf)) (hT:∀x y,(ltOf cf) x y=false→(ltOf cf) y x=false→x=y)
 (hcmp:∀{ρ:Rho}{w:World}{p:Place},HRel P ρ H w→ρ A (i+rs.flatten.length)=some p→∀enc:Fin rs.length→List Value,(∀x,All2 (C1 ρ) rs[x] (enc x))→∀W:World,(∀b,b<w.heap.size→b≠p.b→W.heap[b]? =w.heap[b]?)→w.heap.size≤W.heap.size→∀x y,Calls P kc #[.agg (enc x).toArray,.agg (enc y).toArray] W fun e w'=>e=.returned (.int .i64 (cf x y))∧∃q os',w'=Go.Sort.grow (W.drewN q) os'):
 CallOk P K [.slice (some ⟨A,i,some (i+rs.flatten.length)⟩) rs.length k,.func (.func kc) #[] #[]] H (.tuple #[]) (hset H A (.cells (jZ (pre++rs.flatten) i (((List.finRange rs.length).mergeSort fun x y=> !(ltOf cf) y x).flatMap fun x=>rs[x])) ty true (pre++rs.flatten).length ver)):=by
 haveI:Inhabited (Fin rs.length):=⟨⟨0,hne⟩⟩
 intro q ρ w args' hr ha
 obtain⟨l⟩:=args'
 match l,ha with
 | [x,f],⟨hx,hf,_⟩=>
   obtain rfl:=V.func0 hf
   have hfl:=a7q hrk
   have hlen:(pre++rs.flatten).length=i+rs.flatten.length:=by rw[dH,hpre]
   obtain⟨p,c',a,hp,h0',hin,hnc,hac,hpk,rfl⟩:=hx.ay
   have ha':a=⟨p.b,p.at i,none⟩:=by
    rcases hac with h|h
    ·exact h.1
    ·omega
   subst ha'
   have hp2:ρ A (pre++rs.flatten).length=some p:=by rw[hlen];exact hp
   obtain⟨_,_,hfit,cur,ty',fr,hw,hsz,hfr,hcell⟩:=(hr.cells _ _ _ _ _ _ hg).2 _ _ hp2
   obtain⟨rfl,hd0,_⟩:=hfr rfl
   have hNk:∀(x:Fin rs.length)(t:Nat),t<k→x.1*k+t<rs.length*k:=fun x t ht=>by
    have:=x.2
    calc x.1*k+t<x.1*k+k:=by omega
     _=(x.1+1)*k:=by rw[gp]
     _≤rs.length*k:=eL _ (by omega)
   have hcur:∀(x:Fin rs.length)(t:Nat),t<k→∀c,(rs[x])[t]? =some c→∃c',cur[p.at i+(x.1*k+t)]? =some c'∧C1 ρ c c':=fun x t ht c hc=>by
    have h1:=hNk x t ht
    have h2:(pre++rs.flatten)[i+(x.1*k+t)]? =some c:=by
     rw[eH (by omega),hpre,fB,b3g hrk x t ht]
     exact hc
    obtain⟨c2,h3,h4⟩:=hcell (by rw[hlen];exact hlo) (i+(x.1*k+t)) _ (by rw[hlen];omega) (by omega) h2
    have hat:p.at (i+(x.1*k+t))=p.at i+(x.1*k+t):=by unfold Place.at;omega
    rw[hat]at h3
    exact⟨c2,h3,h4⟩
   obtain⟨enc,henc⟩:∃enc:Fin rs.length→List Value,enc=fun x=>(List.range k).map fun t=>(cur[p.at i+(x.1*k+t)]?).getD undef:=⟨_,rfl⟩
   have hel:∀x,(enc x).length=k:=fun x=>by rw[henc];simp
   have hrl:∀x:Fin rs.length,(rs[x]).length=k:=fun x=>hrk _ (gL _)
   have hA:∀x,All2 (C1 ρ) rs[x] (enc x):=fun x=>by
    refine All2.db (by rw[hel,hrl]) fun t c hc=> ?_
    have ht:t<k:=by
     have:=(dO.1 hc).1
     rw[hrl]at this
     exact this
    obtain⟨c2,h1,h2⟩:=hcur x t ht c hc
    refine⟨c2,?_,h2⟩
    rw[henc]
    simp[ht,h1]
   have hone:∀x,∀v∈enc x,v.oneCell'=true:=fun x v hv=>(hA x).aK v hv
   obtain⟨d,hd⟩:∃d:Array (Fin rs.length),d=(List.finRange rs.length).toArray:=⟨_,rfl⟩
   have hds:d.size=rs.length:=by rw[hd];simp
   have hH:Go.Sort.HoldsK enc k w p.b (p.at i) d:=by
    intro j hj
    rw[Go.Sort.size_flatK,hds]at hj
    have hjk:j/k<rs.length:=Nat.div_lt_of_lt_mul (by rw[jc];exact hj)
    have hjm:j%k<k:=eU _ hk0
    constructor
    ·rw[Go.Sort.get_flatK _ _ _ _ (by rw[hds];exact hj),hd,d1m _ _ hjk]
     have hjj:j/k*k+j%k=j:=by rw[jc];exact Nat.div_add_mod j k
     obtain⟨c2,h1,_⟩:=hcur ⟨j/k,hjk⟩ (j%k) hjm _ (dM (by rw[hrl];exact hjm))
     simp only at h1
     rw[hjj]at h1
     have h2:(enc ⟨j/k,hjk⟩)[j%k]! =c2:=by
      rw[henc,List.getElem!_eq_getElem?_getD]
      simp[hjm,hjj,h1]
     rw[h2]
     simp only[World.cell?,hw]
     exact h1
    ·simp only[World.frozen?,hw]
     simp
   have hlay:CmpLays P kc #[] enc k cf p.b (p.at i) d.size w:=by
    intro m os dk hdk x y
    have hh:∀b,b<w.heap.size→(sortWorldK enc k w p.b (p.at i) m dk os).heap[b]? =(Go.Sort.putRowK enc k (Go.Sort.ahead w m) p.b (p.at i) dk).heap[b]?:=fun b hb=>by
     have:b<(Go.Sort.putRowK enc k (Go.Sort.ahead w m) p.b (p.at i) dk).heap.size:=by simpa [Go.Sort.putRowK,Go.Sort.putRow,Go.Sort.mapBlock,Go.Sort.ahead]using hb
     unfold sortWorldK Go.Sort.grow
     exact fy this
    refine hcmp hr hp enc hA _ (fun b hb hbp=> ?_) ?_ x y
    ·rw[hh b hb]
     simp[Go.Sort.putRowK,Go.Sort.putRow,Go.Sort.mapBlock,Go.Sort.ahead,fG,fN hbp]
    ·simp[sortWorldK,Go.Sort.grow,Go.Sort.putRowK,Go.Sort.putRow,Go.Sort.mapBlock,Go.Sort.ahead]
   have hcon:=hso enc hel hone cf hO hT p.b (p.at i) c' d w hlay hH (hr.dom _ _ _ hp).2 (by rw[hds];omega)
   rw[hds]at hcon
   obtain⟨σ,hσ⟩:∃σ,(List.finRange rs.length).mergeSort (fun x y=> !(ltOf cf) y x)=σ:=⟨_,rfl⟩
   have hdl:d.toList=List.finRange rs.length:=by rw[hd]
   rw[hdl,hσ]at hcon
   have hσl:σ.length=rs.length:=by rw[←hσ];simp
   have hll:(σ.flatMap fun x=>rs[x]).length=rs.length*k:=by rw[a8P (enc:=fun x:Fin rs.length=>rs[x]) hrl,hσl]
   have hlr:(σ.flatMap enc).length=rs.length*k:=by rw[a8P hel,hσl]
   obtain⟨w1,hrun,hpost⟩:=sW hr hg hp2 h0' (All2.bE hA σ) (by rw[hlen,hll];omega) (by rw[hlen];exact hlo)
   rw[hσ]
   have hcsz:p.at i+(σ.flatMap enc).length≤cur.size:=by
    rw[hlr,hsz]
    unfold Place.at
    rw[hlen]at hfit
    omega
   have hst:=run_storeCells_at (P:=P) p.b (p.at i) ty' (σ.flatMap enc) 0 cur w hw (by simpa using hcsz) (All2.bE hA σ).aK
   rw[hst]at hrun
   injection hrun with _ hw1
   subst hw1
   refine callsIn_wide.2 (hcon.mono ?_)
   rintro e w'⟨rfl,m,os,rfl⟩
   refine⟨ρ,_,rfl,?_,.tuple trivial⟩
   have hfs:∀j,j<rs.length*k→(Go.Sort.flatK enc k σ.toArray)[j]! =(σ.flatMap enc).getD j undef:=fun j hj=>by
    rw[Go.Sort.get_flatK _ _ _ _ (by rw[fY,hσl];exact hj)]
    exact b7Z hk0 hel σ j (by rw[hσl];exact hj)
   have hFs:(Go.Sort.flatK enc k σ.toArray).size=rs.length*k:=by rw[Go.Sort.size_flatK,fY,hσl]
   unfold sortWorldK Go.Sort.putRowK
   generalize Go.Sort.flatK enc k σ.toArray=F at hfs hFs ⊢
   have hlt:=nG hw
   have hh:∀b,b<w.heap.size→(Go.Sort.grow (Go.Sort.putRow id (Go.Sort.ahead w m) p.b (p.at i) F) os).heap[b]? =(Go.Sort.putRow id (Go.Sort.ahead w m) p.b (p.at i) F).heap[b]?:=fun b hb=>by
    have:b<(Go.Sort.putRow id (Go.Sort.ahead w m) p.b (p.at i) F).heap.size:=by simpa [Go.Sort.putRow,Go.Sort.mapBlock,Go.Sort.ahead]using hb
    unfold Go.Sort.grow
    exact fy this
   refine hpost.cN ?_ ?_ rfl ⟨rfl,Nat.le_add_right _ _⟩ rfl
   ·simp[Go.Sort.grow,Go.Sort.putRow,Go.Sort.mapBlock,Go.Sort.ahead]
   ·intro b hbs
    rw[setRow_size]at hbs
    rw[hh b hbs]
    by_cases e:b=p.b
    ·subst e
     rw[setRow_heap w p.b cur _ ty' (0,0) hw]
     have e2:(Go.Sort.putRow id (Go.Sort.ahead w m) p.b (p.at i) F).heap[p.b]? =some (.cells (Go.Sort.putCells id (p.at i) F cur) ty' (0,0)):=by
      simp[Go.Sort.putRow,Go.Sort.mapBlock,Go.Sort.ahead,fG,hw,Go.Sort.onCells]
     rw[e2]
     congr 2
     apply gM
     intro j
     have hseg:=a0l cur.toList (σ.flatMap enc) (p.at i) j (by simpa using hcsz)
     have e3:((List.take (p.at i+0) cur.toList++σ.flatMap enc++List.drop (p.at i+0+(σ.flatMap enc).length) cur.toList).toArray)[j]? =(List.take (p.at i) cur.toList++σ.flatMap enc++List.drop (p.at i+(σ.flatMap enc).length) cur.toList)[j]?:=by simp
     rw[e3,hseg]
     simp only[Go.Sort.putCells,Array.getElem?_mapIdx,gw]
     rw[hlr]at hcsz ⊢
     by_cases h1:p.at i≤j∧j<p.at i+rs.length*k
     ·rw[if_pos h1]
      have hjc:j<cur.size:=by omega
      rw[fK hjc]
      simp only[ew]
      rw[if_pos (by rw[hFs];exact h1),hfs _ (by omega),dE,dM (by rw[hlr];omega)]
      rfl
     ·rw[if_neg h1]
      cases hc:cur[j]? with
      | none=>simp
      | some c=>
        simp only[ew]
        rw[if_neg (by rw[hFs];exact h1)]
    ·rw[setRow_other _ _ _ _ e]
     simp[Go.Sort.putRow,Go.Sort.mapBlock,Go.Sort.ahead,fG,fN e]
theorem b6X{P:Program}{kc:FuncId}{args:List Value}{Hc H1:Heap}{z:Int}{ρ:Rho}{W:World}{args':Array Value}(h:CallOk P kc args Hc (.int .i64 z) H1)(hr:HRel P ρ Hc W)(hs:Shut ρ Hc)(ha:All2 (V ρ) args args'.toList):
 Calls P kc args' W fun e w'=>e=.returned (.int .i64 z)∧∃q os',w'=Go.Sort.grow (W.drewN q) os':=by
 refine(h.calls hr ha).mono ?_
 rintro e w'⟨ρ',v',rfl,hp,hv⟩
 have hfr:∀b,b<W.heap.size→w'.heap[b]? =W.heap[b]?:=fun b hb=>(hp.frame b hb (hs b)).1
 refine⟨by rw[hv.ak rfl],w'.drawn-W.drawn,w'.heap.extract W.heap.size w'.heap.size,?_⟩
 have h1:=hp.os
 have h2:=hp.tape
 have h3:=hp.output
 have h4:=hp.size
 clear hp hv hr hs h
 obtain⟨wh,wt,wd,wo,wu⟩:=W
 obtain⟨ah,at',ad,ao,au⟩:=w'
 simp only at h1 h2 h3 h4 hfr
 simp only[Go.Sort.grow,World.drewN,World.mk.injEq]
 refine⟨?_,h2.1,by omega,h1,h3⟩
 apply gM
 intro i
 rw[Array.getElem?_append]
 split
 ·exact hfr i (by assumption)
 ·rw[Array.getElem?_extract]
  split
  ·congr 1;omega
  ·rw[Array.getElem?_eq_none (by omega)]
theorem b8I{P:Program}{K kc:FuncId}{k:Nat}(hso:b8b P K kc (k+1))(hno:tU P K)(hent:pF P K){H:Heap}{B:Base}{os:List Ob}(hS:St P B H os)(i:Nat){v:Value}{rs:List (List Value)}(ho:os[i]? =some ⟨v,k+1,rs.flatten⟩)(hbig:rs.length<100000000000)(hrk:∀r∈rs,r.length=k+1)
 (cf:Fin rs.length→Fin rs.length→Int) (hO:SWO (ltOf cf)) (hT:∀x y,(ltOf cf) x y=false→(ltOf cf) y x=false→x=y)
 (hcmp:∀{A:Nat}{ρ:Rho}{w:World}{p:Place}{e:Nat},kY v=some A→(∃b,jS H A=some b∧b.wr=true)→HRel P ρ H w→ρ A e=some p→∀enc:Fin rs.length→List Value,(∀x,All2 (C1 ρ) rs[x] (enc x))→∀W:World,(∀b,b<w.heap.size→b≠p.b→W.heap[b]? =w.heap[b]?)→w.heap.size≤W.heap.size→∀x y,Calls P kc #[.agg (enc x).toArray,.agg (enc y).toArray] W fun e w'=>e=.returned (.int .i64 (cf x y))∧∃q os',w'=Go.Sort.grow (W.drewN q) os')
 {Q:Value→Heap→Prop} (h:∀H1,St P B H1 (os.set i ⟨v,k+1,((List.finRange rs.length).mergeSort fun x y=> !(ltOf cf) y x).flatMap fun x=>rs[x]⟩)→Q (.tuple #[]) H1):sY P K [v,.func (.func kc) #[] #[]] H Q:=by
 by_cases h0:rs=[]
 ·subst h0
  refine⟨.tuple #[],H,hent,?_,h H ?_⟩
  ·intro k ρ w args' hr ha
   obtain⟨l⟩:=args'
   match l,ha with
   | [x,f],⟨hx,hf,_⟩=>
     obtain rfl:=V.func0 hf
     have hown:=hS.own _ (dR ho)
     unfold OwnAt at hown
     rw[if_neg (by simp)]at hown
     have hx0:∃p cap,x=.slice p 0 cap:=by
      rcases hown with⟨h2,_⟩|⟨A,j,ty,lo',ver,pre,m,h2,h3,h4,h5,h6,h7⟩
      ·simp only at h2
       subst h2
       rcases hx.aA with⟨_,_,_,rfl⟩|⟨A,j,e,p,c',a,hh,_⟩
       ·exact⟨_,_,rfl⟩
       ·cases hh
      ·simp only at h5 h6
       subst h6
       have hm:m=0:=by
        rw[List.flatten_nil,dV]at h5
        rcases iQ.1 h5.symm with h|h
        ·exact h
        ·omega
       subst hm
       obtain⟨p,c',a,_,_,_,_,_,_,rfl⟩:=hx.ay
       exact⟨_,_,rfl⟩
     obtain⟨p,cap,rfl⟩:=hx0
     refine callsIn_wide.2 ((hno p cap _ w).mono ?_)
     rintro e w'⟨rfl,rfl⟩
     exact⟨ρ,_,rfl,.refl hr,.tuple trivial⟩
  ·obtain⟨hi,hoi⟩:=dO.1 ho
   have e0:∀l:List (Fin ([]:List (List Value)).length),(l.flatMap fun x=>([]:List (List Value))[x])=[]:=fun l=>by
    cases l with
    | nil=>rfl
    | cons x l=>exact absurd x.2 (ez _)
   rw[e0]
   have e:os[i]=⟨v,k+1,[]⟩:=by rw[hoi];rfl
   rw[←e,gP]
   exact hS
 ·have hown:=hS.own _ (dR ho)
  unfold OwnAt at hown
  rw[if_neg (by simp)]at hown
  have hne:0<rs.length:=fI.2 h0
  have hfl:=a7q hrk
  rcases hown with⟨_,h3⟩|⟨A,j,ty,lo',ver,pre,m,h2,h3,h4,h5,h6,h7⟩
  ·simp only at h3
   have:=congrArg List.length h3
   rw[hfl,dV]at this
   rcases iQ.1 this with h|h<;>omega
  ·simp only at h2 h3 h5 h6
   have hm:m=rs.length:=fz (fE k) (h5.symm.trans hfl)
   subst hm
   have hsl:(((List.finRange rs.length).mergeSort fun x y=> !(ltOf cf) y x).flatMap fun x=>rs[x]).length=rs.flatten.length:=by
    rw[a8P (enc:=fun x:Fin rs.length=>rs[x]) (k:=k+1) (fun x=>hrk _ (gL _)),hfl]
    simp
   have hcall:=b5Z (fE k) hso hne hbig hrk h2 h3 h4 h7 cf hO hT (fun{ρ w p}hr hp enc hA W hW hWs x y=>hcmp (A:=A) (by rw[h6];rfl) ⟨_,h2,rfl⟩ hr hp enc hA W hW hWs x y)
   rw[←h6]at hcall
   refine⟨_,_,hent,hcall,h _ (hS.put i ho ?_ ?_ ?_ ?_)⟩
   ·unfold OwnAt
    rw[if_neg (by simp)]
    refine .inr ⟨A,j,ty,(pre++rs.flatten).length,ver,pre,rs.length,?_,?_,h4,?_,?_,h7⟩
    ·rw[jR _ (kL h2)]
     have:=nE (((List.finRange rs.length).mergeSort fun x y=> !(ltOf cf) y x).flatMap fun x=>rs[x]) pre rs.flatten (by rw[hsl];exact dG _)
     rw[h4]at this
     rw[this,hsl,iK,dQ]
    ·simp only[dH,h4,hsl];exact dG _
    ·simp only[hsl];exact h5
    ·simp only[hsl];exact h6
   ·rw[kO];exact dG _
   ·intro B' hB hne'
    refine rM fun hh=>hne' ?_
    simp[kY,h6,hh]
   ·intro B' hB
    exact .inl hB
section
variable {P:Program} {ρ ρ0:Rho} {H H0:Heap} {w W:World}
theorem c3J(xs:List Int)(j:Nat):(xs.flatMap (one I))[j]? =(xs[j]?).map I:=by
 rw[mQ,fo]
theorem a8d(h0:InW P ρ0 H0 W)(hr:HRel P ρ H w){cv cv':Value}{xs:List Int}(hs:Sl 1 (one I) H cv xs)(hv:C1 ρ cv cv')(hne:∀A,kY cv=some A→∀e p,ρ A e=some p→W.heap[p.b]? =w.heap[p.b]?):
 ∃ρ1 H1 cv1,InW P ρ1 H1 W∧ExtW ρ0 H0 ρ1 H1∧Sl 1 (one I) H1 cv1 xs∧C1 ρ1 cv1 cv':=by
 have hxl:(xs.flatMap (one I)).length=xs.length:=by rw[mQ,dU]
 have hV:V ρ cv cv':=.v1 (.c1 hv)
 rcases hs.rd with⟨rfl,h2⟩|⟨A,i,e,row,ty,rw',lo,ver,n,hg,hlo,hle,hfit,htk,hn,rfl⟩
 ·rcases hV.aA with⟨_,_,_,rfl⟩|⟨A,j,e,p,c',a,hh,_⟩
  ·exact⟨ρ0,H0,.slice none 0 0,h0,.refl _ _,⟨.inl ⟨rfl,h2⟩,hs.hc,hs.pos⟩,.c0 (.flat rfl)⟩
  ·cases hh
 ·obtain⟨p,c',a,hp,h00,hin,hnc,hac,hpk,rfl⟩:=hV.ay
  obtain⟨_,hk,hfit2,cur,ty',fr,hw,hsz,hfr,hcell⟩:=(hr.cells _ _ _ _ _ _ hg).2 _ _ hp
  have hWp:W.heap[p.b]? =w.heap[p.b]?:=hne A rfl _ _ hp
  have hrow:=h0.row ⟨p.b,p.d+i,p.sz,p.k⟩ (cur:=cur) (t':=ty') (fr:=fr) (by rw[hWp];exact hw) (ty:=ty) hk hsz (xs.flatMap (one I)) 2 (fun h=>by cases h) (by show((xs.flatMap (one I)).length:Int)+(p.d+i)≤p.sz;omega) (fun j c hj hj0 hc=>by
   have h1:row[i+j]? =some c:=by
    have h2:((row.drop i).take (xs.flatMap (one I)).length)[j]? =some c:=by rw[htk];exact hc
    rw[eI hj,ee]at h2
    exact h2
   obtain⟨c2,h3,h4⟩:=hcell hlo (i+j) c (by omega) (by omega) h1
   have hsc:jY c=true:=by
    rw[c3J]at hc
    obtain⟨z,_,rfl⟩:=dJ.1 hc
    rfl
   have:=h4.ax hsc
   subst this
   refine⟨c2,?_,.c0 (.flat hsc)⟩
   have hat:Place.at ⟨p.b,p.d+i,p.sz,p.k⟩ j=p.at (i+j):=by unfold Place.at;simp only;omega
   rw[hat]
   exact h3)
  obtain⟨h1,h2⟩:=hrow
  refine⟨_,_,.slice (some ⟨H0.length,0,some (xs.flatMap (one I)).length⟩) n 1,h1,h2,⟨.inr ⟨H0.length,0,_,_,ty,false,0,2,n,jP _ _,fu _,dG _,by omega,by rw[iy,eZ],by omega,rfl⟩,hs.hc,hs.pos⟩,?_⟩
  have hq:(ρ0.put H0.length (xs.flatMap (one I)).length ⟨p.b,p.d+i,p.sz,p.k⟩) H0.length (xs.flatMap (one I)).length=some ⟨p.b,p.d+i,p.sz,p.k⟩:=Rho.ar _ _ _ _
  have e1:n*p.k=n:=by rw[←hpk,iw]
  have e2:c'*p.k=c':=by rw[←hpk,iw]
  have hk1:p.k=1:=hpk.symm
  have:=C0.slice (n:=n) (c':=c') (a:=a) hq (i:=0) (by show(0:Int)≤((0:Nat):Int)+(p.d+i);omega) (by show 0+n*p.k≤_;rw[e1];omega) ⟨hnc.1,by show _≤0+c'*p.k;rw[e2];have:=hnc.1;omega⟩ (by
   rcases hac with⟨h3,h4⟩|h3
   ·refine .inl ⟨?_,?_⟩
    ·rw[h3]
     congr 1
     unfold Place.at
     simp only
     omega
    ·show Place.at ⟨p.b,p.d+i,p.sz,p.k⟩ 0+c'*p.k≤p.sz
     have:Place.at ⟨p.b,p.d+i,p.sz,p.k⟩ 0=p.at i:=by unfold Place.at;simp only;omega
     rw[this];exact h4
   ·exact .inr h3)
  simp only[hk1]at this ⊢
  exact .c0 this
theorem Sl.dm{n:Nat}{α:Type}{cel:α→List Value}{ρ1:Rho}{H1:Heap}{v:Value}{xs:List α}(h:Sl n cel H v xs)(he:ExtW ρ H ρ1 H1):Sl n cel H1 v xs:=by
 refine⟨?_,h.hc,h.pos⟩
 rcases h.rd with h1|⟨A,i,e,row,ty,rw',lo,ver,m,hg,hh⟩
 ·exact .inl h1
 ·exact .inr ⟨A,i,e,row,ty,rw',lo,ver,m,by rw[he.old A (kL hg)];exact hg,hh⟩
theorem b7i{kc:FuncId}(hfn:∀{Hc:Heap}(a b:Rn),a.In Hc→b.In Hc→Fn P kc [a.v,b.v] Hc fun r H'=>r=I (a0X a b)∧St P Hc H' []){v:Value}{es:List Rn}(hin:∀r∈es,r.In H)(hne:∀r∈es,∀A,kY v=some A→kY r.cv≠some A):
 ∀{A:Nat}{ρ:Rho}{w:World}{p:Place}{e:Nat},kY v=some A→(∃b,jS H A=some b∧b.wr=true)→HRel P ρ H w→ρ A e=some p→∀enc:Fin (es.map Rn.cells).length→List Value,(∀x,All2 (C1 ρ) (es.map Rn.cells)[x] (enc x))→∀W:World,(∀b,b<w.heap.size→b≠p.b→W.heap[b]? =w.heap[b]?)→w.heap.size≤W.heap.size→∀x y,Calls P kc #[.agg (enc x).toArray,.agg (enc y).toArray] W fun e w'=>e=.returned (.int .i64 (a0X (jB es x.1) (jB es y.1)))∧∃q os',w'=Go.Sort.grow (W.drewN q) os':=by
 intro A ρ w p e hv hwr hr hp enc hA W hW hWs x y
 obtain⟨b,hb,hbw⟩:=hwr
 have hlen:(es.map Rn.cells).length=es.length:=dU _
 have hcell:∀x:Fin (es.map Rn.cells).length,∃cv',enc x=[I (jB es x.1).pl.1,I (jB es x.1).pl.2,cv',I (jB es x.1).tc.1,I (jB es x.1).tc.2,I (jB es x.1).stop]∧C1 ρ (jB es x.1).cv cv':=fun x=>by
  have h:=hA x
  have hx:(es.map Rn.cells)[x]=(jB es x.1).cells:=by
   rw[kN es x.1 (by have:=x.2;omega)]
   simp
  rw[hx]at h
  unfold Rn.cells at h
  generalize enc x=l at h
  match l,h with
  | [a1,a2,a3,a4,a5,a6],⟨h1,h2,h3,h4,h5,h6,_⟩=>
    have e1:=h1.ax rfl
    have e2:=h2.ax rfl
    have e4:=h4.ax rfl
    have e5:=h5.ax rfl
    have e6:=h6.ax rfl
    subst e1 e2 e4 e5 e6
    exact⟨a3,rfl,h3⟩
 have hmem:∀x:Fin (es.map Rn.cells).length,jB es x.1∈es:=fun x=>jE (by have:=x.2;omega)
 have hfr:∀x:Fin (es.map Rn.cells).length,∀B,kY (jB es x.1).cv=some B→∀e2 p2,ρ B e2=some p2→W.heap[p2.b]? =w.heap[p2.b]?:=fun x B hB e2 p2 hp2=>by
  refine hW _ (hr.dom _ _ _ hp2).2 fun heq=> ?_
  have:=(hr.excl A e p B e2 p2 b hp hp2 heq.symm hb hbw).1
  rw[this]at hB
  exact hne _ (hmem x) A hv hB
 obtain⟨cx,ex,hcx⟩:=hcell x
 obtain⟨cy,ey,hcy⟩:=hcell y
 have hix:=hin _ (hmem x)
 have hiy:=hin _ (hmem y)
 obtain⟨ρ1,H1,v1,hI1,hE1,hs1,hc1⟩:=a8d (InW.none (P:=P) W) hr hix.1 hcx (hfr x)
 obtain⟨ρ2,H2,v2,hI2,hE2,hs2,hc2⟩:=a8d hI1 hr hiy.1 hcy (hfr y)
 have hs1':=hs1.dm hE2
 have hc1':=hc1.mono hE2.le
 obtain⟨_,z,H3,hcall,rfl,_⟩:=hfn (Hc:=H2) {jB es x.1 with cv:=v1} {jB es y.1 with cv:=v2} ⟨hs1',hix.2⟩ ⟨hs2,hiy.2⟩
 rw[ex,ey]
 refine b6X hcall hI2.rel hI2.shut ?_
 exact⟨.v1 (.agg ⟨.c0 (.flat rfl),.c0 (.flat rfl),hc1',.c0 (.flat rfl),.c0 (.flat rfl),.c0 (.flat rfl),trivial⟩),.v1 (.agg ⟨.c0 (.flat rfl),.c0 (.flat rfl),hc2,.c0 (.flat rfl),.c0 (.flat rfl),.c0 (.flat rfl),trivial⟩),trivial⟩
end
end Go.Ds
namespace Go.Proofs
open Go.Shelf
def Tryz.bS:Go.Shelf.Ren:=⟨fun|6=>53|15=>99|14=>98|28=>139|29=>140|20=>131|21=>132|22=>133|23=>134|24=>135|25=>136|26=>137|27=>138|46=>175|47=>176|48=>177|49=>178|50=>179|57=>199|n=>n,fun|22=>75|24=>26|25=>28|3=>3|39=>64|0=>0|53=>252|55=>48|4=>4|46=>246|45=>245|50=>202|5=>5|9=>9|66=>281|70=>285|76=>308|77=>309|n=>n,fun|n=>n⟩
theorem Tryz.cC:Go.Proofs.SlLaysF0.n6 Tryz.prog Tryz.bS:={
 mixed:=by kernel_rfl
 f6:=⟨Tryz.f53.name,by decide,Tryz.func53.trans (congrArg some (by kernel_rfl))⟩
 f14:=⟨Tryz.f98.name,by decide,Tryz.func98.trans (congrArg some (by kernel_rfl))⟩
 f15:=Tryz.func99.trans (congrArg some (by kernel_rfl))
 f20:=⟨Tryz.f131.name,by decide,Tryz.func131.trans (congrArg some (by kernel_rfl))⟩
 f21:=⟨Tryz.f132.name,by decide,Tryz.func132.trans (congrArg some (by kernel_rfl))⟩
 f22:=⟨Tryz.f133.name,by decide,Tryz.func133.trans (congrArg some (by kernel_rfl))⟩
 f23:=⟨Tryz.f134.name,by decide,Tryz.func134.trans (congrArg some (by kernel_rfl))⟩
 f24:=⟨Tryz.f135.name,by decide,Tryz.func135.trans (congrArg some (by kernel_rfl))⟩
 f25:=⟨Tryz.f136.name,by decide,Tryz.func136.trans (congrArg some (by kernel_rfl))⟩
 f26:=⟨Tryz.f137.name,by decide,Tryz.func137.trans (congrArg some (by kernel_rfl))⟩
 f27:=⟨Tryz.f138.name,by decide,Tryz.func138.trans (congrArg some (by kernel_rfl))⟩
 f28:=Tryz.func139.trans (congrArg some (by kernel_rfl))
 f29:=Tryz.func140.trans (congrArg some (by kernel_rfl))
 f46:=⟨Tryz.f175.name,by decide,Tryz.func175.trans (congrArg some (by kernel_rfl))⟩
 f47:=Tryz.func176.trans (congrArg some (by kernel_rfl))
 f48:=Tryz.func177.trans (congrArg some (by kernel_rfl))
 f49:=⟨Tryz.f178.name,by decide,Tryz.func178.trans (congrArg some (by kernel_rfl))⟩
 f50:=⟨Tryz.f179.name,by decide,Tryz.func179.trans (congrArg some (by kernel_rfl))⟩
 f57:=⟨Tryz.f199.name,by decide,Tryz.func199.trans (congrArg some (by kernel_rfl))⟩
 t0:=Tryz.underlying0
 a0:=Tryz.isAgg0
 z0:=Tryz.sizeOf0
 v0:=Tryz.zeroValue0
 t3:=Tryz.underlying3
 a3:=Tryz.isAgg3
 z3:=Tryz.sizeOf3
 v3:=Tryz.zeroValue3
 t4:=Tryz.underlying4
 a4:=Tryz.isAgg4
 z4:=Tryz.sizeOf4
 v4:=Tryz.zeroValue4
 t5:=Tryz.underlying5
 a5:=Tryz.isAgg5
 z5:=Tryz.sizeOf5
 v5:=Tryz.zeroValue5
 t9:=Tryz.underlying9
 a9:=Tryz.isAgg9
 z9:=Tryz.sizeOf9
 v9:=Tryz.zeroValue9
 t22:=Tryz.underlying75
 a22:=Tryz.isAgg75
 z22:=Tryz.sizeOf75
 v22:=Tryz.zeroValue75
 t25:=Tryz.underlying28
 a25:=Tryz.isAgg28
 z25:=Tryz.sizeOf28
 v25:=Tryz.zeroValue28
 t39:=Tryz.underlying64
 a39:=Tryz.isAgg64
 z39:=Tryz.sizeOf64
 v39:=Tryz.zeroValue64
 t45:=Tryz.underlying245
 a45:=Tryz.isAgg245
 z45:=Tryz.sizeOf245
 v45:=Tryz.zeroValue245
 t46:=Tryz.underlying246
 a46:=Tryz.isAgg246
 z46:=Tryz.sizeOf246
 v46:=Tryz.zeroValue246
 t50:=Tryz.underlying202
 a50:=Tryz.isAgg202
 z50:=Tryz.sizeOf202
 v50:=Tryz.zeroValue202
 t53:=Tryz.underlying252
 a53:=Tryz.isAgg252
 z53:=Tryz.sizeOf252
 v53:=Tryz.zeroValue252
 t55:=Tryz.underlying48
 a55:=Tryz.isAgg48
 z55:=Tryz.sizeOf48
 v55:=Tryz.zeroValue48
 t66:=Tryz.underlying281
 a66:=Tryz.isAgg281
 z66:=Tryz.sizeOf281
 v66:=Tryz.zeroValue281
 t70:=Tryz.underlying285
 a70:=Tryz.isAgg285
 z70:=Tryz.sizeOf285
 v70:=Tryz.zeroValue285
 t76:=Tryz.underlying308
 a76:=Tryz.isAgg308
 z76:=Tryz.sizeOf308
 v76:=Tryz.zeroValue308
 t77:=Tryz.underlying309
 a77:=Tryz.isAgg309
 z77:=Tryz.sizeOf309
 v77:=Tryz.zeroValue309}
def Tryz.bT:Go.Shelf.Ren:=⟨fun|6=>62|15=>99|14=>105|28=>139|29=>140|20=>143|21=>144|22=>145|23=>146|24=>147|25=>148|26=>149|27=>150|46=>182|47=>176|48=>177|49=>183|50=>184|57=>200|n=>n,fun|22=>40|24=>63|25=>156|3=>3|39=>64|0=>0|53=>252|55=>48|4=>4|46=>246|45=>245|50=>202|5=>5|9=>9|66=>281|70=>285|76=>308|77=>309|n=>n,fun|n=>n⟩
theorem Tryz.cD:Go.Proofs.SlLaysF0.n6 Tryz.prog Tryz.bT:={
 mixed:=by kernel_rfl
 f6:=⟨Tryz.f62.name,by decide,Tryz.func62.trans (congrArg some (by kernel_rfl))⟩
 f14:=⟨Tryz.f105.name,by decide,Tryz.func105.trans (congrArg some (by kernel_rfl))⟩
 f15:=Tryz.func99.trans (congrArg some (by kernel_rfl))
 f20:=⟨Tryz.f143.name,by decide,Tryz.func143.trans (congrArg some (by kernel_rfl))⟩
 f21:=⟨Tryz.f144.name,by decide,Tryz.func144.trans (congrArg some (by kernel_rfl))⟩
 f22:=⟨Tryz.f145.name,by decide,Tryz.func145.trans (congrArg some (by kernel_rfl))⟩
 f23:=⟨Tryz.f146.name,by decide,Tryz.func146.trans (congrArg some (by kernel_rfl))⟩
 f24:=⟨Tryz.f147.name,by decide,Tryz.func147.trans (congrArg some (by kernel_rfl))⟩
 f25:=⟨Tryz.f148.name,by decide,Tryz.func148.trans (congrArg some (by kernel_rfl))⟩
 f26:=⟨Tryz.f149.name,by decide,Tryz.func149.trans (congrArg some (by kernel_rfl))⟩
 f27:=⟨Tryz.f150.name,by decide,Tryz.func150.trans (congrArg some (by kernel_rfl))⟩
 f28:=Tryz.func139.trans (congrArg some (by kernel_rfl))
 f29:=Tryz.func140.trans (congrArg some (by kernel_rfl))
 f46:=⟨Tryz.f182.name,by decide,Tryz.func182.trans (congrArg some (by kernel_rfl))⟩
 f47:=Tryz.func176.trans (congrArg some (by kernel_rfl))
 f48:=Tryz.func177.trans (congrArg some (by kernel_rfl))
 f49:=⟨Tryz.f183.name,by decide,Tryz.func183.trans (congrArg some (by kernel_rfl))⟩
 f50:=⟨Tryz.f184.name,by decide,Tryz.func184.trans (congrArg some (by kernel_rfl))⟩
 f57:=⟨Tryz.f200.name,by decide,Tryz.func200.trans (congrArg some (by kernel_rfl))⟩
 t0:=Tryz.underlying0
 a0:=Tryz.isAgg0
 z0:=Tryz.sizeOf0
 v0:=Tryz.zeroValue0
 t3:=Tryz.underlying3
 a3:=Tryz.isAgg3
 z3:=Tryz.sizeOf3
 v3:=Tryz.zeroValue3
 t4:=Tryz.underlying4
 a4:=Tryz.isAgg4
 z4:=Tryz.sizeOf4
 v4:=Tryz.zeroValue4
 t5:=Tryz.underlying5
 a5:=Tryz.isAgg5
 z5:=Tryz.sizeOf5
 v5:=Tryz.zeroValue5
 t9:=Tryz.underlying9
 a9:=Tryz.isAgg9
 z9:=Tryz.sizeOf9
 v9:=Tryz.zeroValue9
 t22:=Tryz.underlying40
 a22:=Tryz.isAgg40
 z22:=Tryz.sizeOf40
 v22:=Tryz.zeroValue40
 t25:=Tryz.underlying156
 a25:=Tryz.isAgg156
 z25:=Tryz.sizeOf156
 v25:=Tryz.zeroValue156
 t39:=Tryz.underlying64
 a39:=Tryz.isAgg64
 z39:=Tryz.sizeOf64
 v39:=Tryz.zeroValue64
 t45:=Tryz.underlying245
 a45:=Tryz.isAgg245
 z45:=Tryz.sizeOf245
 v45:=Tryz.zeroValue245
 t46:=Tryz.underlying246
 a46:=Tryz.isAgg246
 z46:=Tryz.sizeOf246
 v46:=Tryz.zeroValue246
 t50:=Tryz.underlying202
 a50:=Tryz.isAgg202
 z50:=Tryz.sizeOf202
 v50:=Tryz.zeroValue202
 t53:=Tryz.underlying252
 a53:=Tryz.isAgg252
 z53:=Tryz.sizeOf252
 v53:=Tryz.zeroValue252
 t55:=Tryz.underlying48
 a55:=Tryz.isAgg48
 z55:=Tryz.sizeOf48
 v55:=Tryz.zeroValue48
 t66:=Tryz.underlying281
 a66:=Tryz.isAgg281
 z66:=Tryz.sizeOf281
 v66:=Tryz.zeroValue281
 t70:=Tryz.underlying285
 a70:=Tryz.isAgg285
 z70:=Tryz.sizeOf285
 v70:=Tryz.zeroValue285
 t76:=Tryz.underlying308
 a76:=Tryz.isAgg308
 z76:=Tryz.sizeOf308
 v76:=Tryz.zeroValue308
 t77:=Tryz.underlying309
 a77:=Tryz.isAgg309
 z77:=Tryz.sizeOf309
 v77:=Tryz.zeroValue309}
end Go.Proofs
namespace Go.Ds
open Go.Proofs Go.Proofs.Tryz Go.Shelf Go.RowKit Go.Lib Go.Sort
theorem uP{α:Type}(kf:α→List Int)(x y:α):ltOf (fun x y=>lX (kf x) (kf y)) x y=decide (lX (kf x) (kf y)=-1):=by
 have:=tA (kf x) (kf y)
 exact decide_eq_decide.2 (by show lX (kf x) (kf y)<0↔_;omega)
theorem c7P{α:Type}(kf:α→List Int):SWO (ltOf fun x y=>lX (kf x) (kf y)) where
 irrefl x:=by
  rw[uP,nK.2 rfl]
  rfl
 trans x y z h1 h2:=by
  rw[uP,decide_eq_true_eq]at*
  exact uZ h1 h2
 ntrans x y z h1 h2:=by
  rw[uP,decide_eq_false_iff_not]at*
  intro h
  have n1:=tB (kf y) (kf x)
  have n2:=tB (kf z) (kf y)
  rcases tA (kf y) (kf x)with e1|e1|e1
  ·rcases tA (kf z) (kf y)with e2|e2|e2
   ·have h3:=uZ e2 e1
    have n3:=tB (kf z) (kf x)
    omega
   ·rw[nK]at e2
    rw[e2]at h
    omega
   ·omega
  ·rw[nK]at e1
   rw[e1]at h2
   exact h2 h
  ·omega
theorem c8n{α:Type}{kf:α→List Int}(hk:∀x y,kf x=kf y→x=y)(x y:α)(h1:ltOf (fun x y=>lX (kf x) (kf y)) x y=false)(h2:ltOf (fun x y=>lX (kf x) (kf y)) y x=false):x=y:=by
 rw[uP,decide_eq_false_iff_not]at h1 h2
 refine hk _ _ (nK.1 ?_)
 have:=tA (kf x) (kf y)
 have n:=tB (kf x) (kf y)
 omega
def leR(a b:Rn):Bool:= !decide (a0X b a=-1)
def c1Z(es:List Rn):List Rn:=es.mergeSort leR
theorem soR:b8b prog 53 11 6:=
 fun enc hk h1 cf hO hT kY off cap d w hlay hH hblk hsz=>
  AnyQ.slices_SortFunc_total Tryz.cC 6 Tryz.isAgg26 Tryz.sizeOf26 enc hk h1 cf hO 11 #[] kY off cap d w (enters_of func11 (by kernel_rfl) rfl) hlay hH hblk hsz hT
theorem snR:tU prog 53:=fun p cap fv w=>AnyF.slices_SortFunc_none {Tryz.cC with} p cap fv w
theorem enR:pF prog 53:=⟨Tryz.f53,func53,by kernel_rfl,by kernel_rfl⟩
theorem b9p(es:List Rn)(σ:List (Fin (es.map Rn.cells).length)):(σ.flatMap fun x=>(es.map Rn.cells)[x])=(σ.map fun x=>jB es x.1).flatMap Rn.cells:=by
 rw[List.flatMap_map]
 congr 1
 funext x
 rw[kN es x.1 (Nat.lt_of_lt_of_eq x.2 (dU _))]
 simp
theorem c3R(es:List Rn):((List.finRange (es.map Rn.cells).length).map fun x=>jB es x.1)=es:=by
 apply List.ext_getElem
 ·simp
 ·intro i h1 h2
  simp only[jg,List.getElem_finRange]
  exact kN es i h2
set_option maxHeartbeats 1000000 in
theorem b8V{H:Heap}{B:Base}{os:List Ob}(hS:St prog B H os)(i:Nat){v:Value}{es:List Rn}(ho:os[i]? =some ⟨v,6,es.flatMap Rn.cells⟩)(hl:es.length<100000000000)(hin:∀r∈es,r.In H)(hne:∀r∈es,∀A,kY v=some A→kY r.cv≠some A)(hnd:es.Pairwise fun a b=>a1u a≠a1u b)
 {Q:Value→Heap→Prop} (h:∀H1,St prog B H1 (os.set i ⟨v,6,(c1Z es).flatMap Rn.cells⟩)→Q (.tuple #[]) H1):sY prog 53 [v,.func (.func 11) #[] #[]] H Q:=by
 have hlen:(es.map Rn.cells).length=es.length:=dU _
 have hfl:(es.map Rn.cells).flatten=es.flatMap Rn.cells:=rfl
 have hkf:∀x y:Fin (es.map Rn.cells).length,a1u (jB es x.1)=a1u (jB es y.1)→x=y:=fun x y e=>by
  have hx:=Nat.lt_of_lt_of_eq x.2 hlen
  have hy:=Nat.lt_of_lt_of_eq y.2 hlen
  rw[kN es _ hx,kN es _ hy]at e
  rw[fc]at hnd
  apply Fin.ext
  rcases iY x.1 y.1 with h|h|h
  ·exact absurd e (hnd _ _ hx hy h)
  ·exact h
  ·exact absurd e.symm (hnd _ _ hy hx h)
 refine b8I soR snR enR hS i (rs:=es.map Rn.cells) (by rw[hfl];exact ho) (by rw[hlen];exact hl) (fun r hr=> ?_) (fun x y=>a0X (jB es x.1) (jB es y.1)) (c7P fun x:Fin (es.map Rn.cells).length=>a1u (jB es x.1)) (c8n hkf) (fun{A ρ w p e}=>b7i (fun a b ha hb=>c3g a b ha hb) hin hne) ?_
 ·obtain⟨q,_,rfl⟩:=dX.1 hr
  rfl
 ·intro H1 hH
  refine h H1 ?_
  rw[b9p,List.map_mergeSort (s:=leR),c3R]at hH
  ·exact hH
  ·intro a _ b _
   unfold leR
   rw[show(fun x y:Fin (es.map Rn.cells).length=>a0X (jB es x.1) (jB es y.1))=fun x y=>lX (a1u (jB es x.1)) (a1u (jB es y.1))from rfl,uP (fun x:Fin (es.map Rn.cells).length=>a1u (jB es x.1))]
   rfl
end Go.Ds
namespace Go.Ds
open Go.Proofs Go.Proofs.Tryz
variable {H:Heap}
set_option maxRecDepth 10000
set_option maxHeartbeats 1000000
def b4Q(s:Sn)(i:Nat):List Rp×Bool:=((jG s.ks).take i).foldl (fun q c=>a2v s 1025 c [] c [] q) ([],false)
theorem a5C(s:Sn){i:Nat}(h:i<(jG s.ks).length):b4Q s (i+1)=a2v s 1025 (jB (jG s.ks) i) [] (jB (jG s.ks) i) [] (b4Q s i):=by
 unfold b4Q
 rw[oB _ _ h,gY]
 rfl
theorem a9r{s:Sn}(hf:s.Fit)(hk:∀x∈s.ks,Nt.Ok x):∀i,i≤(jG s.ks).length→Met (((jG s.ks).take i).flatMap fun c=>full s 1025 c [] c []) (b4Q s i)
 | 0,_=>⟨fun _=>⟨rfl,by simp⟩,fun h=>by cases h⟩
 | i+1,h=>by
   rw[a5C s h,oB _ _ h,dP]
   have h1:=a9r hf hk i (by omega)
   have:=c0o hf 1025 (pl:=jB (jG s.ks) i) (cps:=[]) (a:=jB (jG s.ks) i) (seen:=[]) (uI hk hf.keys _ (jE h)) h1
   simpa using this
theorem b9U{s:Sn}(hf:s.Fit)(hk:∀x∈s.ks,Nt.Ok x):Met (a9c s) (b4Q s (jG s.ks).length):=by
 have:=a9r hf hk _ (dG _)
 rw[eZ]at this
 exact this
def leP(a b:Rp):Bool:= !decide (d0O b a=-1)
def wD(s:Sn):Int:=if tT s≠0 then tT s else if 500<(a9c s).length then 4 else 0
def rB(s:Sn):List Rp:=if wD s=0 then(a9c s).mergeSort leP else[]
theorem c0Z(es:List Rn):(c1Z es).map Rn.rp=(es.map Rn.rp).mergeSort leP:=by
 unfold c1Z
 exact List.map_mergeSort fun a _ b _=>rfl
theorem Sl.cp{α:Type}{n:Nat}{cel:α→List Value}(hc:∀x,(cel x).length=n)(hp:0<n):Sl n cel H (.slice none 0 0) []:=⟨.inl ⟨rfl,rfl⟩,hc,hp⟩
theorem c2Z(hG:Glob gH H)(s:Sn)(hs:s.In H):Fn prog 21 [s.v] H fun r H'=>∃(ov:Value)(es:List Rn),r=.tuple #[ov,I (wD s)]∧es.map Rn.rp=rB s∧(∀e∈es,Slx 1 (one I) H' (fun A=>H.length≤A∧kY ov≠some A) e.cv e.cps∧e.cps.length≤1024)∧St prog H H' [⟨ov,6,es.flatMap Rn.cells⟩]:=by
 refine .aL func21 rfl (by kernel_rfl) (m:=44) rfl fun l hn g0=> ?_
 simp(disch:=omega) only[↓RA,RB,simprocAttr,g0]
 refine(sR H).eNew 10 [(.string s.o.name),s.o.rv,s.o.dv,s.o.cv,s.sv,(.int .u64 s.rg.cpl),(.int .u64 s.rg.off),s.kv,I s.p.1,I s.p.2] rfl rfl (by simp[OC,((sR H).sl hs.o.1).cells.2.1,((sR H).sl hs.o.2.2.1).cells.2.1,((sR H).sl hs.o.2.2.2.2.1).cells.2.1,((sR H).sl hs.rg.1).cells.2.1,((sR H).sl hs.ks.sl).cells.2.1]) oI fun A1 H1 hS1=> ?_
 simp only[RT]at hS1
 simp(disch:=omega) only[↓RA,RZ,simprocAttr,hn,hS1.aj 0 rfl]
 refine hS1.cF (pS s (hs.ag hS1)) fun H2 hS2=> ?_
 simp(disch:=omega) only[↓RA,RB,simprocAttr,hn]
 refine jA (fun h1=> ?_) (fun h1=> ?_)
 ·have hE:wD s=tT s:=by unfold wD;rw[if_pos h1]
  have hA:rB s=[]:=by unfold rB;rw[hE,if_neg h1]
  simp(disch:=omega) only[↓RA,RZ,simprocAttr,hn,c3T,h1]
  rw[hE,hA]
  exact⟨.slice none 0 0,[],rfl,rfl,fun e he=>absurd he (eO),(hS2.forget).nil 5⟩
 have hz:tT s=0:=dW.1 h1
 have hf:=zZ.1 hz
 have hpl:=a1t hf.keys
 have hct:=uI hs.ks.ok hf.keys
 have hmet:=b9U hf hs.ks.ok
 simp(disch:=omega) only[↓RA,RC,simprocAttr,h1]
 refine Wp.aF kS [(0,3)] (by kernel_rfl) (by kernel_rfl) ?_
 simp(disch:=omega) only[↓RA,RZ,simprocAttr,hn,hS2.aj 0 rfl]
 refine jI (a0m s (hs.ag hS2) hf) ?_
 rintro r H3⟨M,kvs,rfl,hD,hT2⟩
 have hS3:=hS2.trans hT2
 simp only[RT]at hS3
 simp(disch:=omega) only[↓RA,RB,simprocAttr,hn,b5e (hS3.sl hs.o.1).cells (hS3.sl hs.o.2.2.1).cells (hS3.sl hs.o.2.2.2.2.1).cells (hS3.sl hs.rg.1).cells (hS3.sl hs.ks.sl).cells (show(Value.map (some M)).cells=#[(Value.map (some M))]∧oneCell (Value.map (some M))=true∧nB (Value.map (some M))=true from⟨rfl,rfl,rfl⟩)]
 refine hS3.eNew 13 [(.string s.o.name),s.o.rv,s.o.dv,s.o.cv,s.sv,(.int .u64 s.rg.cpl),(.int .u64 s.rg.off),s.kv,I s.p.1,I s.p.2,(.map (some M)),(.slice none 0 0),(.bool false)] rfl rfl (by simp[OC,(hS3.sl hs.o.1).cells.2.1,(hS3.sl hs.o.2.2.1).cells.2.1,(hS3.sl hs.o.2.2.2.2.1).cells.2.1,(hS3.sl hs.rg.1).cells.2.1,(hS3.sl hs.ks.sl).cells.2.1]) c4G fun A2 H4 hS4=> ?_
 simp only[RT]at hS4
 simp(disch:=omega) only[↓RA,RZ,simprocAttr,hn,hS3.aj 0 rfl,hS4.aj 0 rfl]
 refine jI ((zD (hS4.gl hG) s (hs.ag hS4) hf).tr) ?_
 rintro r H5⟨-,hT3⟩
 have hS5:=hS4.trans hT3
 simp only[RT]at hS5
 obtain⟨pw,rfl⟩:∃w,w=r:=⟨r,rfl⟩
 simp(disch:=omega) only[↓RA,RZ,simprocAttr,hn,(hS5.av 3 rfl lB).len]
 have hS6:=hS5.nil 5
 simp only[RT]at hS6
 refine Wp.aq (fun n l H'=>l.length=44∧get l 2=(.slice none 0 0)∧get l 3=I 0∧get l 5=(ptr A2 0 13)∧get l 19=pw∧get l 20=I (jG s.ks).length∧∃(i:Nat)(ov:Value)(es:List Rn)(mn:Bool),(n+i=(jG s.ks).length∧(es.map Rn.rp,mn)=b4Q s i∧(∀e∈es,Slx 1 (one I) H' (nb [ptr A1 0 10,.map (some M),ptr A2 0 13,pw,ov]) e.cv e.cps∧e.cps.length≤1024∧∀A,kY e.cv=some A→H.length≤A)∧es.length≤560+60*i)∧get l 21=I i∧St prog H H' [⟨ptr A1 0 10,0,[(.string s.o.name),s.o.rv,s.o.dv,s.o.cv,s.sv,(.int .u64 s.rg.cpl),(.int .u64 s.rg.off),s.kv,I s.p.1,I s.p.2]⟩,⟨.map (some M),0,KN kvs⟩,⟨ptr A2 0 13,0,[.string s.o.name,s.o.rv,s.o.dv,s.o.cv,s.sv,.int .u64 s.rg.cpl,.int .u64 s.rg.off,s.kv,I s.p.1,I s.p.2,.map (some M),ov,.bool mn]⟩,⟨pw,2,pr (jG s.ks)⟩,⟨ov,6,es.flatMap Rn.cells⟩]) (jG s.ks).length ?_ ?_
 ·simp(disch:=omega) only[RB,RC,simprocAttr,hn]
  exact⟨0,.slice none 0 0,[],false,⟨by omega,rfl,fun e he=>absurd he (eO),by simp⟩,rfl,hS6⟩
 rintro n l H6⟨hn,g2,g3,g5,g19,g20,i,ov,es,mn,⟨hi,hQ,hN,hL⟩,g21,hS7⟩
 simp(disch:=omega) only[↓RA,RB,simprocAttr,hn,g20,g21]
 refine jA (fun q1=> ?_) (fun q1=> ?_)
 ·have hci:=hct _ (jE (xs:=jG s.ks) (j:=i) (by omega))
  have hco:=(lQ s.o _).1 hci
  have hpre:=hS7
  obtain⟨B1,hBB1,hS8⟩:=hS7.aB (os:=[⟨ptr A1 0 10,0,_⟩,⟨.map (some M),0,_⟩,⟨ptr A2 0 13,0,_⟩,⟨pw,2,_⟩,⟨ov,6,_⟩])
  have hun:∀{H1:Heap}{os:List Ob},St prog B1 H1 os→St prog H H1 os:=fun h=>hpre.ae hBB1 h
  have hkp:∀{H1 os},St prog B1 H1 os→∀e∈es,Slx 1 (one I) H1 (nb (os.map (·.v))) e.cv e.cps:=fun h e he=>(hN e he).1.step (h.kept hBB1)
  simp(disch:=omega) only[↓RA,RZ,simprocAttr,hn,g19,g21,(hS8.av 3 rfl lB).idx,(hS8.av 3 rfl lB).aj,mD,q1]
  refine hS8.eNew 2 [I 0,I 0] rfl rfl rfl mM fun A3 H7 hS9=> ?_
  simp only[RT]at hS9
  simp(disch:=omega) only[↓RA,RZ,simprocAttr,hn,q1]
  refine hS9.ab 5 rfl [I (jB (jG s.ks) i).1,I (jB (jG s.ks) i).2] rfl rfl mM (by simp) fun H8 hS10=> ?_
  simp only[RT]at hS10
  simp(disch:=omega) only[↓RA,RZ,simprocAttr,hn,g5,hS10.aj 5 rfl,a8N,q1]
  have hSc:=hS10
  have hM1:=hS10.pick (os':=[⟨ptr A2 0 13,0,_⟩,⟨ov,6,_⟩]) [2,4] (by decide) rfl
  have hR1:=hS10.pick (os':=[⟨ptr A2 0 13,0,_⟩,⟨ov,6,_⟩,⟨ptr A1 0 10,0,_⟩,⟨.map (some M),0,_⟩,⟨pw,2,_⟩,⟨ptr A3 0 2,0,_⟩]) [2,4,0,1,3,5] (by decide) rfl
  refine jI (b6z hf hD A2 1025 ⟨jB (jG s.ks) i,.slice none 0 0,[],jB (jG s.ks) i,0⟩ (.slice none 0 0) [] ov es mn hM1.aT (fun h=>⟨hs.ag (hun (hR1.frame h.forget)),(hR1.frame h.forget).own _ (dR (i:=1) rfl),Sl.cp lB (by decide)⟩) (fun h=>⟨Sl.cp (fun _=>rfl) (by decide),fun B hb=>by cases hb⟩) (Que.nil _) hci hco.1 rfl rfl (by omega)) ?_
  rintro r H9⟨rfl,ov3,new2,mn2,hM1,hM2,hM3,hM4,hT4⟩
  have hS11:=hR1.frame hT4
  simp only[RT]at hS11
  simp(disch:=omega) only[↓RA,RZ,simprocAttr,hn,g2,g3,g5,g19,g20,g21,q1]
  refine⟨n-1,by omega,i+1,ov3,es++new2,mn2,⟨by omega,?_,fun e he=> ?_,by omega⟩,by simp,?_⟩
  ·rw[a5C s (by omega),←hQ,←hM3]
  ·rcases eo.1 he with he|he
   ·exact⟨(hkp hS11 e he).bA (by simp),(hN e he).2⟩
   ·obtain⟨h1,h0,h2⟩:=hM4 e he
    have h3:∀A,kY e.cv=some A→_≤A:=fun A hA=>(h2 A hA).resolve_left fun h=>by cases h
    refine⟨⟨h1.1,fun A hA v hv=> ?_⟩,h0,fun A hA=>eh (hun hSc).len (h3 A hA)⟩
    simp only[eJ,eO,or_false]at hv
    rcases hv with rfl|rfl|rfl|rfl|rfl
    ·exact fun hV=>absurd ((hSc.own _ (dR (i:=0) rfl)).lt hV) (Nat.not_lt.2 (h3 A hA))
    ·exact fun hV=>absurd ((hSc.own _ (dR (i:=1) rfl)).lt hV) (Nat.not_lt.2 (h3 A hA))
    ·exact h1.2 A hA _ (by simp)
    ·exact fun hV=>absurd ((hSc.own _ (dR (i:=3) rfl)).lt hV) (Nat.not_lt.2 (h3 A hA))
    ·exact h1.2 A hA _ (by simp)
  ·exact(hS7.ae hBB1 hS11).pick [2,3,0,4,1] (by decide) rfl
 have hii:i=(jG s.ks).length:=by omega
 rw[hii]at hQ
 rw[←hQ]at hmet
 simp(disch:=omega) only[↓RA,RZ,simprocAttr,hn,g5,mF,mG,hS7.ld 2 rfl,q1]
 refine kC (fun q2=> ?_) (fun q2=> ?_)
 ·have hb:=hmet.2 q2
  have hE:wD s=4:=by unfold wD;rw[if_neg h1,if_pos hb]
  have hA:rB s=[]:=by unfold rB;rw[hE,if_neg (by decide)]
  simp(disch:=omega) only[↓RA,RZ,simprocAttr,hn,c3T,q1,q2]
  rw[hE,hA]
  exact⟨.slice none 0 0,[],rfl,rfl,fun e he=>absurd he (eO),(hS7.forget).nil 5⟩
 obtain⟨hb1,hb2⟩:=hmet.1 (by simpa using q2)
 have hE:wD s=0:=by unfold wD;rw[if_neg h1,if_neg (by omega)]
 have hA:rB s=(a9c s).mergeSort leP:=by unfold rB;rw[if_pos hE]
 have hpre:=hS7
 obtain⟨B2,hBB2,hS12⟩:=hS7.aB (os:=[⟨ptr A1 0 10,0,_⟩,⟨.map (some M),0,_⟩,⟨ptr A2 0 13,0,_⟩,⟨pw,2,_⟩,⟨ov,6,_⟩])
 have hks:∀{H1 os},St prog B2 H1 os→∀e∈es,Slx 1 (one I) H1 (nb (os.map (·.v))) e.cv e.cps:=fun h e he=>(hN e he).1.step (h.kept hBB2)
 have hnd:=c3o (s:=s)
 rw[←hb1,gr]at hnd
 simp(disch:=omega) only[↓RA,RZ,simprocAttr,hn,g5,mF,mG,hS12.ld 2 rfl,q1,q2]
 refine b8V hS12 4 rfl (by omega) (fun r hr=>⟨(hks hS12 r hr).1,by have:=(hN r hr).2.1;omega⟩) (fun r hr A hA hB=>(hks hS12 r hr).2 A hB ov (by simp) hA) (hnd.imp fun h e=>h (b7T e)) fun HS hSS=> ?_
 simp only[iT,gy]at hSS
 have hnt:kA ov=true:=(hSS.av (cel:=Rn.cells) 4 rfl (fun _=>rfl)).bD
 simp(disch:=omega) only[↓RA,RZ,simprocAttr,hn,g5,mF,mG,hSS.ld 2 rfl,c3T,q1,q2,hnt]
 refine⟨ov,c1Z es,?_,?_,fun e he=> ?_,?_⟩
 ·rw[hE]
 ·rw[hA,c0Z,show es.map Rn.rp=a9c s from hb1]
 ·have he2:e∈es:=List.mem_mergeSort.1 he
  exact⟨⟨(hks hSS e he2).1,fun A hA=>⟨(hN e he2).2.2 A hA,(hks hSS e he2).2 A hA ov (by simp)⟩⟩,(hN e he2).2.1⟩
 ·exact(hS7.ae hBB2 hSS).pick [4] (by decide) rfl
end Go.Ds
namespace Go.Ds
open Go.Proofs
open Go.Shelf Go.RowKit Go.Lib Go.Sort
def b6T(P:Program)(K kc:FuncId)(k:Nat):Prop:=∀{α:Type}[Inhabited α](enc:α→List Value)(_:∀x,(enc x).length=k)(_:∀x,∀v∈enc x,v.oneCell'=true)(cf:α→α→Int)(_:SWO (ltOf cf))(_:∀x y,(ltOf cf) x y=false→(ltOf cf) y x=false→x=y)(kY off cap:Nat)(d:Array α)(w:World),
    CmpLays P kc #[] enc k cf kY off d.size w→HoldsK enc k w kY off d→kY<w.heap.size→d.size<4611686018427387904→
    Calls P K #[.slice (some ⟨kY,off,none⟩) d.size cap,.func (.func kc) #[] #[]] w fun e w'=>e=.returned (.tuple #[])∧∃n os,w'=sortWorldK enc k w kY off n (d.toList.mergeSort fun x y=> !(ltOf cf) y x).toArray os
set_option maxRecDepth 10000 in
theorem b4N{α:Type}[Inhabited α]{enc:α→List Value}{P:Program}{K kc:FuncId}{k:Nat}(hel:∀x,(enc x).length=k)(hsc:∀x,∀v∈enc x,jY v=true)(hone:∀x,∀v∈enc x,v.oneCell'=true)(hk0:0<k)(hso:b6T P K kc k){H:Heap}{A i lo ver:Nat}{ty:TypeId}{pre:List Value}{xs:List α}(hne:0<xs.length)(hbig:xs.length<100000000000)
 (hg:jS H A=some (.cells (pre++xs.flatMap enc) ty true lo ver)) (hlo:lo≤i+(xs.flatMap enc).length) (hpre:pre.length=i) (hty:jD P ty=some k) (cf:α→α→Int) (hO:SWO (ltOf cf)) (hT:∀x y,(ltOf cf) x y=false→(ltOf cf) y x=false→x=y)
 (hcmp:∀(W:World)x y,Calls P kc #[.agg (enc x).toArray,.agg (enc y).toArray] W fun e w'=>e=.returned (.int .i64 (cf x y))∧∃q os',w'=Go.Sort.grow (W.drewN q) os'):
 CallOk P K [.slice (some ⟨A,i,some (i+(xs.flatMap enc).length)⟩) xs.length k,.func (.func kc) #[] #[]] H (.tuple #[]) (hset H A (.cells (jZ (pre++xs.flatMap enc) i ((xs.mergeSort fun x y=> !(ltOf cf) y x).flatMap enc)) ty true (pre++xs.flatMap enc).length ver)):=by
 intro q ρ w args' hr ha
 obtain⟨l⟩:=args'
 match l,ha with
 | [x,f],⟨hx,hf,_⟩=>
   obtain rfl:=V.func0 hf
   have hfl:(xs.flatMap enc).length=xs.length*k:=a8P hel xs
   have hlen:(pre++xs.flatMap enc).length=i+(xs.flatMap enc).length:=by rw[dH,hpre]
   obtain⟨p,c',a,hp,h0',hin,hnc,hac,hpk,rfl⟩:=hx.ay
   have ha':a=⟨p.b,p.at i,none⟩:=by
    rcases hac with h|h
    ·exact h.1
    ·omega
   subst ha'
   have hp2:ρ A (pre++xs.flatMap enc).length=some p:=by rw[hlen];exact hp
   obtain⟨_,_,hfit,cur,ty',fr,hw,hsz,hfr,hcell⟩:=(hr.cells _ _ _ _ _ _ hg).2 _ _ hp2
   obtain⟨rfl,hd0,_⟩:=hfr rfl
   have hcur:∀j c,(xs.flatMap enc)[j]? =some c→cur[p.at i+j]? =some c:=fun j c hc=>by
    have hj:=(dO.1 hc).1
    have h2:(pre++xs.flatMap enc)[i+j]? =some c:=by
     rw[eH (by omega),hpre,fB]
     exact hc
    obtain⟨c2,h3,h4⟩:=hcell (by rw[hlen];exact hlo) (i+j) _ (by rw[hlen];omega) (by omega) h2
    have hat:p.at (i+j)=p.at i+j:=by unfold Place.at;omega
    rw[hat]at h3
    obtain⟨x,_,hx⟩:=fp.1 (dR hc)
    have:=h4.ax (hsc x c hx)
    subst this
    exact h3
   have hA:∀x,All2 (C1 ρ) (enc x) (enc x):=fun x=>All2.db rfl fun j c hc=>⟨c,hc,.c0 (.flat (hsc x c (dR hc)))⟩
   obtain⟨d,hd⟩:∃d:Array α,d=xs.toArray:=⟨_,rfl⟩
   have hds:d.size=xs.length:=by rw[hd];simp
   have hH:Go.Sort.HoldsK enc k w p.b (p.at i) d:=by
    intro j hj
    rw[Go.Sort.size_flatK,hds]at hj
    constructor
    ·rw[Go.Sort.get_flatK _ _ _ _ (by rw[hds];exact hj),hd,b7Z hk0 hel xs j hj,dE,dM (by rw[hfl];exact hj)]
     have:=hcur j _ (dM (by rw[hfl];exact hj))
     simp only[World.cell?,hw]
     exact this
    ·simp only[World.frozen?,hw]
     simp
   have hlay:CmpLays P kc #[] enc k cf p.b (p.at i) d.size w:=fun m os dk hdk x y=>hcmp _ x y
   have hcon:=hso enc hel hone cf hO hT p.b (p.at i) c' d w hlay hH (hr.dom _ _ _ hp).2 (by rw[hds];omega)
   rw[hds]at hcon
   obtain⟨σ,hσ⟩:∃σ,xs.mergeSort (fun x y=> !(ltOf cf) y x)=σ:=⟨_,rfl⟩
   have hdl:d.toList=xs:=by rw[hd]
   rw[hdl,hσ]at hcon
   have hσl:σ.length=xs.length:=by rw[←hσ];simp
   have hll:(σ.flatMap enc).length=xs.length*k:=by rw[a8P hel,hσl]
   have hlr:(σ.flatMap enc).length=xs.length*k:=by rw[a8P hel,hσl]
   obtain⟨w1,hrun,hpost⟩:=sW hr hg hp2 h0' (All2.bE hA σ) (by rw[hlen,hll];omega) (by rw[hlen];exact hlo)
   rw[hσ]
   have hcsz:p.at i+(σ.flatMap enc).length≤cur.size:=by
    rw[hlr,hsz]
    unfold Place.at
    rw[hlen]at hfit
    omega
   have hst:=run_storeCells_at (P:=P) p.b (p.at i) ty' (σ.flatMap enc) 0 cur w hw (by simpa using hcsz) (All2.bE hA σ).aK
   rw[hst]at hrun
   injection hrun with _ hw1
   subst hw1
   refine callsIn_wide.2 (hcon.mono ?_)
   rintro e w'⟨rfl,m,os,rfl⟩
   refine⟨ρ,_,rfl,?_,.tuple trivial⟩
   have hfs:∀j,j<xs.length*k→(Go.Sort.flatK enc k σ.toArray)[j]! =(σ.flatMap enc).getD j undef:=fun j hj=>by
    rw[Go.Sort.get_flatK _ _ _ _ (by rw[fY,hσl];exact hj)]
    exact b7Z hk0 hel σ j (by rw[hσl];exact hj)
   have hFs:(Go.Sort.flatK enc k σ.toArray).size=xs.length*k:=by rw[Go.Sort.size_flatK,fY,hσl]
   unfold sortWorldK Go.Sort.putRowK
   generalize Go.Sort.flatK enc k σ.toArray=F at hfs hFs ⊢
   have hlt:=nG hw
   have hh:∀b,b<w.heap.size→(Go.Sort.grow (Go.Sort.putRow id (Go.Sort.ahead w m) p.b (p.at i) F) os).heap[b]? =(Go.Sort.putRow id (Go.Sort.ahead w m) p.b (p.at i) F).heap[b]?:=fun b hb=>by
    have:b<(Go.Sort.putRow id (Go.Sort.ahead w m) p.b (p.at i) F).heap.size:=by simpa [Go.Sort.putRow,Go.Sort.mapBlock,Go.Sort.ahead]using hb
    unfold Go.Sort.grow
    exact fy this
   refine hpost.cN ?_ ?_ rfl ⟨rfl,Nat.le_add_right _ _⟩ rfl
   ·simp[Go.Sort.grow,Go.Sort.putRow,Go.Sort.mapBlock,Go.Sort.ahead]
   ·intro b hbs
    rw[setRow_size]at hbs
    rw[hh b hbs]
    by_cases e:b=p.b
    ·subst e
     rw[setRow_heap w p.b cur _ ty' (0,0) hw]
     have e2:(Go.Sort.putRow id (Go.Sort.ahead w m) p.b (p.at i) F).heap[p.b]? =some (.cells (Go.Sort.putCells id (p.at i) F cur) ty' (0,0)):=by
      simp[Go.Sort.putRow,Go.Sort.mapBlock,Go.Sort.ahead,fG,hw,Go.Sort.onCells]
     rw[e2]
     congr 2
     apply gM
     intro j
     have hseg:=a0l cur.toList (σ.flatMap enc) (p.at i) j (by simpa using hcsz)
     have e3:((List.take (p.at i+0) cur.toList++σ.flatMap enc++List.drop (p.at i+0+(σ.flatMap enc).length) cur.toList).toArray)[j]? =(List.take (p.at i) cur.toList++σ.flatMap enc++List.drop (p.at i+(σ.flatMap enc).length) cur.toList)[j]?:=by simp
     rw[e3,hseg]
     simp only[Go.Sort.putCells,Array.getElem?_mapIdx,gw]
     rw[hlr]at hcsz ⊢
     by_cases h1:p.at i≤j∧j<p.at i+xs.length*k
     ·rw[if_pos h1]
      have hjc:j<cur.size:=by omega
      rw[fK hjc]
      simp only[ew]
      rw[if_pos (by rw[hFs];exact h1),hfs _ (by omega),dE,dM (by rw[hlr];omega)]
      rfl
     ·rw[if_neg h1]
      cases hc:cur[j]? with
      | none=>simp
      | some c=>
        simp only[ew]
        rw[if_neg (by rw[hFs];exact h1)]
    ·rw[setRow_other _ _ _ _ e]
     simp[Go.Sort.putRow,Go.Sort.mapBlock,Go.Sort.ahead,fG,fN e]
theorem b7n{α:Type}[Inhabited α]{enc:α→List Value}{P:Program}{K kc:FuncId}{k:Nat}(hel:∀x,(enc x).length=k+1)(hsc:∀x,∀v∈enc x,jY v=true)(hone:∀x,∀v∈enc x,v.oneCell'=true)(hso:b6T P K kc (k+1))(hno:tU P K)(hent:pF P K){H:Heap}{B:Base}{os:List Ob}(hS:St P B H os)(i:Nat){v:Value}{xs:List α}(ho:os[i]? =some ⟨v,k+1,xs.flatMap enc⟩)(hbig:xs.length<100000000000)
 (cf:α→α→Int) (hO:SWO (ltOf cf)) (hT:∀x y,(ltOf cf) x y=false→(ltOf cf) y x=false→x=y)
 (hcmp:∀x y,Fn P kc [.agg (enc x).toArray,.agg (enc y).toArray] .nil fun r H'=>r=I (cf x y)∧St P (.nil:Heap) H' [])
 {Q:Value→Heap→Prop} (h:∀H1,St P B H1 (os.set i ⟨v,k+1,(xs.mergeSort fun x y=> !(ltOf cf) y x).flatMap enc⟩)→Q (.tuple #[]) H1):sY P K [v,.func (.func kc) #[] #[]] H Q:=by
 have hcm:∀(W:World)x y,Calls P kc #[.agg (enc x).toArray,.agg (enc y).toArray] W fun e w'=>e=.returned (.int .i64 (cf x y))∧∃q os',w'=Go.Sort.grow (W.drewN q) os':=fun W x y=>by
  obtain⟨_,v,H1,h1,hr,_⟩:=hcmp x y
  subst hr
  refine b6X (ρ:=fun _ _=>none) h1 (HRel.none W) (fun b=> ?_) ⟨.v1 (.agg ?_),.v1 (.agg ?_),trivial⟩
  ·rintro⟨A,e,p,kY,hq,_⟩;cases hq
  ·exact All2.db rfl fun j c hc=>⟨c,hc,.c0 (.flat (hsc x c (dR hc)))⟩
  ·exact All2.db rfl fun j c hc=>⟨c,hc,.c0 (.flat (hsc y c (dR hc)))⟩
 by_cases h0:xs=[]
 ·subst h0
  refine⟨.tuple #[],H,hent,?_,h H ?_⟩
  ·intro k ρ w args' hr ha
   obtain⟨l⟩:=args'
   match l,ha with
   | [x,f],⟨hx,hf,_⟩=>
     obtain rfl:=V.func0 hf
     have hown:=hS.own _ (dR ho)
     unfold OwnAt at hown
     rw[if_neg (by simp)]at hown
     have hx0:∃p cap,x=.slice p 0 cap:=by
      rcases hown with⟨h2,_⟩|⟨A,j,ty,lo',ver,pre,m,h2,h3,h4,h5,h6,h7⟩
      ·simp only at h2
       subst h2
       rcases hx.aA with⟨_,_,_,rfl⟩|⟨A,j,e,p,c',a,hh,_⟩
       ·exact⟨_,_,rfl⟩
       ·cases hh
      ·simp only at h5 h6
       subst h6
       have hm:m=0:=by
        rw[fx,dV]at h5
        rcases iQ.1 h5.symm with h|h
        ·exact h
        ·omega
       subst hm
       obtain⟨p,c',a,_,_,_,_,_,_,rfl⟩:=hx.ay
       exact⟨_,_,rfl⟩
     obtain⟨p,cap,rfl⟩:=hx0
     refine callsIn_wide.2 ((hno p cap _ w).mono ?_)
     rintro e w'⟨rfl,rfl⟩
     exact⟨ρ,_,rfl,.refl hr,.tuple trivial⟩
  ·obtain⟨hi,hoi⟩:=dO.1 ho
   have e0:([]:List α).mergeSort (fun x y=> !(ltOf cf) y x)=[]:=by simp
   rw[e0]
   have e:os[i]=⟨v,k+1,[]⟩:=by rw[hoi];rfl
   rw[fx,←e,gP]
   exact hS
 ·have hown:=hS.own _ (dR ho)
  unfold OwnAt at hown
  rw[if_neg (by simp)]at hown
  have hne:0<xs.length:=fI.2 h0
  have hfl:=a8P hel xs
  rcases hown with⟨_,h3⟩|⟨A,j,ty,lo',ver,pre,m,h2,h3,h4,h5,h6,h7⟩
  ·simp only at h3
   have:=congrArg List.length h3
   rw[hfl,dV]at this
   rcases iQ.1 this with h|h<;>omega
  ·simp only at h2 h3 h5 h6
   have hm:m=xs.length:=fz (fE k) (h5.symm.trans hfl)
   subst hm
   have hsl:((xs.mergeSort fun x y=> !(ltOf cf) y x).flatMap enc).length=(xs.flatMap enc).length:=by
    rw[a8P hel,hfl]
    simp
   have hcall:=b4N hel hsc hone (fE k) hso hne hbig h2 h3 h4 h7 cf hO hT hcm
   rw[←h6]at hcall
   refine⟨_,_,hent,hcall,h _ (hS.put i ho ?_ ?_ ?_ ?_)⟩
   ·unfold OwnAt
    rw[if_neg (by simp)]
    refine .inr ⟨A,j,ty,(pre++xs.flatMap enc).length,ver,pre,xs.length,?_,?_,h4,?_,?_,h7⟩
    ·rw[jR _ (kL h2)]
     have:=nE ((xs.mergeSort fun x y=> !(ltOf cf) y x).flatMap enc) pre (xs.flatMap enc) (by rw[hsl];exact dG _)
     rw[h4]at this
     rw[this,hsl,iK,dQ]
    ·simp only[dH,h4,hsl];exact dG _
    ·simp only[hsl];exact h5
    ·simp only[hsl];exact h6
   ·rw[kO];exact dG _
   ·intro B' hB hne'
    refine rM fun hh=>hne' ?_
    simp[kY,h6,hh]
   ·intro B' hB
    exact .inl hB
end Go.Ds
namespace Go.Ds
open Go.Proofs Go.Proofs.Tryz Go.Shelf Go.RowKit Go.Lib Go.Sort
variable {H:Heap}
set_option maxRecDepth 10000
set_option maxHeartbeats 1000000
theorem Ctl.cq{a b:Ctl}(h:a.kind=b.kind∧a.dv=b.dv∧a.ix=b.ix):a=b:=by
 obtain⟨a1,a2,a3⟩:=a
 obtain⟨b1,b2,b3⟩:=b
 obtain⟨h1,h2,h3⟩:=h
 simp only at h1 h2 h3
 rw[h1,h2,h3]
theorem Ctl.dc(a b:Ctl):(a.kind=b.kind∧a.dv=b.dv∧a.ix=b.ix)↔b=a:=⟨fun h=>(Ctl.cq h).symm,fun h=>by rw[h];exact⟨rfl,rfl,rfl⟩⟩
def rO(c:Ctl):List Int:=[c.kind,c.dv,c.ix]
theorem a4k{a b:Ctl}(h:rO a=rO b):a=b:=by
 unfold rO at h
 simp only[ft,and_true]at h
 exact Ctl.cq h
theorem c1W(x y:Ctl):Fn prog 63 [.agg #[I x.kind,I x.dv,I x.ix],.agg #[I y.kind,I y.dv,I y.ix]] H fun r H'=>r=I (lX (rO x) (rO y))∧St prog H H' []:=by
 refine .aE func63 rfl (by kernel_rfl) (m:=22) rfl fun l hn g0 g1=> ?_
 simp(disch:=omega) only[↓RA,RB,simprocAttr,g0]
 refine(sR H).eNew 3 [I x.kind,I x.dv,I x.ix] rfl rfl rfl a9g fun A1 H1 hS1=> ?_
 simp only[RT]at hS1
 simp(disch:=omega) only[↓RA,RB,simprocAttr,g1]
 refine hS1.eNew 3 [I y.kind,I y.dv,I y.ix] rfl rfl rfl a9g fun A2 H2 hS2=> ?_
 simp only[RT]at hS2
 simp(disch:=omega) only[↓RA,RB,simprocAttr]
 refine Wp.aF kS [(6,0),(8,0),(11,0),(11,5),(13,0),(13,5)] (by kernel_rfl) (by kernel_rfl) ?_
 simp(disch:=omega) only[↓RA,RZ,simprocAttr,hn,hS2.ld 0 rfl,hS2.ld 1 rfl]
 refine hS2.cF (pE x.kind y.kind) fun H3 hS3=> ?_
 simp(disch:=omega) only[↓RA,RZ,simprocAttr,hn,hS3.ld 0 rfl,hS3.ld 1 rfl]
 refine hS3.cF (pE x.dv y.dv) fun H4 hS4=> ?_
 simp(disch:=omega) only[↓RA,RZ,simprocAttr,hn,hS4.ld 0 rfl,hS4.ld 1 rfl]
 refine hS4.cF (pE x.ix y.ix) fun H5 hS5=> ?_
 simp(disch:=omega) only[↓RA,RB,simprocAttr,hn]
 refine hS5.ai [I (lA x.kind y.kind),I (lA x.dv y.dv),I (lA x.ix y.ix)] qK wM rfl rfl (by simp[Value.cells]) rfl rfl (by decide) (by decide) fun w1 H6 hS6=> ?_
 simp only[RT]at hS6
 simp(disch:=omega) only[↓RA,RZ,simprocAttr,hn]
 refine hS6.cF (a7W w1 [lA x.kind y.kind,lA x.dv y.dv,lA x.ix y.ix] (hS6.av 2 rfl (mC _)) (by simp)) fun H7 hS7=> ?_
 simp(disch:=omega) only[↓RA,RZ,simprocAttr,hn,hS2.ld 0 rfl,hS2.ld 1 rfl,hS3.ld 0 rfl,hS3.ld 1 rfl,c9O]
 exact⟨rfl,hS7.forget⟩
def leC(a b:Ctl):Bool:= !decide (lX (rO b) (rO a)=-1)
def wG(l:List Ctl):List Ctl:=l.mergeSort leC
theorem soC:b6T prog 62 63 3:=
 fun enc hk h1 cf hO hT kY off cap d w hlay hH hblk hsz=>
  AnyQ.slices_SortFunc_total Tryz.cD 3 Tryz.isAgg63 Tryz.sizeOf63 enc hk h1 cf hO 63 #[] kY off cap d w (enters_of func63 (by kernel_rfl) rfl) hlay hH hblk hsz hT
theorem snC:tU prog 62:=fun p cap fv w=>AnyF.slices_SortFunc_none {Tryz.cD with} p cap fv w
theorem enC:pF prog 62:=⟨Tryz.f62,func62,by kernel_rfl,by kernel_rfl⟩
theorem a8e{B:Base}{os:List Ob}(hS:St prog B H os)(i:Nat){v:Value}{xs:List Ctl}(ho:os[i]? =some ⟨v,3,oO xs⟩)(hl:xs.length<100000000000)
 {Q:Value→Heap→Prop} (h:∀H1,St prog B H1 (os.set i ⟨v,3,oO (wG xs)⟩)→Q (.tuple #[]) H1):sY prog 62 [v,.func (.func 63) #[] #[]] H Q:=by
 refine b7n (enc:=Ctl.cells) (fun _=>rfl) (fun x v hv=> ?_) (fun x v hv=> ?_) soC snC enC hS i ho hl (fun x y=>lX (rO x) (rO y)) (c7P rO) (c8n fun x y h=>a4k h) (fun x y=>c1W x y) fun H1 hH=>h H1 ?_
 ·simp only[Ctl.cells,eJ,eO,or_false]at hv
  rcases hv with rfl|rfl|rfl<;>rfl
 ·simp only[Ctl.cells,eJ,eO,or_false]at hv
  rcases hv with rfl|rfl|rfl<;>rfl
 ·have e:(fun x y:Ctl=> !(ltOf fun x y=>lX (rO x) (rO y)) y x)=leC:=by
   funext x y
   rw[uP]
   rfl
  rw[e]at hH
  exact hH
theorem b4x(v:Value)(xs:List Ctl)(hv:Sl 3 Ctl.cells H v xs)(hl:xs.length<1000000000)(d:Ctl):
 Fn prog 104 [v,.agg #[I d.kind,I d.dv,I d.ix]] H fun r H'=>r=I (qW (fun j=>decide (jB xs j=d)) xs.length)∧St prog H H' []:=by
 refine .aE func104 rfl (by kernel_rfl) (m:=19) rfl fun l hn g0 g1=> ?_
 simp(disch:=omega) only[↓RA,RB,simprocAttr,g1]
 refine(sR H).eNew 3 [I d.kind,I d.dv,I d.ix] rfl rfl rfl a9g fun A1 H1 hS1=> ?_
 simp only[RT]at hS1
 simp(disch:=omega) only[↓RA,RZ,simprocAttr,hn,g0,(hS1.sl hv).len]
 refine Wp.aq (fun n l H'=>l.length=19∧get l 0=v∧get l 3=(ptr A1 0 3)∧get l 7=I xs.length∧∃(j:Nat),(n+j=xs.length∧∀q,q<j→decide (jB xs q=d)=false)∧get l 8=I j∧St prog H H' [⟨ptr A1 0 3,0,[I d.kind,I d.dv,I d.ix]⟩]) xs.length ?_ ?_
 ·simp(disch:=omega) only[RB,RC,simprocAttr,hn,g0]
  exact⟨0,⟨by omega,fun q hq=>absurd hq (ez _)⟩,rfl,hS1⟩
 rintro n l H2⟨hn,g0,g3,g7,j,⟨hi,h0⟩,g8,hS2⟩
 simp(disch:=omega) only[↓RA,RB,simprocAttr,hn,g7,g8]
 refine jA (fun h=> ?_) (fun h=> ?_)
 ·simp(disch:=omega) only[↓RA,RZ,simprocAttr,hn,g8,h]
  refine Wp.drw kS (by kernel_rfl) ?_
  simp(disch:=omega) only[↓RA,RZ,simprocAttr,hn,g0,g3,hS2.aj 0 rfl,(hS2.sl hv).idx,(hS2.sl hv).aj,Ctl.cells]
  refine jA (fun hp=> ?_) (fun hp=> ?_)
  ·simp(disch:=omega) only[↓RA,RZ,simprocAttr,hn,c4p,hp]
   exact⟨by rw[uV _ xs.length j (by omega) (by simpa using(Ctl.dc _ _).1 hp) h0],hS2.forget⟩
  simp(disch:=omega) only[↓RA,RZ,simprocAttr,hn,g0,g3,g7,g8,hp]
  exact⟨n-1,by omega,j+1,⟨by omega,fun q hq=>by rcases dN.1 hq with e|e;(· exact h0 q e);(· rw[e];simpa using fun hh=>hp ((Ctl.dc _ _).2 hh))⟩,by simp,hS2⟩
 simp(disch:=omega) only[↓RA,RZ,simprocAttr,hn,c4p,h]
 exact⟨by rw[vF _ xs.length fun q hq=>h0 q (by omega)],hS2.forget⟩
theorem c2r(v:Value)(xs:List Ctl)(hv:Sl 3 Ctl.cells H v xs)(hl:xs.length<1000000000)(d:Ctl):
 Fn prog 61 [v,.agg #[I d.kind,I d.dv,I d.ix]] H fun r H'=>r=.bool (decide (d∈xs))∧St prog H H' []:=by
 have e:decide (0≤qW (fun j=>decide (jB xs j=d)) xs.length)=decide (d∈xs):=by
  rw[eY,decide_eq_true_iff,decide_eq_true_iff,xV]
  constructor
  ·rintro⟨j,hj,hp⟩
   rw[←of_decide_eq_true hp];exact jE hj
  ·intro hx
   obtain⟨j,hj,rfl⟩:=eM.1 hx
   exact⟨j,hj,by rw[kN xs j hj];simp⟩
 refine .aE func61 rfl (by kernel_rfl) (m:=9) rfl fun l hn g0 g1=> ?_
 simp(disch:=omega) only[↓RA,RB,simprocAttr,g1]
 refine(sR H).eNew 3 [I d.kind,I d.dv,I d.ix] rfl rfl rfl a9g fun A1 H1 hS1=> ?_
 simp only[RT]at hS1
 simp(disch:=omega) only[↓RA,RZ,simprocAttr,hn,g0,hS1.aj 0 rfl]
 refine hS1.cF (b4x v xs (hS1.sl hv) hl d) fun H2 hS2=> ?_
 simp(disch:=omega) only[↓RA,RB,simprocAttr,hn,d1e]
 rw[←e]
 first|exact hS2.forget|exact⟨rfl,hS2.forget⟩
theorem d0o:b0f prog 40=some (2+1):=by kernel_rfl
theorem b7W{B:Base}{v:Value}{es:List Ctl}(hS:St prog B H [⟨v,3,oO es⟩])(hl:es.length<100000000000):
 Fn prog 64 [v] H fun r H'=>∃rest:List Value,r=lN v 3 0 (dd es).length∧St prog B H' [⟨v,3,oO (dd es)++rest⟩]:=by
 refine .aL func64 rfl (by kernel_rfl) (m:=61) rfl fun l hn g0=> ?_
 simp(disch:=omega) only[↓RA,RZ,simprocAttr,hn,g0,(hS.av 0 rfl (fun _=>rfl)).len]
 refine jA (fun h=> ?_) (fun h=> ?_)
 ·have hd:=qZ es es.length (dG _) fun j h1 h2=>by omega
  rw[eZ]at hd
  simp(disch:=omega) only[↓RA,RZ,simprocAttr,hn,g0,c5U,h]
  exact⟨[],by unfold dd;rw[hd];exact(RdAt.sub_self (size:=2) (hS.rd 0 rfl) (mZ es)).symm,by unfold dd;rw[hd,dQ];exact hS⟩
 simp(disch:=omega) only[↓RA,RZ,simprocAttr,h]
 refine Wp.aq (fun n l H'=>l.length=61∧get l 0=v∧∃(k:Nat),(0<k∧n+k=es.length∧∀j,0<j→j<k→jB es j≠jB es (j-1))∧get l 3=I k∧St prog B H' [⟨v,3,oO es⟩]) (es.length-1) ?_ ?_
 ·simp(disch:=omega) only[RB,RC,simprocAttr,hn,g0]
  exact⟨1,⟨by omega,by omega,fun j h1 h2=>by omega⟩,rfl,hS⟩
 rintro n l H1⟨hn,g0,k,⟨hk0,hk,hdis⟩,g3,hS1⟩
 simp(disch:=omega) only[↓RA,RZ,simprocAttr,hn,g0,g3,(hS1.av 0 rfl (fun _=>rfl)).len]
 refine jA (fun h2=> ?_) (fun h2=> ?_)
 ·have hkl:k<es.length:=by omega
  have hpre:(k:Int)-1=((k-1:Nat):Int):=by omega
  simp(disch:=omega) only[↓RA,RC,simprocAttr,h2]
  refine Wp.drw kS (by kernel_rfl) ?_
  simp(disch:=omega) only[↓RA,RZ,simprocAttr,hn,g0,g3,(hS1.av 0 rfl (fun _=>rfl)).idx,(hS1.av 0 rfl (fun _=>rfl)).aj,Ctl.cells,hpre]
  refine jA (fun h3=> ?_) (fun h3=> ?_)
  ·have h3:jB es k=jB es (k-1):=Ctl.cq h3
   have hlen:(oO es).length=es.length*(2+1):=mZ es
   have hpos:0<es.length:=by omega
   have hdk:=qZ es k (by omega) hdis
   have hdk1:wC es (k+1)=es.take k:=by rw[qJ,hdk,if_neg (by rintro(h4|h4);omega;exact h4 h3),dQ]
   have hrow:St prog B H1 [⟨v,3,oO (wC es (k+1)++es.drop k)⟩]:=by rw[hdk1,gx];exact hS1
   have hdl:(wC es (k+1)).length=k:=by rw[hdk1,fP];omega
   simp(disch:=omega) only[↓RA,RZ,simprocAttr,hn,g0,g3,(hS1.av 0 rfl (fun _=>rfl)).aH,h3]
   refine Wp.aq (fun n l H'=>l.length=61∧get l 0=v∧∃k2:Nat,(0<k2∧n+k+k2=es.length∧(wC es (k+k2)).length<k+k2)∧get l 3=I (wC es (k+k2)).length∧get l 4=lN v 3 k (es.length-k)∧get l 5=I k2∧St prog B H' [⟨v,3,oO (wC es (k+k2)++es.drop (wC es (k+k2)).length)⟩]) (es.length-k-1) ?_ ?_
   ·simp(disch:=omega) only[RB,RC,simprocAttr,hn,g0,g3]
    refine⟨1,⟨by omega,by omega,by omega⟩,by rw[hdl],by congr 1;omega,rfl,?_⟩
    rw[hdl]
    exact hrow
   clear hrow hdk hdk1 hdl hdis
   rintro n l H9⟨hn,g0,k2,⟨hk20,hk2,hlt⟩,g3,g4,g5,hS9⟩
   have hsucc:=qJ es (k+k2)
   generalize hD:wC es (k+k2)=D at g3 hlt hS9 hsucc
   have hrl:(D++es.drop D.length).length=es.length:=by rw[dH,fi];omega
   have hv:Sl 3 Ctl.cells H9 v (D++es.drop D.length):=hS9.av 0 rfl (fun _=>rfl)
   have hat:∀j,D.length≤j→jB (D++es.drop D.length) j=jB es j:=fun j hj=>by
    unfold jB
    rw[dE,eH hj,ee,dE]
    congr 2;omega
   have hsub:Sl 3 Ctl.cells H9 (lN v 3 k ((D++es.drop D.length).length-k)) ((D++es.drop D.length).drop k):=hv.cm k (by omega) (by omega)
   rw[hrl]at hsub
   have hsl:((D++es.drop D.length).drop k).length=es.length-k:=by rw[fi,hrl]
   have hsat:∀j,D.length≤k+j→jB ((D++es.drop D.length).drop k) j=jB es (k+j):=fun j hj=>by
    rw[←hat (k+j) hj]
    unfold jB
    rw[dE,ee,dE]
   have hbd:((es.length-k:Nat):Int)=(es.length:Int)-k:=by omega
   simp(disch:=omega) only[↓RA,RZ,simprocAttr,hn,g4,g5,hsub.len,hsl,hbd]
   refine jA (fun h4=> ?_) (fun h4=> ?_)
   ·have hj:k+k2<es.length:=by omega
    have hpre2:(k2:Int)-1=((k2-1:Nat):Int):=by omega
    have e1:=hsat k2 (by omega)
    have e2:=hsat (k2-1) (by omega)
    rw[show k+(k2-1)=k+k2-1 from by omega]at e2
    simp(disch:=omega) only[↓RA,RC,simprocAttr,h4]
    refine Wp.drw kS (by kernel_rfl) ?_
    simp(disch:=omega) only[↓RA,RZ,simprocAttr,hn,g4,g5,hsub.idx,hsub.aj,Ctl.cells,hpre2,e1,e2]
    refine jA (fun h5=> ?_) (fun h5=> ?_)
    ·have hne:jB es (k+k2)≠jB es (k+k2-1):=fun e=>h5 (by rw[e];exact⟨rfl,rfl,rfl⟩)
     rw[if_pos (.inr hne)]at hsucc
     simp(disch:=omega) only[↓RA,RZ,simprocAttr,hn,g0,g3,g4,g5,hsub.idx,hsub.aj,Ctl.cells,e1,h5]
     simp(disch:=omega) only[↓RA,RZ,simprocAttr,hn,(hS9.av 0 rfl (fun _=>rfl)).idx,h5]
     refine hS9.aU 0 rfl [I (jB es (k+k2)).kind,I (jB es (k+k2)).dv,I (jB es (k+k2)).ix] rfl rfl a9g (by simp) (by rw[mZ,hrl];simp;omega) fun H2 hS2=> ?_
     simp only[RT]at hS2
     simp(disch:=omega) only[↓RA,RZ,simprocAttr,hn,g0,g3,g4,g5,h5]
     refine⟨n-1,by omega,k2+1,?_⟩
     rw[show k+(k2+1)=k+k2+1 from by omega,hsucc]
     refine⟨⟨by omega,by omega,by simp;omega⟩,by simp,by simp,?_⟩
     have e3:oO (D++[jB es (k+k2)]++es.drop (D++[jB es (k+k2)]).length)=(((oO (D++es.drop D.length)).set (D.length*3) (I (jB es (k+k2)).kind)).set (D.length*3+1) (I (jB es (k+k2)).dv)).set (D.length*3+2) (I (jB es (k+k2)).ix):=by
      have hx:es.drop D.length=jB es D.length::es.drop (D.length+1):=by
       rw[kN es _ (by omega)]
       exact fX (by omega)
      rw[hx,dH,List.length_singleton,rD,rD,rD]
      have e4:oO (jB es D.length::es.drop (D.length+1))=I (jB es D.length).kind::I (jB es D.length).dv::I (jB es D.length).ix::oO (es.drop (D.length+1)):=rfl
      have e5:oO [jB es (k+k2)]=[I (jB es (k+k2)).kind,I (jB es (k+k2)).dv,I (jB es (k+k2)).ix]:=rfl
      have e6:(oO D).length=D.length*3:=mZ D
      rw[e4,e5,fH _ _ (by omega),fH _ _ (by omega),fH _ _ (by omega),e6,jb,fB,fB]
      simp
     rw[e3]
     exact hS2
    have heq:jB es (k+k2)=jB es (k+k2-1):=by
     have h6:=dW.1 h5
     exact Ctl.cq h6
    rw[if_neg (by rintro(h6|h6);omega;exact h6 heq),dQ]at hsucc
    simp(disch:=omega) only[↓RA,RZ,simprocAttr,hn,g0,g3,g4,g5,h5]
    refine⟨n-1,by omega,k2+1,?_⟩
    rw[show k+(k2+1)=k+k2+1 from by omega,hsucc]
    exact⟨⟨by omega,by omega,by omega⟩,rfl,by simp,hS9⟩
   have hke:k+k2=es.length:=by omega
   rw[hke]at hD
   have hcl:(oO (D++es.drop D.length)).length=es.length*(2+1):=by rw[mZ,hrl]
   have hDn:D.length≤es.length:=by omega
   simp(disch:=omega) only[↓RA,RZ,simprocAttr,hn,g0,g3,(hS9.av 0 rfl (fun _=>rfl)).aH,h4]
   rw[show(((D++es.drop D.length).length:Int)-D.length).toNat=es.length-D.length from by rw[hrl];omega]
   refine hS9.bI (size:=2) 0 rfl D.length (es.length-D.length) (by rw[hcl];omega) (by
    intro e
    have h2:(oO (D++es.drop D.length)).length=0:=by rw[e];rfl
    rw[mZ,hrl]at h2;omega) d0o fun z H3 hz hSc=> ?_
   simp only[RT]at hSc
   have e3:jZ (oO (D++es.drop D.length)) (D.length*3) z=oO D++z:=by
    rw[rD,show D.length*3=(oO D).length from(mZ D).symm,nE z (oO D) (oO (es.drop D.length)) (by rw[mZ,fi];omega)]
    rw[List.drop_of_length_le (by rw[mZ,fi];omega),dQ]
   rw[show D.length*(2+1)=D.length*3 from rfl,e3]at hSc
   have hw:RdAt H3 v (2+1) (oO D++z):=hSc.rd 0 rfl
   have hwl:(oO D++z).length=es.length*(2+1):=by rw[dH,mZ,hz];omega
   simp(disch:=omega) only[↓RA,RZ,simprocAttr,hn,g0,g3,hw.aO hwl,c5U,h4]
   exact⟨z,by unfold dd;rw[hD],by unfold dd;rw[hD];exact hSc⟩
  have hne:jB es k≠jB es (k-1):=fun e=>h3 (by rw[e];exact⟨rfl,rfl,rfl⟩)
  simp(disch:=omega) only[↓RA,RZ,simprocAttr,hn,g0,g3,h3]
  refine⟨n-1,by omega,k+1,⟨by omega,by omega,fun j h4 h5=> ?_⟩,by simp,hS1⟩
  by_cases e:j=k
  ·rw[e];exact hne
  ·exact hdis j h4 (by omega)
 have hke:k=es.length:=by omega
 have hd:=qZ es es.length (dG _) (hke▸hdis)
 rw[eZ]at hd
 simp(disch:=omega) only[↓RA,RZ,simprocAttr,hn,g0,c5U,h2]
 exact⟨[],by unfold dd;rw[hd];exact(RdAt.sub_self (size:=2) (hS.rd 0 rfl) (mZ es)).symm,by unfold dd;rw[hd,dQ];exact hS1⟩
def a0e(r:Rp):List Ctl:=(⟨1,r.tc.1,r.stop⟩:Ctl)::r.cps.map fun i=>⟨2,0,i⟩
def oA(r:Rp):List Ctl:=dd (wG (a0e r))
end Go.Ds
namespace Go.Ds
open Go.Proofs Go.Proofs.Tryz
variable {H:Heap}
set_option maxRecDepth 10000
set_option maxHeartbeats 1000000
theorem a1v{α:Type}[Inhabited α](es:List α)(m:Nat)(h:m<es.length):es.take (m+1)=es.take m++[jB es m]:=by
 rw[kN es m h,gW h]
theorem a4R(r:Rp):(a0e r).length=r.cps.length+1:=by simp[a0e]
theorem b9W{α:Type}[Inhabited α][DecidableEq α](l:List α):(dd l).length≤l.length:=b9T l l.length
theorem b5J(r:Rp):(oA r).length≤r.cps.length+1:=by
 have h:=b9W (wG (a0e r))
 unfold wG at h
 rw[List.length_mergeSort,a4R]at h
 exact h
theorem a2R(l:List Ctl):(wG l).length=l.length:=by unfold wG;rw[List.length_mergeSort]
theorem b1O{v:Value}{xs:List Ctl}{rest:List Value}(h:RdAt H v 3 (oO xs++rest)):Sl 3 Ctl.cells H (lN v 3 0 xs.length) xs:=(Frs.mk (cel:=Ctl.cells) h (fun _=>rfl) (by decide) rfl).sl
theorem c1c(r:Rn)(hr:r.In H)(hrl:r.cps.length<1000000):Fn prog 58 [r.v] H fun q H'=>∃v rest,q=lN v 3 0 (oA r.rp).length∧St prog H H' [⟨v,3,oO (oA r.rp)++rest⟩]:=by
 refine .aL func58 rfl (by kernel_rfl) (m:=30) rfl fun l hn g0=> ?_
 simp(disch:=omega) only[↓RA,RB,simprocAttr,g0]
 refine(sR H).eNew 6 [I r.pl.1,I r.pl.2,r.cv,I r.tc.1,I r.tc.2,I r.stop] rfl rfl (by simp[OC,((sR H).sl hr.1).cells.2.1]) nW fun A1 H1 hS1=> ?_
 simp only[RT]at hS1
 simp(disch:=omega) only[↓RA,RZ,simprocAttr,hn,hS1.ld 0 rfl,b2y]
 refine hS1.ai [I 1,I r.tc.1,I r.stop] b4W c6M rfl rfl (by simp[Value.cells]) rfl rfl (by decide) (by decide) fun w1 H2 hS2=> ?_
 simp only[RT]at hS2
 simp(disch:=omega) only[↓RA,RZ,simprocAttr,hn,hS2.ld 0 rfl,(hS2.sl hr.1).len]
 refine Wp.aq (fun n l H'=>l.length=30∧get l 2=(.slice none 0 0)∧get l 14=r.cv∧get l 15=I r.cps.length∧∃(j:Nat)(ov:Value),(n+j=r.cps.length)∧get l 16=I j∧get l 3=ov∧St prog H H' [⟨ptr A1 0 6,0,[I r.pl.1,I r.pl.2,r.cv,I r.tc.1,I r.tc.2,I r.stop]⟩,⟨ov,3,oO ((⟨1,r.tc.1,r.stop⟩:Ctl)::(r.cps.take j).map fun i=>⟨2,0,i⟩)⟩]) r.cps.length ?_ ?_
 ·simp(disch:=omega) only[RB,RC,simprocAttr,hn]
  exact⟨0,w1,by omega,rfl,rfl,hS2⟩
 rintro n l H3⟨hn,g2,g14,g15,j,ov,hj,g16,g3,hS3⟩
 simp(disch:=omega) only[↓RA,RB,simprocAttr,hn,g15,g16]
 refine jA (fun q1=> ?_) (fun q1=> ?_)
 ·have hll:=mZ ((⟨1,r.tc.1,r.stop⟩:Ctl)::(r.cps.take j).map fun i=>⟨2,0,i⟩)
  rw[dS,dU,fP]at hll
  simp(disch:=omega) only[↓RA,RZ,simprocAttr,hn,g14,g16,g3,(hS3.sl hr.1).idx,(hS3.sl hr.1).ld,one,b9k,q1]
  refine hS3.ai [I 2,I 0,I (jB r.cps j)] b4W c6M rfl rfl (by simp[Value.cells]) rfl rfl (by decide) (by decide) fun w2 H4 hS4=> ?_
  simp only[RT]at hS4
  simp(disch:=omega) only[↓RA,RZ,simprocAttr,hn,q1]
  refine hS4.al 1 rfl (hS4.rd 2 rfl) b4W (by rw[hll];simp;omega) fun w3 H5 hS5=> ?_
  simp only[RT]at hS5
  simp(disch:=omega) only[↓RA,RZ,simprocAttr,hn,g2,g14,g15,g16,q1]
  refine⟨n-1,by omega,j+1,w3,by omega,by simp,rfl,?_⟩
  rw[oB r.cps j (by omega),ec,←fO,rD]
  exact hS5.pick [0,1] (by decide) rfl
 have hjj:j=r.cps.length:=by omega
 subst hjj
 rw[eZ]at hS3
 have hul:(a0e r.rp).length=r.cps.length+1:=a4R r.rp
 simp(disch:=omega) only[↓RA,RZ,simprocAttr,hn,g3,q1]
 refine a8e hS3 1 rfl (xs:=a0e r.rp) (by omega) fun HS hSS=> ?_
 simp only[iT,gy]at hSS
 simp(disch:=omega) only[↓RA,RZ,simprocAttr,hn,g3,q1]
 have hM1:=hSS.pick (os':=[⟨ov,3,_⟩]) [1] (by decide) rfl
 have hR1:=hSS.pick (os':=[⟨ov,3,_⟩,⟨ptr A1 0 6,0,_⟩]) [1,0] (by decide) rfl
 refine jI (b7W hM1.aT (by rw[a2R,hul];omega)) ?_
 rintro r H6⟨rest,rfl,hT1⟩
 have hS6:=hR1.frame hT1
 simp only[RT]at hS6
 obtain⟨rc,hrcE⟩:∃w,w=lN ov 3 0 (dd (wG (a0e r.rp))).length:=⟨_,rfl⟩
 have hrc:=(b1O (hS6.rd 0 rfl)).cells
 rw[←hrcE]at hrc ⊢
 simp(disch:=omega) only[↓RA,RZ,simprocAttr,hn,d0F,q1]
 exact⟨ov,rest,hrcE,hS6.pick [0] (by decide) rfl⟩
theorem c0e{H0:Heap}{v:Value}{xs:List Ctl}{rest:List Value}(h:St prog H0 H [⟨v,3,oO xs++rest⟩]):Slx 3 Ctl.cells H (fun B=>H0.length≤B) (lN v 3 0 xs.length) xs:=by
 refine⟨b1O (h.rd 0 rfl),fun b hb=> ?_⟩
 rcases h.new _ (fh ..) b (a0F hb)with h|h
 ·exact h
 ·exact h.elim
theorem b0j(r:Rn)(hr:r.In H)(hrl:r.cps.length<1000000):Fn prog 58 [r.v] H fun q H'=>Slx 3 Ctl.cells H' (fun B=>H.length≤B) q (oA r.rp)∧St prog H H' []:=
 (c1c r hr hrl).mono fun _ _⟨_,_,e,h⟩=>⟨e▸c0e h,h.forget⟩
theorem b8M{s:Sn}(h:wD s≠0):rB s=[]:=by unfold rB;rw[if_neg h]
theorem b3q(s:Sn):(rB s).length≤500:=by
 by_cases h:wD s=0
 ·unfold rB
  rw[if_pos h,List.length_mergeSort]
  unfold wD at h
  split at h
  ·rename_i h1;exact absurd h h1
  ·split at h
   ·cases h
   ·omega
 ·rw[b8M h];simp
end Go.Ds
namespace Go.Ds
open Go.Proofs
set_option maxRecDepth 10000
theorem a6z{α:Type}[Inhabited α][DecidableEq α](es:List α)(x:α):∀m,x∈wC es m↔∃j,j<m∧jB es j=x
 | 0=>by simp[wC]
 | m+1=>by
   rw[qJ,eo,a6z es x m]
   constructor
   ·rintro(⟨j,hj,e⟩|h)
    ·exact⟨j,by omega,e⟩
    ·split at h
     ·rw[dZ]at h
      exact⟨m,by omega,h.symm⟩
     ·cases h
   ·rintro⟨j,hj,e⟩
    by_cases hm:m=0∨jB es m≠jB es (m-1)
    ·rcases dN.1 hj with h|h
     ·exact .inl ⟨j,h,e⟩
     ·subst h
      rw[if_pos hm]
      exact .inr (dZ.2 e.symm)
    ·rcases dN.1 hj with h|h
     ·exact .inl ⟨j,h,e⟩
     ·subst h
      have h1:jB es j=jB es (j-1):=fC fun h=>hm (.inr h)
      have h2:j≠0:=fun h=>hm (.inl h)
      exact .inl ⟨j-1,by omega,by rw[←h1];exact e⟩
theorem c3m{α:Type}[Inhabited α][DecidableEq α]{es:List α}{x:α}:x∈dd es↔x∈es:=by
 unfold dd
 rw[a6z]
 constructor
 ·rintro⟨j,hj,rfl⟩
  exact jE hj
 ·intro h
  obtain⟨j,hj,rfl⟩:=eM.1 h
  exact⟨j,hj,kN es j hj⟩
def yY(a b:Ctl):Prop:=lX (rO a) (rO b)=-1
theorem zJ{a b c:Ctl}(h:yY a b)(h2:yY b c):yY a c:=uZ h h2
theorem a3Q{a:Ctl}(h:yY a a):False:=by
 unfold yY at h
 rw[nK.2 rfl]at h
 cases h
theorem a0Q{a b:Ctl}:leC a b=true↔yY a b∨a=b:=by
 unfold leC yY
 rw[eN,decide_eq_false_iff_not]
 have h1:=tB (rO a) (rO b)
 have h2:=tA (rO a) (rO b)
 have h3:lX (rO a) (rO b)=0↔a=b:=⟨fun h=>a4k (nK.1 h),fun h=>by rw[h];exact nK.2 rfl⟩
 constructor
 ·intro h
  rcases h2 with h2|h2|h2
  ·exact .inl h2
  ·exact .inr (h3.1 h2)
  ·omega
 ·rintro(h|h)
  ·omega
  ·have:=h3.2 h;omega
theorem b0k(l:List Ctl):(wG l).Pairwise fun a b=>leC a b=true:=by
 unfold wG
 refine List.pairwise_mergeSort (fun a b c h1 h2=> ?_) (fun a b=> ?_) l
 ·rw[a0Q]at*
  rcases h1 with h1|rfl
  ·rcases h2 with h2|rfl
   ·exact .inl (zJ h1 h2)
   ·exact .inl h1
  ·exact h2
 ·rw[fj,a0Q,a0Q]
  have h1:=tB (rO a) (rO b)
  have h3:lX (rO a) (rO b)=0→a=b:=fun h=>a4k (nK.1 h)
  unfold yY
  rcases tA (rO a) (rO b)with h2|h2|h2
  ·exact .inl (.inl h2)
  ·exact .inl (.inr (h3 h2))
  ·exact .inr (.inl (by omega))
theorem b3e{es:List Ctl}(h:es.Pairwise fun a b=>leC a b=true):∀m,m≤es.length→(wC es m).Pairwise yY
 | 0,_=>by simp[wC]
 | m+1,hm=>by
   rw[qJ,fD]
   refine⟨b3e h m (by omega),by split<;>simp,fun x hx y hy=> ?_⟩
   split at hy
   ·rename_i hne
    rw[dZ]at hy
    subst hy
    obtain⟨j,hj,rfl⟩:=(a6z es x m).1 hx
    have hne:jB es m≠jB es (m-1):=hne.resolve_left (by omega)
    have hpw:=fc.1 h
    have h1:yY (jB es (m-1)) (jB es m):=by
     have h2:=hpw (m-1) m (by omega) (by omega) (by omega)
     rw[←kN es _ (by omega),←kN es _ (by omega),a0Q]at h2
     exact h2.resolve_right fun e=>hne e.symm
    rcases il j (m-1)with hj2|hj2
    ·have h2:=hpw j (m-1) (by omega) (by omega) hj2
     rw[←kN es _ (by omega),←kN es _ (by omega),a0Q]at h2
     rcases h2 with h2|h2
     ·exact zJ h2 h1
     ·rw[h2];exact h1
    ·rw[show j=m-1 from by omega]
     exact h1
   ·cases hy
theorem b8v(l:List Ctl):(dd (wG l)).Pairwise yY:=b3e (b0k l) _ (dG _)
theorem a6q{l:List Ctl}{x:Ctl}:x∈dd (wG l)↔x∈l:=by
 rw[c3m]
 unfold wG
 exact List.mem_mergeSort
theorem a3N:∀(l m:List Ctl),l.Pairwise yY→m.Pairwise yY→(∀x,x∈l↔x∈m)→l=m
 | [],[],_,_,_=>rfl
 | [],b::m,_,_,h=>absurd ((h b).2 (by simp)) eO
 | a::l,[],_,_,h=>absurd ((h a).1 (by simp)) eO
 | a::l,b::m,h1,h2,h=>by
   rw[List.pairwise_cons]at h1 h2
   have hab:a=b:=by
    rcases eJ.1 ((h a).1 (by simp))with e|e
    ·exact e
    ·rcases eJ.1 ((h b).2 (by simp))with f|f
     ·exact f.symm
     ·exact absurd (zJ (h1.1 b f) (h2.1 a e)) a3Q
   subst hab
   rw[a3N l m h1.2 h2.2 fun x=> ?_]
   constructor
   ·intro hx
    rcases eJ.1 ((h x).1 (fb _ hx))with e|e
    ·subst e;exact absurd (h1.1 x hx) a3Q
    ·exact e
   ·intro hx
    rcases eJ.1 ((h x).2 (fb _ hx))with e|e
    ·subst e;exact absurd (h2.1 x hx) a3Q
    ·exact e
theorem a5h{l:List Ctl}(h:l.Pairwise yY):dd (wG l)=l:=a3N _ _ (b8v l) h fun x=>a6q
theorem a5t{r:Rp}{c:Ctl}:c∈oA r↔c=⟨1,r.tc.1,r.stop⟩∨∃i∈r.cps,c=⟨2,0,i⟩:=by
 unfold oA a0e
 rw[a6q,eJ,dX]
 constructor
 ·rintro(h|⟨i,hi,h⟩)
  ·exact .inl h
  ·exact .inr ⟨i,hi,h.symm⟩
 ·rintro(h|⟨i,hi,h⟩)
  ·exact .inl h
  ·exact .inr ⟨i,hi,h.symm⟩
end Go.Ds
namespace Go.Ds
open Go.Proofs Go.Proofs.Tryz
variable {H:Heap}
set_option maxRecDepth 10000
set_option maxHeartbeats 1000000
structure Qv where
 v:Value
 l:List Ctl
 deriving Inhabited
def Qv.cells(q:Qv):List Value:=[q.v]
def Qv.In(H:Heap)(q:Qv):Prop:=Sl 3 Ctl.cells H q.v q.l
def vL:List Ctl→List (List Ctl)→Nat→Option (List Ctl)
 | [],[],_=>some []
 | [],_::_,_=>none
 | _::_,[],_=>some []
 | _::_,_::_,0=>none
 | c::f,x::xs,n+1=>match vL f ((x::xs).filter fun y=> !decide (c∈y)) n with
   | some l=>some (c::l)
   | none=>vL f (x::xs) (n+1)
theorem a0O(f:List Ctl)(n:Nat):vL f [] n=some []:=by cases f<;>rfl
theorem a0Z(f:List Ctl){ss:List (List Ctl)}(h:ss≠[]):vL f ss 0=none:=by
 cases ss with
 | nil=>exact absurd rfl h
 | cons=>cases f<;>rfl
theorem a9F{ss:List (List Ctl)}(h:ss≠[])(n:Nat):vL [] ss n=none:=by
 cases ss with
 | nil=>exact absurd rfl h
 | cons=>rfl
theorem a1r(c:Ctl)(f:List Ctl){ss:List (List Ctl)}(h:ss≠[])(n:Nat):vL (c::f) ss (n+1)=match vL f (ss.filter fun y=> !decide (c∈y)) n with
 | some l=>some (c::l)
 | none=>vL f ss (n+1):=by
 cases ss with
 | nil=>exact absurd rfl h
 | cons=>rfl
theorem c0t:∀(f:List Ctl)(ss:List (List Ctl))(n:Nat){l:List Ctl},vL f ss n=some l→l.length≤f.length:=by
 intro f
 induction f with
 | nil=>
   intro ss n l h
   cases ss with
   | nil=>rw[a0O]at h;cases h;simp
   | cons=>rw[a9F (by simp)]at h;cases h
 | cons c f ih=>
   intro ss n l h
   by_cases hs:ss=[]
   ·subst hs
    rw[a0O]at h;cases h;simp
   ·cases n with
    | zero=>rw[a0Z _ hs]at h;cases h
    | succ n=>
      rw[a1r _ _ hs]at h
      cases h2:vL f (ss.filter fun y=> !decide (c∈y)) n with
      | none=>
        rw[h2]at h
        have:=ih _ _ h
        simp;omega
      | some m=>
        rw[h2]at h
        cases h
        have:=ih _ _ h2
        simp;omega
theorem b4w:∀(f:List Ctl)(ss:List (List Ctl))(n:Nat),f.length≤n→(∀x∈ss,∃c∈f,c∈x)→(vL f ss n).isSome=true:=by
 intro f
 induction f with
 | nil=>
   intro ss n _ h
   cases ss with
   | nil=>rfl
   | cons x ss=>
     obtain⟨c,hc,_⟩:=h x (by simp)
     cases hc
 | cons c f ih=>
   intro ss n hn h
   by_cases hs:ss=[]
   ·subst hs
    rw[a0O];rfl
   ·cases n with
    | zero=>simp at hn
    | succ n=>
      rw[a1r _ _ hs]
      have h2:=ih (ss.filter fun y=> !decide (c∈y)) n (by simpa using hn) fun x hx=>by
       rw[fW]at hx
       obtain⟨d,hd,hdx⟩:=h x hx.1
       have hcx:c∉x:=by simpa using hx.2
       rcases eJ.1 hd with rfl|hd
       ·exact absurd hdx hcx
       ·exact⟨d,hd,hdx⟩
      cases h3:vL f (ss.filter fun y=> !decide (c∈y)) n with
      | none=>rw[h3]at h2;cases h2
      | some l=>rfl
theorem RdAt.bD{v:Value}{n:Nat}{cs:List Value}(h:RdAt H v n cs):kA v=true:=by
 rcases h with⟨rfl,_⟩|⟨A,i,e,row,ty,rw',lo,ver,m,_,_,_,_,_,_,rfl⟩<;>rfl
theorem c6E:∀(m:Nat){H:Heap}(fv:Value)(fr:List Ctl)(_:fr.length<m)(_:Sl 3 Ctl.cells H fv fr)(sv:Value)(ss:List Qv)(_:Sl 1 Qv.cells H sv ss)(_:∀q∈ss,q.In H)(n:Nat)(_:n<1000)(_:fr.length<1000000)(_:ss.length<1000000)(_:∀q∈ss,q.l.length<1000000000),
 Fn prog 65 [sv,fv,I n] H fun r H'=>∃ov,r=.tuple #[ov,.bool (vL fr (ss.map (·.l)) n).isSome]∧St prog H H' [⟨ov,3,oO ((vL fr (ss.map (·.l)) n).getD [])⟩]:=by
 intro m
 induction m with
 | zero=>exact fun{H}fv fr h=>absurd h (ez _)
 | succ m ih=>
 intro H fv fr hm hf sv ss hs hq n hn9 hfl hsl hql
 refine .cJ func65 rfl (by kernel_rfl) (m:=59) rfl fun l hn g0 g1 g2=> ?_
 simp(disch:=omega) only[↓RA,RZ,simprocAttr,hn,g0,((sR H).sl hs).len]
 refine jA (fun h1=> ?_) (fun h1=> ?_)
 ·have hz:ss.map (·.l)=[]:=by rw[eR.1 (show ss.length=0 by omega)];rfl
  simp(disch:=omega) only[↓RA,RZ,simprocAttr,hn,c0X,h1]
  rw[hz,a0O]
  exact⟨.slice none 0 0,rfl,(sR H).nil 2⟩
 have hne:ss.map (·.l)≠[]:=by
  intro e
  have:=congrArg List.length e
  rw[dU,dV]at this
  omega
 simp(disch:=omega) only[↓RA,RZ,simprocAttr,hn,g2,h1]
 refine jA (fun h2=> ?_) (fun h2=> ?_)
 ·have hz:n=0:=by omega
  simp(disch:=omega) only[↓RA,RZ,simprocAttr,hn,c0X,h1,h2]
  rw[hz,a0Z _ hne]
  exact⟨.slice none 0 0,rfl,(sR H).nil 2⟩
 obtain⟨k,rfl⟩:∃k,n=k+1:=⟨n-1,by omega⟩
 simp(disch:=omega) only[↓RA,RZ,simprocAttr,hn,g1,((sR H).sl hf).len,h1,h2]
 refine Wp.aq (fun n l H'=>l.length=59∧get l 0=sv∧get l 1=fv∧get l 2=I (k+1:Nat)∧get l 20=fv∧get l 21=I fr.length∧∃(i:Nat),(n+i=fr.length∧vL fr (ss.map (·.l)) (k+1)=vL (fr.drop i) (ss.map (·.l)) (k+1))∧get l 22=I i∧St prog H H' []) fr.length ?_ ?_
 ·simp(disch:=omega) only[RB,RC,simprocAttr,hn,g0,g1,g2]
  exact⟨0,⟨by omega,rfl⟩,rfl,(sR H)⟩
 rintro n l H1⟨hn,g0,g1,g2,g20,g21,i,⟨hi,hh⟩,g22,hS1⟩
 simp(disch:=omega) only[↓RA,RB,simprocAttr,hn,g21,g22]
 refine jA (fun q1=> ?_) (fun q1=> ?_)
 ·have hdr:fr.drop i=jB fr i::fr.drop (i+1):=qI fr i (by omega)
  rw[hdr,a1r _ _ hne]at hh
  simp(disch:=omega) only[↓RA,RZ,simprocAttr,hn,g20,g22,(hS1.sl hf).idx,(hS1.sl hf).aj,Ctl.cells,q1]
  refine hS1.eNew 3 [I 0,I 0,I 0] rfl rfl rfl a9g fun A1 H2 hS2=> ?_
  simp only[RT]at hS2
  simp(disch:=omega) only[↓RA,RZ,simprocAttr,hn,q1]
  refine hS2.ab 0 rfl [I (jB fr i).kind,I (jB fr i).dv,I (jB fr i).ix] rfl rfl a9g (by simp) fun H3 hS3=> ?_
  simp only[RT]at hS3
  simp(disch:=omega) only[↓RA,RZ,simprocAttr,hn,g0,(hS3.sl hs).len,q1]
  have hS4:=hS3.nil 0
  simp only[RT]at hS4
  refine Wp.aq (fun n l H'=>l.length=59∧get l 0=sv∧get l 1=fv∧get l 2=I (k+1:Nat)∧get l 8=I i∧get l 9=(ptr A1 0 3)∧get l 20=fv∧get l 21=I fr.length∧get l 22=I i∧get l 27=sv∧get l 28=I ss.length∧∃(j:Nat)(ow:Value),(n+j=ss.length)∧get l 29=I j∧get l 10=ow∧St prog H H' [⟨ptr A1 0 3,0,[I (jB fr i).kind,I (jB fr i).dv,I (jB fr i).ix]⟩,⟨ow,1,((ss.take j).filter fun q=> !decide (jB fr i∈q.l)).flatMap Qv.cells⟩]) ss.length ?_ ?_
  ·simp(disch:=omega) only[RB,RC,simprocAttr,hn,g0,g1,g2,g20,g21,g22]
   exact⟨0,.slice none 0 0,by omega,rfl,rfl,hS4⟩
  rintro n l H4⟨hn,g0,g1,g2,g8,g9,g20,g21,g22,g27,g28,j,ow,hj,g29,yC,hS5⟩
  simp(disch:=omega) only[↓RA,RB,simprocAttr,hn,g28,g29]
  refine jA (fun q2=> ?_) (fun q2=> ?_)
  ·have hjm:jB ss j∈ss:=jE (by omega)
   have hts:=a1v ss j (by omega)
   simp(disch:=omega) only[↓RA,RZ,simprocAttr,hn,g9,g27,g29,(hS5.sl hs).idx,(hS5.sl hs).ld,Qv.cells,hS5.aj 0 rfl,q2]
   refine hS5.cF (c2r (jB ss j).v (jB ss j).l (hS5.sl (hq _ hjm)) (hql _ hjm) (jB fr i)) fun H5 hS6=> ?_
   simp(disch:=omega) only[↓RA,RZ,simprocAttr,hn,q2]
   refine kC (fun q3=> ?_) (fun q3=> ?_)
   ·have hfl2:(((ss.take j).filter fun q=> !decide (jB fr i∈q.l)).flatMap Qv.cells).length≤ss.length:=by
     rw[jF (n:=1) (cel:=Qv.cells) (fun _=>rfl),iw]
     exact eh (fA _ _) (by rw[fP];omega)
    simp(disch:=omega) only[↓RA,RZ,simprocAttr,hn,yC,q2,q3]
    refine hS6.ai [(jB ss j).v] b2X c4f rfl rfl (by first|(simp[(hS6.sl (hq (jB ss j) (jE (by omega)))).cells.1];done)|simp[Value.cells,(hS6.sl (hq (jB ss j) (jE (by omega)))).cells.1]) (by first|(simp[(hS6.sl (hq (jB ss j) (jE (by omega)))).cells.1];done)|simp[Value.cells,(hS6.sl (hq (jB ss j) (jE (by omega)))).cells.1]) (by simp[(hS6.sl (hq (jB ss j) (jE (by omega)))).cells.2.1]) (by decide) (by decide) fun w1 H6 hS7=> ?_
    simp only[RT]at hS7
    simp(disch:=omega) only[↓RA,RZ,simprocAttr,hn,q2,q3]
    refine hS7.al 1 rfl (hS7.rd 2 rfl) b2X (by simp only[dS,dV];omega) fun w2 H7 hS8=> ?_
    simp only[RT]at hS8
    simp(disch:=omega) only[↓RA,RZ,simprocAttr,hn,g0,g1,g2,g8,g9,g20,g21,g22,g27,g28,g29,q2,q3]
    refine⟨n-1,by omega,j+1,w2,by omega,by simp,rfl,?_⟩
    rw[hts,fM,dP,show([jB ss j].filter fun q=> !decide (jB fr i∈q.l))=[jB ss j]from by simp at q3 ⊢;exact q3]
    exact hS8.pick [0,1] (by decide) rfl
   simp(disch:=omega) only[↓RA,RZ,simprocAttr,hn,g0,g1,g2,g8,g9,g20,g21,g22,g27,g28,g29,yC,q2,q3]
   refine⟨n-1,by omega,j+1,ow,by omega,by simp,rfl,?_⟩
   rw[hts,fM,dP,show([jB ss j].filter fun q=> !decide (jB fr i∈q.l))=[]from by simp at q3 ⊢;exact q3,fx,dQ]
   exact hS6
  have hjj:j=ss.length:=by omega
  subst hjj
  rw[eZ]at hS5
  obtain⟨ss2,hss2⟩:∃l,l=ss.filter fun q=> !decide (jB fr i∈q.l):=⟨_,rfl⟩
  have hmap:ss2.map (·.l)=(ss.map (·.l)).filter fun y=> !decide (jB fr i∈y):=by rw[hss2,List.filter_map];rfl
  have hmem:∀q∈ss2,q∈ss:=fun q h=>by rw[hss2]at h;exact(fW.1 h).1
  have hsl2:ss2.length≤ss.length:=by rw[hss2];exact fA _ _
  rw[←hss2]at hS5
  obtain⟨O,hO⟩:∃O,O=vL (fr.drop (i+1)) (ss2.map (·.l)) k:=⟨_,rfl⟩
  rw[←hmap,←hO]at hh
  have hI:=ih (lN fv 3 (i+1) (fr.length-(i+1))) (fr.drop (i+1)) (by rw[fi];omega) ((hS5.sl hf).cm (i+1) (by omega) (by omega)) ow ss2 (hS5.av 1 rfl (fun _=>rfl)) (fun q h=>hS5.sl (hq q (hmem q h))) k (by omega) (by rw[fi];omega) (by omega) (fun q h=>hql q (hmem q h))
  rw[←hO]at hI
  have hti:((i:Int)+1).toNat=i+1:=by omega
  have htl:((fr.length:Int)-((i:Int)+1)).toNat=fr.length-(i+1):=by omega
  have hwm:IntKind.wrap .i64 (((k+1:Nat):Int)-1)=(k:Int):=by
   rw[show(((k+1:Nat):Int)-1)=(k:Int)from by omega]
   exact a3C (a:=(k:Int)) (by omega) (by omega)
  simp(disch:=omega) only[↓RA,RZ,simprocAttr,hn,g1,g8,yC,q2]
  simp(disch:=omega) only[↓RA,RZ,simprocAttr,hn,g2,(hS5.sl hf).aH,q2,hti,htl,hwm]
  refine jI (hI) ?_
  rintro r H8⟨ov,rfl,hT2⟩
  have hS9:=hS5.trans hT2
  simp only[RT]at hS9
  simp(disch:=omega) only[↓RA,RZ,simprocAttr,hn,q2]
  refine kC (fun q4=> ?_) (fun q4=> ?_)
  ·obtain⟨l,hl⟩:∃l,O=some l:=fm.1 q4
   have hll:(oO (O.getD [])).length≤3*fr.length:=by
    rw[mZ,hl]
    have:=c0t _ _ _ (hO.symm.trans hl)
    rw[fi]at this
    simp only[eE]
    omega
   simp(disch:=omega) only[↓RA,RZ,simprocAttr,hn,g9,hS9.aj 0 rfl,q2,q4]
   refine hS9.ai [I (jB fr i).kind,I (jB fr i).dv,I (jB fr i).ix] b4W c6M rfl rfl (by simp[Value.cells]) rfl rfl (by decide) (by decide) fun w3 H9 hS10=> ?_
   simp only[RT]at hS10
   simp(disch:=omega) only[↓RA,RZ,simprocAttr,hn,q2,q4]
   refine hS10.al 3 rfl (hS10.rd 2 rfl) b4W (by simp only[dS,dV];omega) fun w4 H10 hS11=> ?_
   simp only[RT]at hS11
   simp(disch:=omega) only[↓RA,RZ,simprocAttr,hn,c0X,q2,q4]
   rw[hl]at hh
   rw[hl]at hS11
   have hnt:kA w4=true:=(hS11.rd 3 rfl).bD
   rw[hh,if_pos hnt]
   exact⟨w4,rfl,hS11.pick [3] (by decide) rfl⟩
  have hl:O=none:=by
   cases O with
   | none=>rfl
   | some l=>simp at q4
  rw[hl]at hh
  simp(disch:=omega) only[↓RA,RZ,simprocAttr,hn,g0,g1,g2,g20,g21,g22,q2,q4]
  exact⟨fr.length-(i+1),by omega,i+1,⟨by omega,hh⟩,by simp,hS9.forget⟩
 have hii:i=fr.length:=by omega
 subst hii
 rw[iK,a9F hne]at hh
 simp(disch:=omega) only[↓RA,RZ,simprocAttr,hn,c0X,q1]
 rw[hh]
 exact⟨.slice none 0 0,rfl,hS1.nil 2⟩
def rL(s:Sn):List Ctl:=dd (wG ((rB s).flatMap oA))
def a8Z(s:Sn):Nat→Option (List Ctl):=vL (rL s) ((rB s).map oA)
def zN(s:Sn):Int:=if wD s≠0 then wD s else if 20<(rL s).length then 4 else 0
def a1L(s:Sn):Option (List Ctl):=if zN s≠0∨rB s=[]then none else(List.range ((rL s).length+1)).findSome? (a8Z s)
theorem b9V(s:Sn):(rL s).length≤((rB s).flatMap oA).length:=by
 have h:=b9W (wG ((rB s).flatMap oA))
 rw[a2R]at h
 exact h
theorem a4W{s:Sn}(n:Nat)(h:(rL s).length≤n):(a8Z s n).isSome=true:=by
 refine b4w _ _ _ h fun x hx=> ?_
 obtain⟨p,hp,rfl⟩:=dX.1 hx
 refine⟨⟨1,p.tc.1,p.stop⟩,?_,a5t.2 (.inl rfl)⟩
 unfold rL
 rw[a6q,fp]
 exact⟨p,hp,a5t.2 (.inl rfl)⟩
theorem c2x{s:Sn}{n:Nat}{l:List Ctl}(hE:zN s=0)(hne:rB s≠[])(h:a8Z s n=some l)(h0:∀m,m<n→a8Z s m=none):a1L s=some l:=by
 unfold a1L
 rw[if_neg (by rintro(h|h);(· exact h hE);(· exact hne h))]
 have hn:n≤(rL s).length:=by
  rcases il (rL s).length n with h1|h1
  ·have:=a4W (s:=s) (rL s).length (dG _)
   rw[h0 _ h1]at this
   cases this
  ·exact h1
 rw[show(rL s).length+1=n+(1+((rL s).length-n))from by omega,List.range_add,List.findSome?_append]
 have h1:(List.range n).findSome? (a8Z s)=none:=by
  rw[List.findSome?_eq_none_iff]
  intro m hm
  exact h0 m (dY.1 hm)
 rw[h1,Nat.add_comm 1,List.range_succ_eq_map]
 simp[h]
theorem b0U(hG:Glob gH H)(s:Sn)(hs:s.In H):Fn prog 26 [s.v] H fun r H'=>∃ov,r=.tuple #[ov,.bool (a1L s).isSome,I (zN s)]∧St prog H H' [⟨ov,3,oO ((a1L s).getD [])⟩]:=by
 refine .aL func26 rfl (by kernel_rfl) (m:=60) rfl fun l hn g0=> ?_
 simp(disch:=omega) only[↓RA,RB,simprocAttr,g0]
 refine(sR H).eNew 10 [(.string s.o.name),s.o.rv,s.o.dv,s.o.cv,s.sv,(.int .u64 s.rg.cpl),(.int .u64 s.rg.off),s.kv,I s.p.1,I s.p.2] rfl rfl (by simp[OC,((sR H).sl hs.o.1).cells.2.1,((sR H).sl hs.o.2.2.1).cells.2.1,((sR H).sl hs.o.2.2.2.2.1).cells.2.1,((sR H).sl hs.rg.1).cells.2.1,((sR H).sl hs.ks.sl).cells.2.1]) oI fun A1 H1 hS1=> ?_
 simp only[RT]at hS1
 simp(disch:=omega) only[↓RA,RZ,simprocAttr,hn,hS1.aj 0 rfl]
 refine jI (c2Z (hS1.gl hG) s (hs.ag hS1)) ?_
 rintro r H2⟨ov,es,rfl,hQ,hN,hT1⟩
 have hS2:=hS1.trans hT1
 simp only[RT]at hS2
 have hel:es.length≤500:=by
  have:=b3q s
  rw[←hQ,dU]at this
  exact this
 have hov:Sl 6 Rn.cells H2 ov es:=hS2.av 1 rfl (fun _=>rfl)
 have hin:∀e∈es,e.In H2:=fun e he=>⟨(hN e he).1.1,by have:=(hN e he).2;omega⟩
 have hcl:∀e∈es,e.cps.length<1000000:=fun e he=>by have:=(hN e he).2;omega
 have hul:∀e∈es,(oA e.rp).length≤1025:=fun e he=>by
  have h1:=b5J e.rp
  have h2:=(hN e he).2
  have h3:e.rp.cps=e.cps:=rfl
  rw[h3]at h1
  omega
 simp(disch:=omega) only[↓RA,RZ,simprocAttr,hn]
 refine jK (fun h1=> ?_) (fun h1=> ?_)
 ·have hE:zN s=wD s:=by unfold zN;rw[if_pos h1]
  have hz:a1L s=none:=by unfold a1L;rw[if_pos (.inl (by rw[hE];exact h1))]
  simp(disch:=omega) only[↓RA,RZ,simprocAttr,hn,b7z,h1]
  rw[hz,hE]
  exact⟨.slice none 0 0,rfl,(hS2.forget).nil 2⟩
 have h1:wD s=0:=dW.1 h1
 simp(disch:=omega) only[↓RA,RZ,simprocAttr,hn,(hS2.av 1 rfl (fun _=>rfl)).len,h1]
 refine jA (fun h2=> ?_) (fun h2=> ?_)
 ·have hes:es=[]:=eR.1 (by omega)
  have hr:rB s=[]:=by rw[←hQ,hes];rfl
  have hz:a1L s=none:=by unfold a1L;rw[if_pos (.inr hr)]
  have hE:zN s=0:=by unfold zN rL wG;rw[if_neg (by rw[h1];decide),hr];simp[dd,wC]
  simp(disch:=omega) only[↓RA,RZ,simprocAttr,hn,b7z,h1,h2]
  rw[hz,hE]
  exact⟨.slice none 0 0,rfl,(hS2.forget).nil 2⟩
 have hne:rB s≠[]:=by
  intro e
  rw[←hQ]at e
  exact h2 (by rw[iL.1 e];rfl)
 have hpre:=hS2
 simp(disch:=omega) only[↓RA,RZ,simprocAttr,hn,((sR H2).sl hov).len,h1,h2]
 have hS3:=(sR H2).nil 0
 simp only[RT]at hS3
 have hS4:=hS3.nil 2
 simp only[RT]at hS4
 refine Wp.aq (fun n l H'=>l.length=60∧get l 2=(.slice none 0 0)∧get l 3=(.bool false)∧get l 4=I (wD s)∧get l 26=ov∧get l 27=I es.length∧∃(j:Nat)(sw:Value)(qs:List Qv)(aw:Value),(n+j=es.length∧qs.map (·.l)=(es.take j).map (fun e=>oA e.rp)∧(∀q∈qs,Slx 3 Ctl.cells H' (nb [sw,aw]) q.v q.l))∧get l 28=I j∧get l 6=sw∧get l 7=aw∧St prog H2 H' [⟨sw,1,qs.flatMap Qv.cells⟩,⟨aw,3,oO ((es.take j).flatMap fun e=>oA e.rp)⟩]) es.length ?_ ?_
 ·simp(disch:=omega) only[RB,RC,simprocAttr,hn,h1]
  exact⟨0,.slice none 0 0,[],.slice none 0 0,⟨by omega,rfl,fun q hq=>absurd hq eO⟩,rfl,rfl,rfl,hS4⟩
 rintro n l H3⟨hn,g2,g3,g4,g26,g27,j,sw,qs,aw,⟨hj,hqm,hqx⟩,g28,g6,g7,hS5⟩
 have hql:qs.length=j:=by
  have:=congrArg List.length hqm
  rw[dU,dU,fP]at this
  omega
 have hal:((es.take j).flatMap fun e=>oA e.rp).length≤j*1025:=by
  rw[List.length_flatMap]
  have h3:∀l:List Rn,(∀e∈l,e∈es)→(l.map fun e=>(oA e.rp).length).sum≤l.length*1025:=by
   intro l
   induction l with
   | nil=>intro _;simp
   | cons e l ih=>
     intro h
     have h1:=hul e (h e (by simp))
     have h2:=ih fun x hx=>h x (by simp[hx])
     simp only[eK,List.sum_cons,dS]
     omega
  refine eh (h3 _ fun e he=>iB he) ?_
  rw[fP]
  omega
 simp(disch:=omega) only[↓RA,RB,simprocAttr,hn,g27,g28]
 refine jA (fun p1=> ?_) (fun p1=> ?_)
 ·have hm:jB es j∈es:=jE (by omega)
  have hpre1:=hS5
  obtain⟨B1,hBB1,hS6⟩:=hS5.aB (os:=[⟨sw,1,_⟩,⟨aw,3,_⟩])
  have hkp:∀{H1 os},St prog B1 H1 os→∀q∈qs,Slx 3 Ctl.cells H1 (nb (os.map (·.v))) q.v q.l:=fun h q hq=>(hqx q hq).step (h.kept hBB1)
  simp(disch:=omega) only[↓RA,RZ,simprocAttr,hn,g26,g28,((hS5.ae hBB1 hS6).sl hov).idx,((hS5.ae hBB1 hS6).sl hov).aj,Rn.cells,p1]
  refine hS6.eNew 6 [I 0,I 0,(.slice none 0 0),I 0,I 0,I 0] rfl rfl rfl nW fun A2 H4 hS7=> ?_
  simp only[RT]at hS7
  simp(disch:=omega) only[↓RA,RZ,simprocAttr,hn,p1]
  refine hS7.ab 2 rfl [I (jB es j).pl.1,I (jB es j).pl.2,(jB es j).cv,I (jB es j).tc.1,I (jB es j).tc.2,I (jB es j).stop] rfl (by simp[OC,((hS5.ae hBB1 hS7).sl (hin (jB es j) (jE (by omega))).1).cells.2.1]) nW (by simp) fun H5 hS8=> ?_
  simp only[RT]at hS8
  simp(disch:=omega) only[↓RA,RZ,simprocAttr,hn,g6,hS8.aj 2 rfl,p1]
  have hSb:=hS8
  refine jI (b0j (jB es j) ((hin _ hm).ag (hS5.ae hBB1 hS8)) (hcl _ hm)) ?_
  rintro r H6⟨hx1,hT2⟩
  have hS9:=hS8.trans hT2
  simp only[RT]at hS9
  obtain⟨q1,rfl⟩:∃w,w=r:=⟨r,rfl⟩
  have hy1:=hx1.step hSb.aV
  have hpre2:=hS9
  obtain⟨B2,hBB2,hS10⟩:=hS9.aB (os:=[⟨sw,1,_⟩,⟨aw,3,_⟩,⟨ptr A2 0 6,0,_⟩])
  simp(disch:=omega) only[↓RA,RZ,simprocAttr,hn,p1]
  refine hS10.ai [q1] b2X c4f rfl rfl (by first|(simp[hx1.1.cells.1];done)|simp[Value.cells,hx1.1.cells.1]) (by first|(simp[hx1.1.cells.1];done)|simp[Value.cells,hx1.1.cells.1]) (by simp[hx1.1.cells.2.1]) (by decide) (by decide) fun w1 H7 hS11=> ?_
  simp only[RT]at hS11
  simp(disch:=omega) only[↓RA,RZ,simprocAttr,hn,p1]
  refine hS11.al 0 rfl (hS11.rd 3 rfl) b2X (by rw[jF (n:=1) (cel:=Qv.cells) (fun _=>rfl)];simp;omega) fun w2 H8 hS12=> ?_
  simp only[RT]at hS12
  simp(disch:=omega) only[↓RA,RZ,simprocAttr,hn,g7,hS12.aj 2 rfl,p1]
  refine jI (b0j (jB es j) ((hin _ hm).ag (hS5.ae hBB1 (hS9.ae hBB2 hS12))) (hcl _ hm)) ?_
  rintro r H9⟨hx2,hT3⟩
  have hS13:=hS12.trans hT3
  simp only[RT]at hS13
  obtain⟨q2,rfl⟩:∃w,w=r:=⟨r,rfl⟩
  have hu1:=hul _ hm
  simp(disch:=omega) only[↓RA,RZ,simprocAttr,hn,p1]
  refine hS13.al 1 rfl hx2.1.rd b4W (by rw[mZ,mZ];omega) fun w3 H10 hS14=> ?_
  simp only[RT]at hS14
  simp(disch:=omega) only[↓RA,RZ,simprocAttr,hn,g2,g3,g4,g26,g27,g28,p1]
  refine⟨n-1,by omega,j+1,w2,qs++[⟨q1,oA (jB es j).rp⟩],w3,⟨by omega,?_,fun q hq=> ?_⟩,by simp,rfl,rfl,?_⟩
  ·rw[a1v es j (by omega),ec,ec,hqm]
   rfl
  ·rcases eo.1 hq with hq|hq
   ·exact(hkp (hS9.ae hBB2 hS14) q hq).bA (by simp)
   ·rw[dZ]at hq
    subst hq
    exact(hy1.step (hS14.kept hBB2)).bA (by simp)
  ·rw[a1v es j (by omega)]
   simp only[dP,ed,fx,dQ]
   exact(hS5.ae hBB1 (hS9.ae hBB2 hS14)).pick [0,1] (by decide) rfl
 have hjj:j=es.length:=by omega
 subst hjj
 rw[eZ]at hqm hal
 have hfm:(es.flatMap fun e=>oA e.rp)=(rB s).flatMap oA:=by rw[←hQ,List.flatMap_map]
 have hqm2:qs.map (·.l)=(rB s).map oA:=by rw[hqm,←hQ,iE];rfl
 rw[hfm]at hal
 rw[eZ,hfm]at hS5
 have hpre3:=hS5
 obtain⟨B3,hBB3,hS15⟩:=hS5.aB (os:=[⟨sw,1,_⟩,⟨aw,3,_⟩])
 have hks:∀{H1 os},St prog B3 H1 os→∀q∈qs,Slx 3 Ctl.cells H1 (nb (os.map (·.v))) q.v q.l:=fun h q hq=>(hqx q hq).step (h.kept hBB3)
 simp(disch:=omega) only[↓RA,RZ,simprocAttr,hn,g7,p1]
 refine a8e hS15 1 rfl (by omega) fun HS hSS=> ?_
 simp only[iT,gy]at hSS
 simp(disch:=omega) only[↓RA,RZ,simprocAttr,hn,g7,p1]
 have hM1:=hSS.pick (os':=[⟨aw,3,_⟩]) [1] (by decide) rfl
 have hR1:=hSS.pick (os':=[⟨aw,3,_⟩,⟨sw,1,_⟩]) [1,0] (by decide) rfl
 refine jI (b7W hM1.aT (by rw[a2R];omega)) ?_
 rintro r H11⟨rest,rfl,hT4⟩
 have hS16:=hR1.frame hT4
 simp only[RT]at hS16
 simp(disch:=omega) only[↓RA,RZ,simprocAttr,hn,p1]
 have hqs:∀q∈qs,q.In H11:=fun q hq=>(hks hS16 q hq).1
 have haw:Sl 3 Ctl.cells H11 (lN aw 3 0 (rL s).length) (rL s):=b1O (hS16.rd 0 rfl)
 have hsw:Sl 1 Qv.cells H11 sw qs:=hS16.av 1 rfl (fun _=>rfl)
 have hpre4:=(hS5.ae hBB3 hS16)
 have hanl:=b9V s
 have hany:dd (wG ((rB s).flatMap oA))=rL s:=rfl
 simp(disch:=omega) only[↓RA,RZ,simprocAttr,hn,((sR H11).sl haw).len,p1,hany]
 refine jA (fun p3=> ?_) (fun p3=> ?_)
 ·have hE:zN s=4:=by unfold zN;rw[if_neg (by rw[h1];decide),if_pos (by omega)]
  have hz:a1L s=none:=by unfold a1L;rw[if_pos (.inl (by rw[hE];decide))]
  simp(disch:=omega) only[↓RA,RZ,simprocAttr,hn,b7z,p1,hany,p3]
  rw[hz,hE]
  exact⟨.slice none 0 0,rfl,(hpre.forget.trans (hpre4.forget.trans (sR H11))).nil 2⟩
 have hE:zN s=0:=by unfold zN;rw[if_neg (by rw[h1];decide),if_neg (by omega)]
 have hmn:(rB s).map oA≠[]:=fun e=>hne (iL.1 e)
 have hqle:∀q∈qs,q.l.length<1000000000:=fun q hq=>by
  have h3:q.l∈qs.map (·.l):=gG hq
  rw[hqm]at h3
  obtain⟨e,he,h4⟩:=dX.1 h3
  have:=hul e he
  rw[←h4]
  omega
 have hqsl:qs.length≤500:=by
  have:=congrArg List.length hqm2
  have h3:=b3q s
  rw[dU,dU]at this
  omega
 simp(disch:=omega) only[↓RA,RZ,simprocAttr,p1,hany,p3]
 refine Wp.aq (fun n l H'=>l.length=60∧get l 6=sw∧get l 7=(lN aw 3 0 (rL s).length)∧∃(k:Nat),(0<k∧n+k=(rL s).length+2∧∀m,m<k→a8Z s m=none)∧get l 10=I k∧St prog H11 H' []) ((rL s).length+1) ?_ ?_
 ·simp(disch:=omega) only[RB,RC,simprocAttr,hn,g6]
  exact⟨1,⟨by omega,by omega,fun m hm=>by rw[show m=0 from by omega];exact a0Z _ hmn⟩,rfl,(sR H11)⟩
 rintro n l H12⟨hn,g6,g7,k,⟨hk0,hk,hkn⟩,yC,hS17⟩
 obtain⟨O,hO⟩:∃O,O=a8Z s k:=⟨_,rfl⟩
 have hI:=c6E ((rL s).length+1) (lN aw 3 0 (rL s).length) (rL s) (by omega) (hS17.sl haw) sw qs (hS17.sl hsw) (fun q hq=>hS17.sl (hqs q hq)) k (by omega) (by omega) (by omega) hqle
 rw[hqm2,show vL (rL s) ((rB s).map oA) k=O from hO.symm]at hI
 simp(disch:=omega) only[↓RA,RZ,simprocAttr,hn,g6,g7,yC]
 refine jI (hI) ?_
 rintro r H13⟨ov2,rfl,hT5⟩
 have hS18:=hS17.trans hT5
 simp only[RT]at hS18
 simp(disch:=omega) only[↓RA,RB,simprocAttr,hn]
 refine kC (fun p4=> ?_) (fun p4=> ?_)
 ·obtain⟨l,hl⟩:∃l,O=some l:=fm.1 p4
  have hsil:=c2x hE hne (hO.symm.trans hl) hkn
  have hnt:kA ov2=true:=(hS18.rd 0 rfl).bD
  simp(disch:=omega) only[↓RA,RZ,simprocAttr,hn,b7z,p4,hnt]
  rw[hl]at hS18
  rw[hsil,hE]
  exact⟨ov2,rfl,hpre.forget.trans (hpre4.forget.trans hS18)⟩
 have hl:O=none:=by
  cases O with
  | none=>rfl
  | some l=>simp at p4
 have hkl:k<(rL s).length:=by
  rcases il k (rL s).length with h|h
  ·exact h
  ·have:=a4W k h
   rw[←hO,hl]at this
   cases this
 simp(disch:=omega) only[↓RA,RZ,simprocAttr,hn,g6,g7,yC,p4]
 refine⟨n-1,by omega,k+1,⟨by omega,by omega,fun m hm=> ?_⟩,by simp,hS18.forget⟩
 rcases dN.1 hm with h|h
 ·exact hkn m h
 ·rw[h,←hO,hl]
end Go.Ds
namespace Go.Ds
open Go.Proofs Go.Proofs.Tryz
set_option maxRecDepth 100000
def c7H:List (List UInt8):=[[67],[67,35],[68],[68,35],[69],[70],[70,35],[71],[71,35],[65],[65,35],[66]]
def nmL(k:Nat):List UInt8:=c7H.getD (k%12) []++if k<12 then[45,49]else[(47+k/12).toUInt8]
def nmB(k:Nat):ByteArray:=⟨(nmL k).toArray⟩
def b3V(v:Value)(k:Nat):Bool:=match v with
 | .tuple vs=>match vs.toList with
   | [.string b,.int .i64 m]=>decide (m=0)&&decide (b.data.toList=nmL k)
   | _=>false
 | _=>false
def b6P(r:Rs)(k:Nat):Bool:=match r with
 | .ok v _=>b3V v k
 | .th v _=>b3V v k
 | _=>false
noncomputable def c2m (ps:List Nat):Bool:=uB prog [76,112,114,115,158,188,201,203,204,202,230,231,232,140] .e fun T=>ps.all fun x=>b6P (oD T (exF prog T 4000) [] (lV 76) [.int .i64 x] gH) x
theorem c9g:c2m (List.range 128)=true:=by kernel_rfl
def exA:ByteArray:=⟨#[71,114,101,97,116,32,69,50]⟩
def exB:ByteArray:=⟨#[67,104,111,105,114,95,116,111,95,71,114,101,97,116,32,116,111,32,67,104,111,105,114,32,69,50]⟩
def exJ:List UInt8:=[71,114,101,97,116,32,69,50,44,32,67,104,111,105,114,95,116,111,95,71,114,101,97,116,32,116,111,32,67,104,111,105,114,32,69,50]
def a7N:ByteArray:=⟨#[44,32]⟩
def b2g(r:Rs):Bool:=match r with
 | .ok (.string b) _=>decide (b.data.toList=exJ)
 | .th (.string b) _=>decide (b.data.toList=exJ)
 | _=>false
noncomputable def jH (ty:TypeId):Heap:=Heap.nil.cons (.cells [.string exA,.string exB] ty false 0 2)
noncomputable def b3j (ty:TypeId):Bool:=uB prog [57,100,101,102,141,142] .e fun T=>b2g (oD T (exF prog T 4000) [] (lV 57) [.slice (some ⟨0,0,some 2⟩) 2 1,.string a7N] (jH ty))
theorem c7C(ty:TypeId):b3j ty=true:=by kernel_rfl
end Go.Ds
namespace Go.Ds
open Go.Proofs Go.Proofs.Tryz
open Go.Shelf Go.RowKit Go.Lib Go.Sort
section
variable {P:Program} {ρ ρ0:Rho} {H H0:Heap} {w W:World}
theorem c1D{α:Type}{f:α→Value}(hsc0:∀x,jY (f x)=true)(h0:InW P ρ0 H0 W)(hr:HRel P ρ H w){cv cv':Value}{xs:List α}(hs:Sl 1 (one f) H cv xs)(hv:C1 ρ cv cv')(hne:∀A,kY cv=some A→∀e p,ρ A e=some p→W.heap[p.b]? =w.heap[p.b]?):
 xs≠[]→∃ρ1 cv1 ty n,InW P ρ1 (H0.cons (.cells (xs.flatMap (one f)) ty false 0 2)) W∧n=xs.length∧cv1=.slice (some ⟨H0.length,0,some (xs.flatMap (one f)).length⟩) n 1∧C1 ρ1 cv1 cv':=by
 intro hx0
 have hxl:(xs.flatMap (one f)).length=xs.length:=by rw[mQ,dU]
 have hV:V ρ cv cv':=.v1 (.c1 hv)
 rcases hs.rd with⟨rfl,h2⟩|⟨A,i,e,row,ty,rw',lo,ver,n,hg,hlo,hle,hfit,htk,hn,rfl⟩
 ·rcases hV.aA with⟨_,_,_,rfl⟩|⟨A,j,e,p,c',a,hh,_⟩
  ·exact absurd (eR.1 (by rw[←hxl,h2];rfl)) hx0
  ·cases hh
 ·obtain⟨p,c',a,hp,h00,hin,hnc,hac,hpk,rfl⟩:=hV.ay
  obtain⟨_,hk,hfit2,cur,ty',fr,hw,hsz,hfr,hcell⟩:=(hr.cells _ _ _ _ _ _ hg).2 _ _ hp
  have hWp:W.heap[p.b]? =w.heap[p.b]?:=hne A rfl _ _ hp
  have hrow:=h0.row ⟨p.b,p.d+i,p.sz,p.k⟩ (cur:=cur) (t':=ty') (fr:=fr) (by rw[hWp];exact hw) (ty:=ty) hk hsz (xs.flatMap (one f)) 2 (fun h=>by cases h) (by show((xs.flatMap (one f)).length:Int)+(p.d+i)≤p.sz;omega) (fun j c hj hj0 hc=>by
   have h1:row[i+j]? =some c:=by
    have h2:((row.drop i).take (xs.flatMap (one f)).length)[j]? =some c:=by rw[htk];exact hc
    rw[eI hj,ee]at h2
    exact h2
   obtain⟨c2,h3,h4⟩:=hcell hlo (i+j) c (by omega) (by omega) h1
   have hsc:jY c=true:=by
    rw[mQ,fo]at hc
    obtain⟨z,_,rfl⟩:=dJ.1 hc
    exact hsc0 z
   have:=h4.ax hsc
   subst this
   refine⟨c2,?_,.c0 (.flat hsc)⟩
   have hat:Place.at ⟨p.b,p.d+i,p.sz,p.k⟩ j=p.at (i+j):=by unfold Place.at;simp only;omega
   rw[hat]
   exact h3)
  obtain⟨h1,h2⟩:=hrow
  refine⟨_,.slice (some ⟨H0.length,0,some (xs.flatMap (one f)).length⟩) n 1,ty,n,h1,by omega,rfl,?_⟩
  have hq:(ρ0.put H0.length (xs.flatMap (one f)).length ⟨p.b,p.d+i,p.sz,p.k⟩) H0.length (xs.flatMap (one f)).length=some ⟨p.b,p.d+i,p.sz,p.k⟩:=Rho.ar _ _ _ _
  have e1:n*p.k=n:=by rw[←hpk,iw]
  have e2:c'*p.k=c':=by rw[←hpk,iw]
  have hk1:p.k=1:=hpk.symm
  have:=C0.slice (n:=n) (c':=c') (a:=a) hq (i:=0) (by show(0:Int)≤((0:Nat):Int)+(p.d+i);omega) (by show 0+n*p.k≤_;rw[e1];omega) ⟨hnc.1,by show _≤0+c'*p.k;rw[e2];have:=hnc.1;omega⟩ (by
   rcases hac with⟨h3,h4⟩|h3
   ·refine .inl ⟨?_,?_⟩
    ·rw[h3]
     congr 1
     unfold Place.at
     simp only
     omega
    ·show Place.at ⟨p.b,p.d+i,p.sz,p.k⟩ 0+c'*p.k≤p.sz
     have:Place.at ⟨p.b,p.d+i,p.sz,p.k⟩ 0=p.at i:=by unfold Place.at;simp only;omega
     rw[this];exact h4
   ·exact .inr h3)
  simp only[hk1]at this ⊢
  exact .c0 this
theorem CallOk.dp{f:FuncId}{args:List Value}{v:Value}(hv:flat v=true)(h:∀{ρ:Rho}{w:World}{args':Array Value},HRel P ρ H w→All2 (V ρ) args args'.toList→∃ρ1 H1 args1 H2,InW P ρ1 H1 w∧All2 (V ρ1) args1 args'.toList∧CallOk P f args1 H1 v H2):CallOk P f args H v H:=by
 intro k ρ w args' hr ha
 obtain⟨ρ1,H1,args1,H2,hI,ha1,hc⟩:=h hr ha
 refine(hc k ρ1 w args' hI.rel ha1).mono ?_
 rintro e w'⟨ρ',v',rfl,hp,hv'⟩
 have hframe:∀b,b<w.heap.size→w'.heap[b]? =w.heap[b]?:=fun b hb=>(hp.frame b hb (hI.shut b)).1
 refine⟨ρ,v',rfl,?_,?_⟩
 ·exact{
   le:=.refl ρ
   rel:=hr.other hp.size fun A e p hq=>hframe _ (hr.dom _ _ _ hq).2
   len:=dG _
   size:=hp.size
   os:=hp.os
   tape:=hp.tape
   output:=hp.output
   frame:=fun b hb hw=>⟨hframe b hb,hw⟩
   loops:=fun b r h=>⟨r,by rw[hframe b (nG h),h]⟩
   img:=fun _ _ h=>h}
 ·rw[hv'.ak hv]
  exact .of_flat hv
end
variable {H:Heap}
theorem a7x{v:Value}{k:Nat}(h:b3V v k=true):v=.tuple #[.string (nmB k),I 0]:=by
 unfold b3V at h
 split at h
 ·rename_i vs
  split at h
  ·rename_i b m e
   rw[dB,decide_eq_true_eq,decide_eq_true_eq]at h
   obtain⟨rfl,h⟩:=h
   have:b=nmB k:=by
    cases b with|mk d=>cases d with|mk l=>simp only at h;subst h;rfl
   rw[←this]
   congr 1
   exact iR e
  ·cases h
 ·cases h
theorem c1n(hG:Glob gH H)(k:Nat)(hk:k<128):Fn prog 76 [I k] H fun r H'=>r=.tuple #[.string (nmB k),I 0]∧St prog H H' []:=by
 obtain⟨T,hT,h⟩:=sS c9g
 have h:=h k (dY.2 hk)
 refine uJ (fun x hx=>by rw[dZ.1 hx];rfl) rfl ?_ hG
 unfold b6P at h
 split at h
 ·rename_i v H1 e
  rw[←a7x h]
  exact nT hT (.inl e)
 ·rename_i v H1 e
  rw[←a7x h]
  exact nT hT (.inr e)
 ·cases h
theorem enJ:pF prog 57:=⟨Tryz.f57,func57,by kernel_rfl,by kernel_rfl⟩
theorem c8a(ty:TypeId):∃H2,CallOk prog 57 [.slice (some ⟨0,0,some 2⟩) 2 1,.string a7N] (jH ty) (.string ⟨exJ.toArray⟩) H2:=by
 have h0:=c7C ty
 unfold b3j at h0
 obtain⟨T,hT,e⟩:=a9d (P:=prog) [57,100,101,102,141,142] .e (fun f g h=>by rw[xH]at h;cases h) (fun T=>b2g (oD T (exF prog T 4000) [] (lV 57) [.slice (some ⟨0,0,some 2⟩) 2 1,.string a7N] (jH ty)))
 rw[e]at h0
 unfold b2g at h0
 have key:∀b H1,(oD T (exF prog T 4000) [] (lV 57) [.slice (some ⟨0,0,some 2⟩) 2 1,.string a7N] (jH ty)).Is (.string b) H1→b.data.toList=exJ→∃H2,CallOk prog 57 [.slice (some ⟨0,0,some 2⟩) 2 1,.string a7N] (jH ty) (.string ⟨exJ.toArray⟩) H2:=fun b H1 hi hb=>by
  have e:b=⟨exJ.toArray⟩:=by
   cases b with|mk d=>cases d with|mk l=>simp only at hb;subst hb;rfl
  obtain⟨_,v,H2,h2,h3⟩:=(xY hT (b8t c4g hT 4000) (fun en hen=>by cases hen) rfl hi).1.fn
  rw[h3.1,e]at h2
  exact⟨H2,h2⟩
 split at h0
 ·rename_i b H1 e
  exact key b H1 (.inl e) (of_decide_eq_true h0)
 ·rename_i b H1 e
  exact key b H1 (.inr e) (of_decide_eq_true h0)
 ·cases h0
def b1E(xs:List ByteArray)(t:ByteArray):Prop:=∀(H:Heap)(v:Value),Sl 1 (one Value.string) H v xs→Fn prog 57 [v,.string a7N] H fun r H'=>r=.string t∧St prog H H' []
theorem c5k:b1E [exA,exB] ⟨exJ.toArray⟩:=by
 intro H v hv
 refine⟨enJ,_,H,CallOk.dp rfl ?_,rfl,St.refl _ _⟩
 intro ρ w args' hr ha
 obtain⟨l⟩:=args'
 match l,ha with
 | [x,y],⟨hx,hy,_⟩=>
   have hx1:C1 ρ v x:=by
    rcases hv.rd with⟨rfl,h⟩|⟨A,i,e,row,ty,rw',lo,ver,n,_,_,_,_,_,_,rfl⟩
    ·cases h
    ·cases hx with
     | v1 h=>cases h with
       | c1 h=>exact h
   obtain⟨ρ1,cv1,ty,n,hI,rfl,rfl,hc⟩:=c1D (P:=prog) (f:=Value.string) (fun _=>rfl) (InW.none w) hr hv hx1 (fun _ _ _ _ _=>rfl) (by simp)
   obtain⟨H2,h2⟩:=c8a ty
   have hye:y=.string a7N:=hy.ak rfl
   subst hye
   exact⟨ρ1,_,[.slice (some ⟨0,0,some 2⟩) 2 1,.string a7N],H2,hI,⟨.v1 (.c1 hc),.of_flat rfl,trivial⟩,h2⟩
end Go.Ds
namespace Go.Ds
open Go.Proofs Go.Proofs.Tryz
variable {H:Heap}
set_option maxRecDepth 10000
set_option maxHeartbeats 1000000
def spB:ByteArray:=⟨#[32]⟩
def toB:ByteArray:=⟨#[32,116,111,32]⟩
def c7w:ByteArray:=⟨#[58,32]⟩
def rR(s:Sn)(c:Ct):ByteArray:=(jB s.o.dvs c.1.toNat).name++spB++nmB c.2.toNat
def a2V(s:Sn)(cps:List Int)(l:List Ct)(i:Nat):ByteArray:=(jB s.o.cpls (jB cps i).toNat).name++toB++rR s (jB l i)
def a6u(s:Sn)(r:Rn):List ByteArray:=rR s r.pl::(List.range (nF s r).1.length).map (a2V s r.cps (nF s r).1)
def a5y(s:Sn)(r:Rn)(j:ByteArray):ByteArray:=j++c7w++(jB (jB s.o.dvs r.tc.1.toNat).stops r.stop.toNat).name
theorem a2a{n:ByteArray}(h:¬lT n=false):n.size≤32:=by
 have h:=iu _▸h
 unfold lT at h
 simp only[dB,decide_eq_true_eq]at h
 exact h.1.1.2
theorem Org.bK{o:Org}(h:organE o=0){j:Nat}(hj:j<o.dvs.length):(jB o.dvs j).name.size≤32∧∀q,q<(jB o.dvs j).stops.length→(jB (jB o.dvs j).stops q).name.size≤32:=by
 unfold organE at h
 split at h
 ·omega
 split at h
 ·omega
 split at h
 ·rename_i hh;exact absurd h hh
 split at h
 ·omega
 split at h
 ·omega
 split at h
 ·rename_i hh;exact absurd h hh
 rename_i _ _ _ _ _ hd
 have e:=pT (dW.1 hd) j hj
 unfold vJ at e
 split at e
 ·omega
 rename_i h1
 split at e
 ·omega
 refine⟨a2a h1,fun q hq=> ?_⟩
 unfold divE at e
 split at e
 ·rename_i hh;exact absurd e hh
 split at e
 ·omega
 have e2:=pT e q hq
 unfold pY at e2
 split at e2
 ·rename_i hh;exact absurd e2 hh
 rename_i hs2
 have e2:=dW.1 hs2
 unfold stopE at e2
 split at e2
 ·rename_i hh;exact absurd e2 hh
 split at e2
 ·omega
 rename_i h2
 exact a2a h2
theorem Org.cr{o:Org}(h:organE o=0){j:Nat}(hj:j<o.cpls.length):(jB o.cpls j).name.size≤32:=by
 unfold organE at h
 split at h
 ·omega
 split at h
 ·omega
 split at h
 ·rename_i hh;exact absurd h hh
 split at h
 ·omega
 split at h
 ·omega
 split at h
 ·rename_i hh;exact absurd h hh
 unfold tG at h
 split at h
 ·omega
 split at h
 ·omega
 have e:=pT h j hj
 unfold oC at e
 dsimp only at e
 split at e
 ·omega
 rename_i h1
 exact a2a h1
theorem b8z(k:Nat):(nmB k).size≤4:=by
 have h:∀j,j<12→(c7H.getD j []).length≤2:=by decide
 have h2:=h (k%12) (eU _ (by decide))
 show(nmL k).length≤4
 unfold nmL
 rw[dH]
 rw[dE]at h2 ⊢
 split<;>simp only[dS,dV]<;>omega
theorem b4i{s:Sn}(hf:s.Fit){c:Ct}(hc:nJ s.o c=true):(rR s c).size≤37:=by
 have h1:=(lQ s.o c).1 hc
 have h2:=(Org.bK hf.o (j:=c.1.toNat) (by omega)).1
 have h3:=b8z c.2.toNat
 unfold rR
 rw[gT,gT]
 have:spB.size=1:=rfl
 omega
theorem b6V{o:Org}(h:organE o=0){c:Ct}(hc:nJ o c=true):∃k:Nat,c.2=k∧k<128:=by
 have h1:=(lQ o c).1 hc
 have h2:=(Org.aP h).keys c.1.toNat (by omega)
 exact⟨c.2.toNat,by omega,by omega⟩
theorem a4V(hG:Glob gH H)(s:Sn)(hs:s.In H)(hf:s.Fit)(c:Ct)(hc:nJ s.o c=true):Fn prog 55 [s.v,.agg #[I c.1,I c.2]] H fun r H'=>r=.string (rR s c)∧St prog H H' []:=by
 obtain⟨k,hk,hk2⟩:=b6V hf.o hc
 have h1:=(lQ s.o c).1 hc
 obtain⟨d,hd⟩:∃d:Nat,c.1=d:=⟨c.1.toNat,by omega⟩
 have hP:rR s c=(jB s.o.dvs d).name++spB++nmB k:=by unfold rR;rw[hd,hk];rfl
 have n1:=(Org.bK hf.o (j:=d) (by omega)).1
 have n2:=b8z k
 have c1:=fun t t2 cx cy=>nS (P:=prog) t t2 cx cy (jB s.o.dvs d).name ⟨#[32]⟩ (by show _+1<_;omega)
 have c2:=fun t t2 cx cy=>nS (P:=prog) t t2 cx cy ((jB s.o.dvs d).name++⟨#[32]⟩) (nmB k) (by rw[gT];show _+1+_<_;omega)
 rw[hP,hd,hk]
 refine .aE func55 rfl (by kernel_rfl) (m:=24) rfl fun l hn g0 g1=> ?_
 simp(disch:=omega) only[↓RA,RB,simprocAttr,g0]
 refine(sR H).eNew 10 [(.string s.o.name),s.o.rv,s.o.dv,s.o.cv,s.sv,(.int .u64 s.rg.cpl),(.int .u64 s.rg.off),s.kv,I s.p.1,I s.p.2] rfl rfl (by simp[OC,((sR H).sl hs.o.1).cells.2.1,((sR H).sl hs.o.2.2.1).cells.2.1,((sR H).sl hs.o.2.2.2.2.1).cells.2.1,((sR H).sl hs.rg.1).cells.2.1,((sR H).sl hs.ks.sl).cells.2.1]) oI fun A1 H1 hS1=> ?_
 simp only[RT]at hS1
 simp(disch:=omega) only[↓RA,RB,simprocAttr,g1]
 refine hS1.eNew 2 [I d,I k] rfl rfl rfl mM fun A2 H2 hS2=> ?_
 simp only[RT]at hS2
 simp(disch:=omega) only[↓RA,RZ,simprocAttr,hn,hS2.ld 1 rfl]
 refine hS2.cF (c1n (hS2.gl hG) k hk2) fun H3 hS3=> ?_
 simp(disch:=omega) only[↓RA,RZ,simprocAttr,hn,hS3.ld 0 rfl,hS3.ld 1 rfl,(hS3.sl hs.o.2.2.1).idx,(hS3.sl hs.o.2.2.1).bd,(hS3.sl hs.o.2.2.1).ld,Dvn.cells,d0Y,c1,c2]
 exact⟨rfl,hS3.forget⟩
theorem b5k{s:Sn}{r:Rn}(h:(nF s r).2=true):(nF s r).1.length=r.cps.length:=by
 unfold nF at h ⊢
 cases h2:mL s r.pl r.cps r.cps.length with
 | none=>rw[h2]at h;cases h
 | some q=>
   obtain⟨o2,a2⟩:=q
   exact zU h2
theorem b4H{s:Sn}{r:Rn}(hf:s.Fit)(hp:nJ s.o r.pl=true)(h:(nF s r).2=true):(∀c∈(nF s r).1,nJ s.o c=true)∧∀i,i<r.cps.length→0≤jB r.cps i∧jB r.cps i<s.o.cpls.length:=by
 have key:∀n out a,mL s r.pl r.cps n=some (out,a)→nJ s.o a=true∧(∀c∈out,nJ s.o c=true)∧∀i,i<n→0≤jB r.cps i∧jB r.cps i<s.o.cpls.length:=by
  intro n
  induction n with
  | zero=>
    intro out a h
    unfold mL at h
    injection h with h
    obtain⟨rfl,rfl⟩:=iC h
    exact⟨hp,fun c hc=>(by cases hc),fun i hi=>absurd hi (ez _)⟩
  | succ n ih=>
    intro out a h
    unfold mL at h
    cases h2:mL s r.pl r.cps n with
    | none=>rw[h2]at h;cases h
    | some q=>
      obtain⟨o2,a2⟩:=q
      obtain⟨i1,i2,i3⟩:=ih o2 a2 h2
      rw[h2]at h
      simp only at h
      split at h
      ·rename_i hb
       injection h with h
       obtain⟨rfl,rfl⟩:=iC h
       rw[dB]at hb
       have h5:=a0R.1 hb.1
       obtain⟨h6,h7,_⟩:=zV h5.1
       have hc:=Org.bp hf.o (j:=(jB r.cps n).toNat) (by omega)
       have hok:nJ s.o (nA s (jB r.cps n) a2)=true:=by
        rw[nA,if_pos h5.1,lQ]
        exact⟨hc.2.1.1,hc.2.1.2,h5.2.2.2.1,h5.2.2.2.2⟩
       refine⟨hok,fun c hc=> ?_,fun i hi=> ?_⟩
       ·rcases eo.1 hc with hc|hc
        ·exact i2 c hc
        ·rw[dZ]at hc
         rw[hc];exact hok
       ·rcases dN.1 hi with e|e
        ·exact i3 i e
        ·rw[e];exact⟨h6,h7⟩
      ·cases h
 unfold nF at h ⊢
 cases h2:mL s r.pl r.cps r.cps.length with
 | none=>rw[h2]at h;cases h
 | some q=>
   obtain⟨o2,a2⟩:=q
   obtain⟨_,i2,i3⟩:=key _ _ _ h2
   exact⟨i2,i3⟩
theorem b8W{s:Sn}{r:Rn}(h:vfE s r=0):tT s=0∧r.pl∈jG s.ks∧(nF s r).2=true∧¬(r.cps.length=0∧a1q s r.pl.1=true)∧a1d s r.stop r.tc=true:=by
 unfold vfE at h
 split at h
 ·rename_i h1;exact absurd h h1
 ·rename_i h1
  split at h
  ·cases h
  ·rename_i h2
   split at h
   ·cases h
   ·rename_i h3
    split at h
    ·cases h
    ·rename_i h4
     exact⟨dW.1 h1,dW.1 h2,by simpa using fun e=>h3 (.inl e),fun e=>h3 (.inr e),by simpa using h4⟩
def b2z(s:Sn)(r:Rn)(j:ByteArray):ByteArray:=if vfE s r=0 then a5y s r j else⟨#[]⟩
theorem c3N(hG:Glob gH H)(s:Sn)(hs:s.In H)(x:Rn)(hx:x.In H)(hl:x.cps.length<1000000)(jn:ByteArray)(hjl:jn.size<1000000000000)(hJ:vfE s x=0→b1E (a6u s x) jn):Fn prog 23 [s.v,x.v] H fun r H'=>r=.tuple #[.string (b2z s x jn),I (vfE s x)]∧St prog H H' []:=by
 refine .aE func23 rfl (by kernel_rfl) (m:=74) rfl fun l hn g0 g1=> ?_
 simp(disch:=omega) only[↓RA,RB,simprocAttr,g0]
 refine(sR H).eNew 10 [(.string s.o.name),s.o.rv,s.o.dv,s.o.cv,s.sv,(.int .u64 s.rg.cpl),(.int .u64 s.rg.off),s.kv,I s.p.1,I s.p.2] rfl rfl (by simp[OC,((sR H).sl hs.o.1).cells.2.1,((sR H).sl hs.o.2.2.1).cells.2.1,((sR H).sl hs.o.2.2.2.2.1).cells.2.1,((sR H).sl hs.rg.1).cells.2.1,((sR H).sl hs.ks.sl).cells.2.1]) oI fun A1 H1 hS1=> ?_
 simp only[RT]at hS1
 simp(disch:=omega) only[↓RA,RB,simprocAttr,g1]
 refine hS1.eNew 6 [I x.pl.1,I x.pl.2,x.cv,I x.tc.1,I x.tc.2,I x.stop] rfl rfl (by simp[OC,(hS1.sl hx.1).cells.2.1]) nW fun A2 H2 hS2=> ?_
 simp only[RT]at hS2
 simp(disch:=omega) only[↓RA,RZ,simprocAttr,hn,hS2.aj 0 rfl,hS2.aj 1 rfl]
 refine hS2.cF (b5f (hS2.gl hG) s (hs.ag hS2) x (hx.ag hS2)) fun H3 hS3=> ?_
 simp(disch:=omega) only[↓RA,RB,simprocAttr,hn]
 refine jA (fun h1=> ?_) (fun h1=> ?_)
 ·have hc:b2z s x jn=⟨#[]⟩:=by unfold b2z;rw[if_neg h1]
  simp(disch:=omega) only[↓RA,RZ,simprocAttr,hn,c6K,h1]
  exact⟨by rw[hc],hS3.forget⟩
 have h1:vfE s x=0:=dW.1 h1
 have hJ:=hJ h1
 have hc:b2z s x jn=a5y s x jn:=by unfold b2z;rw[if_pos h1]
 obtain⟨e0,e1,e2,e3,e4⟩:=b8W h1
 have hf:=zZ.1 e0
 have hpo:=uI hs.ks.ok hf.keys _ e1
 have hto:=a5j hf hpo e2
 obtain⟨hco,hci⟩:=b4H hf hpo e2
 have hcl:=b5k e2
 simp(disch:=omega) only[↓RA,RZ,simprocAttr,hn,hS3.aj 0 rfl,hS3.aj 1 rfl,h1]
 refine hS3.cF (a4V (hS3.gl hG) s (hs.ag hS3) hf x.pl hpo) fun H4 hS4=> ?_
 simp(disch:=omega) only[↓RA,RZ,simprocAttr,hn,h1]
 refine hS4.ai [(.string (rR s x.pl))] a0g a2o rfl rfl (by simp[Value.cells]) rfl rfl (by decide) (by decide) fun w1 H5 hS5=> ?_
 simp only[RT]at hS5
 simp(disch:=omega) only[↓RA,RZ,simprocAttr,hn,hS5.aj 0 rfl,hS5.aj 1 rfl,h1]
 refine jI (a8D s (hs.ag hS5) hf x (hx.ag hS5)) ?_
 rintro r H6⟨cw,rfl,hT3⟩
 have hS6:=hS5.trans hT3
 simp only[RT]at hS6
 simp(disch:=omega) only[↓RA,RZ,simprocAttr,hn,(hS6.av 3 rfl lB).len,h1]
 obtain⟨CL,hCL⟩:∃l,l=(nF s x).1:=⟨_,rfl⟩
 rw[←hCL]at hco hcl
 simp only[←hCL]at hS6
 simp only[←hCL]
 refine Wp.aq (fun n l H'=>l.length=74∧get l 2=(ptr A1 0 10)∧get l 3=(ptr A2 0 6)∧get l 4=(.string ⟨#[]⟩)∧get l 5=I 0∧get l 29=cw∧get l 30=I CL.length∧∃(i:Nat)(ov:Value),(n+i=CL.length)∧get l 31=I i∧get l 7=ov∧St prog H H' [⟨ptr A1 0 10,0,[(.string s.o.name),s.o.rv,s.o.dv,s.o.cv,s.sv,(.int .u64 s.rg.cpl),(.int .u64 s.rg.off),s.kv,I s.p.1,I s.p.2]⟩,⟨ptr A2 0 6,0,[I x.pl.1,I x.pl.2,x.cv,I x.tc.1,I x.tc.2,I x.stop]⟩,⟨ov,1,(rR s x.pl::(List.range i).map (a2V s x.cps CL)).flatMap (one Value.string)⟩,⟨cw,2,pr CL⟩]) CL.length ?_ ?_
 ·simp(disch:=omega) only[RB,RC,simprocAttr,hn]
  exact⟨0,w1,by omega,rfl,rfl,hS6⟩
 rintro n l H7⟨hn,g2,g3,g4,g5,g29,g30,i,ov,hi,g31,g7,hS7⟩
 simp(disch:=omega) only[↓RA,RB,simprocAttr,hn,g30,g31]
 refine jA (fun q1=> ?_) (fun q1=> ?_)
 ·obtain⟨hk0,hk1⟩:=hci i (by omega)
  obtain⟨k,hk⟩:∃k:Nat,jB x.cps i=k:=⟨(jB x.cps i).toNat,by omega⟩
  have hkl:k<s.o.cpls.length:=by omega
  have hcm:=hco _ (jE (xs:=CL) (j:=i) (by omega))
  have n1:=Org.cr hf.o hkl
  have n2:=b4i hf hcm
  have c1:=fun t t2 cx cy=>nS (P:=prog) t t2 cx cy (jB s.o.cpls k).name ⟨#[32,116,111,32]⟩ (by show _+4<_;omega)
  have c2:=fun t t2 cx cy=>nS (P:=prog) t t2 cx cy ((jB s.o.cpls k).name++⟨#[32,116,111,32]⟩) (rR s (jB CL i)) (by rw[gT];show _+4+_<_;omega)
  simp(disch:=omega) only[↓RA,RZ,simprocAttr,hn,g29,g31,(hS7.av 3 rfl lB).idx,(hS7.av 3 rfl lB).aj,mD,q1]
  refine hS7.eNew 2 [I 0,I 0] rfl rfl rfl mM fun A3 H8 hS8=> ?_
  simp only[RT]at hS8
  simp(disch:=omega) only[↓RA,RZ,simprocAttr,hn,q1]
  refine hS8.ab 4 rfl [I (jB CL i).1,I (jB CL i).2] rfl rfl mM (by simp) fun H9 hS9=> ?_
  simp only[RT]at hS9
  simp(disch:=omega) only[↓RA,RZ,simprocAttr,q1]
  refine Wp.aF kS [(3,16),(5,16),(8,16),(11,16)] (by kernel_rfl) (by kernel_rfl) ?_
  simp(disch:=omega) only[↓RA,RZ,simprocAttr,hn,g2,g3,g7,hS9.ld 0 rfl,hS9.ld 1 rfl,(hS9.sl hx.1).idx,(hS9.sl hx.1).ld,one,hk]
  simp(disch:=omega) only[↓RA,RZ,simprocAttr,hn,g2,(hS9.sl hs.o.2.2.2.2.1).idx,(hS9.sl hs.o.2.2.2.2.1).bd,(hS9.sl hs.o.2.2.2.2.1).ld,Cpl.cells,hS9.aj 0 rfl,hS9.aj 4 rfl,c1]
  refine hS9.cF (a4V (hS9.gl hG) s (hs.ag hS9) hf (jB CL i) hcm) fun H10 hS10=> ?_
  simp(disch:=omega) only[↓RA,RB,simprocAttr,hn,c2]
  refine hS10.ai [_] a0g a2o rfl rfl (by simp[Value.cells]) rfl rfl (by decide) (by decide) fun w2 H11 hS11=> ?_
  simp only[RT]at hS11
  simp(disch:=omega) only[↓RA,RZ,simprocAttr,hn]
  refine hS11.al 2 rfl (hS11.rd 5 rfl) a0g (by rw[mQ];simp;omega) fun w3 H12 hS12=> ?_
  simp only[RT]at hS12
  simp(disch:=omega) only[↓RA,RZ,simprocAttr,hn,g2,g3,g4,g5,g29,g30,g31,hS10.ld 0 rfl,hS10.ld 1 rfl,one,(hS10.sl hx.1).ld,Cpl.cells,(hS10.sl hs.o.2.2.2.2.1).ld,hk]
  refine⟨n-1,by omega,i+1,w3,by omega,by simp,rfl,?_⟩
  have hp:a2V s x.cps CL i=(jB s.o.cpls k).name++toB++rR s (jB CL i):=by unfold a2V;rw[hk];rfl
  rw[eV,ec,←fO,dP,show[i].map (a2V s x.cps CL)=[a2V s x.cps CL i]from rfl,hp]
  exact hS12.pick [0,1,2,3] (by decide) rfl
 have hii:i=CL.length:=by omega
 subst hii
 obtain⟨hd0,hd1,hb,hm⟩:0≤x.tc.1∧x.tc.1<s.o.dvs.length∧0≤x.stop∧x.stop<(jB s.o.dvs x.tc.1.toNat).stops.length:=by
  have h2:=(lQ s.o x.tc).1 hto
  unfold a1d at e4
  simp only[dB,decide_eq_true_eq]at e4
  exact⟨h2.1,h2.2.1,e4.1.1.1,e4.1.1.2⟩
 obtain⟨d,hd⟩:∃d:Nat,x.tc.1=d:=⟨x.tc.1.toNat,by omega⟩
 obtain⟨k,hk⟩:∃k:Nat,x.stop=k:=⟨x.stop.toNat,by omega⟩
 have hdl:d<s.o.dvs.length:=by omega
 have hdt:x.tc.1.toNat=d:=by omega
 rw[hdt]at hm
 have hkl:k<(jB s.o.dvs d).stops.length:=by omega
 have hst:=(hs.o.2.2.2.1 _ (jE hdl)).2.1
 simp only[hd,hk]at hS7
 simp(disch:=omega) only[↓RA,RC,simprocAttr,q1]
 refine Wp.aF kS [(5,0),(8,0),(11,0),(13,0),(16,0)] (by kernel_rfl) (by kernel_rfl) ?_
 simp(disch:=omega) only[↓RA,RZ,simprocAttr,hn,g7]
 have hJ2:b1E (rR s x.pl::(List.range CL.length).map (a2V s x.cps CL)) jn:=by
  unfold a6u at hJ
  rw[←hCL]at hJ
  exact hJ
 have n1:=(Org.bK hf.o hdl).2 k hkl
 have c1:=fun t t2 cx cy=>nS (P:=prog) t t2 cx cy jn ⟨#[58,32]⟩ (by show _+2<_;omega)
 have c2:=fun t t2 cx cy=>nS (P:=prog) t t2 cx cy (jn++⟨#[58,32]⟩) (jB (jB s.o.dvs d).stops k).name (by rw[gT];show _+2+_<_;omega)
 refine hS7.cF (hJ2 _ ov (hS7.av 2 rfl (fun _=>rfl))) fun H13 hS13=> ?_
 simp(disch:=omega) only[↓RA,RZ,simprocAttr,hn,g2,g3,hS13.ld 0 rfl,hS13.ld 1 rfl,(hS13.sl hs.o.2.2.1).idx,(hS13.sl hs.o.2.2.1).bd,(hS13.sl hs.o.2.2.1).ld,Dvn.cells,(hS13.sl (hs.o.2.2.2.1 (jB s.o.dvs d) (jE (by omega))).1).idx,(hS13.sl (hs.o.2.2.2.1 (jB s.o.dvs d) (jE (by omega))).1).bd,(hS13.sl (hs.o.2.2.2.1 (jB s.o.dvs d) (jE (by omega))).1).ld,Stp.cells,hS7.ld 0 rfl,hS7.ld 1 rfl,(hS7.sl hs.o.2.2.1).ld,(hS7.sl (hs.o.2.2.2.1 (jB s.o.dvs d) (jE (by omega))).1).ld,c6K,c1,c2]
 rw[hc,h1]
 have ht:a5y s x jn=jn++c7w++(jB (jB s.o.dvs d).stops k).name:=by unfold a5y;rw[hd,hk];rfl
 rw[ht]
 exact⟨rfl,hS13.forget⟩
end Go.Ds
namespace Go.Ds
open Go.Proofs
variable {H:Heap}
set_option maxRecDepth 100000
set_option maxHeartbeats 1000000
end Go.Ds
namespace Go.Ds
open Go.Proofs
variable {H:Heap}
set_option maxRecDepth 10000
set_option maxHeartbeats 1000000
section
variable (w1 w2 w3 w4 w5 w6 w7:Value)
end
section
variable (w1 w2 d1 g1 s1 d2 g2 s2 w3 w4 w5:Value)
end
end Go.Ds
namespace Go.Ds
open Go.Proofs Go.Proofs.Tryz
variable {H:Heap}
set_option maxRecDepth 10000
set_option maxHeartbeats 1000000
theorem a8l(s:ByteArray):Fn prog 81 [.string s] H fun r H'=>∃wv,r=.agg #[.string s,.string ⟨#[79,112,101,110]⟩,I 8,I 1,I 36,wv]∧St prog H H' [⟨wv,1,(List.replicate 13 (0:Int)).flatMap (one I)⟩]:=by
 refine .aL func81 rfl (by kernel_rfl) (m:=7) rfl fun l hn g0=> ?_
 simp(disch:=omega) only[↓RA,RZ,simprocAttr]
 refine(sR H).eNew 6 [(.string ⟨#[]⟩),(.string ⟨#[]⟩),I 0,I 0,I 0,(.slice none 0 0)] rfl rfl rfl tJ fun A1 H1 hS1=> ?_
 simp only[RT]at hS1
 simp(disch:=omega) only[↓RA,RB,simprocAttr,g0,xO]
 refine hS1.cI 13 d0r (by decide) fun w1 H2 hS2=> ?_
 simp only[RT]at hS2
 rw[show List.replicate 13 (Value.int .i64 0)=(List.replicate 13 (0:Int)).flatMap (one I)from by rw[mQ,List.map_replicate]]at hS2
 simp(disch:=omega) only[↓RA,RB,simprocAttr,hn,a2r (hS2.rd 1 rfl).cells]
 refine hS2.ab 0 rfl [(.string s),(.string ⟨#[79,112,101,110]⟩),I 8,I 1,I 36,w1] rfl (by simp[OC,(hS2.rd 1 rfl).cells.2.1]) tJ (by simp) fun H3 hS3=> ?_
 simp only[RT]at hS3
 simp(disch:=omega) only[↓RA,RZ,simprocAttr,hn,d0m,hS3.aj 0 rfl]
 exact⟨w1,rfl,hS3.pick [1] (by decide) rfl⟩
theorem a3A(n st:ByteArray)(k:Int)(A:Nat)(hA:Var H A 2 [I 36,I 48]):Fn prog 82 [.string n,.string st,I k,ptr A 0 2] H fun r H'=>∃dv gv sv,r=.agg #[.string n,.bool false,I 36,I 48,sv]∧St prog H H' [⟨dv,2,[I k,I 0]⟩,⟨gv,3,[I 36,I 48,dv]⟩,⟨sv,4,[.string st,I 8,I 1,gv]⟩]:=by
 refine .dg func82 rfl (by kernel_rfl) (m:=20) rfl fun l hn g0 g1 g2 g3=> ?_
 simp(disch:=omega) only[↓RA,RZ,simprocAttr]
 refine(sR H).eNew 5 [(.string ⟨#[]⟩),(.bool false),I 0,I 0,(.slice none 0 0)] rfl rfl rfl qC fun A1 H1 hS1=> ?_
 simp only[RT]at hS1
 simp(disch:=omega) only[↓RA,RZ,simprocAttr,hn,g0,g1,g2,g3,(hA.ag hS1.ag).aj,xO,c0V]
 refine hS1.ai [I k,I 0] a5s a5b rfl rfl (by simp[Value.cells]) rfl rfl (by decide) (by decide) fun w1 H2 hS2=> ?_
 simp only[RT]at hS2
 simp(disch:=omega) only[↓RA,RB,simprocAttr,hn,mU (hS2.rd 1 rfl).cells]
 refine hS2.ai [I 36,I 48,w1] rU yK rfl rfl (by first|(simp[];done)|simp[Value.cells]) (by first|(simp[];done)|simp[Value.cells]) (by simp[OC,(hS2.rd 1 rfl).cells.2.1]) (by decide) (by decide) fun w2 H3 hS3=> ?_
 simp only[RT]at hS3
 simp(disch:=omega) only[↓RA,RB,simprocAttr,hn,a9Z (hS3.rd 2 rfl).cells]
 refine hS3.ai [(.string st),I 8,I 1,w2] a3L b9G rfl rfl (by first|(simp[];done)|simp[Value.cells]) (by first|(simp[];done)|simp[Value.cells]) (by simp[OC,(hS3.rd 2 rfl).cells.2.1]) (by decide) (by decide) fun w3 H4 hS4=> ?_
 simp only[RT]at hS4
 simp(disch:=omega) only[↓RA,RB,simprocAttr,hn,b0d (hS4.rd 3 rfl).cells]
 refine hS4.ab 0 rfl [(.string n),(.bool false),I 36,I 48,w3] rfl (by simp[OC,(hS4.rd 3 rfl).cells.2.1]) qC (by simp) fun H5 hS5=> ?_
 simp only[RT]at hS5
 simp(disch:=omega) only[↓RA,RZ,simprocAttr,hn,d0c,hS5.aj 0 rfl]
 exact⟨w1,w2,w3,rfl,hS5.pick [1,2,3] (by decide) rfl⟩
def exT(v1 v2 d1 g1 s1 d2 g2 s2 a b c:Value):Org:=⟨⟨#[84,119,111]⟩,a,[⟨⟨#[65]⟩,⟨#[79,112,101,110]⟩,8,1,36,v1,List.replicate 13 0⟩,⟨⟨#[66]⟩,⟨#[79,112,101,110]⟩,8,1,36,v2,List.replicate 13 0⟩],b,
 [⟨⟨#[71,114,101,97,116]⟩,false,36,48,s1,[⟨⟨#[80,114,105,110,99,105,112,97,108,95,56]⟩,8,1,g1,[⟨36,48,d1,[⟨0,0⟩]⟩]⟩]⟩,⟨⟨#[67,104,111,105,114]⟩,false,36,48,s2,[⟨⟨#[70,108,117,116,101,95,56]⟩,8,1,g2,[⟨36,48,d2,[⟨1,0⟩]⟩]⟩]⟩],c,[⟨⟨#[67,104,111,105,114,95,116,111,95,71,114,101,97,116]⟩,0,1,0,false⟩]⟩
def snT(v1 v2 d1 g1 s1 d2 g2 s2 a b c sv kv:Value):Sn:=⟨exT v1 v2 d1 g1 s1 d2 g2 s2 a b c,sv,⟨[1,1],1,0⟩,kv,[lF [40],(0,0)],(1,4)⟩
theorem b9t(hG:Glob gH H):Fn prog 38 [] H fun r H'=>∃v1 v2 d1 g1 s1 d2 g2 s2 a b c sv kv,r=(snT v1 v2 d1 g1 s1 d2 g2 s2 a b c sv kv).v∧(snT v1 v2 d1 g1 s1 d2 g2 s2 a b c sv kv).In H'∧St prog H H' []:=by
 refine .dr func38 rfl (by kernel_rfl) (m:=35) rfl fun l hn=> ?_
 simp(disch:=omega) only[↓RA,RZ,simprocAttr]
 refine(sR H).eNew 10 [(.string ⟨#[]⟩),(.slice none 0 0),(.slice none 0 0),(.slice none 0 0),(.slice none 0 0),(.int .u64 0),(.int .u64 0),(.slice none 0 0),I 0,I 0] rfl rfl rfl oI fun A1 H1 hS1=> ?_
 simp only[RT]at hS1
 simp(disch:=omega) only[↓RA,RZ,simprocAttr,a2b]
 refine hS1.eNew 2 [I 0,I 0] rfl rfl rfl rI fun A2 H2 hS2=> ?_
 simp only[RT]at hS2
 simp(disch:=omega) only[↓RA,RB,simprocAttr,hn]
 refine hS2.ab 1 rfl [I 36,I 48] rfl rfl rI (by simp) fun H3 hS3=> ?_
 simp only[RT]at hS3
 simp(disch:=omega) only[↓RA,RZ,simprocAttr,hn]
 refine jI (a8l _) ?_
 rintro r H4⟨v1,rfl,hT1⟩
 have hS4:=hS3.trans hT1
 simp only[RT]at hS4
 simp(disch:=omega) only[↓RA,RZ,simprocAttr,hn]
 refine jI (a8l _) ?_
 rintro r H5⟨v2,rfl,hT2⟩
 have hS5:=hS4.trans hT2
 simp only[RT]at hS5
 simp(disch:=omega) only[↓RA,RB,simprocAttr,hn]
 refine hS5.ai [(.string ⟨#[65]⟩),(.string ⟨#[79,112,101,110]⟩),I 8,I 1,I 36,v1,(.string ⟨#[66]⟩),(.string ⟨#[79,112,101,110]⟩),I 8,I 1,I 36,v2] b2A c5l rfl rfl (by first|(simp[];done)|simp[Value.cells]) (by first|(simp[];done)|simp[Value.cells]) (by simp[OC,(hS5.rd 2 rfl).cells.2.1,(hS5.rd 3 rfl).cells.2.1]) (by decide) (by decide) fun w1 H6 hS6=> ?_
 simp only[RT]at hS6
 simp(disch:=omega) only[↓RA,RZ,simprocAttr,hn]
 refine jI (a3A _ _ 0 A2 (hS6.var 1 rfl)) ?_
 rintro r H7⟨d1,g1,s1,rfl,hT3⟩
 have hS7:=hS6.trans hT3
 simp only[RT]at hS7
 simp(disch:=omega) only[↓RA,RZ,simprocAttr,hn]
 refine jI (a3A _ _ 1 A2 (hS7.var 1 rfl)) ?_
 rintro r H8⟨d2,g2,s2,rfl,hT4⟩
 have hS8:=hS7.trans hT4
 simp only[RT]at hS8
 simp(disch:=omega) only[↓RA,RB,simprocAttr,hn]
 refine hS8.ai [(.string ⟨#[71,114,101,97,116]⟩),(.bool false),I 36,I 48,s1,(.string ⟨#[67,104,111,105,114]⟩),(.bool false),I 36,I 48,s2] b0w c6f rfl rfl (by first|(simp[];done)|simp[Value.cells]) (by first|(simp[];done)|simp[Value.cells]) (by simp[OC,(hS8.rd 7 rfl).cells.2.1,(hS8.rd 10 rfl).cells.2.1]) (by decide) (by decide) fun w2 H9 hS9=> ?_
 simp only[RT]at hS9
 simp(disch:=omega) only[↓RA,RB,simprocAttr,hn,a7S]
 refine hS9.ai [(.string ⟨#[67,104,111,105,114,95,116,111,95,71,114,101,97,116]⟩),I 0,I 1,I 0,(.bool false)] a1f b5c rfl rfl (by simp[Value.cells]) rfl rfl (by decide) (by decide) fun w3 H10 hS10=> ?_
 simp only[RT]at hS10
 simp(disch:=omega) only[↓RA,RZ,simprocAttr,hn,a6C (hS10.rd 4 rfl).cells (hS10.rd 11 rfl).cells (hS10.rd 12 rfl).cells]
 refine hS10.eNew 4 [(.string ⟨#[]⟩),(.slice none 0 0),(.slice none 0 0),(.slice none 0 0)] rfl rfl rfl tO fun A3 H11 hS11=> ?_
 simp only[RT]at hS11
 simp(disch:=omega) only[↓RA,RB,simprocAttr,hn]
 refine hS11.ab 13 rfl [(.string ⟨#[84,119,111]⟩),w1,w2,w3] rfl (by simp[OC,(hS11.rd 4 rfl).cells.2.1,(hS11.rd 11 rfl).cells.2.1,(hS11.rd 12 rfl).cells.2.1]) tO (by simp) fun H12 hS12=> ?_
 simp only[RT]at hS12
 simp(disch:=omega) only[↓RA,RB,simprocAttr]
 refine hS12.ai [I 40] qK wM rfl rfl (by simp[Value.cells]) rfl rfl (by decide) (by decide) fun w4 H13 hS13=> ?_
 simp only[RT]at hS13
 simp(disch:=omega) only[↓RA,RZ,simprocAttr,hn]
 refine hS13.cF (yV [40] (by intro z hz;rw[dZ.1 hz];unfold isN;omega) w4 (hS13.av 14 rfl (mC _)) (by decide)) fun H14 hS14=> ?_
 simp(disch:=omega) only[↓RA,RZ,simprocAttr,hn]
 refine hS14.eNew 2 [(.int .u64 0),(.int .u64 0)] rfl rfl rfl pH fun A4 H15 hS15=> ?_
 simp only[RT]at hS15
 simp(disch:=omega) only[↓RA,RB,simprocAttr,hn]
 refine hS15.ab 15 rfl [(.int .u64 (lF [40]).1),(.int .u64 (lF [40]).2)] rfl rfl pH (by simp) fun H16 hS16=> ?_
 simp only[RT]at hS16
 simp(disch:=omega) only[↓RA,RZ,simprocAttr,hn,hS16.aj 13 rfl]
 refine hS16.ai [(.int .u64 1),(.int .u64 1)] c6b c9r rfl rfl (by simp[Value.cells]) rfl rfl (by decide) (by decide) fun w5 H17 hS17=> ?_
 simp only[RT]at hS17
 simp(disch:=omega) only[↓RA,RZ,simprocAttr,hn,b8a (hS17.rd 16 rfl).cells,hS17.aj 15 rfl,b7b]
 refine hS17.ai [(.int .u64 (lF [40]).1),(.int .u64 (lF [40]).2),(.int .u64 0),(.int .u64 0)] b2u c1H rfl rfl (by simp[Value.cells]) rfl rfl (by decide) (by decide) fun w6 H18 hS18=> ?_
 simp only[RT]at hS18
 simp(disch:=omega) only[↓RA,RB,simprocAttr,hn,a7Z,a6X (hS18.rd 4 rfl).cells (hS18.rd 11 rfl).cells (hS18.rd 12 rfl).cells (hS18.rd 16 rfl).cells (hS18.rd 17 rfl).cells]
 refine hS18.ab 0 rfl [(.string ⟨#[84,119,111]⟩),w1,w2,w3,w5,(.int .u64 1),(.int .u64 0),w6,I 1,I 4] rfl (by simp[OC,(hS18.rd 4 rfl).cells.2.1,(hS18.rd 11 rfl).cells.2.1,(hS18.rd 12 rfl).cells.2.1,(hS18.rd 16 rfl).cells.2.1,(hS18.rd 17 rfl).cells.2.1]) oI (by simp) fun H19 hS19=> ?_
 simp only[RT]at hS19
 simp(disch:=omega) only[↓RA,RZ,simprocAttr,hn,d1g,hS19.aj 0 rfl]
 have h1:Sl 1 (one I) H19 v1 (List.replicate 13 0):=hS19.av 2 rfl (fun _=>rfl)
 have h2:Sl 1 (one I) H19 v2 (List.replicate 13 0):=hS19.av 3 rfl (fun _=>rfl)
 have h3:Sl 2 Drw.cells H19 d1 [⟨0,0⟩]:=hS19.av 5 rfl (fun _=>rfl)
 have h4:Sl 3 Seg.cells H19 g1 [⟨36,48,d1,[⟨0,0⟩]⟩]:=hS19.av 6 rfl (fun _=>rfl)
 have h5:Sl 4 Stp.cells H19 s1 [⟨⟨#[80,114,105,110,99,105,112,97,108,95,56]⟩,8,1,g1,[⟨36,48,d1,[⟨0,0⟩]⟩]⟩]:=hS19.av 7 rfl (fun _=>rfl)
 have h6:Sl 2 Drw.cells H19 d2 [⟨1,0⟩]:=hS19.av 8 rfl (fun _=>rfl)
 have h7:Sl 3 Seg.cells H19 g2 [⟨36,48,d2,[⟨1,0⟩]⟩]:=hS19.av 9 rfl (fun _=>rfl)
 have h8:Sl 4 Stp.cells H19 s2 [⟨⟨#[70,108,117,116,101,95,56]⟩,8,1,g2,[⟨36,48,d2,[⟨1,0⟩]⟩]⟩]:=hS19.av 10 rfl (fun _=>rfl)
 have h9:Sl 6 Rk.cells H19 w1 (exT v1 v2 d1 g1 s1 d2 g2 s2 w1 w2 w3).ranks:=hS19.av 4 rfl (fun _=>rfl)
 have h10:Sl 5 Dvn.cells H19 w2 (exT v1 v2 d1 g1 s1 d2 g2 s2 w1 w2 w3).dvs:=hS19.av 11 rfl (fun _=>rfl)
 have h11:Sl 5 Cpl.cells H19 w3 (exT v1 v2 d1 g1 s1 d2 g2 s2 w1 w2 w3).cpls:=hS19.av 12 rfl (fun _=>rfl)
 have h12:Sl 1 (one u64) H19 w5 ([1,1]:List Nat):=hS19.av 16 rfl (fun _=>rfl)
 have h13:Sl 2 ntc H19 w6 [lF [40],(0,0)]:=hS19.av 17 rfl (fun _=>rfl)
 have hRo:(⟨[1,1],1,0⟩:Reg).Ok:=⟨by decide,by decide,by decide,by decide⟩
 have hKo:∀x∈([lF [40],(0,0)]:List Nt),Nt.Ok x:=by
  intro x hx
  simp only[eJ,eO,or_false]at hx
  rcases hx with rfl|rfl<;>exact⟨by decide,by decide⟩
 refine⟨v1,v2,d1,g1,s1,d2,g2,s2,w1,w2,w3,w5,w6,rfl,⟨⟨h9,?_,h10,?_,h11,by simp[snT,exT],by simp[snT,exT],by simp[snT,exT]⟩,⟨h12,hRo⟩,⟨h13,by simp[snT],hKo⟩⟩,hS19.forget⟩
 ·intro r hr
  simp only[snT,exT,eJ,eO,or_false]at hr
  rcases hr with rfl|rfl
  ·exact⟨h1,by simp⟩
  ·exact⟨h2,by simp⟩
 ·intro d hd
  simp only[snT,exT,eJ,eO,or_false]at hd
  rcases hd with rfl|rfl
  ·exact⟨h5,fun s hs=>by rw[dZ.1 hs];exact⟨h4,fun g hg=>by rw[dZ.1 hg];exact⟨h3,by simp⟩,by simp⟩,by simp⟩
  ·exact⟨h8,fun s hs=>by rw[dZ.1 hs];exact⟨h7,fun g hg=>by rw[dZ.1 hg];exact⟨h6,by simp⟩,by simp⟩,by simp⟩
section
variable (v1 v2 d1 g1 s1 d2 g2 s2 a b c sv kv:Value)
theorem c4K:tT (snT v1 v2 d1 g1 s1 d2 g2 s2 a b c sv kv)=0:=by kernel_rfl
theorem c2y:a4J (snT v1 v2 d1 g1 s1 d2 g2 s2 a b c sv kv)=some ((0,40),[0],(1,40)):=by kernel_rfl
theorem c2Q:mT (snT v1 v2 d1 g1 s1 d2 g2 s2 a b c sv kv) (1,40)=[0]:=by kernel_rfl
theorem b3w:a9c (snT v1 v2 d1 g1 s1 d2 g2 s2 a b c sv kv)=[⟨(0,40),[0],(1,40),0⟩]:=by kernel_rfl
theorem c5O(cv:Value):vfE (snT v1 v2 d1 g1 s1 d2 g2 s2 a b c sv kv) ⟨(0,40),cv,[0],(1,40),0⟩=0:=by kernel_rfl
theorem b4J(cv:Value):a6u (snT v1 v2 d1 g1 s1 d2 g2 s2 a b c sv kv) ⟨(0,40),cv,[0],(1,40),0⟩=[exA,exB]:=by kernel_rfl
theorem b9O(cv:Value):a5y (snT v1 v2 d1 g1 s1 d2 g2 s2 a b c sv kv) ⟨(0,40),cv,[0],(1,40),0⟩ ⟨exJ.toArray⟩=⟨#[71,114,101,97,116,32,69,50,44,32,67,104,111,105,114,95,116,111,95,71,114,101,97,116,32,116,111,32,67,104,111,105,114,32,69,50,58,32,70,108,117,116,101,95,56]⟩:=by kernel_rfl
theorem a9E:wD (snT v1 v2 d1 g1 s1 d2 g2 s2 a b c sv kv)=0:=by
 unfold wD
 rw[c4K,if_neg (by decide),b3w,if_neg (by decide)]
theorem b3Y:rB (snT v1 v2 d1 g1 s1 d2 g2 s2 a b c sv kv)=[⟨(0,40),[0],(1,40),0⟩]:=by
 unfold rB
 rw[a9E,if_pos rfl,b3w]
 simp
theorem b3b:oA ⟨(0,40),[0],(1,40),0⟩=[⟨1,1,0⟩,⟨2,0,0⟩]:=by
 unfold oA a0e
 exact a5h (by
  refine .cons (fun x hx=> ?_) (.cons (fun x hx=>(by cases hx)) .nil)
  simp only[eK,gn,dZ]at hx
  subst hx
  unfold yY
  kernel_rfl)
theorem b8f:rL (snT v1 v2 d1 g1 s1 d2 g2 s2 a b c sv kv)=[⟨1,1,0⟩,⟨2,0,0⟩]:=by
 unfold rL
 rw[b3Y,ed,fx,dQ,←b3b]
 unfold oA
 exact a5h (b8v _)
theorem c1s:zN (snT v1 v2 d1 g1 s1 d2 g2 s2 a b c sv kv)=0∧a1L (snT v1 v2 d1 g1 s1 d2 g2 s2 a b c sv kv)=some [⟨1,1,0⟩]:=by
 have hE:zN (snT v1 v2 d1 g1 s1 d2 g2 s2 a b c sv kv)=0:=by
  unfold zN
  rw[a9E,if_neg (by decide),b8f,if_neg (by decide)]
 refine⟨hE,?_⟩
 unfold a1L a8Z
 rw[hE,b3Y,b8f,if_neg (by simp),eK,gn,b3b]
 kernel_rfl
end
theorem a4j(hG:Glob gH H):Fn prog 10 [] H fun r H'=>r=.bool true∧St prog H H' []:=by
 refine .dr func10 rfl (by kernel_rfl) (m:=61) rfl fun l hn=> ?_
 simp(disch:=omega) only[↓RA,RZ,simprocAttr]
 refine jI ((b9t ((sR H).gl hG)).mono fun _ _⟨v1,v2,d1,g1,s1,d2,g2,s2,a,b,c,sv,kv,h1,h2,h3⟩=>(⟨_,h1,⟨v1,v2,d1,g1,s1,d2,g2,s2,a,b,c,sv,kv,rfl⟩,h2,h3⟩:∃s:Sn,_=s.v∧(∃v1 v2 d1 g1 s1 d2 g2 s2 a b c sv kv,s=snT v1 v2 d1 g1 s1 d2 g2 s2 a b c sv kv)∧s.In _∧St prog _ _ [])) ?_
 rintro r H1⟨s,rfl,⟨v1,v2,d1,g1,s1,d2,g2,s2,a,b,c,sv,kv,hse⟩,hs,hT1⟩
 have hS1:=(sR H).trans hT1
 simp only[RT]at hS1
 have q1:tT s=0:=by subst hse;exact c4K ..
 have q2:a4J s=some ((0,40),[0],(1,40)):=by subst hse;exact c2y ..
 have q3:∀cv,b6l s (a4J s) cv=⟨(0,40),cv,[0],(1,40),0⟩:=fun cv=>by
  rw[q2]
  unfold b6l
  simp only
  rw[show mT s (1,40)=[0]from by subst hse;exact c2Q ..]
  rfl
 have q4:∀cv,vfE s ⟨(0,40),cv,[0],(1,40),0⟩=0:=fun cv=>by subst hse;exact c5O ..
 have q5:∀cv,a6u s ⟨(0,40),cv,[0],(1,40),0⟩=[exA,exB]:=fun cv=>by subst hse;exact b4J ..
 have q6:∀cv,a5y s ⟨(0,40),cv,[0],(1,40),0⟩ ⟨exJ.toArray⟩=⟨#[71,114,101,97,116,32,69,50,44,32,67,104,111,105,114,95,116,111,95,71,114,101,97,116,32,116,111,32,67,104,111,105,114,32,69,50,58,32,70,108,117,116,101,95,56]⟩:=fun cv=>by subst hse;exact b9O ..
 have q7:zN s=0∧a1L s=some [⟨1,1,0⟩]:=by subst hse;exact c1s ..
 have q8:∀cv,b2z s ⟨(0,40),cv,[0],(1,40),0⟩ ⟨exJ.toArray⟩=⟨#[71,114,101,97,116,32,69,50,44,32,67,104,111,105,114,95,116,111,95,71,114,101,97,116,32,116,111,32,67,104,111,105,114,32,69,50,58,32,70,108,117,116,101,95,56]⟩:=fun cv=>by unfold b2z;rw[if_pos (q4 cv),q6]
 clear hse
 have hS0:=hS1
 have hG2:=hS0.gl hG
 simp(disch:=omega) only[↓RA,RZ,simprocAttr]
 refine(sR H1).eNew 10 [(.string ⟨#[]⟩),(.slice none 0 0),(.slice none 0 0),(.slice none 0 0),(.slice none 0 0),(.int .u64 0),(.int .u64 0),(.slice none 0 0),I 0,I 0] rfl rfl rfl oI fun A1 H2 hS2=> ?_
 simp only[RT]at hS2
 simp(disch:=omega) only[↓RA,RB,simprocAttr,hn]
 refine hS2.ab 0 rfl [(.string s.o.name),s.o.rv,s.o.dv,s.o.cv,s.sv,(.int .u64 s.rg.cpl),(.int .u64 s.rg.off),s.kv,I s.p.1,I s.p.2] rfl (by simp[OC,(hS2.sl hs.o.1).cells.2.1,(hS2.sl hs.o.2.2.1).cells.2.1,(hS2.sl hs.o.2.2.2.2.1).cells.2.1,(hS2.sl hs.rg.1).cells.2.1,(hS2.sl hs.ks.sl).cells.2.1]) oI (by simp) fun H3 hS3=> ?_
 simp only[RT]at hS3
 simp(disch:=omega) only[↓RA,RZ,simprocAttr,hn,hS3.aj 0 rfl]
 have hL:=b9N (hS3.gl hG2) s (hs.ag hS3)
 simp only[q3,q1]at hL
 rw[q2]at hL
 simp only[Option.isSome_some]at hL
 refine jI (hL) ?_
 rintro r H4⟨cv,rfl,hT2⟩
 have hS4:=hS3.trans hT2
 simp only[RT]at hS4
 simp(disch:=omega) only[↓RA,RZ,simprocAttr,hn]
 refine hS4.eNew 6 [I 0,I 0,(.slice none 0 0),I 0,I 0,I 0] rfl rfl rfl nW fun A2 H5 hS5=> ?_
 simp only[RT]at hS5
 simp(disch:=omega) only[↓RA,RB,simprocAttr,hn]
 refine hS5.ab 2 rfl [I 0,I 40,cv,I 1,I 40,I 0] rfl (by simp[OC,(hS5.rd 1 rfl).cells.2.1]) nW (by simp) fun H6 hS6=> ?_
 simp only[RT]at hS6
 simp(disch:=omega) only[↓RA,RZ,simprocAttr,hn,hS6.aj 0 rfl,hS6.aj 2 rfl]
 have hT:=c3N (hS6.gl hG2) s (hs.ag hS6) ⟨(0,40),cv,[0],(1,40),0⟩ ⟨hS6.av 1 rfl (fun _=>rfl),by simp⟩ (by simp) ⟨exJ.toArray⟩ (by decide) (fun _=>by rw[q5];exact c5k)
 rw[q8,q4]at hT
 refine hS6.cF (hT) fun H7 hS7=> ?_
 simp(disch:=omega) only[↓RA,RZ,simprocAttr,hn,hS7.aj 0 rfl]
 have hQ:=b0U (hS7.gl hG2) s (hs.ag hS7)
 rw[q7.1,q7.2]at hQ
 simp only[Option.isSome_some,eE]at hQ
 refine jI (hQ) ?_
 rintro r H8⟨lv,rfl,hT4⟩
 have hS8:=hS7.trans hT4
 simp only[RT]at hS8
 simp(disch:=omega) only[↓RA,RZ,simprocAttr,hn]
 simp(disch:=omega) only[↓RA,RZ,simprocAttr,hn,(hS8.av 3 rfl (fun _=>rfl)).len]
 have hlx:Sl 3 Ctl.cells H8 lv [⟨1,1,0⟩]:=hS8.av 3 rfl (fun _=>rfl)
 have hid:∀t,wI (some 3) prog t lv (.int .i64 0)=some (kR lv 3 0 0):=fun t=>hlx.idx t .i64 0 (by decide) (by decide)
 have hlA:oU (some true) (some 3) H8 (kR lv 3 0 0)=some (.agg #[I 1,I 1,I 0]):=hlx.aj 0 (by decide)
 simp(disch:=omega) only[↓RA,RZ,simprocAttr,hn,b8k,d0J,hid,hlA]
 exact hS0.trans hS8.forget
end Go.Ds
namespace Go.Ds
open Go.Proofs Go.Proofs.Tryz
variable {H:Heap}
set_option maxRecDepth 10000
def nbL(L:Nat)(vs:List Value):Nat→Prop:=fun B=>nb vs B∧L≤B
theorem Kept.bL{H H':Heap}{vs vs':List Value}(L:Nat)(h:Kept H (nb vs) H' (nb vs')):Kept H (nbL L vs) H' (nbL L vs'):=fun B hX hB=>⟨(h B hX.1 hB).1,(h B hX.1 hB).2,hX.2⟩
theorem Kept.dx{H H':Heap}{Lc:Nat}{vs':List Value}{L:Nat}(hl:L≤Lc)(h:Kept H (fun B=>Lc≤B) H' (nb vs')):Kept H (fun B=>Lc≤B) H' (nbL L vs'):=fun B hX hB=>⟨(h B hX hB).1,(h B hX hB).2,eh hl hX⟩
theorem Slx.both{α:Type}{n:Nat}{cel:α→List Value}{v:Value}{xs:List α}{X Y:Nat→Prop}(h:Slx n cel H X v xs)(h2:Slx n cel H Y v xs):Slx n cel H (fun B=>X B∧Y B) v xs:=⟨h.1,fun B hb=>⟨h.2 B hb,h2.2 B hb⟩⟩
theorem Kept.snd{H:Heap}{vs:List Value}{L:Nat}:Kept H (nbL L vs) H (fun B=>L≤B):=fun B hX _=>⟨rfl,hX.2⟩
structure Org.Ix(H:Heap)(X:Nat→Prop)(o:Org):Prop where
 rs:Slx 6 Rk.cells H X o.rv o.ranks
 ri:∀r∈o.ranks,r.Ix H X
 ds:Slx 5 Dvn.cells H X o.dv o.dvs
 di:∀d∈o.dvs,d.Ix H X
 cs:Slx 5 Cpl.cells H X o.cv o.cpls
 rl:o.ranks.length<1000000000
 dl:o.dvs.length<1000000000
 cl:o.cpls.length<1000000000
theorem Org.Ix.step{H H':Heap}{X Y:Nat→Prop}{o:Org}(h:o.Ix H X)(hk:Kept H X H' Y):o.Ix H' Y:=⟨h.rs.step hk,fun r hr=>(h.ri r hr).step hk,h.ds.step hk,fun d hd=>(h.di d hd).step hk,h.cs.step hk,h.rl,h.dl,h.cl⟩
theorem Org.Ix.in{H:Heap}{X:Nat→Prop}{o:Org}(h:o.Ix H X):o.In H:=⟨h.rs.1,fun r hr=>(h.ri r hr).in,h.ds.1,fun d hd=>(h.di d hd).in,h.cs.1,h.rl,h.dl,h.cl⟩
theorem b2s(hG:Glob gH H)(p:Pln)(hp:p.In H)(hk:p.Ok)(hf:rV p=true):Fn prog 43 [.agg #[p.rv,p.dv,p.cv]] H fun r H'=>
 ∃o:Org,r=.agg #[.string o.name,o.rv,o.dv,o.cv]∧o.Ix H' (fun B=>H.length≤B)∧Made p o∧St prog H H' []:=by
 have hl1:=hp.2.2.2.2.1
 have hl2:=hp.2.2.2.2.2.1
 have hl3:=hp.2.2.2.2.2.2
 unfold rV at hf
 simp only[dB,decide_eq_true_eq,dT]at hf
 obtain⟨⟨⟨⟨⟨f1,f2⟩,f3⟩,f4⟩,f5⟩,f6⟩:=hf
 refine .aL func43 rfl (by kernel_rfl) (m:=153) rfl fun l hn g0=> ?_
 simp(disch:=omega) only[↓RA,RB,simprocAttr,g0]
 refine(sR H).eNew 3 [p.rv,p.dv,p.cv] rfl rfl (by simp[((sR H).sl hp.1).cells.2.1,((sR H).sl hp.2.1).cells.2.1,((sR H).sl hp.2.2.2.1).cells.2.1]) b6O fun A1 H1 hS1=> ?_
 simp only[RT]at hS1
 simp(disch:=omega) only[↓RA,RZ,simprocAttr]
 refine hS1.eNew 4 [(.string ⟨#[]⟩),(.slice none 0 0),(.slice none 0 0),(.slice none 0 0)] rfl rfl rfl tO fun A2 H2 hS2=> ?_
 simp only[RT]at hS2
 simp(disch:=omega) only[↓RA,RZ,simprocAttr,c4V]
 refine hS2.eNew 4 [(.string ⟨#[]⟩),(.slice none 0 0),(.slice none 0 0),(.slice none 0 0)] rfl rfl rfl tO fun A3 H3 hS3=> ?_
 simp only[RT]at hS3
 simp(disch:=omega) only[↓RA,RB,simprocAttr,hn]
 refine hS3.ab 2 rfl [(.string ⟨#[79,114,103,97,110]⟩),(.slice none 0 0),(.slice none 0 0),(.slice none 0 0)] rfl rfl tO (by simp) fun H4 hS4=> ?_
 simp only[RT]at hS4
 simp(disch:=omega) only[↓RA,RB,simprocAttr]
 have hS5:=hS4.nil 5
 simp only[RT]at hS5
 refine Wp.aq (fun n l H'=>l.length=153∧get l 1=(ptr A1 0 3)∧get l 2=(ptr A2 0 4)∧get l 3=(ptr A3 0 4)∧∃(i:Nat)(rks:List Rk)(rv:Value),(n+i=p.ranks.length∧rks.length=i∧(∀j,j<rks.length→RkOk j (jB rks j))∧∀r∈rks,r.Ix H' (nbL H.length [ptr A1 0 3,ptr A2 0 4,ptr A3 0 4,rv]))∧get l 4=I i∧St prog H H' [⟨ptr A1 0 3,0,[p.rv,p.dv,p.cv]⟩,⟨ptr A2 0 4,0,[(.string ⟨#[]⟩),(.slice none 0 0),(.slice none 0 0),(.slice none 0 0)]⟩,⟨ptr A3 0 4,0,[.string ⟨#[79,114,103,97,110]⟩,rv,.slice none 0 0,.slice none 0 0]⟩,⟨rv,6,rks.flatMap Rk.cells⟩]) p.ranks.length ?_ ?_
 ·simp(disch:=omega) only[RB,RC,simprocAttr,hn]
  exact⟨0,[],.slice none 0 0,⟨by omega,rfl,fun j hj=>absurd hj (ez _),by simp⟩,rfl,hS5⟩
 rintro n l H5⟨hn,g1,g2,g3,i,rks,rv,⟨hi,hrl,hro,hrx⟩,g4,hS6⟩
 simp(disch:=omega) only[↓RA,RZ,simprocAttr,hn,g1,g4,hS6.ld 0 rfl,(hS6.sl hp.1).len]
 refine jA (fun q1=> ?_) (fun q1=> ?_)
 ·obtain⟨B,hBB,hS7⟩:=hS6.aB (os:=[⟨ptr A1 0 3,0,_⟩,⟨ptr A2 0 4,0,_⟩,⟨ptr A3 0 4,0,_⟩,⟨rv,6,_⟩])
  simp(disch:=omega) only[↓RA,RC,simprocAttr,q1]
  refine Wp.aF kS [(1,9),(1,10)] (by kernel_rfl) (by kernel_rfl) ?_
  simp(disch:=omega) only[↓RA,RZ,simprocAttr,hn,g1,g3,g4,hS7.ld 2 rfl,hS7.ld 0 rfl,((hS6.ae hBB hS7).sl hp.1).idx,((hS6.ae hBB hS7).sl hp.1).aj,RPl.cells]
  refine jI (b5r (jB p.ranks i) (hk.1 _ (jE (by omega))) i (by omega)) ?_
  rintro r H6⟨wv,rfl,hT1⟩
  have hS8:=hS7.trans hT1
  simp only[RT]at hS8
  have hwe:(List.range (1+(jB p.ranks i).pipes%25)).map (fun j=>I ((jB p.ranks i).wind j))=((List.range (1+(jB p.ranks i).pipes%25)).map fun j=>(((jB p.ranks i).wind j:Nat):Int)).flatMap (one I):=by rw[mQ,iE];rfl
  rw[hwe]at hS8
  simp(disch:=omega) only[↓RA,RB,simprocAttr,hn]
  refine hS8.ai [(.string ⟨#[82,UInt8.ofNat (48+i)]⟩),(.string (jB vX ((jB p.ranks i).tone%3))),I (jB nQ ((jB p.ranks i).feet%16)).1,I (jB nQ ((jB p.ranks i).feet%16)).2,I (jB p.ranks i).first,wv] b2A c5l rfl rfl (by first|(simp[];done)|simp[Value.cells]) (by first|(simp[];done)|simp[Value.cells]) (by simp[OC,(hS8.rd 4 rfl).cells.2.1]) (by decide) (by decide) fun w1 H7 hS9=> ?_
  simp only[RT]at hS9
  simp(disch:=omega) only[↓RA,RZ,simprocAttr,hn]
  refine hS9.al 3 rfl (hS9.rd 5 rfl) b2A (by rw[jF (n:=6) (cel:=Rk.cells) (fun _=>rfl)];simp;omega) fun w2 H8 hS10=> ?_
  simp only[RT]at hS10
  simp(disch:=omega) only[↓RA,RZ,simprocAttr,hn,g3]
  refine hS10.ab 2 rfl [w2] (by rw[(hS10.rd 3 rfl).cells.1]) (by simp[(hS10.rd 3 rfl).cells.2.1]) c0L (by simp) fun H9 hS11=> ?_
  simp only[RT]at hS11
  simp(disch:=omega) only[↓RA,RZ,simprocAttr,hn,g1,g2,g3,g4,hS8.ld 2 rfl,hS9.ld 2 rfl]
  have hxn:=(hS6.ae hBB hS11).bN (cel:=one I) 4 rfl (fun _=>rfl)
  have hxw:=(hS11.cB (cel:=one I) (os':=[⟨ptr A1 0 3,0,_⟩,⟨ptr A2 0 4,0,_⟩,⟨ptr A3 0 4,0,_⟩,⟨w2,6,_⟩]) 4 rfl (fun _=>rfl) [0,1,2,3] (by decide) rfl).both hxn
  have hS12:=hS11.pick (os':=[⟨ptr A1 0 3,0,_⟩,⟨ptr A2 0 4,0,_⟩,⟨ptr A3 0 4,0,_⟩,⟨w2,6,_⟩]) [0,1,2,3] (by decide) rfl
  have hkp:=(hS12.kept hBB).bL H.length
  have hpo:=hk.1 _ (jE (xs:=p.ranks) (j:=i) (by omega))
  have hro1:RkOk rks.length ⟨nm 82 i,jB vX ((jB p.ranks i).tone%3),(jB nQ ((jB p.ranks i).feet%16)).1,(jB nQ ((jB p.ranks i).feet%16)).2,(jB p.ranks i).first,wv,(List.range (1+(jB p.ranks i).pipes%25)).map fun j=>(((jB p.ranks i).wind j:Nat):Int)⟩:=by
   refine⟨by rw[hrl],jE (eU _ (by decide)),jE (eU _ (by decide)),⟨hpo.2.2.1,hpo.2.2.2.1⟩,by simp;omega,by simp;omega,?_⟩
   intro x hx
   obtain⟨j,_,rfl⟩:=dX.1 hx
   have:=hpo.wind j
   omega
  refine⟨n-1,by omega,i+1,rks++[_],w2,⟨by omega,by simp[hrl],xT hro hro1,a7i (fun r hr=>(hrx r hr).step hkp) ⟨hxw,by simp;omega⟩⟩,by simp,?_⟩
  rw[tY]
  exact(hS6.ae hBB hS12)
 simp(disch:=omega) only[↓RA,RZ,simprocAttr,q1]
 have hri:rks.length=p.ranks.length:=by omega
 obtain⟨C,hBC,hS13⟩:=hS6.aB (os:=[⟨ptr A1 0 3,0,_⟩,⟨ptr A2 0 4,0,_⟩,⟨ptr A3 0 4,0,_⟩,⟨rv,6,_⟩])
 have hS14:=hS13.nil 4
 simp only[RT]at hS14
 refine Wp.aq (fun n l H'=>l.length=153∧get l 1=(ptr A1 0 3)∧get l 2=(ptr A2 0 4)∧get l 3=(ptr A3 0 4)∧∃(m:Nat)(dvs:List Dvn)(dv:Value),(n+m=p.dvs.length∧dvs.length=m∧(∀j,j<dvs.length→DvOk rks.length j (jB dvs j)∧(jB dvs j).stops.length=(jB p.dvs j).stops.length)∧∀d∈dvs,d.Ix H' (nbL H.length [ptr A1 0 3,ptr A2 0 4,ptr A3 0 4,rv,dv]))∧get l 5=I m∧St prog C H' [⟨ptr A1 0 3,0,[p.rv,p.dv,p.cv]⟩,⟨ptr A2 0 4,0,[(.string ⟨#[]⟩),(.slice none 0 0),(.slice none 0 0),(.slice none 0 0)]⟩,⟨ptr A3 0 4,0,[.string ⟨#[79,114,103,97,110]⟩,rv,dv,.slice none 0 0]⟩,⟨rv,6,rks.flatMap Rk.cells⟩,⟨dv,5,dvs.flatMap Dvn.cells⟩]) p.dvs.length ?_ ?_
 ·simp(disch:=omega) only[RB,RC,simprocAttr,hn,g1,g2,g3]
  exact⟨0,[],.slice none 0 0,⟨by omega,rfl,fun j hj=>absurd hj (ez _),by simp⟩,rfl,hS14⟩
 rintro n l H10⟨hn,g1,g2,g3,m,dvs,dv,⟨hm,hdl,hdo,hdx⟩,g5,hS15⟩
 simp(disch:=omega) only[↓RA,RZ,simprocAttr,hn,g1,g5,hS15.ld 0 rfl,((hS6.ae hBC hS15).sl hp.2.1).len]
 refine jA (fun q2=> ?_) (fun q2=> ?_)
 ·have hbk:=hk.2.1 _ (jE (xs:=p.dvs) (j:=m) (by omega))
  have hbi:=hp.2.2.1 _ (jE (xs:=p.dvs) (j:=m) (by omega))
  have hb6:=f6 _ (jE (xs:=p.dvs) (j:=m) (by omega))
  have t1:((jB p.dvs m).low:Int).tmod 12=(((jB p.dvs m).low%12:Nat):Int):=(eF _ _).symm
  have t2:((jB p.dvs m).keys:Int).tmod 9=(((jB p.dvs m).keys%9:Nat):Int):=(eF _ _).symm
  have hb1:=hbk.1
  have hb2:=hbk.2.1
  obtain⟨D,hBD,hS16⟩:=hS15.aB (os:=[⟨ptr A1 0 3,0,_⟩,⟨ptr A2 0 4,0,_⟩,⟨ptr A3 0 4,0,_⟩,⟨rv,6,_⟩,⟨dv,5,_⟩])
  simp(disch:=omega) only[↓RA,RZ,simprocAttr,hn,g1,g5,hS16.ld 0 rfl,((hS6.ae hBC (hS15.ae hBD hS16)).sl hp.2.1).idx,((hS6.ae hBC (hS15.ae hBD hS16)).sl hp.2.1).aj,Brd.cells,q2]
  refine hS16.eNew 4 [(.int .u8 0),(.int .u8 0),(.bool false),(.slice none 0 0)] rfl rfl rfl b3p fun A4 H11 hS17=> ?_
  simp only[RT]at hS17
  simp(disch:=omega) only[↓RA,RZ,simprocAttr,hn,q2]
  refine hS17.ab 5 rfl [(.int .u8 (jB p.dvs m).low),(.int .u8 (jB p.dvs m).keys),(.bool (jB p.dvs m).pedal),(jB p.dvs m).sv] rfl (by simp[OC,((hS6.ae hBC (hS15.ae hBD hS17)).sl (hp.2.2.1 (jB p.dvs m) (jE (by omega))).1).cells.2.1]) b3p (by simp) fun H12 hS18=> ?_
  simp only[RT]at hS18
  simp(disch:=omega) only[↓RA,RZ,simprocAttr,hn,g5,hS18.ld 5 rfl,q2,t1]
  refine hS18.ai [_] a2T a3u rfl rfl (by simp[Value.cells]) rfl rfl (by decide) (by decide) fun w3 H13 hS19=> ?_
  simp only[RT]at hS19
  simp(disch:=omega) only[↓RA,RZ,simprocAttr,hn,tW (hS19.rd 6 rfl) mB.1 mB.2.1 mB.2.2,tC,q2]
  simp(disch:=omega) only[↓RA,RZ,simprocAttr,hn,hS19.ld 5 rfl,q2,t2]
  simp(disch:=omega) only[↓RA,RZ,simprocAttr,hn,a2b,a8X,q2]
  refine hS19.eNew 5 [(.string ⟨#[]⟩),(.bool false),I 0,I 0,(.slice none 0 0)] rfl rfl rfl qC fun A5 H14 hS20=> ?_
  simp only[RT]at hS20
  simp(disch:=omega) only[↓RA,RZ,simprocAttr,hn,q2]
  refine hS20.ab 7 rfl [(.string ⟨#[68,UInt8.ofNat (48+(m:Int)).toNat]⟩),(.bool (jB p.dvs m).pedal),I (36+((jB p.dvs m).low%12:Nat)),I (36+((jB p.dvs m).low%12:Nat)+((jB p.dvs m).keys%9:Nat)),(.slice none 0 0)] rfl rfl qC (by simp) fun H15 hS21=> ?_
  simp only[RT]at hS21
  simp(disch:=omega) only[↓RA,RZ,simprocAttr,q2]
  have hS22:=hS21.pick (os':=[⟨ptr A1 0 3,0,_⟩,⟨ptr A2 0 4,0,_⟩,⟨ptr A3 0 4,0,_⟩,⟨rv,6,_⟩,⟨dv,5,_⟩,⟨ptr A4 0 4,0,_⟩,⟨ptr A5 0 5,0,_⟩]) [0,1,2,3,4,5,7] (by decide) rfl
  have hS23:=hS22.nil 3
  simp only[RT]at hS23
  refine Wp.aq (fun n l H'=>l.length=153∧get l 1=(ptr A1 0 3)∧get l 2=(ptr A2 0 4)∧get l 3=(ptr A3 0 4)∧get l 5=I m∧get l 6=(ptr A4 0 4)∧get l 8=(ptr A5 0 5)∧∃(k:Nat)(sts:List Stp)(sv:Value),(n+k=(jB p.dvs m).stops.length∧sts.length=k∧(∀j,j<sts.length→StpOk rks.length (36+((jB p.dvs m).low%12:Nat)) (36+((jB p.dvs m).low%12:Nat)+((jB p.dvs m).keys%9:Nat)) j (jB sts j))∧∀s∈sts,s.Ix H' (nbL H.length [ptr A1 0 3,ptr A2 0 4,ptr A3 0 4,rv,dv,ptr A4 0 4,ptr A5 0 5,sv]))∧get l 9=I k∧St prog D H' [⟨ptr A1 0 3,0,[p.rv,p.dv,p.cv]⟩,⟨ptr A2 0 4,0,[(.string ⟨#[]⟩),(.slice none 0 0),(.slice none 0 0),(.slice none 0 0)]⟩,⟨ptr A3 0 4,0,[.string ⟨#[79,114,103,97,110]⟩,rv,dv,.slice none 0 0]⟩,⟨rv,6,rks.flatMap Rk.cells⟩,⟨dv,5,dvs.flatMap Dvn.cells⟩,⟨ptr A4 0 4,0,[(.int .u8 (jB p.dvs m).low),(.int .u8 (jB p.dvs m).keys),(.bool (jB p.dvs m).pedal),(jB p.dvs m).sv]⟩,⟨ptr A5 0 5,0,[.string ⟨#[68,UInt8.ofNat (48+(m:Int)).toNat]⟩,.bool (jB p.dvs m).pedal,I (36+((jB p.dvs m).low%12:Nat)),I (36+((jB p.dvs m).low%12:Nat)+((jB p.dvs m).keys%9:Nat)),sv]⟩,⟨sv,4,sts.flatMap Stp.cells⟩]) (jB p.dvs m).stops.length ?_ ?_
  ·simp(disch:=omega) only[RB,RC,simprocAttr,hn,g1,g2,g3,g5]
   exact⟨0,[],.slice none 0 0,⟨by omega,rfl,fun j hj=>absurd hj (ez _),by simp⟩,rfl,hS23⟩
  rintro n l H16⟨hn,g1,g2,g3,g5,g6,g8,k,sts,sv,⟨hj,hsl,hso,hsx⟩,g9,hS24⟩
  simp(disch:=omega) only[↓RA,RZ,simprocAttr,hn,g6,g9,hS24.ld 5 rfl,((hS6.ae hBC (hS15.ae hBD hS24)).sl (hp.2.2.1 (jB p.dvs m) (jE (by omega))).1).len]
  refine jA (fun q3=> ?_) (fun q3=> ?_)
  ·obtain⟨E,hBE,hS25⟩:=hS24.aB (os:=[⟨ptr A1 0 3,0,_⟩,⟨ptr A2 0 4,0,_⟩,⟨ptr A3 0 4,0,_⟩,⟨rv,6,_⟩,⟨dv,5,_⟩,⟨ptr A4 0 4,0,_⟩,⟨ptr A5 0 5,0,_⟩,⟨sv,4,_⟩])
   simp(disch:=omega) only[↓RA,RC,simprocAttr,q3]
   refine Wp.aF kS [(1,13),(1,14)] (by kernel_rfl) (by kernel_rfl) ?_
   simp(disch:=omega) only[↓RA,RZ,simprocAttr,hn,g3,g6,g8,g9,hS25.ld 6 rfl,hS25.ld 2 rfl,hS25.aj 6 rfl,hS25.ld 5 rfl,((hS6.ae hBC (hS15.ae hBD (hS24.ae hBE hS25))).sl (hp.2.2.1 (jB p.dvs m) (jE (by omega))).1).idx,((hS6.ae hBC (hS15.ae hBD (hS24.ae hBE hS25))).sl (hp.2.2.1 (jB p.dvs m) (jE (by omega))).1).aj,Pul.cells]
   have hSb:=hS25
   have hSbU:=(hS6.ae hBC (hS15.ae hBD (hS24.ae hBE hS25)))
   refine jI (c3k ((hS6.ae hBC (hS15.ae hBD (hS24.ae hBE hS25))).gl hG) rv rks (hS25.av 3 rfl (fun _=>rfl)) (by omega) (by omega) (fun j hj=>(hro j hj).feet) (36+((jB p.dvs m).low%12:Nat)) (36+((jB p.dvs m).low%12:Nat)+((jB p.dvs m).keys%9:Nat)) (by omega) (by omega) (by omega) (jB (jB p.dvs m).stops k) (hbk.2.2 _ (jE (by omega))) k (by omega)) ?_
   rintro r H17⟨s,rfl,hsx1,hok,hT2⟩
   have hS26:=hS25.trans hT2
   simp only[RT]at hS26
   have hkE:=(hS26.kept hBE).bL H.length
   have hkN:=(hSb.aV (H':=H17)).dx (L:=H.length) hSbU.len
   obtain⟨F,hBF,hS27⟩:=hS26.aB (os:=[⟨ptr A1 0 3,0,_⟩,⟨ptr A2 0 4,0,_⟩,⟨ptr A3 0 4,0,_⟩,⟨rv,6,_⟩,⟨dv,5,_⟩,⟨ptr A4 0 4,0,_⟩,⟨ptr A5 0 5,0,_⟩,⟨sv,4,_⟩])
   simp(disch:=omega) only[↓RA,RB,simprocAttr,hn]
   refine hS27.ai [(.string s.name),I s.num,I s.den,s.gv] a3L b9G rfl rfl (by first|(simp[];done)|simp[Value.cells]) (by first|(simp[];done)|simp[Value.cells]) (by simp[OC,hsx1.1.1.cells.2.1]) (by decide) (by decide) fun w4 H18 hS28=> ?_
   simp only[RT]at hS28
   simp(disch:=omega) only[↓RA,RZ,simprocAttr,hn]
   refine hS28.al 7 rfl (hS28.rd 8 rfl) a3L (by rw[jF (n:=4) (cel:=Stp.cells) (fun _=>rfl)];simp;omega) fun w5 H19 hS29=> ?_
   simp only[RT]at hS29
   simp(disch:=omega) only[↓RA,RZ,simprocAttr,hn,g8]
   refine hS29.ab 6 rfl [w5] (by rw[(hS29.rd 7 rfl).cells.1]) (by simp[(hS29.rd 7 rfl).cells.2.1]) b3o (by simp) fun H20 hS30=> ?_
   simp only[RT]at hS30
   simp(disch:=omega) only[↓RA,RZ,simprocAttr,hn,g1,g2,g3,g5,g6,g8,g9,hS27.ld 6 rfl,hS28.ld 6 rfl]
   have hS31:=hS30.pick (os':=[⟨ptr A1 0 3,0,_⟩,⟨ptr A2 0 4,0,_⟩,⟨ptr A3 0 4,0,_⟩,⟨rv,6,_⟩,⟨dv,5,_⟩,⟨ptr A4 0 4,0,_⟩,⟨ptr A5 0 5,0,_⟩,⟨w5,4,_⟩]) [0,1,2,3,4,5,6,7] (by decide) rfl
   have hkF:=(hS31.kept hBF).bL H.length
   refine⟨(jB p.dvs m).stops.length-(k+1),by omega,k+1,sts++[s],_,⟨by omega,by simp[hsl],xT hso (by rw[hsl];exact hok),a7i (fun s hs=>((hsx s hs).step hkE).step hkF) ((hsx1.step hkN).step hkF)⟩,by simp,?_⟩
   rw[tY]
   exact(hS24.ae hBE (hS26.ae hBF hS31))
  obtain⟨G,hBG,hS32⟩:=hS24.aB (os:=[⟨ptr A1 0 3,0,_⟩,⟨ptr A2 0 4,0,_⟩,⟨ptr A3 0 4,0,_⟩,⟨rv,6,_⟩,⟨dv,5,_⟩,⟨ptr A4 0 4,0,_⟩,⟨ptr A5 0 5,0,_⟩,⟨sv,4,_⟩])
  simp(disch:=omega) only[↓RA,RZ,simprocAttr,hn,g3,g8,hS32.ld 2 rfl,hS32.aj 6 rfl,q3]
  refine hS32.ai [(.string ⟨#[68,UInt8.ofNat (48+(m:Int)).toNat]⟩),(.bool (jB p.dvs m).pedal),I (36+((jB p.dvs m).low%12:Nat)),I (36+((jB p.dvs m).low%12:Nat)+((jB p.dvs m).keys%9:Nat)),sv] b0w c6f rfl rfl (by first|(simp[];done)|simp[Value.cells]) (by first|(simp[];done)|simp[Value.cells]) (by simp[OC,(hS32.rd 7 rfl).cells.2.1]) (by decide) (by decide) fun w6 H21 hS33=> ?_
  simp only[RT]at hS33
  simp(disch:=omega) only[↓RA,RZ,simprocAttr,hn,q3]
  refine hS33.al 4 rfl (hS33.rd 8 rfl) b0w (by rw[jF (n:=5) (cel:=Dvn.cells) (fun _=>rfl)];simp;omega) fun w7 H22 hS34=> ?_
  simp only[RT]at hS34
  simp(disch:=omega) only[↓RA,RZ,simprocAttr,hn,g3,q3]
  refine hS34.ab 2 rfl [w7] (by rw[(hS34.rd 4 rfl).cells.1]) (by simp[(hS34.rd 4 rfl).cells.2.1]) b7O (by simp) fun H23 hS35=> ?_
  simp only[RT]at hS35
  simp(disch:=omega) only[↓RA,RZ,simprocAttr,hn,g1,g2,g3,g5,q3]
  have hxm:=(hS6.ae hBC (hS15.ae hBD (hS24.ae hBG hS35))).bN (cel:=Stp.cells) 7 rfl (fun _=>rfl)
  have hxv:=(hS35.cB (cel:=Stp.cells) (os':=[⟨ptr A1 0 3,0,_⟩,⟨ptr A2 0 4,0,_⟩,⟨ptr A3 0 4,0,_⟩,⟨rv,6,_⟩,⟨w7,5,_⟩]) 7 rfl (fun _=>rfl) [0,1,2,3,4] (by decide) rfl).both hxm
  have hS36:=hS35.pick (os':=[⟨ptr A1 0 3,0,_⟩,⟨ptr A2 0 4,0,_⟩,⟨ptr A3 0 4,0,_⟩,⟨rv,6,_⟩,⟨w7,5,_⟩]) [0,1,2,3,4] (by decide) rfl
  have hkG:=(hS36.kept hBG).bL H.length
  have hkD:=((hS24.ae hBG hS36).kept hBD).bL H.length
  have hnm:(⟨#[68,UInt8.ofNat (48+(m:Int)).toNat]⟩:ByteArray)=nm 68 m:=by rw[show(48+(m:Int)).toNat=48+m by omega];rfl
  have hdi:Dvn.Ix H23 (nbL H.length [ptr A1 0 3,ptr A2 0 4,ptr A3 0 4,rv,w7]) ⟨⟨#[68,UInt8.ofNat (48+(m:Int)).toNat]⟩,(jB p.dvs m).pedal,(36+((jB p.dvs m).low%12:Nat)),(36+((jB p.dvs m).low%12:Nat)+((jB p.dvs m).keys%9:Nat)),sv,sts⟩:=⟨hxv,fun s hs=>(hsx s hs).step hkG,by simp only;omega⟩
  have hdk:DvOk rks.length dvs.length ⟨⟨#[68,UInt8.ofNat (48+(m:Int)).toNat]⟩,(jB p.dvs m).pedal,(36+((jB p.dvs m).low%12:Nat)),(36+((jB p.dvs m).low%12:Nat)+((jB p.dvs m).keys%9:Nat)),sv,sts⟩:=⟨by rw[hdl];exact hnm,by simp only;omega,by simp only;omega,by simp only;omega,by simp only;omega,by simp only;omega,hso⟩
  refine⟨p.dvs.length-(m+1),by omega,m+1,dvs++[_],w7,⟨by omega,by simp[hdl],xT (Q:=fun j d=>DvOk rks.length j d∧d.stops.length=(jB p.dvs j).stops.length) hdo ⟨hdk,by rw[hdl];simp only;omega⟩,a7i (Q:=fun d=>Dvn.Ix H23 (nbL H.length [ptr A1 0 3,ptr A2 0 4,ptr A3 0 4,rv,w7]) d) (fun d hd=>(hdx d hd).step hkD) hdi⟩,by simp,?_⟩
  rw[tY]
  exact(hS15.ae hBD (hS24.ae hBG hS36))
 simp(disch:=omega) only[↓RA,RZ,simprocAttr,hn,g1,hS15.ld 0 rfl,((hS6.ae hBC hS15).sl hp.2.1).len,q2]
 have hdm:dvs.length=p.dvs.length:=by omega
 have hkC:=(hS15.kept hBC).bL H.length
 obtain⟨K,hBK,hS37⟩:=hS15.aB (os:=[⟨ptr A1 0 3,0,_⟩,⟨ptr A2 0 4,0,_⟩,⟨ptr A3 0 4,0,_⟩,⟨rv,6,_⟩,⟨dv,5,_⟩])
 have hS38:=hS37.nil 4
 simp only[RT]at hS38
 refine Wp.aq (fun n l H'=>l.length=153∧get l 1=(ptr A1 0 3)∧get l 2=(ptr A2 0 4)∧get l 3=(ptr A3 0 4)∧get l 10=I p.dvs.length∧∃(c:Nat)(cps:List Cpl)(cv:Value),(n+c=p.cpls.length∧cps.length=c∧∀j,j<cps.length→CpOk p.dvs.length j (jB cps j))∧get l 11=I c∧St prog K H' [⟨ptr A1 0 3,0,[p.rv,p.dv,p.cv]⟩,⟨ptr A2 0 4,0,[(.string ⟨#[]⟩),(.slice none 0 0),(.slice none 0 0),(.slice none 0 0)]⟩,⟨ptr A3 0 4,0,[.string ⟨#[79,114,103,97,110]⟩,rv,dv,cv]⟩,⟨rv,6,rks.flatMap Rk.cells⟩,⟨dv,5,dvs.flatMap Dvn.cells⟩,⟨cv,5,cps.flatMap Cpl.cells⟩]) p.cpls.length ?_ ?_
 ·simp(disch:=omega) only[RB,RC,simprocAttr,hn,g1,g2,g3]
  exact⟨0,[],.slice none 0 0,⟨by omega,rfl,fun j hj=>absurd hj (ez _)⟩,rfl,hS38⟩
 rintro n l H24⟨hn,g1,g2,g3,yC,c,cps,cv,⟨hc,hcl,hco⟩,g11,hS39⟩
 simp(disch:=omega) only[↓RA,RZ,simprocAttr,hn,g1,g11,hS39.ld 0 rfl,((hS6.ae hBC (hS15.ae hBK hS39)).sl hp.2.2.2.1).len]
 refine jA (fun q4=> ?_) (fun q4=> ?_)
 ·have hck:=hk.2.2 _ (jE (xs:=p.cpls) (j:=c) (by omega))
  have u1:((jB p.cpls c).src:Int).tmod p.dvs.length=(((jB p.cpls c).src%p.dvs.length:Nat):Int):=(eF _ _).symm
  have u2:((jB p.cpls c).dst:Int).tmod p.dvs.length=(((jB p.cpls c).dst%p.dvs.length:Nat):Int):=(eF _ _).symm
  have u3:(jB p.cpls c).src%p.dvs.length<p.dvs.length:=eU _ (by omega)
  have u4:(jB p.cpls c).dst%p.dvs.length<p.dvs.length:=eU _ (by omega)
  obtain⟨sh,hsh,hsh1,hsh2⟩:∃sh,(jB p.cpls c).shift.tmod 25=sh∧-24≤sh∧sh≤24:=⟨_,rfl,(c0G _).1,(c0G _).2⟩
  have hcs:=hck.1
  have hcd:=hck.2.1
  have hcf:=hck.2.2
  have hnm:(⟨#[67,UInt8.ofNat (48+(c:Int)).toNat]⟩:ByteArray)=nm 67 c:=by rw[show(48+(c:Int)).toNat=48+c by omega];rfl
  simp(disch:=omega) only[↓RA,RZ,simprocAttr,hn,g1,g11,hS39.ld 0 rfl,((hS6.ae hBC (hS15.ae hBK hS39)).sl hp.2.2.2.1).idx,((hS6.ae hBC (hS15.ae hBK hS39)).sl hp.2.2.2.1).aj,Lnk.cells,q4]
  refine hS39.eNew 4 [(.int .u8 0),(.int .u8 0),(.int .i8 0),(.bool false)] rfl rfl rfl b2Z fun A6 H25 hS40=> ?_
  simp only[RT]at hS40
  simp(disch:=omega) only[↓RA,RZ,simprocAttr,hn,q4]
  refine hS40.ab 6 rfl [(.int .u8 (jB p.cpls c).src),(.int .u8 (jB p.cpls c).dst),(.int .i8 (jB p.cpls c).shift),(.bool (jB p.cpls c).thr)] rfl rfl b2Z (by simp) fun H26 hS41=> ?_
  simp only[RT]at hS41
  simp(disch:=omega) only[↓RA,RZ,simprocAttr,q4]
  refine Wp.aF kS [(7,0),(8,0),(12,0),(13,0),(17,0),(18,0),(21,0)] (by kernel_rfl) (by kernel_rfl) ?_
  simp(disch:=omega) only[↓RA,RZ,simprocAttr,hn,g11]
  refine hS41.ai [_] a2T a3u rfl rfl (by simp[Value.cells]) rfl rfl (by decide) (by decide) fun w8 H27 hS42=> ?_
  simp only[RT]at hS42
  simp(disch:=omega) only[↓RA,RZ,simprocAttr,hn,tW (hS42.rd 7 rfl) mB.1 mB.2.1 mB.2.2,tC]
  simp(disch:=omega) only[↓RA,RZ,simprocAttr,hn,yC,hS42.ld 6 rfl,u1,u2,hsh]
  simp(disch:=omega) only[↓RA,RZ,simprocAttr,a2z]
  refine hS42.eNew 5 [(.string ⟨#[]⟩),I 0,I 0,I 0,(.bool false)] rfl rfl rfl yI fun A7 H28 hS43=> ?_
  simp only[RT]at hS43
  simp(disch:=omega) only[↓RA,RB,simprocAttr,hn]
  refine hS43.ab 8 rfl [(.string ⟨#[67,UInt8.ofNat (48+(c:Int)).toNat]⟩),I (((jB p.cpls c).src%p.dvs.length:Nat):Int),I (((jB p.cpls c).dst%p.dvs.length:Nat):Int),I sh,(.bool (jB p.cpls c).thr)] rfl rfl yI (by simp) fun H29 hS44=> ?_
  simp only[RT]at hS44
  simp(disch:=omega) only[↓RA,RZ,simprocAttr,hn,hS41.ld 6 rfl,hS44.ld 8 rfl]
  refine kG (fun q5=> ?_) (fun q5=> ?_)
  ·simp(disch:=omega) only[↓RA,RZ,simprocAttr,hn,hS44.ld 8 rfl,q5]
   refine jA (fun q6=> ?_) (fun q6=> ?_)
   ·skip
    simp(disch:=omega) only[↓RA,RZ,simprocAttr,hn,q6]
    refine hS44.ab 8 rfl [I 12] rfl rfl tS3 (by simp) fun H30 hS45=> ?_
    simp only[RT]at hS45
    simp(disch:=omega) only[↓RA,RZ,simprocAttr,hn,g3,hS45.ld 2 rfl,hS45.aj 8 rfl,q6]
    refine hS45.ai [(.string ⟨#[67,UInt8.ofNat (48+(c:Int)).toNat]⟩),I (((jB p.cpls c).src%p.dvs.length:Nat):Int),I (((jB p.cpls c).dst%p.dvs.length:Nat):Int),I 12,(.bool (jB p.cpls c).thr)] a1f b5c rfl rfl (by simp[Value.cells]) rfl rfl (by decide) (by decide) fun w9 H31 hS46=> ?_
    simp only[RT]at hS46
    simp(disch:=omega) only[↓RA,RZ,simprocAttr,hn,q6]
    refine hS46.al 5 rfl (hS46.rd 9 rfl) a1f (by rw[jF (n:=5) (cel:=Cpl.cells) (fun _=>rfl)];simp;omega) fun w10 H32 hS47=> ?_
    simp only[RT]at hS47
    simp(disch:=omega) only[↓RA,RZ,simprocAttr,hn,g3,q6]
    refine hS47.ab 2 rfl [w10] (by rw[(hS47.rd 5 rfl).cells.1]) (by simp[(hS47.rd 5 rfl).cells.2.1]) b0W (by simp) fun H33 hS48=> ?_
    simp only[RT]at hS48
    simp(disch:=omega) only[↓RA,RZ,simprocAttr,hn,g1,g2,g3,yC,g11,q6]
    have hS49:=hS48.pick (os':=[⟨ptr A1 0 3,0,_⟩,⟨ptr A2 0 4,0,_⟩,⟨ptr A3 0 4,0,_⟩,⟨rv,6,_⟩,⟨dv,5,_⟩,⟨w10,5,_⟩]) [0,1,2,3,4,5] (by decide) rfl
    have hcn:CpOk p.dvs.length cps.length ⟨⟨#[67,UInt8.ofNat (48+(c:Int)).toNat]⟩,(((jB p.cpls c).src%p.dvs.length:Nat):Int),(((jB p.cpls c).dst%p.dvs.length:Nat):Int),12,(jB p.cpls c).thr⟩:=⟨by rw[hcl];exact hnm,by simp only;omega,by simp only;omega,by simp only;omega,by simp only;omega⟩
    refine⟨n-1,by omega,c+1,cps++[_],w10,⟨by omega,by simp[hcl],xT hco hcn⟩,by simp,?_⟩
    rw[tY]
    exact hS49
   simp(disch:=omega) only[↓RA,RZ,simprocAttr,hn,g3,hS44.ld 2 rfl,hS44.aj 8 rfl,q6]
   refine hS44.ai [(.string ⟨#[67,UInt8.ofNat (48+(c:Int)).toNat]⟩),I (((jB p.cpls c).src%p.dvs.length:Nat):Int),I (((jB p.cpls c).dst%p.dvs.length:Nat):Int),I sh,(.bool (jB p.cpls c).thr)] a1f b5c rfl rfl (by simp[Value.cells]) rfl rfl (by decide) (by decide) fun w11 H34 hS50=> ?_
   simp only[RT]at hS50
   simp(disch:=omega) only[↓RA,RZ,simprocAttr,hn,q6]
   refine hS50.al 5 rfl (hS50.rd 9 rfl) a1f (by rw[jF (n:=5) (cel:=Cpl.cells) (fun _=>rfl)];simp;omega) fun w12 H35 hS51=> ?_
   simp only[RT]at hS51
   simp(disch:=omega) only[↓RA,RZ,simprocAttr,hn,g3,q6]
   refine hS51.ab 2 rfl [w12] (by rw[(hS51.rd 5 rfl).cells.1]) (by simp[(hS51.rd 5 rfl).cells.2.1]) b0W (by simp) fun H36 hS52=> ?_
   simp only[RT]at hS52
   simp(disch:=omega) only[↓RA,RZ,simprocAttr,hn,g1,g2,g3,yC,g11,q6]
   have hS53:=hS52.pick (os':=[⟨ptr A1 0 3,0,_⟩,⟨ptr A2 0 4,0,_⟩,⟨ptr A3 0 4,0,_⟩,⟨rv,6,_⟩,⟨dv,5,_⟩,⟨w12,5,_⟩]) [0,1,2,3,4,5] (by decide) rfl
   have hcn:CpOk p.dvs.length cps.length ⟨⟨#[67,UInt8.ofNat (48+(c:Int)).toNat]⟩,(((jB p.cpls c).src%p.dvs.length:Nat):Int),(((jB p.cpls c).dst%p.dvs.length:Nat):Int),sh,(jB p.cpls c).thr⟩:=⟨by rw[hcl];exact hnm,by simp only;omega,by simp only;omega,by simp only;omega,by simp only;omega⟩
   refine⟨n-1,by omega,c+1,cps++[_],w12,⟨by omega,by simp[hcl],xT hco hcn⟩,by simp,?_⟩
   rw[tY]
   exact hS53
  simp(disch:=omega) only[↓RA,RZ,simprocAttr,hn,g3,hS44.ld 2 rfl,hS44.aj 8 rfl,q5]
  refine hS44.ai [(.string ⟨#[67,UInt8.ofNat (48+(c:Int)).toNat]⟩),I (((jB p.cpls c).src%p.dvs.length:Nat):Int),I (((jB p.cpls c).dst%p.dvs.length:Nat):Int),I sh,(.bool (jB p.cpls c).thr)] a1f b5c rfl rfl (by simp[Value.cells]) rfl rfl (by decide) (by decide) fun w13 H37 hS54=> ?_
  simp only[RT]at hS54
  simp(disch:=omega) only[↓RA,RZ,simprocAttr,hn,q5]
  refine hS54.al 5 rfl (hS54.rd 9 rfl) a1f (by rw[jF (n:=5) (cel:=Cpl.cells) (fun _=>rfl)];simp;omega) fun w14 H38 hS55=> ?_
  simp only[RT]at hS55
  simp(disch:=omega) only[↓RA,RZ,simprocAttr,hn,g3,q5]
  refine hS55.ab 2 rfl [w14] (by rw[(hS55.rd 5 rfl).cells.1]) (by simp[(hS55.rd 5 rfl).cells.2.1]) b0W (by simp) fun H39 hS56=> ?_
  simp only[RT]at hS56
  simp(disch:=omega) only[↓RA,RZ,simprocAttr,hn,g1,g2,g3,yC,g11,q5]
  have hS57:=hS56.pick (os':=[⟨ptr A1 0 3,0,_⟩,⟨ptr A2 0 4,0,_⟩,⟨ptr A3 0 4,0,_⟩,⟨rv,6,_⟩,⟨dv,5,_⟩,⟨w14,5,_⟩]) [0,1,2,3,4,5] (by decide) rfl
  have hcn:CpOk p.dvs.length cps.length ⟨⟨#[67,UInt8.ofNat (48+(c:Int)).toNat]⟩,(((jB p.cpls c).src%p.dvs.length:Nat):Int),(((jB p.cpls c).dst%p.dvs.length:Nat):Int),sh,(jB p.cpls c).thr⟩:=⟨by rw[hcl];exact hnm,by simp only;omega,by simp only;omega,by simp only;omega,by simp only;omega⟩
  refine⟨n-1,by omega,c+1,cps++[_],w14,⟨by omega,by simp[hcl],xT hco hcn⟩,by simp,?_⟩
  rw[tY]
  exact hS57
 simp(disch:=omega) only[↓RA,RZ,simprocAttr,hn,g2,g3,hS39.aj 2 rfl,q4]
 refine hS39.ab 1 rfl [(.string ⟨#[79,114,103,97,110]⟩),rv,dv,cv] rfl (by simp[OC,(hS39.rd 3 rfl).cells.2.1,(hS39.rd 4 rfl).cells.2.1,(hS39.rd 5 rfl).cells.2.1]) tO (by simp) fun H40 hS58=> ?_
 simp only[RT]at hS58
 simp(disch:=omega) only[↓RA,RZ,simprocAttr,g2,d1f,hS58.aj 1 rfl,q4]
 have hcm:cps.length=p.cpls.length:=by omega
 have hkK:=((hS58.pick (os':=[⟨ptr A1 0 3,0,_⟩,⟨ptr A2 0 4,0,_⟩,⟨ptr A3 0 4,0,_⟩,⟨rv,6,_⟩,⟨dv,5,_⟩]) [0,1,2,3,4] (by decide) rfl).kept hBK).bL H.length
 refine⟨⟨⟨#[79,114,103,97,110]⟩,rv,rks,dv,dvs,cv,cps⟩,rfl,⟨(hS6.ae hBC (hS15.ae hBK hS58)).bN 3 rfl (fun _=>rfl),fun r hr=>(((hrx r hr).step hkC).step hkK).step Kept.snd,(hS6.ae hBC (hS15.ae hBK hS58)).bN 4 rfl (fun _=>rfl),fun d hd=>((hdx d hd).step hkK).step Kept.snd,(hS6.ae hBC (hS15.ae hBK hS58)).bN 5 rfl (fun _=>rfl),by simp only;omega,by simp only;omega,by simp only;omega⟩,
  ⟨⟨rfl,by simp only;omega,by simp only;omega,hro,by simp only;omega,by simp only;omega,fun j hj=>(hdo j hj).1,by simp only;omega,by simp only[hdm];exact hco⟩,hri,hdm,hcm,fun j hj=>(hdo j (by omega)).2⟩,(hS6.ae hBC (hS15.ae hBK hS58)).forget⟩
end Go.Ds
namespace Go.Ds
open Go.Proofs Go.Proofs.Tryz
variable {H:Heap}
set_option maxRecDepth 10000
set_option maxHeartbeats 1000000
structure Made26(p:Pln)(b kb:Nat→Nat)(br bn:Nat)(s:Sn):Prop where
 made:Made p s.o
 rg:s.rg=qQ s.o b
 ks:s.ks=qA s.o kb
 p1:s.p.1=((br%s.o.ranks.length:Nat):Int)
 p2:s.p.2=((bn%(jB s.o.ranks (br%s.o.ranks.length)).wind.length:Nat):Int)
theorem Org.bO{o:Org}(h:organE o=0){j:Nat}(hj:j<o.ranks.length):0<(jB o.ranks j).wind.length∧(jB o.ranks j).wind.length≤128:=by
 unfold organE at h
 split at h
 ·omega
 split at h
 ·omega
 split at h
 ·rename_i hh;exact absurd h hh
 rename_i hr
 have e:=pT (dW.1 hr) j hj
 unfold pL at e
 split at e
 ·rename_i hh;exact absurd e hh
 rename_i h1
 have e:=dW.1 h1
 unfold rankE at e
 split at e
 ·omega
 split at e
 ·rename_i hh;exact absurd e hh
 split at e
 ·omega
 split at e
 ·omega
 split at e
 ·omega
 omega
theorem a1Y{p:Pln}(h:rV p=true):0<p.ranks.length:=by
 unfold rV at h
 simp only[dB,decide_eq_true_eq,dT]at h
 omega
theorem Made26.fit{p:Pln}{b kb:Nat→Nat}{br bn:Nat}{s:Sn}(h:Made26 p b kb br bn s)(hf:rV p=true):s.Fit:=by
 have hoe:=h.made.ok.organE
 have h0:0<s.o.ranks.length:=by rw[h.made.rlen];exact a1Y hf
 have hm:br%s.o.ranks.length<s.o.ranks.length:=eU _ h0
 have hw:=Org.bO hoe hm
 have hm2:bn%(jB s.o.ranks (br%s.o.ranks.length)).wind.length<(jB s.o.ranks (br%s.o.ranks.length)).wind.length:=eU _ hw.1
 refine⟨by rw[h.rg];exact b4C b hoe,by rw[h.ks];exact b1b hoe kb,?_⟩
 unfold pOk
 rw[h.p1,eT,h.p2]
 simp only[dB,decide_eq_true_eq]
 omega
theorem b5d(hG:Glob gH H)(p:Pln)(hp:p.In H)(hk:p.Ok)(hf:rV p=true)(b:Nat→Nat)(hb:∀i,b i<256)(kb:Nat→Nat)(hkb:∀i,kb i<65536)(br bn:Nat)(hbr:br<256)(hbn:bn<256):
 Fn prog 14 [.agg #[p.rv,p.dv,p.cv],.agg #[.int .u8 (b 0),.int .u8 (b 1),.int .u8 (b 2),.int .u8 (b 3),.int .u8 (b 4),.int .u16 (kb 0),.int .u16 (kb 1),.int .u16 (kb 2),.int .u8 br,.int .u8 bn]] H fun r H'=>
  ∃s:Sn,r=s.v∧s.In H'∧Made26 p b kb br bn s∧St prog H H' []:=by
 refine .aE func14 rfl (by kernel_rfl) (m:=44) rfl fun l hn g0 g1=> ?_
 simp(disch:=omega) only[↓RA,RB,simprocAttr,g0]
 refine(sR H).eNew 3 [p.rv,p.dv,p.cv] rfl rfl (by simp[((sR H).sl hp.1).cells.2.1,((sR H).sl hp.2.1).cells.2.1,((sR H).sl hp.2.2.2.1).cells.2.1]) b6O fun A1 H1 hS1=> ?_
 simp only[RT]at hS1
 simp(disch:=omega) only[↓RA,RB,simprocAttr,g1]
 refine hS1.eNew 10 [(.int .u8 (b 0)),(.int .u8 (b 1)),(.int .u8 (b 2)),(.int .u8 (b 3)),(.int .u8 (b 4)),(.int .u16 (kb 0)),(.int .u16 (kb 1)),(.int .u16 (kb 2)),(.int .u8 br),(.int .u8 bn)] rfl rfl rfl c5o fun A2 H2 hS2=> ?_
 simp only[RT]at hS2
 simp(disch:=omega) only[↓RA,RZ,simprocAttr]
 refine hS2.eNew 10 [(.string ⟨#[]⟩),(.slice none 0 0),(.slice none 0 0),(.slice none 0 0),(.slice none 0 0),(.int .u64 0),(.int .u64 0),(.slice none 0 0),I 0,I 0] rfl rfl rfl oI fun A3 H3 hS3=> ?_
 simp only[RT]at hS3
 simp(disch:=omega) only[↓RA,RZ,simprocAttr,hn,hS3.aj 0 rfl]
 have hSb:=hS3
 refine jI (b2s (hS3.gl hG) p (hp.ag hS3) hk hf) ?_
 rintro r H4⟨o,rfl,hox,hm,hT1⟩
 have hS4:=hS3.trans hT1
 simp only[RT]at hS4
 have hN:=hox.step (hSb.aV (H':=H4))
 obtain⟨X,hBX,hS5⟩:=hS4.aB (os:=[⟨ptr A1 0 3,0,_⟩,⟨ptr A2 0 10,0,_⟩,⟨ptr A3 0 10,0,_⟩])
 have hin:∀{H1 os},St prog X H1 os→o.In H1:=fun h=>(hN.step (h.kept hBX)).in
 have hoe:=hm.ok.organE
 have hf0:=Org.aP hoe
 obtain⟨k1,k2,k3⟩:=hm.small hf
 have hok:=b6t (o:=o) hb k2
 simp(disch:=omega) only[↓RA,RZ,simprocAttr]
 refine hS5.eNew 4 [(.string ⟨#[]⟩),(.slice none 0 0),(.slice none 0 0),(.slice none 0 0)] rfl rfl rfl tO fun A4 H5 hS6=> ?_
 simp only[RT]at hS6
 simp(disch:=omega) only[↓RA,RB,simprocAttr,hn]
 refine hS6.ab 3 rfl [(.string o.name),o.rv,o.dv,o.cv] rfl (by simp[OC,hox.in.1.cells.2.1,hox.in.2.2.1.cells.2.1,hox.in.2.2.2.2.1.cells.2.1]) tO (by simp) fun H6 hS7=> ?_
 simp only[RT]at hS7
 simp(disch:=omega) only[↓RA,RB,simprocAttr]
 refine Wp.aF kS [(0,5),(0,9),(5,0),(7,0)] (by kernel_rfl) (by kernel_rfl) ?_
 simp(disch:=omega) only[↓RA,RZ,simprocAttr,hn,hS7.aj 3 rfl,hS7.aj 1 rfl]
 refine jI (b1k o (hin hS7) k1 k2 k3 b hb) ?_
 rintro r H7⟨sv,rfl,hT2⟩
 have hS8:=hS7.trans hT2
 simp only[RT]at hS8
 simp(disch:=omega) only[↓RA,RZ,simprocAttr,hn,hS8.aj 3 rfl,hS8.aj 1 rfl]
 refine jI ((b0r o (hin hS8) hf0 kb hkb).tr) ?_
 rintro r H8⟨-,hT3⟩
 have hS9:=hS8.trans hT3
 simp only[RT]at hS9
 obtain⟨kv,rfl⟩:∃w,w=r:=⟨r,rfl⟩
 have h0:0<o.ranks.length:=by rw[hm.rlen];exact a1Y hf
 have hrl:=hf0.rlen
 have u1:(br:Int).tmod o.ranks.length=((br%o.ranks.length:Nat):Int):=(eF _ _).symm
 obtain⟨q,hq⟩:∃q,q=br%o.ranks.length:=⟨_,rfl⟩
 have hqm:q<o.ranks.length:=by rw[hq];exact eU _ h0
 rw[←hq]at u1
 have hw:=Org.bO hoe hqm
 have u2:(bn:Int).tmod (jB o.ranks q).wind.length=((bn%(jB o.ranks q).wind.length:Nat):Int):=(eF _ _).symm
 simp(disch:=omega) only[↓RA,RZ,simprocAttr,hn,b1J hox.in.1.cells hox.in.2.2.1.cells hox.in.2.2.2.2.1.cells (hS9.rd 4 rfl).cells (hS9.rd 5 rfl).cells]
 refine hS9.eNew 10 [(.string ⟨#[]⟩),(.slice none 0 0),(.slice none 0 0),(.slice none 0 0),(.slice none 0 0),(.int .u64 0),(.int .u64 0),(.slice none 0 0),I 0,I 0] rfl rfl rfl oI fun A5 H9 hS10=> ?_
 simp only[RT]at hS10
 simp(disch:=omega) only[↓RA,RB,simprocAttr,hn]
 refine hS10.ab 6 rfl [(.string o.name),o.rv,o.dv,o.cv,sv,(.int .u64 (qQ o b).cpl),(.int .u64 (qQ o b).off),kv,I 0,I 0] rfl (by simp[OC,hox.in.1.cells.2.1,hox.in.2.2.1.cells.2.1,hox.in.2.2.2.2.1.cells.2.1,(hS10.rd 4 rfl).cells.2.1,(hS10.rd 5 rfl).cells.2.1]) oI (by simp) fun H10 hS11=> ?_
 simp only[RT]at hS11
 simp(disch:=omega) only[↓RA,RZ,simprocAttr,hn,hS8.aj 3 rfl,hS9.aj 3 rfl,hS7.aj 3 rfl,hS7.aj 1 rfl,hS11.ld 1 rfl,hS11.ld 3 rfl,((hin hS11).1).len,u1]
 refine hS11.ab 6 rfl [I q] rfl rfl tS3 (by simp) fun H11 hS12=> ?_
 simp only[RT]at hS12
 simp(disch:=omega) only[↓RA,RB,simprocAttr]
 refine Wp.drw kS (by kernel_rfl) ?_
 simp(disch:=omega) only[↓RA,RZ,simprocAttr,hn,hS12.ld 1 rfl,hS12.ld 3 rfl,hS12.ld 6 rfl,((hin hS12).1).idx,((hin hS12).1).bd,((hin hS12).1).ld,Rk.cells,(((hin hS12).2.1 (jB o.ranks q) (jE (by omega))).1).len,u2]
 refine hS12.ab 6 rfl [I (bn%(jB o.ranks q).wind.length:Nat)] rfl rfl tS3 (by simp) fun H12 hS13=> ?_
 simp only[RT]at hS13
 simp(disch:=omega) only[↓RA,RZ,simprocAttr,hn,hS13.aj 6 rfl]
 refine hS13.ab 2 rfl [(.string o.name),o.rv,o.dv,o.cv,sv,(.int .u64 (qQ o b).cpl),(.int .u64 (qQ o b).off),kv,I q,I (bn%(jB o.ranks q).wind.length:Nat)] rfl (by simp[OC,hox.in.1.cells.2.1,hox.in.2.2.1.cells.2.1,hox.in.2.2.2.2.1.cells.2.1,(hS13.rd 4 rfl).cells.2.1,(hS13.rd 5 rfl).cells.2.1]) oI (by simp) fun H13 hS14=> ?_
 simp only[RT]at hS14
 simp(disch:=omega) only[↓RA,RZ,simprocAttr,hn,d0n,hS14.aj 2 rfl]
 have hkl:=sE o kb
 exact⟨⟨o,sv,qQ o b,kv,qA o kb,((q:Int),((bn%(jB o.ranks q).wind.length:Nat):Int))⟩,rfl,⟨hin hS14,⟨hS14.av 4 rfl (fun _=>rfl),hok⟩,⟨hS14.av 5 rfl (fun _=>rfl),by simp only;omega,a9V hf0 kb⟩⟩,⟨hm,rfl,rfl,by rw[hq],by rw[hq]⟩,(hS4.ae hBX hS14).forget⟩
end Go.Ds
namespace Go.Ds
open Go.Proofs
variable {H:Heap}
set_option maxRecDepth 10000
set_option maxHeartbeats 1000000
end Go.Ds
namespace Go.Ds
open Go.Proofs Go.Proofs.Tryz
variable {H:Heap}
set_option maxRecDepth 10000
set_option maxHeartbeats 1000000
theorem c0U(m:Nat)(t:TypeId):a4P (some (m+1)) prog H t (.slice none 0 0)=some (I 0):=Sl.len (P:=prog) (Sl.cp (H:=H) (α:=Nat) (n:=m+1) (cel:=fun _=>List.replicate (m+1) undef) (fun _=>by simp) (fE m)) m t
theorem a3O(s:Sn)(hs:s.In H)(hE:tT s≠0):Fn prog 21 [s.v] H fun r H'=>r=.tuple #[.slice none 0 0,I (tT s)]∧St prog H H' []:=by
 refine .aL func21 rfl (by kernel_rfl) (m:=44) rfl fun l hn g0=> ?_
 simp(disch:=omega) only[↓RA,RB,simprocAttr,g0]
 refine(sR H).eNew 10 [(.string s.o.name),s.o.rv,s.o.dv,s.o.cv,s.sv,(.int .u64 s.rg.cpl),(.int .u64 s.rg.off),s.kv,I s.p.1,I s.p.2] rfl rfl (by simp[OC,((sR H).sl hs.o.1).cells.2.1,((sR H).sl hs.o.2.2.1).cells.2.1,((sR H).sl hs.o.2.2.2.2.1).cells.2.1,((sR H).sl hs.rg.1).cells.2.1,((sR H).sl hs.ks.sl).cells.2.1]) oI fun A1 H1 hS1=> ?_
 simp only[RT]at hS1
 simp(disch:=omega) only[↓RA,RZ,simprocAttr,hn,hS1.aj 0 rfl]
 refine hS1.cF (pS s (hs.ag hS1)) fun H2 hS2=> ?_
 simp(disch:=omega) only[↓RA,RB,simprocAttr,hn]
 refine jA (fun h1=> ?_) (fun h1=> ?_)
 ·simp(disch:=omega) only[↓RA,RZ,simprocAttr,hn,c3T,h1]
  first|exact hS2.forget|exact⟨rfl,hS2.forget⟩
 exact absurd (dW.1 h1) hE
theorem b5n(s:Sn)(hs:s.In H)(hE:tT s≠0):Fn prog 22 [s.v] H fun r H'=>r=.tuple #[.agg #[I 0,I 0,.slice none 0 0,I 0,I 0,I 0],.bool false,I (tT s)]∧St prog H H' []:=by
 refine .aL func22 rfl (by kernel_rfl) (m:=51) rfl fun l hn g0=> ?_
 simp(disch:=omega) only[↓RA,RB,simprocAttr,g0]
 refine(sR H).eNew 10 [(.string s.o.name),s.o.rv,s.o.dv,s.o.cv,s.sv,(.int .u64 s.rg.cpl),(.int .u64 s.rg.off),s.kv,I s.p.1,I s.p.2] rfl rfl (by simp[OC,((sR H).sl hs.o.1).cells.2.1,((sR H).sl hs.o.2.2.1).cells.2.1,((sR H).sl hs.o.2.2.2.2.1).cells.2.1,((sR H).sl hs.rg.1).cells.2.1,((sR H).sl hs.ks.sl).cells.2.1]) oI fun A1 H1 hS1=> ?_
 simp only[RT]at hS1
 simp(disch:=omega) only[↓RA,RZ,simprocAttr]
 refine hS1.eNew 6 [I 0,I 0,(.slice none 0 0),I 0,I 0,I 0] rfl rfl rfl nW fun A2 H2 hS2=> ?_
 simp only[RT]at hS2
 simp(disch:=omega) only[↓RA,RZ,simprocAttr,hn,hS2.aj 0 rfl]
 refine hS2.cF (pS s (hs.ag hS2)) fun H3 hS3=> ?_
 simp(disch:=omega) only[↓RA,RB,simprocAttr,hn]
 refine jA (fun h1=> ?_) (fun h1=> ?_)
 ·simp(disch:=omega) only[↓RA,RZ,simprocAttr,hn,a4e,h1]
  refine hS3.ab 1 rfl [I 0,I 0,(.slice none 0 0),I 0,I 0,I 0] rfl rfl nW (by simp) fun H4 hS4=> ?_
  simp only[RT]at hS4
  simp(disch:=omega) only[↓RA,RZ,simprocAttr,hn,c5c,hS4.aj 1 rfl,h1]
  first|exact hS4.forget|exact⟨rfl,hS4.forget⟩
 exact absurd (dW.1 h1) hE
theorem zE(s:Sn)(hs:s.In H)(hE:tT s≠0)(x:Rn)(hx:x.In H):Fn prog 28 [s.v,x.v] H fun r H'=>r=I (tT s)∧St prog H H' []:=by
 refine .aE func28 rfl (by kernel_rfl) (m:=47) rfl fun l hn g0 g1=> ?_
 simp(disch:=omega) only[↓RA,RB,simprocAttr,g0]
 refine(sR H).eNew 10 [(.string s.o.name),s.o.rv,s.o.dv,s.o.cv,s.sv,(.int .u64 s.rg.cpl),(.int .u64 s.rg.off),s.kv,I s.p.1,I s.p.2] rfl rfl (by simp[OC,((sR H).sl hs.o.1).cells.2.1,((sR H).sl hs.o.2.2.1).cells.2.1,((sR H).sl hs.o.2.2.2.2.1).cells.2.1,((sR H).sl hs.rg.1).cells.2.1,((sR H).sl hs.ks.sl).cells.2.1]) oI fun A1 H1 hS1=> ?_
 simp only[RT]at hS1
 simp(disch:=omega) only[↓RA,RB,simprocAttr,g1]
 refine hS1.eNew 6 [I x.pl.1,I x.pl.2,x.cv,I x.tc.1,I x.tc.2,I x.stop] rfl rfl (by simp[OC,(hS1.sl hx.1).cells.2.1]) nW fun A2 H2 hS2=> ?_
 simp only[RT]at hS2
 simp(disch:=omega) only[↓RA,RZ,simprocAttr,hn,hS2.aj 0 rfl]
 refine hS2.cF (pS s (hs.ag hS2)) fun H3 hS3=> ?_
 simp(disch:=omega) only[↓RA,RB,simprocAttr,hn]
 refine jA (fun h1=> ?_) (fun h1=> ?_)
 ·simp(disch:=omega) only[↓RA,RZ,simprocAttr,hn,a6R,h1]
  first|exact hS3.forget|exact⟨rfl,hS3.forget⟩
 exact absurd (dW.1 h1) hE
theorem c0w(s:Sn)(hs:s.In H)(hE:tT s≠0)(x:Rn)(hx:x.In H):Fn prog 23 [s.v,x.v] H fun r H'=>r=.tuple #[.string ⟨#[]⟩,I (tT s)]∧St prog H H' []:=by
 refine .aE func23 rfl (by kernel_rfl) (m:=74) rfl fun l hn g0 g1=> ?_
 simp(disch:=omega) only[↓RA,RB,simprocAttr,g0]
 refine(sR H).eNew 10 [(.string s.o.name),s.o.rv,s.o.dv,s.o.cv,s.sv,(.int .u64 s.rg.cpl),(.int .u64 s.rg.off),s.kv,I s.p.1,I s.p.2] rfl rfl (by simp[OC,((sR H).sl hs.o.1).cells.2.1,((sR H).sl hs.o.2.2.1).cells.2.1,((sR H).sl hs.o.2.2.2.2.1).cells.2.1,((sR H).sl hs.rg.1).cells.2.1,((sR H).sl hs.ks.sl).cells.2.1]) oI fun A1 H1 hS1=> ?_
 simp only[RT]at hS1
 simp(disch:=omega) only[↓RA,RB,simprocAttr,g1]
 refine hS1.eNew 6 [I x.pl.1,I x.pl.2,x.cv,I x.tc.1,I x.tc.2,I x.stop] rfl rfl (by simp[OC,(hS1.sl hx.1).cells.2.1]) nW fun A2 H2 hS2=> ?_
 simp only[RT]at hS2
 simp(disch:=omega) only[↓RA,RZ,simprocAttr,hn,hS2.aj 0 rfl,hS2.aj 1 rfl]
 refine hS2.cF (zE s (hs.ag hS2) hE x (hx.ag hS2)) fun H3 hS3=> ?_
 simp(disch:=omega) only[↓RA,RB,simprocAttr,hn]
 refine jA (fun h1=> ?_) (fun h1=> ?_)
 ·simp(disch:=omega) only[↓RA,RZ,simprocAttr,hn,c6K,h1]
  first|exact hS3.forget|exact⟨rfl,hS3.forget⟩
 exact absurd (dW.1 h1) hE
theorem a6J(s:Sn)(hs:s.In H)(hE:tT s≠0)(x:Rn)(hx:x.In H):Fn prog 24 [s.v,x.v] H fun r H'=>r=.tuple #[.slice none 0 0,I (tT s)]∧St prog H H' []:=by
 refine .aE func24 rfl (by kernel_rfl) (m:=15) rfl fun l hn g0 g1=> ?_
 simp(disch:=omega) only[↓RA,RB,simprocAttr,g0]
 refine(sR H).eNew 10 [(.string s.o.name),s.o.rv,s.o.dv,s.o.cv,s.sv,(.int .u64 s.rg.cpl),(.int .u64 s.rg.off),s.kv,I s.p.1,I s.p.2] rfl rfl (by simp[OC,((sR H).sl hs.o.1).cells.2.1,((sR H).sl hs.o.2.2.1).cells.2.1,((sR H).sl hs.o.2.2.2.2.1).cells.2.1,((sR H).sl hs.rg.1).cells.2.1,((sR H).sl hs.ks.sl).cells.2.1]) oI fun A1 H1 hS1=> ?_
 simp only[RT]at hS1
 simp(disch:=omega) only[↓RA,RB,simprocAttr,g1]
 refine hS1.eNew 6 [I x.pl.1,I x.pl.2,x.cv,I x.tc.1,I x.tc.2,I x.stop] rfl rfl (by simp[OC,(hS1.sl hx.1).cells.2.1]) nW fun A2 H2 hS2=> ?_
 simp only[RT]at hS2
 simp(disch:=omega) only[↓RA,RZ,simprocAttr,hn,hS2.aj 0 rfl,hS2.aj 1 rfl]
 refine hS2.cF (zE s (hs.ag hS2) hE x (hx.ag hS2)) fun H3 hS3=> ?_
 simp(disch:=omega) only[↓RA,RB,simprocAttr,hn]
 refine jA (fun h1=> ?_) (fun h1=> ?_)
 ·simp(disch:=omega) only[↓RA,RZ,simprocAttr,hn,c9Y,h1]
  first|exact hS3.forget|exact⟨rfl,hS3.forget⟩
 exact absurd (dW.1 h1) hE
theorem b0E(s:Sn)(hs:s.In H)(hE:tT s≠0):Fn prog 25 [s.v] H fun r H'=>r=.tuple #[.slice none 0 0,I (tT s)]∧St prog H H' []:=by
 refine .aL func25 rfl (by kernel_rfl) (m:=41) rfl fun l hn g0=> ?_
 simp(disch:=omega) only[↓RA,RB,simprocAttr,g0]
 refine(sR H).eNew 10 [(.string s.o.name),s.o.rv,s.o.dv,s.o.cv,s.sv,(.int .u64 s.rg.cpl),(.int .u64 s.rg.off),s.kv,I s.p.1,I s.p.2] rfl rfl (by simp[OC,((sR H).sl hs.o.1).cells.2.1,((sR H).sl hs.o.2.2.1).cells.2.1,((sR H).sl hs.o.2.2.2.2.1).cells.2.1,((sR H).sl hs.rg.1).cells.2.1,((sR H).sl hs.ks.sl).cells.2.1]) oI fun A1 H1 hS1=> ?_
 simp only[RT]at hS1
 simp(disch:=omega) only[↓RA,RZ,simprocAttr,hn,hS1.aj 0 rfl]
 refine hS1.cF (a3O s (hs.ag hS1) hE) fun H2 hS2=> ?_
 simp(disch:=omega) only[↓RA,RZ,simprocAttr,hn]
 refine jK (fun h1=> ?_) (fun h1=> ?_)
 ·simp(disch:=omega) only[↓RA,RZ,simprocAttr,hn,d0p,h1]
  first|exact hS2.forget|exact⟨rfl,hS2.forget⟩
 exact absurd (dW.1 h1) hE
theorem a8a(s:Sn)(hs:s.In H)(hE:tT s≠0):Fn prog 26 [s.v] H fun r H'=>r=.tuple #[.slice none 0 0,.bool false,I (tT s)]∧St prog H H' []:=by
 refine .aL func26 rfl (by kernel_rfl) (m:=60) rfl fun l hn g0=> ?_
 simp(disch:=omega) only[↓RA,RB,simprocAttr,g0]
 refine(sR H).eNew 10 [(.string s.o.name),s.o.rv,s.o.dv,s.o.cv,s.sv,(.int .u64 s.rg.cpl),(.int .u64 s.rg.off),s.kv,I s.p.1,I s.p.2] rfl rfl (by simp[OC,((sR H).sl hs.o.1).cells.2.1,((sR H).sl hs.o.2.2.1).cells.2.1,((sR H).sl hs.o.2.2.2.2.1).cells.2.1,((sR H).sl hs.rg.1).cells.2.1,((sR H).sl hs.ks.sl).cells.2.1]) oI fun A1 H1 hS1=> ?_
 simp only[RT]at hS1
 simp(disch:=omega) only[↓RA,RZ,simprocAttr,hn,hS1.aj 0 rfl]
 refine hS1.cF (a3O s (hs.ag hS1) hE) fun H2 hS2=> ?_
 simp(disch:=omega) only[↓RA,RZ,simprocAttr,hn]
 refine jK (fun h1=> ?_) (fun h1=> ?_)
 ·simp(disch:=omega) only[↓RA,RZ,simprocAttr,hn,b7z,h1]
  first|exact hS2.forget|exact⟨rfl,hS2.forget⟩
 exact absurd (dW.1 h1) hE
theorem a9X(s:Sn)(hs:s.In H)(hE:tT s≠0):Fn prog 15 [s.v,.slice none 0 0] H fun r H'=>r=.tuple #[.agg #[.slice none 0 0,.int .u64 0,.int .u64 0],I (tT s)]∧St prog H H' []:=by
 refine .aE func15 rfl (by kernel_rfl) (m:=115) rfl fun l hn g0 g1=> ?_
 simp(disch:=omega) only[↓RA,RB,simprocAttr,g0]
 refine(sR H).eNew 10 [(.string s.o.name),s.o.rv,s.o.dv,s.o.cv,s.sv,(.int .u64 s.rg.cpl),(.int .u64 s.rg.off),s.kv,I s.p.1,I s.p.2] rfl rfl (by simp[OC,((sR H).sl hs.o.1).cells.2.1,((sR H).sl hs.o.2.2.1).cells.2.1,((sR H).sl hs.o.2.2.2.2.1).cells.2.1,((sR H).sl hs.rg.1).cells.2.1,((sR H).sl hs.ks.sl).cells.2.1]) oI fun A1 H1 hS1=> ?_
 simp only[RT]at hS1
 simp(disch:=omega) only[↓RA,RZ,simprocAttr]
 refine hS1.eNew 3 [(.slice none 0 0),(.int .u64 0),(.int .u64 0)] rfl rfl rfl a4C fun A2 H2 hS2=> ?_
 simp only[RT]at hS2
 simp(disch:=omega) only[↓RA,RZ,simprocAttr,hn,hS2.aj 0 rfl]
 refine hS2.cF (pS s (hs.ag hS2)) fun H3 hS3=> ?_
 simp(disch:=omega) only[↓RA,RB,simprocAttr,hn]
 refine jA (fun h1=> ?_) (fun h1=> ?_)
 ·simp(disch:=omega) only[↓RA,RZ,simprocAttr,hn,c9v,h1]
  refine hS3.ab 1 rfl [(.slice none 0 0),(.int .u64 0),(.int .u64 0)] rfl rfl a4C (by simp) fun H4 hS4=> ?_
  simp only[RT]at hS4
  simp(disch:=omega) only[↓RA,RZ,simprocAttr,hn,c9P,hS4.aj 1 rfl,h1]
  first|exact hS4.forget|exact⟨rfl,hS4.forget⟩
 exact absurd (dW.1 h1) hE
theorem b4F(a b:Rn)(ha:a.In H)(hb:b.In H):Fn prog 27 [a.v,b.v] H fun r H'=>r=.bool (decide (a0X a b=0))∧St prog H H' []:=by
 have hal:=ha.2
 have hbl:=hb.2
 refine .aE func27 rfl (by kernel_rfl) (m:=18) rfl fun l hn g0 g1=> ?_
 simp(disch:=omega) only[↓RA,RB,simprocAttr,g0]
 refine(sR H).eNew 6 [I a.pl.1,I a.pl.2,a.cv,I a.tc.1,I a.tc.2,I a.stop] rfl rfl (by simp[OC,((sR H).sl ha.1).cells.2.1]) nW fun A1 H1 hS1=> ?_
 simp only[RT]at hS1
 simp(disch:=omega) only[↓RA,RB,simprocAttr,g1]
 refine hS1.eNew 6 [I b.pl.1,I b.pl.2,b.cv,I b.tc.1,I b.tc.2,I b.stop] rfl rfl (by simp[OC,(hS1.sl hb.1).cells.2.1]) nW fun A2 H2 hS2=> ?_
 simp only[RT]at hS2
 simp(disch:=omega) only[↓RA,RZ,simprocAttr,hn,hS2.aj 0 rfl,hS2.aj 1 rfl]
 refine hS2.cF (b6q a b (ha.ag hS2) (hb.ag hS2)) fun H3 hS3=> ?_
 simp(disch:=omega) only[↓RA,RZ,simprocAttr,hn]
 refine kG (fun h1=> ?_) (fun h1=> ?_)
 ·have hk:=nK.1 h1
  have hl:(a.cps.length:Int)=b.cps.length:=by
   unfold a1u at hk
   simp only[fO,fJ,ft]at hk
   exact hk.1
  simp(disch:=omega) only[↓RA,RZ,simprocAttr,hn,hS3.ld 0 rfl,(hS3.sl ha.1).len,hS3.ld 1 rfl,(hS3.sl hb.1).len,c8e,h1]
  rw[decide_eq_true hl]
  exact⟨rfl,hS3.forget⟩
 simp(disch:=omega) only[↓RA,RZ,simprocAttr,hn,c8e,h1]
 exact hS3.forget
theorem b3Z(s:Sn)(hs:s.In H):Fn prog 19 [s.v] H fun r H'=>r=I (tT s)∧St prog H H' []:=by
 have hrl:=hs.o.2.2.2.2.2.1
 refine .aL func19 rfl (by kernel_rfl) (m:=64) rfl fun l hn g0=> ?_
 simp(disch:=omega) only[↓RA,RB,simprocAttr,g0]
 refine(sR H).eNew 10 [(.string s.o.name),s.o.rv,s.o.dv,s.o.cv,s.sv,(.int .u64 s.rg.cpl),(.int .u64 s.rg.off),s.kv,I s.p.1,I s.p.2] rfl rfl (by simp[OC,((sR H).sl hs.o.1).cells.2.1,((sR H).sl hs.o.2.2.1).cells.2.1,((sR H).sl hs.o.2.2.2.2.1).cells.2.1,((sR H).sl hs.rg.1).cells.2.1,((sR H).sl hs.ks.sl).cells.2.1]) oI fun A1 H1 hS1=> ?_
 simp only[RT]at hS1
 simp(disch:=omega) only[↓RA,RZ,simprocAttr,hn,hS1.aj 0 rfl]
 refine hS1.cF (a4i s.o (hs.o.ag hS1)) fun H2 hS2=> ?_
 simp(disch:=omega) only[↓RA,RB,simprocAttr,hn]
 refine jA (fun h0=> ?_) (fun h0=> ?_)
 ·have hr:a0A s.o s.rg=organE s.o:=by unfold a0A;rw[if_pos h0]
  simp(disch:=omega) only[↓RA,RZ,simprocAttr,hn,a9b,h0]
  exact⟨by rw[tT,if_pos (by rw[hr];exact h0),hr],hS2.forget⟩
 simp(disch:=omega) only[↓RA,RZ,simprocAttr,hn,hS2.aj 0 rfl,h0]
 refine hS2.cF (c0s s.o (hs.o.ag hS2) s.rg s.sv (hs.rg.ag hS2)) fun H3 hS3=> ?_
 simp(disch:=omega) only[↓RA,RZ,simprocAttr,hn,h0]
 refine jA (fun h1=> ?_) (fun h1=> ?_)
 ·simp(disch:=omega) only[↓RA,RZ,simprocAttr,hn,a9b,h0,h1]
  exact⟨by rw[tT,if_pos h1],hS3.forget⟩
 simp(disch:=omega) only[↓RA,RZ,simprocAttr,hn,hS3.aj 0 rfl,hS3.ld 0 rfl,h0,h1]
 refine hS3.cF (a7M s.o (hs.o.ag hS3) s.kv s.ks (hs.ks.ag hS3)) fun H4 hS4=> ?_
 simp(disch:=omega) only[↓RA,RZ,simprocAttr,hn,h0,h1]
 refine jA (fun h2=> ?_) (fun h2=> ?_)
 ·simp(disch:=omega) only[↓RA,RZ,simprocAttr,hn,a9b,h0,h1,h2]
  exact⟨by rw[tT,if_neg h1,if_pos h2],hS4.forget⟩
 have hE:tT s=if pOk s then 0 else 10:=by rw[tT,if_neg h1,if_neg h2]
 simp(disch:=omega) only[↓RA,RC,simprocAttr,h0,h1,h2]
 refine Wp.drw kS (by kernel_rfl) ?_
 simp(disch:=omega) only[↓RA,RZ,simprocAttr,hn,hS4.ld 0 rfl]
 refine jK (fun h3=> ?_) (fun h3=> ?_)
 ·simp(disch:=omega) only[↓RA,RZ,simprocAttr,hn,a9b,h3]
  exact⟨by rw[hE,if_neg];unfold pOk;simp;omega,hS4.forget⟩
 simp(disch:=omega) only[↓RA,RZ,simprocAttr,hn,hS4.ld 0 rfl,(hS4.sl hs.o.1).len,h3]
 refine jK (fun h4=> ?_) (fun h4=> ?_)
 ·simp(disch:=omega) only[↓RA,RZ,simprocAttr,hn,a9b,h3,h4]
  exact⟨by rw[hE,if_neg];unfold pOk;simp;omega,hS4.forget⟩
 simp(disch:=omega) only[↓RA,RZ,simprocAttr,hn,hS4.ld 0 rfl,h3,h4]
 refine jK (fun h5=> ?_) (fun h5=> ?_)
 ·simp(disch:=omega) only[↓RA,RZ,simprocAttr,hn,a9b,h3,h4,h5]
  exact⟨by rw[hE,if_neg];unfold pOk;simp;omega,hS4.forget⟩
 obtain⟨k,hk⟩:∃k:Nat,s.p.1=k:=⟨s.p.1.toNat,by omega⟩
 simp(disch:=omega) only[↓RA,RZ,simprocAttr,hn,hS4.ld 0 rfl,h5,hk]
 simp(disch:=omega) only[↓RA,RZ,simprocAttr,hn,(hS4.sl hs.o.1).idx,(hS4.sl hs.o.1).bd,(hS4.sl hs.o.1).ld,Rk.cells,(hS4.sl (hs.o.2.1 (jB s.o.ranks k) (jE (by omega))).1).len,h5,hk]
 refine jA (fun h6=> ?_) (fun h6=> ?_)
 ·simp(disch:=omega) only[↓RA,RZ,simprocAttr,hn,a9b,h5,hk,h6]
  exact⟨by rw[hE,if_neg];unfold pOk;rw[hk];simp;omega,hS4.forget⟩
 simp(disch:=omega) only[↓RA,RZ,simprocAttr,hn,a9b,h5,hk,h6]
 exact⟨by rw[hE,if_pos];unfold pOk;rw[hk];simp;omega,hS4.forget⟩
end Go.Ds
namespace Go.Ds
open Go.Proofs Go.Proofs.Tryz
variable {H:Heap}
set_option maxRecDepth 10000
set_option maxHeartbeats 2000000
theorem a3v{P:Program}(t t2:TypeId)(cx cy:Bool)(u x y:UInt8):lK P .add t t2 cx cy (.string ⟨#[u]⟩) (.string ⟨#[x,y]⟩)=some (.string ⟨#[u,x,y]⟩):=by
 rw[nS _ _ _ _ _ _ (by show 1+2<9223372036854775808;decide)]
 rfl
theorem a3s{P:Program}{H:Heap}{s t:TypeId}{v:Value}{n n2:Int}(h:RdAt H v 1 [.int .u8 n,.int .u8 n2])(hs:lY P s=true)(ht:pO P t=true)(hbt:lY P t=false)(h0:0≤n)(h1:n<256)(h2:0≤n2)(h3:n2<256)(K:Value→Heap→Prop):
 tK P s t H v K=K (.string ⟨#[UInt8.ofNat n.toNat,UInt8.ofNat n2.toNat]⟩) H:=by
 obtain⟨m,rfl⟩:∃m:Nat,n=Int.ofNat m:=⟨n.toNat,by simp[fQ h0]⟩
 obtain⟨m2,rfl⟩:∃m:Nat,n2=Int.ofNat m:=⟨n2.toNat,by simp[fQ h2]⟩
 have hm:m<256:=by have:(m:Int)<256:=h1;omega
 have hm2:m2<256:=by have:(m2:Int)<256:=h3;omega
 rcases h with⟨_,h⟩|⟨A,i,e,row,ty,rw,lo,ver,k,g1,g2,g3,g4,g5,g6,rfl⟩
 ·cases h
 have hk:k=2:=by simp at g6;omega
 subst hk
 have hc:kF H A i e 2=some [.int .u8 (Int.ofNat m),.int .u8 (Int.ofNat m2)]:=by
  simp only[kF,g1]
  rw[if_pos (by simp at g4 ⊢;omega)]
  exact congrArg some g5
 have hb:nZ [.int .u8 (Int.ofNat m),.int .u8 (Int.ofNat m2)]=some ⟨#[UInt8.ofNat m,UInt8.ofNat m2]⟩:=by simp[nZ,a1e,a0a,hm,hm2]
 have hd:opD P ⟨none,.convert s t (.const (.slice (some ⟨A,i,some e⟩) 2 1)),t,"",#[],none⟩ [] H=some (.string ⟨#[UInt8.ofNat m,UInt8.ofNat m2]⟩,H):=by
  have hf:flat (.slice (some ⟨A,i,some e⟩) 2 1)=false:=rfl
  simp only[opD,ev,hf,hs,ht,hc,hb,gq,eP,if_false,Bool.and_self,if_true,dC,ew]
 unfold tK
 rw[hd]
 apply propext
 constructor
 ·rintro⟨v,H1,h2,h3⟩
  injection (dA h2)with e1 e2
  subst e1 e2
  exact h3
 ·intro h3
  exact⟨_,_,rfl,h3⟩
def c8g:List ByteArray:=[⟨#[]⟩,⟨#[55]⟩,⟨#[97,32,98]⟩,⟨#[70,105,110,101]⟩]
def c1w:List ByteArray:=[⟨#[]⟩,⟨#[82,48]⟩,⟨#[82,57]⟩]
def c7G:List ByteArray:=[⟨#[]⟩,⟨#[68,48]⟩,⟨#[68,49]⟩,⟨#[83,111,108,111]⟩]
def c2O:List ByteArray:=[⟨#[]⟩,⟨#[83,49]⟩,⟨#[84]⟩,⟨#[83,50]⟩]
def b2N:List ByteArray:=[⟨#[]⟩,⟨#[67,48]⟩,⟨#[68,48]⟩]
def c8s:List (Int×Int):=[(-1,40),(50,40),(0,128),(0,127)]
def nbn(H0:Heap)(vs:List Value):Nat→Prop:=fun B=>nb vs B∧H0.length≤B
structure ChgI(o:Org)(H0 H:Heap)(X:Nat→Prop)(rv:Value)(rks:List Rk)(dvs:List Dvn)(cv:Value)(cps:List Cpl)(d:Dvn):Prop where
 rs:Slx 6 Rk.cells H X rv rks
 ri:∀G,o.In G→∀r∈rks,r.In G
 rl:rks.length<1000000000
 di:∀G,o.In G→∀e∈dvs,e.In G
 dl:dvs.length≤20
 cs:Slx 5 Cpl.cells H X cv cps
 cl:cps.length<1000000000
 ss:Slx 4 Stp.cells H X d.sv d.stops
 si:∀G,o.In G→∀s∈d.stops,s.In G
 sl:d.stops.length<1000000000
 rp:∀r∈rks,∃q∈o.ranks,r.num=q.num∧r.den=q.den∧r.first=q.first
structure OrgN(H0 H:Heap)(o o':Org):Prop where
 rs:Slx 6 Rk.cells H (fun B=>H0.length≤B) o'.rv o'.ranks
 ri:∀G,o.In G→∀r∈o'.ranks,r.In G
 rl:o'.ranks.length<1000000000
 ds:Slx 5 Dvn.cells H (fun B=>H0.length≤B) o'.dv o'.dvs
 di:∀e∈o'.dvs,(∀G,o.In G→e.In G)∨(Slx 4 Stp.cells H (fun B=>H0.length≤B) e.sv e.stops∧(∀G,o.In G→∀s∈e.stops,s.In G)∧e.stops.length<1000000000)
 dl:o'.dvs.length≤20
 cs:Slx 5 Cpl.cells H (fun B=>H0.length≤B) o'.cv o'.cpls
 cl:o'.cpls.length<1000000000
 rp:∀r∈o'.ranks,∃q∈o.ranks,r.num=q.num∧r.den=q.den∧r.first=q.first
theorem OrgN.dy{P:Program}{Hb H1 H2 H3:Heap}{B:Base}{os os3:List Ob}{o o':Org}(h:OrgN H1 H2 o o')(ho:o.In Hb)(hp:St P Hb H1 os)(h2:St P Hb H2 os)(hB:B=⟨H2,qX os⟩)(hE:St P B H3 os3):o'.In H3:=by
 have hU:=h2.ae hB hE
 have hK:=hE.kept hB
 refine⟨((h.rs.step hp.aV).step hK).1,fun r hr=>(h.ri Hb ho r hr).ag hU,((h.ds.step hp.aV).step hK).1,fun e he=> ?_,((h.cs.step hp.aV).step hK).1,h.rl,by have:=h.dl;omega,h.cl⟩
 rcases h.di e he with g|⟨g1,g2,g3⟩
 ·exact(g Hb ho).ag hU
 ·exact⟨((g1.step hp.aV).step hK).1,fun s hs=>(g2 Hb ho s hs).ag hU,g3⟩
theorem a7K{H0:Heap}{A1 A3 A4:Nat}{c1 c3 c4:List Value}{dv wr wc ws:Value}{dvs:List Dvn}{rks:List Rk}{cps:List Cpl}{sts:List Stp}
 (hS:St prog H0 H [⟨ptr A1 0 4,0,c1⟩,⟨ptr A3 0 4,0,c3⟩,⟨dv,5,dvs.flatMap Dvn.cells⟩,⟨ptr A4 0 5,0,c4⟩,⟨wr,6,rks.flatMap Rk.cells⟩,⟨wc,5,cps.flatMap Cpl.cells⟩,⟨ws,4,sts.flatMap Stp.cells⟩]):
 Slx 6 Rk.cells H (nbn H0 [ptr A1 0 4,ptr A3 0 4,dv,ptr A4 0 5]) wr rks∧Slx 5 Cpl.cells H (nbn H0 [ptr A1 0 4,ptr A3 0 4,dv,ptr A4 0 5]) wc cps∧Slx 4 Stp.cells H (nbn H0 [ptr A1 0 4,ptr A3 0 4,dv,ptr A4 0 5]) ws sts∧
  St prog H0 H [⟨ptr A1 0 4,0,c1⟩,⟨ptr A3 0 4,0,c3⟩,⟨dv,5,dvs.flatMap Dvn.cells⟩,⟨ptr A4 0 5,0,c4⟩]:=
 ⟨⟨(hS.cB (os':=[⟨ptr A1 0 4,0,c1⟩,⟨ptr A3 0 4,0,c3⟩,⟨dv,5,dvs.flatMap Dvn.cells⟩,⟨ptr A4 0 5,0,c4⟩]) 4 rfl (fun _=>rfl) [0,1,2,3] (by decide) rfl).1,fun B hb=>⟨(hS.cB (os':=[⟨ptr A1 0 4,0,c1⟩,⟨ptr A3 0 4,0,c3⟩,⟨dv,5,dvs.flatMap Dvn.cells⟩,⟨ptr A4 0 5,0,c4⟩]) 4 rfl (fun _=>rfl) [0,1,2,3] (by decide) rfl).2 B hb,(hS.bN 4 rfl (fun _=>rfl)).2 B hb⟩⟩,
  ⟨(hS.cB (os':=[⟨ptr A1 0 4,0,c1⟩,⟨ptr A3 0 4,0,c3⟩,⟨dv,5,dvs.flatMap Dvn.cells⟩,⟨ptr A4 0 5,0,c4⟩]) 5 rfl (fun _=>rfl) [0,1,2,3] (by decide) rfl).1,fun B hb=>⟨(hS.cB (os':=[⟨ptr A1 0 4,0,c1⟩,⟨ptr A3 0 4,0,c3⟩,⟨dv,5,dvs.flatMap Dvn.cells⟩,⟨ptr A4 0 5,0,c4⟩]) 5 rfl (fun _=>rfl) [0,1,2,3] (by decide) rfl).2 B hb,(hS.bN 5 rfl (fun _=>rfl)).2 B hb⟩⟩,
  ⟨(hS.cB (os':=[⟨ptr A1 0 4,0,c1⟩,⟨ptr A3 0 4,0,c3⟩,⟨dv,5,dvs.flatMap Dvn.cells⟩,⟨ptr A4 0 5,0,c4⟩]) 6 rfl (fun _=>rfl) [0,1,2,3] (by decide) rfl).1,fun B hb=>⟨(hS.cB (os':=[⟨ptr A1 0 4,0,c1⟩,⟨ptr A3 0 4,0,c3⟩,⟨dv,5,dvs.flatMap Dvn.cells⟩,⟨ptr A4 0 5,0,c4⟩]) 6 rfl (fun _=>rfl) [0,1,2,3] (by decide) rfl).2 B hb,(hS.bN 6 rfl (fun _=>rfl)).2 B hb⟩⟩,
  hS.pick [0,1,2,3] (by decide) rfl⟩
theorem nU{o:Org}{H0:Heap}{A1 A3 A4:Nat}{c3:List Value}{nm nd:ByteArray}{pd:Bool}{lo hi:Int}{dv wr wc ws:Value}{dvs:List Dvn}{rks:List Rk}{cps:List Cpl}{sts:List Stp}
 (hS:St prog H0 H [⟨ptr A1 0 4,0,[.string nm,wr,dv,wc]⟩,⟨ptr A3 0 4,0,c3⟩,⟨dv,5,dvs.flatMap Dvn.cells⟩,⟨ptr A4 0 5,0,[.string nd,.bool pd,I lo,I hi,ws]⟩,⟨wr,6,rks.flatMap Rk.cells⟩,⟨wc,5,cps.flatMap Cpl.cells⟩,⟨ws,4,sts.flatMap Stp.cells⟩])
 (ri:∀G,o.In G→∀r∈rks,r.In G) (rl:rks.length<1000000000) (di:∀G,o.In G→∀e∈dvs,e.In G) (dl:dvs.length≤20) (cl:cps.length<1000000000) (si:∀G,o.In G→∀s∈sts,s.In G) (sl:sts.length<1000000000) (rp:∀r∈rks,∃q∈o.ranks,r.num=q.num∧r.den=q.den∧r.first=q.first):
 ∃nm rv rks dv dvs cv cps d,ChgI o H0 H (nbn H0 [ptr A1 0 4,ptr A3 0 4,dv,ptr A4 0 5]) rv rks dvs cv cps d∧
  St prog H0 H [⟨ptr A1 0 4,0,[.string nm,rv,dv,cv]⟩,⟨ptr A3 0 4,0,c3⟩,⟨dv,5,dvs.flatMap Dvn.cells⟩,⟨ptr A4 0 5,0,[.string d.name,.bool d.pedal,I d.lo,I d.hi,d.sv]⟩]:=by
 obtain⟨a,b,c,e⟩:=a7K hS
 exact⟨nm,wr,rks,dv,dvs,wc,cps,⟨nd,pd,lo,hi,ws,sts⟩,⟨a,ri,rl,di,dl,b,cl,c,si,sl,rp⟩,e⟩
theorem a3b{α:Type}{l:List α}{i:Nat}{x:α}{p:α→Prop}(h:∀y∈l,p y)(hx:p x):∀y∈l.set i x,p y:=fun y hy=>by
 rcases List.mem_or_eq_of_mem_set hy with hy|rfl
 ·exact h y hy
 ·exact hx
theorem b3z{o:Org}{H0 H1 H2:Heap}{B:Base}{A1 A3 A4:Nat}{dv rv cv:Value}{c1 c3 c4 d1 d3 d4:List Value}{nm:ByteArray}{rks:List Rk}{dvs ys:List Dvn}{cps:List Cpl}{d:Dvn}
 (hC:ChgI o H0 H1 (nbn H0 [ptr A1 0 4,ptr A3 0 4,dv,ptr A4 0 5]) rv rks dvs cv cps d)
 (hS:St prog H0 H1 [⟨ptr A1 0 4,0,c1⟩,⟨ptr A3 0 4,0,c3⟩,⟨dv,5,dvs.flatMap Dvn.cells⟩,⟨ptr A4 0 5,0,c4⟩])
 (hB:B=⟨H1,qX [⟨ptr A1 0 4,0,c1⟩,⟨ptr A3 0 4,0,c3⟩,⟨dv,5,dvs.flatMap Dvn.cells⟩,⟨ptr A4 0 5,0,c4⟩]⟩)
 (hE:St prog B H2 [⟨ptr A1 0 4,0,d1⟩,⟨ptr A3 0 4,0,d3⟩,⟨dv,5,ys.flatMap Dvn.cells⟩,⟨ptr A4 0 5,0,d4⟩])
 (hy:∀y∈ys,y∈dvs∨y=d) (hyl:ys.length≤20):
 OrgN H0 H2 o ⟨nm,rv,rks,dv,ys,cv,cps⟩∧St prog H0 H2 []:=by
 have hK:Kept H1 (nbn H0 [ptr A1 0 4,ptr A3 0 4,dv,ptr A4 0 5]) H2 (fun B=>H0.length≤B):=fun B hX hl=>⟨(hE.kept hB B hX.1 hl).1,hX.2⟩
 have hU:=hS.ae hB hE
 refine⟨⟨hC.rs.step hK,hC.ri,hC.rl,hU.bN 2 rfl (fun _=>rfl),fun y hy'=> ?_,hyl,hC.cs.step hK,hC.cl,hC.rp⟩,hU.forget⟩
 rcases hy y hy' with h|rfl
 ·exact Or.inl fun G hG=>hC.di G hG y h
 ·exact Or.inr ⟨hC.ss.step hK,hC.si,hC.sl⟩
theorem b0Q(o:Org)(ho:o.In H)(hr0:0<o.ranks.length)(hr:o.ranks.length≤60)(hd0:0<o.dvs.length)(hd:o.dvs.length≤8)(hs:∀j,j<o.dvs.length→(jB o.dvs j).stops.length≤60)(hc:o.cpls.length≤40)(ka aa:Nat)(hka:ka<256)(haa:aa<256):
 Fn prog 18 [.agg #[.string o.name,o.rv,o.dv,o.cv],.agg #[.int .u8 ka,.int .u8 aa]] H fun r H'=>∃o':Org,r=.agg #[.string o'.name,o'.rv,o'.dv,o'.cv]∧OrgN H H' o o'∧St prog H H' []:=by
 have hlr:(o.ranks.flatMap Rk.cells).length=o.ranks.length*6:=jF (n:=6) (fun _=>rfl) _
 have hld:(o.dvs.flatMap Dvn.cells).length=o.dvs.length*5:=jF (n:=5) (fun _=>rfl) _
 have hlc:(o.cpls.flatMap Cpl.cells).length=o.cpls.length*5:=jF (n:=5) (fun _=>rfl) _
 refine .aE func18 rfl (by kernel_rfl) (m:=275) rfl fun l hn g0 g1=> ?_
 simp(disch:=omega) only[↓RA,RB,simprocAttr,g0]
 refine(sR H).eNew 4 [(.string o.name),o.rv,o.dv,o.cv] rfl rfl (by simp[OC,((sR H).sl ho.1).cells.2.1,((sR H).sl ho.2.2.1).cells.2.1,((sR H).sl ho.2.2.2.2.1).cells.2.1]) tO fun A1 H1 hS1=> ?_
 simp only[RT]at hS1
 simp(disch:=omega) only[↓RA,RB,simprocAttr,g1]
 refine hS1.eNew 2 [(.int .u8 ka),(.int .u8 aa)] rfl rfl rfl c8O fun A2 H2 hS2=> ?_
 simp only[RT]at hS2
 simp(disch:=omega) only[↓RA,RZ,simprocAttr]
 refine hS2.eNew 4 [(.string ⟨#[]⟩),(.slice none 0 0),(.slice none 0 0),(.slice none 0 0)] rfl rfl rfl tO fun A3 H3 hS3=> ?_
 simp only[RT]at hS3
 simp(disch:=omega) only[↓RA,simprocAttr]
 refine hS3.ba b2A fun w1 H4 hS4=> ?_
 simp only[RT]at hS4
 simp(disch:=omega) only[↓RA,RZ,simprocAttr,hn,hS4.ld 0 rfl]
 refine hS4.al 3 rfl (hS4.sl ho.1).rd b2A (by simp only[dV];omega) fun w2 H5 hS5=> ?_
 simp only[RT]at hS5
 simp(disch:=omega) only[↓RA,RZ,simprocAttr,hn]
 refine hS5.ab 0 rfl [w2] (by rw[(hS5.rd 3 rfl).cells.1]) (by simp[(hS5.rd 3 rfl).cells.2.1]) c0L (by simp) fun H6 hS6=> ?_
 simp only[RT]at hS6
 simp(disch:=omega) only[↓RA,simprocAttr]
 refine hS6.ba b0w fun w3 H7 hS7=> ?_
 simp only[RT]at hS7
 simp(disch:=omega) only[↓RA,RZ,simprocAttr,hn]
 simp(disch:=omega) only[↓RA,RZ,simprocAttr,hn,hS7.ld 0 rfl]
 refine hS7.al 4 rfl (hS7.sl ho.2.2.1).rd b0w (by simp only[dV];omega) fun w4 H8 hS8=> ?_
 simp only[RT]at hS8
 simp(disch:=omega) only[↓RA,RZ,simprocAttr,hn]
 refine hS8.ab 0 rfl [w4] (by rw[(hS8.rd 4 rfl).cells.1]) (by simp[(hS8.rd 4 rfl).cells.2.1]) b7O (by simp) fun H9 hS9=> ?_
 simp only[RT]at hS9
 simp(disch:=omega) only[↓RA,simprocAttr]
 refine hS9.ba a1f fun w5 H10 hS10=> ?_
 simp only[RT]at hS10
 simp(disch:=omega) only[↓RA,RZ,simprocAttr,hn]
 simp(disch:=omega) only[↓RA,RZ,simprocAttr,hn,hS10.ld 0 rfl]
 refine hS10.al 5 rfl (hS10.sl ho.2.2.2.2.1).rd a1f (by simp only[dV];omega) fun w6 H11 hS11=> ?_
 simp only[RT]at hS11
 simp(disch:=omega) only[↓RA,RZ,simprocAttr,hn]
 obtain⟨i,hi⟩:∃i,i=aa%o.ranks.length:=⟨_,rfl⟩
 obtain⟨k,hk⟩:∃k,k=aa%o.dvs.length:=⟨_,rfl⟩
 have hil:i<o.ranks.length:=by rw[hi];exact eU _ hr0
 have hkl:k<o.dvs.length:=by rw[hk];exact eU _ hd0
 have e1:(aa:Int).tmod (o.ranks.length:Int)=(i:Int):=by rw[hi];exact(eF _ _).symm
 have e2:(aa:Int).tmod (o.dvs.length:Int)=(k:Int):=by rw[hk];exact(eF _ _).symm
 have e3:(ka:Int).tmod 16=((ka%16:Nat):Int):=(eF _ _).symm
 have hsk:=hs k hkl
 have hls:((jB o.dvs k).stops.flatMap Stp.cells).length=(jB o.dvs k).stops.length*4:=jF (n:=4) (fun _=>rfl) _
 refine hS11.ab 0 rfl [w6] (by rw[(hS11.rd 5 rfl).cells.1]) (by simp[(hS11.rd 5 rfl).cells.2.1]) b0W (by simp) fun H12 hS12=> ?_
 simp only[RT]at hS12
 simp(disch:=omega) only[↓RA,RB,simprocAttr]
 refine Wp.drw kS (by kernel_rfl) ?_
 simp(disch:=omega) only[↓RA,RZ,simprocAttr,hn,hS12.ld 1 rfl,hS12.ld 0 rfl,(hS12.av 3 rfl (fun _=>rfl)).len,(hS12.av 4 rfl (fun _=>rfl)).len,e1,e2]
 simp(disch:=omega) only[↓RA,RZ,simprocAttr,hn,(hS12.av 4 rfl (fun _=>rfl)).idx,(hS12.av 4 rfl (fun _=>rfl)).aj,Dvn.cells]
 refine hS12.eNew 5 [(.string ⟨#[]⟩),(.bool false),I 0,I 0,(.slice none 0 0)] rfl rfl rfl qC fun A4 H13 hS13=> ?_
 simp only[RT]at hS13
 simp(disch:=omega) only[↓RA,RB,simprocAttr,hn]
 refine hS13.ab 6 rfl [(.string (jB o.dvs k).name),(.bool (jB o.dvs k).pedal),I (jB o.dvs k).lo,I (jB o.dvs k).hi,(jB o.dvs k).sv] rfl (by simp[OC,(hS13.sl (ho.2.2.2.1 (jB o.dvs k) (jE (by omega))).1).cells.2.1]) qC (by simp) fun H14 hS14=> ?_
 simp only[RT]at hS14
 simp(disch:=omega) only[↓RA,simprocAttr]
 refine hS14.ba a3L fun w7 H15 hS15=> ?_
 simp only[RT]at hS15
 simp(disch:=omega) only[↓RA,RZ,simprocAttr,hn,hS15.ld 6 rfl]
 refine hS15.al 7 rfl (hS15.sl (ho.2.2.2.1 (jB o.dvs k) (jE (by omega))).1).rd a3L (by simp only[dV];omega) fun w8 H16 hS16=> ?_
 simp only[RT]at hS16
 simp(disch:=omega) only[↓RA,RZ,simprocAttr,hn]
 refine hS16.ab 6 rfl [w8] (by rw[(hS16.rd 7 rfl).cells.1]) (by simp[(hS16.rd 7 rfl).cells.2.1]) b3o (by simp) fun H17 hS17=> ?_
 simp only[RT]at hS17
 simp(disch:=omega) only[↓RA,RZ,simprocAttr,hn,hS17.ld 1 rfl,e3]
 have f4:(aa:Int).tmod 4=((aa%4:Nat):Int):=(eF _ _).symm
 have f3:(aa:Int).tmod 3=((aa%3:Nat):Int):=(eF _ _).symm
 have f2:(aa:Int).tmod 2=((aa%2:Nat):Int):=(eF _ _).symm
 have f5:(aa:Int).tmod 5=((aa%5:Nat):Int):=(eF _ _).symm
 have x4:aa%4<4:=eU _ (by decide)
 have x3:aa%3<3:=eU _ (by decide)
 have x2:aa%2<2:=eU _ (by decide)
 have hci:Sl 5 Cpl.cells H o.cv o.cpls:=ho.2.2.2.2.1
 have hdi:=ho.2.2.2.1
 have hdk:=hdi _ (jE hkl)
 have GP:∀r∈o.ranks,∃q∈o.ranks,r.num=q.num∧r.den=q.den∧r.first=q.first:=fun r h=>⟨r,h,rfl,rfl,rfl⟩
 have GR:∀G,o.In G→∀r∈o.ranks,r.In G:=fun _ hG=>hG.2.1
 have GD:∀G,o.In G→∀e∈o.dvs,e.In G:=fun _ hG=>hG.2.2.2.1
 have GS:∀G,o.In G→∀s∈(jB o.dvs k).stops,s.In G:=fun G hG=>(GD G hG _ (jE hkl)).2.1
 have hS18:St prog H H17 [⟨ptr A1 0 4,0,_⟩,⟨ptr A2 0 2,0,_⟩,⟨ptr A3 0 4,0,_⟩,⟨w2,6,o.ranks.flatMap Rk.cells⟩,⟨w4,5,_⟩,⟨w6,5,_⟩,⟨ptr A4 0 5,0,_⟩,⟨w8,4,_⟩]:=hS17
 have hS19:St prog H H17 [⟨ptr A1 0 4,0,_⟩,⟨ptr A2 0 2,0,_⟩,⟨ptr A3 0 4,0,_⟩,⟨w2,6,_⟩,⟨w4,5,o.dvs.flatMap Dvn.cells⟩,⟨w6,5,_⟩,⟨ptr A4 0 5,0,_⟩,⟨w8,4,_⟩]:=hS18
 have hS20:St prog H H17 [⟨ptr A1 0 4,0,_⟩,⟨ptr A2 0 2,0,_⟩,⟨ptr A3 0 4,0,_⟩,⟨w2,6,_⟩,⟨w4,5,_⟩,⟨w6,5,o.cpls.flatMap Cpl.cells⟩,⟨ptr A4 0 5,0,_⟩,⟨w8,4,_⟩]:=hS19
 have hS21:St prog H H17 [⟨ptr A1 0 4,0,_⟩,⟨ptr A2 0 2,0,_⟩,⟨ptr A3 0 4,0,_⟩,⟨w2,6,_⟩,⟨w4,5,_⟩,⟨w6,5,_⟩,⟨ptr A4 0 5,0,_⟩,⟨w8,4,(jB o.dvs k).stops.flatMap Stp.cells⟩]:=hS20
 refine zS (fun l H'=>l.length=275∧get l 2=(ptr A1 0 4)∧get l 4=(ptr A3 0 4)∧get l 6=I k∧get l 7=(ptr A4 0 5)∧∃(nm:ByteArray)(rv:Value)(rks:List Rk)(dv:Value)(dvs:List Dvn)(cv:Value)(cps:List Cpl)(d:Dvn),(ChgI o H H' (nbn H [ptr A1 0 4,ptr A3 0 4,dv,ptr A4 0 5]) rv rks dvs cv cps d)∧St prog H H' [⟨ptr A1 0 4,0,[.string nm,rv,dv,cv]⟩,⟨ptr A3 0 4,0,[(.string ⟨#[]⟩),(.slice none 0 0),(.slice none 0 0),(.slice none 0 0)]⟩,⟨dv,5,dvs.flatMap Dvn.cells⟩,⟨ptr A4 0 5,0,[.string d.name,.bool d.pedal,I d.lo,I d.hi,d.sv]⟩]) ?_ ?_
 ·rintro l H18⟨hn,g2,g4,g6,g7,nm,rv,rks,dv,dvs,cv,cps,d,hC,hS22⟩
  have hdl9:=hC.dl
  obtain⟨BX,hBBX,hS23⟩:=hS22.aB (os:=[⟨ptr A1 0 4,0,_⟩,⟨ptr A3 0 4,0,_⟩,⟨dv,5,_⟩,⟨ptr A4 0 5,0,_⟩])
  simp(disch:=omega) only[↓RA,RZ,simprocAttr,hn,g2,g6,hS23.ld 0 rfl,(hS23.av 2 rfl (fun _=>rfl)).len]
  refine jA (fun hkd=> ?_) (fun hkd=> ?_)
  ·have hkd2:k<dvs.length:=by omega
   simp(disch:=omega) only[↓RA,RZ,simprocAttr,hn,g2,g6,g7,hS23.ld 0 rfl,hS23.aj 3 rfl,(hS23.av 2 rfl (fun _=>rfl)).idx,hkd]
   refine hS23.aU 2 rfl [(.string d.name),(.bool d.pedal),I d.lo,I d.hi,d.sv] rfl (by simp[OC,(hC.ss.1.cells).2.1]) qC (by simp) (by rw[jF (n:=5) (cel:=Dvn.cells) (fun _=>rfl)];simp only[dS,dV];omega) fun H19 hS24=> ?_
   simp only[RT]at hS24
   simp(disch:=omega) only[↓RA,RZ,simprocAttr,hn,g2,g4,hS24.aj 0 rfl,hkd]
   refine hS24.ab 1 rfl [(.string nm),rv,dv,cv] rfl (by simp[OC,(hC.rs.1.cells).2.1,(hS24.rd 2 rfl).cells.2.1,(hC.cs.1.cells).2.1]) tO (by simp) fun H20 hS25=> ?_
   simp only[RT]at hS25
   simp(disch:=omega) only[↓RA,RZ,simprocAttr,g4,c8E,hS25.aj 1 rfl,hkd]
   have hset:(((((dvs.flatMap Dvn.cells).set (k*5) (.string d.name)).set (k*5+1) (.bool d.pedal)).set (k*5+1+1) (I d.lo)).set (k*5+1+1+1) (I d.hi)).set (k*5+1+1+1+1) d.sv=(dvs.set k d).flatMap Dvn.cells:=by
    rw[←oK ((((((_:List Value).set (k*5) _).set (k*5+1) _).set (k*5+1+1) _).set (k*5+1+1+1) _).set (k*5+1+1+1+1) _) (k*5+1+1+1+1+1),←kP,←kP,←kP,←kP,←kP]
    exact uN (n:=5) (cel:=Dvn.cells) (fun _=>rfl) dvs k 0 [_,_,_,_,_] d hkd2 (by simp) rfl
   rw[hset]at hS25
   obtain⟨h8,h9⟩:=b3z (nm:=nm) hC hS22 hBBX hS25 (fun y hy=>by
    rcases List.mem_or_eq_of_mem_set hy with h|h
    ·exact Or.inl h
    ·exact Or.inr h) (by rw[gF];exact hC.dl)
   exact⟨_,rfl,h8,h9⟩
  simp(disch:=omega) only[↓RA,RZ,simprocAttr,hn,g2,g4,hS23.aj 0 rfl,hkd]
  refine hS23.ab 1 rfl [(.string nm),rv,dv,cv] rfl (by simp[OC,(hC.rs.1.cells).2.1,(hS23.rd 2 rfl).cells.2.1,(hC.cs.1.cells).2.1]) tO (by simp) fun H21 hS26=> ?_
  simp only[RT]at hS26
  simp(disch:=omega) only[↓RA,RZ,simprocAttr,g4,c8E,hS26.aj 1 rfl,hkd]
  obtain⟨h8,h9⟩:=b3z (nm:=nm) hC hS22 hBBX hS26 (fun y hy=>Or.inl hy) hC.dl
  exact⟨_,rfl,h8,h9⟩
 have tl1:c8g.length=4:=rfl
 have tl3:c1w.length=3:=rfl
 have tl7:c7G.length=4:=rfl
 have tl8:c8s.length=4:=rfl
 have tl9:c2O.length=4:=rfl
 have tl13:b2N.length=3:=rfl
 have hrI:=jE hil
 refine jA (fun k1=> ?_) (fun k1=> ?_)
 ·simp(disch:=omega) only[↓RA,RB,simprocAttr,jQ]
  refine hS21.ai [(.string ⟨#[]⟩),(.string ⟨#[55]⟩),(.string ⟨#[97,32,98]⟩),(.string ⟨#[70,105,110,101]⟩)] a0g a2o rfl rfl (by simp[Value.cells]) rfl rfl (by decide) (by decide) fun w9 H22 hS27=> ?_
  simp only[RT]at hS27
  simp(disch:=omega) only[↓RA,RZ,simprocAttr,hn,k1]
  have hS28:St prog H H22 [⟨ptr A1 0 4,0,_⟩,⟨ptr A2 0 2,0,_⟩,⟨ptr A3 0 4,0,_⟩,⟨w2,6,_⟩,⟨w4,5,_⟩,⟨w6,5,_⟩,⟨ptr A4 0 5,0,_⟩,⟨w8,4,_⟩,⟨w9,1,c8g.flatMap (one Value.string)⟩]:=hS27
  simp(disch:=omega) only[↓RA,RZ,simprocAttr,hn,hS28.ld 1 rfl,(hS28.av 8 rfl (mC _)).idx,(hS28.av 8 rfl (mC _)).ld,one,f4,k1]
  refine hS28.ab 0 rfl [_] rfl rfl tS9 (by simp) fun H23 hS29=> ?_
  simp only[RT]at hS29
  simp(disch:=omega) only[↓RA,RZ,simprocAttr,hn,k1]
  exact nU (hS29.pick [0,2,4,6,3,5,7] (by decide) rfl) GR ho.2.2.2.2.2.1 GD (by omega) ho.2.2.2.2.2.2.2 GS hdk.2.2 GP
 simp(disch:=omega) only[↓RA,RZ,simprocAttr,hn,k1]
 refine jA (fun k2=> ?_) (fun k2=> ?_)
 ·skip
  simp(disch:=omega) only[↓RA,RZ,simprocAttr,hn,hS21.ld 0 rfl,(hS21.av 3 rfl (fun _=>rfl)).idx,(hS21.av 3 rfl (fun _=>rfl)).bd,jQ,k2]
  refine hS21.aU 3 rfl [(.slice none 0 0)] rfl rfl b0N (by simp) (by rw[hlr];simp only[dS,dV];omega) fun H24 hS30=> ?_
  simp only[RT]at hS30
  simp(disch:=omega) only[↓RA,RZ,simprocAttr,hn,k2]
  have hset:(o.ranks.flatMap Rk.cells).set (i*(5+1)+5) (.slice none 0 0)=(o.ranks.set i {jB o.ranks i with wv:=.slice none 0 0,wind:=[]}).flatMap Rk.cells:=by
   rw[←oK ((_:List Value).set (i*(5+1)+5) _) (i*(5+1)+5+1),←kP]
   exact uN (n:=6) (cel:=Rk.cells) (fun _=>rfl) o.ranks i 5 [_] _ hil (by simp) rfl
  rw[hset]at hS30
  exact nU (hS30.pick [0,2,4,6,3,5,7] (by decide) rfl) (fun G hG=>a3b (GR G hG) ⟨⟨.inl ⟨rfl,rfl⟩,mC _,by decide⟩,(by decide:(0:Nat)<1000000000)⟩) (by rw[gF];exact ho.2.2.2.2.2.1) GD (by omega) ho.2.2.2.2.2.2.2 GS hdk.2.2 (a3b GP ⟨jB o.ranks i,hrI,rfl,rfl,rfl⟩)
 simp(disch:=omega) only[↓RA,RZ,simprocAttr,hn,k1,k2]
 refine jA (fun k3=> ?_) (fun k3=> ?_)
 ·skip
  simp(disch:=omega) only[↓RA,RZ,simprocAttr,k3]
  refine Wp.aF kS [(1,4),(5,0)] (by kernel_rfl) (by kernel_rfl) ?_
  simp(disch:=omega) only[↓RA,RZ,simprocAttr,hn,hS21.ld 0 rfl,jQ]
  refine hS21.ai [(.string ⟨#[]⟩),(.string ⟨#[82,48]⟩),(.string ⟨#[82,57]⟩)] a0g a2o rfl rfl (by simp[Value.cells]) rfl rfl (by decide) (by decide) fun w10 H25 hS31=> ?_
  simp only[RT]at hS31
  simp(disch:=omega) only[↓RA,RZ,simprocAttr,hn]
  have hS32:St prog H H25 [⟨ptr A1 0 4,0,_⟩,⟨ptr A2 0 2,0,_⟩,⟨ptr A3 0 4,0,_⟩,⟨w2,6,_⟩,⟨w4,5,_⟩,⟨w6,5,_⟩,⟨ptr A4 0 5,0,_⟩,⟨w8,4,_⟩,⟨w10,1,c1w.flatMap (one Value.string)⟩]:=hS31
  simp(disch:=omega) only[↓RA,RZ,simprocAttr,hn,hS32.ld 1 rfl,(hS32.av 8 rfl (mC _)).idx,(hS32.av 8 rfl (mC _)).ld,one,(hS32.av 3 rfl (fun _=>rfl)).idx,(hS32.av 3 rfl (fun _=>rfl)).bd,f3]
  refine hS32.aU 3 rfl [_] rfl rfl tS9 (by simp) (by rw[hlr];simp only[dS,dV];omega) fun H26 hS33=> ?_
  simp only[RT]at hS33
  simp(disch:=omega) only[↓RA,RZ,simprocAttr,hn,hS32.ld 0 rfl,hS21.ld 1 rfl]
  have hset:(o.ranks.flatMap Rk.cells).set (i*(5+1)) (.string (jB c1w (aa%3)))=(o.ranks.set i {jB o.ranks i with name:=jB c1w (aa%3)}).flatMap Rk.cells:=by
   rw[←oK ((_:List Value).set (i*(5+1)) _) (i*(5+1)+1),←kP]
   exact uN (n:=6) (cel:=Rk.cells) (fun _=>rfl) o.ranks i 0 [_] _ hil (by simp) rfl
  rw[hset]at hS33
  exact nU (hS33.pick [0,2,4,6,3,5,7] (by decide) rfl) (fun G hG=>a3b (GR G hG) (show Rk.In G _ from GR G hG (jB o.ranks i) hrI)) (by rw[gF];exact ho.2.2.2.2.2.1) GD (by omega) ho.2.2.2.2.2.2.2 GS hdk.2.2 (a3b GP ⟨jB o.ranks i,hrI,rfl,rfl,rfl⟩)
 simp(disch:=omega) only[↓RA,RZ,simprocAttr,hn,k1,k2,k3]
 refine jA (fun k4=> ?_) (fun k4=> ?_)
 ·simp(disch:=omega) only[↓RA,RZ,simprocAttr,k4]
  refine Wp.aq (fun n l H'=>l.length=275∧get l 2=(ptr A1 0 4)∧get l 3=(ptr A2 0 2)∧get l 4=(ptr A3 0 4)∧get l 6=I k∧get l 7=(ptr A4 0 5)∧∃(wr:Value)(rks:List Rk),(n+rks.length=100∧0<rks.length∧rks.length≤61∧(∀G,o.In G→∀r∈rks,r.In G)∧(∀r∈rks,∃q∈o.ranks,r.num=q.num∧r.den=q.den∧r.first=q.first))∧St prog H H' [⟨ptr A1 0 4,0,[.string o.name,wr,w4,w6]⟩,⟨ptr A2 0 2,0,[(.int .u8 ka),(.int .u8 aa)]⟩,⟨ptr A3 0 4,0,[(.string ⟨#[]⟩),(.slice none 0 0),(.slice none 0 0),(.slice none 0 0)]⟩,⟨wr,6,rks.flatMap Rk.cells⟩,⟨w4,5,o.dvs.flatMap Dvn.cells⟩,⟨w6,5,o.cpls.flatMap Cpl.cells⟩,⟨ptr A4 0 5,0,[(.string (jB o.dvs k).name),(.bool (jB o.dvs k).pedal),I (jB o.dvs k).lo,I (jB o.dvs k).hi,w8]⟩,⟨w8,4,(jB o.dvs k).stops.flatMap Stp.cells⟩]) (100-o.ranks.length) ?_ ?_
  ·simp(disch:=omega) only[RB,RC,simprocAttr,hn]
   exact⟨_,o.ranks,⟨by omega,hr0,by omega,GR,GP⟩,hS21⟩
  rintro n l H27⟨hn,g2,g3,g4,g6,g7,wr,rks,hj,hS34⟩
  obtain⟨j1,j2,j3,J4,J5⟩:=hj
  have j4:=J4 H ho
  have hlk:(rks.flatMap Rk.cells).length=rks.length*6:=jF (n:=6) (fun _=>rfl) _
  simp(disch:=omega) only[↓RA,RZ,simprocAttr,hn,g2,g3,hS34.ld 0 rfl,(hS34.av 3 rfl (fun _=>rfl)).len,hS34.ld 1 rfl,f2]
  refine jA (fun q=> ?_) (fun q=> ?_)
  ·have q1:(rks.length:Int).tdiv 10=((rks.length/10:Nat):Int):=(Int.ofNat_tdiv _ _).symm
   have q2:(rks.length:Int).tmod 10=((rks.length%10:Nat):Int):=(eF _ _).symm
   simp(disch:=omega) only[↓RA,RZ,simprocAttr,hn,g2,hS34.ld 0 rfl,(hS34.av 3 rfl (fun _=>rfl)).idx,(hS34.av 3 rfl (fun _=>rfl)).aj,Rk.cells,q]
   refine hS34.eNew 6 [(.string ⟨#[]⟩),(.string ⟨#[]⟩),I 0,I 0,I 0,(.slice none 0 0)] rfl rfl rfl tJ fun A5 H28 hS35=> ?_
   simp only[RT]at hS35
   simp(disch:=omega) only[↓RA,RZ,simprocAttr,hn,q]
   refine hS35.ab 8 rfl [(.string (jB rks 0).name),(.string (jB rks 0).tone),I (jB rks 0).num,I (jB rks 0).den,I (jB rks 0).first,(jB rks 0).wv] rfl (by simp[OC,(hS35.sl (j4 (jB rks 0) (jE (by omega))).1).cells.2.1]) tJ (by simp) fun H29 hS36=> ?_
   simp only[RT]at hS36
   simp(disch:=omega) only[↓RA,RZ,simprocAttr,hn,g2,hS36.ld 0 rfl,(hS36.av 3 rfl (fun _=>rfl)).len,q,q1,q2]
   refine hS36.ai [_,_] a2T a3u rfl rfl (by simp[Value.cells]) rfl rfl (by decide) (by decide) fun w11 H30 hS37=> ?_
   simp only[RT]at hS37
   simp(disch:=omega) only[↓RA,RZ,simprocAttr,hn,a3s (hS37.rd 9 rfl) mB.1 mB.2.1 mB.2.2,q,a3v]
   refine hS37.ab 8 rfl [_] rfl rfl tS9 (by simp) fun H31 hS38=> ?_
   simp only[RT]at hS38
   simp(disch:=omega) only[↓RA,RZ,simprocAttr,hn,g2,q]
   simp(disch:=omega) only[↓RA,RZ,simprocAttr,hn,hS38.ld 0 rfl,hS38.aj 8 rfl,q]
   refine hS38.ai [(.string ⟨#[88,UInt8.ofNat (48+((rks.length/10:Nat):Int)).toNat,UInt8.ofNat (48+((rks.length%10:Nat):Int)).toNat]⟩),(.string (jB rks 0).tone),I (jB rks 0).num,I (jB rks 0).den,I (jB rks 0).first,(jB rks 0).wv] b2A c5l rfl rfl (by first|(simp[];done)|simp[Value.cells]) (by first|(simp[];done)|simp[Value.cells]) (by simp[OC,(hS38.sl (j4 (jB rks 0) (jE (by omega))).1).cells.2.1]) (by decide) (by decide) fun w12 H32 hS39=> ?_
   simp only[RT]at hS39
   simp(disch:=omega) only[↓RA,RZ,simprocAttr,hn,q]
   refine hS39.al 3 rfl (hS39.rd 10 rfl) b2A (by rw[hlk];simp only[dS,dV];omega) fun w13 H33 hS40=> ?_
   simp only[RT]at hS40
   simp(disch:=omega) only[↓RA,RZ,simprocAttr,hn,g2,q]
   refine hS40.ab 0 rfl [w13] (by rw[(hS40.rd 3 rfl).cells.1]) (by simp[(hS40.rd 3 rfl).cells.2.1]) c0L (by simp) fun H34 hS41=> ?_
   simp only[RT]at hS41
   simp(disch:=omega) only[↓RA,RZ,simprocAttr,hn,g2,g3,g4,g6,g7,q]
   have happ:rks.flatMap Rk.cells++[.string ⟨#[88,UInt8.ofNat (48+((rks.length/10:Nat):Int)).toNat,UInt8.ofNat (48+((rks.length%10:Nat):Int)).toNat]⟩,.string (jB rks 0).tone,I (jB rks 0).num,I (jB rks 0).den,I (jB rks 0).first,(jB rks 0).wv]=(rks++[{jB rks 0 with name:=⟨#[88,UInt8.ofNat (48+((rks.length/10:Nat):Int)).toNat,UInt8.ofNat (48+((rks.length%10:Nat):Int)).toNat]⟩}]).flatMap Rk.cells:=by rw[dP];rfl
   rw[happ]at hS41
   exact⟨n-1,by omega,w13,rks++[_],⟨by rw[dH];simp only[dS,dV];omega,by rw[dH];omega,by rw[dH];simp only[dS,dV];omega,fun G hG r hr=>by
    rcases eo.1 hr with h|h
    ·exact J4 G hG r h
    ·rw[dZ.1 h]
     exact(show Rk.In G _ from J4 G hG (jB rks 0) (jE j2)),fun r hr=>by
    rcases eo.1 hr with h|h
    ·exact J5 r h
    ·rw[dZ.1 h]
     exact J5 (jB rks 0) (jE j2)⟩,hS41.pick [0,1,2,3,4,5,6,7] (by decide) rfl⟩
  simp(disch:=omega) only[↓RA,RZ,simprocAttr,hn,g2,g4,g6,g7,jQ,q]
  exact nU (hS34.pick [0,2,4,6,3,5,7] (by decide) rfl) J4 (by omega) GD (by omega) ho.2.2.2.2.2.2.2 GS hdk.2.2 J5
 simp(disch:=omega) only[↓RA,RZ,simprocAttr,hn,k1,k2,k3,k4]
 refine jA (fun k5=> ?_) (fun k5=> ?_)
 ·simp(disch:=omega) only[↓RA,RZ,simprocAttr,hn,jQ,k5]
  refine hS21.ab 0 rfl [(.slice none 0 0)] rfl rfl b7O (by simp) fun H35 hS42=> ?_
  simp only[RT]at hS42
  simp(disch:=omega) only[↓RA,RZ,simprocAttr,hn,k5]
  have hN:=hS42.nil 4
  exact nU (hN.pick [0,2,8,6,3,5,7] (by decide) rfl) GR ho.2.2.2.2.2.1 (dvs:=[]) (fun _ _ e he=>by cases he) (fu _) ho.2.2.2.2.2.2.2 GS hdk.2.2 GP
 simp(disch:=omega) only[↓RA,RZ,simprocAttr,hn,k1,k2,k3,k4,k5]
 refine jA (fun k6=> ?_) (fun k6=> ?_)
 ·simp(disch:=omega) only[↓RA,RZ,simprocAttr,k6]
  refine Wp.aq (fun n l H'=>l.length=275∧get l 2=(ptr A1 0 4)∧get l 3=(ptr A2 0 2)∧get l 4=(ptr A3 0 4)∧get l 6=I k∧get l 7=(ptr A4 0 5)∧∃(wd:Value)(ds:List Dvn),(n+ds.length=100∧ds.length≤9∧(∀G,o.In G→∀e∈ds,e.In G))∧St prog H H' [⟨ptr A1 0 4,0,[.string o.name,w2,wd,w6]⟩,⟨ptr A2 0 2,0,[(.int .u8 ka),(.int .u8 aa)]⟩,⟨ptr A3 0 4,0,[(.string ⟨#[]⟩),(.slice none 0 0),(.slice none 0 0),(.slice none 0 0)]⟩,⟨w2,6,o.ranks.flatMap Rk.cells⟩,⟨wd,5,ds.flatMap Dvn.cells⟩,⟨w6,5,o.cpls.flatMap Cpl.cells⟩,⟨ptr A4 0 5,0,[(.string (jB o.dvs k).name),(.bool (jB o.dvs k).pedal),I (jB o.dvs k).lo,I (jB o.dvs k).hi,w8]⟩,⟨w8,4,(jB o.dvs k).stops.flatMap Stp.cells⟩]) (100-o.dvs.length) ?_ ?_
  ·simp(disch:=omega) only[RB,RC,simprocAttr,hn]
   exact⟨_,o.dvs,⟨by omega,by omega,GD⟩,hS21⟩
  rintro n l H36⟨hn,g2,g3,g4,g6,g7,wd,ds,hj,hS43⟩
  obtain⟨j1,j3,J4⟩:=hj
  have j4:=J4 H ho
  have hlk:(ds.flatMap Dvn.cells).length=ds.length*5:=jF (n:=5) (fun _=>rfl) _
  simp(disch:=omega) only[↓RA,RZ,simprocAttr,hn,g2,g3,hS43.ld 0 rfl,(hS43.av 4 rfl (fun _=>rfl)).len,hS43.ld 1 rfl,f2]
  refine jA (fun q=> ?_) (fun q=> ?_)
  ·skip
   simp(disch:=omega) only[↓RA,RZ,simprocAttr,hn,g2,hS43.ld 0 rfl,(hS43.av 4 rfl (fun _=>rfl)).len,q]
   refine hS43.ai [_] a2T a3u rfl rfl (by simp[Value.cells]) rfl rfl (by decide) (by decide) fun w14 H37 hS44=> ?_
   simp only[RT]at hS44
   simp(disch:=omega) only[↓RA,RZ,simprocAttr,hn,tW (hS44.rd 8 rfl) mB.1 mB.2.1 mB.2.2,tC,q]
   simp(disch:=omega) only[↓RA,RZ,simprocAttr,hn,c3y,q]
   refine hS44.ai [(.string ⟨#[69,UInt8.ofNat (48+(ds.length:Int)).toNat]⟩),(.bool false),I 0,I 0,(.slice none 0 0)] b0w c6f rfl rfl (by simp[Value.cells]) rfl rfl (by decide) (by decide) fun w15 H38 hS45=> ?_
   simp only[RT]at hS45
   simp(disch:=omega) only[↓RA,RZ,simprocAttr,hn,q]
   refine hS45.al 4 rfl (hS45.rd 9 rfl) b0w (by rw[hlk];simp only[dS,dV];omega) fun w16 H39 hS46=> ?_
   simp only[RT]at hS46
   simp(disch:=omega) only[↓RA,RZ,simprocAttr,hn,g2,q]
   refine hS46.ab 0 rfl [w16] (by rw[(hS46.rd 4 rfl).cells.1]) (by simp[(hS46.rd 4 rfl).cells.2.1]) b7O (by simp) fun H40 hS47=> ?_
   simp only[RT]at hS47
   simp(disch:=omega) only[↓RA,RZ,simprocAttr,hn,g2,g3,g4,g6,g7,q]
   have happ:ds.flatMap Dvn.cells++[.string ⟨#[69,UInt8.ofNat (48+(ds.length:Int)).toNat]⟩,.bool false,I 0,I 0,.slice none 0 0]=(ds++[(⟨⟨#[69,UInt8.ofNat (48+(ds.length:Int)).toNat]⟩,false,0,0,.slice none 0 0,[]⟩:Dvn)]).flatMap Dvn.cells:=by rw[dP];rfl
   rw[happ]at hS47
   exact⟨n-1,by omega,w16,ds++[_],⟨by rw[dH];simp only[dS,dV];omega,by rw[dH];simp only[dS,dV];omega,fun G hG e he=>by
    rcases eo.1 he with h|h
    ·exact J4 G hG e h
    ·rw[dZ.1 h]
     exact⟨⟨.inl ⟨rfl,rfl⟩,fun _=>rfl,by decide⟩,(fun s hs=>by cases hs),(by decide:(0:Nat)<1000000000)⟩⟩,hS47.pick [0,1,2,3,4,5,6,7] (by decide) rfl⟩
  simp(disch:=omega) only[↓RA,RZ,simprocAttr,hn,g2,g4,g6,g7,jQ,q]
  exact nU (hS43.pick [0,2,4,6,3,5,7] (by decide) rfl) GR ho.2.2.2.2.2.1 J4 (by omega) ho.2.2.2.2.2.2.2 GS hdk.2.2 GP
 simp(disch:=omega) only[↓RA,RZ,simprocAttr,hn,k1,k2,k3,k4,k5,k6]
 refine jA (fun k7=> ?_) (fun k7=> ?_)
 ·simp(disch:=omega) only[↓RA,RB,simprocAttr,jQ]
  refine hS21.ai [(.string ⟨#[]⟩),(.string ⟨#[68,48]⟩),(.string ⟨#[68,49]⟩),(.string ⟨#[83,111,108,111]⟩)] a0g a2o rfl rfl (by simp[Value.cells]) rfl rfl (by decide) (by decide) fun w17 H41 hS48=> ?_
  simp only[RT]at hS48
  simp(disch:=omega) only[↓RA,RZ,simprocAttr,hn,k7]
  have hS49:St prog H H41 [⟨ptr A1 0 4,0,_⟩,⟨ptr A2 0 2,0,_⟩,⟨ptr A3 0 4,0,_⟩,⟨w2,6,_⟩,⟨w4,5,_⟩,⟨w6,5,_⟩,⟨ptr A4 0 5,0,_⟩,⟨w8,4,_⟩,⟨w17,1,c7G.flatMap (one Value.string)⟩]:=hS48
  simp(disch:=omega) only[↓RA,RZ,simprocAttr,hn,hS49.ld 1 rfl,(hS49.av 8 rfl (mC _)).idx,(hS49.av 8 rfl (mC _)).ld,one,f4,k7]
  refine hS49.ab 6 rfl [_] rfl rfl tS9 (by simp) fun H42 hS50=> ?_
  simp only[RT]at hS50
  simp(disch:=omega) only[↓RA,RZ,simprocAttr,hn,k7]
  exact nU (hS50.pick [0,2,4,6,3,5,7] (by decide) rfl) GR ho.2.2.2.2.2.1 GD (by omega) ho.2.2.2.2.2.2.2 GS hdk.2.2 GP
 simp(disch:=omega) only[↓RA,RZ,simprocAttr,hn,k1,k2,k3,k4,k5,k6,k7]
 refine jA (fun k8=> ?_) (fun k8=> ?_)
 ·simp(disch:=omega) only[↓RA,RZ,simprocAttr,hn,a2b,jQ,k8]
  refine hS21.ai [I (-1),I 40,I 50,I 40,I 0,I 128,I 0,I 127] b7m c4E rfl rfl (by simp[Value.cells]) rfl rfl (by decide) (by decide) fun w18 H43 hS51=> ?_
  simp only[RT]at hS51
  simp(disch:=omega) only[↓RA,RZ,simprocAttr,hn,k8]
  have hS52:St prog H H43 [⟨ptr A1 0 4,0,_⟩,⟨ptr A2 0 2,0,_⟩,⟨ptr A3 0 4,0,_⟩,⟨w2,6,_⟩,⟨w4,5,_⟩,⟨w6,5,_⟩,⟨ptr A4 0 5,0,_⟩,⟨w8,4,_⟩,⟨w18,2,c8s.flatMap mD⟩]:=hS51
  simp(disch:=omega) only[↓RA,RZ,simprocAttr,hn,hS52.ld 1 rfl,(hS52.av 8 rfl lB).idx,(hS52.av 8 rfl lB).aj,mD,f4,k8]
  refine hS52.ab 6 rfl [_,_] rfl rfl rI (by simp) fun H44 hS53=> ?_
  simp only[RT]at hS53
  simp(disch:=omega) only[↓RA,RZ,simprocAttr,hn,k8]
  exact nU (hS53.pick [0,2,4,6,3,5,7] (by decide) rfl) GR ho.2.2.2.2.2.1 GD (by omega) ho.2.2.2.2.2.2.2 GS hdk.2.2 GP
 simp(disch:=omega) only[↓RA,RZ,simprocAttr,hn,k1,k2,k3,k4,k5,k6,k7,k8]
 refine jA (fun k9=> ?_) (fun k9=> ?_)
 ·simp(disch:=omega) only[↓RA,RZ,simprocAttr,hn,hS21.ld 6 rfl,(hS21.av 7 rfl (fun _=>rfl)).len,k9]
  refine jA (fun p9=> ?_) (fun p9=> ?_)
  ·simp(disch:=omega) only[↓RA,RZ,simprocAttr,hn,hS21.ld 6 rfl,(hS21.av 7 rfl (fun _=>rfl)).idx,(hS21.av 7 rfl (fun _=>rfl)).aj,Stp.cells,k9,p9]
   refine hS21.eNew 4 [(.string ⟨#[]⟩),I 0,I 0,(.slice none 0 0)] rfl rfl rfl pC fun A6 H45 hS54=> ?_
   simp only[RT]at hS54
   simp(disch:=omega) only[↓RA,RZ,simprocAttr,hn,k9,p9]
   refine hS54.ab 8 rfl [(.string (jB (jB o.dvs k).stops 0).name),I (jB (jB o.dvs k).stops 0).num,I (jB (jB o.dvs k).stops 0).den,(jB (jB o.dvs k).stops 0).gv] rfl (by simp[OC,(hS54.sl ((ho.2.2.2.1 _ (jE hkl)).2.1 (jB (jB o.dvs k).stops 0) (jE (by omega))).1).cells.2.1]) pC (by simp) fun H46 hS55=> ?_
   simp only[RT]at hS55
   simp(disch:=omega) only[↓RA,RB,simprocAttr]
   refine hS55.ai [(.string ⟨#[]⟩),(.string ⟨#[83,49]⟩),(.string ⟨#[84]⟩),(.string ⟨#[83,50]⟩)] a0g a2o rfl rfl (by simp[Value.cells]) rfl rfl (by decide) (by decide) fun w19 H47 hS56=> ?_
   simp only[RT]at hS56
   simp(disch:=omega) only[↓RA,RZ,simprocAttr,hn,k9,p9]
   have hS57:St prog H H47 [⟨ptr A1 0 4,0,_⟩,⟨ptr A2 0 2,0,_⟩,⟨ptr A3 0 4,0,_⟩,⟨w2,6,_⟩,⟨w4,5,_⟩,⟨w6,5,_⟩,⟨ptr A4 0 5,0,_⟩,⟨w8,4,_⟩,⟨ptr A6 0 4,0,_⟩,⟨w19,1,c2O.flatMap (one Value.string)⟩]:=hS56
   simp(disch:=omega) only[↓RA,RZ,simprocAttr,hn,hS57.ld 1 rfl,(hS57.av 9 rfl (mC _)).idx,(hS57.av 9 rfl (mC _)).ld,one,f4,k9,p9]
   refine hS57.ab 8 rfl [_] rfl rfl tS9 (by simp) fun H48 hS58=> ?_
   simp only[RT]at hS58
   simp(disch:=omega) only[↓RA,RZ,simprocAttr,hn,hS58.ld 6 rfl,hS58.aj 8 rfl,(hS58.av 7 rfl (fun _=>rfl)).idx,jQ,k9,p9]
   refine hS58.aU 7 rfl [_,I (jB (jB o.dvs k).stops 0).num,I (jB (jB o.dvs k).stops 0).den,(jB (jB o.dvs k).stops 0).gv] rfl (by simp[OC,(hS58.sl ((ho.2.2.2.1 _ (jE hkl)).2.1 (jB (jB o.dvs k).stops 0) (jE (by omega))).1).cells.2.1]) pC (by simp) (by rw[hls];simp only[dS,dV];omega) fun H49 hS59=> ?_
   simp only[RT]at hS59
   simp(disch:=omega) only[↓RA,RZ,simprocAttr,hn,k9,p9]
   have hset:(((((jB o.dvs k).stops.flatMap Stp.cells).set (0*4) (.string (jB c2O (aa%4)))).set (0*4+1) (I (jB (jB o.dvs k).stops 0).num)).set (0*4+1+1) (I (jB (jB o.dvs k).stops 0).den)).set (0*4+1+1+1) (jB (jB o.dvs k).stops 0).gv=((jB o.dvs k).stops.set 0 {jB (jB o.dvs k).stops 0 with name:=jB c2O (aa%4)}).flatMap Stp.cells:=by
    rw[←oK (((((_:List Value).set (0*4) _).set (0*4+1) _).set (0*4+1+1) _).set (0*4+1+1+1) _) (0*4+1+1+1+1),←kP,←kP,←kP,←kP]
    exact uN (n:=4) (cel:=Stp.cells) (fun _=>rfl) (jB o.dvs k).stops 0 0 [_,_,_,_] _ (by omega) (by simp) rfl
   rw[hset]at hS59
   exact nU (hS59.pick [0,2,4,6,3,5,7] (by decide) rfl) GR ho.2.2.2.2.2.1 GD (by omega) ho.2.2.2.2.2.2.2 (fun G hG=>a3b (GS G hG) (show Stp.In G _ from GS G hG (jB (jB o.dvs k).stops 0) (jE (by omega)))) (by rw[gF];exact hdk.2.2) GP
  simp(disch:=omega) only[↓RA,RZ,simprocAttr,hn,jQ,k9,p9]
  exact nU (hS21.pick [0,2,4,6,3,5,7] (by decide) rfl) GR ho.2.2.2.2.2.1 GD (by omega) ho.2.2.2.2.2.2.2 GS hdk.2.2 GP
 simp(disch:=omega) only[↓RA,RZ,simprocAttr,hn,k1,k2,k3,k4,k5,k6,k7,k8,k9]
 refine jA (fun k10=> ?_) (fun k10=> ?_)
 ·simp(disch:=omega) only[↓RA,RZ,simprocAttr,hn,hS21.ld 6 rfl,(hS21.av 7 rfl (fun _=>rfl)).len,k10]
  refine jA (fun p10=> ?_) (fun p10=> ?_)
  ·simp(disch:=omega) only[↓RA,RZ,simprocAttr,k10,p10]
   refine Wp.aq (fun n l H'=>l.length=275∧get l 2=(ptr A1 0 4)∧get l 3=(ptr A2 0 2)∧get l 4=(ptr A3 0 4)∧get l 6=I k∧get l 7=(ptr A4 0 5)∧∃(wz:Value)(sts:List Stp),(n+sts.length=100∧0<sts.length∧sts.length≤61∧(∀G,o.In G→∀s∈sts,s.In G))∧St prog H H' [⟨ptr A1 0 4,0,[(.string o.name),w2,w4,w6]⟩,⟨ptr A2 0 2,0,[(.int .u8 ka),(.int .u8 aa)]⟩,⟨ptr A3 0 4,0,[(.string ⟨#[]⟩),(.slice none 0 0),(.slice none 0 0),(.slice none 0 0)]⟩,⟨w2,6,o.ranks.flatMap Rk.cells⟩,⟨w4,5,o.dvs.flatMap Dvn.cells⟩,⟨w6,5,o.cpls.flatMap Cpl.cells⟩,⟨ptr A4 0 5,0,[.string (jB o.dvs k).name,.bool (jB o.dvs k).pedal,I (jB o.dvs k).lo,I (jB o.dvs k).hi,wz]⟩,⟨wz,4,sts.flatMap Stp.cells⟩]) (100-(jB o.dvs k).stops.length) ?_ ?_
   ·simp(disch:=omega) only[RB,RC,simprocAttr,hn]
    exact⟨_,(jB o.dvs k).stops,⟨by omega,by omega,by omega,GS⟩,hS21⟩
   rintro n l H50⟨hn,g2,g3,g4,g6,g7,wz,sts,hj,hS60⟩
   obtain⟨j1,j2,j3,J4⟩:=hj
   have j4:=J4 H ho
   have hlk:(sts.flatMap Stp.cells).length=sts.length*4:=jF (n:=4) (fun _=>rfl) _
   simp(disch:=omega) only[↓RA,RZ,simprocAttr,hn,g3,g7,hS60.ld 6 rfl,(hS60.av 7 rfl (fun _=>rfl)).len,hS60.ld 1 rfl,f2]
   refine jA (fun q=> ?_) (fun q=> ?_)
   ·have q1:(sts.length:Int).tdiv 10=((sts.length/10:Nat):Int):=(Int.ofNat_tdiv _ _).symm
    have q2:(sts.length:Int).tmod 10=((sts.length%10:Nat):Int):=(eF _ _).symm
    simp(disch:=omega) only[↓RA,RZ,simprocAttr,hn,g7,hS60.ld 6 rfl,(hS60.av 7 rfl (fun _=>rfl)).idx,(hS60.av 7 rfl (fun _=>rfl)).aj,Stp.cells,q]
    refine hS60.eNew 4 [(.string ⟨#[]⟩),I 0,I 0,(.slice none 0 0)] rfl rfl rfl pC fun A7 H51 hS61=> ?_
    simp only[RT]at hS61
    simp(disch:=omega) only[↓RA,RZ,simprocAttr,hn,q]
    refine hS61.ab 8 rfl [(.string (jB sts 0).name),I (jB sts 0).num,I (jB sts 0).den,(jB sts 0).gv] rfl (by simp[OC,(hS61.sl (j4 (jB sts 0) (jE (by omega))).1).cells.2.1]) pC (by simp) fun H52 hS62=> ?_
    simp only[RT]at hS62
    simp(disch:=omega) only[↓RA,RZ,simprocAttr,hn,g7,hS62.ld 6 rfl,(hS62.av 7 rfl (fun _=>rfl)).len,q,q1,q2]
    refine hS62.ai [_,_] a2T a3u rfl rfl (by simp[Value.cells]) rfl rfl (by decide) (by decide) fun w20 H53 hS63=> ?_
    simp only[RT]at hS63
    simp(disch:=omega) only[↓RA,RZ,simprocAttr,hn,a3s (hS63.rd 9 rfl) mB.1 mB.2.1 mB.2.2,q,a3v]
    refine hS63.ab 8 rfl [_] rfl rfl tS9 (by simp) fun H54 hS64=> ?_
    simp only[RT]at hS64
    simp(disch:=omega) only[↓RA,RZ,simprocAttr,hn,g7,q]
    simp(disch:=omega) only[↓RA,RZ,simprocAttr,hn,hS64.ld 6 rfl,hS64.aj 8 rfl,q]
    refine hS64.ai [(.string ⟨#[89,UInt8.ofNat (48+((sts.length/10:Nat):Int)).toNat,UInt8.ofNat (48+((sts.length%10:Nat):Int)).toNat]⟩),I (jB sts 0).num,I (jB sts 0).den,(jB sts 0).gv] a3L b9G rfl rfl (by first|(simp[];done)|simp[Value.cells]) (by first|(simp[];done)|simp[Value.cells]) (by simp[OC,(hS64.sl (j4 (jB sts 0) (jE (by omega))).1).cells.2.1]) (by decide) (by decide) fun w21 H55 hS65=> ?_
    simp only[RT]at hS65
    simp(disch:=omega) only[↓RA,RZ,simprocAttr,hn,q]
    refine hS65.al 7 rfl (hS65.rd 10 rfl) a3L (by rw[hlk];simp only[dS,dV];omega) fun w22 H56 hS66=> ?_
    simp only[RT]at hS66
    simp(disch:=omega) only[↓RA,RZ,simprocAttr,hn,g7,q]
    refine hS66.ab 6 rfl [w22] (by rw[(hS66.rd 7 rfl).cells.1]) (by simp[(hS66.rd 7 rfl).cells.2.1]) b3o (by simp) fun H57 hS67=> ?_
    simp only[RT]at hS67
    simp(disch:=omega) only[↓RA,RZ,simprocAttr,hn,g2,g3,g4,g6,g7,q]
    have happ:sts.flatMap Stp.cells++[.string ⟨#[89,UInt8.ofNat (48+((sts.length/10:Nat):Int)).toNat,UInt8.ofNat (48+((sts.length%10:Nat):Int)).toNat]⟩,I (jB sts 0).num,I (jB sts 0).den,(jB sts 0).gv]=(sts++[{jB sts 0 with name:=⟨#[89,UInt8.ofNat (48+((sts.length/10:Nat):Int)).toNat,UInt8.ofNat (48+((sts.length%10:Nat):Int)).toNat]⟩}]).flatMap Stp.cells:=by rw[dP];rfl
    rw[happ]at hS67
    exact⟨n-1,by omega,w22,sts++[_],⟨by rw[dH];simp only[dS,dV];omega,by rw[dH];omega,by rw[dH];simp only[dS,dV];omega,fun G hG s hs=>by
     rcases eo.1 hs with h|h
     ·exact J4 G hG s h
     ·rw[dZ.1 h]
      exact(show Stp.In G _ from J4 G hG (jB sts 0) (jE j2))⟩,hS67.pick [0,1,2,3,4,5,6,7] (by decide) rfl⟩
   simp(disch:=omega) only[↓RA,RZ,simprocAttr,hn,g2,g4,g6,g7,jQ,q]
   exact nU (hS60.pick [0,2,4,6,3,5,7] (by decide) rfl) GR ho.2.2.2.2.2.1 GD (by omega) ho.2.2.2.2.2.2.2 J4 (by omega) GP
  simp(disch:=omega) only[↓RA,RZ,simprocAttr,hn,jQ,k10,p10]
  exact nU (hS21.pick [0,2,4,6,3,5,7] (by decide) rfl) GR ho.2.2.2.2.2.1 GD (by omega) ho.2.2.2.2.2.2.2 GS hdk.2.2 GP
 simp(disch:=omega) only[↓RA,RZ,simprocAttr,hn,k1,k2,k3,k4,k5,k6,k7,k8,k9,k10]
 refine jA (fun k11=> ?_) (fun k11=> ?_)
 ·simp(disch:=omega) only[↓RA,RZ,simprocAttr,hn,hS21.ld 0 rfl,(hS21.av 3 rfl (fun _=>rfl)).aO,jQ,k11]
  refine hS21.ab 0 rfl [(lN w2 6 0 i)] (by rw[((hS21.av 3 rfl (fun _=>rfl)).bX i (by omega) (by omega)).cells.1]) (by simp[((hS21.av 3 rfl (fun _=>rfl)).bX i (by omega) (by omega)).cells.2.1]) c0L (by simp) fun H58 hS68=> ?_
  simp only[RT]at hS68
  simp(disch:=omega) only[↓RA,RZ,simprocAttr,hn,k11]
  obtain⟨ca,cb,cc,ce⟩:=a7K (hS68.pick [0,2,4,6,3,5,7] (by decide) rfl)
  exact⟨o.name,_,o.ranks.take i,_,o.dvs,_,o.cpls,⟨_,_,_,_,w8,(jB o.dvs k).stops⟩,⟨⟨ca.1.bX i (by omega) (by omega),fun b hb=>ca.2 b (a0F hb)⟩,fun G hG r hr=>GR G hG r (iB hr),(by rw[fP];omega),GD,(by omega),cb,ho.2.2.2.2.2.2.2,cc,GS,hdk.2.2,fun r hr=>GP r (iB hr)⟩,ce⟩
 simp(disch:=omega) only[↓RA,RZ,simprocAttr,hn,k1,k2,k3,k4,k5,k6,k7,k8,k9,k10,k11]
 refine jA (fun k12=> ?_) (fun k12=> ?_)
 ·skip
  simp(disch:=omega) only[↓RA,RZ,simprocAttr,hn,hS21.ld 0 rfl,hS21.ld 1 rfl,a8J,jQ,f5,k12]
  refine hS21.ai [(.string ⟨#[67,57]⟩),_,I 0,I 1,(.bool false)] a1f b5c rfl rfl (by simp[Value.cells]) rfl rfl (by decide) (by decide) fun w23 H59 hS69=> ?_
  simp only[RT]at hS69
  simp(disch:=omega) only[↓RA,RZ,simprocAttr,hn,k12]
  refine hS69.al 5 rfl (hS69.rd 8 rfl) a1f (by rw[hlc];simp only[dS,dV];omega) fun w24 H60 hS70=> ?_
  simp only[RT]at hS70
  simp(disch:=omega) only[↓RA,RZ,simprocAttr,hn,k12]
  refine hS70.ab 0 rfl [w24] (by rw[(hS70.rd 5 rfl).cells.1]) (by simp[(hS70.rd 5 rfl).cells.2.1]) b0W (by simp) fun H61 hS71=> ?_
  simp only[RT]at hS71
  simp(disch:=omega) only[↓RA,RZ,simprocAttr,hn,k12]
  have happ:o.cpls.flatMap Cpl.cells++[.string ⟨#[67,57]⟩,I ((aa%5:Nat):Int),I 0,I 1,.bool false]=(o.cpls++[(⟨⟨#[67,57]⟩,((aa%5:Nat):Int),0,1,false⟩:Cpl)]).flatMap Cpl.cells:=by rw[dP];rfl
  rw[happ]at hS71
  exact nU (hS71.pick [0,2,4,6,3,5,7] (by decide) rfl) GR ho.2.2.2.2.2.1 GD (by omega) (by rw[dH];simp only[dS,dV];omega) GS hdk.2.2 GP
 simp(disch:=omega) only[↓RA,RZ,simprocAttr,hn,k1,k2,k3,k4,k5,k6,k7,k8,k9,k10,k11,k12]
 refine jA (fun k13=> ?_) (fun k13=> ?_)
 ·skip
  simp(disch:=omega) only[↓RA,RZ,simprocAttr,k13]
  refine Wp.aF kS [(1,3),(1,10),(4,0)] (by kernel_rfl) (by kernel_rfl) ?_
  simp(disch:=omega) only[↓RA,RZ,simprocAttr,hn,hS21.ld 0 rfl,jQ]
  refine hS21.ai [(.string ⟨#[]⟩),(.string ⟨#[67,48]⟩),(.string ⟨#[68,48]⟩)] a0g a2o rfl rfl (by simp[Value.cells]) rfl rfl (by decide) (by decide) fun w25 H62 hS72=> ?_
  simp only[RT]at hS72
  simp(disch:=omega) only[↓RA,RZ,simprocAttr,hn]
  have hS73:St prog H H62 [⟨ptr A1 0 4,0,_⟩,⟨ptr A2 0 2,0,_⟩,⟨ptr A3 0 4,0,_⟩,⟨w2,6,_⟩,⟨w4,5,_⟩,⟨w6,5,_⟩,⟨ptr A4 0 5,0,_⟩,⟨w8,4,_⟩,⟨w25,1,b2N.flatMap (one Value.string)⟩]:=hS72
  simp(disch:=omega) only[↓RA,RZ,simprocAttr,hn,hS73.ld 1 rfl,(hS73.av 8 rfl (mC _)).idx,(hS73.av 8 rfl (mC _)).ld,one,b6b,f3]
  refine hS73.ai [_,I 0,I 0,I 1,(.bool false)] a1f b5c rfl rfl (by simp[Value.cells]) rfl rfl (by decide) (by decide) fun w26 H63 hS74=> ?_
  simp only[RT]at hS74
  simp(disch:=omega) only[↓RA,RZ,simprocAttr,hn]
  refine hS74.al 5 rfl (hS74.rd 9 rfl) a1f (by rw[hlc];simp only[dS,dV];omega) fun w27 H64 hS75=> ?_
  simp only[RT]at hS75
  simp(disch:=omega) only[↓RA,RZ,simprocAttr,hn]
  refine hS75.ab 0 rfl [w27] (by rw[(hS75.rd 5 rfl).cells.1]) (by simp[(hS75.rd 5 rfl).cells.2.1]) b0W (by simp) fun H65 hS76=> ?_
  simp only[RT]at hS76
  simp(disch:=omega) only[↓RA,RZ,simprocAttr,hn,hS73.ld 0 rfl,hS74.ld 0 rfl,hS21.ld 1 rfl]
  have happ:o.cpls.flatMap Cpl.cells++[.string (jB b2N (aa%3)),I 0,I 0,I 1,.bool false]=(o.cpls++[(⟨jB b2N (aa%3),0,0,1,false⟩:Cpl)]).flatMap Cpl.cells:=by rw[dP];rfl
  rw[happ]at hS76
  exact nU (hS76.pick [0,2,4,6,3,5,7] (by decide) rfl) GR ho.2.2.2.2.2.1 GD (by omega) (by rw[dH];simp only[dS,dV];omega) GS hdk.2.2 GP
 simp(disch:=omega) only[↓RA,RZ,simprocAttr,hn,jQ,k1,k2,k3,k4,k5,k6,k7,k8,k9,k10,k11,k12,k13]
 exact nU (hS21.pick [0,2,4,6,3,5,7] (by decide) rfl) GR ho.2.2.2.2.2.1 GD (by omega) ho.2.2.2.2.2.2.2 GS hdk.2.2 GP
end Go.Ds
namespace Go.Ds
open Go.Proofs Go.Proofs.Tryz
variable {H:Heap}
set_option maxRecDepth 10000
set_option maxHeartbeats 1000000
theorem b8h{p:Pln}(h:rV p=true):p.ranks.length≤3:=by
 unfold rV at h
 simp only[dB,decide_eq_true_eq,dT]at h
 omega
theorem a6d(hG:Glob gH H)(p:Pln)(hp:p.In H)(hk:p.Ok)(b kb:Nat→Nat)(br bn:Nat)(hb:∀i,b i<256)(hkb:∀i,kb i<65536)(hbr:br<256)(hbn:bn<256)(su sa sb:Nat)(sp:Ct)(hsu:su<256)(hsa:sa<256)(hsb:sb<256):
 Fn prog 5 [.agg #[p.rv,p.dv,p.cv],.agg #[.int .u8 (b 0),.int .u8 (b 1),.int .u8 (b 2),.int .u8 (b 3),.int .u8 (b 4),.int .u16 (kb 0),.int .u16 (kb 1),.int .u16 (kb 2),.int .u8 br,.int .u8 bn],.agg #[.int .u8 su,.int .u8 sa,.int .u8 sb,I sp.1,I sp.2]] H fun r H'=>r=.bool true∧St prog H H' []:=by
 refine .cJ func5 rfl (by kernel_rfl) (m:=196) rfl fun l hn g0 g1 g2=> ?_
 simp(disch:=omega) only[↓RA,RB,simprocAttr,g0]
 refine(sR H).eNew 3 [p.rv,p.dv,p.cv] rfl rfl (by simp[((sR H).sl hp.1).cells.2.1,((sR H).sl hp.2.1).cells.2.1,((sR H).sl hp.2.2.2.1).cells.2.1]) b6O fun A1 H1 hS1=> ?_
 simp only[RT]at hS1
 simp(disch:=omega) only[↓RA,RB,simprocAttr,g1]
 refine hS1.eNew 10 [(.int .u8 (b 0)),(.int .u8 (b 1)),(.int .u8 (b 2)),(.int .u8 (b 3)),(.int .u8 (b 4)),(.int .u16 (kb 0)),(.int .u16 (kb 1)),(.int .u16 (kb 2)),(.int .u8 br),(.int .u8 bn)] rfl rfl rfl c5o fun A2 H2 hS2=> ?_
 simp only[RT]at hS2
 simp(disch:=omega) only[↓RA,RB,simprocAttr,g2]
 refine hS2.eNew 5 [(.int .u8 su),(.int .u8 sa),(.int .u8 sb),I sp.1,I sp.2] rfl rfl rfl c8H fun A3 H3 hS3=> ?_
 simp only[RT]at hS3
 simp(disch:=omega) only[↓RA,RZ,simprocAttr]
 refine hS3.cF (a4j (hS3.gl hG)) fun H4 hS4=> ?_
 simp(disch:=omega) only[↓RA,RZ,simprocAttr,hn,hS4.aj 0 rfl]
 refine hS4.cF (c3r p (hp.ag hS4)) fun H5 hS5=> ?_
 simp(disch:=omega) only[↓RA,RZ,simprocAttr,hn]
 refine kC (fun h1=> ?_) (fun h1=> ?_)
 ·simp(disch:=omega) only[↓RA,RZ,simprocAttr]
  refine hS5.cF (a4j (hS5.gl hG)) fun H6 hS6=> ?_
  simp(disch:=omega) only[↓RA,RZ,simprocAttr,hn,tR5,h1]
  exact hS6.forget
 have hf:rV p=true:=by simpa using h1
 simp(disch:=omega) only[↓RA,RZ,simprocAttr,hn,hS5.aj 0 rfl,hS5.aj 1 rfl,h1]
 refine jI (b5d (hS5.gl hG) p (hp.ag hS5) hk hf b hb kb hkb br bn hbr hbn) ?_
 rintro r H7⟨s,rfl,hs,hm,hT4⟩
 have hS7:=hS5.trans hT4
 simp only[RT]at hS7
 have hfit:=hm.fit hf
 have hf0:=hfit.aP
 obtain⟨k1,k2,k3⟩:=hm.made.small hf
 have k4:0<s.o.ranks.length:=by rw[hm.made.rlen];exact a1Y hf
 have k5:s.o.ranks.length≤3:=by rw[hm.made.rlen];exact b8h hf
 have k6:=hf0.dpos
 have u1:(su:Int).tmod 5=((su%5:Nat):Int):=(eF _ _).symm
 have u2:(sb:Int).tmod 64=((sb%64:Nat):Int):=(eF _ _).symm
 have hS0:=hS7
 have hG2:=hS0.gl hG
 simp(disch:=omega) only[↓RA,RZ,simprocAttr]
 refine(sR H7).eNew 10 [(.string ⟨#[]⟩),(.slice none 0 0),(.slice none 0 0),(.slice none 0 0),(.slice none 0 0),(.int .u64 0),(.int .u64 0),(.slice none 0 0),I 0,I 0] rfl rfl rfl oI fun A4 H8 hS8=> ?_
 simp only[RT]at hS8
 simp(disch:=omega) only[↓RA,RB,simprocAttr,hn,h1]
 refine hS8.ab 0 rfl [(.string s.o.name),s.o.rv,s.o.dv,s.o.cv,s.sv,(.int .u64 s.rg.cpl),(.int .u64 s.rg.off),s.kv,I s.p.1,I s.p.2] rfl (by simp[OC,(hS8.sl hs.o.1).cells.2.1,(hS8.sl hs.o.2.2.1).cells.2.1,(hS8.sl hs.o.2.2.2.2.1).cells.2.1,(hS8.sl hs.rg.1).cells.2.1,(hS8.sl hs.ks.sl).cells.2.1]) oI (by simp) fun H9 hS9=> ?_
 simp only[RT]at hS9
 simp(disch:=omega) only[↓RA,RZ,simprocAttr,hn,((hS0.var 2 rfl).ag hS9.ag).ld,h1,u1]
 refine zS (fun l H'=>l.length=196∧get l 6=(.bool false)∧get l 7=(ptr A4 0 10)∧∃(s2:Sn),(s2.In H')∧St prog H7 H' [⟨ptr A4 0 10,0,[.string s2.o.name,s2.o.rv,s2.o.dv,s2.o.cv,s2.sv,.int .u64 s2.rg.cpl,.int .u64 s2.rg.off,s2.kv,I s2.p.1,I s2.p.2]⟩]) ?_ ?_
 ·rintro l H10⟨hn,g6,g7,s2,hs2,hS10⟩
  have hS1:=hS10
  have hG3:=hS1.gl hG2
  simp(disch:=omega) only[↓RA,RZ,simprocAttr,hn,g7,((hS1.var 0 rfl).ag (sR H10).ag).aj]
  refine(sR H10).cF (b3Z s2 (hs2.ag (sR H10))) fun H11 hS11=> ?_
  simp(disch:=omega) only[↓RA,RZ,simprocAttr,hn,g7,((hS1.var 0 rfl).ag hS11.ag).aj]
  refine hS11.cF (pS s2 (hs2.ag hS11)) fun H12 hS12=> ?_
  simp(disch:=omega) only[↓RA,RZ,simprocAttr,hn]
  refine jA (fun h2=> ?_) (fun h2=> ?_)
  ·simp(disch:=omega) only[↓RA,RZ,simprocAttr,hn,tR5,h2]
   exact hS0.forget.trans (hS1.forget.trans hS12.forget)
  have hln:∀{H:Heap}(m:Nat)(t:TypeId),a4P (some (m+1)) prog H t (.slice none 0 0)=some (I 0):=fun m t=>c0U m t
  have hr0:∀{H:Heap},(⟨(0,0),.slice none 0 0,[],(0,0),0⟩:Rn).In H:=fun{H}=>⟨Sl.cp (fun _=>rfl) (by decide),by simp⟩
  simp(disch:=omega) only[↓RA,RZ,simprocAttr,hn,g7,((hS1.var 0 rfl).ag hS12.ag).aj,h2]
  refine hS12.cF (a3O s2 (hs2.ag hS12) h2) fun H13 hS13=> ?_
  simp(disch:=omega) only[↓RA,RZ,simprocAttr,hn,g7,((hS1.var 0 rfl).ag hS13.ag).aj,h2]
  refine hS13.cF (b5n s2 (hs2.ag hS13) h2) fun H14 hS14=> ?_
  simp(disch:=omega) only[↓RA,RZ,simprocAttr,hn,h2]
  refine hS14.eNew 6 [I 0,I 0,(.slice none 0 0),I 0,I 0,I 0] rfl rfl rfl nW fun A5 H15 hS15=> ?_
  simp only[RT]at hS15
  simp(disch:=omega) only[↓RA,RZ,simprocAttr,hn,h2]
  refine hS15.ab 0 rfl [I 0,I 0,(.slice none 0 0),I 0,I 0,I 0] rfl rfl nW (by simp) fun H16 hS16=> ?_
  simp only[RT]at hS16
  simp(disch:=omega) only[↓RA,RZ,simprocAttr,hn,g7,((hS1.var 0 rfl).ag hS16.ag).aj,a4e,h2]
  refine hS16.cF (c0w s2 (hs2.ag hS16) h2 ⟨(0,0),.slice none 0 0,[],(0,0),0⟩ hr0) fun H17 hS17=> ?_
  simp(disch:=omega) only[↓RA,RZ,simprocAttr,hn,g7,((hS1.var 0 rfl).ag hS17.ag).aj,a4e,h2]
  refine hS17.cF (a6J s2 (hs2.ag hS17) h2 ⟨(0,0),.slice none 0 0,[],(0,0),0⟩ hr0) fun H18 hS18=> ?_
  simp(disch:=omega) only[↓RA,RZ,simprocAttr,hn,g7,((hS1.var 0 rfl).ag hS18.ag).aj,h2]
  refine hS18.cF (b0E s2 (hs2.ag hS18) h2) fun H19 hS19=> ?_
  simp(disch:=omega) only[↓RA,RZ,simprocAttr,hn,g7,((hS1.var 0 rfl).ag hS19.ag).aj,h2]
  refine hS19.cF (a8a s2 (hs2.ag hS19) h2) fun H20 hS20=> ?_
  simp(disch:=omega) only[↓RA,RZ,simprocAttr,hn,g7,((hS1.var 0 rfl).ag hS20.ag).aj,h2]
  refine hS20.cF (a9X s2 (hs2.ag hS20) h2) fun H21 hS21=> ?_
  simp(disch:=omega) only[↓RA,RZ,simprocAttr,hn,h2,List.append_eq,fO,fJ]
  refine hS21.eNew 3 [(.slice none 0 0),(.int .u64 0),(.int .u64 0)] rfl rfl rfl a4C fun A6 H22 hS22=> ?_
  simp only[RT]at hS22
  simp(disch:=omega) only[↓RA,RZ,simprocAttr,hn,h2]
  refine hS22.ab 1 rfl [(.slice none 0 0),(.int .u64 0),(.int .u64 0)] rfl rfl a4C (by simp) fun H23 hS23=> ?_
  simp only[RT]at hS23
  simp(disch:=omega) only[↓RA,RZ,simprocAttr,hn,hS23.ld 1 rfl,h2,hln]
  simp(disch:=omega) only[↓RA,RZ,simprocAttr,hn,hS23.aj 0 rfl,a4e,h2]
  have hSm:=b4F ⟨(0,0),.slice none 0 0,[],(0,0),0⟩ ⟨(0,0),.slice none 0 0,[],(0,0),0⟩ (hr0 (H:=H23)) (hr0 (H:=H23))
  rw[show decide (a0X ⟨(0,0),.slice none 0 0,[],(0,0),0⟩ ⟨(0,0),.slice none 0 0,[],(0,0),0⟩=0)=true from by kernel_rfl]at hSm
  refine hS23.cF (hSm) fun H24 hS24=> ?_
  simp(disch:=omega) only[↓RA,RZ,simprocAttr,hn,g7,h2]
  simp(disch:=omega) only[↓RA,RZ,simprocAttr,hn,((hS1.var 0 rfl).ag hS24.ag).aj,a4e,h2]
  refine hS24.cF (zE s2 (hs2.ag hS24) h2 ⟨(0,0),.slice none 0 0,[],(0,0),0⟩ hr0) fun H25 hS25=> ?_
  simp(disch:=omega) only[↓RA,RZ,simprocAttr,hn,tR5,h2]
  exact hS0.forget.trans (hS1.forget.trans hS25.forget)
 have hn5:su%5<5:=eU _ (by decide)
 refine jA (fun c0=> ?_) (fun c0=> ?_)
 ·simp(disch:=omega) only[↓RA,RZ,simprocAttr,hn,hS9.aj 0 rfl,((hS0.var 2 rfl).ag hS9.ag).aj,h1,jQ,c0]
  have hp1:=hS9
  refine jI (b0Q s.o (hs.o.ag hS9) k4 (by omega) k6 (by omega) (fun j hj=>by have:=k3 j hj;omega) (by omega) sa sb hsa hsb) ?_
  rintro r H26⟨o2,rfl,hN,hT16⟩
  have hS26:=hS9.trans hT16
  simp only[RT]at hS26
  have hp2:=hS26
  obtain⟨X,hBX,hS27⟩:=hS26.aB (os:=[⟨ptr A4 0 10,0,_⟩])
  simp(disch:=omega) only[↓RA,RZ,simprocAttr,hn,h1,c0]
  refine hS27.ab 0 rfl [(.string o2.name),o2.rv,o2.dv,o2.cv] rfl (by simp[OC,(hN.rs.1.cells).2.1,(hN.ds.1.cells).2.1,(hN.cs.1.cells).2.1]) tO (by simp) fun H27 hS28=> ?_
  simp only[RT]at hS28
  simp(disch:=omega) only[↓RA,RZ,simprocAttr,hn,h1,c0]
  exact⟨{s with o:=o2},⟨hN.dy hs.o hp1 hp2 hBX hS28,hs.rg.ag (hS26.ae hBX hS28),hs.ks.ag (hS26.ae hBX hS28)⟩,(hS26.ae hBX hS28).pick [0] (by decide) rfl⟩
 simp(disch:=omega) only[↓RA,RZ,simprocAttr,hn,h1,c0]
 refine jA (fun c1=> ?_) (fun c1=> ?_)
 ·simp(disch:=omega) only[↓RA,RZ,simprocAttr,hn,((hS0.var 2 rfl).ag hS9.ag).aj,h1,jQ,c1]
  refine hS9.ab 0 rfl [I sp.1,I sp.2] rfl rfl yE (by simp) fun H28 hS29=> ?_
  simp only[RT]at hS29
  simp(disch:=omega) only[↓RA,RZ,simprocAttr,hn,h1,c1]
  exact⟨{s with p:=sp},⟨hs.o.ag hS29,hs.rg.ag hS29,hs.ks.ag hS29⟩,hS29.pick [0] (by decide) rfl⟩
 simp(disch:=omega) only[↓RA,RZ,simprocAttr,hn,h1,c0,c1]
 refine jA (fun c2=> ?_) (fun c2=> ?_)
 ·have e1:=orN s.rg.cpl (sb%64) hs.rg.2.2.2.1 (eU _ (by decide))
  simp(disch:=omega) only[↓RA,RZ,simprocAttr,hn,hS9.ld 0 rfl,((hS0.var 2 rfl).ag hS9.ag).ld,h1,jQ,c2,u2,e1]
  refine hS9.ab 0 rfl [(.int .u64 (s.rg.cpl|||2^(sb%64):Nat))] rfl rfl c3d (by simp) fun H29 hS30=> ?_
  simp only[RT]at hS30
  simp(disch:=omega) only[↓RA,RZ,simprocAttr,hn,h1,c2]
  exact⟨{s with rg:={s.rg with cpl:=s.rg.cpl|||2^(sb%64)}},⟨hs.o.ag hS30,⟨(hs.rg.ag hS30).1,hs.rg.2.1,hs.rg.2.2.1,Nat.or_lt_two_pow (n:=64) hs.rg.2.2.2.1 (Nat.pow_lt_pow_right (by decide) (eU _ (by decide))),hs.rg.2.2.2.2⟩,hs.ks.ag hS30⟩,hS30.pick [0] (by decide) rfl⟩
 simp(disch:=omega) only[↓RA,RZ,simprocAttr,hn,h1,c0,c1,c2]
 refine jA (fun c3=> ?_) (fun c3=> ?_)
 ·have hkl:s.ks.length=s.o.dvs.length:=by rw[hm.ks];exact sE _ _
  simp(disch:=omega) only[↓RA,RZ,simprocAttr,hn,b7b,h1,jQ,c3]
  refine hS9.ai [(.int .u64 0),(.int .u64 0)] b2u c1H rfl rfl (by simp[Value.cells]) rfl rfl (by decide) (by decide) fun w1 H30 hS31=> ?_
  simp only[RT]at hS31
  simp(disch:=omega) only[↓RA,RZ,simprocAttr,hn,hS31.ld 0 rfl,h1,c3]
  refine hS31.al 1 rfl (hS31.sl hs.ks.sl).rd b2u (by rw[jF (n:=2) (cel:=ntc) (fun _=>rfl)];simp;omega) fun w2 H31 hS32=> ?_
  simp only[RT]at hS32
  simp(disch:=omega) only[↓RA,RZ,simprocAttr,hn,h1,c3]
  refine hS32.ab 0 rfl [w2] (by rw[(hS32.rd 1 rfl).cells.1]) (by simp[(hS32.rd 1 rfl).cells.2.1]) c9w (by simp) fun H32 hS33=> ?_
  simp only[RT]at hS33
  simp(disch:=omega) only[↓RA,RZ,simprocAttr,hn,h1,c3]
  refine⟨{s with kv:=w2,ks:=(0,0)::s.ks},⟨hs.o.ag hS33,hs.rg.ag hS33,⟨hS33.av 1 rfl (fun _=>rfl),by simp only[dS];omega,fun x hx=> ?_⟩⟩,hS33.pick [0] (by decide) rfl⟩
  rcases eJ.1 hx with rfl|hx
  ·exact⟨by decide,by decide⟩
  ·exact hs.ks.ok x hx
 simp(disch:=omega) only[↓RA,RZ,simprocAttr,hn,h1,jQ,c0,c1,c2,c3]
 exact⟨s,⟨hs.o.ag hS9,hs.rg.ag hS9,hs.ks.ag hS9⟩,hS9.pick [0] (by decide) rfl⟩
end Go.Ds
