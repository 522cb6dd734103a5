/-
  A part of the proof of ReasonCompares.
-/
import Derived.Test.YtfmbcecfgpbmhaaGreatDoorVA
import Derived.Below
import Derived.Deep.Slices
set_option linter.unusedVariables false
set_option linter.unusedSimpArgs false
set_option linter.defProp false
set_option linter.unusedSectionVars false
namespace Go.Ds
section
variable {P:Program} {ρ:Rho} {H:Heap} {w:World} {fl:Fl}
theorem HRel.aR(h:HRel P ρ H w)(cs:List Value)(ty:TypeId)(tg:Nat)(p:Place)(hoff:Off ρ p.b)(hlt:p.b<w.heap.size)
 (hcell:CellsAt P (ρ.put H.length cs.length p) w cs ty true tg cs.length cs.length p):
 HRel P (ρ.put H.length cs.length p) (H.cons (.cells cs ty true cs.length tg)) w:=by
 have hno:∀f,ρ H.length f=none:=fun f=>pT h f
 have hle:ρ.Le (ρ.put H.length cs.length p):=.put (hno _)
 have hold:∀A f q,(ρ.put H.length cs.length p) A f=some q→(A=H.length∧f=cs.length∧q=p)∨(A<H.length∧ρ A f=some q∧q.b≠p.b):=fun A f q hq=>by
  by_cases hh:A=H.length∧f=cs.length
  ·obtain⟨rfl,rfl⟩:=hh;rw[Rho.ai]at hq;exact .inl ⟨rfl,rfl,(dc hq).symm⟩
  ·rw[Rho.aN hh]at hq;exact .inr ⟨(h.dom _ _ _ hq).1,hq,hoff _ _ _ hq⟩
 have hget_old:∀A,A<H.length→iT (H.cons (.cells cs ty true cs.length tg)) A=iT H A:=fun A hA=>jU _ hA
 refine⟨?_,?_,?_,?_,?_,?_,fun A hA=>by
  by_cases he:A=H.length
  ·subst he;rw[iQ];rfl
  ·rw[length_cons]at hA;rw[hget_old A (by omega)];exact h.full A (by omega),fun A cs' ty' lo' hg=>by
  have hA:A<(H.cons (.cells cs ty true cs.length tg)).length:=jP hg
  by_cases he:A=H.length
  ·subst he;rw[iQ]at hg;cases hg
  ·have hA':A<H.length:=by simp at hA;omega
   rw[hget_old A hA']at hg
   obtain⟨q,h1,h2,h3⟩:=h.glob _ _ _ _ hg
   exact⟨q,hle _ _ _ h1,h2,h3⟩⟩
 ·intro A f q hq
  rcases hold A f q hq with⟨rfl,rfl,rfl⟩|⟨hA,hq',_⟩
  ·exact⟨by simp,hlt⟩
  ·exact⟨by simp;omega,(h.dom _ _ _ hq').2⟩
 ·intro A cs' ty' rw' lo' ver' hg
  have hA:A<(H.cons (.cells cs ty true cs.length tg)).length:=jP hg
  by_cases he:A=H.length
  ·subst he
   rw[iQ]at hg
   injection (dc hg)with e1 e2 e3 e4 e5
   subst e1 e2 e3 e4 e5
   refine⟨⟨p,Rho.ai _ _ _ _⟩,fun f q hq=> ?_⟩
   rcases hold _ f q hq with⟨_,rfl,rfl⟩|⟨hlt,_,_⟩
   ·exact hcell
   ·exact absurd hlt (eW _)
  ·have hA':A<H.length:=by simp at hA;omega
   rw[hget_old A hA']at hg
   obtain⟨⟨q,hq⟩,hall⟩:=h.cells _ _ _ _ _ _ hg
   refine⟨⟨q,hle _ _ _ hq⟩,fun f q hq=> ?_⟩
   rcases hold _ f q hq with⟨rfl,_,_⟩|⟨_,hq',_⟩
   ·exact absurd hA' (eW _)
   ·exact(hall f q hq').world hle rfl
 ·intro A es ck ver hg
  have hA:A<(H.cons (.cells cs ty true cs.length tg)).length:=jP hg
  by_cases he:A=H.length
  ·subst he;rw[iQ]at hg;cases hg
  ·have hA':A<H.length:=by simp at hA;omega
   rw[hget_old A hA']at hg
   obtain⟨q,es',hq,hw,hall⟩:=h.map _ _ _ _ hg
   exact⟨q,es',hle _ _ _ hq,hw,hall.mono fun _ _ x=>x.mono hle⟩
 ·intro A r hg
  have hA:A<(H.cons (.cells cs ty true cs.length tg)).length:=jP hg
  by_cases he:A=H.length
  ·subst he;rw[iQ]at hg;cases hg
  ·have hA':A<H.length:=by simp at hA;omega
   rw[hget_old A hA']at hg
   obtain⟨q,r',hq,hw,hall⟩:=h.loop _ _ hg
   exact⟨q,r',hle _ _ _ hq,hw,hall.mono hle⟩
 ·intro A f q blk' hq hg
  rcases hold A f q hq with⟨rfl,rfl,rfl⟩|⟨hA,hq',_⟩
  ·rw[iQ]at hg
   obtain rfl:=dc hg
   exact .inl rfl
  ·rw[hget_old A hA]at hg
   exact h.one _ _ _ _ hq' hg
 ·intro A f q A2 f2 q2 blk' hq hq2 hbb hg hwr
  rcases hold A f q hq with⟨rfl,rfl,rfl⟩|⟨hA,hq',hqb⟩
  ·rcases hold A2 f2 q2 hq2 with⟨rfl,rfl,rfl⟩|⟨hA2,hq2',hqb2⟩
   ·exact⟨rfl,rfl⟩
   ·exact absurd hbb.symm hqb2
  ·rcases hold A2 f2 q2 hq2 with⟨rfl,rfl,rfl⟩|⟨hA2,hq2',hqb2⟩
   ·exact absurd hbb hqb
   ·rw[hget_old A hA]at hg
    exact h.excl _ _ _ _ _ _ _ hq' hq2' hbb hg hwr
theorem Post.aR{ρ0:Rho}{H0:Heap}{W0:World}(h:Post P ρ0 H0 W0 ρ H w)(cs:List Value)(ty:TypeId)(tg:Nat)(p:Place)(hoff:Off ρ p.b)(hlt:p.b<w.heap.size)(hW:W0.heap.size≤p.b)
 (hcell:CellsAt P (ρ.put H.length cs.length p) w cs ty true tg cs.length cs.length p):
 Post P ρ0 H0 W0 (ρ.put H.length cs.length p) (H.cons (.cells cs ty true cs.length tg)) w:=by
 have hle:ρ.Le (ρ.put H.length cs.length p):=.put (pT h.rel _)
 have hold:∀A f q,(ρ.put H.length cs.length p) A f=some q→q=p∨(A<H.length∧ρ A f=some q):=fun A f q hq=>by
  by_cases hh:A=H.length∧f=cs.length
  ·obtain⟨rfl,rfl⟩:=hh;rw[Rho.ai]at hq;exact .inl (dc hq).symm
  ·rw[Rho.aN hh]at hq;exact .inr ⟨(h.rel.dom _ _ _ hq).1,hq⟩
 refine⟨h.le.trans hle,h.rel.aR cs ty tg p hoff hlt hcell,by have:=h.len;simp;omega,h.size,h.os,h.tape,h.output,fun b hb hw=>⟨(h.frame b hb hw).1,?_⟩,h.loops,fun b hb hw A f q hq=> ?_⟩
 ·rintro⟨A,f,q,jY,hq,rfl,hg,hwr⟩
  rcases hold A f q hq with rfl|⟨hA,hq'⟩
  ·omega
  ·rw[jU _ hA]at hg
   exact(h.frame _ hb hw).2 ⟨A,f,q,jY,hq',rfl,hg,hwr⟩
 ·rcases hold A f q hq with rfl|⟨hA,hq'⟩
  ·omega
  ·exact h.img b hb hw _ _ _ hq'
structure PendAt(P:Program)(ρ:Rho)(w:World)(H Hn:Heap)(v v':Value)(b:Nat)(cs:List Value)(cs':Array Value)(ty ty':TypeId)(tg k:Nat):Prop where
 here:w.heap[b]? =some (.cells cs' ty')
 next:Hn=H.cons (.cells cs ty true cs.length tg)
 rel:All2 (C1 ρ) cs cs'.toList
 val:∀ρ1:Rho,ρ1 H.length cs.length=some ⟨b,0,cs.length,k⟩→V ρ1 v v'
 at_:∀(ρ:Rho)(w:World),w.heap[b]? =some (.cells cs' ty')→All2 (C1 ρ) cs cs'.toList→CellsAt P ρ w cs ty true tg cs.length cs.length ⟨b,0,cs.length,k⟩
theorem PendAt.mono{ρ':Rho}{w':World}{H Hn:Heap}{v v':Value}{b:Nat}{cs:List Value}{cs':Array Value}{ty ty':TypeId}{tg k:Nat}(h:PendAt P ρ w H Hn v v' b cs cs' ty ty' tg k)(hle:ρ.Le ρ')(hw:w'.heap[b]? =w.heap[b]?):PendAt P ρ' w' H Hn v v' b cs cs' ty ty' tg k:=
 ⟨by rw[hw];exact h.here,h.next,h.rel.mono fun _ _ h=>h.mono hle,h.val,h.at_⟩
theorem oM{o:Op}(h:iW fl o=true):jO fl o=false:=by
 cases o<;>first|rfl|(simp[iW]at h;done)|(simp[iW]at h;simp[jO,h])
theorem sL{i:Nat}{o:Op}(h:iW fl o=true):lW fl i o=some i:=by simp[lW,h]
theorem qP{i b:Nat}{o:Op}(h:iW fl o=false)(hh:lW fl i o=some b):fl.base i=some b∧∃t x ix,o=.indexAddr t x ix:=by
 unfold lW at hh
 rw[h]at hh
 simp only[ef,if_false]at hh
 split at hh
 ·exact⟨hh,_,_,_,rfl⟩
 ·cases hh
theorem Der.plain{ops:Array Oper}{j i:Nat}{d:Tmp}{o:Op}(h:Der fl ops j d i o):jO fl o=false∧iW fl o=false:=by
 cases h<;>exact⟨rfl,rfl⟩
theorem Draw.cb{ops:Array Oper}(D:Draw P fl ops){i j:Nat}{o:Oper}(ho:ops[i]? =some o)(hj:fl.base i=some j):j<i∧jO fl o.op=false∧iW fl o.op=false:=by
 obtain⟨h1,_,_,_,_,_,_,_,_,_,_,_,h2⟩:=D.aA ho hj
 exact⟨h1,h2.plain⟩
theorem Draw.aW{ops:Array Oper}(D:Draw P fl ops){i b:Nat}{o:Oper}(ho:ops[i]? =some o)(hh:lW fl i o.op=some b):b≤i∧∃y,ops[b]? =some y∧iW fl y.op=true:=by
 cases ha:iW fl o.op with
 | true=>
   rw[sL ha]at hh
   obtain rfl:=dc hh
   exact⟨dm _,o,ho,ha⟩
 | false=>
   obtain⟨h1,_⟩:=qP ha hh
   obtain⟨h2,_,_,y,_,_,_,_,h3,_,_,h4,_⟩:=D.aA ho h1
   exact⟨by omega,y,h3,h4⟩
theorem a9q{o:Oper}(ho:iW fl o.op=true){l:List Value}{v:Value}{H':Heap}(hd:opD P o l H=some (v,H')):∃jY,H'=H.cons jY:=by
 obtain⟨dst,op,type,pos,after,guard⟩:=o
 simp only at ho
 cases op with
 | alloc t=>
   simp only[opD,dg]at hd
   obtain⟨z,hz,hd⟩:=hd
   split at hd
   case isFalse=>cases hd
   have newc:wY P H t z=some (v,H')→∃jY,H'=H.cons jY:=by
    intro hd
    unfold wY at hd
    simp only at hd
    split at hd
    case isFalse=>cases hd
    injection (dc hd)with e1 e2
    exact⟨_,by rw[←e2,lL]⟩
   unfold qT at hd
   split at hd
   ·rename_i n elem hu
    cases hse:iJ P elem with
    | none=>rw[hse]at hd;simp at hd
    | some k=>
      rw[hse]at hd
      dsimp only at hd
      split at hd
      case isFalse=>cases hd
      injection (dc hd)with e1 e2
      exact⟨_,by rw[←e2,a0T]⟩
   ·exact newc hd
 | buildSlice t len parts=>
   simp only[opD,dg]at hd
   obtain⟨elem,he,size,hs,z,hz,hd⟩:=hd
   split at hd
   ·injection (dc hd)with e1 e2
    exact⟨_,by rw[←e2,lL]⟩
   split at hd
   ·simp only[dq]at hd
    obtain⟨cs,hb,hd⟩:=hd
    injection hd with e1 e2
    exact⟨_,by rw[←e2,lL]⟩
   ·cases hd
 | _=>simp[iW]at ho
theorem c0g{o:Oper}{t:TypeId}{len:Nat}{parts:Array (Nat×Operand)}(ho:o.op=.buildSlice t len parts){l:List Value}{v:Value}{H':Heap}(hd:opD P o l H=some (v,H')):
 ∃(cs:List Value)(elem:TypeId)(size:Nat),H'=H.cons (.cells cs elem true cs.length 0)∧v=.slice (some ⟨H.length,0,some cs.length⟩) len size:=by
 obtain⟨dst,op,type,pos,after,guard⟩:=o
 simp only at ho
 subst ho
 simp only[opD,dg]at hd
 obtain⟨elem,he,size,hs,z,hz,hd⟩:=hd
 split at hd
 ·rename_i hc
  simp only[de,beq_iff_eq]at hc
  obtain⟨⟨rfl,_⟩,_⟩:=hc
  injection (dc hd)with e1 e2
  exact⟨[],elem,size,by rw[←e2,lL],e1.symm⟩
 split at hd
 ·simp only[dq]at hd
  obtain⟨cs,hb,hd⟩:=hd
  injection hd with e1 e2
  exact⟨cs.toList,elem,size,by rw[←e2,lL],e1.symm⟩
 ·cases hd
theorem b2O{o:Oper}(ho:iW fl o.op=true){l:List Value}{v:Value}{H':Heap}(hd:opD P o l H=some (v,H')){a:Act}(hV:∀x,x∈o.op.operands→V ρ (ev l x) (a.eval x))(w:World):
 ∃(v':Value)(cs:List Value)(cs':Array Value)(ty ty':TypeId)(tg k:Nat),(execOp a.eval o).run P w=.ok (.value v') (w.alloc (.cells cs' ty'))∧PendAt P ρ (w.alloc (.cells cs' ty')) H H' v v' w.heap.size cs cs' ty ty' tg k:=by
 obtain⟨dst,op,type,pos,after,guard⟩:=o
 simp only at ho hV
 have atOf:∀{cs:List Value}{cs':Array Value}{ty ty':TypeId}{tg k b:Nat},iJ P ty=some k→(tg=0→ty'=ty)→∀(ρ:Rho)(w:World),w.heap[b]? =some (.cells cs' ty')→All2 (C1 ρ) cs cs'.toList→CellsAt P ρ w cs ty true tg cs.length cs.length ⟨b,0,cs.length,k⟩:=by
  intro cs cs' ty ty' tg k b hk ht ρ w hb hl
  refine⟨dm _,hk,by simp,cs',ty',(0,0),hb,by simpa using hl.length.symm,fun _=>⟨rfl,Int.le_refl _,ht⟩,fun _ i c hi _ hc=> ?_⟩
  obtain⟨c',hc',hr⟩:=hl.get i c hc
  exact⟨c',by simpa [Place.at]using hc',hr⟩
 cases op with
 | alloc t=>
   simp only[opD,dg]at hd
   obtain⟨z,hz,hd⟩:=hd
   split at hd
   case isFalse=>cases hd
   rename_i hf
   have hr2:(Instr.alloc t true (.tuple #[])).run P w=.ok (.pointer (some ⟨w.heap.size,0,none⟩)) (w.alloc (.cells z.cells t)):=by
    simp only[Instr.alloc,dp,qK hz,di]
    simp[newVar,newRow]
   have hval:∀(k:Nat)(ρ1:Rho),ρ1 H.length z.cells.toList.length=some ⟨w.heap.size,0,z.cells.toList.length,k⟩→V ρ1 (.pointer (some ⟨H.length,0,some z.cells.toList.length⟩)) (.pointer (some ⟨w.heap.size,0,none⟩)):=fun k ρ1 h1=>by
    have:=C0.ptr (ρ:=ρ1) (A:=H.length) (i:=0) (e:=z.cells.toList.length) h1 (by simp)
    exact .v1 (.c1 (.c0 (by simpa [Place.at]using this)))
   unfold qT at hd
   have newc:wY P H t z=some (v,H')→∃k,v=.pointer (some ⟨H.length,0,some z.cells.toList.length⟩)∧z.cells.toList.all oneCell=true∧iJ P t=some k∧H'=H.cons (.cells z.cells.toList t true z.cells.toList.length 0):=by
    intro hd
    unfold wY at hd
    simp only at hd
    split at hd
    case isFalse=>cases hd
    rename_i hcond
    simp only[de,beq_iff_eq]at hcond
    injection (dc hd)with e1 e2
    exact⟨_,e1.symm,hcond.1,hcond.2,by rw[←e2,lL]⟩
   split at hd
   ·rename_i n elem hu
    cases hse:iJ P elem with
    | none=>rw[hse]at hd;simp at hd
    | some k=>
      rw[hse]at hd
      dsimp only at hd
      split at hd
      case isFalse=>cases hd
      rename_i hcond
      simp only[de,beq_iff_eq]at hcond
      obtain⟨⟨hone,hsz⟩,hk⟩:=hcond
      injection (dc hd)with e1 e2
      subst e1 e2
      have hl:All2 (C1 ρ) z.cells.toList z.cells.toList:=(V.v1 (ρ:=ρ) (V1.of_flat hf)).cells hone
      exact⟨_,z.cells.toList,z.cells,elem,t,2,k,by simp only[execOp,dp,hr2,di,dr],jM _ _,by rw[a0T],hl,hval k,atOf hse (by simp)⟩
   ·obtain⟨k,rfl,hone,hsz,rfl⟩:=newc hd
    have hl:All2 (C1 ρ) z.cells.toList z.cells.toList:=(V.v1 (ρ:=ρ) (V1.of_flat hf)).cells hone
    exact⟨_,z.cells.toList,z.cells,t,t,0,k,by simp only[execOp,dp,hr2,di,dr],jM _ _,rfl,hl,hval k,atOf hsz fun _=>rfl⟩
 | buildSlice t len parts=>
   have hps:a7i ρ (parts.toList.map fun(i,x)=>(i,ev l x)) (parts.toList.map fun(i,x)=>(i,a.eval x)):=xR parts.toList fun x hx=>hV x.2 (by simp only[Op.operands,List.mem_toArray,dE];exact⟨x,hx,rfl⟩)
   simp only[opD,dg]at hd
   obtain⟨elem,he,size,hs,z,hz,hd⟩:=hd
   have hst:=kE he
   have hval:∀(n len:Nat),len*size=n→∀(ρ1:Rho),ρ1 H.length n=some ⟨w.heap.size,0,n,size⟩→V ρ1 (.slice (some ⟨H.length,0,some n⟩) len size) (.slice (some ⟨w.heap.size,0,none⟩) len len):=fun n len hl ρ1 h1=>a3T hl h1
   split at hd
   ·rename_i hc
    simp only[de,bne_iff_ne,beq_iff_eq,List.isEmpty_iff,gS]at hc
    obtain⟨⟨rfl,hp0⟩,hs0⟩:=hc
    injection (dc hd)with e1 e2;subst e1 e2
    have hpa:parts=#[]:=iu hp0
    subst hpa
    have hrun:(Instr.buildSlice t 0 #[]).run P w=.ok (.slice (some ⟨w.heap.size,0,none⟩) 0 0) (w.alloc (.cells #[] elem)):=by
     unfold Instr.buildSlice
     have er:(Array.range 0).map (fun _=>(default:Value))=#[]:=by simp[Array.range]
     simp[run_underlying hst,kB hs,Instr.fill,newRow,er]
    exact⟨.slice (some ⟨w.heap.size,0,none⟩) 0 0,[],#[],elem,elem,0,size,by simp only[execOp,Array.map_empty,dp,hrun,di,dr],jM _ _,by rw[lL],trivial,fun ρ1 h1=>hval 0 0 (by simp) ρ1 h1,atOf hs fun _=>rfl⟩
   split at hd
   ·rename_i hc
    simp only[de,decide_eq_true_eq,bne_iff_ne,beq_iff_eq]at hc
    obtain⟨⟨⟨⟨hfz,hall1⟩,hsmall⟩,hpos⟩,hzs⟩:=hc
    simp only[dq]at hd
    obtain⟨cs,hb,hd⟩:=hd
    injection hd with e1 e2;subst e1 e2
    obtain⟨i,hi,hisz⟩:=a2n hs
    subst hisz
    have hiz:i.zero=some z:=by unfold jG at hz;rw[hi]at hz;exact hz
    have hone:∀x∈(parts.toList.map fun(i,x)=>(i,ev l x)),x.2.cells.toList.all oneCell=true:=by
     simp only[dJ]at hall1 ⊢;exact hall1
    obtain⟨r',hr',hall⟩:=xZ _ _ _ hps hone _ _ _ (a2x hfz _) hb
    have hsz:len*i.size=cs.toList.length:=by
     have:=a0s _ _ _ _ hb;rw[fX,this];simp
    have hsm:¬len*i.size>2^24:=Nat.not_lt.2 hsmall
    have hparts:(parts.map fun(i,x)=>(i,a.eval x)).toList=(parts.toList.map fun(i,x)=>(i,a.eval x)):=by simp
    have hrun:=run_buildSlice (P:=P) w t elem len (parts.map fun(i,x)=>(i,a.eval x)) r' i z hst hi hiz hsm hpos (by rw[hparts];exact hr')
    exact⟨.slice (some ⟨w.heap.size,0,none⟩) len len,cs.toList,r',elem,elem,0,i.size,by simp only[execOp,dp,hrun,di,dr],jM _ _,by rw[lL],hall,fun ρ1 h1=>hval _ len hsz ρ1 h1,atOf hs fun _=>rfl⟩
   ·cases hd
 | _=>simp[iW]at ho
theorem a9D(l:List Value)(d:Option Tmp)(v:Value)(t:Tmp):ev (put l d v) (.tmp t)=if d=some t∧t<l.length then v else ev l (.tmp t):=by
 cases d with
 | none=>simp[put]
 | some k=>
   simp only[ev,oF,put,nD,dj,ic,dH]
   by_cases hk:k=t
   ·subst hk
    by_cases hl:k<l.length
    ·simp[hl]
    ·simp[hl]
   ·simp[hk]
theorem mG(a:Act)(d:Option Tmp)(v:Value)(t:Tmp):(a.put d v).eval (.tmp t)=if d=some t∧t<a.tmps.size then v else a.eval (.tmp t):=by
 cases d with
 | none=>simp[Act.put]
 | some k=>
   simp only[Act.put,Act.eval,dH]
   by_cases hk:k=t
   ·subst hk
    by_cases hl:k<a.tmps.size
    ·simp[hl]
    ·simp[hl]
   ·simp[hk]
theorem a1j(l:List Value)(d:Option Tmp)(v:Value):(put l d v).length=l.length:=by
 cases d<;>simp[put,nD]
theorem a5H(a:Act)(d:Option Tmp)(v:Value):(a.put d v).tmps.size=a.tmps.size:=by
 cases d<;>simp[Act.put]
theorem StepR.plain{o:Oper}{l:List Value}{v:Value}{H':Heap}(h:StepR P o l H v H')(hm:jO fl o.op=false):Go.Ds.opD P o l H=some (v,H'):=by
 refine h.opD fun c f hc hf=> ?_
 simp[jO,hc,hf]at hm
structure Text(P:Program)(ops:Array Oper)(T:Nat→List Value×Heap)(val:Nat→Value):Prop where
 step:∀k,k<ops.size→vO P ops k (T k) (T (k+1)) (val k)
section
variable {ops:Array Oper} {T:Nat→List Value×Heap} {val:Nat→Value}
theorem Text.length(X:Text P ops T val):∀k,k≤ops.size→(T k).1.length=(T 0).1.length
 | 0,_=>rfl
 | k+1,hk=>by
   obtain⟨o,_,h,_⟩:=X.step k (by omega)
   rw[h,a1j,X.length k (by omega)]
theorem Text.at(X:Text P ops T val){k:Nat}{o:Oper}(ho:ops[k]? =some o):(T (k+1)).1=put (T k).1 o.dst (val k)∧
 ((Region.wanted o (jE ops (T k).1)=true∧StepR P o (T k).1 (T k).2 (val k) (T (k+1)).2)∨(Region.wanted o (jE ops (T k).1)=false∧val k=undef∧(T (k+1)).2=(T k).2)):=by
 obtain⟨o',ho',h⟩:=X.step k (dz.1 ho).1
 rw[ho]at ho'
 obtain rfl:=dc ho'
 exact h
theorem Text.old(X:Text P ops T val){t:Tmp}:∀k,k≤ops.size→(∀i o,i<k→ops[i]? =some o→o.dst≠some t)→ev (T k).1 (.tmp t)=ev (T 0).1 (.tmp t)
 | 0,_,_=>rfl
 | k+1,hk,h=>by
   obtain⟨o,ho,h1,_⟩:=X.step k (by omega)
   rw[h1,a9D,if_neg (fun hh=>h k o (by omega) ho hh.1),X.old k (by omega) fun i o' hi=>h i o' (by omega)]
theorem Text.new(X:Text P ops T val)(D:Draw P fl ops){i:Nat}{o:Oper}(ho:ops[i]? =some o){t:Tmp}(hd:o.dst=some t)(ht:t<(T 0).1.length):∀k,i<k→k≤ops.size→ev (T k).1 (.tmp t)=val i
 | 0,h,_=>absurd h (dX _)
 | k+1,hk,hn=>by
   obtain⟨o',ho',h1,_⟩:=X.step k (by omega)
   rw[h1,a9D]
   by_cases hik:i=k
   ·subst hik
    rw[ho]at ho'
    obtain rfl:=dc ho'
    rw[if_pos ⟨hd,by rw[X.length _ (by omega)];exact ht⟩]
   ·rw[if_neg fun hh=>D.ne (by omega) ho ho' hd hh.1]
    exact X.new D ho hd ht k (by omega) (by omega)
theorem Text.still(X:Text P ops T val)(D:Draw P fl ops){k:Nat}{o:Oper}(ho:ops[k]? =some o)(hm:jO fl o.op=false)(ha:iW fl o.op=false):(T (k+1)).2=(T k).2:=by
 rcases(X.at ho).2 with⟨_,h⟩|⟨_,_,h⟩
 ·have hd:=h.plain hm
  cases hr:nU o.op with
  | true=>exact zC (D.conv _ _ ho) hr hd
  | false=>exact(a6c .nil (D.conv _ _ ho) hm ha hr hd).1
 ·exact h
theorem Text.bB(X:Text P ops T val)(D:Draw P fl ops){i:Nat}:∀k,i≤k→k≤ops.size→(∀j o,i≤j→j<k→ops[j]? =some o→jO fl o.op=false∧iW fl o.op=false)→(T k).2=(T i).2
 | 0,h,_,_=>by rw[Nat.le_zero.1 h]
 | k+1,h,hk,hh=>by
   by_cases he:i=k+1
   ·rw[he]
   ·obtain⟨o,ho,_⟩:=X.step k (by omega)
    have:=hh k o (by omega) (by omega) ho
    rw[X.still D ho this.1 this.2,X.bB D k (by omega) (by omega) fun j o h1 h2=>hh j o h1 (by omega)]
theorem Text.row(X:Text P ops T val)(D:Draw P fl ops){j A:Nat}(hA:A<(T j).2.length):∀k,j≤k→k≤ops.size→(∀i o,j≤i→i<k→ops[i]? =some o→jO fl o.op=false)→iT (T k).2 A=iT (T j).2 A∧A<(T k).2.length
 | 0,h,_,_=>by rw[←Nat.le_zero.1 h];exact⟨rfl,hA⟩
 | k+1,h,hk,hh=>by
   by_cases he:j=k+1
   ·rw[←he];exact⟨rfl,hA⟩
   ·obtain⟨o,ho,_⟩:=X.step k (by omega)
    have hm:=hh k o (by omega) (by omega) ho
    obtain⟨h1,h2⟩:=X.row D hA k (by omega) (by omega) fun i o h1 h2=>hh i o h1 (by omega)
    cases ha:iW fl o.op with
    | false=>rw[X.still D ho hm ha];exact⟨h1,h2⟩
    | true=>
      rcases(X.at ho).2 with⟨_,h3⟩|⟨_,_,h3⟩
      ·obtain⟨jY,h4⟩:=a9q ha (h3.plain hm)
       rw[h4,jU _ h2]
       exact⟨h1,by rw[length_cons];omega⟩
      ·rw[h3];exact⟨h1,h2⟩
structure Inv(P:Program)(fl:Fl)(ops:Array Oper)(T:Nat→List Value×Heap)(val:Nat→Value)(ρ0:Rho)(W0:World)(ds:List Deferred)(S:Nat→Prop)(pl:Nat→Nat)(m:Nat)(ρ:Rho)(a:Act)(w:World):Prop where
 le:m≤ops.size
 post:Post P ρ0 (T 0).2 W0 ρ (T m).2 w
 closed:a9y ops S
 mains:∀i o,ops[i]? =some o→jO fl o.op=true→(S i↔i<m)
 allocs:∀i o,ops[i]? =some o→iW fl o.op=true→i<m→S i
 pend:∀i o,ops[i]? =some o→iW fl o.op=true→m≤i→S i→W0.heap.size≤pl i∧pl i<w.heap.size∧Off ρ (pl i)∧
  ∃(v':Value)(cs:List Value)(cs':Array Value)(ty ty':TypeId)(tg k:Nat),PendAt P ρ w (T i).2 (T (i+1)).2 (val i) v' (pl i) cs cs' ty ty' tg k∧∀d,o.dst=some d→d<(T 0).1.length→a.eval (.tmp d)=v'
 apart:∀i j x y,ops[i]? =some x→ops[j]? =some y→iW fl x.op=true→iW fl y.op=true→m≤i→m≤j→S i→S j→pl i=pl j→i=j
 size:a.tmps.size=(T 0).1.length
 old:∀t,(∀i o,S i→ops[i]? =some o→o.dst≠some t)→V ρ (ev (T 0).1 (.tmp t)) (a.eval (.tmp t))
 new:∀i o t,S i→ops[i]? =some o→o.dst=some t→t<(T 0).1.length→(∀b,lW fl i o.op=some b→b<m)→V ρ (val i) (a.eval (.tmp t))
 der:∀(i j:Nat)(o b:Oper)(t d:Tmp),S i→ops[i]? =some o→iW fl o.op=false→lW fl i o.op=some j→m≤j→o.dst=some t→t<(T 0).1.length→ops[j]? =some b→b.dst=some d→
  ∀ρ1:Rho,(d<(T 0).1.length→V ρ1 (val j) (a.eval (.tmp d)))→V ρ1 (val i) (a.eval (.tmp t))
 defers:a.defers=ds
variable {ρ0:Rho} {W0:World} {ds:List Deferred} {S:Nat→Prop} {pl:Nat→Nat} {m:Nat} {a:Act}
theorem a4r{l:List Value}{t:Tmp}(h:l.length≤t):ev l (.tmp t)=undef:=by
 simp[ev,oF,dj,eZ h]
theorem a1V{a:Act}{t:Tmp}(h:a.tmps.size≤t):a.eval (.tmp t)=undef:=by
 simp[Act.eval,h]
theorem Inv.looks(I:Inv P fl ops T val ρ0 W0 ds S pl m ρ a w)(X:Text P ops T val)(D:Draw P fl ops){i:Nat}{o:Oper}(ho:ops[i]? =some o)(hS:¬S i)(hr:∀e∈o.after,Region.binds .any e=true→S e.on)(hm:jO fl o.op=true→m=i)(hj:∀j,fl.base i=some j→j<m)
 {t:Tmp} (ht:t∈o.looksAt ops):V ρ (ev (T i).1 (.tmp t)) (a.eval (.tmp t)):=by
 have hi:i<ops.size:=(dz.1 ho).1
 by_cases hl:(T 0).1.length≤t
 ·rw[a4r (by rw[X.length i (by omega)];exact hl),a1V (by rw[I.size];exact hl)]
  exact .undef
 have hl:t<(T 0).1.length:=iB hl
 by_cases hk:∃k x,k<i∧ops[k]? =some x∧x.dst=some t
 ·obtain⟨k,x,hki,hx,hd⟩:=hk
  have hSk:S k:=D.bef I.closed i o ho hr k (D.raw hki hx ho hd ht)
  rw[X.new D hx hd hl i hki (by omega)]
  refine I.new k x t hSk hx hd hl fun b hb=> ?_
  rcases D.fresh hki hx ho hd hb ht with h|h
  ·have:=(D.aW hx hb).1
   have:=hm h
   omega
  ·exact hj b h
 ·rw[X.old i (by omega) fun k x hki hx hd=>hk ⟨k,x,hki,hx,hd⟩]
  refine I.old t fun k x hSk hx hd=> ?_
  rcases ij k i with h|h|h
  ·exact hk ⟨k,x,h,hx,hd⟩
  ·exact hS (h▸hSk)
  ·exact hS (D.bef I.closed k x hx (fun e he hb=>I.closed k x hSk hx e he hb) i (D.cW h ho hx hd ht))
theorem Inv.operands(I:Inv P fl ops T val ρ0 W0 ds S pl m ρ a w)(X:Text P ops T val)(D:Draw P fl ops){i:Nat}{o:Oper}(ho:ops[i]? =some o)(hS:¬S i)(hr:∀e∈o.after,Region.binds .any e=true→S e.on)(hm:jO fl o.op=true→m=i)(hj:∀j,fl.base i=some j→j<m):
 ∀x,x∈o.op.operands→iV x=true→V ρ (ev (T i).1 x) (a.eval x):=fun x hx hok=>by
 cases x with
 | tmp t=>exact I.looks X D ho hS hr hm hj (by
    unfold Oper.looksAt
    simp only[dP,fH]
    exact .inl ⟨.tmp t,by simpa using hx,rfl⟩)
 | const v=>exact .of_flat hok
 | global g=>exact .v1 (.c1 (.c0 (.glob g 0)))
 | func f=>exact .v1 (.c1 (.fn trivial trivial))
theorem a8N{l:List Value}{a:Act}{ops:Array Oper}{j:Nat}(h:∀d,((ops[j]?).bind (·.dst))=some d→V ρ (ev l (.tmp d)) (a.eval (.tmp d))):yielded ops a.tmps j=jE ops l j:=by
 unfold yielded jE
 cases hd:(ops[j]?).bind (·.dst)with
 | none=>rfl
 | some d=>
   have hv:=h d hd
   simp only[ev,oF,Act.eval,dj]at hv
   simp only[dh]
   cases h1:l[d]? with
   | none=>
     rw[h1,Option.getD_none]at hv
     have:=hv.ab rfl
     cases h2:a.tmps[d]? with
     | none=>rfl
     | some v'=>
       have:v'=undef:=by simpa [h2]using this
       subst this
       rfl
   | some v=>
     rw[h1,dO]at hv
     cases h2:a.tmps[d]? with
     | none=>
       cases v with
       | bool b=>have:=hv.aK;simp[h2]at this;cases this
       | _=>rfl
     | some v'=>
       have hv:V ρ v v':=by simpa [h2]using hv
       cases v' with
       | bool b=>rw[hv.of_bool]
       | _=>
         cases v with
         | bool b=>have:=hv.aK;cases this
         | _=>rfl
theorem Inv.wanted(I:Inv P fl ops T val ρ0 W0 ds S pl m ρ a w)(X:Text P ops T val)(D:Draw P fl ops){i:Nat}{o:Oper}(ho:ops[i]? =some o)(hS:¬S i)(hr:∀e∈o.after,Region.binds .any e=true→S e.on)(hm:jO fl o.op=true→m=i)(hj:∀j,fl.base i=some j→j<m):
 Region.wanted o (yielded ops a.tmps)=Region.wanted o (jE ops (T i).1):=by
 unfold Region.wanted
 cases hg:o.guard with
 | none=>rfl
 | some g=>
   simp only
   rw[a8N (l:=(T i).1) fun d hd=>I.looks X D ho hS hr hm hj (by
    unfold Oper.looksAt
    simp only[hg,dP]
    exact .inr (by rw[hd];simp))]
theorem a2K{b:Nat}(h:Off ρ b):¬Wr ρ H b:=by
 rintro⟨A,e,p,jY,hp,hb,_⟩
 exact h _ _ _ hp hb
theorem Inv.skip(I:Inv P fl ops T val ρ0 W0 ds S pl m ρ a w)(X:Text P ops T val)(D:Draw P fl ops){o:Oper}(ho:ops[m]? =some o)(hm:jO fl o.op=false)(ha:iW fl o.op=false):Inv P fl ops T val ρ0 W0 ds S pl (m+1) ρ a w:=by
 have hlt:m<ops.size:=(dz.1 ho).1
 have hno:∀i x,ops[i]? =some x→(jO fl x.op=true∨iW fl x.op=true)→i≠m:=fun i x hx he hi=>by
  subst hi
  rw[ho]at hx
  obtain rfl:=dc hx
  rcases he with he|he
  ·rw[hm]at he;cases he
  ·rw[ha]at he;cases he
 refine⟨hlt,by rw[X.still D ho hm ha];exact I.post,I.closed,fun i x hx hmx=>(I.mains i x hx hmx).trans ?_,fun i x hx hax hi=> ?_,fun i x hx hax hi=>I.pend i x hx hax (by omega),fun i j x y hx hy h1 h2 h3 h4=>I.apart i j x y hx hy h1 h2 (by omega) (by omega),I.size,I.old,fun i x t hS hx hd hl hal=>I.new i x t hS hx hd hl fun b hb=> ?_,fun i j x y t d hS hx hna hh hj=>I.der i j x y t d hS hx hna hh (by omega),I.defers⟩
 ·have:=hno i x hx (.inl hmx);omega
 ·have:=hno i x hx (.inr hax);exact I.allocs i x hx hax (by omega)
 ·obtain⟨_,y,hy,hay⟩:=D.aW hx hb
  have:=hno b y hy (.inr hay);have:=hal b hb;omega
theorem Inv.aR(I:Inv P fl ops T val ρ0 W0 ds S pl m ρ a w)(D:Draw P fl ops){o:Oper}(ho:ops[m]? =some o)(ha:iW fl o.op=true)(hS:S m):∃ρ',Inv P fl ops T val ρ0 W0 ds S pl (m+1) ρ' a w:=by
 have hlt:m<ops.size:=(dz.1 ho).1
 obtain⟨h1,h2,h3,v',cs,cs',ty,ty',tg,k,hpa,h8⟩:=I.pend m o ho ha (dm _) hS
 have hle:ρ.Le (ρ.put (T m).2.length cs.length ⟨pl m,0,cs.length,k⟩):=.put (pT I.post.rel _)
 have hpost:=I.post.aR cs ty tg ⟨pl m,0,cs.length,k⟩ h3 h2 h1 (hpa.at_ _ w hpa.here (hpa.rel.mono fun _ _ h=>h.mono hle))
 rw[←hpa.next]at hpost
 have hmain:jO fl o.op=false:=oM ha
 refine⟨_,hlt,hpost,I.closed,fun i x hx hmx=>(I.mains i x hx hmx).trans ?_,fun i x hx hax hi=> ?_,fun i x hx hax hi hSi=> ?_,fun i j x y hx hy h1 h2 h3 h4=>I.apart i j x y hx hy h1 h2 (by omega) (by omega),I.size,fun t ht=>(I.old t ht).mono hle,fun i x t hSi hx hd hl hal=> ?_,fun i j x y t d hS hx hna hh hj=>I.der i j x y t d hS hx hna hh (by omega),I.defers⟩
 ·have:i≠m:=fun hi=>by
   subst hi
   rw[ho]at hx
   obtain rfl:=dc hx
   rw[hmain]at hmx;cases hmx
  omega
 ·by_cases hi2:i=m
  ·rw[hi2];exact hS
  ·exact I.allocs i x hx hax (by omega)
 ·obtain⟨k1,k2,k3,v1,c1,c2,t1,t2,g1,kk,k4,k5⟩:=I.pend i x hx hax (by omega) hSi
  refine⟨k1,k2,fun A e p hp=> ?_,v1,c1,c2,t1,t2,g1,kk,k4.mono hle rfl,k5⟩
  by_cases hh:A=(T m).2.length∧e=cs.length
  ·obtain⟨rfl,rfl⟩:=hh
   rw[Rho.ai]at hp
   obtain rfl:=dc hp
   intro hpl
   have:=I.apart m i o x ho hx ha hax (dm _) (by omega) hS hSi hpl
   omega
  ·rw[Rho.aN hh]at hp
   exact k3 _ _ _ hp
 ·by_cases hi:i=m
  ·subst hi
   rw[ho]at hx
   obtain rfl:=dc hx
   rw[h8 t hd hl]
   exact hpa.val _ (Rho.ai _ _ _ _)
  ·by_cases hb:lW fl i x.op=some m
   ·have hna:iW fl x.op=false:=by
     cases h:iW fl x.op with
     | false=>rfl
     | true=>rw[sL h]at hb;exact absurd (dc hb) hi
    obtain⟨_,_,_,y,d,_,_,_,hy,hyd,_⟩:=D.aA hx (qP hna hb).1
    rw[ho]at hy
    obtain rfl:=dc hy
    exact I.der i m x o t d hSi hx hna hb (dm _) hd hl ho hyd _ fun hdl=>by
     rw[h8 d hyd hdl]
     exact hpa.val _ (Rho.ai _ _ _ _)
   ·exact(I.new i x t hSi hx hd hl fun b h=>by have:=hal b h;have:b≠m:=fun e=>hb (e▸h);omega).mono hle
theorem Inv.cq(X:Text P ops T val)(D:Draw P fl ops):∀(n m:Nat)(ρ:Rho),Inv P fl ops T val ρ0 W0 ds S pl m ρ a w→m+n≤ops.size→(∀k x,m≤k→k<m+n→ops[k]? =some x→jO fl x.op=false∧(iW fl x.op=true→S k))→∃ρ',Inv P fl ops T val ρ0 W0 ds S pl (m+n) ρ' a w
 | 0,m,ρ,I,_,_=>⟨ρ,I⟩
 | n+1,m,ρ,I,hn,hh=>by
   have ho:ops[m]? =some (ops[m]'(by omega)):=dz.2 ⟨by omega,rfl⟩
   obtain⟨h1,h2⟩:=hh m _ (dm _) (by omega) ho
   have step:∃ρ',Inv P fl ops T val ρ0 W0 ds S pl (m+1) ρ' a w:=by
    cases ha:iW fl (ops[m]'(by omega)).op with
    | true=>exact I.aR D ho ha (h2 ha)
    | false=>exact⟨ρ,I.skip X D ho h1 ha⟩
   obtain⟨ρ1,I1⟩:=step
   obtain⟨ρ2,I2⟩:=Inv.cq X D n (m+1) ρ1 I1 (by omega) fun k x h3 h4=>hh k x (by omega) (by omega)
   exact⟨ρ2,by rw[show m+(n+1)=m+1+n by omega];exact I2⟩
theorem Inv.next(I:Inv P fl ops T val ρ0 W0 ds S pl m ρ a w)(X:Text P ops T val)(D:Draw P fl ops){i:Nat}{o:Oper}(ho:ops[i]? =some o)(hS:¬S i)(hr:∀e∈o.after,Region.binds .any e=true→S e.on)(hna:iW fl o.op=false)
 {m':Nat} (hm':(jO fl o.op=true∧m=i∧m'=i+1)∨(jO fl o.op=false∧m'=m)) {ρ':Rho} {v':Value} {w':World} (hp:Post P ρ (T m).2 w ρ' (T m').2 w') (hv:(∀b,lW fl i o.op=some b→b<m')→V ρ' (val i) v')
 (hdr:∀(j:Nat)(b:Oper)(d:Tmp),lW fl i o.op=some j→m'≤j→ops[j]? =some b→b.dst=some d→∀ρ1:Rho,(d<(T 0).1.length→V ρ1 (val j) (a.eval (.tmp d)))→V ρ1 (val i) v'):
 Inv P fl ops T val ρ0 W0 ds (fun k=>S k∨k=i) pl m' ρ' (a.put o.dst v') w':=by
 have hi:i<ops.size:=(dz.1 ho).1
 have hmm:m≤m':=by rcases hm' with⟨_,rfl,rfl⟩|⟨_,rfl⟩<;>omega
 have hne:∀k x,ops[k]? =some x→k≠i→∀d,x.dst=some d→o.dst≠some d:=fun k x hx hki d hd hod=>by
  rcases gZ hki with h|h
  ·exact D.ne h hx ho hd hod
  ·exact D.ne h ho hx hod hd
 have hnot:∀k x,ops[k]? =some x→iW fl x.op=true→k≠i:=fun k x hx hax hki=>by
  subst hki
  rw[ho]at hx
  obtain rfl:=dc hx
  rw[hna]at hax;cases hax
 refine⟨?_,I.post.trans hp,?_,fun k x hx hmx=> ?_,fun k x hx hax hk=> ?_,fun k x hx hax hk hSk=> ?_,fun k j x y hx hy h1 h2 h3 h4 h5 h6=> ?_,by rw[a5H];exact I.size,fun t ht=> ?_,fun k x t hSk hx hd hl hal=> ?_,fun k j x y t d hSk hx hka hh hj htd htl hy hyd ρ1 hV=> ?_,by rw[sK];exact I.defers⟩
 ·rcases hm' with⟨_,rfl,rfl⟩|⟨_,rfl⟩
  ·exact hi
  ·exact I.le
 ·intro j x hj hx e he hb
  rcases hj with hj|rfl
  ·exact .inl (I.closed j x hj hx e he hb)
  ·rw[ho]at hx
   obtain rfl:=dc hx
   exact .inl (hr e he hb)
 ·rcases hm' with⟨h1,rfl,rfl⟩|⟨h1,rfl⟩
  ·rw[I.mains k x hx hmx];omega
  ·rw[I.mains k x hx hmx]
   have:k≠i:=fun hki=>by
    subst hki
    rw[ho]at hx
    obtain rfl:=dc hx
    rw[h1]at hmx;cases hmx
   omega
 ·have hki:=hnot k x hx hax
  refine .inl (I.allocs k x hx hax ?_)
  rcases hm' with⟨_,rfl,rfl⟩|⟨_,rfl⟩<;>omega
 ·have hki:=hnot k x hx hax
  obtain⟨k1,k2,k3,v1,c1,c2,t1,t2,g1,kk,k4,k6⟩:=I.pend k x hx hax (by omega) (hSk.resolve_right hki)
  refine⟨k1,dV k2 hp.size,hp.img _ k2 k3,v1,c1,c2,t1,t2,g1,kk,k4.mono hp.le (hp.frame _ k2 (a2K k3)).1,fun d hd hl=> ?_⟩
  rw[mG,if_neg fun hh=>hne k x hx hki d hd hh.1]
  exact k6 d hd hl
 ·exact I.apart k j x y hx hy h1 h2 (by omega) (by omega) (h5.resolve_right (hnot k x hx h1)) (h6.resolve_right (hnot j y hy h2))
 ·rw[mG,if_neg fun hh=>ht i o (.inr rfl) ho hh.1]
  exact(I.old t fun k x hk=>ht k x (.inl hk)).mono hp.le
 ·by_cases hki:k=i
  ·subst hki
   rw[ho]at hx
   obtain rfl:=dc hx
   rw[mG,if_pos ⟨hd,by rw[I.size];exact hl⟩]
   exact hv hal
  ·rw[mG,if_neg fun hh=>hne k x hx hki t hd hh.1]
   refine(I.new k x t (hSk.resolve_right hki) hx hd hl fun b h=> ?_).mono hp.le
   have h1:=hal b h
   obtain⟨_,y,hy,hay⟩:=D.aW hx h
   have:=hnot b y hy hay
   rcases hm' with⟨_,rfl,rfl⟩|⟨_,rfl⟩<;>omega
 ·have hji:=hnot j y hy (by
   obtain⟨_,y',hy',hay⟩:=D.aW hx hh
   rw[hy]at hy'
   obtain rfl:=dc hy'
   exact hay)
  have hV':d<(T 0).1.length→V ρ1 (val j) (a.eval (.tmp d)):=fun hdl=>by
   have:=hV hdl
   rw[mG,if_neg fun hh=>hne j y hy hji d hyd hh.1]at this
   exact this
  by_cases hki:k=i
  ·subst hki
   rw[ho]at hx
   obtain rfl:=dc hx
   rw[mG,if_pos ⟨htd,by rw[I.size];exact htl⟩]
   exact hdr j y d hh hj hy hyd ρ1 hV'
  ·rw[mG,if_neg fun hh=>hne k x hx hki t htd hh.1]
   exact I.der k j x y t d (hSk.resolve_right hki) hx hka hh (by omega) htd htl hy hyd ρ1 hV'
theorem Draw.lit(D:Draw P fl ops)(hc:a9y ops S){i j:Nat}{o:Oper}(ho:ops[i]? =some o)(hr:∀e∈o.after,Region.binds .any e=true→S e.on)(hj:fl.base i=some j):S j:=by
 have one:∀(i:Nat)(o b:Oper)(d:Tmp),j<i→ops[i]? =some o→ops[j]? =some b→b.dst=some d→(∀e∈o.after,Region.binds .any e=true→S e.on)→.tmp d∈o.op.operands→S j:=fun i o b d hji ho hb hd hr hx=>
  D.bef hc i o ho hr j (D.raw hji hb ho hd (by
   unfold Oper.looksAt
   simp only[dP,fH]
   exact .inl ⟨.tmp d,by simpa using hx,rfl⟩))
 obtain⟨h1,_,_,b,d,_,_,_,hb,hd,_,_,hD⟩:=D.aA ho hj
 obtain⟨dst,op,type,pos,after,guard⟩:=o
 simp only at hD hr
 cases hD with
 | addr t ix=>exact one i _ b d h1 ho hb hd hr (by simp[Op.operands])
 | conv s t=>exact one i _ b d h1 ho hb hd hr (by simp[Op.operands])
 | load t x k y t' x' ix' g1 g2 g3 g4 g5 g6=>
   have hSk:S k:=D.bef hc i _ ho hr k (D.raw g2 g3 ho g6 (by
    unfold Oper.looksAt
    simp only[dP,fH]
    exact .inl ⟨.tmp x,by simp[Op.operands],rfl⟩))
   obtain⟨_,_,_,b',d',_,_,_,hb',hd',_,_,hD'⟩:=D.aA g3 g4
   rw[hb]at hb'
   obtain rfl:=dc hb'
   rw[hd]at hd'
   obtain rfl:=dc hd'
   obtain⟨dst2,op2,type2,pos2,after2,guard2⟩:=y
   simp only at g5 hD'
   subst g5
   cases hD'
   exact one k _ b d g1 g3 hb hd (fun e he hb=>hc k _ hSk g3 e he hb) (by simp[Op.operands])
theorem Inv.lits(I:Inv P fl ops T val ρ0 W0 ds S pl m ρ a w)(_X:Text P ops T val)(D:Draw P fl ops){i j:Nat}{o:Oper}(ho:ops[i]? =some o)(hS:S i)(hj:fl.base i=some j):S j:=
 D.lit I.closed ho (fun e he hb=>I.closed i o hS ho e he hb) hj
theorem Inv.early(I:Inv P fl ops T val ρ0 W0 ds S pl m ρ a w)(X:Text P ops T val)(D:Draw P fl ops){i:Nat}{o:Oper}(ho:ops[i]? =some o)(hS:¬S i)(hr:∀e∈o.after,Region.binds .any e=true→S e.on)(hal:iW fl o.op=true):
 ∃(v':Value)(w':World),(execOp a.eval o).run P w=.ok (.value v') w'∧Inv P fl ops T val ρ0 W0 ds (fun k=>S k∨k=i) (fun k=>if k=i then w.heap.size else pl k) m ρ (a.put o.dst v') w':=by
 have hi:i<ops.size:=(dz.1 ho).1
 have hmi:m≤i:=gN fun h=>hS (I.allocs i o ho hal h)
 have hw:Region.wanted o (jE ops (T i).1)=true:=by
  unfold Region.wanted
  rw[D.guard i o ho hal]
 have hst:StepR P o (T i).1 (T i).2 (val i) (T (i+1)).2:=by
  rcases(X.at ho).2 with⟨_,h⟩|⟨h,_⟩
  ·exact h
  ·rw[hw]at h;cases h
 have hnm:=oM hal
 have hok:∀x,x∈o.op.operands→iV x=true:=fun x hx=>by
  have:=hst.ok
  rw[dJ]at this;exact this x (by simpa using hx)
 obtain⟨v',cs,cs',ty,ty',tg,kk,h1,h2⟩:=b2O hal (hst.plain hnm) (fun x hx=>I.operands X D ho hS hr (fun h=>by rw[hnm]at h;cases h) (fun j hj=>by have:=(D.cb ho hj).2.2;rw[hal]at this;cases this) x hx (hok x hx)) w
 refine⟨_,_,h1,?_⟩
 have hp:=Post.ba I.post.rel (.cells cs' ty')
 have hne:∀k x,ops[k]? =some x→k≠i→∀d,x.dst=some d→o.dst≠some d:=fun k x hx hki d hd hod=>by
  rcases gZ hki with h|h
  ·exact D.ne h hx ho hd hod
  ·exact D.ne h ho hx hod hd
 have hoff:Off ρ w.heap.size:=fun A e p hq=>by have:=(I.post.rel.dom _ _ _ hq).2;omega
 refine⟨I.le,I.post.trans hp,?_,fun k x hx hmx=> ?_,fun k x hx hax hk=>.inl (I.allocs k x hx hax hk),fun k x hx hax hk hSk=> ?_,fun k j x y hx hy g1 g2 g3 g4 g5 g6 g7=> ?_,by rw[a5H];exact I.size,fun t' ht=> ?_,fun k x t' hSk hx hd hl hal'=> ?_,fun k j x y t d hSk hx hka hh hj htd htl hy hyd ρ1 hV=> ?_,by rw[sK];exact I.defers⟩
 ·intro j x hj hx e he hb
  rcases hj with hj|rfl
  ·exact .inl (I.closed j x hj hx e he hb)
  ·rw[ho]at hx
   obtain rfl:=dc hx
   exact .inl (hr e he hb)
 ·have:k≠i:=fun hki=>by
   subst hki
   rw[ho]at hx
   obtain rfl:=dc hx
   rw[hnm]at hmx;cases hmx
  rw[←I.mains k x hx hmx]
  simp[this]
 ·by_cases hki:k=i
  ·subst hki
   rw[ho]at hx
   obtain rfl:=dc hx
   simp only[if_true]
   refine⟨I.post.size,by simp,hoff,v',cs,cs',ty,ty',tg,kk,h2,fun d hd hl=> ?_⟩
   rw[mG,if_pos ⟨hd,by rw[I.size];exact hl⟩]
  ·simp only[hki,if_false]
   obtain⟨k1,k2,k3,v1,c1,c2,t1,t2,g1,kk1,k4,k6⟩:=I.pend k x hx hax hk (hSk.resolve_right hki)
   refine⟨k1,by simp;omega,k3,v1,c1,c2,t1,t2,g1,kk1,k4.mono (fun _ _ _ h=>h) (jI k2),fun d hd hl=> ?_⟩
   rw[mG,if_neg fun hh=>hne k x hx hki d hd hh.1]
   exact k6 d hd hl
 ·have lt:∀k x,ops[k]? =some x→iW fl x.op=true→m≤k→S k→pl k<w.heap.size:=fun k x hx ha hk hSk=>by
   exact(I.pend k x hx ha hk hSk).2.1
  by_cases hki:k=i
  ·by_cases hji:j=i
   ·rw[hki,hji]
   ·simp only[hki,hji,if_true,if_false]at g7
    have:=lt j y hy g2 g4 (g6.resolve_right hji);omega
  ·by_cases hji:j=i
   ·simp only[hki,hji,if_true,if_false]at g7
    have:=lt k x hx g1 g3 (g5.resolve_right hki);omega
   ·simp only[hki,hji,if_false]at g7
    exact I.apart k j x y hx hy g1 g2 g3 g4 (g5.resolve_right hki) (g6.resolve_right hji) g7
 ·rw[mG,if_neg fun hh=>ht i o (.inr rfl) ho hh.1]
  exact I.old t' fun k x hk=>ht k x (.inl hk)
 ·have hki:k≠i:=fun hki=>by
   subst hki
   rw[ho]at hx
   obtain rfl:=dc hx
   have:=hal' _ (sL hal)
   omega
  rw[mG,if_neg fun hh=>hne k x hx hki t' hd hh.1]
  exact I.new k x t' (hSk.resolve_right hki) hx hd hl hal'
 ·have hki:k≠i:=fun hki=>by
   subst hki
   rw[ho]at hx
   obtain rfl:=dc hx
   rw[hal]at hka
   cases hka
  rw[mG,if_neg fun hh=>hne k x hx hki t htd hh.1]
  refine I.der k j x y t d (hSk.resolve_right hki) hx hka hh hj htd htl hy hyd ρ1 fun hdl=> ?_
  have h9:=hV hdl
  by_cases hji:j=i
  ·subst hji
   exfalso
   have hb:=(qP hka hh).1
   obtain⟨g1,_,_,b',d',_,_,_,g2,g3,_,_,g4⟩:=D.aA hx hb
   have hSk':=hSk.resolve_right hki
   exact hS (I.lits X D hx hSk' hb)
  ·rw[mG,if_neg fun hh=>hne j y hy hji d hyd hh.1]at h9
   exact h9
end
end
section
variable {P:Program} {ρ:Rho} {H:Heap} {w:World} {fl:Fl} {ops:Array Oper} {T:Nat→List Value×Heap} {val:Nat→Value}
variable {ρ0:Rho} {W0:World} {ds:List Deferred} {S:Nat→Prop} {pl:Nat→Nat} {m:Nat} {a:Act}
theorem Inv.aA(I:Inv P fl ops T val ρ0 W0 ds S pl m ρ a w)(X:Text P ops T val)(D:Draw P fl ops){i j:Nat}{o:Oper}(ho:ops[i]? =some o)(hS:¬S i)(hr:∀e∈o.after,Region.binds .any e=true→S e.on)(hj:fl.base i=some j)(hmj:m≤j):
 ∃v',(execOp a.eval o).run P w=.ok (.value v') w∧Inv P fl ops T val ρ0 W0 ds (fun k=>S k∨k=i) pl m ρ (a.put o.dst v') w:=by
 have hin:i<ops.size:=(dz.1 ho).1
 have hSj:=D.lit I.closed ho hr hj
 obtain⟨hji,hg,hnm,b,d,bt,blen,bparts,hb,hbd,hbo,hba,hD⟩:=D.aA ho hj
 obtain⟨hmi,hai⟩:=hD.plain
 obtain⟨q1,q2,q3,v0,cs,cs',ty,ty',tg,k,hpa,hslot⟩:=I.pend j b hb hba hmj hSj
 have hwj:Region.wanted b (jE ops (T j).1)=true:=by
  unfold Region.wanted
  rw[D.guard j b hb hba]
 have hopj:opD P b (T j).1 (T j).2=some (val j,(T (j+1)).2):=by
  rcases(X.at hb).2 with⟨_,h⟩|⟨h,_⟩
  ·exact h.plain (oM hba)
  ·rw[hwj]at h;cases h
 obtain⟨cs0,elem,size,hcons,hvj⟩:=c0g hbo hopj
 have hrowj:iT (T (j+1)).2 (T j).2.length=some (.cells cs ty true cs.length tg):=by rw[hpa.next,iQ]
 have hcs:cs0=cs:=by
  rw[hcons,iQ]at hrowj
  injection (dc hrowj)
 subst hcs
 have hA:(T j).2.length<(T (j+1)).2.length:=jP hrowj
 have hrowi:iT (T i).2 (T j).2.length=some (.cells cs0 ty true cs0.length tg):=by
  rw[(X.row D hA i (by omega) (by omega) fun q x h1 h2 hx=>hnm q x (by omega) h2 hx).1]
  exact hrowj
 have hrow:a7I P ρ (T i).2 w (T j).2.length cs0.length ⟨pl j,0,cs0.length,k⟩:=by
  intro cs2 ty2 rw2 lo2 ver2 hg2
  rw[hrowi]at hg2
  injection (dc hg2)with e1 e2 e3 e4 e5
  subst e1 e2 e3 e4 e5
  exact hpa.at_ ρ w hpa.here hpa.rel
 let ρj:Rho:=Rho.put (fun _ _=>none) (T j).2.length cs0.length ⟨pl j,0,cs0.length,k⟩
 have hput:ρj (T j).2.length cs0.length=some ⟨pl j,0,cs0.length,k⟩:=Rho.ai _ _ _ _
 have hdj:d<(T 0).1.length→V ρj (val j) (a.eval (.tmp d)):=fun hdl=>by
  rw[hslot d hbd hdl]
  exact hpa.val _ hput
 have looks:∀t,t∈o.looksAt ops→∃ρ',V ρ' (ev (T i).1 (.tmp t)) (a.eval (.tmp t)):=by
  intro t ht
  by_cases hl:(T 0).1.length≤t
  ·rw[a4r (by rw[X.length i (by omega)];exact hl),a1V (by rw[I.size];exact hl)]
   exact⟨ρ,.undef⟩
  have hl:t<(T 0).1.length:=iB hl
  by_cases hk:∃q x,q<i∧ops[q]? =some x∧x.dst=some t
  ·obtain⟨q,x,hqi,hx,hd⟩:=hk
   have hSq:S q:=D.bef I.closed i o ho hr q (D.raw hqi hx ho hd ht)
   rw[X.new D hx hd hl i hqi (by omega)]
   cases hh:lW fl q x.op with
   | none=>exact⟨ρ,I.new q x t hSq hx hd hl fun c hc=>by rw[hh]at hc;cases hc⟩
   | some c=>
     by_cases hcm:c<m
     ·exact⟨ρ,I.new q x t hSq hx hd hl fun c' hc=>by rw[hh]at hc;obtain rfl:=dc hc;exact hcm⟩
     ·refine⟨ρj,?_⟩
      rcases D.fresh hqi hx ho hd hh ht with h|h
      ·rw[hmi]at h;cases h
      ·rw[hj]at h
       obtain rfl:=dc h
       cases hax:iW fl x.op with
       | true=>
         rw[sL hax]at hh
         obtain rfl:=dc hh
         rw[hb]at hx
         obtain rfl:=dc hx
         rw[hbd]at hd
         obtain rfl:=dc hd
         exact hdj hl
       | false=>exact I.der q _ x b t d hSq hx hax hh hmj hd hl hb hbd _ hdj
  ·rw[X.old i (by omega) fun q x hqi hx hd=>hk ⟨q,x,hqi,hx,hd⟩]
   refine⟨ρ,I.old t fun q x hSq hx hd=> ?_⟩
   rcases ij q i with h|h|h
   ·exact hk ⟨q,x,h,hx,hd⟩
   ·exact hS (h▸hSq)
   ·exact hS (D.bef I.closed q x hx (fun e he hb=>I.closed q x hSq hx e he hb) i (D.cW h ho hx hd ht))
 have hwi:Region.wanted o (jE ops (T i).1)=true:=by
  unfold Region.wanted
  rw[hg]
 have hst:StepR P o (T i).1 (T i).2 (val i) (T (i+1)).2:=by
  rcases(X.at ho).2 with⟨_,h⟩|⟨h,_⟩
  ·exact h
  ·rw[hwi]at h;cases h
 have hop:=hst.plain hmi
 have hoks:∀x,x∈o.op.operands→iV x=true:=fun x hx=>by
  have:=hst.ok
  rw[dJ]at this;exact this x (by simpa using hx)
 have hV:∀x,x∈o.op.operands→∃ρ',V ρ' (ev (T i).1 x) (a.eval x):=fun x hx=>by
  have hok:=hoks x hx
  cases x with
  | tmp t=>exact looks t (by
     unfold Oper.looksAt
     simp only[dP,fH]
     exact .inl ⟨.tmp t,by simpa using hx,rfl⟩)
  | const v=>exact⟨ρ,.of_flat hok⟩
  | global g=>exact⟨ρ,.v1 (.c1 (.c0 (.glob g 0)))⟩
  | func f=>exact⟨ρ,.v1 (.c1 (.fn trivial trivial))⟩
 have hdi:d<(T 0).1.length∨(T 0).1.length≤d:=ik _ _
 have evd:d<(T 0).1.length→∀q,j<q→q≤ops.size→ev (T q).1 (.tmp d)=val j:=fun hdl q h1 h2=>X.new D hb hbd hdl q h1 h2
 have evn:(T 0).1.length≤d→∀q,q≤ops.size→ev (T q).1 (.tmp d)=undef:=fun hdl q h1=>a4r (by rw[X.length q h1];exact hdl)
 have fin:∀{v':Value},(execOp a.eval o).run P w=.ok (.value v') w→((∀c,lW fl i o.op=some c→c<m)→V ρ (val i) v')→(lW fl i o.op=some j→∀ρ1:Rho,(d<(T 0).1.length→V ρ1 (val j) (a.eval (.tmp d)))→V ρ1 (val i) v')→
  ∃v',(execOp a.eval o).run P w=.ok (.value v') w∧Inv P fl ops T val ρ0 W0 ds (fun k=>S k∨k=i) pl m ρ (a.put o.dst v') w:=by
  intro v' h1 h2 h3
  refine⟨v',h1,I.next X D ho hS hr hai (.inr ⟨hmi,rfl⟩) (.refl I.post.rel) h2 fun j' b' d' hh _ hb' hd' ρ1 hV1=> ?_⟩
  have:=(qP hai hh).1
  rw[hj]at this
  obtain rfl:=dc this
  rw[hb]at hb'
  obtain rfl:=dc hb'
  rw[hbd]at hd'
  obtain rfl:=dc hd'
  exact h3 hh ρ1 hV1
 obtain⟨dst,op,type,pos,after,guard⟩:=o
 simp only at hD hV
 cases hD with
 | addr t ix=>
   obtain⟨ρi,hVi⟩:=hV ix (by simp[Op.operands])
   simp only[opD]at hop
   have hdl:d<(T 0).1.length:=by
    rcases hdi with h|h
    ·exact h
    ·rw[evn h i (by omega)]at hop
     simp[undef]at hop
   have hVx:=hdj hdl
   rw[evd hdl i hji (by omega),hvj]at hop
   rw[hvj]at hVx
   split at hop
   ·rename_i elem' A i' e n c jk jx hu hx hi
    injection hx with hx1 hx2 hx3
    injection (dc hx1)with hx4 hx5 hx6
    obtain rfl:=hx4
    obtain rfl:=hx5
    obtain rfl:=dc hx6
    obtain rfl:=hx2
    obtain rfl:=hx3
    simp only[dg]at hop
    obtain⟨sz,hs,hop⟩:=hop
    split at hop
    case isFalse=>cases hop
    rename_i hc
    simp only[de,decide_eq_true_eq]at hc
    injection (dc hop)with e1 e2
    rw[hi]at hVi
    obtain⟨p,c',ad,hp,h0,hin',hnc,ha,hck,hbv⟩:=hVx.aq
    obtain⟨ha,hsz⟩:ad=⟨p.b,p.at 0,none⟩∧p.at 0+c'*p.k≤p.sz:=by
     rcases ha with ha|ha
     ·exact ha
     ·omega
    subst ha
    have hrun:(Instr.indexAt t (a.eval (.tmp d)) (a.eval ix)).run P w=.ok (.pointer (some ⟨p.b,p.at 0+jx.toNat*sz,none⟩)) w:=by
     unfold Instr.indexAt
     simp only[hbv,hVi.aI,asIntOf,dp,dr,di,run_underlying hu]
     simp[hc,nJ,kB hs]
    refine fin (v':=.pointer (some ⟨p.b,p.at 0+jx.toNat*sz,none⟩)) (by simp only[execOp,dp,hrun,di,dr]) (fun h=> ?_) fun _ ρ1 h1=> ?_
    ·have:=h j (by simp[lW,iW,hj])
     omega
    ·have h2:=h1 hdl
     rw[hvj]at h2
     obtain⟨p2,c2,ad2,hp2,h02,_,hnc2,ha2,_,hbv2⟩:=h2.aq
     obtain⟨ha2,_⟩:ad2=⟨p2.b,p2.at 0,none⟩∧p2.at 0+c2*p2.k≤p2.sz:=by
      rcases ha2 with ha2|ha2
      ·exact ha2
      ·omega
     subst ha2
     rw[hbv]at hbv2
     injection hbv2 with g1 g2 g3
     injection (dc g1)with g4 g5 g6
     rw[←e1,g4,g5,←uN h02]
     exact .v1 (.c1 (.c0 (.ptr hp2 (by
      have:0≤jx.toNat*sz:=eQ _
      omega))))
   ·rename_i hx _;cases hx
   ·rename_i hx _;cases hx
   ·cases hop
 | conv s t=>
   have hcv:=D.conv _ _ ho
   simp only[tZ,de,dW]at hcv
   simp only[opD,hcv.1,Bool.not_false,fL]at hop
   rcases hdi with hdl|hdl
   ·have hVx:=hdj hdl
    rw[evd hdl i hji (by omega),hvj]at hop
    rw[hvj]at hVx
    have hfl:flat (.slice (some ⟨(T j).2.length,0,some cs0.length⟩) blen size)=false:=rfl
    rw[hfl]at hop
    simp only[ef,if_false]at hop
    split at hop
    case isFalse=>cases hop
    rename_i hc
    simp only[de]at hc
    cases hca:(jK (T i).2 (T j).2.length 0 cs0.length blen).bind fun l=>(pO l).map Value.string with
    | none=>rw[hca]at hop;cases hop
    | some v2=>
      rw[hca]at hop
      injection (dc hop)with e1 e2
      simp only[dg,dq]at hca
      obtain⟨lx,hc1,bx,hc2,hc3⟩:=hca
      obtain⟨p,c',ad,hp,h0,_,_,ha,_,hbv⟩:=hVx.aq
      rw[hput]at hp
      obtain rfl:=dc hp
      have hrun:=rE hrow h0 hc.1 hc.2 hc1 hc2 ha
      rw[←hbv]at hrun
      refine fin (v':=.string bx) (by simp only[execOp,dp,hrun,di,dr]) (fun _=> ?_) fun h=> ?_
      ·rw[←e1,←hc3];exact .of_flat rfl
      ·simp[lW,iW]at h
   ·have e1:=evn hdl i (by omega)
    have e2:a.eval (.tmp d)=undef:=a1V (by rw[I.size];exact hdl)
    rw[e1]at hop
    have hfu:flat undef=true:=rfl
    rw[if_pos hfu]at hop
    unfold kT at hop
    split at hop
    case isFalse=>cases hop
    cases h2:iP P (execOp (ev (T i).1) ⟨dst,.convert s t (.tmp d),type,pos,after,guard⟩)with
    | none=>rw[h2]at hop;cases hop
    | some nx=>
      rw[h2]at hop
      cases nx with
      | value v2=>
        simp only at hop
        split at hop
        case isFalse=>cases hop
        rename_i hf2
        injection (dc hop)with g1 g2
        have hrun:=kV _ h2 w
        have heq:execOp (ev (T i).1) ⟨dst,.convert s t (.tmp d),type,pos,after,guard⟩=execOp a.eval ⟨dst,.convert s t (.tmp d),type,pos,after,guard⟩:=by
         simp only[execOp,e1,e2]
        rw[heq]at hrun
        refine fin hrun (fun _=> ?_) fun h=> ?_
        ·rw[←g1];exact .of_flat hf2
        ·simp[lW,iW]at h
      | _=>cases hop
 | load t x k' y t' x' ix' g1 g2 g3 g4 g5 g6=>
   simp only[opD]at hop
   cases hlo:mJ P (T i).2 t (ev (T i).1 (.tmp x))with
   | none=>rw[hlo]at hop;cases hop
   | some r=>
     rw[hlo]at hop
     injection (dc hop)with e1 e2
     have hxl:x<(T 0).1.length:=by
      refine iB fun h=> ?_
      rw[a4r (by rw[X.length i (by omega)];exact h)]at hlo
      simp[mJ,undef]at hlo
     rw[X.new D g3 g6 hxl i g2 (by omega)]at hlo
     obtain⟨_,hgk,_,b',d',_,_,_,hb',hd',_,_,hD'⟩:=D.aA g3 g4
     rw[hb]at hb'
     obtain rfl:=dc hb'
     rw[hbd]at hd'
     obtain rfl:=dc hd'
     have hyp:=hD'.plain
     have hwk:Region.wanted y (jE ops (T k').1)=true:=by
      unfold Region.wanted
      rw[hgk]
     have hopk:opD P y (T k').1 (T k').2=some (val k',(T (k'+1)).2):=by
      rcases(X.at g3).2 with⟨_,h⟩|⟨h,_⟩
      ·exact h.plain hyp.1
      ·rw[hwk]at h;cases h
     have hSk:S k':=D.bef I.closed i _ ho hr k' (D.raw g2 g3 ho g6 (by
      unfold Oper.looksAt
      simp only[dP,fH]
      exact .inl ⟨.tmp x,by simp[Op.operands],rfl⟩))
     have hheld:lW fl k' y.op=some j:=by rw[g5];simp[lW,iW,g4]
     have hVk:V ρj (val k') (a.eval (.tmp x)):=I.der k' j y b x d hSk g3 hyp.2 hheld hmj g6 hxl hb hbd _ hdj
     obtain⟨dst2,op2,type2,pos2,after2,guard2⟩:=y
     simp only at g5 hD'
     subst g5
     cases hD'
     simp only[opD]at hopk
     have hdl:d<(T 0).1.length:=by
      rcases hdi with h|h
      ·exact h
      ·rw[evn h k' (by omega)]at hopk
       simp[undef]at hopk
     rw[evd hdl k' g1 (by omega),hvj]at hopk
     split at hopk
     ·rename_i elem' A i' e n c jk jx hu hx hi
      injection hx with hx1 hx2 hx3
      injection (dc hx1)with hx4 hx5 hx6
      obtain rfl:=hx4
      obtain rfl:=hx5
      obtain rfl:=dc hx6
      simp only[dg]at hopk
      obtain⟨sz,hs,hopk⟩:=hopk
      split at hopk
      case isFalse=>cases hopk
      injection (dc hopk)with f1 f2
      rw[←f1]at hlo hVk
      obtain⟨p,hp,h0,hbv⟩:=hVk.aC
      rw[hput]at hp
      obtain rfl:=dc hp
      simp only[mJ]at hlo
      obtain⟨r',hr1,hr2⟩:=a7L hrow h0 hlo
      rw[←hbv]at hr1
      refine fin (v':=r') (by simp only[execOp,dp,hr1,di,dr]) (fun _=> ?_) fun h=> ?_
      ·rw[←e1];exact hr2
      ·simp[lW,iW]at h
     ·rename_i hx _;cases hx
     ·rename_i hx _;cases hx
     ·cases hopk
theorem Inv.done(I:Inv P fl ops T val ρ0 W0 ds S pl m ρ a w)(X:Text P ops T val)(D:Draw P fl ops)(hall:∀i,i<ops.size→S i):
 ∃ρ',Post P ρ0 (T 0).2 W0 ρ' (T ops.size).2 w∧All2 (V ρ') (T ops.size).1 a.tmps.toList∧a.defers=ds:=by
 have hle:=I.le
 obtain⟨ρ',I'⟩:=Inv.cq X D (ops.size-m) m ρ I (by omega) fun k x h1 h2 hx=>by
  have hk:S k:=hall k (by omega)
  refine⟨?_,fun _=>hk⟩
  cases hm:jO fl x.op with
  | false=>rfl
  | true=>have:=(I.mains k x hx hm).1 hk;omega
 rw[show m+(ops.size-m)=ops.size by omega]at I'
 refine⟨ρ',I'.post,All2.bh (by rw[X.length _ (dm _)];simpa using I'.size.symm) fun t v h1=> ?_,I'.defers⟩
 have ht:t<(T 0).1.length:=by rw[←X.length _ (dm _)];exact(dy.1 h1).1
 have e1:ev (T ops.size).1 (.tmp t)=v:=by simp[ev,oF,dj,h1]
 have ht2:t<a.tmps.size:=by rw[I'.size];exact ht
 refine⟨a.tmps[t],by simp[ht2],?_⟩
 have e2:a.eval (.tmp t)=a.tmps[t]:=by simp[Act.eval,ht2]
 rw[←e1,←e2]
 by_cases hk:∃k x,k<ops.size∧ops[k]? =some x∧x.dst=some t
 ·obtain⟨k,x,hkn,hx,hd⟩:=hk
  rw[X.new D hx hd ht _ hkn (dm _)]
  exact I'.new k x t (hall k hkn) hx hd ht fun b hb=>by have:=(D.aW hx hb).1;omega
 ·rw[X.old _ (dm _) fun k x hkn hx hd=>hk ⟨k,x,hkn,hx,hd⟩]
  exact I'.old t fun k x hS hx hd=>hk ⟨k,x,(dz.1 hx).1,hx,hd⟩
theorem a3o{listed:Array Bool}(hsz:listed.size=ops.size){i:Nat}(h:i∈Region.ready .any ops listed):
 ∃o,ops[i]? =some o∧¬listed.getD i false=true∧∀e∈o.after,Region.binds .any e=true→listed.getD e.on false=true:=by
 unfold Region.ready at h
 rw[fG]at h
 obtain⟨hi,h⟩:=h
 have hi:i<ops.size:=dG.1 hi
 have ho:ops[i]? =some ops[i]:=dz.2 ⟨hi,rfl⟩
 rw[ho,de]at h
 refine⟨ops[i],ho,?_,?_⟩
 ·have h1:=h.1
  rw[fo,fj (by omega)]at h1 ⊢
  simpa using h1
 ·have h2:=h.2
  simp only[dS,dO,Array.all_eq_true_iff_forall_mem,eG,dW]at h2
  intro e he hb
  rcases h2 e he with h|h
  ·rw[hb]at h;cases h
  ·exact h
theorem b2n{listed:Array Bool}(hsz:listed.size=ops.size){i:Nat}{o:Oper}(ho:ops[i]? =some o)(hn:¬listed.getD i false=true)(hr:∀e∈o.after,Region.binds .any e=true→listed.getD e.on false=true):i∈Region.ready .any ops listed:=by
 have hi:i<ops.size:=(dz.1 ho).1
 unfold Region.ready
 rw[fG]
 refine⟨dG.2 hi,?_⟩
 rw[ho,de]
 constructor
 ·rw[fo,fj (by omega)]at hn ⊢
  simpa using hn
 ·simp only[dS,dO,Array.all_eq_true_iff_forall_mem,eG,dW]
  intro e he
  cases hb:Region.binds .any e with
  | false=>exact .inl rfl
  | true=>exact .inr (hr e he hb)
theorem b1K{listed:Array Bool}(hsz:listed.size=ops.size)(h:∀i,i<ops.size→listed.getD i false=true):Region.ready .any ops listed=[]:=by
 cases hr:Region.ready .any ops listed with
 | nil=>rfl
 | cons i r=>
   obtain⟨o,ho,hn,_⟩:=a3o hsz (i:=i) (by rw[hr];simp)
   exact absurd (h i (dz.1 ho).1) hn
theorem a0f(D:Draw P fl ops){listed:Array Bool}(hsz:listed.size=ops.size)(h:Region.ready .any ops listed=[]):∀i,i<ops.size→listed.getD i false=true:=by
 intro i
 induction i using Nat.strongRecOn with
 | _ i ih=>
   intro hi
   have ho:ops[i]? =some ops[i]:=dz.2 ⟨hi,rfl⟩
   refine eS fun hn=> ?_
   have:=b2n hsz ho hn fun e he hb=>by
    have:=D.back i _ e ho he hb
    exact ih e.on this (by omega)
   rw[h]at this
   cases this
theorem a1L{listed:Array Bool}{i:Nat}(hi:i<listed.size)(j:Nat):(listed.setIfInBounds i true).getD j false=true↔(listed.getD j false=true∨j=i):=by
 rw[fo,fo,Array.getElem?_setIfInBounds]
 by_cases h:i=j
 ·subst h;simp[hi]
 ·simp[h,fm h]
theorem Inv.congr{S':Nat→Prop}(h:∀j,S' j↔S j)(I:Inv P fl ops T val ρ0 W0 ds S pl m ρ a w):Inv P fl ops T val ρ0 W0 ds S' pl m ρ a w:=by
 have:S'=S:=funext fun j=>propext (h j)
 rw[this];exact I
theorem b9P{o:Oper}{i:Nat}(h:(o,i)∈ops.toList.zipIdx):ops[i]? =some o:=by
 rw[gC]at h
 simpa using h
theorem b2P{j:Nat}{x:Oper}(hx:ops[j]? =some x)(hm:jO fl x.op=true):j∈xQ fl ops:=by
 unfold xQ
 rw[fH]
 exact⟨(x,j),mX hx,by simp[hm]⟩
theorem a3a{j:Nat}(h:j∈xQ fl ops):∃x,ops[j]? =some x∧jO fl x.op=true:=by
 unfold xQ at h
 rw[fH]at h
 obtain⟨⟨x,j'⟩,h1,h2⟩:=h
 simp only at h2
 split at h2
 ·rename_i hm
  obtain rfl:=dc h2
  exact⟨x,b9P h1,hm⟩
 ·cases h2
theorem a7C{j:Nat}{x:Oper}(hx:ops[j]? =some x)(hm:jO fl x.op=true∨iW fl x.op=true):j∈zO fl ops:=by
 unfold zO
 rw[fH]
 exact⟨(x,j),mX hx,by rcases hm with hm|hm<;>simp[hm]⟩
theorem b4O{i m:Nat}{o:Oper}(ho:ops[i]? =some o)(hr:nU o.op=true)(hm:m=0∨∃j x,m=j+1∧ops[j]? =some x∧jO fl x.op=true)
 (hlo:∀j x,ops[j]? =some x→jO fl x.op=true→(bef ops i j=true→j<m)∧(bef ops j i=true→m≤j)) (hbs:∀j,fl.base i=some j→j<m):
 (i,m)∈oN fl ops∨∀j x,ops[j]? =some x→min m i≤j→j<max m i→jO fl x.op=false∧iW fl x.op=false:=by
 by_cases h:∃j x,ops[j]? =some x∧(jO fl x.op=true∨iW fl x.op=true)∧min m i≤j∧j<max m i
 ·obtain⟨j,x,hx,he,h1,h2⟩:=h
  refine .inl ?_
  unfold oN
  rw[eT]
  refine⟨(o,i),mX ho,?_⟩
  simp only[hr,if_true]
  rw[dE]
  refine⟨m,?_,rfl⟩
  rw[fG]
  refine⟨?_,?_⟩
  ·rcases hm with rfl|⟨j,x,rfl,hx,hmx⟩
   ·simp
   ·exact eH _ (dE.2 ⟨j,b2P hx hmx,rfl⟩)
  ·rw[de,de]
   refine⟨⟨?_,?_⟩,?_⟩
   ·rw[dJ]
    intro j hj
    obtain⟨x,hx,hmx⟩:=a3a hj
    obtain⟨g1,g2⟩:=hlo j x hx hmx
    unfold bef at g1 g2
    rw[de]
    constructor
    ·cases hb:((a2F [] ops.toList).getD i 0).testBit j with
     | false=>rfl
     | true=>simpa using g1 hb
    ·cases hb:((a2F [] ops.toList).getD j 0).testBit i with
     | false=>rfl
     | true=>simpa using g2 hb
   ·rw[iA]
    exact⟨j,a7C hx he,by rw[de];exact⟨decide_eq_true h1,decide_eq_true h2⟩⟩
   ·split
    ·rename_i j hj;exact decide_eq_true (hbs j hj)
    ·rfl
 ·refine .inr fun j x hx h1 h2=> ?_
  constructor
  ·cases hm:jO fl x.op with
   | false=>rfl
   | true=>exact absurd ⟨j,x,hx,.inl hm,h1,h2⟩ h
  ·cases hm:iW fl x.op with
   | false=>rfl
   | true=>exact absurd ⟨j,x,hx,.inr hm,h1,h2⟩ h
theorem a5M{i m:Nat}(h:(i,m)∈oN fl ops):m≤ops.size:=by
 unfold oN at h
 rw[eT]at h
 obtain⟨⟨x,j⟩,_,h⟩:=h
 simp only at h
 split at h
 ·rw[dE]at h
  obtain⟨m',h,he⟩:=h
  injection he with h1 h2
  subst h1 h2
  rw[fG]at h
  rcases ej.1 h.1 with h|h
  ·omega
  ·rw[dE]at h
   obtain⟨q,hq,rfl⟩:=h
   obtain⟨x,hx,_⟩:=a3a hq
   exact(dz.1 hx).1
 ·cases h
theorem c1U(X:Text P ops T val)(D:Draw P fl ops)
 (hread:∀i m o,(i,m)∈oN fl ops→ops[i]? =some o→Region.wanted o (jE ops (T i).1)=true→∃H2,opD P o (T i).1 (T m).2=some (val i,H2))
 (ro:Option Nat) (k:Nat) {Q:Exit→Act→World→Prop} (hQ:∀ρ' a' w',Post P ρ0 (T 0).2 W0 ρ' (T ops.size).2 w'→All2 (V ρ') (T ops.size).1 a'.tmps.toList→a'.defers=ds→Q .normal a' w'):
 ∀(fuel:Nat)(listed:Array Bool)(U:List Nat),listed.size=ops.size→(∀i,i<ops.size→¬listed.getD i false=true→i∈U)→U.length≤fuel→
  ∀(pl:Nat→Nat)(m:Nat)(ρ:Rho)(a:Act)(w:World),Inv P fl ops T val ρ0 W0 ds (fun j=>listed.getD j false=true) pl m ρ a w→(m=0∨∃j o,m=j+1∧ops[j]? =some o∧jO fl o.op=true)→
  wpAnyIn (fe ro) k P .any ops Q fuel listed a w:=by
 have fin:∀{listed:Array Bool}{pl:Nat→Nat}{m:Nat}{ρ:Rho}{a:Act}{w:World},(∀i,i<ops.size→listed.getD i false=true)→Inv P fl ops T val ρ0 W0 ds (fun j=>listed.getD j false=true) pl m ρ a w→Q .normal a w:=by
  intro listed pl m ρ a w hall I
  obtain⟨ρ',h1,h2,h3⟩:=I.done X D hall
  exact hQ ρ' a w h1 h2 h3
 intro fuel
 induction fuel with
 | zero=>
   intro listed U hsz hU hlen pl m ρ a w I hm
   have hall:∀i,i<ops.size→listed.getD i false=true:=fun i hi=>eS fun hn=>by
    have:=hU i hi hn
    have h0:U=[]:=fB (by omega)
    rw[h0]at this
    cases this
   exact⟨b1K hsz hall,fin hall I⟩
 | succ fuel ih=>
   intro listed U hsz hU hlen pl m ρ a w I hm
   refine⟨fun h=>fin (a0f D hsz h) I,fun i hi=> ?_⟩
   obtain⟨o,ho,hn,hr⟩:=a3o hsz hi
   have hin:i<ops.size:=(dz.1 ho).1
   have hiU:i∈U:=hU i hin hn
   have on:∀(pl:Nat→Nat)(m:Nat)(ρ:Rho)(a:Act)(w:World),Inv P fl ops T val ρ0 W0 ds (fun j=>listed.getD j false=true∨j=i) pl m ρ a w→(m=0∨∃j o,m=j+1∧ops[j]? =some o∧jO fl o.op=true)→
    wpAnyIn (fe ro) k P .any ops Q fuel (listed.setIfInBounds i true) a w:=by
    intro pl m ρ a w I hm
    refine ih (listed.setIfInBounds i true) (U.erase i) (by simp[hsz]) ?_ (by have h1:=List.length_erase_of_mem hiU;have h2:=List.length_pos_of_mem hiU;omega) pl m ρ a w (I.congr fun j=>a1L (by omega) j) hm
    intro j hj hnj
    have hnj':=mt (a1L (by omega) j).2 hnj
    have hji:j≠i:=fun h=>hnj' (.inr h)
    exact(List.mem_erase_of_ne hji).2 (hU j hj fun h=>hnj' (.inl h))
   unfold wpOpIn
   rw[ho]
   simp only
   cases hma:jO fl o.op with
   | true=>
     have hmi:m≤i:=gN fun h=>hn ((I.mains i o ho hma).2 h)
     obtain⟨ρ1,I1⟩:=Inv.cq X D (i-m) m ρ I (by omega) fun j x h1 h2 hx=>by
      have hji:j<i:=by omega
      refine⟨?_,fun hal=>D.bef I.closed i o ho hr j (D.main hji hx ho (.inr hal) hma)⟩
      cases hmx:jO fl x.op with
      | false=>rfl
      | true=>have:=(I.mains j x hx hmx).1 (D.bef I.closed i o ho hr j (D.main hji hx ho (.inl hmx) hma));omega
     rw[show m+(i-m)=i by omega]at I1
     have hna:iW fl o.op=false:=by
      cases h:iW fl o.op with
      | false=>rfl
      | true=>rw[oM h]at hma;cases hma
     have hbm:∀j,fl.base i=some j→j<i:=fun j hj=>(D.cb ho hj).1
     rw[I1.wanted X D ho hn hr (fun _=>rfl) hbm]
     have nod:∀{v':Value}(j:Nat)(b:Oper)(d:Tmp),lW fl i o.op=some j→i+1≤j→ops[j]? =some b→b.dst=some d→∀ρ1:Rho,(d<(T 0).1.length→V ρ1 (val j) (a.eval (.tmp d)))→V ρ1 (val i) v':=fun j b d hh hij=>by
      have:=(D.aW ho hh).1;omega
     rcases(X.at ho).2 with⟨hw,hst⟩|⟨hw,hv,hT⟩
     ·rw[hw,if_pos rfl]
      refine hst.sound I1.post.rel (I1.operands X D ho hn hr (fun _=>rfl) hbm) ro k fun ρ2 v2 w2 hp2 hv2=> ?_
      exact on _ _ _ _ _ (I1.next X D ho hn hr hna (.inl ⟨hma,rfl,rfl⟩) hp2 (fun _=>hv2) nod) (.inr ⟨i,o,rfl,ho,hma⟩)
     ·rw[hw,if_neg (by simp)]
      refine⟨fun _ _=>trivial,?_⟩
      refine on _ _ _ _ _ (I1.next X D ho hn hr hna (.inl ⟨hma,rfl,rfl⟩) (by rw[hT];exact .refl I1.post.rel) (fun _=>by rw[hv];exact .undef) nod) (.inr ⟨i,o,rfl,ho,hma⟩)
   | false=>
     by_cases hder:∃j,fl.base i=some j∧m≤j
     ·obtain⟨j,hj,hmj⟩:=hder
      obtain⟨v',hrun,I'⟩:=I.aA X D ho hn hr hj hmj
      have hg:=(D.aA ho hj).2.1
      have hw:Region.wanted o (yielded ops a.tmps)=true:=by
       unfold Region.wanted
       rw[hg]
      rw[hw,if_pos rfl]
      refine⟨fun _ _=>trivial,?_⟩
      have hdef:∀c,o.op≠.defer c:=fun c hc=>by
       obtain⟨_,_,_,_,_,_,_,_,_,_,_,_,hD⟩:=D.aA ho hj
       rw[hc]at hD;cases hD
      rw[gU _ _ _ hdef,hrun]
      exact on _ _ _ _ _ I' hm
     have hbm:∀j,fl.base i=some j→j<m:=fun j hj=>iB fun h=>hder ⟨j,hj,h⟩
     rw[I.wanted X D ho hn hr (fun h=>by rw[hma]at h;cases h) hbm]
     cases hal:iW fl o.op with
     | true=>
       have hw:Region.wanted o (jE ops (T i).1)=true:=by
        unfold Region.wanted
        rw[D.guard i o ho hal]
       rw[hw,if_pos rfl]
       obtain⟨v',w',hrun,I'⟩:=I.early X D ho hn hr hal
       refine⟨fun _ _=>trivial,?_⟩
       have hdef:∀c,o.op≠.defer c:=fun c hc=>by rw[hc]at hal;cases hal
       rw[gU _ _ _ hdef,hrun]
       exact on _ _ _ _ _ I' hm
     | false=>
       have hops:=I.operands X D ho hn hr (fun h=>by rw[hma]at h;cases h) hbm
       have nod:∀{v':Value}(j:Nat)(b:Oper)(d:Tmp),lW fl i o.op=some j→m≤j→ops[j]? =some b→b.dst=some d→∀ρ1:Rho,(d<(T 0).1.length→V ρ1 (val j) (a.eval (.tmp d)))→V ρ1 (val i) v':=fun j b d hh hij=>by
        have:=hbm j (qP hal hh).1;omega
       rcases(X.at ho).2 with⟨hw,hst⟩|⟨hw,hv,hT⟩
       ·rw[hw,if_pos rfl]
        have hop:=hst.plain hma
        have hopm:opD P o (T i).1 (T m).2=some (val i,(T m).2):=by
         cases hrd:nU o.op with
         | false=>exact(a6c (T m).2 (D.conv _ _ ho) hma hal hrd hop).2
         | true=>
           have hlo:∀j x,ops[j]? =some x→jO fl x.op=true→(bef ops i j=true→j<m)∧(bef ops j i=true→m≤j):=fun j x hx hmx=>
            ⟨fun hb=>(I.mains j x hx hmx).1 (D.bef I.closed i o ho hr j hb),fun hb=>gN fun hlt=>by
             have hSj:=(I.mains j x hx hmx).2 hlt
             exact hn (D.bef I.closed j x hx (fun e he hb'=>I.closed j x hSj hx e he hb') i hb)⟩
           rcases b4O ho hrd hm hlo hbm with hmem|hno
           ·obtain⟨H2,hH2⟩:=hread i m o hmem ho hw
            rw[hH2,zC (D.conv _ _ ho) hrd hH2]
           ·have hTT:(T m).2=(T i).2:=by
             rcases Nat.le_total m i with h|h
             ·exact(X.bB D i h (by omega) fun j x h1 h2 hx=>hno j x hx (by omega) (by omega)).symm
             ·exact X.bB D m h I.le fun j x h1 h2 hx=>hno j x hx (by omega) (by omega)
            rw[hTT]
            have:=zC (D.conv _ _ ho) hrd hop
            rw[hop,this]
        refine(StepR.op hst.ok hopm).sound I.post.rel hops ro k fun ρ2 v2 w2 hp2 hv2=> ?_
        exact on _ _ _ _ _ (I.next X D ho hn hr hal (.inr ⟨hma,rfl⟩) hp2 (fun _=>hv2) nod) hm
       ·rw[hw,if_neg (by simp)]
        refine⟨fun _ _=>trivial,?_⟩
        exact on _ _ _ _ _ (I.next X D ho hn hr hal (.inr ⟨hma,rfl⟩) (.refl I.post.rel) (fun _=>by rw[hv];exact .undef) nod) hm
end
section
variable {P:Program} {ρ:Rho} {H:Heap} {w:World}
theorem a5l{B:Nat}{id:Nat}{e:Ex}{l':List Value}{H':Heap}{e2:Ex}(he:e2=(match e with|.exit i=>if i=id then .normal else .exit i|e=>e)){e':Exit}{a':Act}{w':World}
 (h:QD P ρ H w B e l' H' e' a' w'):Exit.inBlock id (QD P ρ H w B e2 l' H') e' a' w':=by
 obtain⟨h1,h2⟩:=h
 subst h1
 cases e with
 | normal=>simp only at he;subst he;exact⟨rfl,h2⟩
 | ret=>simp only at he;subst he;exact⟨rfl,h2⟩
 | exit i=>
   simp only[Ex.ca,Exit.inBlock]at he ⊢
   by_cases hi:i=id
   ·rw[if_pos hi]at he;subst he;rw[if_pos hi];exact⟨rfl,h2⟩
   ·rw[if_neg hi]at he;subst he;rw[if_neg hi];exact⟨rfl,h2⟩
theorem a3L{B:Nat}{e:Ex}{l':List Value}{H':Heap}(hne:e≠.normal){next:Act→World→Prop}{e':Exit}{a':Act}{w':World}
 (h:QD P ρ H w B e l' H' e' a' w'):Exit.then next (QD P ρ H w B e l' H') e' a' w':=by
 have h1:=h.1
 cases e with
 | normal=>exact absurd rfl hne
 | exit id=>subst h1;exact h
 | ret=>subst h1;exact h
theorem b8Q(h:HRel P ρ H w)(e:Nat)(p:Place):ρ.Le (ρ.put H.length e p):=.put (pT h e)
theorem a6i{ex:Run}(hex:∀c l H e l' H',ex c l H=some (e,l',H')→Sim P c l H e l' H'){g:Operand}{ps:Array Tmp}{assign body:Code}{l:List Value}{v:Value}{H2:Heap}
 (hc:a5i P ex (ev l g) H.length (H.cons (.loop {state:=.ready,pending:=none,fn:=0,tmps:=l.toArray,params:=ps,assign,body,defers:=0}))=some (v,H2)) (hgo:iV g=true) {r:Loop} (hg:iT H2 H.length=some (.loop r)) (hnb:r.state≠.busy)
 {e:Ex} {l':List Value} {H':Heap} (hnext0:r.pending=none→e=.normal∧l'=l∧H'=hset H2 H.length (.loop {r with state:=.exhausted}))
 (hnext1:∀c,r.pending=some c→Sim P c l (hset H2 H.length (.loop {r with state:=.exhausted})) e l' H'):Sim P (.rangeFunc g ps assign body) l H e l' H':=by
 intro ro k B ρ w a hr hE hl hM hB
 refine wpIn_rangeFunc ?_
 intro fn _
 obtain⟨lc,mark,w1,df,henter,hpost0,hmark,hlc,hw1⟩:∃(lc:Nat)(mark:List Deferred)(w1:World)(df:Nat),
  (Instr.enterLoop fn a.tmps ps assign body ro).run P w=.ok (lc,mark) w1∧
  Post P ρ H w (ρ.put H.length 0 ⟨lc,0,0,0⟩) (H.cons (.loop {state:=.ready,pending:=none,fn:=0,tmps:=l.toArray,params:=ps,assign,body,defers:=0})) w1∧
  Marks B w1 (mark++a.defers)∧w.heap.size≤lc∧w1.heap[lc]? =some (.loop {state:=.ready,pending:=none,fn:=fn,tmps:=a.tmps,params:=ps,assign,body,defers:=df}):=by
  have hloop:∀(ρ:Rho)(w:World),HRel P ρ H w→All2 (V ρ) l a.tmps.toList→∀df:Nat,Post P ρ H w (ρ.put H.length 0 ⟨w.heap.size,0,0,0⟩) (H.cons (.loop {state:=.ready,pending:=none,fn:=0,tmps:=l.toArray,params:=ps,assign,body,defers:=0}))
   (w.alloc (.loop {state:=.ready,pending:=none,fn:=fn,tmps:=a.tmps,params:=ps,assign,body,defers:=df})):=fun ρ w hr hE df=>by
   refine Post.new hr _ _ 0 ⟨w.heap.size,0,0,0⟩ rfl (fun _ _ _ _ _ e=>by cases e) (fun _ _ _ e=>by cases e) (fun r e=> ?_)
   injection e with e
   subst e
   refine⟨rfl,_,rfl,rfl,rfl,?_,rfl,rfl,rfl⟩
   simpa using hE.mono fun _ _ h=>h.mono (b8Q hr _ _)
  cases ro with
  | none=>
    have hp1:=Post.ba hr (.deferred (some []))
    have hp2:=hloop ρ (w.alloc (.deferred (some []))) hp1.rel hE w.heap.size
    rw[World.size_alloc]at hp2
    refine⟨w.heap.size+1,[{target:=.collected w.heap.size,args:=#[]}],_,w.heap.size,run_enterLoop_outer fn a.tmps ps assign body,hp1.trans hp2,?_,by omega,?_⟩
    ·obtain⟨rs,h1,h2,h3⟩:=hM.post hr (hp1.trans hp2)
     refine⟨w.heap.size::rs,by simp[h1],gW.2 ⟨fun hmem=> ?_,h2⟩,fun q hq=> ?_⟩
     ·obtain⟨rs0,k1,k2,k3⟩:=hM
      have e:rs0=rs:=by
       have:=k1.symm.trans h1
       have inj:∀(x y:List Nat),x.map Target.collected=y.map Target.collected→x=y:=by
        intro x
        induction x with
        | nil=>intro y h;cases y with|nil=>rfl|cons=>simp at h
        | cons a x ih=>intro y h;cases y with|nil=>simp at h|cons b y=>simp at h;rw[h.1,ih y h.2]
       exact inj _ _ this
      subst e
      have:=lZ (k3 _ hmem).2
      omega
     ·rcases ej.1 hq with rfl|hq
      ·refine⟨hB,?_⟩
       rw[jI (by simp)]
       exact jM w _
      ·exact h3 q hq
    ·have:=jM (w.alloc (.deferred (some []))) (.loop {state:=.ready,pending:=none,fn:=fn,tmps:=a.tmps,params:=ps,assign,body,defers:=w.heap.size})
     rwa [World.size_alloc]at this
  | some l0=>
    obtain⟨r0,hr0⟩:=hl l0 rfl
    have hp2:=hloop ρ w hr hE r0.defers
    refine⟨w.heap.size,[],_,r0.defers,?_,hp2,by simpa using hM.post hr hp2,dm _,jM w _⟩
    unfold Instr.enterLoop
    simp only[dp,run_getLoop hr0,run_newObj_alloc,di,dr]
 unfold a5i at hc
 split at hc
 ·rename_i f first captured hev
  have hgv:=b7x hE hgo
  rw[hev]at hgv
  obtain⟨first',captured',hfe,hfa,hfc⟩:=hgv.bk
  obtain⟨fnc,hfn,hbody,hname⟩:=b6I hc
  have hLp:(ρ.put H.length 0 ⟨lc,0,0,0⟩) H.length 0=some ⟨lc,0,0,0⟩:=Rho.ai _ _ _ _
  refine⟨lc,mark,w1,{target:=.fn (.func f) captured',args:=first'++#[Value.func (.yield lc) #[] #[]]},w1,f,first'++#[Value.func (.yield lc) #[] #[]]++captured',w1,henter,?_,fun _ _=>trivial,?_,a2a ro,?_⟩
  ·simp only[resolve,hfe,Deferred.ofValue,dr]
   simp[Act.eval]
  ·simp only[invoke]
   exact xV hfn hbody hname _ w1
  ·have hargs:All2 (V (ρ.put H.length 0 ⟨lc,0,0,0⟩)) (first.toList++[Value.func (.yield H.length) #[] #[]]++captured.toList) (first'++#[Value.func (.yield lc) #[] #[]]++captured').toList:=by
    simp only[gu]
    exact((((hfa.mono fun _ _ h=>h.mono hpost0.le).aV).append (show All2 (V _) [Value.func (.yield H.length) #[] #[]] [Value.func (.yield lc) #[] #[]]from⟨.v1 (.c1 (C1.yld hLp)),trivial⟩)).append (hfc.mono fun _ _ h=>h.mono hpost0.le).aV)
   have hcall:=a6G hex hc (k-1) _ w1 _ hpost0.rel hargs
   have hci:CallsIn (fe ro) (k-1) P f (first'++#[Value.func (.yield lc) #[] #[]]++captured') w1 fun e w'=>∃ρ' v',e=.returned v'∧Post P (ρ.put H.length 0 ⟨lc,0,0,0⟩) _ w1 ρ' H2 w'∧V ρ' v v':=hcall
   refine hci.mono ?_
   rintro e2 w2⟨ρ2,v2,rfl,hp2,_⟩
   obtain⟨r',hw2,hrel⟩:=a0Z hp2.rel hg (hp2.le _ _ _ hLp)
   have hp3:=Post.bl (r:={r with state:=.exhausted}) (r':={r' with state:=.exhausted}) hp2.rel hg (hp2.le _ _ _ hLp) hw2 ⟨rfl,hrel.pending,hrel.tmps,hrel.params,hrel.assign,hrel.body⟩
   have hend:=run_endLoop (P:=P) hw2 (by rw[hrel.state];exact hnb)
   revert hp3 hend
   generalize w2.putObj lc (.loop {r' with state:=.exhausted})=w3
   intro hp3 hend
   have hall:=hpost0.trans (hp2.trans hp3)
   have hM3:Marks B _ (mark++a.defers):=hmark.post hpost0.rel (hp2.trans hp3)
   have hE3:=hE.mono fun _ _ h=>h.mono hall.le
   refine⟨r'.pending,w3,hend,?_⟩
   rw[hrel.pending]
   cases hpend:r.pending with
   | none=>
     obtain⟨rfl,rfl,rfl⟩:=hnext0 hpend
     exact⟨rfl,ρ2,hall,hE3,hM3⟩
   | some c=>
     refine wpIn_mono (hnext1 c hpend ro k B ρ2 _ {a with defers:=mark++a.defers} hp3.rel hE3 (hl.post hall) hM3 (dK hB hall.size)) ?_
     intro e5 a5 w5 hq
     exact hq.trans hall
 ·cases hc
end
section
variable {P:Program} {ρ:Rho} {H:Heap} {w:World}
theorem Sim.skip(l:List Value)(H:Heap):Sim P .skip l H .normal l H:=fun ro k B ρ w a hr hE hl hM hB=>wpIn_skip ⟨rfl,ρ,.refl hr,hE,hM⟩
theorem Sim.label(t:Nat)(l:List Value)(H:Heap):Sim P (.label t) l H .normal l H:=fun ro k B ρ w a hr hE hl hM hB=>wpIn_label ⟨rfl,ρ,.refl hr,hE,hM⟩
theorem Sim.exit(id:Nat)(l:List Value)(H:Heap):Sim P (.exit id) l H (.exit id) l H:=fun ro k B ρ w a hr hE hl hM hB=>wpIn_exit ⟨rfl,ρ,.refl hr,hE,hM⟩
theorem Sim.ret(l:List Value)(H:Heap):Sim P .ret l H .ret l H:=fun ro k B ρ w a hr hE hl hM hB=>wpIn_ret ⟨rfl,ρ,.refl hr,hE,hM⟩
theorem Sim.seq{a b:Code}{l:List Value}{H:Heap}{l1:List Value}{H1:Heap}{e:Ex}{l2:List Value}{H2:Heap}(h1:Sim P a l H .normal l1 H1)(h2:Sim P b l1 H1 e l2 H2):Sim P (.seq a b) l H e l2 H2:=
 fun ro k B ρ w a hr hE hl hM hB=>wpIn_seq (QD.cE h1 h2 hr hE hl hM hB)
theorem Sim.seq'{a b:Code}{l:List Value}{H:Heap}{e:Ex}{l2:List Value}{H2:Heap}(h1:Sim P a l H e l2 H2)(hne:e≠.normal):Sim P (.seq a b) l H e l2 H2:=
 fun ro k B ρ w a hr hE hl hM hB=>wpIn_seq (wpIn_mono (h1 ro k B ρ w a hr hE hl hM hB) fun e' a' w' hq=>a3L hne hq)
theorem Sim.cond{c:Operand}{t:Bool}{x y:Code}{l:List Value}{H:Heap}{e:Ex}{l2:List Value}{H2:Heap}(hc:ev l c=.bool t)(hok:iV c=true)(h:Sim P (if t then x else y) l H e l2 H2):Sim P (.cond c x y) l H e l2 H2:=
 fun ro k B ρ w a hr hE hl hM hB=>by
  have hv:=b7x hE hok
  rw[hc]at hv
  exact wpIn_cond hv.aK (h ro k B ρ w a hr hE hl hM hB)
def Ex.out(id:Nat):Ex→Ex
 | .exit i=>if i=id then .normal else .exit i
 | e=>e
theorem Sim.block{id:Nat}{b:Code}{l:List Value}{H:Heap}{e:Ex}{l2:List Value}{H2:Heap}(h:Sim P b l H e l2 H2):Sim P (.block id b) l H (e.out id) l2 H2:=
 fun ro k B ρ w a hr hE hl hM hB=>wpIn_block (wpIn_mono (h ro k B ρ w a hr hE hl hM hB) fun e' a' w' hq=>a5l (by cases e<;>rfl) hq)
theorem vM{F:Fence}{k:Nat}{c:Code}{Q Q':Exit→Act→World→Prop}(h:∀e a w,Q e a w→Q' e a w):∀(m:Nat)(a:Act)(w:World),Code.roundsIn F k P c Q m a w→Code.roundsIn F k P c Q' m a w
 | 0,_,_,hh=>hh
 | m+1,a,w,hh=>by
   rw[roundsIn_succ]at hh ⊢
   refine wpIn_mono hh ?_
   intro e3 a3 w3 hq
   cases e3<;>first|exact vM h m _ _ hq|exact h _ _ _ hq
inductive Rounds(P:Program)(c:Code):Nat→List Value→Heap→Ex→List Value→Heap→Prop where
 | last {l:List Value} {H:Heap} {e:Ex} {l':List Value} {H':Heap} (h:Sim P c l H e l' H') (hne:e≠.normal):Rounds P c 1 l H e l' H'
 | more {n:Nat} {l:List Value} {H:Heap} {l1:List Value} {H1:Heap} {e:Ex} {l':List Value} {H':Heap} (h:Sim P c l H .normal l1 H1) (hh:Rounds P c n l1 H1 e l' H'):Rounds P c (n+1) l H e l' H'
theorem Rounds.sound{c:Code}{n:Nat}{l:List Value}{H:Heap}{e:Ex}{l':List Value}{H':Heap}(h:Rounds P c n l H e l' H'):
 ∀(ro:Option Nat)(k B:Nat)(ρ:Rho)(w:World)(a:Act),HRel P ρ H w→All2 (V ρ) l a.tmps.toList→LoopAt ro w→Marks B w a.defers→B≤w.heap.size→Code.roundsIn (fe ro) k P c (QD P ρ H w B e l' H') n a w:=by
 induction h with
 | last h hne=>
   intro ro k B ρ w a hr hE hl hM hB
   rw[roundsIn_succ]
   exact wpIn_mono (h ro k B ρ w a hr hE hl hM hB) fun e' a' w' hq=>a3L hne hq
 | more h hh ih=>
   intro ro k B ρ w a hr hE hl hM hB
   rw[roundsIn_succ]
   refine wpIn_mono (h ro k B ρ w a hr hE hl hM hB) ?_
   rintro e' a' w'⟨he,ρ',hp,hE',hM'⟩
   subst he
   exact vM (fun _ _ _ hq=>hq.trans hp) _ _ _ (ih ro k B ρ' w' a' hp.rel hE' (hl.post hp) hM' (dK hB hp.size))
theorem Sim.loop{c:Code}{n:Nat}{l:List Value}{H:Heap}{e:Ex}{l':List Value}{H':Heap}(h:Rounds P c n l H e l' H'):Sim P (.loop c) l H e l' H':=
 fun ro k B ρ w a hr hE hl hM hB=>wpIn_loop_rounds n (h.sound ro k B ρ w a hr hE hl hM hB)
theorem Sim.region{id:Nat}{ops:Array Oper}{l:List Value}{H:Heap}{l':List Value}{H':Heap}(h:OpsR P ops (List.range ops.size) l H l' H'):Sim P (.region id ops false) l H .normal l' H':=
 fun ro k B ρ w a hr hE hl hM hB=>wpIn_region (h.sound ro k ρ w a hr hE (by
  rintro a' w'⟨ρ',hp,hE',hd⟩
  exact⟨rfl,ρ',hp,hE',by rw[hd];exact hM.post hr hp⟩))
theorem b3r{fl:Fl}{ops:Array Oper}(D:Draw P fl ops){T:Nat→List Value×Heap}{val:Nat→Value}(X:Text P ops T val)
 (hread:∀i m o,(i,m)∈oN fl ops→ops[i]? =some o→Region.wanted o (jE ops (T i).1)=true→∃H2,opD P o (T i).1 (T m).2=some (val i,H2)) (ro:Option Nat) (k B:Nat) {ρ:Rho} {w:World} {a:Act}
 (hr:HRel P ρ (T 0).2 w) (hE:All2 (V ρ) (T 0).1 a.tmps.toList) (hM:Marks B w a.defers):
 wpAnyIn (fe ro) k P .any ops (QD P ρ (T 0).2 w B .normal (T ops.size).1 (T ops.size).2) ops.size (Array.replicate ops.size false) a {w with drawn:=w.drawn+1}:=by
 have hdrew:Post P ρ (T 0).2 w ρ (T 0).2 {w with drawn:=w.drawn+1}:=Post.drew hr
 refine c1U (ρ0:=ρ) (W0:=w) (ds:=a.defers) X D hread ro k ?_ ops.size _ (List.range ops.size) (by simp) (fun i hi _=>dG.2 hi) (by simp) (fun _=>0) 0 ρ a _ ?_ (.inl rfl)
 ·intro ρ' a' w' h1 h2 h3
  exact⟨rfl,ρ',h1,h2,by rw[h3];exact hM.post hr h1⟩
 ·have hfalse:∀j,¬(Array.replicate ops.size false).getD j false=true:=fun j=>by
   rw[fo,Array.getElem?_replicate]
   split<;>simp
  exact⟨eQ _,hdrew,fun j _ hj=>absurd hj (hfalse j),fun i o ho hm=>⟨fun h=>absurd h (hfalse i),fun h=>absurd h (dX _)⟩,fun i o ho ha hi=>absurd hi (dX _),fun i o ho ha hi hS=>absurd hS (hfalse i),
   fun i j x y hx hy h1 h2 h3 h4 h5=>absurd h5 (hfalse i),by simpa using hE.length.symm,fun t _=>a2h hE t,fun i o t hS=>absurd hS (hfalse i),fun i _ _ _ _ _ hS=>absurd hS (hfalse i),rfl⟩
theorem Sim.draw(kJ:P.follows .mixedOrders=true){id:Nat}{ops:Array Oper}{tab:List (Nat×Nat)}(htab:nB P ops=some tab){T:Nat→List Value×Heap}{val:Nat→Value}(X:Text P ops T val)
 (hread:∀i m o,(i,m)∈tab→ops[i]? =some o→Region.wanted o (jE ops (T i).1)=true→∃H2,opD P o (T i).1 (T m).2=some (val i,H2)):
 Sim P (.region id ops true) (T 0).1 (T 0).2 .normal (T ops.size).1 (T ops.size).2:=by
 intro ro k B ρ w a hr hE hl hM hB
 obtain⟨fl,D,rfl⟩:=qG htab
 exact wpIn_region_any kJ (b3r D X hread ro k B hr hE hM)
theorem CallOk.bO{f:FuncId}{fn:Func}{c:Code}{args:List Value}{e:Ex}{l1:List Value}{H1:Heap}{v:Value}(hf:P.funcs[f]? =some fn)(hb:fn.body=some c)(hn:(fn.name== "runtime.NumGoroutine")=false)
 (hs:Sim P c (args++List.replicate (fn.ntmps-args.length) undef) H e l1 H1) (he:e=.normal∨e=.ret) (hres:iI P fn l1 H1=some v):CallOk P f args H v H1:=by
 classical
 let ex:Run:=fun c' l' H'=>if c'=c∧l'=args++List.replicate (fn.ntmps-args.length) undef∧H'=H then some (e,l1,H1)else none
 have hex:∀c l H e l' H',ex c l H=some (e,l',H')→Sim P c l H e l' H':=by
  intro c' l' H' e' l2 H2 h
  simp only[ex]at h
  split at h
  ·rename_i hh
   obtain⟨rfl,rfl,rfl⟩:=hh
   injection h with h
   injection h with h1 h
   injection h with h2 h3
   subst h1 h2 h3
   exact hs
  ·cases h
 refine a6G hex ?_
 unfold callF
 have h1:ex c (args++List.replicate (fn.ntmps-args.length) undef) H=some (e,l1,H1):=by simp[ex]
 rw[hf]
 simp only[hb,hn,ef,if_false,h1]
 rcases he with rfl|rfl<;>simp[hres]
theorem HRel.empty(w:World):HRel P (fun _ _=>none) .nil w where
 dom _ _ _ h:=by cases h
 cells _ _ _ _ _ _ h:=by rw[vB (eQ _)]at h;cases h
 map _ _ _ _ h:=by rw[vB (eQ _)]at h;cases h
 loop _ _ h:=by rw[vB (eQ _)]at h;cases h
 one _ _ _ _ h:=by cases h
 excl _ _ _ _ _ _ _ h:=by cases h
 full _ h:=absurd h (dX _)
 glob _ _ _ _ h:=by rw[vB (eQ _)]at h;cases h
theorem CallOk.closed{f:FuncId}{v:Value}(hv:flat v=true){H1:Heap}(h:CallOk P f [] .nil v H1)(H:Heap):CallOk P f [] H v H:=by
 intro k ρ w args' hr ha
 have ha':All2 (V (fun _ _=>none)) [] args'.toList:=by
  cases hh:args'.toList with
  | nil=>trivial
  | cons x xs=>rw[hh]at ha;exact ha.elim
 refine(h k (fun _ _=>none) w args' (.empty w) ha').mono ?_
 rintro e w'⟨ρ',v',rfl,hp,hv'⟩
 have hframe:∀b,b<w.heap.size→w'.heap[b]? =w.heap[b]?:=fun b hb=>(hp.frame b hb (by rintro⟨A,e,p,jY,hq,_⟩;cases hq)).1
 refine⟨ρ,v',rfl,?_,?_⟩
 ·exact{
   le:=.refl ρ
   rel:=hr.other hp.size fun A e p hq=>hframe _ (hr.dom _ _ _ hq).2
   len:=dm _
   size:=hp.size
   os:=hp.os
   tape:=hp.tape
   output:=hp.output
   frame:=fun b hb hw=>⟨hframe b hb,hw⟩
   loops:=fun b r h=>⟨r,by rw[hframe b (lZ h),h]⟩
   img:=fun _ _ h=>h}
 ·rw[hv'.ab hv]
  exact .of_flat hv
structure Glob(G H:Heap):Prop where
 len:G.length≤H.length
 same:∀A,A<G.length→iT H A=iT G A
 glob:∀A b,iT G A=some b→∃cs ty lo,b=.cells cs ty false lo 1∧kM cs=true
theorem Glob.rel{G:Heap}(hG:Glob G H)(h:HRel P ρ H w):HRel P (fun A e=>if A<G.length then ρ A e else none) G w:=by
 have hcells:=hG.glob
 have hcut:∀{A e p},(if A<G.length then ρ A e else none)=some p→A<G.length∧ρ A e=some p:=fun{A e p}hh=>by
  by_cases hA:A<G.length
  ·rw[if_pos hA]at hh;exact⟨hA,hh⟩
  ·rw[if_neg hA]at hh;cases hh
 refine⟨?_,?_,?_,?_,?_,?_,?_,?_⟩
 ·intro A e p hp
  obtain⟨hA,hp⟩:=hcut hp
  exact⟨hA,(h.dom _ _ _ hp).2⟩
 ·intro A cs ty rw lo ver hg
  have hA:=jP hg
  have hg':iT H A=some (.cells cs ty rw lo ver):=by rw[hG.same A hA,hg]
  obtain⟨⟨p,hp⟩,hall⟩:=h.cells _ _ _ _ _ _ hg'
  refine⟨⟨p,by simp only[if_pos hA,hp]⟩,fun e q hq=> ?_⟩
  have hc:=hall e q (hcut hq).2
  obtain⟨cs',ty',lo',hb,hsc⟩:=hcells A _ hg
  injection hb with hb
  subst hb
  obtain⟨h1,h2,h3,cur,ty2,fr,h4,h5,h6,h7⟩:=hc
  refine⟨h1,h2,h3,cur,ty2,fr,h4,h5,h6,fun hlo i c hi h0 hci=> ?_⟩
  obtain⟨c',a,b⟩:=h7 hlo i c hi h0 hci
  have hs:iZ c=true:=by
   simp only[kM,dJ]at hsc
   exact hsc c (dB hci)
  exact⟨c',a,by rw[b.al hs];exact .aB hs⟩
 ·intro A es ck ver hg
  obtain⟨cs',ty',lo',hb,_⟩:=hcells A _ hg
  cases hb
 ·intro A r hg
  obtain⟨cs',ty',lo',hb,_⟩:=hcells A _ hg
  cases hb
 ·intro A e p jY hp hg
  obtain⟨hA,hp⟩:=hcut hp
  exact h.one _ _ _ _ hp (by rw[hG.same A hA,hg])
 ·intro A e p A2 e2 p2 jY hp hp2 hb hg hwr
  obtain⟨cs',ty',lo',rfl,_⟩:=hcells A _ hg
  cases hwr
 ·intro A hA
  have:=h.full A (dV hA hG.len)
  rw[hG.same A hA]at this;exact this
 ·intro A cs ty lo hg
  have hA:=jP hg
  obtain⟨q,h1,h2,h3⟩:=h.glob A cs ty lo (by rw[hG.same A hA,hg])
  exact⟨q,by simp only[if_pos hA,h1],h2,h3⟩
theorem CallOk.bP{f:FuncId}{v:Value}{args:List Value}(hfa:∀x∈args,flat x=true)(hv:flat v=true){G H H1:Heap}(h:CallOk P f args G v H1)(hG:Glob G H):CallOk P f args H v H:=by
 intro k ρ w args' hr ha
 have hfl:∀(l l':List Value)(ρ':Rho),(∀x∈l,flat x=true)→All2 (V ρ) l l'→All2 (V ρ') l l':=by
  intro l
  induction l with
  | nil=>intro l' ρ' _ hh;cases l' with|nil=>trivial|cons x xs=>exact hh.elim
  | cons y ys ih=>
    intro l' ρ' hy hh
    cases l' with
    | nil=>exact hh.elim
    | cons x xs=>
      refine⟨?_,ih xs ρ' (fun z hz=>hy z (by simp[hz])) hh.2⟩
      rw[hh.1.ab (hy y (by simp))]
      exact .of_flat (hy y (by simp))
 have ha':All2 (V (fun A e=>if A<G.length then ρ A e else none)) args args'.toList:=hfl _ _ _ hfa ha
 refine(h k _ w args' (hG.rel hr) ha').mono ?_
 rintro e w'⟨ρ',v',rfl,hp,hv'⟩
 have hframe:∀b,b<w.heap.size→w'.heap[b]? =w.heap[b]?:=fun b hb=>(hp.frame b hb (by
  rintro⟨A,e,p,jY,hq,_,hg,hw⟩
  obtain⟨cs,ty,lo,rfl,_⟩:=hG.glob A _ hg
  cases hw)).1
 refine⟨ρ,v',rfl,?_,?_⟩
 ·exact{
   le:=.refl ρ
   rel:=hr.other hp.size fun A e p hq=>hframe _ (hr.dom _ _ _ hq).2
   len:=dm _
   size:=hp.size
   os:=hp.os
   tape:=hp.tape
   output:=hp.output
   frame:=fun b hb hw=>⟨hframe b hb,hw⟩
   loops:=fun b r h=>⟨r,by rw[hframe b (lZ h),h]⟩
   img:=fun _ _ h=>h}
 ·rw[hv'.ab hv]
  exact .of_flat hv
end
section
variable {P:Program} {ρ:Rho} {H:Heap} {w:World}
abbrev nA:=Ex→List Value→Heap→Prop
structure Keep{α:Sort _}(a:α):Type where
def jZ(r:Option (Value×Heap))(K:Value→Heap→Prop)(_k:Keep K:=⟨⟩):Prop:=
 match r with
 | some (v,H1)=>K v H1
 | none=>False
@[simp] theorem a8x(v:Value)(H1:Heap)(K:Value→Heap→Prop):jZ (some (v,H1)) K=K v H1:=rfl
def rV(P:Program)(f:Value)(args:List Value)(H:Heap)(K:Value→Heap→Prop)(_k:Keep K:=⟨⟩):Prop:=
 match f with
 | .func (.func k) first captured=>∃v H1,nN P k∧CallOk P k (first.toList++args++captured.toList) H v H1∧K v H1
 | .func (.yield L) _ _=>∃v H1,yQ P L args H v H1∧K v H1
 | _=>False
def mD(P:Program)(o:Oper)(l:List Value)(H:Heap)(K:Value→Heap→Prop):Prop:=
 o.op.operands.toList.all iV=true∧
 match o.op with
 | .move x=>K (ev l x) H
 | .assign x=>K (ev l x) H
 | .call c=>match c.callee with
   | .value f=>rV P (ev l f) (c.args.toList.map (ev l)) H K
   | _=>jZ (opD P o l H) K
 | _=>jZ (opD P o l H) K
theorem a0h{o:Oper}{l:List Value}{K:Value→Heap→Prop}(h:mD P o l H K):∃v H1,StepR P o l H v H1∧K v H1:=by
 obtain⟨dst,op,type,pos,after,guard⟩:=o
 obtain⟨hok,h⟩:=h
 have plain:jZ (opD P ⟨dst,op,type,pos,after,guard⟩ l H) K→∃v H1,StepR P ⟨dst,op,type,pos,after,guard⟩ l H v H1∧K v H1:=fun h=>by
  unfold jZ at h
  split at h
  ·rename_i v H1 h1
   exact⟨v,H1,.op hok h1,h⟩
  ·exact h.elim
 simp only at h
 split at h
 ·exact⟨_,_,.op hok rfl,h⟩
 ·exact⟨_,_,.op hok rfl,h⟩
 ·rename_i c
  split at h
  ·rename_i f hf
   unfold rV at h
   split at h
   ·rename_i k first captured hev
    obtain⟨v,H1,h1,h2,h3⟩:=h
    exact⟨v,H1,.call hok c f k first captured rfl hf hev h1 h2,h3⟩
   ·rename_i L b d hev
    obtain⟨v,H1,h1,h2⟩:=h
    exact⟨v,H1,.round hok c f L b d rfl hf hev h1,h2⟩
   ·exact h.elim
  ·exact plain h
 ·exact plain h
def rD(P:Program)(ops:Array Oper):List Oper→List Value→Heap→(List Value→Heap→Prop)→Prop
 | [],l,H,K=>K l H
 | o::os,l,H,K=>if Region.wanted o (jE ops l)=true then mD P o l H fun v H1=>rD P ops os (put l o.dst v) H1 K else rD P ops os (put l o.dst undef) H K
theorem wM{ops:Array Oper}{K:List Value→Heap→Prop}:∀(os:List Oper)(i:Nat),ops.toList.drop i=os→∀(l:List Value)(H:Heap),rD P ops os l H K→
 ∃l' H',OpsR P ops (List.range' i os.length) l H l' H'∧K l' H'
 | [],i,_,l,H,h=>⟨l,H,.nil l H,h⟩
 | o::os,i,hd,l,H,h=>by
   have ho:ops[i]? =some o:=by
    have:(ops.toList.drop i)[0]? =some o:=by rw[hd];rfl
    rw[dF]at this
    simpa using this
   have hd':ops.toList.drop (i+1)=os:=by
    rw[←fD,hd];rfl
   unfold rD at h
   rw[dT,gO]
   split at h
   ·rename_i hw
    obtain⟨v,H1,h1,h2⟩:=a0h h
    obtain⟨l',H',h3,h4⟩:=wM os (i+1) hd' _ _ h2
    exact⟨l',H',.step ho hw h1 h3,h4⟩
   ·rename_i hw
    obtain⟨l',H',h3,h4⟩:=wM os (i+1) hd' _ _ h
    exact⟨l',H',.past ho (by simpa using hw) h3,h4⟩
theorem a3S{ops:Array Oper}{l:List Value}{K:List Value→Heap→Prop}(h:rD P ops ops.toList l H K):∃l' H',OpsR P ops (List.range ops.size) l H l' H'∧K l' H':=by
 obtain⟨l',H',h1,h2⟩:=wM ops.toList 0 rfl l H h
 refine⟨l',H',?_,h2⟩
 rw[fV]
 simpa using h1
theorem b9M{ops:Array Oper}:∀(is:List Nat)(l:List Value)(H:Heap)(l':List Value)(H':Heap),OpsR P ops is l H l' H'→
 ∃(T:Nat→List Value×Heap)(val:Nat→Value),T 0=(l,H)∧T is.length=(l',H')∧∀k i,is[k]? =some i→vO P ops i (T k) (T (k+1)) (val k):=by
 intro is l H l' H' h
 have key:∀{i:Nat}{is:List Nat}{l:List Value}{H:Heap}{l1:List Value}{H1:Heap}{v:Value}{l':List Value}{H':Heap},vO P ops i (l,H) (l1,H1) v→
  (∃(T:Nat→List Value×Heap)(val:Nat→Value),T 0=(l1,H1)∧T is.length=(l',H')∧∀k i,is[k]? =some i→vO P ops i (T k) (T (k+1)) (val k))→
  ∃(T:Nat→List Value×Heap)(val:Nat→Value),T 0=(l,H)∧T (i::is).length=(l',H')∧∀k j,(i::is)[k]? =some j→vO P ops j (T k) (T (k+1)) (val k):=by
  intro i is l H l1 H1 v l' H' hst ⟨T,val,h0,h1,h4⟩
  refine⟨fun k=>match k with|0=>(l,H)|k+1=>T k,fun k=>match k with|0=>v|k+1=>val k,rfl,h1,?_⟩
  intro k j hj
  cases k with
  | zero=>
    simp at hj
    subst hj
    simp only[h0]
    exact hst
  | succ k=>exact h4 k j (by simpa using hj)
 induction h with
 | nil l H=>exact⟨fun _=>(l,H),fun _=>undef,rfl,rfl,by simp⟩
 | step ho hw hs rest ih=>exact key ⟨_,ho,rfl,.inl ⟨hw,hs⟩⟩ ih
 | past ho hw rest ih=>exact key ⟨_,ho,rfl,.inr ⟨hw,rfl,rfl⟩⟩ ih
theorem Sim.cd(kJ:P.follows .mixedOrders=true){id:Nat}{ops:Array Oper}(htab:nB P ops=some []){l:List Value}{H:Heap}{l':List Value}{H':Heap}(h:OpsR P ops (List.range ops.size) l H l' H'):
 Sim P (.region id ops true) l H .normal l' H':=by
 obtain⟨T,val,h0,h1,h2⟩:=b9M _ _ _ _ _ h
 rw[List.length_range]at h1
 have:=Sim.draw kJ (id:=id) htab (T:=T) (val:=val) ⟨fun k hk=>h2 k k (by rw[gT hk])⟩ fun i m o hm=>by cases hm
 rw[h0,h1]at this
 exact this
def Wp(P:Program)(c:Code)(l:List Value)(H:Heap)(Q:nA)(_k1:Keep c:=⟨⟩)(_k2:Keep Q:=⟨⟩):Prop:=∃e l' H',Sim P c l H e l' H'∧Q e l' H'
theorem Wp.mono{c:Code}{l:List Value}{Q Q':nA}(h:Wp P c l H Q)(hh:∀e l H,Q e l H→Q' e l H):Wp P c l H Q':=by
 obtain⟨e,l',H',h1,h2⟩:=h
 exact⟨e,l',H',h1,hh _ _ _ h2⟩
def c4O(P:Program)(b:Code)(Q:nA):nA
 | .normal,l,H=>Wp P b l H Q
 | e,l,H=>Q e l H
def a0a(id:Nat)(Q:nA):nA:=fun e l H=>Q (e.out id) l H
theorem Wp.skip{l:List Value}{Q:nA}(h:Q .normal l H):Wp P .skip l H Q:=⟨_,_,_,.skip l H,h⟩
theorem Wp.label{t:Nat}{l:List Value}{Q:nA}(h:Q .normal l H):Wp P (.label t) l H Q:=⟨_,_,_,.label t l H,h⟩
theorem Wp.exit{id:Nat}{l:List Value}{Q:nA}(h:Q (.exit id) l H):Wp P (.exit id) l H Q:=⟨_,_,_,.exit id l H,h⟩
theorem Wp.ret{l:List Value}{Q:nA}(h:Q .ret l H):Wp P .ret l H Q:=⟨_,_,_,.ret l H,h⟩
theorem Wp.seq{a b:Code}{l:List Value}{Q:nA}(h:Wp P a l H (c4O P b Q)):Wp P (.seq a b) l H Q:=by
 obtain⟨e,l1,H1,h1,h2⟩:=h
 cases e with
 | normal=>
   obtain⟨e,l2,H2,h3,h4⟩:=h2
   exact⟨e,l2,H2,.seq h1 h3,h4⟩
 | exit i=>exact⟨_,_,_,.seq' h1 (by simp),h2⟩
 | ret=>exact⟨_,_,_,.seq' h1 (by simp),h2⟩
theorem Wp.cond{c:Operand}{x y:Code}{l:List Value}{Q:nA}(t:Bool)(hc:ev l c=.bool t)(hok:iV c=true)(h:Wp P (if t then x else y) l H Q):Wp P (.cond c x y) l H Q:=by
 obtain⟨e,l2,H2,h3,h4⟩:=h
 exact⟨e,l2,H2,.cond hc hok h3,h4⟩
theorem Wp.ite{c:Operand}{x y:Code}{l:List Value}{Q:nA}(p:Prop)[Decidable p](hc:ev l c=.bool (decide p))(hok:iV c=true)(hx:p→Wp P x l H Q)(hy:¬p→Wp P y l H Q):Wp P (.cond c x y) l H Q:=by
 refine Wp.cond (decide p) hc hok ?_
 by_cases h:p
 ·have e:(if decide p=true then x else y)=x:=by simp[h]
  rw[e];exact hx h
 ·have e:(if decide p=true then x else y)=y:=by simp[h]
  rw[e];exact hy h
theorem Wp.block{id:Nat}{b:Code}{l:List Value}{Q:nA}(h:Wp P b l H (a0a id Q)):Wp P (.block id b) l H Q:=by
 obtain⟨e,l2,H2,h3,h4⟩:=h
 exact⟨_,l2,H2,.block h3,h4⟩
theorem Wp.loop{c:Code}{Q:nA}(I:Nat→List Value→Heap→Prop)(step:∀n l H,I n l H→Wp P c l H fun e l1 H1=>match e with|.normal=>∃m,m<n∧I m l1 H1|e=>Q e l1 H1){l:List Value}(n:Nat)(h:I n l H):Wp P (.loop c) l H Q:=by
 have key:∀(n:Nat)(l:List Value)(H:Heap),I n l H→∃k e l' H',Rounds P c k l H e l' H'∧Q e l' H':=by
  intro n
  induction n using Nat.strongRecOn with
  | _ n ih=>
    intro l H h
    obtain⟨e,l1,H1,h1,h2⟩:=step n l H h
    cases e with
    | normal=>
      obtain⟨m,hm,h3⟩:=h2
      obtain⟨k,e,l',H',h4,h5⟩:=ih m hm l1 H1 h3
      exact⟨k+1,e,l',H',.more h1 h4,h5⟩
    | exit i=>exact⟨1,_,_,_,.last h1 (by simp),h2⟩
    | ret=>exact⟨1,_,_,_,.last h1 (by simp),h2⟩
 obtain⟨k,e,l',H',h1,h2⟩:=key n l H h
 exact⟨e,l',H',.loop h1,h2⟩
theorem Wp.region{id:Nat}{ops:Array Oper}{l:List Value}{Q:nA}(h:rD P ops ops.toList l H fun l H=>Q .normal l H):Wp P (.region id ops false) l H Q:=by
 obtain⟨l',H',h1,h2⟩:=a3S h
 exact⟨_,_,_,.region h1,h2⟩
theorem Wp.draw(kJ:P.follows .mixedOrders=true){id:Nat}{ops:Array Oper}{l:List Value}{Q:nA}(htab:nB P ops=some [])(h:rD P ops ops.toList l H fun l H=>Q .normal l H):Wp P (.region id ops true) l H Q:=by
 obtain⟨l',H',h1,h2⟩:=a3S h
 exact⟨_,_,_,.cd kJ htab h1,h2⟩
theorem CallOk.of_wp{f:FuncId}{fn:Func}{c:Code}{args:List Value}(hf:P.funcs[f]? =some fn)(hb:fn.body=some c)(hn:(fn.name== "runtime.NumGoroutine")=false){Q:Value→Heap→Prop}
 (h:Wp P c (args++List.replicate (fn.ntmps-args.length) undef) H fun e l H1=>(e=.normal∨e=.ret)∧∃v,iI P fn l H1=some v∧Q v H1):∃v H',CallOk P f args H v H'∧Q v H':=by
 obtain⟨e,l',H',h1,h2,v,h3,h4⟩:=h
 exact⟨v,H',.bO hf hb hn h1 h2 h3,h4⟩
theorem b0x(l:List Value)(d:Option Tmp)(v:Value)(t:Tmp):get (put l d v) t=if d=some t∧t<l.length then v else get l t:=a9D l d v t
theorem b5J(l:List Value)(v:Value):put l none v=l:=rfl
end
end Go.Ds
namespace Go.Ds
noncomputable section
variable {P:Program} {H:Heap}
def nH(v:Value)(K:Value→Prop)(_k:Keep K:=⟨⟩):Prop:=K v
theorem a8H{v v':Value}{K:Value→Prop}(h:v=v'):nH v K=nH v' K:=by rw[h]
attribute [congr] a8H
theorem b9O(v:Value)(K:Value→Prop):nH v K=K v:=rfl
def jT(r:Option Value)(K:Value→Prop)(_k:Keep K:=⟨⟩):Prop:=match r with|some v=>K v|none=>False
theorem a7O{r r':Option Value}{K:Value→Prop}(h:r=r'):jT r K=jT r' K:=by rw[h]
attribute [congr] a7O
theorem a8l(v:Value)(K:Value→Prop):jT (some v) K=K v:=rfl
theorem a7T{r r':Option (Value×Heap)}{K:Value→Heap→Prop}(h:r=r'):jZ r K=jZ r' K:=by rw[h]
attribute [congr] a7T
def uQ(b:Bool)(p:Prop)(_k:Keep p:=⟨⟩):Prop:=b=true∧p
theorem a9p{b b':Bool}{p:Prop}(h:b=b'):uQ b p=uQ b' p:=by rw[h]
attribute [congr] a9p
theorem b2I(p:Prop):uQ true p=p:=by simp[uQ]
def jN(x:Operand)(l:List Value)(K:Value→Prop)(_k:Keep K:=⟨⟩):Prop:=iV x=true∧K (ev l x)
theorem b4G(t:Tmp)(l:List Value)(K:Value→Prop):jN (.tmp t) l K=nH (get l t) K:=by simp[jN,iV,ev,nH]
theorem a7Y(v:Value)(l:List Value)(K:Value→Prop):jN (.const v) l K=uQ (flat v) (K v):=by simp[jN,iV,ev,uQ]
theorem b1s(f:FuncId)(l:List Value)(K:Value→Prop):jN (.func f) l K=K (.func (.func f) #[] #[]):=by simp[jN,iV,ev]
def xT:List Operand→List Value→(List Value→Prop)→Prop
 | [],_,K=>K []
 | x::xs,l,K=>jN x l fun v=>xT xs l fun vs=>K (v::vs)
theorem a1v:∀(xs:List Operand)(l:List Value)(K:List Value→Prop),xT xs l K=(xs.all iV=true∧K (xs.map (ev l)))
 | [],l,K=>by simp[xT]
 | x::xs,l,K=>by simp[xT,a1v,jN,and_assoc]
theorem b3z(l:List Value)(K:List Value→Prop):xT [] l K=K []:=rfl
theorem a8F(x:Operand)(xs:List Operand)(l:List Value)(K:List Value→Prop):xT (x::xs) l K=jN x l fun v=>xT xs l fun vs=>K (v::vs):=rfl
theorem b4M(d ty pos af g)(x:Operand)(l:List Value)(K:Value→Heap→Prop):mD P ⟨d,.move x,ty,pos,af,g⟩ l H K=jN x l fun v=>K v H:=by
 simp[mD,jN,Op.operands]
theorem a9R(d ty pos af g)(x:Operand)(l:List Value)(K:Value→Heap→Prop):mD P ⟨d,.assign x,ty,pos,af,g⟩ l H K=jN x l fun v=>K v H:=by
 simp[mD,jN,Op.operands]
def a2w(c a b:Value)(K:Value→Prop)(_k:Keep K:=⟨⟩):Prop:=match c with|.bool t=>K (if t then a else b)|_=>False
theorem a7l{c c' a b:Value}{K:Value→Prop}(h:c=c'):a2w c a b K=a2w c' a b K:=by rw[h]
attribute [congr] a7l
theorem a9P(a b:Value)(K:Value→Prop):a2w (.bool true) a b K=K a:=rfl
theorem a7N(a b:Value)(K:Value→Prop):a2w (.bool false) a b K=K b:=rfl
theorem a6b(c x y:Bool)(K:Value→Prop):a2w (.bool c) (.bool x) (.bool y) K=K (.bool (if c then x else y)):=by cases c<;>rfl
theorem b4H(d ty pos af g)(c a b:Operand)(l:List Value)(K:Value→Heap→Prop):mD P ⟨d,.pick c a b,ty,pos,af,g⟩ l H K=jN c l fun c=>jN a l fun a=>jN b l fun b=>a2w c a b fun v=>K v H:=by
 simp only[mD,jN,Op.operands,opD,a2w,fK,il,fL,de,and_assoc]
 congr 1;congr 1;congr 1
 cases ev l c<;>simp[jZ]
theorem mY(r:Option (Value×Heap))(K:Value→Heap→Prop):jZ r K=∃v H1,r=some (v,H1)∧K v H1:=by
 cases r with
 | none=>simp[jZ]
 | some r=>
   obtain⟨a,b⟩:=r
   exact propext ⟨fun h=>⟨a,b,rfl,h⟩,fun⟨_,_,h,k⟩=>by cases h;exact k⟩
def qC(a:Option Bool)(s:Option Nat)(H:Heap)(v:Value):Option Value:=
 match v with
 | .pointer (some ⟨A,i,some e⟩)=>
   match a with
   | some true=>s.bind fun n=>(jK H A i e n).map fun l=>.agg l.toArray
   | some false=>(jK H A i e 1).bind fun l=>l[0]?
   | none=>none
 | .pointer (some ⟨A,i,none⟩)=>match iT H A with
   | some (.cells cs _ false _ 1)=>match a with
     | some true=>s.bind fun n=>(jK H A i cs.length n).map fun l=>.agg l.toArray
     | some false=>(jK H A i cs.length 1).bind fun l=>l[0]?
     | none=>none
   | _=>none
 | _=>none
theorem mE(t:TypeId)(v:Value):mJ P H t v=qC (kH P t) (iJ P t) H v:=rfl
theorem b4m(d ty pos af g)(t:TypeId)(a:Operand)(l:List Value)(K:Value→Heap→Prop):mD P ⟨d,.load t a,ty,pos,af,g⟩ l H K=jN a l fun p=>jT (qC (kH P t) (iJ P t) H p) fun v=>K v H:=by
 simp only[mD,jN,Op.operands,opD,fK,il,fL,mE]
 cases qC (kH P t) (iJ P t) H (ev l a)<;>simp[jZ,jT]
def zT(P:Program)(H:Heap)(t:TypeId)(p v:Value)(K:Heap→Prop)(_k:Keep K:=⟨⟩):Prop:=∃H1,qO P H t p v=some H1∧K H1
theorem a5d{t:TypeId}{p p' v v':Value}{K:Heap→Prop}(h1:p=p')(h2:v=v'):zT P H t p v K=zT P H t p' v' K:=by rw[h1,h2]
attribute [congr] a5d
theorem b1z(d ty pos af g)(t:TypeId)(a x:Operand)(l:List Value)(K:Value→Heap→Prop):mD P ⟨d,.store t a x,ty,pos,af,g⟩ l H K=jN a l fun p=>jN x l fun v=>zT P H t p v fun H1=>K undef H1:=by
 simp only[mD,jN,Op.operands,opD,fK,il,fL,de,and_assoc,zT]
 cases qO P H t (ev l a) (ev l x)<;>simp[jZ]
def a4Q(P:Program)(H:Heap)(t:TypeId)(v:Value)(K:Value→Heap→Prop)(_k:Keep K:=⟨⟩):Prop:=∃p H1,wY P H t v=some (p,H1)∧K p H1
theorem a8n{t:TypeId}{v v':Value}{K:Value→Heap→Prop}(h:v=v'):a4Q P H t v K=a4Q P H t v' K:=by rw[h]
attribute [congr] a8n
theorem a8G(t:TypeId)(v:Value)(K:Value→Heap→Prop):jZ (wY P H t v) K=a4Q P H t v K:=mY _ _
def b0b(P:Program)(H:Heap)(t:TypeId)(v:Value)(K:Value→Heap→Prop)(_k:Keep K:=⟨⟩):Prop:=∃p H1,qT P H t v=some (p,H1)∧K p H1
theorem a9v{t:TypeId}{v v':Value}{K:Value→Heap→Prop}(h:v=v'):b0b P H t v K=b0b P H t v' K:=by rw[h]
attribute [congr] a9v
theorem a8Z{t:TypeId}(ha:kD P t=none)(z:Value):qT P H t z=wY P H t z:=by
 unfold qT
 split
 ·rename_i n e h;simp[kD,h]at ha
 ·rfl
def uE(P:Program)(H:Heap)(t:TypeId)(z:Option Value)(K:Value→Heap→Prop)(_k:Keep K:=⟨⟩):Prop:=match z with|some z=>jJ z=true∧b0b P H t z K|none=>False
theorem a4R{t:TypeId}{z z':Option Value}{K:Value→Heap→Prop}(h:z=z'):uE P H t z K=uE P H t z' K:=by rw[h]
attribute [congr] a4R
theorem a7r{t:TypeId}(z:Value)(K:Value→Heap→Prop)(ha:kD P t=none):uE P H t (some z) K=uQ (jJ z) (a4Q P H t z K):=by
 simp only[uE,b0b,a8Z ha,uQ,a4Q]
theorem a9L{t:TypeId}(z:Value)(K:Value→Heap→Prop){n:Nat×TypeId}(_ha:kD P t=some n):uE P H t (some z) K=uQ (jJ z) (b0b P H t z K):=rfl
theorem b2R(d ty pos af g)(t:TypeId)(l:List Value)(K:Value→Heap→Prop):mD P ⟨d,.alloc t,ty,pos,af,g⟩ l H K=uE P H t (jG P t) K:=by
 simp only[mD,Op.operands,opD,il,true_and,uE]
 cases jG P t with
 | none=>simp[jZ]
 | some z=>
   simp only[dh]
   by_cases hz:jJ z=true
   ·simp only[hz,if_true,true_and];exact mY _ _
   ·simp[hz,jZ]
theorem b9u(d ty pos af g)(t:TypeId)(x:Operand)(l:List Value)(K:Value→Heap→Prop):mD P ⟨d,.box t x,ty,pos,af,g⟩ l H K=jN x l fun v=>a4Q P H t v K:=by
 simp only[mD,jN,Op.operands,opD,fK,il,fL,a8G]
def tE:List (Nat×Operand)→List Value→(List (Nat×Value)→Prop)→Prop
 | [],_,K=>K []
 | (i,x)::xs,l,K=>jN x l fun v=>tE xs l fun vs=>K ((i,v)::vs)
theorem zK:∀(xs:List (Nat×Operand))(l:List Value)(K:List (Nat×Value)→Prop),tE xs l K=((xs.map (·.2)).all iV=true∧K (xs.map fun(i,x)=>(i,ev l x)))
 | [],l,K=>by simp[tE]
 | (i,x)::xs,l,K=>by simp[tE,zK,jN,and_assoc]
theorem a9m(l:List Value)(K:List (Nat×Value)→Prop):tE [] l K=K []:=rfl
theorem a7W(i:Nat)(x:Operand)(xs:List (Nat×Operand))(l:List Value)(K:List (Nat×Value)→Prop):tE ((i,x)::xs) l K=jN x l fun v=>tE xs l fun vs=>K ((i,v)::vs):=rfl
def kK(P:Program)(t:TypeId)(ps:List (Nat×Value)):Option Value:=
 if(jG P t).any jJ&&ps.all (fun x=>x.2.cells.toList.all oneCell)then(P.built t ps).map fun cs=>.agg cs else none
theorem b3w(d ty pos af g)(t:TypeId)(parts:List (Nat×Operand))(l:List Value)(K:Value→Heap→Prop):
 mD P ⟨d,.build t parts.toArray,ty,pos,af,g⟩ l H K=tE parts l fun ps=>jT (kK P t ps) fun v=>K v H:=by
 rw[zK]
 simp only[mD,Op.operands,opD,kK]
 congr 1
 split
 ·cases P.built t (parts.map fun(i,x)=>(i,ev l x))<;>simp[jZ,jT]
 ·simp[jZ,jT]
def xG(P:Program)(H:Heap)(t:TypeId)(len:Nat)(ps:List (Nat×Value)):Option (Value×Heap):=
 (iL P t).bind fun elem=>(iJ P elem).bind fun size=>(jG P elem).bind fun z=>
   if len==0&&ps.isEmpty&&size !=0 then some (.slice (some ⟨H.length,0,some 0⟩) 0 size,rN H elem [])else
   if jJ z&&ps.all (fun x=>x.2.cells.toList.all oneCell)&&len*size≤2^24&&len*size !=0&&z.cells.size==size then
    (Instr.fill (fun i=>some (i*size,size)) ((Array.range (len*size)).map (z.cells[·%z.cells.size]!)) ps).map fun cs=>
      (.slice (some ⟨H.length,0,some cs.toList.length⟩) len size,rN H elem cs.toList)
   else none
def rS(P:Program)(H:Heap)(t:TypeId)(len:Nat)(ps:List (Nat×Value))(K:Value→Heap→Prop)(_k:Keep K:=⟨⟩):Prop:=∃v H1,xG P H t len ps=some (v,H1)∧K v H1
theorem a1x{t:TypeId}{len:Nat}{ps ps':List (Nat×Value)}{K:Value→Heap→Prop}(h:ps=ps'):rS P H t len ps K=rS P H t len ps' K:=by rw[h]
attribute [congr] a1x
theorem a1h(d ty pos af g)(t:TypeId)(len:Nat)(parts:List (Nat×Operand))(l:List Value)(K:Value→Heap→Prop):
 mD P ⟨d,.buildSlice t len parts.toArray,ty,pos,af,g⟩ l H K=tE parts l fun ps=>rS P H t len ps K:=by
 rw[zK]
 simp only[mD,Op.operands,opD,rS,xG]
 rw[←mY]
def wZ(P:Program)(H:Heap)(t:TypeId)(n c:Value):Option (Value×Heap):=
    (iL P t).bind fun elem=>(iJ P elem).bind fun size=>(nQ P elem).bind fun bytes=>(jG P elem).bind fun z=>
    match n,c with
    | .int .i64 a,.int .i64 b=>
      if jJ z&&decide (a≤b)&&0≤a&&b*(bytes+1)≤(oT:Int)&&size !=0&&z.cells.size==size then
       let cs:=if size=1 then List.replicate b.toNat (z.cells[0]!)else(madeCells z.cells (b.toNat*size)).toList
       some (.slice (some ⟨H.length,0,some cs.length⟩) a.toNat size,rN H elem cs)
      else none
    | _,_=>none
def qQ(P:Program)(H:Heap)(t:TypeId)(n c:Value)(K:Value→Heap→Prop)(_k:Keep K:=⟨⟩):Prop:=∃v H1,wZ P H t n c=some (v,H1)∧K v H1
theorem a0n{t:TypeId}{n n' c c':Value}{K:Value→Heap→Prop}(h:n=n')(h2:c=c'):qQ P H t n c K=qQ P H t n' c' K:=by rw[h,h2]
attribute [congr] a0n
theorem a2J(d ty pos af g)(t:TypeId)(n c:Operand)(l:List Value)(K:Value→Heap→Prop):
 mD P ⟨d,.makeSlice t n c,ty,pos,af,g⟩ l H K=jN n l fun n=>jN c l fun c=>qQ P H t n c K:=by
 change ((#[n,c].toList.all iV=true)∧jZ (wZ P H t (ev l n) (ev l c)) K)=_
 rw[mY]
 simp only[jN,qQ,fK,il,fL,de,and_assoc]
def xD(P:Program)(H:Heap)(t:TypeId)(s x:Value)(K:Value→Heap→Prop)(_k:Keep K:=⟨⟩):Prop:=∃v H1,nL P H t s x=some (v,H1)∧K v H1
theorem a2R{t:TypeId}{s s' x x':Value}{K:Value→Heap→Prop}(h:s=s')(h2:x=x'):xD P H t s x K=xD P H t s' x' K:=by rw[h,h2]
attribute [congr] a2R
def lT(P:Program)(t:TypeId):Bool:=((P.underlying t).map pX)==some true
theorem b0d(d ty pos af g)(s x:Operand)(t1 t2:TypeId)(l:List Value)(K:Value→Heap→Prop):
 mD P ⟨d,.call {callee:=.builtin .append,args:=#[s,x],argTypes:=#[t1,t2]},ty,pos,af,g⟩ l H K=uQ (lT P t2) (jN s l fun s=>jN x l fun x=>xD P H t1 s x K):=by
 simp only[mD,jN,Op.operands,Call.operands,opD,xD,uQ,lT]
 rw[←mY]
 by_cases h:(((P.underlying t2).map pX)==some true)=true
 ·simp[h,and_assoc]
 ·simp[h,jZ]
def b0r(P:Program)(H:Heap)(t:TypeId)(s x:Value)(K:Value→Heap→Prop)(_k:Keep K:=⟨⟩):Prop:=∃v H1,a1t P H t s x=some (v,H1)∧K v H1
theorem a7c{t:TypeId}{s s' x x':Value}{K:Value→Heap→Prop}(h:s=s')(h2:x=x'):b0r P H t s x K=b0r P H t s' x' K:=by rw[h,h2]
attribute [congr] a7c
theorem b4E(d ty pos af g)(s x:Operand)(t1 t2:TypeId)(l:List Value)(K:Value→Heap→Prop):
 mD P ⟨d,.call {callee:=.builtin .copy,args:=#[s,x],argTypes:=#[t1,t2]},ty,pos,af,g⟩ l H K=jN s l fun s=>jN x l fun x=>b0r P H t1 s x K:=by
 simp only[mD,jN,Op.operands,Call.operands,opD,b0r]
 rw[←mY]
 simp[and_assoc]
def a2t(P:Program)(H:Heap)(t:TypeId)(s:Value)(K:Value→Heap→Prop)(_k:Keep K:=⟨⟩):Prop:=∃v H1,tF P H t s=some (v,H1)∧K v H1
theorem a4U{t:TypeId}{s s':Value}{K:Value→Heap→Prop}(h:s=s'):a2t P H t s K=a2t P H t s' K:=by rw[h]
attribute [congr] a4U
theorem b3v(d ty pos af g)(s:Operand)(t1:TypeId)(l:List Value)(K:Value→Heap→Prop):
 mD P ⟨d,.call {callee:=.builtin .clear,args:=#[s],argTypes:=#[t1]},ty,pos,af,g⟩ l H K=jN s l fun s=>a2t P H t1 s K:=by
 simp only[mD,jN,Op.operands,Call.operands,opD,a2t]
 rw[←mY]
 simp[]
def a0d(P:Program)(H:Heap)(t:TypeId)(v:Value):Option Value:=
 match (P.underlying t),v with
 | some (.slice _),.slice a n k=>wT H (.slice a n k)
 | some .string,.string s=>wT H (.string s)
 | some (.map _ _),.map r=>wT H (.map r)
 | _,_=>none
theorem b8h(d ty pos af g)(x:Operand)(t:TypeId)(l:List Value)(K:Value→Heap→Prop):
 mD P ⟨d,.call {callee:=.builtin .len,args:=#[x],argTypes:=#[t]},ty,pos,af,g⟩ l H K=jN x l fun x=>jT (a0d P H t x) fun v=>K v H:=by
 have h:opD P ⟨d,.call {callee:=.builtin .len,args:=#[x],argTypes:=#[t]},ty,pos,af,g⟩ l H=(a0d P H t (ev l x)).map fun v=>(v,H):=by
  simp only[opD,a0d]
  simp only[fA,dT,dZ,fx,BEq.rfl,Bool.and_self,if_true]
  simp only[fo,fC,fp,dO]
  cases P.underlying t with
  | none=>rfl
  | some u=>cases u<;>cases ev l x<;>rfl
 simp only[mD,h,jN,Op.operands,Call.operands]
 have h2:jZ ((a0d P H t (ev l x)).map fun v=>(v,H)) K=jT (a0d P H t (ev l x)) fun v=>K v H:=by cases a0d P H t (ev l x)<;>rfl
 rw[h2]
 simp
def jS(v:Value)(size j f:Nat):Value:=match v with
 | .slice (some ⟨A,i,s⟩) _ _=>.pointer (some ⟨A,i+j*size+f,s⟩)
 | _=>.pointer none
def a6W(P:Program)(s:TypeId)(f:Nat)(v:Value):Option Value:=match v with
 | .pointer (some ⟨A,i,some e⟩)=>(oK P s f).bind fun fd=>(iJ P fd.type).bind fun n=>if n==0 then none else some (.pointer (some ⟨A,i+fd.offset,some e⟩))
 | _=>none
theorem a2N(d ty pos af g)(s:TypeId)(x:Operand)(f:Nat)(l:List Value)(K:Value→Heap→Prop):
 mD P ⟨d,.fieldAddr s x f,ty,pos,af,g⟩ l H K=jN x l fun x=>jT (a6W P s f x) fun v=>K v H:=by
 have h:opD P ⟨d,.fieldAddr s x f,ty,pos,af,g⟩ l H=(a6W P s f (ev l x)).map fun v=>(v,H):=by
  simp only[opD,a6W]
  generalize ev l x=vx
  split
  ·dsimp only
   cases oK P s f with
   | none=>rfl
   | some fd=>
     simp only[dh]
     cases iJ P fd.type with
     | none=>rfl
     | some n=>simp only[dh];split<;>rfl
  ·rename_i hne
   split
   ·exact(hne _ _ _ rfl).elim
   ·rfl
 have h2:jZ ((a6W P s f (ev l x)).map fun v=>(v,H)) K=jT (a6W P s f (ev l x)) fun v=>K v H:=by cases a6W P s f (ev l x)<;>rfl
 simp only[mD,h,jN,Op.operands,h2]
 simp
def a1n(P:Program)(t:TypeId)(v i:Value):Option Value:=
 match P.underlying t,v,i with
  | some (.slice elem),.slice (some ⟨A,i,some e⟩) n _,.int _ j=>(iJ P elem).bind fun size=>
    if 0≤j&&j<n then some (.pointer (some ⟨A,i+j.toNat*size,some e⟩))else none
  | some (.array n elem),.pointer (some ⟨A,i,some e⟩),.int _ j=>(iJ P elem).bind fun size=>
    if 0≤j&&j<n then some (.pointer (some ⟨A,i+j.toNat*size,some e⟩))else none
  | some (.array n elem),.pointer (some ⟨A,i,none⟩),.int _ j=>(iJ P elem).bind fun size=>
    if 0≤j&&j<n then some (.pointer (some ⟨A,i+j.toNat*size,none⟩))else none
  | _,_,_=>none
theorem a2G(d ty pos af g)(t:TypeId)(x i:Operand)(l:List Value)(K:Value→Heap→Prop):
 mD P ⟨d,.indexAddr t x i,ty,pos,af,g⟩ l H K=jN x l fun x=>jN i l fun i=>jT (a1n P t x i) fun v=>K v H:=by
 have h:opD P ⟨d,.indexAddr t x i,ty,pos,af,g⟩ l H=(a1n P t (ev l x) (ev l i)).map fun v=>(v,H):=by
  simp only[opD,a1n]
  generalize ev l x=vx
  generalize ev l i=vi
  generalize P.underlying t=u
  split
  ·dsimp only
   cases iJ P _ with
   | none=>rfl
   | some n=>simp only[dh];split<;>rfl
  ·dsimp only
   cases iJ P _ with
   | none=>rfl
   | some n=>simp only[dh];split<;>rfl
  ·dsimp only
   cases iJ P _ with
   | none=>rfl
   | some n=>simp only[dh];split<;>rfl
  ·rename_i h1 h2 h3
   split
   ·exact(h1 _ _ _ _ _ _ _ _ rfl rfl rfl).elim
   ·exact(h2 _ _ _ _ _ _ _ rfl rfl rfl).elim
   ·exact(h3 _ _ _ _ _ _ rfl rfl rfl).elim
   ·rfl
 have h2:jZ ((a1n P t (ev l x) (ev l i)).map fun v=>(v,H)) K=jT (a1n P t (ev l x) (ev l i)) fun v=>K v H:=by cases a1n P t (ev l x) (ev l i)<;>rfl
 simp only[mD,h,jN,Op.operands,h2]
 simp[and_assoc]
def c3t(P:Program)(o:Oper)(op:BinOp)(l:List Value)(H:Heap)(x y:Value)(K:Value→Heap→Prop)(_k:Keep K:=⟨⟩):Prop:=match x,y with
 | .int k a,.int k' b=>(match (if k=k' then mV op k a b else none)with|some v=>K v H|none=>jZ (opD P o l H) K)
 | _,_=>jZ (opD P o l H) K
theorem a8i{o:Oper}{op:BinOp}{l:List Value}{x x' y y':Value}{K:Value→Heap→Prop}(h:x=x')(h2:y=y'):c3t P o op l H x y K=c3t P o op l H x' y' K:=by rw[h,h2]
attribute [congr] a8i
theorem nE(o o':Oper)(l l':List Value)(H:Heap)(h1:o.op.operands.toList.map (ev l)=o'.op.operands.toList.map (ev l'))(h2:execOp (ev l) o=execOp (ev l') o'):
 kT P o l H=((kT P o' l' .nil).map (·.1)).map fun v=>(v,H):=by
 have h3:∀(l:List Value)(xs:List Operand),xs.all (fun x=>flat (ev l x))=(xs.map (ev l)).all flat:=fun l xs=>by simp[List.all_map,im]
 unfold kT
 rw[h3,h1,←h3,h2]
 split
 ·split
  ·split<;>rfl
  ·rfl
 ·rfl
def unV(P:Program)(op:UnOp)(t:TypeId)(x:Value):Option Value:=(opD P ⟨none,.unOp op t (.const x),t,"",#[],none⟩ [] .nil).map (·.1)
theorem c2t(d ty pos af g)(op:UnOp)(t:TypeId)(x:Operand)(l:List Value)(K:Value→Heap→Prop):
 mD P ⟨d,.unOp op t x,ty,pos,af,g⟩ l H K=jN x l fun x=>jT (unV P op t x) fun v=>K v H:=by
 have h:opD P ⟨d,.unOp op t x,ty,pos,af,g⟩ l H=(unV P op t (ev l x)).map fun v=>(v,H):=by
  have hp:=nE (P:=P) ⟨d,.unOp op t x,ty,pos,af,g⟩ ⟨none,.unOp op t (.const (ev l x)),t,"",#[],none⟩ l [] H rfl rfl
  simp only[opD,unV,hp]
  generalize kT P _ _ _=r
  have e1:∀v,ev [] (.const v)=v:=fun _=>rfl
  simp only[e1]
  generalize ev l x=vx
  split<;>simp
 have h2:jZ ((unV P op t (ev l x)).map fun v=>(v,H)) K=jT (unV P op t (ev l x)) fun v=>K v H:=by cases unV P op t (ev l x)<;>rfl
 simp only[mD,h,jN,Op.operands,h2]
 simp
theorem b9J(t:TypeId)(b:Bool):unV P .not t (.bool b)=some (.bool (!b)):=by simp[unV,opD,ev]
def a2u(P:Program)(s t:TypeId)(x:Value):Option Value:=(kT P ⟨none,.convert s t (.const x),t,"",#[],none⟩ [] .nil).map (·.1)
def vN(P:Program)(s t:TypeId)(H:Heap)(x:Value)(K:Value→Heap→Prop)(_k:Keep K:=⟨⟩):Prop:=∃v H1,opD P ⟨none,.convert s t (.const x),t,"",#[],none⟩ [] H=some (v,H1)∧K v H1
theorem a5S{s t:TypeId}{x x':Value}{K:Value→Heap→Prop}(h:x=x'):vN P s t H x K=vN P s t H x' K:=by rw[h]
attribute [congr] a5S
theorem a6O(d ty pos af g)(s t:TypeId)(x:Operand)(l:List Value)(K:Value→Heap→Prop):
 mD P ⟨d,.convert s t x,ty,pos,af,g⟩ l H K=jN x l fun x=>vN P s t H x K:=by
 have h:opD P ⟨d,.convert s t x,ty,pos,af,g⟩ l H=opD P ⟨none,.convert s t (.const (ev l x)),t,"",#[],none⟩ [] H:=by
  have hp:=nE (P:=P) ⟨d,.convert s t x,ty,pos,af,g⟩ ⟨none,.convert s t (.const (ev l x)),t,"",#[],none⟩ l [] H rfl rfl
  have hp2:=nE (P:=P) ⟨none,.convert s t (.const (ev l x)),t,"",#[],none⟩ ⟨none,.convert s t (.const (ev l x)),t,"",#[],none⟩ [] [] H rfl rfl
  have e1:∀v,ev [] (.const v)=v:=fun _=>rfl
  simp only[opD,e1,hp,←hp2]
 simp only[mD,h,jN,Op.operands,vN,mY]
 simp
theorem a8o{s t:TypeId}{x:Value}(K:Value→Heap→Prop)(hb:mC P t=false)(hf:flat x=true):vN P s t H x K=jT (a2u P s t x) fun v=>K v H:=by
 have hp:=nE (P:=P) ⟨none,.convert s t (.const x),t,"",#[],none⟩ ⟨none,.convert s t (.const x),t,"",#[],none⟩ [] [] H rfl rfl
 have e1:ev [] (.const x)=x:=rfl
 have h:opD P ⟨none,.convert s t (.const x),t,"",#[],none⟩ [] H=(a2u P s t x).map fun v=>(v,H):=by
  simp only[opD,e1,hf,hb,Bool.not_false,fL,if_true,a2u]
  exact hp
 unfold vN
 rw[h,←mY]
 cases a2u P s t x<;>rfl
theorem b3i{s t:TypeId}(k:IntKind)(a:Int)(K:Value→Heap→Prop)(hb:mC P t=false):vN P s t H (.int k a) K=jT (a2u P s t (.int k a)) fun v=>K v H:=a8o K hb rfl
def tK(v:Value)(i:Nat):Option Value:=match v with|.tuple vs=>vs[i]?|_=>none
theorem a6m(d ty pos af g)(x:Operand)(i:Nat)(l:List Value)(K:Value→Heap→Prop):
 mD P ⟨d,.extract x i,ty,pos,af,g⟩ l H K=jN x l fun x=>jT (tK x i) fun v=>K v H:=by
 have h:opD P ⟨d,.extract x i,ty,pos,af,g⟩ l H=(tK (ev l x) i).map fun v=>(v,H):=by
  simp only[opD,tK]
  generalize ev l x=vx
  cases vx<;>rfl
 have h2:jZ ((tK (ev l x) i).map fun v=>(v,H)) K=jT (tK (ev l x) i) fun v=>K v H:=by cases tK (ev l x) i<;>rfl
 simp only[mD,h,jN,Op.operands,h2]
 simp
theorem a9C(a:Value)(l:List Value):tK (.tuple (a::l).toArray) 0=some a:=by simp[tK]
theorem b3t(a b:Value)(l:List Value):tK (.tuple (a::b::l).toArray) 1=some b:=by simp[tK]
theorem b1T(a b c:Value)(l:List Value):tK (.tuple (a::b::c::l).toArray) 2=some c:=by simp[tK]
def wE(P:Program)(t:TypeId)(v:Value)(f:Nat):Option Value:=(opD P ⟨none,.field t (.const v) f,t,"",#[],none⟩ [] .nil).map (·.1)
theorem b1w(d ty pos af g)(t:TypeId)(x:Operand)(f:Nat)(l:List Value)(K:Value→Heap→Prop):
 mD P ⟨d,.field t x f,ty,pos,af,g⟩ l H K=jN x l fun x=>jT (wE P t x f) fun v=>K v H:=by
 have h:opD P ⟨d,.field t x f,ty,pos,af,g⟩ l H=(wE P t (ev l x) f).map fun v=>(v,H):=by
  have hp:=nE (P:=P) ⟨d,.field t x f,ty,pos,af,g⟩ ⟨none,.field t (.const (ev l x)) f,t,"",#[],none⟩ l [] H rfl rfl
  simp only[opD,wE,hp]
  generalize kT P _ _ _=r
  have e1:∀v,ev [] (.const v)=v:=fun _=>rfl
  simp only[e1]
  generalize ev l x=vx
  split
  ·cases r<;>rfl
  ·rename_i hfl
   cases vx<;>try rfl
   rename_i cs
   dsimp only
   cases oK P t f with
   | none=>rfl
   | some fd=>
     simp only[dh]
     cases kH P fd.type with
     | none=>rfl
     | some b=>
       cases b
       ·dsimp only;cases cs[fd.offset]?<;>rfl
       ·dsimp only;cases iJ P fd.type<;>rfl
 have h2:jZ ((wE P t (ev l x) f).map fun v=>(v,H)) K=jT (wE P t (ev l x) f) fun v=>K v H:=by cases wE P t (ev l x) f<;>rfl
 simp only[mD,h,jN,Op.operands,h2]
 simp
end
end Go.Ds
namespace Go.Ds
noncomputable section
variable {P:Program} {H:Heap}
theorem a5J{f f':Value}{args args':List Value}{K:Value→Heap→Prop}(h1:f=f')(h2:args=args'):rV P f args H K=rV P f' args' H K:=by rw[h1,h2]
attribute [congr] a5J
def qW(P:Program)(k:FuncId)(args:List Value)(H:Heap)(K:Value→Heap→Prop)(_k:Keep K:=⟨⟩):Prop:=∃v H1,nN P k∧CallOk P k args H v H1∧K v H1
theorem a4f{k:FuncId}{args args':List Value}{K:Value→Heap→Prop}(h2:args=args'):qW P k args H K=qW P k args' H K:=by rw[h2]
attribute [congr] a4f
theorem a7Z(k:FuncId)(a b:List Value)(args:List Value)(K:Value→Heap→Prop):rV P (.func (.func k) a.toArray b.toArray) args H K=qW P k (a++args++b) H K:=rfl
theorem b4p(d ty pos af g)(f:Operand)(args:List Operand)(ts:Array TypeId)(l:List Value)(K:Value→Heap→Prop):
 mD P ⟨d,.call {callee:=.value f,args:=args.toArray,argTypes:=ts},ty,pos,af,g⟩ l H K=jN f l fun f=>xT args l fun vs=>rV P f vs H K:=by
 simp only[mD,a1v,jN,Op.operands,Call.operands]
 simp[and_assoc]
theorem a5h(d ty pos af g)(f:FuncId)(captured:List Operand)(l:List Value)(K:Value→Heap→Prop):
 mD P ⟨d,.makeFunc (.func f) #[] captured.toArray,ty,pos,af,g⟩ l H K=xT captured l fun vs=>uQ (vs.all mK) (K (.func (.func f) #[] vs.toArray) H):=by
 simp only[mD,a1v,uQ,Op.operands,opD]
 have e:(captured.map (ev l)).all mK=captured.all fun x=>mK (ev l x):=by simp[List.all_map,im]
 rw[e]
 by_cases h:(captured.all fun x=>mK (ev l x))=true
 ·simp[h]
 ·simp[h,jZ]
def xW(ops:Array Oper)(j:Nat):Option Tmp:=(ops[j]?).bind (·.dst)
def rW(v:Value)(b:Bool)(p q:Prop)(_k1:Keep p:=⟨⟩)(_k2:Keep q:=⟨⟩):Prop:=match v with|.bool c=>if c=b then p else q|_=>q
theorem a8V{v v':Value}{b:Bool}{p q:Prop}(h:v=v'):rW v b p q=rW v' b p q:=by rw[h]
attribute [congr] a8V
theorem b7R(p q:Prop):rW (.bool true) true p q=p:=rfl
theorem b8V(p q:Prop):rW (.bool false) false p q=p:=rfl
theorem b9e(p q:Prop):rW (.bool true) false p q=q:=rfl
theorem b8k(p q:Prop):rW (.bool false) true p q=q:=rfl
theorem a8I(b:Bool)(p q:Prop):rW undef b p q=q:=rfl
theorem jQ{c:Prop}[Decidable c]{p q:Prop}(h1:c→p)(h2:¬c→q):rW (.bool (decide c)) true p q:=by
 by_cases h:c
 ·simp only[rW,h,decide_true,if_true];exact h1 h
 ·simp only[rW,h,decide_false,ef,if_false];exact h2 h
theorem iS{c:Prop}[Decidable c]{p q:Prop}(h1:c→q)(h2:¬c→p):rW (.bool (decide c)) false p q:=by
 by_cases h:c
 ·simp only[rW,h,decide_true,Bool.true_eq_false,if_false];exact h1 h
 ·simp only[rW,h,decide_false,if_true];exact h2 h
def tX(d:Option Tmp)(l:List Value)(b:Bool)(p q:Prop)(_k1:Keep p:=⟨⟩)(_k2:Keep q:=⟨⟩):Prop:=match d with|some d=>rW (get l d) b p q|none=>q
theorem a4J{d d':Option Tmp}{l:List Value}{b:Bool}{p q:Prop}(h:d=d'):tX d l b p q=tX d' l b p q:=by rw[h]
attribute [congr] a4J
theorem a5X(d:Tmp)(l:List Value)(b:Bool)(p q:Prop):tX (some d) l b p q=rW (get l d) b p q:=rfl
theorem b1y(ops:Array Oper)(l:List Value)(d op ty pos af)(j:Nat)(b:Bool):
 Region.wanted ⟨d,op,ty,pos,af,some (j,b)⟩ (jE ops l)=(match xW ops j with|some d=>(match get l d with|.bool c=>c==b|_=>false)|none=>false):=by
 show(jE ops l j==some b)=_
 unfold jE xW
 cases (ops[j]?).bind (·.dst)with
 | none=>rfl
 | some t=>
   simp only[oF]
   rw[dj]
   cases h:l[t]? with
   | none=>rfl
   | some v=>
     simp only[dO]
     cases v<;>rfl
theorem sY(ops:Array Oper)(l:List Value)(d op ty pos af)(j:Nat)(b:Bool)(p q:Prop):
 (if Region.wanted ⟨d,op,ty,pos,af,some (j,b)⟩ (jE ops l)=true then p else q)=tX (xW ops j) l b p q:=by
 rw[b1y]
 cases xW ops j with
 | none=>simp[tX]
 | some t=>
   have key:∀v:Value,(if(match v with|.bool c=>c==b|_=>false)=true then p else q)=rW v b p q:=fun v=>by
    cases v<;>simp[rW]
   exact key (get l t)
theorem b5M(ops:Array Oper)(l:List Value)(K:List Value→Heap→Prop):rD P ops [] l H K=K l H:=rfl
theorem b1Q(ops:Array Oper)(d op ty pos af)(os:List Oper)(l:List Value)(K:List Value→Heap→Prop):
 rD P ops (⟨d,op,ty,pos,af,none⟩::os) l H K=mD P ⟨d,op,ty,pos,af,none⟩ l H fun v H1=>rD P ops os (put l d v) H1 K:=by
 rw[rD];simp[Region.wanted]
theorem a8B(ops:Array Oper)(d op ty pos af)(j:Nat)(b:Bool)(os:List Oper)(l:List Value)(K:List Value→Heap→Prop):
 rD P ops (⟨d,op,ty,pos,af,some (j,b)⟩::os) l H K=tX (xW ops j) l b (mD P ⟨d,op,ty,pos,af,some (j,b)⟩ l H fun v H1=>rD P ops os (put l d v) H1 K) (rD P ops os (put l d undef) H K):=by
 rw[rD,←sY ops l d op ty pos af]
def oJ(P:Program)(ops:Array Oper):List Oper→List (List Value×Heap×Value)→List Value→Heap→(List (List Value×Heap×Value)→List Value→Heap→Prop)→Prop
 | [],tr,l,H,K=>K tr l H
 | o::os,tr,l,H,K=>if Region.wanted o (jE ops l)=true then mD P o l H fun v H1=>oJ P ops os (tr++[(l,H,v)]) (put l o.dst v) H1 K else oJ P ops os (tr++[(l,H,undef)]) (put l o.dst undef) H K
theorem b2N(ops:Array Oper)(tr)(l:List Value)(K):oJ P ops [] tr l H K=K tr l H:=rfl
theorem a9w(ops:Array Oper)(d op ty pos af)(os:List Oper)(tr)(l:List Value)(K):
 oJ P ops (⟨d,op,ty,pos,af,none⟩::os) tr l H K=mD P ⟨d,op,ty,pos,af,none⟩ l H fun v H1=>oJ P ops os (tr++[(l,H,v)]) (put l d v) H1 K:=by
 rw[oJ];simp[Region.wanted]
theorem a6Z(ops:Array Oper)(d op ty pos af)(j:Nat)(b:Bool)(os:List Oper)(tr)(l:List Value)(K):
 oJ P ops (⟨d,op,ty,pos,af,some (j,b)⟩::os) tr l H K=tX (xW ops j) l b (mD P ⟨d,op,ty,pos,af,some (j,b)⟩ l H fun v H1=>oJ P ops os (tr++[(l,H,v)]) (put l d v) H1 K) (oJ P ops os (tr++[(l,H,undef)]) (put l d undef) H K):=by
 rw[oJ,←sY ops l d op ty pos af]
theorem a0z{ops:Array Oper}{K:List (List Value×Heap×Value)→List Value→Heap→Prop}:∀(os:List Oper)(i:Nat),ops.toList.drop i=os→∀(tr:List (List Value×Heap×Value))(l:List Value)(H:Heap),oJ P ops os tr l H K→
 ∃(T:Nat→List Value×Heap)(val:Nat→Value)(l':List Value)(H':Heap)(ext:List (List Value×Heap×Value)),T 0=(l,H)∧T os.length=(l',H')∧ext.length=os.length∧(∀k,k<os.length→ext[k]? =some ((T k).1,(T k).2,val k))∧
  (∀k,k<os.length→vO P ops (i+k) (T k) (T (k+1)) (val k))∧K (tr++ext) l' H'
 | [],i,_,tr,l,H,h=>⟨fun _=>(l,H),fun _=>undef,l,H,[],rfl,rfl,rfl,by simp,by simp,by simpa [oJ]using h⟩
 | o::os,i,hd,tr,l,H,h=>by
   have ho:ops[i]? =some o:=by
    have:(ops.toList.drop i)[0]? =some o:=by rw[hd];rfl
    rw[dF]at this
    simpa using this
   have hd':ops.toList.drop (i+1)=os:=by
    rw[←fD,hd];rfl
   have key:∀(v:Value)(H1:Heap),vO P ops i (l,H) (put l o.dst v,H1) v→oJ P ops os (tr++[(l,H,v)]) (put l o.dst v) H1 K→
    ∃(T:Nat→List Value×Heap)(val:Nat→Value)(l':List Value)(H':Heap)(ext:List (List Value×Heap×Value)),T 0=(l,H)∧T (o::os).length=(l',H')∧ext.length=(o::os).length∧(∀k,k<(o::os).length→ext[k]? =some ((T k).1,(T k).2,val k))∧
     (∀k,k<(o::os).length→vO P ops (i+k) (T k) (T (k+1)) (val k))∧K (tr++ext) l' H':=by
    intro v H1 hst hop
    obtain⟨T,val,l',H',ext,h0,h1,h2,h3,h4,h5⟩:=a0z os (i+1) hd' _ _ _ hop
    refine⟨fun k=>match k with|0=>(l,H)|k+1=>T k,fun k=>match k with|0=>v|k+1=>val k,l',H',(l,H,v)::ext,rfl,h1,by simp[h2],?_,?_,by simpa using h5⟩
    ·intro k hk
     cases k with
     | zero=>rfl
     | succ k=>simpa using h3 k (by simpa using hk)
    ·intro k hk
     cases k with
     | zero=>simp only[h0];exact hst
     | succ k=>
       have:=h4 k (by simpa using hk)
       rw[show i+(k+1)=i+1+k from by omega]
       exact this
   unfold oJ at h
   split at h
   ·rename_i hw
    obtain⟨v,H1,h1,h2⟩:=a0h h
    exact key v H1 ⟨o,ho,rfl,.inl ⟨hw,h1⟩⟩ h2
   ·rename_i hw
    exact key undef H ⟨o,ho,rfl,.inr ⟨by simpa using hw,rfl,rfl⟩⟩ h
def b7l(P:Program)(ops:Array Oper)(tr:List (List Value×Heap×Value))(H1:Heap)(i m:Nat):Prop:=
 match ops[i]?,tr[i]? with
 | some o,some (l,_,v)=>Region.wanted o (jE ops l)=true→mD P o l (match tr[m]? with|some y=>y.2.1|none=>H1) fun v' _=>v'=v
 | _,_=>False
def a1a(o:Oper):Bool:=match o.op with|.call c=>(match c.callee with|.value _=>false|_=>true)|_=>true
def a1J(ops:Array Oper)(tab:List (Nat×Nat)):Bool:=tab.all fun x=>match ops[x.1]? with|some o=>a1a o|none=>false
theorem b7X{o:Oper}{l:List Value}{K:Value→Heap→Prop}(hn:a1a o=true)(h:mD P o l H K):∃v H1,opD P o l H=some (v,H1)∧K v H1:=by
 obtain⟨v,H1,h1,h2⟩:=a0h h
 refine⟨v,H1,h1.opD fun c f hc hf=> ?_,h2⟩
 simp[a1a,hc,hf]at hn
theorem Wp.cG(kJ:P.follows .mixedOrders=true){id:Nat}{ops:Array Oper}{l:List Value}{Q:nA}(tab:List (Nat×Nat))(htab:nB P ops=some tab)(hn:a1J ops tab=true)
 (h:oJ P ops ops.toList [] l H fun tr l1 H1=>Q .normal l1 H1∧∀x∈tab,b7l P ops tr H1 x.1 x.2):Wp P (.region id ops true) l H Q:=by
 obtain⟨T,val,l',H',ext,h0,h1,h2,h3,h4,h5,h6⟩:=a0z ops.toList 0 rfl [] l H h
 have hlen:ops.toList.length=ops.size:=by simp
 rw[hlen]at h1 h2 h3 h4
 have:=Sim.draw kJ (id:=id) htab (T:=T) (val:=val) ⟨fun k hk=>by simpa using h4 k hk⟩ fun i m o hm ho hw=>by
  have hr:=h6 (i,m) hm
  have hi:i<ops.size:=(dz.1 ho).1
  unfold b7l at hr
  simp only[fF]at hr
  rw[ho,h3 i hi]at hr
  have hr:=hr hw
  have hno:a1a o=true:=by
   unfold a1J at hn
   have:=dJ.1 hn (i,m) hm
   simpa [ho]using this
  have hTm:(match ext[m]? with|some y=>y.2.1|none=>H')=(T m).2∨ops.size<m:=by
   by_cases hm2:m<ops.size
   ·left;rw[h3 m hm2]
   ·by_cases hm3:m=ops.size
    ·left
     rw[eZ (by omega),hm3,h1]
    ·right;omega
  rcases hTm with hTm|hTm
  ·rw[hTm]at hr
   obtain⟨v,H2,h7,h8⟩:=b7X hno hr
   exact⟨H2,by rw[h7,h8]⟩
  ·exfalso
   obtain⟨fl,D,rfl⟩:=qG htab
   have:=a5M hm
   omega
 rw[h0,h1]at this
 exact⟨_,_,_,this,h5⟩
theorem b6j{c:Code}{l l':List Value}{Q:nA}(h:l=l'):Wp P c l H Q=Wp P c l' H Q:=by rw[h]
attribute [congr] b6j
theorem a2H(id:Nat)(Q:nA)(l:List Value):a0a id Q .normal l H=Q .normal l H:=rfl
theorem a9f(id:Nat)(Q:nA)(l:List Value):a0a id Q .ret l H=Q .ret l H:=rfl
theorem a5I(id i:Nat)(Q:nA)(l:List Value):a0a id Q (.exit i) l H=if i=id then Q .normal l H else Q (.exit i) l H:=by
 simp only[a0a,Ex.out]
 split<;>rfl
def a1R(I:Nat→List Value→Heap→Prop)(n:Nat)(Q:nA):nA:=fun e l1 H1=>match e with|.normal=>∃m,m<n∧I m l1 H1|e=>Q e l1 H1
theorem a2M(I:Nat→List Value→Heap→Prop)(n:Nat)(Q:nA)(l:List Value):a1R I n Q .normal l H=∃m,m<n∧I m l H:=rfl
theorem a7M(I:Nat→List Value→Heap→Prop)(n:Nat)(Q:nA)(i:Nat)(l:List Value):a1R I n Q (.exit i) l H=Q (.exit i) l H:=rfl
theorem a9E(I:Nat→List Value→Heap→Prop)(n:Nat)(Q:nA)(l:List Value):a1R I n Q .ret l H=Q .ret l H:=rfl
theorem Wp.cut{c:Code}{l:List Value}{Q:nA}(M:nA)(h:Wp P c l H M)(hm:∀e l H,M e l H→Q e l H):Wp P c l H Q:=h.mono hm
theorem b4U(l:List Value)(k t:Nat)(v:Value):get (put l (some k) v) t=if k=t then(if k<l.length then v else get l t)else get l t:=by
 rw[b0x]
 by_cases h:k=t
 ·subst h;simp
 ·simp[h]
theorem a6k(l:List Value)(k:Nat)(v:Value):(put l (some k) v).length=l.length:=a1j l _ v
def pG(v:Value)(p q:Prop)(_k1:Keep p:=⟨⟩)(_k2:Keep q:=⟨⟩):Prop:=match v with|.bool c=>if c=true then p else q|_=>False
theorem a5P{v v':Value}{p q:Prop}(h:v=v'):pG v p q=pG v' p q:=by rw[h]
attribute [congr] a5P
theorem a8P(p q:Prop):pG (.bool true) p q=p:=rfl
theorem a5E(p q:Prop):pG (.bool false) p q=q:=rfl
theorem iF{c:Prop}[Decidable c]{p q:Prop}(h1:c→p)(h2:¬c→q):pG (.bool (decide c)) p q:=by
 by_cases h:c
 ·simp only[pG,h,decide_true,if_true];exact h1 h
 ·simp only[pG,h,decide_false,ef,if_false];exact h2 h
theorem jD{c:Bool}{p q:Prop}(h1:c=true→p)(h2:c=false→q):pG (.bool c) p q:=by
 cases c
 ·exact h2 rfl
 ·exact h1 rfl
theorem Wp.cH{t:Tmp}{x y:Code}{l:List Value}{Q:nA}(h:pG (get l t) (Wp P x l H Q) (Wp P y l H Q)):Wp P (.cond (.tmp t) x y) l H Q:=by
 unfold pG at h
 split at h
 ·rename_i c hc
  refine Wp.cond c hc rfl ?_
  cases c
  ·simpa using h
  ·simpa using h
 ·exact h.elim
theorem Wp.reg{id:Nat}{os:List Oper}{l:List Value}{Q:nA}(h:rD P os.toArray os l H fun l H=>Q .normal l H):Wp P (.region id os.toArray false) l H Q:=.region h
theorem Wp.drw(kJ:P.follows .mixedOrders=true){id:Nat}{os:List Oper}{l:List Value}{Q:nA}(htab:nB P os.toArray=some [])(h:rD P os.toArray os l H fun l H=>Q .normal l H):Wp P (.region id os.toArray true) l H Q:=
 .draw kJ htab h
def a3Z(f:Nat→Nat→Prop):List (Nat×Nat)→Prop
 | []=>True
 | (i,m)::r=>f i m∧a3Z f r
theorem b3g(f:Nat→Nat→Prop):a3Z f []=True:=rfl
theorem a9Q(f:Nat→Nat→Prop)(i m:Nat)(r:List (Nat×Nat)):a3Z f ((i,m)::r)=(f i m∧a3Z f r):=rfl
theorem a3R{f:Nat→Nat→Prop}:∀{tab:List (Nat×Nat)},a3Z f tab→∀x∈tab,f x.1 x.2
 | [],_,x,hx=>by cases hx
 | (i,m)::r,h,x,hx=>by
   rcases ej.1 hx with rfl|hx
   ·exact h.1
   ·exact a3R h.2 x hx
def trH(y:Option (List Value×Heap×Value))(H1:Heap):Heap:=match y with|some y=>y.2.1|none=>H1
theorem b7h(l:List Value)(H:Heap)(v:Value)(H1:Heap):trH (some (l,H,v)) H1=H:=rfl
theorem b5z(H1:Heap):trH none H1=H1:=rfl
def rdW(P:Program)(ops:Array Oper)(o:Option Oper)(t:Option (List Value×Heap×Value))(H:Heap):Prop:=
 match o,t with
 | some o,some (l,_,v)=>Region.wanted o (jE ops l)=true→mD P o l H fun v' _=>v'=v
 | _,_=>False
theorem b9x(os:List Oper)(tr:List (List Value×Heap×Value))(H1:Heap)(i m:Nat):b7l P os.toArray tr H1 i m=rdW P os.toArray os[i]? tr[i]? (trH tr[m]? H1):=by
 simp[b7l,rdW,trH]
theorem b3L(ops:Array Oper)(d op ty pos af)(l:List Value)(H':Heap)(v:Value):rdW P ops (some ⟨d,op,ty,pos,af,none⟩) (some (l,H',v)) H=mD P ⟨d,op,ty,pos,af,none⟩ l H fun v' _=>v'=v:=by
 simp[rdW,Region.wanted]
theorem Wp.aL(kJ:P.follows .mixedOrders=true){id:Nat}{os:List Oper}{l:List Value}{Q:nA}(tab:List (Nat×Nat))(htab:nB P os.toArray=some tab)(hn:a1J os.toArray tab=true)
 (h:oJ P os.toArray os [] l H fun tr l1 H1=>Q .normal l1 H1∧a3Z (b7l P os.toArray tr H1) tab):Wp P (.region id os.toArray true) l H Q:=by
 refine .cG kJ tab htab hn ?_
 have key:∀(os':List Oper)(tr)(l:List Value)(H:Heap)(K K':List (List Value×Heap×Value)→List Value→Heap→Prop),(∀tr l H,K tr l H→K' tr l H)→oJ P os.toArray os' tr l H K→oJ P os.toArray os' tr l H K':=by
  intro os'
  induction os' with
  | nil=>intro tr l H K K' hk h;exact hk _ _ _ h
  | cons o os' ih=>
    intro tr l H K K' hk h
    unfold oJ at h ⊢
    split
    ·rename_i hw
     rw[if_pos hw]at h
     have mono:∀{K1 K2:Value→Heap→Prop},(∀v H1,K1 v H1→K2 v H1)→mD P o l H K1→mD P o l H K2:=by
      intro K1 K2 hk12 h1
      obtain⟨h2,h3⟩:=h1
      refine⟨h2,?_⟩
      have bw:∀r,jZ r K1→jZ r K2:=fun r hr=>by
       cases r with
       | none=>exact hr
       | some r=>exact hk12 _ _ hr
      split at h3
      ·exact hk12 _ _ h3
      ·exact hk12 _ _ h3
      ·split at h3
       ·unfold rV at h3 ⊢
        split at h3
        ·obtain⟨v,H1,a,b,c⟩:=h3;exact⟨v,H1,a,b,hk12 _ _ c⟩
        ·obtain⟨v,H1,a,b⟩:=h3;exact⟨v,H1,a,hk12 _ _ b⟩
        ·exact h3
       ·exact bw _ h3
      ·exact bw _ h3
     exact mono (fun v H1 h=>ih _ _ _ _ _ hk h) h
    ·rename_i hw
     rw[if_neg hw]at h
     exact ih _ _ _ _ _ hk h
 exact key _ _ _ _ _ _ (fun tr l1 H1 h=>⟨h.1,a3R h.2⟩) h
theorem Wp.cI{c:Code}{Q:nA}(I:Nat→List Value→Heap→Prop){l:List Value}(n:Nat)(h:I n l H)(step:∀n l H,I n l H→Wp P c l H (a1R I n Q)):Wp P (.loop c) l H Q:=Wp.loop I step n h
end
end Go.Ds
namespace Go.Ds
noncomputable section
structure Base where
 H:Heap
 X:Nat→Prop
instance:Coe Heap Base:=⟨fun H=>⟨H,fun _=>False⟩⟩
variable {P:Program} {H0:Base} {H:Heap}
structure Ob where
 v:Value
 size:Nat
 cs:List Value
def jY:Value→Option Nat
 | .slice (some a) _ _=>some a.block
 | .pointer (some a)=>some a.block
 | .map (some A)=>some A
 | _=>none
def mcs(es:List MapEntry):List Value:=es.flatMap fun e=>[e.key,e.val]
abbrev ptr(A off n:Nat):Value:=.pointer (some ⟨A,off,some n⟩)
def RdAt(H:Heap)(v:Value)(size:Nat)(cs:List Value):Prop:=
 (v=.slice none 0 0∧cs=[])∨∃A i e row ty rw lo ver n,iT H A=some (.cells row ty rw lo ver)∧lo≤e∧e≤row.length∧i+cs.length≤e∧(row.drop i).take cs.length=cs∧
   cs.length=n*size∧v=.slice (some ⟨A,i,some e⟩) n size
def Stamps(es:List MapEntry)(ck:Nat):Prop:=(es.map (·.born)).Pairwise (·<·)∧∀e∈es,e.born<ck
theorem Stamps.nil(ck:Nat):Stamps [] ck:=⟨.nil,by simp⟩
theorem Stamps.push{es:List MapEntry}{ck:Nat}(h:Stamps es ck)(e:MapEntry)(he:e.born=ck):Stamps (es++[e]) (ck+1):=by
 refine⟨?_,fun x hx=> ?_⟩
 ·rw[dN,eV]
  refine⟨h.1,by simp,fun a ha b hb=> ?_⟩
  obtain⟨x,hx,rfl⟩:=dE.1 ha
  simp only[dY,fN,dM]at hb
  have:=h.2 x hx
  omega
 ·rcases dP.1 hx with hx|hx
  ·have:=h.2 x hx;omega
  ·rw[dM.1 hx];omega
theorem Stamps.set{es:List MapEntry}{ck:Nat}(h:Stamps es ck){j:Nat}{e:MapEntry}(hj:es[j]? =some e)(e':MapEntry)(he:e'.born=e.born):Stamps (es.set j e') ck:=by
 have hb:(es.set j e').map (·.born)=es.map (·.born):=by
  rw[List.map_set,he]
  apply gF
  intro i
  rw[ic]
  split
  ·rename_i hij
   subst hij
   obtain⟨hlt,hg⟩:=dy.1 hj
   simp[hlt,hg]
  ·rfl
 refine⟨by rw[hb];exact h.1,fun x hx=> ?_⟩
 have:x.born∈(es.set j e').map (·.born):=gx hx
 rw[hb]at this
 obtain⟨y,hy,hxy⟩:=dE.1 this
 rw[←hxy]
 exact h.2 y hy
theorem Stamps.idx{es:List MapEntry}{ck:Nat}(h:Stamps es ck){j:Nat}{e:MapEntry}(hj:es[j]? =some e):es.findIdx? (fun x=>(x.born:Int)==(e.born:Int))=some j:=by
 obtain⟨hlt,hg⟩:=dy.1 hj
 rw[List.findIdx?_eq_some_iff_getElem]
 refine⟨hlt,by rw[hg];simp,fun i hi=> ?_⟩
 have h1:=(eK.1 h.1) i j (by simpa using(by omega:i<es.length)) (by simpa using hlt) hi
 simp only[List.getElem_map]at h1
 rw[hg]at h1
 simp only[beq_iff_eq,Int.natCast_inj]
 exact Nat.ne_of_lt h1
def OwnAt(P:Program)(H:Heap)(o:Ob):Prop:=
 if o.size=0 then(∃A ty lo ver,iT H A=some (.cells o.cs ty true lo ver)∧lo≤o.cs.length∧o.v=ptr A 0 o.cs.length)∨∃A es ck ver,iT H A=some (.map es ck ver)∧o.cs=mcs es∧o.v=.map (some A)∧Stamps es ck
 else(o.v=.slice none 0 0∧o.cs=[])∨∃A i ty lo ver pre n,iT H A=some (.cells (pre++o.cs) ty true lo ver)∧lo≤i+o.cs.length∧pre.length=i∧o.cs.length=n*o.size∧
  o.v=.slice (some ⟨A,i,some (i+o.cs.length)⟩) n o.size∧iJ P ty=some o.size
structure St(P:Program)(H0:Base)(H:Heap)(os:List Ob):Prop where
 len:H0.H.length≤H.length
 old:∀B,B<H0.H.length→¬H0.X B→iT H B=iT H0.H B
 own:∀o∈os,OwnAt P H o
 new:∀o∈os,∀B,jY o.v=some B→H0.H.length≤B∨H0.X B
 sep:os.Pairwise fun o o'=>∀B,jY o.v=some B→jY o'.v≠some B
theorem St.refl(P:Program)(H:Heap):St P H H []:=⟨dm _,fun _ _ _=>rfl,by simp,by simp,.nil⟩
theorem RdAt.ag{H':Heap}{v:Value}{size:Nat}{cs:List Value}(h:RdAt H v size cs)(hk:∀B,B<H.length→iT H' B=iT H B):RdAt H' v size cs:=by
 rcases h with h|⟨A,i,e,row,ty,rw,lo,ver,n,h,h2⟩
 ·exact .inl h
 ·exact .inr ⟨A,i,e,row,ty,rw,lo,ver,n,by rw[hk A (jP h),h],h2⟩
theorem St.ag{H0:Heap}{os:List Ob}(h:St P H0 H os):∀B,B<H0.length→iT H B=iT H0 B:=fun B hB=>h.old B hB (fun h=>h)
theorem St.base{H0:Heap}{os:List Ob}(h:St P H0 H os){v:Value}{size:Nat}{cs:List Value}(hr:RdAt H0 v size cs):RdAt H v size cs:=hr.ag h.ag
theorem OwnAt.lt{o:Ob}(h:OwnAt P H o){B:Nat}(hb:jY o.v=some B):B<H.length:=by
 unfold OwnAt at h
 split at h
 ·rcases h with⟨A,ty,lo,ver,h1,_,h3⟩|⟨A,es,ck,ver,h1,_,h3,_⟩
  ·rw[h3]at hb
   simp[jY]at hb
   exact hb▸jP h1
  ·rw[h3]at hb
   simp[jY]at hb
   exact hb▸jP h1
 ·rcases h with⟨h1,_⟩|⟨A,i,ty,lo,ver,pre,n,h1,_,_,_,h5,_⟩
  ·rw[h1]at hb;simp[jY]at hb
  ·rw[h5]at hb
   simp[jY]at hb
   exact hb▸jP h1
theorem OwnAt.ag{H':Heap}{o:Ob}(h:OwnAt P H o)(hk:∀B,jY o.v=some B→iT H' B=iT H B):OwnAt P H' o:=by
 unfold OwnAt at h ⊢
 split at h
 ·rename_i hz
  rw[if_pos hz]
  rcases h with⟨A,ty,lo,ver,h1,h2,h3⟩|⟨A,es,ck,ver,h1,h2,h3⟩
  ·exact .inl ⟨A,ty,lo,ver,by rw[hk A (by rw[h3];rfl),h1],h2,h3⟩
  ·exact .inr ⟨A,es,ck,ver,by rw[hk A (by rw[h3.1];rfl),h1],h2,h3⟩
 ·rename_i hz
  rw[if_neg hz]
  rcases h with h|⟨A,i,ty,lo,ver,pre,n,h1,h2,h3,h4,h5,h6⟩
  ·exact .inl h
  ·exact .inr ⟨A,i,ty,lo,ver,pre,n,by rw[hk A (by rw[h5];rfl),h1],h2,h3,h4,h5,h6⟩
theorem OwnAt.rd{o:Ob}(h:OwnAt P H o)(hz:o.size≠0):RdAt H o.v o.size o.cs:=by
 unfold OwnAt at h
 rw[if_neg hz]at h
 rcases h with h|⟨A,i,ty,lo,ver,pre,n,h1,h2,h3,h4,h5,h6⟩
 ·exact .inl h
 ·refine .inr ⟨A,i,_,_,ty,true,lo,ver,n,h1,h2,by simp[h3],dm _,?_,h4,h5⟩
  rw[←h3];simp
theorem St.rd{os:List Ob}(h:St P H0 H os)(i:Nat){v:Value}{size:Nat}{cs:List Value}(ho:os[i]? =some ⟨v,size+1,cs⟩):RdAt H v (size+1) cs:=
 (h.own _ (dB ho)).rd (eM _)
def jB(P:Program)(t:TypeId):Option Nat:=(iL P t).bind (iJ P)
def iY(P:Program)(s:TypeId)(f:Nat):Option Nat:=(oK P s f).bind fun fd=>(iJ P fd.type).bind fun n=>if n==0 then none else some fd.offset
def a6t(o:Option Nat)(P:Program)(H:Heap)(t:TypeId)(v:Value):Option Value:=match o with
 | some _=>(match v with|.slice _ n _=>some (.int .i64 n)|_=>none)
 | none=>a0d P H t v
theorem b8j(t:TypeId)(v:Value):a0d P H t v=a6t (jB P t) P H t v:=by
 unfold a6t
 split
 ·rename_i n hn
  unfold jB iL at hn
  unfold a0d
  split at hn
  ·rename_i e he
   rw[he]
   cases v<;>simp[wT,goInt]
  ·cases hn
 ·rfl
def wG(o:Option Nat)(P:Program)(t:TypeId)(v i:Value):Option Value:=match o with
 | some s=>(match v,i with|.slice (some ⟨A,i,some e⟩) n _,.int _ j=>if 0≤j&&j<n then some (ptr A (i+j.toNat*s) e)else none|_,_=>none)
 | none=>a1n P t v i
theorem b8x(t:TypeId)(v i:Value):a1n P t v i=wG (jB P t) P t v i:=by
 unfold wG
 split
 ·rename_i n hn
  unfold jB iL at hn
  unfold a1n
  split at hn
  ·rename_i e he
   simp only[dh]at hn
   rw[he]
   cases v with
   | slice a m c=>
     cases a with
     | none=>cases i<;>rfl
     | some a=>
       obtain⟨A,i',s⟩:=a
       cases s with
       | none=>cases i<;>rfl
       | some s=>
         cases i with
         | int k j=>simp only[hn,dh]
         | _=>rfl
   | _=>cases i<;>rfl
  ·cases hn
 ·rfl
def a6F(o:Option Nat)(v:Value):Option Value:=match o,v with
 | some d,.pointer (some ⟨A,i,some e⟩)=>some (ptr A (i+d) e)
 | _,_=>none
theorem b7O(s:TypeId)(f:Nat)(v:Value):a6W P s f v=a6F (iY P s f) v:=by
 unfold a6W iY
 split
 ·cases oK P s f with
  | none=>rfl
  | some fd=>
    simp only[dh]
    cases iJ P fd.type with
    | none=>rfl
    | some n=>
      simp only[dh]
      split<;>rfl
 ·rename_i h
  unfold a6F
  split
  ·exact(h _ _ _ rfl).elim
  ·rfl
theorem b3S(d A i e:Nat):a6F (some d) (ptr A i e)=some (ptr A (i+d) e):=rfl
theorem RdAt.len{v:Value}{size:Nat}{cs:List Value}(h:RdAt H v (size+1) cs){n:Nat}(hn:cs.length=n*(size+1))(m:Nat)(t:TypeId):a6t (some m) P H t v=some (.int .i64 n):=by
 have hn':∀m,cs.length=m*(size+1)→m=n:=fun m hm=>eP (fh size) (hm.symm.trans hn)
 rcases h with⟨rfl,rfl⟩|⟨A,i,e,row,ty,rw,lo,ver,m,h1,h2,h3,h4,h5,h6,rfl⟩
 ·have:=hn' 0 (by simp)
  subst this
  rfl
 ·have:=hn' m h6
  subst this
  rfl
theorem RdAt.idx{v:Value}{size:Nat}{cs:List Value}(h:RdAt H v (size+1) cs){n:Nat}(hn:cs.length=n*(size+1))(t:TypeId)(k:IntKind)(j:Int)
 (h0:0≤j) (h1:j<n):wG (some (size+1)) P t v (.int k j)=some (jS v (size+1) j.toNat 0):=by
 have hn':∀m,cs.length=m*(size+1)→m=n:=fun m hm=>eP (fh size) (hm.symm.trans hn)
 rcases h with⟨rfl,rfl⟩|⟨A,i,e,row,ty,rw,lo,ver,m,h2,h3,h4,h5,h6,h7,rfl⟩
 ·have:=hn' 0 (by simp)
  omega
 ·have:=hn' m h7
  subst this
  simp[wG,h0,h1,jS]
theorem RdAt.bp{v:Value}{size:Nat}{cs:List Value}(h:RdAt H v (size+1) cs)(j:Nat)(hj:j*(size+1)<cs.length)(g d:Nat):a6F (some d) (jS v (size+1) j g)=some (jS v (size+1) j (g+d)):=by
 rcases h with⟨rfl,rfl⟩|⟨A,i,e,row,ty,rw,lo,ver,n,h1,h2,h3,h4,h5,h6,rfl⟩
 ·simp at hj
 ·simp[a6F,jS,fZ]
theorem RdAt.get{v:Value}{size:Nat}{cs:List Value}(h:RdAt H v size cs)(j f m:Nat)(hk:j*size+f+m≤cs.length)(hm:0<m):∃A i e,jS v size j f=ptr A i e∧jK H A i e m=some ((cs.drop (j*size+f)).take m):=by
 rcases h with⟨rfl,rfl⟩|⟨A,i,e,row,ty,rw,lo,ver,n,h1,h2,h3,h4,h5,h6,rfl⟩
 ·simp at hk;omega
 ·refine⟨_,_,_,rfl,?_⟩
  simp only[jK,h1]
  rw[if_pos (by simp;omega)]
  congr 1
  conv=>rhs;rw[←h5]
  rw[List.drop_take,List.take_take,fD,gD (by omega)]
  simp[fZ]
theorem RdAt.ld{v:Value}{size:Nat}{cs:List Value}(h:RdAt H v size cs)(s:Option Nat)(j f:Nat)(hk:j*size+f<cs.length):qC (some false) s H (jS v size j f)=cs[j*size+f]?:=by
 obtain⟨A,i,e,h1,h2⟩:=h.get j f 1 hk (by omega)
 rw[h1]
 simp only[qC,h2,dh]
 rw[dR (by omega),dF]
 simp
theorem RdAt.ae{v:Value}{size:Nat}{cs:List Value}(h:RdAt H v size cs)(m j f:Nat)(hk:j*size+f+m≤cs.length)(hm:0<m):qC (some true) (some m) H (jS v size j f)=some (.agg ((cs.drop (j*size+f)).take m).toArray):=by
 obtain⟨A,i,e,h1,h2⟩:=h.get j f m hk hm
 rw[h1]
 simp only[qC,h2,dh,dS]
def Sl1{α:Type}(H:Heap)(v:Value)(mk:α→Value)(xs:List α):Prop:=RdAt H v 1 (xs.map mk)
section
variable {α:Type} {mk:α→Value} {v:Value} {xs:List α}
theorem Sl1.len(h:Sl1 H v mk xs)(m:Nat)(t:TypeId):a6t (some m) P H t v=some (.int .i64 xs.length):=RdAt.len (size:=0) h (by simp) m t
theorem Sl1.idx(h:Sl1 H v mk xs)(t:TypeId)(k:IntKind)(j:Int)(h0:0≤j)(h1:j<xs.length):wG (some 1) P t v (.int k j)=some (jS v 1 j.toNat 0):=RdAt.idx (size:=0) h (by simp) t k j h0 h1
theorem Sl1.ld(h:Sl1 H v mk xs)(d:α)(s:Option Nat)(j:Nat)(hj:j<xs.length):qC (some false) s H (jS v 1 j 0)=some (mk (xs.getD j d)):=by
 rw[RdAt.ld h s j 0 (by simpa using hj)]
 simp[dj,hj]
end
def Sl2{α:Type}(H:Heap)(v:Value)(f g:α→Value)(xs:List α):Prop:=RdAt H v 2 (xs.flatMap fun x=>[f x,g x])
theorem oO{α:Type}(f g:α→Value)(xs:List α):(xs.flatMap fun x=>[f x,g x]).length=xs.length*2:=by
 induction xs with
 | nil=>rfl
 | cons x xs ih=>simp[dL,ih];omega
theorem a1u{α:Type}(f g:α→Value):∀(xs:List α)(j:Nat),(xs.flatMap fun x=>[f x,g x]).drop (j*2)=(xs.drop j).flatMap fun x=>[f x,g x]
 | [],j=>by simp
 | x::xs,0=>rfl
 | x::xs,j+1=>by
   rw[fS]
   simp only[dL,fJ,fF,gy]
   exact a1u f g xs j
section
variable {α:Type} {f g:α→Value} {v:Value} {xs:List α}
theorem Sl2.len(h:Sl2 H v f g xs)(m:Nat)(t:TypeId):a6t (some m) P H t v=some (.int .i64 xs.length):=RdAt.len (size:=1) h (oO f g xs) m t
theorem Sl2.idx(h:Sl2 H v f g xs)(t:TypeId)(k:IntKind)(j:Int)(h0:0≤j)(h1:j<xs.length):wG (some 2) P t v (.int k j)=some (jS v 2 j.toNat 0):=RdAt.idx (size:=1) h (oO f g xs) t k j h0 h1
theorem Sl2.bp(h:Sl2 H v f g xs)(j:Nat)(hj:j<xs.length)(g d:Nat):a6F (some d) (jS v 2 j g)=some (jS v 2 j (g+d)):=RdAt.bp (size:=1) h j (by rw[oO];omega) g d
theorem Sl2.drop(j:Nat)(hj:j<xs.length)(d:α):(xs.flatMap fun x=>[f x,g x]).drop (j*2)=f (xs.getD j d)::g (xs.getD j d)::((xs.drop (j+1)).flatMap fun x=>[f x,g x]):=by
 rw[a1u,fz hj]
 have e:xs.getD j d=xs[j]:=by simp[dj,hj]
 rw[e]
 rfl
theorem Sl2.ld1(h:Sl2 H v f g xs)(d:α)(s:Option Nat)(j:Nat)(hj:j<xs.length):qC (some false) s H (jS v 2 j 1)=some (g (xs.getD j d)):=by
 rw[RdAt.ld h s j 1 (by rw[oO];omega)]
 have:=Sl2.drop (f:=f) (g:=g) j hj d
 have h2:((xs.flatMap fun x=>[f x,g x]).drop (j*2))[1]? =some (g (xs.getD j d)):=by rw[this];rfl
 rwa [dF]at h2
theorem Sl2.ae(h:Sl2 H v f g xs)(d:α)(j:Nat)(hj:j<xs.length):qC (some true) (some 2) H (jS v 2 j 0)=some (.agg #[f (xs.getD j d),g (xs.getD j d)]):=by
 rw[RdAt.ae h 2 j 0 (by rw[oO];omega) (by omega)]
 have:=Sl2.drop (f:=f) (g:=g) j hj d
 rw[gM,this]
 rfl
end
theorem St.cell{os:List Ob}(hS:St P H0 H os)(i:Nat){A n:Nat}{cs:List Value}(ho:os[i]? =some ⟨ptr A 0 n,0,cs⟩):n=cs.length∧∃ty lo ver,iT H A=some (.cells cs ty true lo ver)∧lo≤cs.length:=by
 have:=hS.own _ (dB ho)
 unfold OwnAt at this
 rw[if_pos rfl]at this
 rcases this with this|⟨_,_,_,_,_,_,h,_⟩
 case inr=>cases h
 obtain⟨A',ty,lo,ver,h1,h2,h3⟩:=this
 simp only[ptr,Value.pointer.injEq,dH,iE,true_and]at h3
 obtain⟨rfl,rfl⟩:=h3
 exact⟨rfl,ty,lo,ver,h1,h2⟩
theorem St.ld{os:List Ob}(hS:St P H0 H os)(i:Nat){A n:Nat}{cs:List Value}(ho:os[i]? =some ⟨ptr A 0 n,0,cs⟩)(s:Option Nat)(off:Nat):qC (some false) s H (ptr A off n)=cs[off]?:=by
 obtain⟨rfl,ty,lo,ver,h1,h2⟩:=hS.cell i ho
 simp only[qC,jK,h1]
 by_cases h:off<cs.length
 ·rw[if_pos (by simp;omega)]
  simp only[dh]
  rw[dR (by omega),dF]
  simp
 ·rw[if_neg (by simp;omega),eZ (by omega)]
  rfl
theorem St.ae{os:List Ob}(hS:St P H0 H os)(i:Nat){A n:Nat}{cs:List Value}(ho:os[i]? =some ⟨ptr A 0 n,0,cs⟩)(m off:Nat):qC (some true) (some m) H (ptr A off n)=if off+m≤cs.length then some (.agg ((cs.drop off).take m).toArray)else none:=by
 obtain⟨rfl,ty,lo,ver,h1,h2⟩:=hS.cell i ho
 simp only[qC,jK,h1,dh]
 by_cases h:off+m≤cs.length
 ·rw[if_pos (by simp;omega),if_pos h]
  rfl
 ·rw[if_neg (by simp;omega),if_neg h]
  rfl
theorem St.put{H1:Heap}{os:List Ob}(hS:St P H0 H os)(i:Nat){o o':Ob}(ho:os[i]? =some o)(hown:OwnAt P H1 o')(hlen:H.length≤H1.length)(hk:∀B,B<H.length→jY o.v≠some B→iT H1 B=iT H B)
 (hb:∀B,jY o'.v=some B→jY o.v=some B∨H.length≤B):St P H0 H1 (os.set i o'):=by
 have hi:i<os.length:=(dy.1 ho).1
 have hoi:os[i]=o:=(dy.1 ho).2
 have hpw:=eK.1 hS.sep
 have hne:∀j(hj:j<os.length),j≠i→∀B,jY os[j].v=some B→jY o.v≠some B:=by
  intro j hj hji B hB hB2
  rcases gZ hji with h|h
  ·exact hpw j i hj hi h B hB (hoi▸hB2)
  ·exact hpw i j hi hj h B (hoi▸hB2) hB
 have ho0:∀B,jY o.v=some B→H0.H.length≤B∨H0.X B:=hS.new o (dB ho)
 refine⟨dK hS.len hlen,?_,?_,?_,?_⟩
 ·intro B hB hX
  rw[hk B (dV hB hS.len) (fun h=>by
   rcases ho0 B h with h|h
   ·omega
   ·exact hX h),hS.old B hB hX]
 ·intro x hx
  rw[ek]at hx
  obtain⟨j,hj,rfl⟩:=hx
  rw[List.length_set]at hj
  rw[iC]
  split
  ·exact hown
  ·rename_i hij
   have hox:OwnAt P H os[j]:=hS.own _ (ga hj)
   exact hox.ag fun B hB=>hk B (hox.lt hB) (hne j hj (fun h=>hij h.symm) B hB)
 ·intro x hx B hB
  rw[ek]at hx
  obtain⟨j,hj,rfl⟩:=hx
  rw[List.length_set]at hj
  rw[iC]at hB
  split at hB
  ·rcases hb B hB with h|h
   ·exact ho0 B h
   ·exact .inl (dK hS.len h)
  ·exact hS.new _ (ga hj) B hB
 ·rw[eK]
  intro j k hj hk' hjk B
  rw[List.length_set]at hj hk'
  rw[iC,iC]
  have hlt:∀j(hj:j<os.length)B,jY os[j].v=some B→B<H.length:=fun j hj B hB=>(hS.own _ (ga hj)).lt hB
  split
  ·rename_i hij
   split
   ·omega
   ·intro h1 h2
    rcases hb B h1 with h|h
    ·exact hne k hk' (by omega) B h2 h
    ·have:=hlt k hk' B h2;omega
  ·rename_i hij
   split
   ·intro h1 h2
    rcases hb B h2 with h|h
    ·exact hne j hj (by omega) B h1 h
    ·have:=hlt j hj B h1;omega
   ·exact hpw j k hj hk' hjk B
theorem St.add{H1:Heap}{os:List Ob}(hS:St P H0 H os){o:Ob}(hown:OwnAt P H1 o)(hlen:H.length≤H1.length)(hk:∀B,B<H.length→iT H1 B=iT H B)(hb:∀B,jY o.v=some B→H.length≤B):St P H0 H1 (os++[o]):=by
 refine⟨dK hS.len hlen,fun B hB hX=>by rw[hk B (dV hB hS.len),hS.old B hB hX],?_,?_,?_⟩
 ·intro x hx
  rcases dP.1 hx with hx|hx
  ·exact(hS.own x hx).ag fun B hB=>hk B ((hS.own x hx).lt hB)
  ·obtain rfl:=dM.1 hx
   exact hown
 ·intro x hx B hB
  rcases dP.1 hx with hx|hx
  ·exact hS.new x hx B hB
  ·obtain rfl:=dM.1 hx
   exact .inl (dK hS.len (hb B hB))
 ·rw[eV]
  refine⟨hS.sep,List.pairwise_singleton _ _,fun x hx y hy B h1 h2=> ?_⟩
  obtain rfl:=dM.1 hy
  have:=(hS.own x hx).lt h1
  have:=hb B h2
  omega
theorem St.trans{H1:Heap}{os os1:List Ob}(hS:St P H0 H os)(h1:St P H H1 os1):St P H0 H1 (os++os1):=by
 refine⟨dK hS.len h1.len,fun B hB hX=>by rw[h1.ag B (dV hB hS.len),hS.old B hB hX],?_,?_,?_⟩
 ·intro x hx
  rcases dP.1 hx with hx|hx
  ·exact(hS.own x hx).ag fun B hB=>h1.ag B ((hS.own x hx).lt hB)
  ·exact h1.own x hx
 ·intro x hx B hB
  rcases dP.1 hx with hx|hx
  ·exact hS.new x hx B hB
  ·rcases h1.new x hx B hB with h|h
   ·exact .inl (dK hS.len h)
   ·exact h.elim
 ·rw[eV]
  refine⟨hS.sep,h1.sep,fun x hx y hy B e1 e2=> ?_⟩
  have:=(hS.own x hx).lt e1
  rcases h1.new y hy B e2 with h|h
  ·have h:H.length≤B:=h
   omega
  ·exact h.elim
def qY(os:List Ob):Nat→Prop:=fun A=>∃o∈os,jY o.v=some A
theorem St.aO{os:List Ob}(hS:St P H0 H os):St P ⟨H,qY os⟩ H os:=
 ⟨dm _,fun _ _ _=>rfl,hS.own,fun o ho B hB=>.inr ⟨o,ho,hB⟩,hS.sep⟩
theorem St.bC{H1:Heap}{os os1:List Ob}(hS:St P H0 H os)(h1:St P ⟨H,qY os⟩ H1 os1):St P H0 H1 os1:=by
 refine⟨dK hS.len h1.len,?_,h1.own,?_,h1.sep⟩
 ·intro B hB hX
  rw[h1.old B (dV hB hS.len) ?_,hS.old B hB hX]
  rintro⟨o,ho,hb⟩
  rcases hS.new o ho B hb with h|h
  ·omega
  ·exact hX h
 ·intro o ho B hB
  rcases h1.new o ho B hB with h|⟨o',ho',hb⟩
  ·exact .inl (dK hS.len h)
  ·exact hS.new o' ho' B hb
theorem St.other{H1:Heap}{os os1:List Ob}(h1:St P ⟨H,qY os⟩ H1 os1){L:Nat}(hL:L<H.length)(hn:∀o∈os,jY o.v≠some L):iT H1 L=iT H L:=
 h1.old L hL fun⟨o,ho,hb⟩=>hn o ho hb
theorem St.sub{os os':List Ob}(hS:St P H0 H os)(h:os'.Sublist os):St P H0 H os':=
 ⟨hS.len,hS.old,fun o ho=>hS.own o (h.subset ho),fun o ho=>hS.new o (h.subset ho),hS.sep.sublist h⟩
theorem St.forget{os:List Ob}(hS:St P H0 H os):St P H0 H []:=hS.sub (List.nil_sublist _)
theorem OwnAt.nil(size:Nat):OwnAt P H ⟨.slice none 0 0,size+1,[]⟩:=by
 unfold OwnAt
 rw[if_neg (eM _)]
 exact .inl ⟨rfl,rfl⟩
theorem St.nil{os:List Ob}(hS:St P H0 H os)(size:Nat):St P H0 H (os++[⟨.slice none 0 0,size+1,[]⟩]):=
 hS.add (.nil size) (dm _) (fun _ _=>rfl) (fun B hB=>by simp[jY]at hB)
end
end Go.Ds
namespace Go.Ds
noncomputable section
variable {P:Program} {H0:Base} {H:Heap} {os:List Ob}
theorem kR:∀(vs cs:List Value)(i:Nat),(jC cs i vs).length=cs.length
 | [],_,_=>rfl
 | v::vs,cs,i=>by rw[jC,kR vs,nD,List.length_set]
theorem qU:∀(vs pre cs:List Value)(i:Nat),jC (pre++cs) (pre.length+i) vs=pre++jC cs i vs
 | [],_,_,_=>rfl
 | v::vs,pre,cs,i=>by
   rw[jC,jC,nD,nD,fb _ _ (by omega),eR,fZ]
   exact qU vs pre _ _
theorem qJ(cs:List Value)(i:Nat)(v:Value)(vs:List Value):jC cs i (v::vs)=jC (cs.set i v) (i+1) vs:=by rw[jC,nD]
theorem uI(cs:List Value)(i:Nat):jC cs i []=cs:=rfl
theorem pM{A B:Nat}{b:Blk}(h:A≠B):iT (hset H A b) B=iT H B:=jA b h
theorem St.eNew(hS:St P H0 H os){t:TypeId}{v:Value}(n:Nat)(cs:List Value){K:Value→Heap→Prop}(hc:v.cells.toList=cs)(hn:cs.length=n)(h1:cs.all oneCell=true)(hs:iJ P t=some n)
 (h:∀A H1,St P H0 H1 (os++[⟨ptr A 0 n,0,cs⟩])→K (ptr A 0 n) H1):a4Q P H t v K:=by
 subst hn
 refine⟨ptr H.length 0 cs.length,H.cons (.cells cs t true cs.length 0),?_,h _ _ (hS.add ?_ ?_ ?_ ?_)⟩
 ·simp only[wY,hc,h1,hs,BEq.rfl,Bool.and_self,if_true,lL]
 ·unfold OwnAt
  rw[if_pos rfl]
  exact .inl ⟨_,t,_,0,iQ H _,dm _,rfl⟩
 ·simp[pD]
 ·exact fun B hB=>jU _ hB
 ·intro B hB
  simp[jY]at hB
  omega
theorem St.aa(hS:St P H0 H os)(i:Nat){A n:Nat}{cs:List Value}(ho:os[i]? =some ⟨ptr A 0 n,0,cs⟩){off:Nat}{t:TypeId}{v:Value}{K:Heap→Prop}(vs:List Value)(hc:v.cells.toList=vs)(h1:vs.all oneCell=true)
 (hs:iJ P t=some vs.length) (hoff:off+vs.length≤cs.length) (h:∀H1,St P H0 H1 (os.set i ⟨ptr A 0 n,0,jC cs off vs⟩)→K H1):zT P H t (ptr A off n) v K:=by
 obtain⟨rfl,ty,lo,ver,h2,h3⟩:=hS.cell i ho
 refine⟨hset H A (.cells (jC cs off vs) ty true cs.length ver),?_,h _ (hS.put i ho ?_ ?_ ?_ ?_)⟩
 ·simp only[qO,h2,hc]
  rw[if_pos ⟨hs,h1,by trivial,hoff,h3⟩]
 ·unfold OwnAt
  rw[if_pos rfl]
  refine .inl ⟨A,ty,_,_,iU _ (jP h2),?_,?_⟩
  ·simp[kR]
  ·simp[kR]
 ·rw[jR];exact dm _
 ·intro B hB hne
  refine pM fun hh=>hne ?_
  simp[jY,hh]
 ·intro B hB
  exact .inl hB
theorem St.bm(hS:St P H0 H os)(i:Nat){s:Value}{size:Nat}{cs:List Value}(ho:os[i]? =some ⟨s,size+1,cs⟩){j f:Nat}{t:TypeId}{v:Value}{K:Heap→Prop}(vs:List Value)(hc:v.cells.toList=vs)(h1:vs.all oneCell=true)
 (hs:iJ P t=some vs.length) (h0:0<vs.length) (hoff:j*(size+1)+f+vs.length≤cs.length) (h:∀H1,St P H0 H1 (os.set i ⟨s,size+1,jC cs (j*(size+1)+f) vs⟩)→K H1):zT P H t (jS s (size+1) j f) v K:=by
 have hown:=hS.own _ (dB ho)
 unfold OwnAt at hown
 rw[if_neg (eM _)]at hown
 rcases hown with⟨h2,h3⟩|⟨A,k,ty,lo,ver,pre,n,h2,h3,h4,h5,h6,h7⟩
 ·simp only at h3;subst h3;simp only[dZ]at hoff;omega
 ·simp only at h2 h3 h5 h6
  refine⟨hset H A (.cells (jC (pre++cs) (k+j*(size+1)+f) vs) ty true (pre++cs).length ver),?_,h _ (hS.put i ho ?_ ?_ ?_ ?_)⟩
  ·simp only[qO,jS,h6,h2,hc]
   rw[if_pos ⟨hs,h1,by simp[h4],by omega,h3⟩]
  ·unfold OwnAt
   rw[if_neg (eM _)]
   refine .inr ⟨A,k,ty,(pre++cs).length,ver,pre,n,?_,?_,h4,?_,?_,h7⟩
   ·rw[iU _ (jP h2),←h4,fZ,qU]
   ·simp[kR,h4]
   ·simp only[kR];exact h5
   ·simp only[kR];exact h6
  ·rw[jR];exact dm _
  ·intro B hB hne
   refine pM fun hh=>hne ?_
   simp[jY,h6,hh]
  ·intro B hB
   exact .inl hB
def nF(P:Program)(t:TypeId):Option (Nat×Nat):=
 (iL P t).bind fun elem=>(iJ P elem).bind fun size=>(nQ P elem).bind fun bytes=>(jG P elem).bind fun z=>if z.cells.size==size then some (size,bytes)else none
theorem RdAt.src{x:Value}{size:Nat}{ys:List Value}(h:RdAt H x (size+1) ys):∃n,ys.length=n*(size+1)∧zN H (size+1) x=some (n,ys):=by
 rcases h with⟨rfl,rfl⟩|⟨A,i,e,row,ty,rw,lo,ver,n,h1,h2,h3,h4,h5,h6,rfl⟩
 ·exact⟨0,by simp,rfl⟩
 ·refine⟨n,h6,?_⟩
  simp only[zN,jK,h1]
  rw[←h6,if_pos (by simp;omega),h5]
  rfl
theorem St.av(hS:St P H0 H os)(i:Nat){s:Value}{size:Nat}{cs:List Value}(ho:os[i]? =some ⟨s,size+1,cs⟩){x:Value}{ys:List Value}(hx:RdAt H x (size+1) ys){t:TypeId}{bytes:Nat}{K:Value→Heap→Prop}
 (ha:nF P t=some (size+1,bytes)) (hroom:(cs.length+ys.length)*(bytes+1)≤17592186044416) (h:∀v H1,St P H0 H1 (os.set i ⟨v,size+1,cs++ys⟩)→K v H1):xD P H t s x K:=by
 unfold nF at ha
 cases he:iL P t with
 | none=>rw[he]at ha;cases ha
 | some elem=>
 rw[he]at ha
 simp only[dh]at ha
 cases hsz:iJ P elem with
 | none=>rw[hsz]at ha;cases ha
 | some sz=>
 rw[hsz]at ha
 simp only[dh]at ha
 cases hby:nQ P elem with
 | none=>rw[hby]at ha;cases ha
 | some by'=>
 rw[hby]at ha
 simp only[dh]at ha
 cases hz:jG P elem with
 | none=>rw[hz]at ha;cases ha
 | some z=>
 rw[hz]at ha
 simp only[dh]at ha
 split at ha
 case isFalse=>cases ha
 rename_i hzs
 simp only[dH,gE]at ha
 obtain⟨rfl,rfl⟩:=ha
 obtain⟨n,hn,hsrc⟩:=hx.src
 have hn':n≤ys.length:=by rw[hn];exact gz n (fh size)
 have hown:=hS.own _ (dB ho)
 unfold OwnAt at hown
 rw[if_neg (eM _)]at hown
 rcases hown with⟨h2,h3⟩|⟨A,k,ty,lo,ver,pre,m,h2,h3,h4,h5,h6,h7⟩
 ·simp only at h2 h3
  subst h2 h3
  by_cases h0:n=0
  ·subst h0
   have hys:ys=[]:=fB (by omega)
   subst hys
   refine⟨.slice none 0 0,H,?_,h _ _ ?_⟩
   ·simp only[nL,he,hsz,hby,hz,dh,hsrc]
    simp[hzs,oT]
   ·obtain⟨hi,hoi⟩:=dy.1 ho
    have e:os.set i ⟨.slice none 0 0,size+1,[]++[]⟩=os:=by
     rw[dA,←hoi,gi]
    rw[e]
    exact hS
  ·refine⟨_,H.cons (.cells ys elem true ys.length 0),?_,h (.slice (some ⟨H.length,0,some ys.length⟩) n (size+1)) _ (hS.put i ho ?_ ?_ ?_ ?_)⟩
   ·simp only[nL,he,hsz,hby,hz,dh,hsrc]
    have hr:n*(by'+1)≤oT:=by
     refine dK (dU _ ?_) hroom
     omega
    simp[hzs,hr,h0,lL]
   ·unfold OwnAt
    rw[if_neg (eM _)]
    exact .inr ⟨_,0,elem,_,0,[],n,iQ H _,by simp,rfl,by simpa using hn,by simp,hsz⟩
   ·simp[pD]
   ·exact fun B hB _=>jU _ hB
   ·intro B hB
    simp[jY]at hB
    omega
 ·simp only at h2 h3 h5 h6
  refine⟨_,hset H A (.cells (pre++cs++ys) ty true lo (if ty==elem then ver else 2)),?_,h (.slice (some ⟨A,k,some (k+cs.length+ys.length)⟩) (m+n) (size+1)) _ (hS.put i ho ?_ ?_ ?_ ?_)⟩
  ·have hr:(m+n)*(by'+1)≤oT:=by
    refine dK (dU _ ?_) hroom
    have:m≤cs.length:=by rw[h5];exact gz m (fh size)
    omega
   simp only[nL,he,hsz,hby,hz,dh,hsrc,h6,h2]
   rw[if_pos]
   ·simp[yG]
   ·have h3':lo≤k+m*(size+1):=by rw[←h5];exact h3
    simp[hr,hzs,h7,h4,h3',h5]
  ·unfold OwnAt
   rw[if_neg (eM _)]
   refine .inr ⟨A,k,ty,lo,(if ty==elem then ver else 2),pre,m+n,?_,?_,h4,?_,?_,h7⟩
   ·rw[iU _ (jP h2),ee]
   ·simp;omega
   ·simp[ft,h5,hn]
   ·simp[fZ]
  ·rw[jR];exact dm _
  ·intro B hB hne
   refine pM fun hh=>hne ?_
   simp[jY,h6,hh]
  ·intro B hB
   simp[jY]at hB
   left
   simp[jY,h6,hB]
theorem a2Y(off:Nat):∀(vs:List Value)(k:Nat)(a:Array Value),((vs.zipIdx k).foldl (fun cs(x:Value×Nat)=>cs.setIfInBounds (off+x.2) x.1) a).toList=jC a.toList (off+k) vs
 | [],_,_=>rfl
 | v::vs,k,a=>by
   rw[List.zipIdx_cons,fE,a2Y off vs (k+1),qJ]
   simp[fZ]
theorem lX:∀(vs pre rest:List Value),vs.length≤rest.length→jC (pre++rest) pre.length vs=pre++vs++rest.drop vs.length
 | [],pre,rest,_=>by simp[jC]
 | v::vs,pre,[],h=>by simp at h
 | v::vs,pre,r::rest,h=>by
   rw[qJ,fb _ _ (dm _),iq,gf]
   have:=lX vs (pre++[v]) rest (by simpa using h)
   simp only[ee,fJ,fF,du,dT,dZ,fx]at this
   simpa using this
theorem a3v(size:Nat):∀(ps:List (Nat×Value))(k:Nat)(pre rest:List Value),pre.length=k*size→rest.length=ps.length*size→ps.map (·.1)=List.range' k ps.length→(∀p∈ps,p.2.cells.size=size)→
 Instr.fill (fun i=>some (i*size,size)) (pre++rest).toArray ps=some (pre++ps.flatMap fun p=>p.2.cells.toList).toArray
 | [],k,pre,rest,_,h2,_,_=>by
   have:rest=[]:=fB (by simpa using h2)
   subst this
   simp[Instr.fill]
 | (i,v)::ps,k,pre,rest,h1,h2,h3,h4=>by
   simp only[dY,dT,gO,fi]at h3
   obtain⟨rfl,h3⟩:=h3
   have hv:v.cells.size=size:=h4 (i,v) (eX ..)
   have hrl:v.cells.toList.length≤rest.length:=by
    rw[h2];simp[hv,ft]
   simp only[Instr.fill]
   rw[if_neg (by
    simp only[hv,ne_eq,not_true_eq_false,decide_false,Bool.false_or,fA,du,h1,h2,dT,ft]
    simp)]
   have e:(v.cells.zipIdx.foldl (fun cs x=>cs.setIfInBounds (i*size+x.2) x.1) (pre++rest).toArray)=(pre++v.cells.toList++rest.drop v.cells.toList.length).toArray:=by
    apply Array.toList_inj.1
    rw[←gY,Array.toList_zipIdx,a2Y,gM,←h1,lX _ _ _ hrl]
   have e':(v.cells.zipIdx.foldl (fun cs(c,j)=>cs.setIfInBounds (i*size+j) c) (pre++rest).toArray)=(pre++v.cells.toList++rest.drop v.cells.toList.length).toArray:=e
   rw[e',a3v size ps (i+1) (pre++v.cells.toList) _ (by simp[h1,hv,ft]) (by simp[h2,hv,ft]) h3 (fun p hp=>h4 p (eH _ hp))]
   simp
theorem St.ak(hS:St P H0 H os){t:TypeId}{len:Nat}{ps:List (Nat×Value)}{size bytes:Nat}(cs:List Value){K:Value→Heap→Prop}(ha:nF P t=some (size+1,bytes))(hz:((iL P t).bind (jG P)).any jJ=true)
 (hp:ps.map (·.1)=List.range' 0 ps.length) (hl:len=ps.length) (hsz:∀p∈ps,p.2.cells.size=size+1) (hcs:ps.flatMap (fun p=>p.2.cells.toList)=cs) (h1:cs.all oneCell=true) (h0:len*(size+1)≤16777216) (hne:len≠0)
 (h:∀v H1,St P H0 H1 (os++[⟨v,size+1,cs⟩])→K v H1):rS P H t len ps K:=by
 subst hl
 unfold nF at ha
 cases he:iL P t with
 | none=>rw[he]at ha;cases ha
 | some elem=>
 rw[he]at ha hz
 simp only[dh]at ha hz
 cases hsz2:iJ P elem with
 | none=>rw[hsz2]at ha;cases ha
 | some sz=>
 rw[hsz2]at ha
 simp only[dh]at ha
 cases hby:nQ P elem with
 | none=>rw[hby]at ha;cases ha
 | some by'=>
 rw[hby]at ha
 simp only[dh]at ha
 cases hz2:jG P elem with
 | none=>rw[hz2]at ha;cases ha
 | some z=>
 rw[hz2]at ha hz
 simp only[dh,Option.any_some]at ha hz
 split at ha
 case isFalse=>cases ha
 rename_i hzs
 simp only[dH,gE]at ha
 obtain⟨rfl,rfl⟩:=ha
 have hlen:cs.length=ps.length*(size+1):=by
  rw[←hcs,List.length_flatMap]
  have:ps.map (fun p=>p.2.cells.toList.length)=ps.map (fun _=>size+1):=List.map_congr_left fun p hp=>by simpa using hsz p hp
  rw[this,List.map_const']
  simp
 have hall:ps.all (fun x=>x.2.cells.toList.all oneCell)=true:=by
  rw[←hcs]at h1
  rw[List.all_flatMap]at h1
  exact h1
 refine⟨.slice (some ⟨H.length,0,some cs.length⟩) ps.length (size+1),H.cons (.cells cs elem true cs.length 0),?_,h _ _ (hS.add ?_ ?_ ?_ ?_)⟩
 ·unfold xG
  simp only[he,hsz2,hz2,dh]
  rw[if_neg (by simp[hne]),if_pos (by
   simp only[hz,hall,hzs,fL,fT,de,decide_eq_true_eq,bne_iff_ne,ne_eq]
   exact⟨h0,Nat.mul_ne_zero hne (eM _)⟩)]
  have hf:=a3v (size+1) ps 0 [] ((Array.range (ps.length*(size+1))).map (z.cells[·%z.cells.size]!)).toList (by simp) (by simp) hp hsz
  simp only[fF,Array.toArray_toList]at hf
  rw[hf,hcs]
  simp[lL]
 ·unfold OwnAt
  rw[if_neg (eM _)]
  exact .inr ⟨_,0,elem,_,0,[],ps.length,iQ H _,by simp,rfl,hlen,by simp,hsz2⟩
 ·simp[pD]
 ·exact fun B hB=>jU _ hB
 ·intro B hB
  simp[jY]at hB
  omega
def c0U(P:Program)(t:TypeId):Option (Nat×Value):=
 (iL P t).bind fun elem=>(iJ P elem).bind fun size=>(nQ P elem).bind fun bytes=>(jG P elem).bind fun z=>if size==1&&z.cells.size==1&&jJ z then some (bytes,z.cells[0]!)else none
theorem St.cr(hS:St P H0 H os){t:TypeId}{bytes:Nat}{z:Value}{K:Value→Heap→Prop}(a:Nat)(ha:c0U P t=some (bytes,z))(hroom:a*(bytes+1)≤17592186044416)
 (h:∀v H1,St P H0 H1 (os++[⟨v,1,List.replicate a z⟩])→K v H1):qQ P H t (.int .i64 a) (.int .i64 a) K:=by
 unfold c0U at ha
 cases he:iL P t with
 | none=>rw[he]at ha;cases ha
 | some elem=>
 rw[he]at ha
 simp only[dh]at ha
 cases hsz2:iJ P elem with
 | none=>rw[hsz2]at ha;cases ha
 | some sz=>
 rw[hsz2]at ha
 simp only[dh]at ha
 cases hby:nQ P elem with
 | none=>rw[hby]at ha;cases ha
 | some by'=>
 rw[hby]at ha
 simp only[dh]at ha
 cases hz2:jG P elem with
 | none=>rw[hz2]at ha;cases ha
 | some z'=>
 rw[hz2]at ha
 simp only[dh]at ha
 split at ha
 case isFalse=>cases ha
 rename_i hzs
 simp only[de,beq_iff_eq]at hzs
 obtain⟨⟨rfl,hz1⟩,hfl⟩:=hzs
 simp only[dH,gE]at ha
 obtain⟨rfl,rfl⟩:=ha
 refine⟨.slice (some ⟨H.length,0,some a⟩) a 1,H.cons (.cells (List.replicate a z'.cells[0]!) elem true a 0),?_,h _ _ (hS.add ?_ ?_ ?_ ?_)⟩
 ·unfold wZ
  simp only[he,hsz2,hby,hz2,dh]
  rw[if_pos]
  ·simp[lL]
  ·have:(a:Int)*(by'+1)≤(oT:Int):=by
    have h3:((a*(by'+1):Nat):Int)≤((17592186044416:Nat):Int):=Int.ofNat_le.2 hroom
    simpa [oT]using h3
   simp[hfl,hz1,this]
 ·unfold OwnAt
  rw[if_neg (by simp)]
  exact .inr ⟨_,0,elem,_,0,[],a,iQ H _,by simp,rfl,by simp,by simp,hsz2⟩
 ·simp[pD]
 ·exact fun B hB=>jU _ hB
 ·intro B hB
  simp[jY]at hB
  omega
def Fn(P:Program)(k:FuncId)(args:List Value)(H:Heap)(R:Value→Heap→Prop):Prop:=nN P k∧∃v H1,CallOk P k args H v H1∧R v H1
theorem iR{k:FuncId}{args:List Value}{R K:Value→Heap→Prop}(h:Fn P k args H R)(hk:∀v H1,R v H1→K v H1):qW P k args H K:=by
 obtain⟨h1,v,H1,h2,h3⟩:=h
 exact⟨v,H1,h1,h2,hk v H1 h3⟩
def zH(P:Program)(fn:Func)(R:Value→Heap→Prop):nA:=fun e l H=>(e=.normal∨e=.ret)∧jT (iI P fn l H) fun v=>R v H
theorem a6q(fn:Func)(R:Value→Heap→Prop)(l:List Value):zH P fn R .normal l H=jT (iI P fn l H) fun v=>R v H:=by simp[zH]
theorem b6d(fn:Func)(R:Value→Heap→Prop)(l:List Value):zH P fn R .ret l H=jT (iI P fn l H) fun v=>R v H:=by simp[zH]
theorem Fn.of_wp{k:FuncId}{fn:Func}{c:Code}{args:List Value}{R:Value→Heap→Prop}(hf:P.funcs[k]? =some fn)(hb:fn.body=some c)(hn:(fn.name== "runtime.NumGoroutine")=false)
 (h:∀l,l=args++List.replicate (fn.ntmps-args.length) undef→Wp P c l H (zH P fn R)):Fn P k args H R:=by
 refine⟨⟨fn,hf,by simp[hb],hn⟩,?_⟩
 refine CallOk.of_wp hf hb hn ((h _ rfl).mono ?_)
 rintro e l H1⟨h1,h2⟩
 refine⟨h1,?_⟩
 unfold jT at h2
 split at h2
 ·rename_i v hv;exact⟨v,hv,h2⟩
 ·exact h2.elim
theorem Fn.mono{k:FuncId}{args:List Value}{R R':Value→Heap→Prop}(h:Fn P k args H R)(hr:∀v H1,R v H1→R' v H1):Fn P k args H R':=by
 obtain⟨h1,v,H1,h2,h3⟩:=h
 exact⟨h1,v,H1,h2,hr _ _ h3⟩
theorem RdAt.cells{v:Value}{size:Nat}{cs:List Value}(h:RdAt H v size cs):v.cells=#[v]∧oneCell v=true∧mK v=true:=by
 rcases h with⟨rfl,_⟩|⟨A,i,e,row,ty,rw,lo,ver,n,h1,h2,h3,h4,h5,h6,rfl⟩<;>exact⟨rfl,rfl,rfl⟩
theorem a9M{f:Value}{args:List Value}{K K':Value→Heap→Prop}(h:rV P f args H K)(hk:∀v H1,K v H1→K' v H1):rV P f args H K':=by
 unfold rV at h ⊢
 split at h
 ·obtain⟨v,H1,h1,h2,h3⟩:=h
  exact⟨v,H1,h1,h2,hk _ _ h3⟩
 ·obtain⟨v,H1,h1,h2⟩:=h
  exact⟨v,H1,h1,hk _ _ h2⟩
 ·exact h.elim
def sS(z:Option Nat)(x:Value)(lo hi:Option Value):Option Value:=
 z.bind fun size=>match x with
 | .slice (some ⟨A,i,some e⟩) n c=>
   (match hi with|some h=>uA h|none=>some n).bind fun h=>
   (match lo with|some l=>uA l|none=>some 0).bind fun l=>
   if l≤h&&h≤n&&c==size then some (.slice (some ⟨A,i+l*size,some e⟩) (h-l) size)else none
 | _=>none
theorem a3b(t:TypeId)(x:Value)(lo hi:Option Value):vX P t x lo hi=sS (jB P t) x lo hi:=by
 unfold vX sS jB
 cases iL P t with
 | none=>rfl
 | some e=>rfl
def nO(P:Program)(o:Oper)(l:List Value)(H:Heap)(z:Option Nat)(v:Value)(lo hi:Option Value)(K:Value→Heap→Prop)(_k:Keep K:=⟨⟩):Prop:=match z with
 | none=>jZ (opD P o l H) K
 | some s=>if flat v then jZ (opD P o l H) K else jT (sS (some s) v lo hi) fun v=>K v H
theorem a0B{t:TypeId}{s:Nat}(h:jB P t=some s):kD P t=none:=by
 unfold jB at h
 cases he:iL P t with
 | none=>rw[he]at h;cases h
 | some e=>simp[kD,kE he]
theorem b1P(d ty pos af g)(t:TypeId)(x:Operand)(lo hi:Option Operand)(l:List Value)(K:Value→Heap→Prop)(hok:∀a,lo=some a∨hi=some a→iV a=true)(hx:iV x=true)
 (h:nO P ⟨d,.slice t x lo hi none,ty,pos,af,g⟩ l H (jB P t) (ev l x) (lo.map (ev l)) (hi.map (ev l)) K):mD P ⟨d,.slice t x lo hi none,ty,pos,af,g⟩ l H K:=by
 refine⟨?_,?_⟩
 ·simp only[Op.operands]
  cases lo<;>cases hi<;>simp_all
 ·show jZ _ K
  cases hz:jB P t with
  | none=>rw[hz]at h;exact h
  | some sz=>
  have harr:=a0B hz
  rw[hz]at h
  simp only[nO]at h
  rw[←hz]at h
  split at h
  ·exact h
  ·rename_i hf
   have e:opD P ⟨d,.slice t x lo hi none,ty,pos,af,g⟩ l H=(sS (jB P t) (ev l x) (lo.map (ev l)) (hi.map (ev l))).map fun v=>(v,H):=by
    simp only[opD]
    rw[if_neg hf,harr,a3b]
   rw[e]
   cases hs:sS (jB P t) (ev l x) (lo.map (ev l)) (hi.map (ev l))with
   | none=>rw[hs]at h;exact h.elim
   | some v=>rw[hs]at h;exact h
theorem sX(d ty pos af g)(t:TypeId)(x:Operand)(lo hi:Option Operand)(l:List Value)(K:Value→Heap→Prop):
 mD P ⟨d,.slice t x lo hi none,ty,pos,af,g⟩ l H K=(((#[x]++lo.toArray++hi.toArray).toList.all iV=true)∧nO P ⟨d,.slice t x lo hi none,ty,pos,af,g⟩ l H (jB P t) (ev l x) (lo.map (ev l)) (hi.map (ev l)) K):=by
 apply propext
 constructor
 ·intro h
  obtain⟨h1,h2⟩:=h
  refine⟨?_,?_⟩
  ·cases lo<;>cases hi<;>simpa [Op.operands]using h1
  ·cases hz:jB P t with
   | none=>exact h2
   | some sz=>
   have harr:=a0B hz
   simp only[nO]
   rw[←hz]
   split
   ·exact h2
   ·rename_i hf
    have e:opD P ⟨d,.slice t x lo hi none,ty,pos,af,g⟩ l H=(sS (jB P t) (ev l x) (lo.map (ev l)) (hi.map (ev l))).map fun v=>(v,H):=by
     simp only[opD]
     rw[if_neg hf,harr,a3b]
    replace h2:jZ (opD P ⟨d,.slice t x lo hi none,ty,pos,af,g⟩ l H) K:=h2
    rw[e]at h2
    cases hs:sS (jB P t) (ev l x) (lo.map (ev l)) (hi.map (ev l))with
    | none=>rw[hs]at h2;exact h2.elim
    | some v=>rw[hs]at h2;exact h2
 ·rintro⟨h1,h2⟩
  refine b1P d ty pos af g t x lo hi l K ?_ ?_ h2
  ·intro a ha
   cases lo<;>cases hi<;>simp_all
   rcases ha with rfl|rfl<;>simp_all
  ·cases lo<;>cases hi<;>simp_all
theorem a9k(d ty pos af g)(t:TypeId)(x a:Operand)(l:List Value)(K:Value→Heap→Prop):
 mD P ⟨d,.slice t x (some a) none none,ty,pos,af,g⟩ l H K=jN x l fun v=>jN a l fun a'=>nO P ⟨d,.slice t x (some a) none none,ty,pos,af,g⟩ l H (jB P t) v (some a') none K:=by
 rw[sX];simp[jN,and_assoc]
theorem a8m(d ty pos af g)(t:TypeId)(x a:Operand)(l:List Value)(K:Value→Heap→Prop):
 mD P ⟨d,.slice t x none (some a) none,ty,pos,af,g⟩ l H K=jN x l fun v=>jN a l fun a'=>nO P ⟨d,.slice t x none (some a) none,ty,pos,af,g⟩ l H (jB P t) v none (some a') K:=by
 rw[sX];simp[jN,and_assoc]
theorem a9t(d ty pos af g)(t:TypeId)(x a b:Operand)(l:List Value)(K:Value→Heap→Prop):
 mD P ⟨d,.slice t x (some a) (some b) none,ty,pos,af,g⟩ l H K=jN x l fun v=>jN a l fun a'=>jN b l fun b'=>nO P ⟨d,.slice t x (some a) (some b) none,ty,pos,af,g⟩ l H (jB P t) v (some a') (some b') K:=by
 rw[sX];simp[jN,and_assoc]
def kS(v:Value)(size lo k:Nat):Value:=match v with
 | .slice (some ⟨A,i,s⟩) _ _=>.slice (some ⟨A,i+lo*size,s⟩) k size
 | v=>v
theorem RdAt.sub{v:Value}{size:Nat}{cs:List Value}(h:RdAt H v size cs)(lo k:Nat)(hk:lo*size+k*size≤cs.length)(h0:cs≠[]):RdAt H (kS v size lo k) size ((cs.drop (lo*size)).take (k*size)):=by
 rcases h with⟨rfl,rfl⟩|⟨A,i,e,row,ty,rw,lo',ver,n,h1,h2,h3,h4,h5,h6,rfl⟩
 ·exact(h0 rfl).elim
 ·refine .inr ⟨A,i+lo*size,e,row,ty,rw,lo',ver,k,h1,h2,h3,?_,?_,?_,rfl⟩
  ·simp;omega
  ·have hl:(List.take (k*size) (List.drop (lo*size) cs)).length=k*size:=by simp;omega
   rw[hl]
   conv=>rhs;rw[←h5]
   rw[List.drop_take,List.take_take,fD,gD (by omega)]
  ·simp;omega
theorem RdAt.bG{v:Value}{size:Nat}{cs:List Value}(h:RdAt H v size cs)(h0:cs≠[]):flat v=false:=by
 rcases h with⟨rfl,rfl⟩|⟨A,i,e,row,ty,rw,lo',ver,n,h1,h2,h3,h4,h5,h6,rfl⟩
 ·exact(h0 rfl).elim
 ·rfl
theorem RdAt.aD{v:Value}{size:Nat}{cs:List Value}(h:RdAt H v (size+1) cs){n:Nat}(hn:cs.length=n*(size+1))(o:Oper)(l:List Value)(H':Heap)(k:IntKind)(a:Int)(K:Value→Heap→Prop)(h0:0<n)(h1:0≤a)(h2:a≤n):
 nO P o l H' (some (size+1)) v (some (.int k a)) none K=nH (kS v (size+1) a.toNat (n-a.toNat)) fun v=>K v H':=by
 have hne:cs≠[]:=fun e=>by
  subst e
  have hp:=ia h0 (fh size)
  have hq:0=n*(size+1):=hn
  exact absurd (hq▸hp:0<0) (eW _)
 simp only[nO]
 rw[h.bG hne]
 rcases h with⟨rfl,rfl⟩|⟨A,i,e,row,ty,rw,lo',ver,m,h3,h4,h5,h6,h7,h8,rfl⟩
 ·exact(hne rfl).elim
 ·have:m=n:=eP (fh size) (h8.symm.trans hn)
  subst this
  have h9:a.toNat≤m:=by omega
  simp[sS,uA,h1,h2,kS,jT,nH]
theorem RdAt.aP{v:Value}{size:Nat}{cs:List Value}(h:RdAt H v (size+1) cs){n:Nat}(hn:cs.length=n*(size+1))(o:Oper)(l:List Value)(H':Heap)(k:IntKind)(a:Int)(K:Value→Heap→Prop)(h0:0<n)(h1:0≤a)(h2:a≤n):
 nO P o l H' (some (size+1)) v none (some (.int k a)) K=nH (kS v (size+1) 0 a.toNat) fun v=>K v H':=by
 have hne:cs≠[]:=fun e=>by
  subst e
  have hp:=ia h0 (fh size)
  have hq:0=n*(size+1):=hn
  exact absurd (hq▸hp:0<0) (eW _)
 simp only[nO]
 rw[h.bG hne]
 rcases h with⟨rfl,rfl⟩|⟨A,i,e,row,ty,rw,lo',ver,m,h3,h4,h5,h6,h7,h8,rfl⟩
 ·exact(hne rfl).elim
 ·have:m=n:=eP (fh size) (h8.symm.trans hn)
  subst this
  have h9:a.toNat≤m:=by omega
  simp[sS,uA,h1,h9,kS,jT,nH]
theorem St.suffix(hS:St P H0 H os)(i:Nat){v:Value}{size:Nat}{cs:List Value}(ho:os[i]? =some ⟨v,size+1,cs⟩){n:Nat}(hn:cs.length=n*(size+1))(a:Nat)(h0:0<n)(ha:a≤n):
 St P H0 H (os.set i ⟨kS v (size+1) a (n-a),size+1,cs.drop (a*(size+1))⟩):=by
 have hne:cs≠[]:=fun e=>by
  subst e
  have hp:=ia h0 (fh size)
  have hq:0=n*(size+1):=hn
  exact absurd (hq▸hp:0<0) (eW _)
 have hown:=hS.own _ (dB ho)
 unfold OwnAt at hown
 rw[if_neg (eM _)]at hown
 rcases hown with⟨h2,h3⟩|⟨A,k,ty,lo,ver,pre,m,h2,h3,h4,h5,h6,h7⟩
 ·exact(hne h3).elim
 ·simp only at h2 h3 h5 h6
  have:m=n:=eP (fh size) (h5.symm.trans hn)
  subst this
  have hle:a*(size+1)≤cs.length:=by rw[hn];exact dU _ ha
  refine hS.put i ho ?_ (dm _) (fun _ _ _=>rfl) ?_
  ·unfold OwnAt
   rw[if_neg (eM _)]
   refine .inr ⟨A,k+a*(size+1),ty,lo,ver,pre++cs.take (a*(size+1)),m-a,?_,?_,?_,?_,?_,h7⟩
   ·rw[h2,ee,fQ]
   ·simp;omega
   ·simp[h4];omega
   ·simp[Nat.sub_mul,hn]
   ·rw[h6]
    simp only[kS,eE,Value.slice.injEq,dH,iE,true_and,and_true]
    omega
  ·intro B hB
   left
   rw[h6]at hB ⊢
   exact hB
def a7j(P:Program)(t:TypeId):Option Nat:=(iL P t).bind fun elem=>(jG P elem).bind fun z=>if kM z.cells.toList&&z.cells.size !=0 then some z.cells.size else none
theorem a1r(z:Array Value)(n:Nat):(Builtin.zeroCells z n).toList.length=n*z.size:=by simp[Builtin.zeroCells]
theorem xF(z:Array Value)(n:Nat)(h:kM z.toList=true)(h0:z.size≠0):kM (Builtin.zeroCells z n).toList=true:=by
 unfold kM at h ⊢
 rw[dJ]at h ⊢
 intro x hx
 simp only[Builtin.zeroCells,iy,Array.toList_range,dE]at hx
 obtain⟨i,_,rfl⟩:=hx
 have hlt:i%z.size<z.size:=iD _ (gB h0)
 rw[getElem!_pos z _ hlt]
 exact h _ (by simp)
theorem St.bD(hS:St P H0 H os)(i:Nat){v:Value}{size:Nat}{cs:List Value}(ho:os[i]? =some ⟨v,size+1,cs⟩)(lo k:Nat)(hk:lo*(size+1)+k*(size+1)≤cs.length)(hne:cs≠[]){t:TypeId}(ht:a7j P t=some (size+1)){K:Value→Heap→Prop}
 (h:∀l H1,l.length=k*(size+1)→St P H0 H1 (os.set i ⟨v,size+1,jC cs (lo*(size+1)) l⟩)→K (.tuple #[]) H1):a2t P H t (kS v (size+1) lo k) K:=by
 unfold a7j at ht
 cases he:iL P t with
 | none=>rw[he]at ht;cases ht
 | some elem=>
 rw[he]at ht
 simp only[dh]at ht
 cases hz:jG P elem with
 | none=>rw[hz]at ht;cases ht
 | some z=>
 rw[hz]at ht
 simp only[dh]at ht
 split at ht
 case isFalse=>cases ht
 rename_i hc
 simp only[de,bne_iff_ne,ne_eq]at hc
 have hzs:=dc ht
 have hown:=hS.own _ (dB ho)
 unfold OwnAt at hown
 rw[if_neg (eM _)]at hown
 rcases hown with⟨h2,h3⟩|⟨A,j,ty,lo',ver,pre,m,h2,h3,h4,h5,h6,h7⟩
 ·exact(hne h3).elim
 simp only at h2 h3 h5 h6
 subst h6
 by_cases hk0:k=0
 ·subst hk0
  refine⟨.tuple #[],H,?_,h [] H (by simp) ?_⟩
  ·simp[tF,kS,he,hz]
  ·obtain⟨hi,hoi⟩:=dy.1 ho
   rw[uI,←hoi,gi]
   exact hS
 ·have hl:(Builtin.zeroCells z.cells k).toList.length=k*(size+1):=by rw[a1r,hzs]
  have hsc:=xF z.cells k hc.1 hc.2
  refine⟨.tuple #[],hset H A (.cells (jC (pre++cs) (j+lo*(size+1)) (Builtin.zeroCells z.cells k).toList) ty true (pre++cs).length ver),?_,h _ _ hl (hS.put i ho ?_ ?_ ?_ ?_)⟩
  ·simp only[tF,kS,he,hz,dh,h2]
   rw[if_neg (by simpa using hk0),if_pos (by
    rw[hsc,hl]
    simp[h4,h3];omega)]
  ·unfold OwnAt
   rw[if_neg (eM _)]
   refine .inr ⟨A,j,ty,(pre++cs).length,ver,pre,m,?_,?_,h4,?_,?_,h7⟩
   ·rw[iU _ (jP h2),←h4,qU]
   ·simp[kR,h4]
   ·simp only[kR];exact h5
   ·simp only[kR]
  ·rw[jR];exact dm _
  ·intro B' hB hne'
   refine pM fun hh=>hne' ?_
   simp[jY,hh]
  ·intro B' hB
   exact .inl hB
end
end Go.Ds
namespace Go.Ds
theorem b6l(k:IntKind)(n:Int):flat (.int k n)=true:=rfl
theorem b2Q(b:Bool):flat (.bool b)=true:=rfl
theorem a8u:flat (.slice none 0 0)=true:=rfl
theorem b2Z(k:IntKind)(n:Int):jJ (.int k n)=true:=rfl
theorem a9s(b:Bool):jJ (.bool b)=true:=rfl
theorem b5F(ops:List Oper)(j:Nat):xW ops.toArray j=(ops[j]?).bind (·.dst):=by simp[xW]
theorem b3q(l:List Value):jJ (.agg l.toArray)=l.all iZ:=by simp[jJ,kM]
theorem b6X(l:List Value):flat (.agg l.toArray)=l.all iZ:=by simp[flat,jJ,kM]
theorem b2q:jJ (.slice none 0 0)=true:=rfl
theorem a5o:flat .nilFunc=true:=rfl
theorem a9B(k:IntKind)(n:Int):iZ (.int k n)=true:=rfl
theorem a7n(b:Bool):iZ (.bool b)=true:=rfl
theorem a9A:iZ (.slice none 0 0)=true:=rfl
theorem b6E(A i e:Nat):mK (ptr A i e)=true:=rfl
theorem a5U(k:IntKind)(n:Int):jL (.int k n)=true:=rfl
theorem a4d(b:Bool):jL (.bool b)=true:=rfl
theorem a6h:jL (.slice none 0 0)=true:=rfl
theorem a6a(cs:Array Value):jL (.agg cs)=true:=rfl
theorem RC:
 (∀(p:Prop),(True∧p)=p)∧
 (∀(p:Prop),(p∧True)=p)∧
 (∀{α:Sort 1}{x:Decidable True}(t e:α),(@ite α True x t e)=t)∧
 (∀{α:Sort 1}{x:Decidable False}(t e:α),(@ite α False x t e)=e)∧
 (∀{x:Decidable True}(t e:Prop),(@ite Prop True x t e)=t)∧
 (∀{x:Decidable False}(t e:Prop),(@ite Prop False x t e)=e)∧
 (∀(n:Nat),0+n=n)∧
 (∀(n:Nat),n*1=n)∧
 (∀(n:Nat),(n:Int).toNat=n)∧
 (∀(n:Nat),n+0=n)∧
 (∀(h:Decidable True), @decide True h=true)∧
 (∀(h:Decidable False), @decide False h=false)∧
 ((!true)=false)∧
 ((!false)=true)∧
 (∀{α:Type}(l:List α),[]++l=l)∧
 (∀{α:Type}(l:List α),l++[]=l)∧
 (∀{α:Type}{a:α}{l m:List α},a::l++m=a::(l++m))∧
 (∀{α:Type}{a:α}{l:List α},(a::l)[0]? =some a)∧
 (∀{α:Type}{a:α}{i:Nat}{l:List α},(a::l)[i+1]? =l[i]?)∧
 (∀{α β:Type}(a:α)(f:α→Option β),(some a).bind f=f a)∧
 (∀{α:Type}{x:α}{xs:List α}{d:α},(x::xs).getD 0 d=x)∧
 (∀{α:Type}{x:α}{xs:List α}{n:Nat}{d:α},(x::xs).getD (n+1) d=xs.getD n d)∧
 (∀{α:Type}{a:α}{l:List α},(a::l).length=l.length+1)∧
 (∀{α:Type},([]:List α).length=0)∧
 (∀{α:Type}{l:List α},List.drop 0 l=l)∧
 (∀{α:Type}{a:α}{l:List α}{i:Nat},List.take (i+1) (a::l)=a::List.take i l)∧
 (∀{α:Type}{l:List α},List.take 0 l=[])∧
 (∀{α:Type}{a:α}{l:List α}{i:Nat},List.drop (i+1) (a::l)=List.drop i l)∧
 (∀{α:Type}{a:α}{l:List α}{f:α→Bool},(a::l).all f=(f a&&l.all f))∧
 (∀{α:Type}{f:α→Bool},[].all f=true)∧
 (∀(b:Bool),(b&&true)=b)∧
 (∀(b:Bool),(true&&b)=b)∧
 (∀(b:Bool),(b&&b)=b)∧
 (∀(cs:List Value)(i:Nat)(v:Value)(vs:List Value),jC cs i (v::vs)=jC (cs.set i v) (i+1) vs)∧
 (∀(cs:List Value)(i:Nat),jC cs i []=cs)∧
 (∀{α:Type}{x:α}{xs:List α}{a:α},(x::xs).set 0 a=a::xs)∧
 (∀{α:Type}{x:α}{xs:List α}{i:Nat}{a:α},(x::xs).set (i+1) a=x::xs.set i a)∧
 ((¬True)=False)∧
 ((¬False)=True)∧
 (∀{p:Prop}[Decidable p],¬¬p↔p)∧
 (∀{n:Nat},((OfNat.ofNat n:Nat):Int)=OfNat.ofNat n):=
 ⟨@true_and, @and_true, @if_true, @if_false, @if_true Prop, @if_false Prop, @Nat.zero_add, @Nat.mul_one, @Int.toNat_natCast, @Nat.add_zero, @decide_true, @decide_false,Bool.not_true,Bool.not_false, @List.nil_append, @List.append_nil, @List.cons_append, @List.getElem?_cons_zero, @List.getElem?_cons_succ, @Option.bind_some, @List.getD_cons_zero, @List.getD_cons_succ, @List.length_cons, @List.length_nil, @List.drop_zero, @List.take_succ_cons, @List.take_zero, @List.drop_succ_cons, @List.all_cons, @List.all_nil, @Bool.and_true, @Bool.true_and, @Bool.and_self, @qJ, @uI, @List.set_cons_zero, @List.set_cons_succ,not_true_eq_false,not_false_eq_true, @Decidable.not_not, @Int.cast_ofNat_Int⟩
end Go.Ds
namespace Go.Ds
open Go.RowKit
section
variable {P:Program} {H:Heap}
theorem CallOk.calls{ρ:Rho}{w:World}{f:FuncId}{args:List Value}{v:Value}{H':Heap}(h:CallOk P f args H v H'){args':Array Value}(hr:HRel P ρ H w)(ha:All2 (V ρ) args args'.toList):
 Calls P f args' w fun e w'=>∃ρ' v',e=.returned v'∧Post P ρ H w ρ' H' w'∧V ρ' v v':=
 (h 0 ρ w args' hr ha).calls fun k=>by intro d h;cases h
def Shut(ρ:Rho)(H:Heap):Prop:=∀b,¬Wr ρ H b
theorem Fn.calls{ρ:Rho}{w:World}{f:FuncId}{args:List Value}{b:Bool}(h:Fn P f args H fun v _=>v=.bool b){args':Array Value}(hr:HRel P ρ H w)(hs:Shut ρ H)(ha:All2 (V ρ) args args'.toList):
 Calls P f args' w fun e w'=>e=.returned (.bool b)∧Below w.heap.size w w':=by
 obtain⟨_,v,H1,h1,rfl⟩:=h
 refine(h1.calls hr ha).mono ?_
 rintro e w'⟨ρ',v',rfl,hp,hv⟩
 refine⟨?_,hp.os,hp.tape.1,hp.output,hp.size,fun k hk=>(hp.frame k hk (hs k)).1⟩
 rw[hv.ab rfl]
theorem HRel.none(w:World):HRel P (fun _ _=>Option.none) .nil w:=.empty w
theorem Shut.none:Shut (fun _ _=>Option.none) .nil:=fun b⟨A,e,p,jY,h,_⟩=>by cases h
end
end Go.Ds
namespace Go.Ds
section
variable {P:Program} {B:Base} {H:Heap}
def FnS(P:Program)(k:FuncId)(args:List Value)(H:Heap)(R:Value→Heap→Prop):Prop:=
 ∃fn c e l1 H1 v,P.funcs[k]? =some fn∧fn.body=some c∧(fn.name== "runtime.NumGoroutine")=false∧Sim P c (args++List.replicate (fn.ntmps-args.length) undef) H e l1 H1∧(e=.normal∨e=.ret)∧iI P fn l1 H1=some v∧R v H1
theorem FnS.of_wp{k:FuncId}{fn:Func}{c:Code}{args:List Value}{R:Value→Heap→Prop}(hf:P.funcs[k]? =some fn)(hb:fn.body=some c)(hn:(fn.name== "runtime.NumGoroutine")=false)
 (h:∀l,l=args++List.replicate (fn.ntmps-args.length) undef→Wp P c l H (zH P fn R)):FnS P k args H R:=by
 obtain⟨e,l1,H1,h1,h2,h3⟩:=h _ rfl
 unfold jT at h3
 split at h3
 ·rename_i v hv;exact⟨fn,c,e,l1,H1,v,hf,hb,hn,h1,h2,hv,h3⟩
 ·exact h3.elim
theorem FnS.fn{k:FuncId}{args:List Value}{R:Value→Heap→Prop}(h:FnS P k args H R):Fn P k args H R:=by
 obtain⟨fn,c,e,l1,H1,v,hf,hb,hn,h1,h2,h3,h4⟩:=h
 exact⟨⟨fn,hf,by simp[hb],hn⟩,v,H1,.bO hf hb hn h1 h2 h3,h4⟩
theorem FnS.mono{k:FuncId}{args:List Value}{R R':Value→Heap→Prop}(h:FnS P k args H R)(hr:∀v H1,R v H1→R' v H1):FnS P k args H R':=by
 obtain⟨fn,c,e,l1,H1,v,hf,hb,hn,h1,h2,h3,h4⟩:=h
 exact⟨fn,c,e,l1,H1,v,hf,hb,hn,h1,h2,h3,hr _ _ h4⟩
def b1b(l:List Value)(ps:Array Tmp)(assign body:Code):Loop:={state:=.ready,pending:=none,fn:=0,tmps:=l.toArray,params:=ps,assign:=assign,body:=body,defers:=0}
def b5Q(P:Program)(l:List Value)(L:Nat)(Q:nA):Value→Heap→Prop:=fun _ H2=>∃r,iT H2 L=some (.loop r)∧r.state≠.busy∧
 (r.pending=none→Q .normal l (hset H2 L (.loop {r with state:=.exhausted})))∧∀c,r.pending=some c→Wp P c l (hset H2 L (.loop {r with state:=.exhausted})) Q
theorem Wp.range{g:Operand}{ps:Array Tmp}{assign body:Code}{l:List Value}{Q:nA}{k:FuncId}{first captured:List Value}(hgo:iV g=true)(hg:ev l g=.func (.func k) first.toArray captured.toArray)
 (h:FnS P k (first++[.func (.yield H.length) #[] #[]]++captured) (H.cons (.loop (b1b l ps assign body))) (b5Q P l H.length Q)):Wp P (.rangeFunc g ps assign body) l H Q:=by
 classical
 obtain⟨fn,c,e,l1,H2,v,hf,hb,hn,hs,he,hres,r,hr,hnb,hp⟩:=h
 let sl:=(first++[Value.func (.yield H.length) #[] #[]]++captured)++List.replicate (fn.ntmps-(first++[Value.func (.yield H.length) #[] #[]]++captured).length) undef
 let H1:=H.cons (.loop (b1b l ps assign body))
 let ex:Run:=fun c' l' H'=>if c'=c∧l'=sl∧H'=H1 then some (e,l1,H2)else none
 have hex:∀c l H e l' H',ex c l H=some (e,l',H')→Sim P c l H e l' H':=by
  intro c' l' H' e' l2 H3 hh
  simp only[ex]at hh
  split at hh
  ·rename_i h1
   obtain⟨rfl,rfl,rfl⟩:=h1
   injection hh with hh
   injection hh with h1 hh
   injection hh with h2 h3
   subst h1 h2 h3
   exact hs
  ·cases hh
 have hc:a5i P ex (ev l g) H.length (H.cons (.loop {state:=.ready,pending:=none,fn:=0,tmps:=l.toArray,params:=ps,assign,body,defers:=0}))=some (v,H2):=by
  unfold a5i
  rw[hg]
  show callF P ex k (first++[Value.func (.yield H.length) #[] #[]]++captured) H1=some (v,H2)
  unfold callF
  rw[hf]
  have h1:ex c sl H1=some (e,l1,H2):=by simp[ex]
  simp only[hb,hn,ef,if_false]
  rw[show ex c ((first++[Value.func (.yield H.length) #[] #[]]++captured)++List.replicate (fn.ntmps-(first++[Value.func (.yield H.length) #[] #[]]++captured).length) undef) H1=some (e,l1,H2)from h1]
  rcases he with rfl|rfl<;>simp[hres]
 by_cases hpend:r.pending=none
 ·exact⟨.normal,l,_,a6i hex hc hgo hr hnb (fun _=>⟨rfl,rfl,rfl⟩) (fun c h=>by rw[hpend]at h;cases h),hp.1 hpend⟩
 ·obtain⟨c',hc'⟩:=Option.ne_none_iff_exists'.1 hpend
  obtain⟨e',l',H',hs',hq⟩:=hp.2 c' hc'
  exact⟨e',l',H',a6i hex hc hgo hr hnb (fun h=>absurd h hpend) (fun c h=>by
   rw[hc']at h
   obtain rfl:=dc h
   exact hs'),hq⟩
def rM:Ex→Option Code
 | .normal=>none
 | .ret=>some .ret
 | .exit id=>some (.exit id)
theorem a0C{L:Nat}{args:List Value}{K:Value→Heap→Prop}{r:Loop}(hg:iT H L=some (.loop r))(hn:r.params.size=args.length)(hst:r.state=.ready)
 (h:Wp P r.assign ((r.params.toList.zip args).foldl (fun t(p,v)=>t.set p v) r.tmps.toList) H fun e l1 H1=>e=.normal∧∃r1,iT H1 L=some (.loop r1)∧r1.state=.ready∧
   Wp P r.body l1 (hset H1 L (.loop {r1 with state:=.busy})) fun e _ H2=>∃r2,iT H2 L=some (.loop r2)∧
    K (.bool (rM e).isNone) (hset H2 L (.loop {r2 with state:=if(rM e).isNone then .ready else .done,pending:=rM e}))):
 rV P (.func (.yield L) #[] #[]) args H K:=by
 classical
 obtain⟨e1,l1,H1,hs1,rfl,r1,hg1,hst1,e2,l2,H2,hs2,r2,hg2,hk⟩:=h
 refine⟨_,_,?_,hk⟩
 let sl:=(r.params.toList.zip args).foldl (fun t(p,v)=>t.set p v) r.tmps.toList
 let Hb:=hset H1 L (.loop {r1 with state:=.busy})
 let ex:Run:=fun c' l' H'=>if c'=r.assign∧l'=sl∧H'=H then some (.normal,l1,H1)else if c'=r.body∧l'=l1∧H'=Hb then some (e2,l2,H2)else none
 have hex:∀c l H e l' H',ex c l H=some (e,l',H')→Sim P c l H e l' H':=by
  intro c' l' H' e' l3 H3 hh
  simp only[ex]at hh
  split at hh
  ·rename_i h1
   obtain⟨rfl,rfl,rfl⟩:=h1
   injection hh with hh
   injection hh with h1 hh
   injection hh with h2 h3
   subst h1 h2 h3
   exact hs1
  ·split at hh
   ·rename_i h1
    obtain⟨rfl,rfl,rfl⟩:=h1
    injection hh with hh
    injection hh with h1 hh
    injection hh with h2 h3
    subst h1 h2 h3
    exact hs2
   ·cases hh
 have hbH:¬Hb=H:=by
  intro hh
  have h1:iT Hb L=some (.loop {r1 with state:=.busy}):=iU _ (jP hg1)
  rw[hh,hg]at h1
  injection h1 with h1
  injection h1 with h1
  have h2:r.state=.busy:=by rw[h1]
  rw[hst]at h2
  cases h2
 have hc:a2b ex L args H=some (.bool (rM e2).isNone,hset H2 L (.loop {r2 with state:=if(rM e2).isNone then .ready else .done,pending:=rM e2})):=by
  unfold a2b
  rw[hg]
  simp only
  rw[if_pos ⟨hn,hst⟩]
  have h1:ex r.assign sl H=some (.normal,l1,H1):=by simp[ex]
  have h2:ex r.body l1 Hb=some (e2,l2,H2):=by
   simp only[ex]
   rw[if_neg (fun hh=>hbH hh.2.2),if_pos ⟨trivial,trivial,trivial⟩]
  rw[show ex r.assign ((r.params.toList.zip args).foldl (fun t(p,v)=>t.set p v) r.tmps.toList) H=some (.normal,l1,H1)from h1]
  simp only[hg1]
  rw[if_pos hst1]
  rw[show ex r.body l1 (hset H1 L (.loop {r1 with state:=.busy}))=some (e2,l2,H2)from h2]
  simp only[hg2]
  cases e2<;>rfl
 exact fun ρ w p args' k hr hp ha=>b5f hex hc hr hp ha k
structure Lp(P:Program)(B:Base)(L:Nat)(r:Loop)(H:Heap)(os:List Ob):Prop where
 st:St P B H os
 get:iT H L=some (.loop r)
 lo:B.H.length≤L
 ne:∀o∈os,jY o.v≠some L
theorem b2M{H:Heap}{A:Nat}{b c:Blk}(h:iT H A=some c):iT (hset H A b) A=some b:=iU b (jP h)
theorem Lp.enter{os:List Ob}(hS:St P B H os)(r:Loop):Lp P B H.length r (H.cons (.loop r)) os where
 st:=by
  have h1:St P H (H.cons (.loop r)) []:=⟨by rw[pD];exact Nat.le_succ _,fun B hB _=>jU _ hB,by simp,by simp,.nil⟩
  simpa using hS.trans h1
 get:=iQ H _
 lo:=hS.len
 ne o ho hb:=by
  have:=(hS.own o ho).lt hb
  omega
theorem Lp.ext{L:Nat}{r:Loop}{H2:Heap}{os os2:List Ob}(h:Lp P B L r H os)(h2:St P H H2 os2):Lp P B L r H2 (os++os2) where
 st:=h.st.trans h2
 get:=by rw[h2.ag L (jP h.get)];exact h.get
 lo:=h.lo
 ne o ho hb:=by
  rcases dP.1 ho with ho|ho
  ·exact h.ne o ho hb
  ·have hl:=jP h.get
   rcases h2.new o ho L hb with h3|h3
   ·have h3:H.length≤L:=h3
    omega
   ·exact h3
theorem Lp.sub{L:Nat}{r:Loop}{os os':List Ob}(h:Lp P B L r H os)(hs:os'.Sublist os):Lp P B L r H os':=⟨h.st.sub hs,h.get,h.lo,fun o ho=>h.ne o (hs.subset ho)⟩
theorem Lp.set{L:Nat}{r:Loop}{os:List Ob}(h:Lp P B L r H os)(hX:¬B.X L)(r':Loop):Lp P B L r' (hset H L (.loop r')) os where
 st:=by
  refine⟨by rw[jR];exact h.st.len,?_,?_,h.st.new,h.st.sep⟩
  ·intro A hA hXA
   rw[jA _ (by have:=h.lo;omega)]
   exact h.st.old A hA hXA
  ·intro o ho
   exact(h.st.own o ho).ag fun A hA=>jA _ (fun hh=>h.ne o ho (by rw[hA,hh]))
 get:=b2M h.get
 lo:=h.lo
 ne:=h.ne
theorem Lp.body{L:Nat}{r:Loop}{H2:Heap}{os os2:List Ob}(h:Lp P B L r H os)(h2:St P ⟨H,qY os⟩ H2 os2):Lp P B L r H2 os2 where
 st:=h.st.bC h2
 get:=by rw[h2.other (jP h.get) h.ne];exact h.get
 lo:=h.lo
 ne o ho hb:=by
  have hl:=jP h.get
  rcases h2.new o ho L hb with h3|⟨o',ho',hb'⟩
  ·have h3:H.length≤L:=h3
   omega
  ·exact h.ne o' ho' hb'
end
end Go.Ds
namespace Go.Ds
noncomputable section
variable {P:Program} {H:Heap}
def SWr(P:Program):Code→List Value→Heap→nA→Prop
 | .skip,l,H,Q=>Q .normal l H
 | .label _,l,H,Q=>Q .normal l H
 | .exit id,l,H,Q=>Q (.exit id) l H
 | .ret,l,H,Q=>Q .ret l H
 | .seq a b,l,H,Q=>SWr P a l H fun e l1 H1=>match e with|.normal=>SWr P b l1 H1 Q|e=>Q e l1 H1
 | .block id b,l,H,Q=>SWr P b l H fun e l1 H1=>Q (e.out id) l1 H1
 | .cond (.tmp t) x y,l,H,Q=>pG (get l t) (SWr P x l H Q) (SWr P y l H Q)
 | .region _ ops false,l,H,Q=>rD P ops ops.toList l H fun l H=>Q .normal l H
 | c,l,H,Q=>Wp P c l H Q
theorem wI{v:Value}{p q p' q':Prop}(h:pG v p q)(h1:p→p')(h2:q→q'):pG v p' q':=by
 unfold pG at h ⊢
 split at h
 ·rename_i c
  cases c
  ·simpa using h2 (by simpa using h)
  ·simpa using h1 (by simpa using h)
 ·exact h.elim
theorem b5P{o:Oper}{l:List Value}{K K':Value→Heap→Prop}(hk:∀v H1,K v H1→K' v H1)(h:mD P o l H K):mD P o l H K':=by
 obtain⟨h2,h3⟩:=h
 refine⟨h2,?_⟩
 have bw:∀r,jZ r K→jZ r K':=fun r hr=>by
  cases r with
  | none=>exact hr
  | some r=>exact hk _ _ hr
 split at h3
 ·exact hk _ _ h3
 ·exact hk _ _ h3
 ·split at h3
  ·unfold rV at h3 ⊢
   split at h3
   ·obtain⟨v,H1,a,b,c⟩:=h3;exact⟨v,H1,a,b,hk _ _ c⟩
   ·obtain⟨v,H1,a,b⟩:=h3;exact⟨v,H1,a,hk _ _ b⟩
   ·exact h3
  ·exact bw _ h3
 ·exact bw _ h3
theorem a0p{ops:Array Oper}{K K':List Value→Heap→Prop}(hk:∀l H,K l H→K' l H):∀(os:List Oper)(l:List Value)(H:Heap),rD P ops os l H K→rD P ops os l H K'
 | [],l,H,h=>hk _ _ h
 | o::os,l,H,h=>by
   unfold rD at h ⊢
   split
   ·rename_i hw
    rw[if_pos hw]at h
    exact b5P (fun v H1 h=>a0p hk os _ _ h) h
   ·rename_i hw
    rw[if_neg hw]at h
    exact a0p hk os _ _ h
theorem SWr.wp:∀(c:Code){l:List Value}{H:Heap}{Q:nA},SWr P c l H Q→Wp P c l H Q:=by
 intro c
 induction c with
 | skip=>intro l H Q h;exact .skip h
 | label t=>intro l H Q h;exact .label h
 | exit id=>intro l H Q h;exact .exit h
 | ret=>intro l H Q h;exact .ret h
 | seq a b iha ihb=>
   intro l H Q h
   refine .seq ((iha h).mono ?_)
   intro e l1 H1 h1
   cases e with
   | normal=>exact ihb h1
   | exit i=>exact h1
   | ret=>exact h1
 | block id b ih=>intro l H Q h;exact .block (ih h)
 | cond c x y ihx ihy=>
   intro l H Q h
   cases c with
   | tmp t=>exact Wp.cH (wI h ihx ihy)
   | _=>exact h
 | region id ops d=>
   intro l H Q h
   cases d with
   | true=>exact h
   | false=>exact .region h
 | _=>intro l H Q h;exact h
def SW(P:Program)(c:Code)(l:List Value)(H:Heap)(Q:nA)(_k1:Keep c:=⟨⟩)(_k2:Keep Q:=⟨⟩):Prop:=SWr P c l H Q
theorem SW.wp{c:Code}{l:List Value}{Q:nA}(h:SW P c l H Q):Wp P c l H Q:=SWr.wp c h
theorem b4W{c:Code}{l l':List Value}{Q:nA}(h:l=l'):SW P c l H Q=SW P c l' H Q:=by rw[h]
attribute [congr] b4W
def b9L(P:Program)(b:Code)(Q:nA):nA:=fun e l1 H1=>match e with|.normal=>SWr P b l1 H1 Q|e=>Q e l1 H1
theorem a5L(b:Code)(Q:nA)(l:List Value):b9L P b Q .normal l H=SW P b l H Q:=rfl
theorem b2B(b:Code)(Q:nA)(i:Nat)(l:List Value):b9L P b Q (.exit i) l H=Q (.exit i) l H:=rfl
theorem b5N(b:Code)(Q:nA)(l:List Value):b9L P b Q .ret l H=Q .ret l H:=rfl
theorem b8d(l:List Value)(Q:nA):SW P .skip l H Q=Q .normal l H:=rfl
theorem b6h(t:Nat)(l:List Value)(Q:nA):SW P (.label t) l H Q=Q .normal l H:=rfl
theorem b9n(id:Nat)(l:List Value)(Q:nA):SW P (.exit id) l H Q=Q (.exit id) l H:=rfl
theorem c1k(l:List Value)(Q:nA):SW P .ret l H Q=Q .ret l H:=rfl
theorem c1G(a b:Code)(l:List Value)(Q:nA):SW P (.seq a b) l H Q=SW P a l H (b9L P b Q):=rfl
theorem b4v(id:Nat)(b:Code)(l:List Value)(Q:nA):SW P (.block id b) l H Q=SW P b l H (a0a id Q):=rfl
theorem b9m(t:Nat)(x y:Code)(l:List Value)(Q:nA):SW P (.cond (.tmp t) x y) l H Q=pG (get l t) (SW P x l H Q) (SW P y l H Q):=rfl
theorem c2m(id:Nat)(os:List Oper)(l:List Value)(Q:nA):SW P (.region id os.toArray false) l H Q=rD P os.toArray os l H fun l H=>Q .normal l H:=rfl
theorem b9T(id:Nat)(ops:Array Oper)(l:List Value)(Q:nA):SW P (.region id ops true) l H Q=Wp P (.region id ops true) l H Q:=rfl
theorem b7I(c:Code)(l:List Value)(Q:nA):SW P (.loop c) l H Q=Wp P (.loop c) l H Q:=rfl
theorem b4b(g:Operand)(ps:Array Tmp)(a b:Code)(l:List Value)(Q:nA):SW P (.rangeFunc g ps a b) l H Q=Wp P (.rangeFunc g ps a b) l H Q:=rfl
theorem Wp.aj{c:Code}{Q:nA}(I:Nat→List Value→Heap→Prop){l:List Value}(n:Nat)(h:I n l H)(step:∀n l H,I n l H→SW P c l H (a1R I n Q)):Wp P (.loop c) l H Q:=Wp.cI I n h fun n l H hI=>(step n l H hI).wp
theorem Fn.bc{k:FuncId}{fn:Func}{c:Code}{args:List Value}{R:Value→Heap→Prop}(hf:P.funcs[k]? =some fn)(hb:fn.body=some c)(hn:(fn.name== "runtime.NumGoroutine")=false)
 (h:∀l,l=args++List.replicate (fn.ntmps-args.length) undef→SW P c l H (zH P fn R)):Fn P k args H R:=Fn.of_wp hf hb hn fun l hl=>(h l hl).wp
theorem FnS.bc{k:FuncId}{fn:Func}{c:Code}{args:List Value}{R:Value→Heap→Prop}(hf:P.funcs[k]? =some fn)(hb:fn.body=some c)(hn:(fn.name== "runtime.NumGoroutine")=false)
 (h:∀l,l=args++List.replicate (fn.ntmps-args.length) undef→SW P c l H (zH P fn R)):FnS P k args H R:=FnS.of_wp hf hb hn fun l hl=>(h l hl).wp
theorem Fn.cX{k:FuncId}{fn:Func}{c:Code}{R:Value→Heap→Prop}(hf:P.funcs[k]? =some fn)(hb:fn.body=some c)(hn:(fn.name== "runtime.NumGoroutine")=false){m:Nat}(hm:0+(fn.ntmps-0)=m)(h:∀l,l.length=m→SW P c l H (zH P fn R)):Fn P k [] H R:=Fn.bc hf hb hn fun l hl=>h l (by rw[hl,du,gj];exact hm)
theorem Fn.aS{k:FuncId}{fn:Func}{c:Code}{a0:Value}{R:Value→Heap→Prop}(hf:P.funcs[k]? =some fn)(hb:fn.body=some c)(hn:(fn.name== "runtime.NumGoroutine")=false){m:Nat}(hm:1+(fn.ntmps-1)=m)(h:∀l,l.length=m→get l 0=a0→SW P c l H (zH P fn R)):Fn P k [a0] H R:=Fn.bc hf hb hn fun l hl=>h l (by rw[hl,du,gj];exact hm) (by rw[hl];rfl)
theorem Fn.aH{k:FuncId}{fn:Func}{c:Code}{a0 a1:Value}{R:Value→Heap→Prop}(hf:P.funcs[k]? =some fn)(hb:fn.body=some c)(hn:(fn.name== "runtime.NumGoroutine")=false){m:Nat}(hm:2+(fn.ntmps-2)=m)(h:∀l,l.length=m→get l 0=a0→get l 1=a1→SW P c l H (zH P fn R)):Fn P k [a0,a1] H R:=Fn.bc hf hb hn fun l hl=>h l (by rw[hl,du,gj];exact hm) (by rw[hl];rfl) (by rw[hl];rfl)
theorem Fn.cB{k:FuncId}{fn:Func}{c:Code}{a0 a1 a2:Value}{R:Value→Heap→Prop}(hf:P.funcs[k]? =some fn)(hb:fn.body=some c)(hn:(fn.name== "runtime.NumGoroutine")=false){m:Nat}(hm:3+(fn.ntmps-3)=m)(h:∀l,l.length=m→get l 0=a0→get l 1=a1→get l 2=a2→SW P c l H (zH P fn R)):Fn P k [a0,a1,a2] H R:=Fn.bc hf hb hn fun l hl=>h l (by rw[hl,du,gj];exact hm) (by rw[hl];rfl) (by rw[hl];rfl) (by rw[hl];rfl)
theorem Fn.cY{k:FuncId}{fn:Func}{c:Code}{a0 a1 a2 a3:Value}{R:Value→Heap→Prop}(hf:P.funcs[k]? =some fn)(hb:fn.body=some c)(hn:(fn.name== "runtime.NumGoroutine")=false){m:Nat}(hm:4+(fn.ntmps-4)=m)(h:∀l,l.length=m→get l 0=a0→get l 1=a1→get l 2=a2→get l 3=a3→SW P c l H (zH P fn R)):Fn P k [a0,a1,a2,a3] H R:=Fn.bc hf hb hn fun l hl=>h l (by rw[hl,du,gj];exact hm) (by rw[hl];rfl) (by rw[hl];rfl) (by rw[hl];rfl) (by rw[hl];rfl)
theorem St.cF{B:Base}{os:List Ob}{k:FuncId}{args:List Value}{v:Value}{K:Value→Heap→Prop}(hS:St P B H os)(h:Fn P k args H fun r H1=>r=v∧St P H H1 [])(hk:∀H1,St P B H1 os→K v H1):qW P k args H K:=iR h fun r H1⟨e,hT⟩=>by
 subst e
 have h1:=hS.trans hT
 rw[dA]at h1
 exact hk H1 h1
end
end Go.Ds
namespace Go.Ds
noncomputable section
variable {P:Program} {H0:Base} {H:Heap} {α:Type} {n:Nat} {cel:α→List Value} {v:Value} {xs:List α}
def iG[Inhabited α](xs:List α)(j:Nat):α:=xs.getD j default
theorem jV[Inhabited α](xs:List α)(j:Nat)(hj:j<xs.length):iG xs j=xs[j]:=by simp[iG,dj,hj]
theorem iM[Inhabited α]{xs:List α}{j:Nat}(hj:j<xs.length):iG xs j∈xs:=by rw[jV xs j hj];exact ga _
theorem b8S{β:Type}[Inhabited α][Inhabited β](f:α→β){xs:List α}{j:Nat}(hj:j<xs.length):iG (xs.map f) j=f (iG xs j):=by
 rw[jV _ _ (by simpa using hj),jV _ _ hj];simp
theorem a2C[Inhabited α](xs:List α)(j:Nat)(hj:j<xs.length):xs.take (j+1)=xs.take j++[iG xs j]:=by
 rw[jV _ _ hj,gq hj]
theorem oB[Inhabited α](xs:List α)(j:Nat)(hj:j<xs.length):xs.drop j=iG xs j::xs.drop (j+1):=by
 rw[jV _ _ hj,fz hj]
theorem jF(hc:∀x,(cel x).length=n):∀xs:List α,(xs.flatMap cel).length=xs.length*n
 | []=>by simp
 | x::xs=>by simp[dL,hc x,jF hc xs,fS,Nat.add_comm]
theorem tD(hc:∀x,(cel x).length=n):∀(xs:List α)(j:Nat),(xs.flatMap cel).drop (j*n)=(xs.drop j).flatMap cel
 | [],j=>by simp
 | x::xs,0=>by simp
 | x::xs,j+1=>by
   rw[dL,gy,←tD hc xs j,fS,Nat.add_comm,←fD]
   congr 1
   rw[←hc x,List.drop_left]
theorem a1w(hc:∀x,(cel x).length=n):∀(xs:List α)(j:Nat),(xs.flatMap cel).take (j*n)=(xs.take j).flatMap cel
 | [],j=>by simp
 | x::xs,0=>by simp
 | x::xs,j+1=>by
   rw[dL,List.take_succ_cons,dL,←a1w hc xs j,fS,Nat.add_comm]
   have:=List.take_length_add_append (l₁:=cel x) (l₂:=xs.flatMap cel) (j*n)
   rw[hc x]at this
   exact this
theorem a3c[Inhabited α](hc:∀x,(cel x).length=n)(xs:List α)(j f:Nat)(hj:j<xs.length)(hf:f<n):(xs.flatMap cel)[j*n+f]? =(cel (iG xs j))[f]?:=by
 have h1:(xs.flatMap cel)[j*n+f]? =((xs.flatMap cel).drop (j*n))[f]?:=by rw[dF]
 rw[h1,tD hc,oB xs j hj,dL,ew (by rw[hc];exact hf)]
theorem a3i[Inhabited α](hc:∀x,(cel x).length=n)(xs:List α)(j f m:Nat)(hj:j<xs.length)(hf:f+m≤n):((xs.flatMap cel).drop (j*n+f)).take m=((cel (iG xs j)).drop f).take m:=by
 rw[←fD,tD hc,oB xs j hj,dL,List.drop_append_of_le_length (by rw[hc];omega),List.take_append_of_le_length (by simp[hc];omega)]
structure Sl(n:Nat)(cel:α→List Value)(H:Heap)(v:Value)(xs:List α):Prop where
 rd:RdAt H v n (xs.flatMap cel)
 hc:∀x,(cel x).length=n
 pos:0<n
theorem Sl.len(h:Sl n cel H v xs)(m:Nat)(t:TypeId):a6t (some m) P H t v=some (.int .i64 xs.length):=by
 obtain⟨k,rfl⟩:∃k,n=k+1:=⟨n-1,by have:=h.pos;omega⟩
 exact h.rd.len (jF h.hc xs) m t
theorem Sl.idx(h:Sl n cel H v xs)(t:TypeId)(k:IntKind)(j:Int)(h0:0≤j)(h1:j<xs.length):wG (some n) P t v (.int k j)=some (jS v n j.toNat 0):=by
 obtain⟨k,rfl⟩:∃k,n=k+1:=⟨n-1,by have:=h.pos;omega⟩
 exact h.rd.idx (jF h.hc xs) t _ j h0 h1
theorem c2d{j m n:Nat}(hj:j<m)(hn:0<n):j*n<m*n:=Nat.mul_lt_mul_of_pos_right hj hn
theorem wX{j f m n:Nat}(hj:j<m)(hf:f≤n):j*n+f≤m*n:=by
 have:=dU n hj
 rw[fS]at this
 omega
theorem Sl.bp(h:Sl n cel H v xs)(j:Nat)(hj:j<xs.length)(g d:Nat):a6F (some d) (jS v n j g)=some (jS v n j (g+d)):=by
 obtain⟨k,rfl⟩:∃k,n=k+1:=⟨n-1,by have:=h.pos;omega⟩
 exact h.rd.bp j (by rw[jF h.hc];exact c2d hj (fh _)) g d
theorem Sl.ld[Inhabited α](h:Sl n cel H v xs)(s:Option Nat)(j f:Nat)(hj:j<xs.length)(hf:f<n):qC (some false) s H (jS v n j f)=(cel (iG xs j))[f]?:=by
 rw[h.rd.ld s j f (by rw[jF h.hc];exact dV (Nat.add_lt_add_left hf _) (wX hj (dm _))),a3c h.hc xs j f hj hf]
theorem Sl.ae[Inhabited α](h:Sl n cel H v xs)(j:Nat)(hj:j<xs.length):qC (some true) (some n) H (jS v n j 0)=some (.agg (cel (iG xs j)).toArray):=by
 rw[h.rd.ae n j 0 (by rw[jF h.hc];exact wX hj (dm _)) h.pos,a3i h.hc xs j 0 n hj (by omega)]
 rw[ir,List.take_of_length_le (by rw[h.hc];exact dm _)]
theorem Sl.cR[Inhabited α](h:Sl n cel H v xs)(m j f:Nat)(hj:j<xs.length)(hf:f+m≤n)(hm:0<m):qC (some true) (some m) H (jS v n j f)=some (.agg (((cel (iG xs j)).drop f).take m).toArray):=by
 rw[h.rd.ae m j f (by rw[jF h.hc,fZ];exact wX hj hf) hm,a3i h.hc xs j f m hj hf]
theorem Sl.cells(h:Sl n cel H v xs):v.cells=#[v]∧oneCell v=true∧mK v=true:=h.rd.cells
theorem St.sl{H0:Heap}{os:List Ob}(hS:St P H0 H os)(h:Sl n cel H0 v xs):Sl n cel H v xs:=⟨hS.base h.rd,h.hc,h.pos⟩
theorem Sl.ag{H':Heap}(h:Sl n cel H v xs)(hk:∀B,B<H.length→iT H' B=iT H B):Sl n cel H' v xs:=⟨h.rd.ag hk,h.hc,h.pos⟩
theorem St.az{os:List Ob}(hS:St P H0 H os)(i:Nat){m:Nat}(ho:os[i]? =some ⟨v,m+1,xs.flatMap cel⟩)(hc:∀x,(cel x).length=m+1):Sl (m+1) cel H v xs:=⟨hS.rd i ho,hc,fh _⟩
def one(f:α→Value):α→List Value:=fun x=>[f x]
theorem vE(f:α→Value)(x:α):(one f x).length=1:=rfl
end
end Go.Ds
namespace Go.Ds
open Go.RowKit
section
variable {P:Program} {ρ:Rho} {H:Heap} {w:World}
structure InW(P:Program)(ρ:Rho)(H:Heap)(w:World):Prop where
 rel:HRel P ρ H w
 shut:Shut ρ H
structure ExtW(ρ:Rho)(H:Heap)(ρ':Rho)(H':Heap):Prop where
 le:ρ.Le ρ'
 len:H.length≤H'.length
 old:∀B,B<H.length→iT H' B=iT H B
theorem ExtW.refl(ρ:Rho)(H:Heap):ExtW ρ H ρ H:=⟨.refl ρ,dm _,fun _ _=>rfl⟩
theorem ExtW.trans{ρ' ρ'':Rho}{H' H'':Heap}(h:ExtW ρ H ρ' H')(k:ExtW ρ' H' ρ'' H''):ExtW ρ H ρ'' H'':=
 ⟨h.le.trans k.le,dK h.len k.len,fun B hB=>by rw[k.old B (dV hB h.len),h.old B hB]⟩
theorem InW.none(w:World):InW P (fun _ _=>Option.none) .nil w:=⟨.none w,.none⟩
theorem InW.row(h:InW P ρ H w)(p:Place){cur:Array Value}{t':TypeId}{fr:Nat×Nat}(hb:w.heap[p.b]? =some (.cells cur t' fr)){ty:TypeId}(hty:iJ P ty=some p.k)(hsz:cur.size=p.sz)(cs:List Value)(ver:Nat)
 (hver:ver=1→p.b=H.length∧p.d=0) (hfit:(cs.length:Int)+p.d≤p.sz) (hcell:∀i c,i<cs.length→0≤(i:Int)+p.d→cs[i]? =some c→∃c',cur[p.at i]? =some c'∧C1 (ρ.put H.length cs.length p) c c'):
 InW P (ρ.put H.length cs.length p) (H.cons (.cells cs ty false 0 ver)) w∧ExtW ρ H (ρ.put H.length cs.length p) (H.cons (.cells cs ty false 0 ver)):=by
 have hno:∀f,ρ H.length f=Option.none:=fun f=>by
  cases hh:ρ H.length f with
  | none=>rfl
  | some q=>exact absurd (h.rel.dom _ _ _ hh).1 (eW _)
 have hle:ρ.Le (ρ.put H.length cs.length p):=.put (hno _)
 have hold:∀A f q,(ρ.put H.length cs.length p) A f=some q→(A=H.length∧f=cs.length∧q=p)∨(A<H.length∧ρ A f=some q):=fun A f q hq=>by
  by_cases hh:A=H.length∧f=cs.length
  ·obtain⟨rfl,rfl⟩:=hh;rw[Rho.ai]at hq;exact .inl ⟨rfl,rfl,(dc hq).symm⟩
  ·rw[Rho.aN hh]at hq;exact .inr ⟨(h.rel.dom _ _ _ hq).1,hq⟩
 have hgo:∀A,A<H.length→iT (H.cons (.cells cs ty false 0 ver)) A=iT H A:=fun A hA=>jU _ hA
 have hnew:∀A b,iT (H.cons (.cells cs ty false 0 ver)) A=some b→(A=H.length∧b=.cells cs ty false 0 ver)∨(A<H.length∧iT H A=some b):=fun A b hg=>by
  have hA:A<(H.cons (.cells cs ty false 0 ver)).length:=jP hg
  rw[length_cons]at hA
  by_cases he:A=H.length
  ·subst he;rw[iQ]at hg;exact .inl ⟨rfl,(dc hg).symm⟩
  ·rw[hgo A (by omega)]at hg;exact .inr ⟨by omega,hg⟩
 have hrw:∀A f q b,(ρ.put H.length cs.length p) A f=some q→iT (H.cons (.cells cs ty false 0 ver)) A=some b→b.wr=true→False:=fun A f q b hq hg hw=>by
  rcases hnew A b hg with⟨rfl,rfl⟩|⟨hA,hg⟩
  ·cases hw
  ·rcases hold A f q hq with⟨rfl,_⟩|⟨_,hq⟩
   ·exact absurd hA (eW _)
   ·exact h.shut q.b ⟨A,f,q,b,hq,rfl,hg,hw⟩
 refine⟨⟨⟨?_,?_,?_,?_,?_,?_,?_,?_⟩,?_⟩,hle,by rw[length_cons];omega,hgo⟩
 ·intro A f q hq
  rw[length_cons]
  rcases hold A f q hq with⟨rfl,rfl,rfl⟩|⟨hA,hq⟩
  ·exact⟨by omega,lZ hb⟩
  ·exact⟨by omega,(h.rel.dom _ _ _ hq).2⟩
 ·intro A cs' ty' rw' lo ver' hg
  rcases hnew A _ hg with⟨rfl,he⟩|⟨hA,hg⟩
  ·cases he
   refine⟨⟨p,Rho.ai ..⟩,fun e q hq=> ?_⟩
   rcases hold _ e q hq with⟨_,rfl,rfl⟩|⟨hA,_⟩
   ·exact⟨dm _,hty,hfit,cur,t',fr,hb,hsz,(fun hh=>by cases hh),fun _=>hcell⟩
   ·exact absurd hA (eW _)
  ·obtain⟨⟨q,hq⟩,hall⟩:=h.rel.cells _ _ _ _ _ _ hg
   refine⟨⟨q,hle _ _ _ hq⟩,fun e q hq=> ?_⟩
   rcases hold _ e q hq with⟨rfl,_,_⟩|⟨_,hq⟩
   ·exact absurd hA (eW _)
   ·exact(hall e q hq).world hle rfl
 ·intro A es ck ver' hg
  rcases hnew A _ hg with⟨rfl,he⟩|⟨hA,hg⟩
  ·cases he
  ·obtain⟨q,es',hq,hw,hall⟩:=h.rel.map _ _ _ _ hg
   exact⟨q,es',hle _ _ _ hq,hw,hall.mono fun _ _ x=>x.mono hle⟩
 ·intro A r hg
  rcases hnew A _ hg with⟨rfl,he⟩|⟨hA,hg⟩
  ·cases he
  ·obtain⟨q,r',hq,hw,hall⟩:=h.rel.loop _ _ hg
   exact⟨q,r',hle _ _ _ hq,hw,hall.mono hle⟩
 ·intro A f q b hq hg
  rcases hnew A b hg with⟨rfl,rfl⟩|⟨hA,hg⟩
  ·exact .inl rfl
  ·rcases hold A f q hq with⟨rfl,_⟩|⟨_,hq⟩
   ·exact absurd hA (eW _)
   ·exact h.rel.one _ _ _ _ hq hg
 ·intro A f q A2 f2 q2 b hq _ _ hg hw
  exact absurd hw fun hw=>(hrw A f q b hq hg hw).elim
 ·intro A hA
  rw[length_cons]at hA
  by_cases he:A=H.length
  ·subst he;rw[iQ];rfl
  ·rw[hgo A (by omega)];exact h.rel.full A (by omega)
 ·intro A cs' ty' lo hg
  rcases hnew A _ hg with⟨rfl,he⟩|⟨hA,hg⟩
  ·cases he
   exact⟨p,Rho.ai ..,hver rfl⟩
  ·obtain⟨q,h1,h2,h3⟩:=h.rel.glob _ _ _ _ hg
   exact⟨q,hle _ _ _ h1,h2,h3⟩
 ·rintro b⟨A,f,q,jY,hq,_,hg,hw⟩
  exact hrw A f q jY hq hg hw
theorem b4D{a:Addr}{i:Nat}{v:Value}(h:w.cell? (a.add i)=some v):∃cur t fr,w.heap[a.block]? =some (.cells cur t fr)∧(i=0→a.spot=Option.none)∧cur[a.off+i]? =some v:=by
 obtain⟨b,off,spot⟩:=a
 have hb:((⟨b,off,spot⟩:Addr).add i).block=b:=by unfold Addr.add;split<;>rfl
 have ho:((⟨b,off,spot⟩:Addr).add i).off=off+i:=by unfold Addr.add;split<;>simp_all
 unfold World.cell? at h
 rw[hb,ho]at h
 split at h
 ·rename_i cur t fr hcur
  split at h
  ·cases h
  ·rename_i hn
   refine⟨cur,t,fr,hcur,fun h0=> ?_,h⟩
   subst h0
   cases spot with
   | none=>rfl
   | some s=>exact absurd rfl hn
 ·cases h
theorem InW.slice(h:InW P ρ H w){b0:Nat}{cur0:Array Value}{t0:TypeId}{fr0:Nat×Nat}(hb0:w.heap[b0]? =some (.cells cur0 t0 fr0)){ty:TypeId}{size:Nat}(hty:iJ P ty=some size)(hs:0<size){a:Addr}{len cap:Nat}(hl:len≤cap)
 (hall:∀i,i<cap*size→(w.cell? (a.add i)).isSome=true) (cs:List Value) (hcs:cs.length=len*size) (hval:∀i c,cs[i]? =some c→∃c',w.cell? (a.add i)=some c'∧C1 ρ c c'):
 ∃ρ' H' v,InW P ρ' H' w∧ExtW ρ H ρ' H'∧C1 ρ' v (.slice (some a) len cap)∧RdAt H' v size cs:=by
 have hne:∀(q:Place)f,ρ.Le (ρ.put H.length f q):=fun q f=>.put (by
  cases hh:ρ H.length f with
  | none=>rfl
  | some q=>exact absurd (h.rel.dom _ _ _ hh).1 (eW _))
 by_cases hc:cap=0
 ·subst hc
  obtain rfl:len=0:=by omega
  obtain rfl:cs=[]:=by simpa using hcs
  obtain⟨h1,h2⟩:=h.row ⟨b0,0,cur0.size,size⟩ hb0 (ty:=ty) hty rfl [] 0 (fun hh=>by cases hh) (by simp) (fun i c hi=>by simp at hi)
  refine⟨_,_,.slice (some ⟨H.length,0,some 0⟩) 0 size,h1,h2,.c0 ?_,.inr ⟨_,_,_,_,_,false,0,0,0,iQ H _,dm _,eQ _,by simp,by simp,by simp,rfl⟩⟩
  exact C0.slice (p:=⟨b0,0,cur0.size,size⟩) (n:=0) (c':=0) (Rho.ai ..) (by simp) (by simp) ⟨dm _,by simp⟩ (.inr ⟨rfl,rfl⟩)
 ·have hpos:0<cap*size:=ia (by omega) hs
  obtain⟨v0,hv0⟩:=eL.1 (hall 0 hpos)
  obtain⟨cur,t,fr,hcur,hsp,_⟩:=b4D hv0
  have hsp:=hsp rfl
  obtain⟨b,off,spot⟩:=a
  simp only at hsp hcur
  subst hsp
  have iT:∀i c',w.cell? ((⟨b,off,Option.none⟩:Addr).add i)=some c'→cur[off+i]? =some c':=fun i c' hi=>by
   obtain⟨cur',_,_,hh,_,hx⟩:=b4D hi
   simp only at hh hx
   rw[hcur]at hh
   cases hh
   exact hx
  have hsz:off+cap*size≤cur.size:=by
   obtain⟨v,hv⟩:=eL.1 (hall (cap*size-1) (by omega))
   have:=(dz.1 (iT _ _ hv)).1
   omega
  have hlc:len*size≤cap*size:=dU _ hl
  obtain⟨h1,h2⟩:=h.row ⟨b,off,cur.size,size⟩ hcur (ty:=ty) hty rfl cs 0 (fun hh=>by cases hh) (by simp only[hcs];omega) (fun i c hi h0 hc=>by
   obtain⟨c',h3,h4⟩:=hval i c hc
   exact⟨c',by have:=iT _ _ h3;rw[show(⟨b,off,cur.size,size⟩:Place).at i=off+i from by simp only[Place.at];omega];exact this,h4.mono (hne _ _)⟩)
  refine⟨_,_,.slice (some ⟨H.length,0,some cs.length⟩) len size,h1,h2,.c0 ?_,.inr ⟨_,_,_,_,_,false,0,0,len,iQ H _,eQ _,dm _,by omega,by simp,hcs,rfl⟩⟩
  exact C0.slice (p:=⟨b,off,cur.size,size⟩) (n:=len) (c':=cap) (Rho.ai ..) (by simp) (by simp only;omega) ⟨hl,by simp only;omega⟩ (.inl ⟨by simp[Place.at],by simp[Place.at];exact hsz⟩)
end
end Go.Ds
namespace Go.Ds
noncomputable section
inductive Pth where
 | z
 | l (p:Pth)
 | r (p:Pth)
inductive Fr where
 | e
 | n (v:Value) (l r:Fr)
def a4N:Nat→Nat→Pth:=fun f=>Nat.rec (motive:=fun _=>Nat→Pth) (fun _=>.z) (fun _ ih k=>Nat.rec (motive:=fun _=>Pth) .z (fun k _=>Bool.rec (motive:=fun _=>Pth) (.r (ih (Nat.div k 2))) (.l (ih (Nat.div k 2))) (Nat.beq (Nat.mod k 2) 0)) k) f
def kW(k:Nat):Pth:=a4N k k
def nZ(p:Pth):Fr→Value:=Pth.rec (motive:=fun _=>Fr→Value)
 (fun f=>Fr.rec (motive:=fun _=>Value) undef (fun v _ _ _ _=>v) f)
 (fun _ ih f=>Fr.rec (motive:=fun _=>Value) undef (fun _ l _ _ _=>ih l) f)
 (fun _ ih f=>Fr.rec (motive:=fun _=>Value) undef (fun _ _ r _ _=>ih r) f) p
def pY{α:Type}(v:Value)(p:Pth):Fr→(Fr→α)→α:=Pth.rec (motive:=fun _=>Fr→(Fr→α)→α)
 (fun f K=>Fr.rec (motive:=fun _=>α) (K (.n v .e .e)) (fun _ l r _ _=>K (.n v l r)) f)
 (fun _ ih f K=>Fr.rec (motive:=fun _=>α) (ih .e fun l=>K (.n undef l .e)) (fun w l r _ _=>ih l fun l=>K (.n w l r)) f)
 (fun _ ih f K=>Fr.rec (motive:=fun _=>α) (ih .e fun r=>K (.n undef .e r)) (fun w l r _ _=>ih r fun r=>K (.n w l r)) f) p
def lR{α:Type}(p:Pth):(Pth→α)→α:=Pth.rec (motive:=fun _=>(Pth→α)→α) (fun K=>K .z) (fun _ ih K=>ih fun p=>K (.l p)) (fun _ ih K=>ih fun p=>K (.r p)) p
inductive LArg where
 | t (p:Pth)
 | c (v:Value)
def mU(f:Fr)(x:LArg):Value:=LArg.rec (motive:=fun _=>Value) (fun p=>nZ p f) (fun v=>v) x
inductive Rs where
 | no
 | ok (v:Value) (H:Heap)
 | th (v:Value) (H:Heap)
def oP{α:Type}(v:Value)(K:Value→α):α:=
 match v with
 | .bool b=>K (.bool b)
 | .int k n=>K (.int k n)
 | .string s=>K (.string s)
 | .pointer a=>K (.pointer a)
 | .slice a n c=>K (.slice a n c)
 | .map r=>K (.map r)
 | .func fn a b=>K (.func fn a b)
 | .agg cs=>K (.agg cs)
 | .tuple vs=>K (.tuple vs)
 | v=>K v
inductive LOp where
 | bad
 | mv (x:LArg)
 | pick (c a b:LArg)
 | bin (g:IntKind→Int→Int→Option Value) (x y:LArg)
 | not (x:LArg)
 | ld1 (x:LArg)
 | ldn (n:Nat) (x:LArg)
 | st (n:Nat) (x y:LArg)
 | fa (off:Nat) (x:LArg)
 | ixs (size:Nat) (x i:LArg)
 | ixa (n size:Nat) (x i:LArg)
 | ext (i:Nat) (x:LArg)
 | f1 (off:Nat) (x:LArg)
 | fn (off n:Nat) (x:LArg)
 | len (x:LArg)
 | slen (x:LArg)
 | app (elem size bytes:Nat) (x y:LArg)
 | alloc (t:TypeId) (cs:List Value)
 | callF (f:FuncId) (p:Pth) (args:List LArg)
 | callV (g:LArg) (args:List LArg)
 | gen (o:Oper)
inductive LOps where
 | nil
 | cons (d:Option Pth) (o:LOp) (rest:LOps)
 | gcons (p:Pth) (w:Bool) (d:Option Pth) (o:LOp) (rest:LOps)
inductive LCode where
 | bad
 | skip
 | reg (ops:LOps)
 | drw (ops:LOps) (tab:List (Nat×Option Nat×Option (Pth×Bool)×LOp))
 | seq (a b:LCode)
 | cond (c:LArg) (x y:LCode)
 | block (id:Nat) (b:LCode)
 | loop (b:LCode)
 | exit (id:Nat)
 | ret
 | range (g:LArg) (ps:List Pth) (pp:List Pth) (params:Array Tmp) (assign body:Code) (a b:LCode)
inductive LRes where
 | t (p:Pth)
 | c1 (p:Pth)
 | cn (n:Nat) (p:Pth)
structure LFunc where
 ps:List Pth
 body:LCode
 res:List LRes
inductive LT where
 | e
 | n (g:Option LFunc) (l r:LT)
def a1g(p:Pth):LT→Option LFunc:=Pth.rec (motive:=fun _=>LT→Option LFunc)
 (fun f=>LT.rec (motive:=fun _=>Option LFunc) none (fun v _ _ _ _=>v) f)
 (fun _ ih f=>LT.rec (motive:=fun _=>Option LFunc) none (fun _ l _ _ _=>ih l) f)
 (fun _ ih f=>LT.rec (motive:=fun _=>Option LFunc) none (fun _ _ r _ _=>ih r) f) p
def sI{α:Type}(v:LFunc)(p:Pth):LT→(LT→α)→α:=Pth.rec (motive:=fun _=>LT→(LT→α)→α)
 (fun f K=>LT.rec (motive:=fun _=>α) (K (.n (some v) .e .e)) (fun _ l r _ _=>K (.n (some v) l r)) f)
 (fun _ ih f K=>LT.rec (motive:=fun _=>α) (ih .e fun l=>K (.n none l .e)) (fun w l r _ _=>ih l fun l=>K (.n w l r)) f)
 (fun _ ih f K=>LT.rec (motive:=fun _=>α) (ih .e fun r=>K (.n none .e r)) (fun w l r _ _=>ih r fun r=>K (.n w l r)) f) p
structure LEnv where
 L:Nat
 ps:List Pth
 pp:List Pth
 a:LCode
 b:LCode
def b8Y(P:Program)(o:Oper)(ρ:Operand→Value)(H:Heap):Option (Value×Heap):=
 if o.op.operands.toList.all (fun x=>flat (ρ x))then
  match iP P (execOp ρ o)with
  | some (.value v)=>if flat v then some (v,H)else none
  | _=>none
 else none
def c1N(P:Program)(o:Oper)(ρ:Operand→Value)(H:Heap):Option (Value×Heap):=
 let keep (v:Option Value):Option (Value×Heap):=v.map fun v=>(v,H)
 let plain:Option (Value×Heap):=b8Y P o ρ H
 match o.op with
 | .move x|.assign x=>some (ρ x,H)
 | .pick c a b=>match ρ c with|.bool t=>some (if t then ρ a else ρ b,H)|_=>none
 | .alloc t=>(jG P t).bind fun z=>if jJ z then qT P H t z else none
 | .box t x=>wY P H t (ρ x)
 | .build t parts=>
   let ps:=parts.toList.map fun(i,x)=>(i,ρ x)
   if(jG P t).any jJ&&ps.all (fun x=>x.2.cells.toList.all oneCell)then
    (P.built t ps).map fun cs=>(.agg cs,H)
   else none
 | .buildSlice t len parts=>
   (iL P t).bind fun elem=>(iJ P elem).bind fun size=>(jG P elem).bind fun z=>
   let ps:=parts.toList.map fun(i,x)=>(i,ρ x)
   if len==0&&ps.isEmpty&&size !=0 then some (.slice (some ⟨H.length,0,some 0⟩) 0 size,rN H elem [])else
   if jJ z&&ps.all (fun x=>x.2.cells.toList.all oneCell)&&len*size≤2^24&&len*size !=0&&z.cells.size==size then
    (Instr.fill (fun i=>some (i*size,size)) ((Array.range (len*size)).map (z.cells[·%z.cells.size]!)) ps).map fun cs=>
      (.slice (some ⟨H.length,0,some cs.toList.length⟩) len size,rN H elem cs.toList)
   else none
 | .makeSlice t n c=>
   (iL P t).bind fun elem=>(iJ P elem).bind fun size=>(nQ P elem).bind fun bytes=>(jG P elem).bind fun z=>
   match ρ n,ρ c with
   | .int .i64 a,.int .i64 b=>
     if jJ z&&decide (a≤b)&&0≤a&&b*(bytes+1)≤(oT:Int)&&size !=0&&z.cells.size==size then
      let cs:=if size=1 then List.replicate b.toNat (z.cells[0]!)else(madeCells z.cells (b.toNat*size)).toList
      some (.slice (some ⟨H.length,0,some cs.length⟩) a.toNat size,rN H elem cs)
     else none
   | _,_=>none
 | .load t a=>keep (mJ P H t (ρ a))
 | .store t a x=>(qO P H t (ρ a) (ρ x)).map fun H=>(undef,H)
 | .nilCheck x=>match ρ x with
   | .pointer (some a)=>some (.pointer (some a),H)
   | .func (.func f) a b=>some (.func (.func f) a b,H)
   | _=>none
 | .fieldAddr s x f=>match ρ x with
   | .pointer (some ⟨A,i,some e⟩)=>(oK P s f).bind fun fd=>(iJ P fd.type).bind fun n=>if n==0 then none else some (.pointer (some ⟨A,i+fd.offset,some e⟩),H)
   | _=>none
 | .indexAddr t x ix=>match P.underlying t,ρ x,ρ ix with
   | some (.slice elem),.slice (some ⟨A,i,some e⟩) n _,.int _ j=>(iJ P elem).bind fun size=>
     if 0≤j&&j<n then some (.pointer (some ⟨A,i+j.toNat*size,some e⟩),H)else none
   | some (.array n elem),.pointer (some ⟨A,i,some e⟩),.int _ j=>(iJ P elem).bind fun size=>
     if 0≤j&&j<n then some (.pointer (some ⟨A,i+j.toNat*size,some e⟩),H)else none
   | some (.array n elem),.pointer (some ⟨A,i,none⟩),.int _ j=>(iJ P elem).bind fun size=>
     if 0≤j&&j<n then some (.pointer (some ⟨A,i+j.toNat*size,none⟩),H)else none
   | _,_,_=>none
 | .slice t x lo hi none=>if flat (ρ x)then plain else match kD P t with
   | some (n,elem)=>keep (a5n P H n elem (ρ x) (lo.map ρ) (hi.map ρ))
   | none=>keep (vX P t (ρ x) (lo.map ρ) (hi.map ρ))
 | .field t x f=>if flat (ρ x)then plain else
   match ρ x with
   | .agg cs=>(oK P t f).bind fun fd=>match kH P fd.type with
     | some true=>(iJ P fd.type).map fun n=>(.agg (cs.extract fd.offset (fd.offset+n)),H)
     | some false=>(cs[fd.offset]?).map fun v=>(v,H)
     | none=>none
   | _=>none
 | .extract t i=>match ρ t with
   | .tuple vs=>(vs[i]?).map fun v=>(v,H)
   | _=>none
 | .makeFunc fn first captured=>match fn with
   | .func f=>if(first++captured).toList.all (fun x=>mK (ρ x))then some (.func (.func f) (first.map ρ) (captured.map ρ),H)else none
   | _=>none
 | .binOp op t x y _=>match op,ρ x,ρ y with
   | .eql,.slice (some _) _ _,.slice none 0 0=>if((P.underlying t).map vC)==some true then some (.bool false,H)else none
   | .neq,.slice (some _) _ _,.slice none 0 0=>if((P.underlying t).map vC)==some true then some (.bool true,H)else none
   | op,.int k a,.int k' b=>if k=k' then(match mV op k a b with|some v=>some (v,H)|none=>plain)else plain
   | .eql,.pointer (some _),.pointer none=>if tP P t then some (.bool false,H)else none
   | .neq,.pointer (some _),.pointer none=>if tP P t then some (.bool true,H)else none
   | .eql,.pointer (some ⟨A,i,some e⟩),.pointer (some ⟨A',i',some e'⟩)=>if tP P t&&A==A'&&i==i'&&e==e' then some (.bool true,H)else none
   | .neq,.pointer (some ⟨A,i,some e⟩),.pointer (some ⟨A',i',some e'⟩)=>if tP P t&&A==A'&&i==i'&&e==e' then some (.bool false,H)else none
   | _,_,_=>plain
 | .call c=>match c.callee with
   | .builtin .len=>if c.args.size==1&&c.argTypes.size==1 then
      match (P.underlying (c.argTypes.getD 0 0)),ρ (c.args.getD 0 (.tmp 0))with
      | some (.slice _),.slice a n k=>keep (wT H (.slice a n k))
      | some .string,.string s=>keep (wT H (.string s))
      | some (.map _ _),.map r=>keep (wT H (.map r))
      | _,_=>none
     else none
   | .builtin .append=>if c.args.size==2&&c.argTypes.size==2&&((P.underlying (c.argTypes.getD 1 0)).map pX)==some true then
      nL P H (c.argTypes.getD 0 0) (ρ (c.args.getD 0 (.tmp 0))) (ρ (c.args.getD 1 (.tmp 0)))
     else none
   | .builtin .copy=>if c.args.size==2&&c.argTypes.size==2 then a1t P H (c.argTypes.getD 0 0) (ρ (c.args.getD 0 (.tmp 0))) (ρ (c.args.getD 1 (.tmp 0)))else none
   | .builtin .clear=>if c.args.size==1&&c.argTypes.size==1 then tF P H (c.argTypes.getD 0 0) (ρ (c.args.getD 0 (.tmp 0)))else none
   | .builtin .cap=>plain
   | .builtin .unsafeSliceData=>if c.args.size==1&&c.argTypes.size==1 then match ρ (c.args.getD 0 (.tmp 0))with
      | .slice (some a) n _=>if n==0 then none else some (.pointer (some a),H)
      | _=>none
     else none
   | .builtin .unsafeString=>if c.args.size==2&&c.argTypes.size==2 then vK P H (c.argTypes.getD 0 0) (ρ (c.args.getD 0 (.tmp 0))) (ρ (c.args.getD 1 (.tmp 0)))else none
   | .builtin .max=>plain
   | .builtin .min=>plain
   | _=>none
 | .unOp op _ x=>match op,ρ x with
   | .not,.bool b=>some (.bool (!b),H)
   | _,_=>plain
 | .makeMap t r=>pI P H t (r.map ρ)
 | .lookup t x k c=>keep (pE P H t (ρ x) (ρ k) c)
 | .mapUpdate t m k v=>(a0S P H t (ρ m) (ρ k) (ρ v)).map fun H=>(undef,H)
 | .mapEntry t m k=>sN P H t (ρ m) (ρ k)
 | .entryStore _ m b v=>(rL H (ρ m) (ρ b) (ρ v)).map fun H=>(undef,H)
 | .convert s t x=>if flat (ρ x)&& !(mC P t)then plain else match ρ x with
   | .slice (some ⟨A,i,some e⟩) n _=>if mC P s&&pW P t then keep ((jK H A i e n).bind fun l=>(pO l).map .string)else none
   | .string b=>if mC P t&&pW P s&&b.size≤2^40 then(iL P t).bind fun elem=>some (.slice (some ⟨H.length,0,some b.size⟩) b.size 1,b6Z H elem (b.data.toList.map fun c=>.int .u8 c.toNat))else none
   | .pointer (some ⟨A,0,some e⟩)=>if a3p P H s t A e then some (.pointer (some ⟨A,0,some e⟩),H)else none
   | _=>none
 | .index _ _ _=>plain
 | .makeInterface _ _=>plain
 | _=>none
def nY{α:Type}(b:Bool)(no:α)(x:α):α:=Bool.rec (motive:=fun _=>α) no x b
def a7k{α:Type}(cs:List α):Nat→Bool:=List.rec (motive:=fun _=>Nat→Bool) (fun e=>Nat.beq e 0) (fun _ _ ih e=>Nat.rec (motive:=fun _=>Bool) true (fun m _=>ih m) e) cs
def a3M{α:Type}(cs:List α):Nat→Bool:=List.rec (motive:=fun _=>Nat→Bool) (fun e=>Nat.beq e 0) (fun _ _ ih e=>Nat.rec (motive:=fun _=>Bool) false (fun m _=>ih m) e) cs
def a0P{α:Type}(cs:List α):Nat→Option α:=List.rec (motive:=fun _=>Nat→Option α) (fun _=>none) (fun v _ ih e=>Nat.rec (motive:=fun _=>Option α) (some v) (fun m _=>ih m) e) cs
def a1p{α:Type}(cs:List α):Nat→(List α→Rs)→Rs:=List.rec (motive:=fun _=>Nat→(List α→Rs)→Rs) (fun n K=>Nat.rec (motive:=fun _=>Rs) (K []) (fun _ _=>.no) n) (fun v _ ih n K=>Nat.rec (motive:=fun _=>Rs) (K []) (fun m _=>ih m fun l=>K (v::l)) n) cs
def b0u{α:Type}(cs:List α):Nat→List α:=List.rec (motive:=fun _=>Nat→List α) (fun _=>[]) (fun v t ih n=>Nat.rec (motive:=fun _=>List α) (v::t) (fun m _=>ih m) n) cs
def kIx(k:IntKind):Nat:=IntKind.rec (motive:=fun _=>Nat) 0 1 2 3 4 5 6 7 k
def hMv(x:LArg)(f:Fr)(H:Heap):Rs:=oP (mU f x) fun v=>.ok v H
def b7s(c a b:LArg)(f:Fr)(H:Heap):Rs:=match mU f c with
 | .bool t=>oP (mU f (Bool.rec (motive:=fun _=>LArg) b a t)) fun v=>.ok v H
 | _=>.no
def oV(v:Option Value)(H:Heap):Rs:=Option.rec (motive:=fun _=>Rs) .no (fun v=>.th v H) v
def c0y(g:IntKind→Int→Int→Option Value)(k:IntKind)(a:Int)(H:Heap)(y:Value):Rs:=match y with
 | .int k' b=>nY (Nat.beq (kIx k) (kIx k')) .no (oV (g k a b) H)
 | _=>.no
def c1W(g:IntKind→Int→Int→Option Value)(x y:LArg)(f:Fr)(H:Heap):Rs:=match mU f x with
 | .int k a=>c0y g k a H (mU f y)
 | _=>.no
def c5L(x:LArg)(f:Fr)(H:Heap):Rs:=match mU f x with
 | .bool b=>.ok (.bool (Bool.rec (motive:=fun _=>Bool) true false b)) H
 | _=>.no
def b7D(b:Option Blk)(i e:Nat)(H:Heap):Rs:=match b with
 | some (.cells cs _ _ lo _)=>nY (Nat.ble lo e) .no (nY (a7k cs e) .no (nY (Nat.ble (Nat.succ i) e) .no (Option.rec (motive:=fun _=>Rs) .no (fun v=>oP v fun v=>.ok v H) (a0P cs i))))
 | _=>.no
def c1r(b:Option Blk)(i:Nat)(H:Heap):Rs:=match b with
 | some (.cells cs _ false lo 1)=>nY (a7k cs lo) .no (Option.rec (motive:=fun _=>Rs) .no (fun v=>oP v fun v=>.ok v H) (a0P cs i))
 | _=>.no
def b2W(x:LArg)(f:Fr)(H:Heap):Rs:=match mU f x with
 | .pointer (some ⟨A,i,some e⟩)=>b7D (iT H A) i e H
 | .pointer (some ⟨A,i,none⟩)=>c1r (iT H A) i H
 | _=>.no
def b8Z(b:Option Blk)(n i e:Nat)(H:Heap):Rs:=match b with
 | some (.cells cs _ _ lo _)=>nY (Nat.ble lo e) .no (nY (a7k cs e) .no (nY (Nat.ble (Nat.add i n) e) .no (a1p (b0u cs i) n fun l=>.ok (.agg ⟨l⟩) H)))
 | _=>.no
def b2y(n:Nat)(x:LArg)(f:Fr)(H:Heap):Rs:=match mU f x with
 | .pointer (some ⟨A,i,some e⟩)=>b8Z (iT H A) n i e H
 | _=>.no
def stB(b:Option Blk)(n A i e:Nat)(vs:List Value)(H:Heap):Rs:=match b with
 | some (.cells cs ty true lo ver)=>nY (a3M vs n) .no (nY (vs.all oneCell) .no (nY (a3M cs e) .no (nY (Nat.ble (Nat.add i n) e) .no (nY (Nat.ble lo e) .no
    (.th undef (hset H A (.cells (jC cs i vs) ty true e ver)))))))
 | _=>.no
def hSt(n:Nat)(x y:LArg)(f:Fr)(H:Heap):Rs:=match mU f x with
 | .pointer (some ⟨A,i,some e⟩)=>stB (iT H A) n A i e (mU f y).cells.toList H
 | _=>.no
def hFa(off:Nat)(x:LArg)(f:Fr)(H:Heap):Rs:=match mU f x with
 | .pointer (some ⟨A,i,some e⟩)=>kF (Nat.add i off) fun i=>.ok (.pointer (some ⟨A,i,some e⟩)) H
 | _=>.no
def ixP(A i e size n:Nat)(H:Heap)(j:Value):Rs:=match j with
 | .int _ (.ofNat j)=>nY (Nat.blt j n) .no (kF (Nat.add i (Nat.mul j size)) fun i=>.ok (.pointer (some ⟨A,i,some e⟩)) H)
 | _=>.no
def c1d(size:Nat)(x i:LArg)(f:Fr)(H:Heap):Rs:=match mU f x with
 | .slice (some ⟨A,a,some e⟩) n _=>ixP A a e size n H (mU f i)
 | _=>.no
def ixG(A i size n:Nat)(H:Heap)(j:Value):Rs:=match j with
 | .int _ (.ofNat j)=>nY (Nat.blt j n) .no (kF (Nat.add i (Nat.mul j size)) fun i=>.ok (.pointer (some ⟨A,i,none⟩)) H)
 | _=>.no
def c1B(n size:Nat)(x i:LArg)(f:Fr)(H:Heap):Rs:=match mU f x with
 | .pointer (some ⟨A,a,some e⟩)=>ixP A a e size n H (mU f i)
 | .pointer (some ⟨A,a,none⟩)=>ixG A a size n H (mU f i)
 | _=>.no
def okV(v:Option Value)(H:Heap):Rs:=Option.rec (motive:=fun _=>Rs) .no (fun v=>oP v fun v=>.ok v H) v
def c1R(i:Nat)(x:LArg)(f:Fr)(H:Heap):Rs:=match mU f x with
 | .tuple ⟨vs⟩=>okV (a0P vs i) H
 | _=>.no
def hF1(off:Nat)(x:LArg)(f:Fr)(H:Heap):Rs:=match mU f x with
 | .agg ⟨cs⟩=>okV (a0P cs off) H
 | _=>.no
def hFn(off n:Nat)(x:LArg)(f:Fr)(H:Heap):Rs:=match mU f x with
 | .agg ⟨cs⟩=>a1p (b0u cs off) n fun l=>.ok (.agg ⟨l⟩) H
 | _=>.no
def c1C(x:LArg)(f:Fr)(H:Heap):Rs:=match mU f x with
 | .slice _ n _=>.th (goInt n) H
 | _=>.no
def b4a(x:LArg)(f:Fr)(H:Heap):Rs:=match mU f x with
 | .string s=>.th (goInt s.size) H
 | _=>.no
def c3l(b:Option Blk)(elem size bytes A i e k:Nat)(n:Nat)(l:List Value)(P:Program)(H:Heap):Rs:=match b with
 | some (.cells cs ty true lo ver)=>nY (Bool.rec (motive:=fun _=>Bool) (iJ P ty==some size) true (Nat.beq ty elem)) .no (nY (a3M cs e) .no (nY (Nat.ble lo e) .no
    (nY (Nat.beq (Nat.add i (Nat.mul k size)) e)
      (nY (Nat.beq n 0) (nY (Nat.ble (Nat.add i (Nat.mul (Nat.add k n) size)) e) .no (.th (.slice (some ⟨A,i,some e⟩) (k+n) size) (hset H A (.cells (jC cs (i+k*size) l) ty true e ver)))) .no)
      (nY (Nat.ble (Nat.mul (Nat.add k n) (Nat.succ bytes)) oT) .no (.th (.slice (some ⟨A,i,some (e+l.length)⟩) (k+n) size) (hset H A (.cells (a5j cs l) ty true lo (Bool.rec (motive:=fun _=>Nat) 2 ver (Nat.beq ty elem)))))))))
 | _=>.no
def c3L(P:Program)(elem size bytes:Nat)(s:Value)(H:Heap)(n:Nat)(l:List Value):Rs:=match s with
 | .slice none k c=>nY (Nat.beq k 0) .no (nY (Nat.beq c 0) .no (nY (Nat.ble (Nat.mul n (Nat.succ bytes)) oT) .no (nY (Nat.beq n 0) (.th (.slice (some ⟨H.length,0,some l.length⟩) n size) (rN H elem l)) (.ok (.slice none 0 0) H))))
 | .slice (some ⟨A,i,some e⟩) k _=>c3l (iT H A) elem size bytes A i e k n l P H
 | _=>.no
def c1T(P:Program)(elem size bytes:Nat)(x y:LArg)(f:Fr)(H:Heap):Rs:=match zN H size (mU f y)with
 | some (n,l)=>c3L P elem size bytes (mU f x) H n l
 | none=>.no
def c1o(t:TypeId)(cs:List Value)(_:Fr)(H:Heap):Rs:=.th (.pointer (some ⟨H.length,0,some cs.length⟩)) (rN H t cs)
def evF(f:Fr):Operand→Value
 | .tmp t=>nZ (kW t) f
 | .const v=>v
 | .global g=>.pointer (some ⟨g,0,none⟩)
 | .func k=>.func (.func k) #[] #[]
def c5q(P:Program)(o:Oper)(f:Fr)(H:Heap):Rs:=match c1N P o (evF f) H with
 | some (v,H1)=>.th v H1
 | none=>.no
def a3f{α:Type}(f:Fr)(l:List LArg):(List Value→α)→α:=List.rec (motive:=fun _=>(List Value→α)→α) (fun K=>K []) (fun x _ ih K=>oP (mU f x) fun v=>ih fun l=>K (v::l)) l
structure Calls' where
 fn:Pth→FuncId→List Value→Heap→Rs
 rd:Nat→List Value→Heap→Rs
def c1v(C:Calls')(k:FuncId)(p:Pth)(args:List LArg)(f:Fr)(H:Heap):Rs:=a3f f args fun l=>C.fn p k l H
def a9n(C:Calls')(l:List Value)(H:Heap)(g:Value):Rs:=match g with
 | .func (.func k) ⟨a⟩ ⟨b⟩=>kF k fun k=>lR (kW k) fun p=>C.fn p k (a5j a (a5j l b)) H
 | .func (.yield L) _ _=>C.rd L l H
 | _=>.no
def c0V(C:Calls')(g:LArg)(args:List LArg)(f:Fr)(H:Heap):Rs:=a3f f args fun l=>a9n C l H (mU f g)
def c5h(_:Fr)(_:Heap):Rs:=.no
def opF(P:Program)(C:Calls')(o:LOp):Fr→Heap→Rs:=
 LOp.rec (motive:=fun _=>Fr→Heap→Rs) c5h hMv b7s c1W c5L b2W b2y hSt hFa c1d c1B c1R hF1 hFn c1C b4a (c1T P) c1o (c1v C) (c0V C) (c5q P) o
inductive Rf where
 | no
 | ok (f:Fr) (H:Heap)
def tY{α:Type}(d:Option Pth)(v:Value)(f:Fr)(K:Fr→α):α:=Option.rec (motive:=fun _=>α) (K f) (fun p=>pY v p f K) d
def b0h{α:Type}(no:α)(d:Option Pth)(f:Fr)(K:Fr→Heap→α)(r:Rs):α:=
 Rs.rec (motive:=fun _=>α) no (fun v H=>tY d v f fun f=>K f H) (fun v H=>yO v fun v=>nS H fun H=>tY d v f fun f=>K f H) r
def isB(v:Value)(w:Bool):Bool:=match v with
 | .bool b=>Bool.rec (motive:=fun _=>Bool) (Bool.rec (motive:=fun _=>Bool) true false w) w b
 | _=>false
def xA(P:Program)(C:Calls')(ops:LOps):Fr→Heap→Rf:=LOps.rec (motive:=fun _=>Fr→Heap→Rf)
 (fun f H=>.ok f H)
 (fun d o _ ih f H=>b0h .no d f ih (opF P C o f H))
 (fun p w d o _ ih f H=>nY (isB (nZ p f) w) (tY d undef f fun f=>ih f H) (b0h .no d f ih (opF P C o f H))) ops
inductive Rt where
 | no
 | ok (tr:List (Fr×Heap×Value)) (f:Fr) (H:Heap)
def b1d(tr:List (Fr×Heap×Value))(f0:Fr)(H0:Heap)(d:Option Pth)(K:List (Fr×Heap×Value)→Fr→Heap→Rt)(r:Rs):Rt:=
 Rs.rec (motive:=fun _=>Rt) .no (fun v H=>tY d v f0 fun f=>K ((f0,H0,v)::tr) f H) (fun v H=>yO v fun v=>nS H fun H=>tY d v f0 fun f=>K ((f0,H0,v)::tr) f H) r
def rG(P:Program)(C:Calls')(ops:LOps):List (Fr×Heap×Value)→Fr→Heap→Rt:=LOps.rec (motive:=fun _=>List (Fr×Heap×Value)→Fr→Heap→Rt)
 (fun tr f H=>.ok tr f H)
 (fun d o _ ih tr f H=>b1d tr f H d ih (opF P C o f H))
 (fun p w d o _ ih tr f H=>nY (isB (nZ p f) w) (tY d undef f fun f1=>ih ((f,H,undef)::tr) f1 H) (b1d tr f H d ih (opF P C o f H))) ops
def b9r(v:Value)(r:Rs):Bool:=Rs.rec (motive:=fun _=>Bool) false (fun w _=>veq w v) (fun w _=>veq w v) r
def b4B(f:Fr)(g:Option (Pth×Bool)):Bool:=match g with
 | none=>true
 | some (p,w)=>isB (nZ p f) w
def b6U(P:Program)(C:Calls')(tr:List (Fr×Heap×Value))(H1:Heap)(x:Nat×Option Nat×Option (Pth×Bool)×LOp):Bool:=
 match a0P tr x.1 with
 | some (f,_,v)=>nY (b4B f x.2.2.1) true (match x.2.1 with
   | none=>b9r v (opF P C x.2.2.2 f H1)
   | some m=>match a0P tr m with
     | some (_,H,_)=>b9r v (opF P C x.2.2.2 f H)
     | none=>false)
 | none=>false
def b5c{α:Type}(p:α→Bool)(l:List α):Bool:=List.rec (motive:=fun _=>Bool) true (fun x _ ih=>nY (p x) false ih) l
inductive Rc where
 | no
 | ok (e:Ex) (f:Fr) (H:Heap)
def c3n(r:Rf):Rc:=Rf.rec (motive:=fun _=>Rc) .no (fun f H=>.ok .normal f H) r
def c0A(P:Program)(C:Calls')(tab:List (Nat×Option Nat×Option (Pth×Bool)×LOp))(r:Rt):Rc:=Rt.rec (motive:=fun _=>Rc) .no (fun tr f H=>nY (b5c (b6U P C tr H) tab) .no (.ok .normal f H)) r
def pB{α:Type}(no:α)(l:List Value):List Pth→Fr→(Fr→α)→α:=List.rec (motive:=fun _=>List Pth→Fr→(Fr→α)→α) (fun _ f K=>K f)
 (fun v _ ih ps f K=>List.rec (motive:=fun _=>α) no (fun p ps _=>pY v p f fun f=>ih ps f K) ps) l
def a3s(H:Heap)(f:Fr)(r:LRes):Rs:=LRes.rec (motive:=fun _=>Rs) (fun p=>oP (nZ p f) fun v=>.ok v H) (fun p=>b2W (.t p) f H) (fun n p=>b2y n (.t p) f H) r
def b4F(H:Heap)(f:Fr)(l:List LRes):(List Value→Rs)→Rs:=List.rec (motive:=fun _=>(List Value→Rs)→Rs) (fun K=>K []) (fun r _ ih K=>Rs.rec (motive:=fun _=>Rs) .no (fun v _=>ih fun l=>K (v::l)) (fun _ _=>.no) (a3s H f r)) l
def noT(v:Value):Bool:=match v with|.tuple _=>false|_=>true
def a7S(l:List LRes)(f:Fr)(H:Heap):Rs:=match l with
 | [r]=>a3s H f r
 | l=>b4F H f l fun vs=>nY (b5c noT vs) .no (.ok (.tuple ⟨vs⟩) H)
def c2s(l:List LRes)(r:Rc):Rs:=match r with
 | .ok .normal f H=>a7S l f H
 | .ok .ret f H=>a7S l f H
 | _=>.no
abbrev qE:=List LEnv→LCode→Fr→Heap→Rc
def c1s(P:Program)(k:FuncId)(args:List Value)(H:Heap):Rs:=match qF P k args H with
 | some (v,H1)=>.th v H1
 | none=>.no
def nT(T:LT)(ih:qE)(E:List LEnv)(p:Pth)(args:List Value)(H:Heap):Rs:=match a1g p T with
 | some g=>pB .no args g.ps .e fun f=>c2s g.res (ih E g.body f H)
 | none=>.no
def b6T(P:Program)(T:LT)(ih:qE)(E:List LEnv)(p:Pth)(k:FuncId)(args:List Value)(H:Heap):Rs:=match a1g p T with
 | some g=>pB .no args g.ps .e fun f=>c2s g.res (ih E g.body f H)
 | none=>c1s P k args H
def b7r(E:List LEnv)(L:Nat):Option LEnv:=List.rec (motive:=fun _=>Option LEnv) none (fun e _ ih=>nY (Nat.beq e.L L) ih (some e)) E
def c0N(e:Ex):Option Code:=match e with|.normal=>none|.ret=>some .ret|.exit id=>some (.exit id)
def a1C(L:Nat)(e:Ex)(H:Heap):Rs:=match iT H L with
 | some (.loop ⟨_,_,fn,tmps,ps,a,b,d⟩)=>match c0N e with
   | none=>.th (.bool true) (hset H L (.loop ⟨.ready,none,fn,tmps,ps,a,b,d⟩))
   | some c=>.th (.bool false) (hset H L (.loop ⟨.done,some c,fn,tmps,ps,a,b,d⟩))
 | _=>.no
def b2m(L:Nat)(r:Rc):Rs:=match r with
 | .ok e _ H=>a1C L e H
 | .no=>.no
def a0b(ih:qE)(E:List LEnv)(en:LEnv)(f:Fr)(H:Heap):Rs:=match iT H en.L with
 | some (.loop ⟨.ready,p,fn,tmps,ps,a,b,d⟩)=>nS (hset H en.L (.loop ⟨.busy,p,fn,tmps,ps,a,b,d⟩)) fun H=>b2m en.L (ih E en.b f H)
 | _=>.no
def sQ(ih:qE)(E:List LEnv)(en:LEnv)(r:Rc):Rs:=match r with
 | .ok .normal f H=>a0b ih E en f H
 | _=>.no
def a8L(ih:qE)(E:List LEnv)(L:Nat)(args:List Value)(H:Heap):Rs:=match b7r E L with
 | some en=>match iT H L with
   | some (.loop ⟨.ready,_,_,⟨tmps⟩,ps,_,_,_⟩)=>nY (a3M args ps.size) .no (pB .no tmps en.ps .e fun f=>pB .no args en.pp f fun f=>sQ ih E en (ih E en.a f H))
   | _=>.no
 | none=>.no
def zS(P:Program)(T:LT)(ih:qE)(E:List LEnv):Calls':=⟨b6T P T ih E,a8L ih E⟩
def c5R(_:Fr)(_:Heap):Rc:=.no
def c2S(f:Fr)(H:Heap):Rc:=.ok .normal f H
def c4D(P:Program)(T:LT)(ih:qE)(E:List LEnv)(ops:LOps)(f:Fr)(H:Heap):Rc:=c3n (xA P (zS P T ih E) ops f H)
def c5z(P:Program)(T:LT)(ih:qE)(E:List LEnv)(ops:LOps)(tab:List (Nat×Option Nat×Option (Pth×Bool)×LOp))(f:Fr)(H:Heap):Rc:=c0A P (zS P T ih E) tab (rG P (zS P T ih E) ops [] f H)
def b8B(ih:qE)(E:List LEnv)(b:LCode)(r:Rc):Rc:=match r with
 | .ok .normal f H=>ih E b f H
 | r=>r
def c4X(ih:qE)(E:List LEnv)(a b:LCode)(_ _:Fr→Heap→Rc)(f:Fr)(H:Heap):Rc:=b8B ih E b (ih E a f H)
def b6D(ih:qE)(E:List LEnv)(c:LArg)(x y:LCode)(_ _:Fr→Heap→Rc)(f:Fr)(H:Heap):Rc:=match mU f c with
 | .bool t=>ih E (Bool.rec (motive:=fun _=>LCode) y x t) f H
 | _=>.no
def c4t(id:Nat)(r:Rc):Rc:=match r with
 | .ok (.exit i) f H=>.ok (Bool.rec (motive:=fun _=>Ex) (.exit i) .normal (Nat.beq i id)) f H
 | r=>r
def c2c(ih:qE)(E:List LEnv)(id:Nat)(b:LCode)(_:Fr→Heap→Rc)(f:Fr)(H:Heap):Rc:=c4t id (ih E b f H)
def c3N(ih:qE)(E:List LEnv)(b:LCode)(_:Fr→Heap→Rc)(f:Fr)(H:Heap):Rc:=b8B ih E (.loop b) (ih E b f H)
def c4k(id:Nat)(f:Fr)(H:Heap):Rc:=.ok (.exit id) f H
def c5B(f:Fr)(H:Heap):Rc:=.ok .ret f H
def frL{α:Type}(f:Fr)(ps:List Pth):(List Value→α)→α:=List.rec (motive:=fun _=>(List Value→α)→α) (fun K=>K []) (fun p _ ih K=>oP (nZ p f) fun v=>ih fun l=>K (v::l)) ps
def uD(L:Nat)(f:Fr)(H:Heap):Rc:=match iT H L with
 | some (.loop ⟨.ready,none,fn,tmps,ps,a,b,d⟩)=>nS (hset H L (.loop ⟨.exhausted,none,fn,tmps,ps,a,b,d⟩)) fun H=>.ok .normal f H
 | some (.loop ⟨.done,none,fn,tmps,ps,a,b,d⟩)=>nS (hset H L (.loop ⟨.exhausted,none,fn,tmps,ps,a,b,d⟩)) fun H=>.ok .normal f H
 | some (.loop ⟨.done,some .ret,fn,tmps,ps,a,b,d⟩)=>nS (hset H L (.loop ⟨.exhausted,some .ret,fn,tmps,ps,a,b,d⟩)) fun H=>.ok .ret f H
 | some (.loop ⟨.done,some (.exit id),fn,tmps,ps,a,b,d⟩)=>nS (hset H L (.loop ⟨.exhausted,some (.exit id),fn,tmps,ps,a,b,d⟩)) fun H=>.ok (.exit id) f H
 | _=>.no
def b1I(L:Nat)(f:Fr)(r:Rs):Rc:=match r with
 | .no=>.no
 | .ok _ H=>uD L f H
 | .th _ H=>nS H fun H=>uD L f H
def b0B(T:LT)(ih:qE)(E:List LEnv)(f:Fr)(L:Nat)(k:FuncId)(args:List Value)(H:Heap):Rc:=lR (kW k) fun p=>b1I L f (nT T ih E p args H)
def b0a(T:LT)(ih:qE)(E:List LEnv)(g:LArg)(ps pp:List Pth)(params:Array Tmp)(assign body:Code)(a b:LCode)(_ _:Fr→Heap→Rc)(f:Fr)(H:Heap):Rc:=match mU f g with
 | .func (.func k) ⟨x⟩ ⟨y⟩=>kF H.length fun L=>frL f ps fun l=>nS (H.cons (.loop ⟨.ready,none,0,⟨l⟩,params,assign,body,0⟩)) fun H1=>
    kF k fun k=>b0B T ih (⟨L,ps,pp,a,b⟩::E) f L k (a5j x (.func (.yield L) #[] #[]::y)) H1
 | _=>.no
def b0f(P:Program)(T:LT)(ih:qE)(E:List LEnv)(c:LCode):Fr→Heap→Rc:=
 LCode.rec (motive:=fun _=>Fr→Heap→Rc) c5R c2S (c4D P T ih E) (c5z P T ih E) (c4X ih E) (b6D ih E) (c2c ih E) (c3N ih E) c4k c5B (b0a T ih E) c
def exF(P:Program)(T:LT)(n:Nat):qE:=Nat.rec (motive:=fun _=>qE) (fun _ _ _ _=>.no) (fun _ ih=>b0f P T ih) n
section
variable {α:Type}
def lV(x:Operand)(K:LArg→α):α:=match x with
 | .tmp t=>lR (kW t) fun p=>K (.t p)
 | .const v=>K (.c v)
 | .global g=>K (.c (.pointer (some ⟨g,0,none⟩)))
 | .func k=>K (.c (.func (.func k) #[] #[]))
def a5a(l:List Operand):(List LArg→α)→α:=List.rec (motive:=fun _=>(List LArg→α)→α) (fun K=>K []) (fun x _ ih K=>lV x fun x=>ih fun l=>K (x::l)) l
def a2E(o:Option Nat)(d:α)(K:Nat→α):α:=match o with
 | some n=>kF n K
 | none=>d
def c5g(k:IntKind)(a b:Int):Option Value:=some (.int k (vV k (b9g a b)))
def c4Q(k:IntKind)(a b:Int):Option Value:=some (.int k (vV k (c0h a b)))
def c3m(a b:Int):Int:=match a,b with
 | .ofNat a,.ofNat b=>.ofNat (Nat.mul a b)
 | a,b=>a*b
def c2B(k:IntKind)(a b:Int):Option Value:=some (.int k (vV k (c3m a b)))
def c4r(a b:Int):Int:=match a,b with
 | .ofNat a,.ofNat b=>.ofNat (Nat.div a b)
 | a,b=>a.tdiv b
def c3E(a b:Int):Int:=match a,b with
 | .ofNat a,.ofNat b=>.ofNat (Nat.mod a b)
 | a,b=>a.tmod b
def b7W(k:IntKind)(a b:Int):Option Value:=match eqI b 0 with|true=>none|false=>some (.int k (vV k (c4r a b)))
def b7G(k:IntKind)(a b:Int):Option Value:=match eqI b 0 with|true=>none|false=>some (.int k (c3E a b))
def c5r(_:IntKind)(a b:Int):Option Value:=some (.bool (eqI a b))
def c4S(_:IntKind)(a b:Int):Option Value:=some (.bool (!eqI a b))
def c5Q(_:IntKind)(a b:Int):Option Value:=some (.bool (ltI a b))
def c4E(_:IntKind)(a b:Int):Option Value:=some (.bool (!ltI b a))
def c6a(_:IntKind)(a b:Int):Option Value:=some (.bool (ltI b a))
def c5N(_:IntKind)(a b:Int):Option Value:=some (.bool (!ltI a b))
def b7B(op:BinOp):Option (IntKind→Int→Int→Option Value):=match op with
 | .add=>some c5g
 | .sub=>some c4Q
 | .mul=>some c2B
 | .quo=>some b7W
 | .rem=>some b7G
 | .eql=>some c5r
 | .neq=>some c4S
 | .lss=>some c5Q
 | .leq=>some c4E
 | .gtr=>some c6a
 | .geq=>some c5N
 | _=>none
def c1H(d:Option TypeDesc):Bool:=match d with|some (.int _)=>true|_=>false
def c6e(P:Program)(s:TypeId)(f:Nat)(d:α)(K1:Nat→α)(Kn:Nat→Nat→α):α:=match oK P s f with
 | some fd=>kF fd.offset fun off=>match kH P fd.type with
   | some true=>a2E (iJ P fd.type) d fun n=>Kn off n
   | some false=>K1 off
   | none=>d
 | none=>d
def b4T(P:Program)(o:Oper)(c:Call)(K:LOp→α):α:=match c.callee with
 | .value (.func k)=>lR (kW k) fun p=>a5a c.args.toList fun l=>K (.callF k p l)
 | .value g=>lV g fun g=>a5a c.args.toList fun l=>K (.callV g l)
 | .builtin .len=>nY (c.args.size==1&&c.argTypes.size==1) (K (.gen o)) (match P.underlying (c.argTypes.getD 0 0)with
    | some (.slice _)=>lV (c.args.getD 0 (.tmp 0)) fun x=>K (.len x)
    | some .string=>lV (c.args.getD 0 (.tmp 0)) fun x=>K (.slen x)
    | _=>K (.gen o))
 | .builtin .append=>nY (c.args.size==2&&c.argTypes.size==2&&((P.underlying (c.argTypes.getD 1 0)).map pX)==some true) (K (.gen o))
    (match iL P (c.argTypes.getD 0 0)with
     | some elem=>a2E (iJ P elem) (K (.gen o)) fun size=>a2E (nQ P elem) (K (.gen o)) fun bytes=>match jG P elem with
       | some z=>nY (z.cells.size==size&&size !=0) (K (.gen o)) (kF elem fun elem=>lV (c.args.getD 0 (.tmp 0)) fun x=>lV (c.args.getD 1 (.tmp 0)) fun y=>K (.app elem size bytes x y))
       | none=>K (.gen o)
     | none=>K (.gen o))
 | _=>K (.gen o)
def c2O(P:Program)(o:Oper)(K:LOp→α):α:=match o.op with
 | .move x=>lV x fun x=>K (.mv x)
 | .assign x=>lV x fun x=>K (.mv x)
 | .pick c a b=>lV c fun c=>lV a fun a=>lV b fun b=>K (.pick c a b)
 | .binOp op t x y _=>nY (c1H (P.underlying t)) (K (.gen o)) (match b7B op with
   | some g=>lV x fun x=>lV y fun y=>K (.bin g x y)
   | none=>K (.gen o))
 | .load t x=>match kH P t with
   | some true=>a2E (iJ P t) (K (.gen o)) fun n=>lV x fun x=>K (.ldn n x)
   | some false=>lV x fun x=>K (.ld1 x)
   | none=>K (.gen o)
 | .store t x y=>a2E (iJ P t) (K (.gen o)) fun n=>lV x fun x=>lV y fun y=>K (.st n x y)
 | .fieldAddr s x f=>match oK P s f with
   | some fd=>match iJ P fd.type with
     | some 0=>K (.gen o)
     | some _=>kF fd.offset fun off=>lV x fun x=>K (.fa off x)
     | none=>K (.gen o)
   | none=>K (.gen o)
 | .indexAddr t x i=>match P.underlying t with
   | some (.slice elem)=>a2E (iJ P elem) (K (.gen o)) fun size=>lV x fun x=>lV i fun i=>K (.ixs size x i)
   | some (.array n elem)=>a2E (iJ P elem) (K (.gen o)) fun size=>lV x fun x=>lV i fun i=>K (.ixa n size x i)
   | _=>K (.gen o)
 | .extract t i=>kF i fun i=>lV t fun t=>K (.ext i t)
 | .call c=>b4T P o c K
 | _=>K (.gen o)
def yE(P:Program)(o:Oper)(K:LOp→α):α:=nY (o.op.operands.toList.all iV) (K .bad) (c2O P o K)
def a6o(k:Nat)(d:Option Tmp)(no:α)(K:Option Pth→α):α:=match d with
 | none=>K none
 | some t=>nY (Nat.blt t k) no (lR (kW t) fun p=>K (some p))
def uC(P:Program)(k:Nat)(ops:Array Oper)(l:List Oper):(LOps→α)→α→α:=List.rec (motive:=fun _=>(LOps→α)→α→α) (fun K _=>K .nil)
 (fun o _ ih K no=>a6o k o.dst no fun d=>yE P o fun o'=>match o.guard with
   | none=>ih (fun r=>K (.cons d o' r)) no
   | some (j,w)=>match (ops[j]?).bind (·.dst)with
     | some t=>nY (Nat.blt t k) no (lR (kW t) fun p=>zZ w fun w=>ih (fun r=>K (.gcons p w d o' r)) no)
     | none=>no) l
def loG(k:Nat)(ops:Array Oper)(g:Option (Nat×Bool))(no:α)(K:Option (Pth×Bool)→α):α:=match g with
 | none=>K none
 | some (j,w)=>match (ops[j]?).bind (·.dst)with
   | some t=>nY (Nat.blt t k) no (lR (kW t) fun p=>zZ w fun w=>K (some (p,w)))
   | none=>no
def tM(P:Program)(k:Nat)(ops:Array Oper)(N:Nat)(tab:List (Nat×Nat)):(List (Nat×Option Nat×Option (Pth×Bool)×LOp)→α)→α→α:=List.rec (motive:=fun _=>(List (Nat×Option Nat×Option (Pth×Bool)×LOp)→α)→α→α) (fun K _=>K [])
 (fun x _ ih K no=>match ops[x.1]? with
   | some o=>loG k ops o.guard no fun g=>yE P o fun o'=>kF (N-1-x.1) fun i=>nY (Nat.blt x.2 N) (ih (fun l=>K ((i,none,g,o')::l)) no) (kF (N-1-x.2) fun m=>ih (fun l=>K ((i,some m,g,o')::l)) no)
   | none=>no) tab
def b5i(k:Nat):(List Pth→α)→α:=Nat.rec (motive:=fun _=>(List Pth→α)→α) (fun K=>K []) (fun n ih K=>lR (kW n) fun p=>ih fun l=>K (p::l)) k
def c0X{β:Type}(l:List β):List β→(List β→α)→α:=List.rec (motive:=fun _=>List β→(List β→α)→α) (fun a K=>K a) (fun x _ ih a K=>ih (x::a) K) l
def b1j(k:Nat)(K:List Pth→α):α:=b5i k fun l=>c0X l [] K
def wK(k:Nat)(l:List Tmp):(List Pth→α)→α→α:=List.rec (motive:=fun _=>(List Pth→α)→α→α) (fun K _=>K []) (fun t _ ih K no=>nY (Nat.blt t k) no (lR (kW t) fun p=>ih (fun l=>K (p::l)) no)) l
def nG(P:Program)(k:Nat)(c:Code):(LCode→α)→α:=Code.rec (motive:=fun _=>(LCode→α)→α)
 (fun K=>K .skip)
 (fun _ ops d K=>Bool.rec (motive:=fun _=>α) (uC P k ops ops.toList (fun l=>K (.reg l)) (K .bad))
   (match nB P ops with
     | some []=>uC P k ops ops.toList (fun l=>K (.reg l)) (K .bad)
     | some tab=>uC P k ops ops.toList (fun l=>tM P k ops ops.size tab (fun t=>K (.drw l t)) (K .bad)) (K .bad)
     | none=>K .bad) d)
 (fun _ _ iha ihb K=>iha fun a=>ihb fun b=>K (.seq a b))
 (fun c _ _ ihx ihy K=>nY (iV c) (K .bad) (lV c fun c=>ihx fun x=>ihy fun y=>K (.cond c x y)))
 (fun id _ ih K=>kF id fun id=>ih fun b=>K (.block id b))
 (fun _ ih K=>ih fun b=>K (.loop b))
 (fun g ps assign body iha ihb K=>nY (iV g) (K .bad) (lV g fun g'=>b1j k fun pp=>wK k ps.toList (fun q=>iha fun a=>ihb fun b=>K (.range g' pp q ps assign body a b)) (K .bad)))
 (fun id K=>kF id fun id=>K (.exit id))
 (fun _ _ K=>K .bad)
 (fun _ K=>K .skip)
 (fun _ K=>K .bad)
 (fun K=>K .ret)
 (fun _ K=>K .bad) c
def a0u(P:Program)(l:List ResultVar):(List LRes→α)→α→α:=List.rec (motive:=fun _=>(List LRes→α)→α→α) (fun K _=>K [])
 (fun r _ ih K no=>match r with
   | .tmp t=>lR (kW t) fun p=>ih (fun l=>K (.t p::l)) no
   | .cell a t=>match kH P t with
     | some true=>a2E (iJ P t) no fun n=>lR (kW a) fun p=>ih (fun l=>K (.cn n p::l)) no
     | some false=>lR (kW a) fun p=>ih (fun l=>K (.c1 p::l)) no
     | none=>no) l
def a1i(P:Program)(f:FuncId)(no:α)(K:LFunc→α):α:=match P.funcs[f]? with
 | some fn=>match fn.body with
   | some c=>nY (fn.name== "runtime.NumGoroutine") (a0u P fn.results.toList (fun res=>b1j fn.ntmps fun ps=>nG P fn.ntmps c fun b=>K ⟨ps,b,res⟩) no) no
   | none=>no
 | none=>no
def rY(P:Program)(fs:List FuncId):LT→(LT→α)→α:=List.rec (motive:=fun _=>LT→(LT→α)→α) (fun T K=>K T)
 (fun f _ ih T K=>a1i P f (ih T K) fun g=>lR (kW f) fun p=>sI g p T fun T=>ih T K) fs
end
end
end Go.Ds
namespace Go.Ds
section
variable {α:Type}
theorem uY(f k:Nat):a4N (f+1) (k+1)=if k%2=0 then .l (a4N f (k/2))else .r (a4N f (k/2)):=by
 show Bool.rec (motive:=fun _=>Pth) (.r (a4N f (k/2))) (.l (a4N f (k/2))) (Nat.beq (k%2) 0)=_
 by_cases h:k%2=0
 ·rw[if_pos h,h];rfl
 ·rw[if_neg h]
  have:Nat.beq (k%2) 0=false:=fM.2 fun e=>h (ec e)
  rw[this]
theorem a3d(f:Nat):a4N f 0=.z:=by cases f<;>rfl
theorem a2q:∀(f g a b:Nat),a≤f→b≤g→a4N f a=a4N g b→a=b
 | _,_,0,0,_,_,_=>rfl
 | 0,_,a+1,_,h,_,_=>by omega
 | _,0,_,b+1,_,h,_=>by omega
 | f,g+1,0,b+1,_,_,h=>by
   rw[a3d,uY]at h
   split at h<;>cases h
 | f+1,g,a+1,0,_,_,h=>by
   rw[a3d,uY]at h
   split at h<;>cases h
 | f+1,g+1,a+1,b+1,ha,hb,h=>by
   rw[uY,uY]at h
   by_cases h1:a%2=0
   ·rw[if_pos h1]at h
    by_cases h2:b%2=0
    ·rw[if_pos h2]at h
     injection h with h
     have:=a2q f g (a/2) (b/2) (by omega) (by omega) h
     omega
    ·rw[if_neg h2]at h;cases h
   ·rw[if_neg h1]at h
    by_cases h2:b%2=0
    ·rw[if_pos h2]at h;cases h
    ·rw[if_neg h2]at h
     injection h with h
     have:=a2q f g (a/2) (b/2) (by omega) (by omega) h
     omega
theorem b0S{a b:Nat}(h:kW a=kW b):a=b:=a2q _ _ _ _ (dm _) (dm _) h
theorem lM(p:Pth)(K:Pth→α):lR p K=K p:=by
 induction p generalizing K with
 | z=>rfl
 | l p ih=>exact ih _
 | r p ih=>exact ih _
theorem mW(v:Value)(K:Value→α):oP v K=K v:=by cases v<;>rfl
theorem sO(v:Value)(p:Pth)(f:Fr)(K:Fr→α):pY v p f K=K (pY v p f fun f=>f):=by
 induction p generalizing f α with
 | z=>cases f<;>rfl
 | l p ih=>
   cases f with
   | e=>
     show pY v p .e (fun l=>K (.n undef l .e))=K (pY v p .e fun l=>.n undef l .e)
     rw[ih,ih (K:=fun l=>Fr.n undef l .e)]
   | n w l r=>
     show pY v p l (fun l=>K (.n w l r))=K (pY v p l fun l=>.n w l r)
     rw[ih,ih (K:=fun l=>Fr.n w l r)]
 | r p ih=>
   cases f with
   | e=>
     show pY v p .e (fun l=>K (.n undef .e l))=K (pY v p .e fun l=>.n undef .e l)
     rw[ih,ih (K:=fun l=>Fr.n undef .e l)]
   | n w l r=>
     show pY v p r (fun r=>K (.n w l r))=K (pY v p r fun r=>.n w l r)
     rw[ih,ih (K:=fun r=>Fr.n w l r)]
theorem uF(p:Pth):nZ p .e=undef:=by
 cases p<;>rfl
theorem b1M(v:Value)(p q:Pth)(f:Fr):(q=p→nZ q (pY v p f fun f=>f)=v)∧(q≠p→nZ q (pY v p f fun f=>f)=nZ q f):=by
 induction p generalizing f q with
 | z=>
   refine⟨fun h=> ?_,fun h=> ?_⟩
   ·subst h;cases f<;>rfl
   ·cases q with
    | z=>exact absurd rfl h
    | l q=>
      cases f with
      | e=>show nZ q .e=undef;exact uF q
      | n=>rfl
    | r q=>
      cases f with
      | e=>show nZ q .e=undef;exact uF q
      | n=>rfl
 | l p ih=>
   have h1:∀f,pY v (.l p) f (fun f=>f)=match f with|.e=>.n undef (pY v p .e fun f=>f) .e|.n w l r=>.n w (pY v p l fun f=>f) r:=fun f=>by
    cases f with
    | e=>exact sO v p .e fun l=>Fr.n undef l .e
    | n w l r=>exact sO v p l fun l=>Fr.n w l r
   rw[h1]
   cases q with
   | z=>exact⟨fun h=>(nomatch h),fun _=>by cases f<;>rfl⟩
   | r q=>
     refine⟨fun h=>(nomatch h),fun _=> ?_⟩
     cases f with
     | e=>show nZ q .e=undef;exact uF q
     | n=>rfl
   | l q=>
     refine⟨fun h=> ?_,fun h=> ?_⟩
     ·injection h with h
      cases f with
      | e=>exact(ih q .e).1 h
      | n w l r=>exact(ih q l).1 h
     ·have h:q≠p:=fun e=>h (by rw[e])
      cases f with
      | e=>show nZ q (pY v p .e fun f=>f)=undef;rw[(ih q .e).2 h,uF]
      | n w l r=>exact(ih q l).2 h
 | r p ih=>
   have h1:∀f,pY v (.r p) f (fun f=>f)=match f with|.e=>.n undef .e (pY v p .e fun f=>f)|.n w l r=>.n w l (pY v p r fun f=>f):=fun f=>by
    cases f with
    | e=>exact sO v p .e fun l=>Fr.n undef .e l
    | n w l r=>exact sO v p r fun r=>Fr.n w l r
   rw[h1]
   cases q with
   | z=>exact⟨fun h=>(nomatch h),fun _=>by cases f<;>rfl⟩
   | l q=>
     refine⟨fun h=>(nomatch h),fun _=> ?_⟩
     cases f with
     | e=>show nZ q .e=undef;exact uF q
     | n=>rfl
   | r q=>
     refine⟨fun h=> ?_,fun h=> ?_⟩
     ·injection h with h
      cases f with
      | e=>exact(ih q .e).1 h
      | n w l r=>exact(ih q r).1 h
     ·have h:q≠p:=fun e=>h (by rw[e])
      cases f with
      | e=>show nZ q (pY v p .e fun f=>f)=undef;rw[(ih q .e).2 h,uF]
      | n w l r=>exact(ih q r).2 h
def FAg(f:Fr)(l:List Value):Prop:=∀t,nZ (kW t) f=get l t
def FRel(k:Nat)(f:Fr)(l:List Value):Prop:=l.length=k∧FAg f l
noncomputable def b4Q (f:Fr) (t:Tmp) (v:Value):Fr:=pY v (kW t) f fun f=>f
theorem a4a(f:Fr)(t u:Tmp)(v:Value):nZ (kW u) (b4Q f t v)=if u=t then v else nZ (kW u) f:=by
 have h:=b1M v (kW t) (kW u) f
 by_cases he:u=t
 ·rw[if_pos he];exact h.1 (by rw[he])
 ·rw[if_neg he];exact h.2 (fun e=>he (b0S e))
theorem FRel.put{k:Nat}{f:Fr}{l:List Value}(h:FRel k f l){t:Tmp}(ht:t<k)(v:Value):FRel k (b4Q f t v) (Go.Ds.put l (some t) v):=by
 refine⟨by simp[Go.Ds.put,nD,h.1],fun u=> ?_⟩
 rw[a4a,b0x]
 by_cases he:u=t
 ·subst he;rw[if_pos rfl,if_pos ⟨rfl,by rw[h.1];exact ht⟩]
 ·rw[if_neg he,if_neg (fun hh=>he (dc hh.1).symm)];exact h.2 u
theorem FRel.set{k:Nat}{f:Fr}{l:List Value}(h:FRel k f l){t:Tmp}(ht:t<k)(v:Value):FRel k (b4Q f t v) (l.set t v):=by
 have:=h.put ht v
 simpa [Go.Ds.put,nD]using this
def Rs.Is(r:Rs)(v:Value)(H:Heap):Prop:=r=.ok v H∨r=.th v H
theorem Rs.ar{v:Value}{H:Heap}:¬Rs.no.Is v H:=by rintro(h|h)<;>cases h
theorem Rs.aM{v w:Value}{H H1:Heap}(h:(Rs.ok v H).Is w H1):w=v∧H1=H:=by
 rcases h with h|h
 ·injection h with a b;exact⟨a.symm,b.symm⟩
 ·cases h
theorem Rs.aU{v w:Value}{H H1:Heap}(h:(Rs.th v H).Is w H1):w=v∧H1=H:=by
 rcases h with h|h
 ·cases h
 ·injection h with a b;exact⟨a.symm,b.symm⟩
theorem kO(b:Bool)(no x:α):nY b no x=if b=true then x else no:=by cases b<;>rfl
theorem lI{b:Bool}{x:Rs}{v:Value}{H:Heap}(h:(nY b Rs.no x).Is v H):b=true∧x.Is v H:=by
 cases b with
 | false=>exact absurd h Rs.ar
 | true=>exact⟨rfl,h⟩
theorem xB{β:Type}:∀(cs:List β)(e:Nat),a7k cs e=decide (e≤cs.length)
 | [],0=>rfl
 | [],e+1=>by simp;rfl
 | _::_,0=>rfl
 | _::cs,e+1=>by show a7k cs e=_;rw[xB cs e];simp
theorem yS{β:Type}:∀(cs:List β)(e:Nat),a3M cs e=decide (e=cs.length)
 | [],0=>rfl
 | [],e+1=>by simp;rfl
 | _::_,0=>by simp;rfl
 | _::cs,e+1=>by show a3M cs e=_;rw[yS cs e];simp
theorem xL{β:Type}:∀(cs:List β)(e:Nat),a0P cs e=cs[e]?
 | [],_=>rfl
 | _::_,0=>rfl
 | _::cs,e+1=>by show a0P cs e=_;rw[xL cs e];simp
theorem a7E{β:Type}:∀(cs:List β)(e:Nat),b0u cs e=cs.drop e
 | [],e=>by cases e<;>rfl
 | _::_,0=>rfl
 | _::cs,e+1=>by show b0u cs e=_;rw[a7E cs e];rfl
theorem a6e{β:Type}:∀{cs:List β}{n:Nat}{K:List β→Rs}{v:Value}{H:Heap},(a1p cs n K).Is v H→n≤cs.length∧(K (cs.take n)).Is v H
 | [],0,K,v,H,h=>⟨dm _,h⟩
 | [],n+1,K,v,H,h=>absurd h Rs.ar
 | _::_,0,K,v,H,h=>⟨eQ _,h⟩
 | c::cs,n+1,K,v,H,h=>by
   have h':(a1p cs n fun l=>K (c::l)).Is v H:=h
   obtain⟨h1,h2⟩:=a6e h'
   exact⟨by simp;omega,h2⟩
theorem b8D{a b:IntKind}(h:Nat.beq (kIx a) (kIx b)=true):a=b:=by
 cases a<;>cases b<;>first|rfl|(exact absurd h (by decide))
theorem b3N(k:Nat)(K:List Pth→α):b5i k K=K ((List.range k).map kW).reverse:=by
 induction k generalizing K with
 | zero=>rfl
 | succ n ih=>
   show lR (kW n) (fun p=>b5i n fun l=>K (p::l))=_
   rw[lM,ih,eN]
   simp
theorem b8u{β:Type}(l:List β):∀(a:List β)(K:List β→α),c0X l a K=K (l.reverse++a):=by
 induction l with
 | nil=>intro a K;rfl
 | cons x l ih=>intro a K;show c0X l (x::a) K=_;rw[ih];simp
theorem b0O(k:Nat)(K:List Pth→α):b1j k K=K ((List.range k).map kW):=by
 unfold b1j;rw[b3N,b8u];simp
theorem oZ(n:Nat)(d:α)(K:Nat→α):a2E (some n) d K=K n:=kC n K
def LK(H H':Heap):Prop:=H.length≤H'.length∧∀A r',A<H.length→iT H' A=some (.loop r')→
 ∃r,iT H A=some (.loop r)∧r'.assign=r.assign∧r'.body=r.body∧r'.params=r.params∧r'.tmps=r.tmps
theorem LK.refl(H:Heap):LK H H:=⟨dm _,fun _ r _ h=>⟨r,h,rfl,rfl,rfl,rfl⟩⟩
theorem LK.trans{H H1 H2:Heap}(h:LK H H1)(k:LK H1 H2):LK H H2:=⟨dK h.1 k.1,fun A r' hA hr=>by
 obtain⟨r1,h1,a1,b1,c1,d1⟩:=k.2 A r' (dV hA h.1) hr
 obtain⟨r,h2,a2,b2,c2,d2⟩:=h.2 A r1 hA h1
 exact⟨r,h2,a1.trans a2,b1.trans b2,c1.trans c2,d1.trans d2⟩⟩
def Blk.ct:Blk→Bool
 | .loop _=>true
 | _=>false
theorem LK.hset(H:Heap)(A:Nat){b:Blk}(hb:b.ct=false):LK H (hset H A b):=by
 refine⟨by rw[jR];exact dm _,fun B r' hB h=> ?_⟩
 by_cases he:A=B
 ·subst he;rw[iU _ hB]at h;injection h with h;subst h;cases hb
 ·rw[jA _ he]at h;exact⟨r',h,rfl,rfl,rfl,rfl⟩
theorem LK.cons(H:Heap)(b:Blk):LK H (H.cons b):=by
 refine⟨by rw[length_cons];omega,fun B r' hB h=> ?_⟩
 rw[jU b hB]at h;exact⟨r',h,rfl,rfl,rfl,rfl⟩
theorem LK.row(H:Heap)(ty:TypeId)(cs:List Value):LK H (rN H ty cs):=by rw[lL];exact .cons _ _
theorem LK.loop{H:Heap}{L:Nat}{r r':Loop}(h:iT H L=some (.loop r))(e:r'.assign=r.assign∧r'.body=r.body∧r'.params=r.params∧r'.tmps=r.tmps):LK H (Go.Ds.hset H L (.loop r')):=by
 refine⟨by rw[jR];exact dm _,fun B r2 hB hg=> ?_⟩
 by_cases he:L=B
 ·subst he;rw[iU _ hB]at hg;injection hg with hg;injection hg with hg;subst hg;exact⟨r,h,e⟩
 ·rw[jA _ he]at hg;exact⟨r2,hg,rfl,rfl,rfl,rfl⟩
variable {P:Program}
theorem a5v{H H':Heap}{t:TypeId}{p v:Value}(h:qO P H t p v=some H'):LK H H':=by
 unfold qO at h
 split at h
 ·split at h
  ·dsimp only at h
   split at h
   ·injection h with h;subst h;exact .hset _ _ rfl
   ·cases h
  ·cases h
 ·cases h
theorem a3E{H H':Heap}{t:TypeId}{v r:Value}(h:wY P H t v=some (r,H')):LK H H':=by
 unfold wY at h
 dsimp only at h
 split at h
 ·injection h with h;injection h with _ h;subst h;exact .row _ _ _
 ·cases h
theorem a4m{H H':Heap}{t:TypeId}{s x r:Value}(h:nL P H t s x=some (r,H')):LK H H':=by
 unfold nL at h
 simp only[dg]at h
 obtain⟨elem,_,size,_,bytes,_,z,_,⟨n,l⟩,_,h⟩:=h
 try dsimp only at h
 split at h
 ·split at h
  ·split at h
   ·injection h with h;injection h with _ h;subst h;exact .refl _
   ·injection h with h;injection h with _ h;subst h;exact .row _ _ _
  ·cases h
 ·split at h
  ·split at h
   ·injection h with h;injection h with _ h;subst h;exact .hset _ _ rfl
   ·split at h
    ·injection h with h;injection h with _ h;subst h;exact .hset _ _ rfl
    ·cases h
  ·cases h
 ·cases h
theorem a7V{H H':Heap}{t:TypeId}{v r:Value}(h:qT P H t v=some (r,H')):LK H H':=by
 unfold qT at h
 split at h
 ·dsimp only at h
  rename_i n elem _
  have key:∀(b:Bool),(if b=true then some (Value.pointer (some ⟨H.length,0,some v.cells.toList.length⟩),b5r H elem v.cells.toList)else none)=some (r,H')→LK H H':=by
   intro b h
   cases b
   ·cases h
   ·injection h with h;injection h with _ h;subst h;rw[a0T];exact .cons _ _
  exact key _ h
 ·exact a3E h
theorem a4v{H H':Heap}{t:TypeId}{x y r:Value}(h:vK P H t x y=some (r,H')):LK H H':=by
 unfold vK at h
 split at h
 ·split at h
  ·split at h
   ·simp only[dq]at h
    obtain⟨_,_,h⟩:=h
    injection h with _ h;subst h;exact .hset _ _ rfl
   ·cases h
  ·cases h
 ·cases h
theorem a4c{H H':Heap}{k:FuncId}{args:List Value}{r:Value}(h:qF P k args H=some (r,H')):LK H H':=by
 unfold qF at h
 simp only[dg]at h
 obtain⟨fn,_,h⟩:=h
 split at h
 case isFalse=>cases h
 split at h
 ·split at h
  ·injection h with h;injection h with _ h;subst h;exact .refl _
  ·cases h
 split at h
 ·split at h
  ·split at h
   ·simp only[dg]at h
    obtain⟨_,_,h⟩:=h
    split at h
    ·injection h with h;injection h with _ h;subst h;exact .row _ _ _
    ·cases h
   ·cases h
  ·cases h
 split at h
 ·split at h
  ·split at h
   ·split at h
    ·injection h with h;injection h with _ h;subst h;exact .refl _
    ·cases h
   ·cases h
  ·cases h
 ·cases h
theorem a9h{H H':Heap}{t:TypeId}{s x r:Value}(h:a1t P H t s x=some (r,H')):LK H H':=by
 unfold a1t at h
 simp only[dg]at h
 obtain⟨elem,_,size,_,m,_,h⟩:=h
 try dsimp only at h
 split at h
 ·split at h
  ·injection h with h;injection h with _ h;subst h;exact .refl _
  ·cases h
 ·split at h
  ·injection h with h;injection h with _ h;subst h;exact .refl _
  ·simp only[dg]at h
   obtain⟨l,_,h⟩:=h
   split at h
   ·split at h
    ·injection h with h;injection h with _ h;subst h;exact .hset _ _ rfl
    ·cases h
   ·cases h
 ·cases h
theorem a6B{H H':Heap}{t:TypeId}{x r:Value}(h:tF P H t x=some (r,H')):LK H H':=by
 unfold tF at h
 simp only[dg]at h
 obtain⟨elem,_,z,_,h⟩:=h
 split at h
 ·injection h with h;injection h with _ h;subst h;exact .refl _
 ·split at h
  ·injection h with h;injection h with _ h;subst h;exact .refl _
  ·try dsimp only at h
   split at h
   ·split at h
    ·injection h with h;injection h with _ h;subst h;exact .hset _ _ rfl
    ·cases h
   ·cases h
 ·cases h
theorem b2K{H H':Heap}{t:TypeId}{m k v:Value}(h:a0S P H t m k v=some H'):LK H H':=by
 unfold a0S at h
 simp only[dg]at h
 obtain⟨⟨kt,et⟩,_,h⟩:=h
 dsimp only at h
 split at h
 ·split at h
  ·split at h
   ·simp only[dg]at h
    obtain⟨r,_,h⟩:=h
    split at h
    ·simp only[dg]at h
     obtain⟨e,_,h⟩:=h
     split at h
     ·injection h with h;subst h;exact .hset _ _ rfl
     ·cases h
    ·injection h with h;subst h;exact .hset _ _ rfl
   ·cases h
  ·cases h
 ·cases h
theorem a5Z{H H':Heap}{t:TypeId}{m k r:Value}(h:sN P H t m k=some (r,H')):LK H H':=by
 unfold sN at h
 simp only[dg]at h
 obtain⟨⟨kt,et⟩,_,h⟩:=h
 dsimp only at h
 split at h
 ·split at h
  ·split at h
   ·simp only[dg]at h
    obtain⟨r,_,h⟩:=h
    split at h
    ·simp only[dg]at h
     obtain⟨e,_,h⟩:=h
     split at h
     ·injection h with h;injection h with _ h;subst h;exact .hset _ _ rfl
     ·cases h
    ·simp only[dg]at h
     obtain⟨z,_,h⟩:=h
     split at h
     ·injection h with h;injection h with _ h;subst h;exact .hset _ _ rfl
     ·cases h
   ·cases h
  ·cases h
 ·cases h
theorem a7s{H H':Heap}{m b v:Value}(h:rL H m b v=some H'):LK H H':=by
 unfold rL at h
 split at h
 ·split at h
  ·split at h
   ·simp only[dg]at h
    obtain⟨e,_,h⟩:=h
    injection h with h;subst h;exact .hset _ _ rfl
   ·cases h
  ·cases h
 ·cases h
theorem a2S{H H':Heap}{t:TypeId}{o:Option Value}{r:Value}(h:pI P H t o=some (r,H')):LK H H':=by
 unfold pI at h
 simp only[dg]at h
 obtain⟨_,_,h⟩:=h
 split at h
 ·injection h with h;injection h with _ h;subst h;exact .cons _ _
 ·injection h with h;injection h with _ h;subst h;exact .cons _ _
 ·cases h
theorem a6C{H H':Heap}{o:Oper}{l:List Value}{r:Value}(h:kT P o l H=some (r,H')):H'=H:=by
 unfold kT at h
 split at h
 ·split at h
  ·split at h
   ·injection h with h;injection h with _ h;exact h.symm
   ·cases h
  ·cases h
 ·cases h
theorem vI{H H':Heap}{v r:Value}(h:some (v,H)=some (r,H')):LK H H':=by injection h with h;injection h with _ h;subst h;exact .refl _
theorem uL{H H':Heap}{v:Option Value}{r:Value}(h:v.map (fun v=>(v,H))=some (r,H')):LK H H':=by
 cases v with
 | none=>cases h
 | some v=>exact vI h
set_option maxHeartbeats 1000000 in
theorem b5I{H H':Heap}{o:Oper}{l:List Value}{r:Value}(h:opD P o l H=some (r,H')):LK H H':=by
 obtain⟨dst,op,type,pos,after,guard⟩:=o
 have pl:∀{o:Oper},kT P o l H=some (r,H')→LK H H':=fun h=>by rw[a6C h];exact .refl _
 cases op with
 | alloc t=>
   simp only[opD,dg]at h
   obtain⟨z,_,h⟩:=h
   split at h
   ·exact a7V h
   ·cases h
 | box t x=>simp only[opD]at h;exact a3E h
 | store t x y=>
   simp only[opD,dq]at h
   obtain⟨H1,h,e⟩:=h
   injection e with _ e;subst e
   exact a5v h
 | mapUpdate t m x y=>
   simp only[opD,dq]at h
   obtain⟨H1,h,e⟩:=h
   injection e with _ e;subst e
   exact b2K h
 | mapEntry t m x=>simp only[opD]at h;exact a5Z h
 | entryStore t m x y=>
   simp only[opD,dq]at h
   obtain⟨H1,h,e⟩:=h
   injection e with _ e;subst e
   exact a7s h
 | makeMap t x=>simp only[opD]at h;exact a2S h
 | buildSlice t len parts=>
   simp only[opD,dg]at h
   obtain⟨elem,_,size,_,z,_,h⟩:=h
   split at h
   ·injection h with h;injection h with _ h;subst h;exact .row _ _ _
   split at h
   ·simp only[dq]at h
    obtain⟨cs,_,e⟩:=h
    injection e with _ e;subst e
    exact .row _ _ _
   ·cases h
 | makeSlice t n c=>
   simp only[opD,dg]at h
   obtain⟨elem,_,size,_,bytes,_,z,_,h⟩:=h
   split at h
   ·split at h
    ·injection h with h;injection h with _ h;subst h;exact .row _ _ _
    ·cases h
   ·cases h
 | call c=>
   simp only[opD]at h
   split at h
   ·split at h
    ·split at h
     all_goals first|exact uL h|cases h
    ·cases h
   ·split at h
    ·exact a4m h
    ·cases h
   ·split at h
    ·exact a9h h
    ·cases h
   ·split at h
    ·exact a6B h
    ·cases h
   ·exact pl h
   ·split at h
    ·split at h
     ·split at h
      ·cases h
      ·exact vI h
     ·cases h
    ·cases h
   ·split at h
    ·exact a4v h
    ·cases h
   ·exact pl h
   ·exact pl h
   ·cases h
 | convert s t x=>
   simp only[opD]at h
   split at h
   ·exact pl h
   ·split at h
    ·split at h
     ·exact uL h
     ·cases h
    ·split at h
     ·simp only[dg]at h
      obtain⟨_,_,h⟩:=h
      injection h with h;injection h with _ h;subst h
      rw[b0H];exact .cons _ _
     ·cases h
    ·split at h
     ·exact vI h
     ·cases h
    ·cases h
 | slice t x lo hi mx=>
   cases mx with
   | some _=>simp only[opD]at h;cases h
   | none=>
     simp only[opD]at h
     split at h
     ·exact pl h
     ·split at h
      ·exact uL h
      ·exact uL h
 | _=>
   simp only[opD]at h
   repeat' first
    | exact LK.refl _
    | exact vI h
    | exact uL h
    | exact pl h
    | (cases h;done)
    | split at h
    | (simp only[dg,dq]at h;obtain⟨_,_,h⟩:=h)
    | (obtain⟨_,_,h⟩:=h)
    | (injection h with h;injection h with _ h;subst h;exact LK.refl _)
    | (injection h with _ h;subst h;exact LK.refl _)
    | (cases h;exact LK.refl _)
end
end Go.Ds
