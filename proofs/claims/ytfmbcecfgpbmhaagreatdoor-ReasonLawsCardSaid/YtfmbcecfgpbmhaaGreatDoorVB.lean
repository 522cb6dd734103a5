/-
  A part of the proof of ReasonLaws.
-/
import Derived.Test.YtfmbcecfgpbmhaaGreatDoorVA
import Derived.Below
import Derived.Deep.Slices
set_option linter.unusedVariables false
set_option linter.unusedSimpArgs false
set_option linter.defProp false
set_option linter.unusedSectionVars false
namespace Go.Ds
section
variable {P:Program} {ρ:Rho} {H:Heap} {w:World} {fl:Fl}
theorem HRel.aT(h:HRel P ρ H w)(cs:List Value)(ty:TypeId)(tg:Nat)(p:Place)(hoff:Off ρ p.b)(hlt:p.b<w.heap.size)
 (hcell:CellsAt P (ρ.put H.length cs.length p) w cs ty true tg cs.length cs.length p):
 HRel P (ρ.put H.length cs.length p) (H.cons (.cells cs ty true cs.length tg)) w:=by
 have hno:∀f,ρ H.length f=none:=fun f=>rN h f
 have hle:ρ.Le (ρ.put H.length cs.length p):=.put (hno _)
 have hold:∀A f q,(ρ.put H.length cs.length p) A f=some q→(A=H.length∧f=cs.length∧q=p)∨(A<H.length∧ρ A f=some q∧q.b≠p.b):=fun A f q hq=>by
  by_cases hh:A=H.length∧f=cs.length
  ·obtain⟨rfl,rfl⟩:=hh;rw[Rho.al]at hq;exact .inl ⟨rfl,rfl,(dA hq).symm⟩
  ·rw[Rho.aQ hh]at hq;exact .inr ⟨(h.dom _ _ _ hq).1,hq,hoff _ _ _ hq⟩
 have hget_old:∀A,A<H.length→jS (H.cons (.cells cs ty true cs.length tg)) A=jS H A:=fun A hA=>kS _ hA
 refine⟨?_,?_,?_,?_,?_,?_,fun A hA=>by
  by_cases he:A=H.length
  ·subst he;rw[jP];rfl
  ·rw[length_cons]at hA;rw[hget_old A (by omega)];exact h.full A (by omega),fun A cs' ty' lo' hg=>by
  have hA:A<(H.cons (.cells cs ty true cs.length tg)).length:=kL hg
  by_cases he:A=H.length
  ·subst he;rw[jP]at hg;cases hg
  ·have hA':A<H.length:=by simp at hA;omega
   rw[hget_old A hA']at hg
   obtain⟨q,h1,h2,h3⟩:=h.glob _ _ _ _ hg
   exact⟨q,hle _ _ _ h1,h2,h3⟩⟩
 ·intro A f q hq
  rcases hold A f q hq with⟨rfl,rfl,rfl⟩|⟨hA,hq',_⟩
  ·exact⟨by simp,hlt⟩
  ·exact⟨by simp;omega,(h.dom _ _ _ hq').2⟩
 ·intro A cs' ty' rw' lo' ver' hg
  have hA:A<(H.cons (.cells cs ty true cs.length tg)).length:=kL hg
  by_cases he:A=H.length
  ·subst he
   rw[jP]at hg
   injection (dA hg)with e1 e2 e3 e4 e5
   subst e1 e2 e3 e4 e5
   refine⟨⟨p,Rho.al _ _ _ _⟩,fun f q hq=> ?_⟩
   rcases hold _ f q hq with⟨_,rfl,rfl⟩|⟨hlt,_,_⟩
   ·exact hcell
   ·exact absurd hlt (fI _)
  ·have hA':A<H.length:=by simp at hA;omega
   rw[hget_old A hA']at hg
   obtain⟨⟨q,hq⟩,hall⟩:=h.cells _ _ _ _ _ _ hg
   refine⟨⟨q,hle _ _ _ hq⟩,fun f q hq=> ?_⟩
   rcases hold _ f q hq with⟨rfl,_,_⟩|⟨_,hq',_⟩
   ·exact absurd hA' (fI _)
   ·exact(hall f q hq').world hle rfl
 ·intro A es ck ver hg
  have hA:A<(H.cons (.cells cs ty true cs.length tg)).length:=kL hg
  by_cases he:A=H.length
  ·subst he;rw[jP]at hg;cases hg
  ·have hA':A<H.length:=by simp at hA;omega
   rw[hget_old A hA']at hg
   obtain⟨q,es',hq,hw,hall⟩:=h.map _ _ _ _ hg
   exact⟨q,es',hle _ _ _ hq,hw,hall.mono fun _ _ x=>x.mono hle⟩
 ·intro A r hg
  have hA:A<(H.cons (.cells cs ty true cs.length tg)).length:=kL hg
  by_cases he:A=H.length
  ·subst he;rw[jP]at hg;cases hg
  ·have hA':A<H.length:=by simp at hA;omega
   rw[hget_old A hA']at hg
   obtain⟨q,r',hq,hw,hall⟩:=h.loop _ _ hg
   exact⟨q,r',hle _ _ _ hq,hw,hall.mono hle⟩
 ·intro A f q blk' hq hg
  rcases hold A f q hq with⟨rfl,rfl,rfl⟩|⟨hA,hq',_⟩
  ·rw[jP]at hg
   obtain rfl:=dA hg
   exact .inl rfl
  ·rw[hget_old A hA]at hg
   exact h.one _ _ _ _ hq' hg
 ·intro A f q A2 f2 q2 blk' hq hq2 hbb hg hwr
  rcases hold A f q hq with⟨rfl,rfl,rfl⟩|⟨hA,hq',hqb⟩
  ·rcases hold A2 f2 q2 hq2 with⟨rfl,rfl,rfl⟩|⟨hA2,hq2',hqb2⟩
   ·exact⟨rfl,rfl⟩
   ·exact absurd hbb.symm hqb2
  ·rcases hold A2 f2 q2 hq2 with⟨rfl,rfl,rfl⟩|⟨hA2,hq2',hqb2⟩
   ·exact absurd hbb hqb
   ·rw[hget_old A hA]at hg
    exact h.excl _ _ _ _ _ _ _ hq' hq2' hbb hg hwr
theorem Post.aT{ρ0:Rho}{H0:Heap}{W0:World}(h:Post P ρ0 H0 W0 ρ H w)(cs:List Value)(ty:TypeId)(tg:Nat)(p:Place)(hoff:Off ρ p.b)(hlt:p.b<w.heap.size)(hW:W0.heap.size≤p.b)
 (hcell:CellsAt P (ρ.put H.length cs.length p) w cs ty true tg cs.length cs.length p):
 Post P ρ0 H0 W0 (ρ.put H.length cs.length p) (H.cons (.cells cs ty true cs.length tg)) w:=by
 have hle:ρ.Le (ρ.put H.length cs.length p):=.put (rN h.rel _)
 have hold:∀A f q,(ρ.put H.length cs.length p) A f=some q→q=p∨(A<H.length∧ρ A f=some q):=fun A f q hq=>by
  by_cases hh:A=H.length∧f=cs.length
  ·obtain⟨rfl,rfl⟩:=hh;rw[Rho.al]at hq;exact .inl (dA hq).symm
  ·rw[Rho.aQ hh]at hq;exact .inr ⟨(h.rel.dom _ _ _ hq).1,hq⟩
 refine⟨h.le.trans hle,h.rel.aT cs ty tg p hoff hlt hcell,by have:=h.len;simp;omega,h.size,h.os,h.tape,h.output,fun b hb hw=>⟨(h.frame b hb hw).1,?_⟩,h.loops,fun b hb hw A f q hq=> ?_⟩
 ·rintro⟨A,f,q,kX,hq,rfl,hg,hwr⟩
  rcases hold A f q hq with rfl|⟨hA,hq'⟩
  ·omega
  ·rw[kS _ hA]at hg
   exact(h.frame _ hb hw).2 ⟨A,f,q,kX,hq',rfl,hg,hwr⟩
 ·rcases hold A f q hq with rfl|⟨hA,hq'⟩
  ·omega
  ·exact h.img b hb hw _ _ _ hq'
structure PendAt(P:Program)(ρ:Rho)(w:World)(H Hn:Heap)(v v':Value)(b:Nat)(cs:List Value)(cs':Array Value)(ty ty':TypeId)(tg k:Nat):Prop where
 here:w.heap[b]? =some (.cells cs' ty')
 next:Hn=H.cons (.cells cs ty true cs.length tg)
 rel:All2 (C1 ρ) cs cs'.toList
 val:∀ρ1:Rho,ρ1 H.length cs.length=some ⟨b,0,cs.length,k⟩→V ρ1 v v'
 at_:∀(ρ:Rho)(w:World),w.heap[b]? =some (.cells cs' ty')→All2 (C1 ρ) cs cs'.toList→CellsAt P ρ w cs ty true tg cs.length cs.length ⟨b,0,cs.length,k⟩
theorem PendAt.mono{ρ':Rho}{w':World}{H Hn:Heap}{v v':Value}{b:Nat}{cs:List Value}{cs':Array Value}{ty ty':TypeId}{tg k:Nat}(h:PendAt P ρ w H Hn v v' b cs cs' ty ty' tg k)(hle:ρ.Le ρ')(hw:w'.heap[b]? =w.heap[b]?):PendAt P ρ' w' H Hn v v' b cs cs' ty ty' tg k:=
 ⟨by rw[hw];exact h.here,h.next,h.rel.mono fun _ _ h=>h.mono hle,h.val,h.at_⟩
theorem qF{o:Op}(h:jU fl o=true):kJ fl o=false:=by
 cases o<;>first|rfl|(simp[jU]at h;done)|(simp[jU]at h;simp[kJ,h])
theorem vQ{i:Nat}{o:Op}(h:jU fl o=true):lR fl i o=some i:=by simp[lR,h]
theorem tK{i b:Nat}{o:Op}(h:jU fl o=false)(hh:lR fl i o=some b):fl.base i=some b∧∃t x ix,o=.indexAddr t x ix:=by
 unfold lR at hh
 rw[h]at hh
 simp only[eV,if_false]at hh
 split at hh
 ·exact⟨hh,_,_,_,rfl⟩
 ·cases hh
theorem Der.plain{ops:Array Oper}{j i:Nat}{d:Tmp}{o:Op}(h:Der fl ops j d i o):kJ fl o=false∧jU fl o=false:=by
 cases h<;>exact⟨rfl,rfl⟩
theorem Draw.cm{ops:Array Oper}(D:Draw P fl ops){i j:Nat}{o:Oper}(ho:ops[i]? =some o)(hj:fl.base i=some j):j<i∧kJ fl o.op=false∧jU fl o.op=false:=by
 obtain⟨h1,_,_,_,_,_,_,_,_,_,_,_,h2⟩:=D.aB ho hj
 exact⟨h1,h2.plain⟩
theorem Draw.aW{ops:Array Oper}(D:Draw P fl ops){i b:Nat}{o:Oper}(ho:ops[i]? =some o)(hh:lR fl i o.op=some b):b≤i∧∃y,ops[b]? =some y∧jU fl y.op=true:=by
 cases ha:jU fl o.op with
 | true=>
   rw[vQ ha]at hh
   obtain rfl:=dA hh
   exact⟨dG _,o,ho,ha⟩
 | false=>
   obtain⟨h1,_⟩:=tK ha hh
   obtain⟨h2,_,_,y,_,_,_,_,h3,_,_,h4,_⟩:=D.aB ho h1
   exact⟨by omega,y,h3,h4⟩
theorem b1s{o:Oper}(ho:jU fl o.op=true){l:List Value}{v:Value}{H':Heap}(hd:opD P o l H=some (v,H')):∃kX,H'=H.cons kX:=by
 obtain⟨dst,op,type,pos,after,guard⟩:=o
 simp only at ho
 cases op with
 | alloc t=>
   simp only[opD,dD]at hd
   obtain⟨z,hz,hd⟩:=hd
   split at hd
   case isFalse=>cases hd
   have newc:zS P H t z=some (v,H')→∃kX,H'=H.cons kX:=by
    intro hd
    unfold zS at hd
    simp only at hd
    split at hd
    case isFalse=>cases hd
    injection (dA hd)with e1 e2
    exact⟨_,by rw[←e2,mR]⟩
   unfold tL at hd
   split at hd
   ·rename_i n elem hu
    cases hse:jD P elem with
    | none=>rw[hse]at hd;simp at hd
    | some k=>
      rw[hse]at hd
      dsimp only at hd
      split at hd
      case isFalse=>cases hd
      injection (dA hd)with e1 e2
      exact⟨_,by rw[←e2,a2Y]⟩
   ·exact newc hd
 | buildSlice t len parts=>
   simp only[opD,dD]at hd
   obtain⟨elem,he,size,hs,z,hz,hd⟩:=hd
   split at hd
   ·injection (dA hd)with e1 e2
    exact⟨_,by rw[←e2,mR]⟩
   split at hd
   ·simp only[dJ]at hd
    obtain⟨cs,hb,hd⟩:=hd
    injection hd with e1 e2
    exact⟨_,by rw[←e2,mR]⟩
   ·cases hd
 | _=>simp[jU]at ho
theorem c5e{o:Oper}{t:TypeId}{len:Nat}{parts:Array (Nat×Operand)}(ho:o.op=.buildSlice t len parts){l:List Value}{v:Value}{H':Heap}(hd:opD P o l H=some (v,H')):
 ∃(cs:List Value)(elem:TypeId)(size:Nat),H'=H.cons (.cells cs elem true cs.length 0)∧v=.slice (some ⟨H.length,0,some cs.length⟩) len size:=by
 obtain⟨dst,op,type,pos,after,guard⟩:=o
 simp only at ho
 subst ho
 simp only[opD,dD]at hd
 obtain⟨elem,he,size,hs,z,hz,hd⟩:=hd
 split at hd
 ·rename_i hc
  simp only[dB,beq_iff_eq]at hc
  obtain⟨⟨rfl,_⟩,_⟩:=hc
  injection (dA hd)with e1 e2
  exact⟨[],elem,size,by rw[←e2,mR],e1.symm⟩
 split at hd
 ·simp only[dJ]at hd
  obtain⟨cs,hb,hd⟩:=hd
  injection hd with e1 e2
  exact⟨cs.toList,elem,size,by rw[←e2,mR],e1.symm⟩
 ·cases hd
theorem b5z{o:Oper}(ho:jU fl o.op=true){l:List Value}{v:Value}{H':Heap}(hd:opD P o l H=some (v,H')){a:Act}(hV:∀x,x∈o.op.operands→V ρ (ev l x) (a.eval x))(w:World):
 ∃(v':Value)(cs:List Value)(cs':Array Value)(ty ty':TypeId)(tg k:Nat),(execOp a.eval o).run P w=.ok (.value v') (w.alloc (.cells cs' ty'))∧PendAt P ρ (w.alloc (.cells cs' ty')) H H' v v' w.heap.size cs cs' ty ty' tg k:=by
 obtain⟨dst,op,type,pos,after,guard⟩:=o
 simp only at ho hV
 have atOf:∀{cs:List Value}{cs':Array Value}{ty ty':TypeId}{tg k b:Nat},jD P ty=some k→(tg=0→ty'=ty)→∀(ρ:Rho)(w:World),w.heap[b]? =some (.cells cs' ty')→All2 (C1 ρ) cs cs'.toList→CellsAt P ρ w cs ty true tg cs.length cs.length ⟨b,0,cs.length,k⟩:=by
  intro cs cs' ty ty' tg k b hk ht ρ w hb hl
  refine⟨dG _,hk,by simp,cs',ty',(0,0),hb,by simpa using hl.length.symm,fun _=>⟨rfl,js _,ht⟩,fun _ i c hi _ hc=> ?_⟩
  obtain⟨c',hc',hr⟩:=hl.get i c hc
  exact⟨c',by simpa [Place.at]using hc',hr⟩
 cases op with
 | alloc t=>
   simp only[opD,dD]at hd
   obtain⟨z,hz,hd⟩:=hd
   split at hd
   case isFalse=>cases hd
   rename_i hf
   have hr2:(Instr.alloc t true (.tuple #[])).run P w=.ok (.pointer (some ⟨w.heap.size,0,none⟩)) (w.alloc (.cells z.cells t)):=by
    simp only[Instr.alloc,dI,sT hz,dF]
    simp[newVar,newRow]
   have hval:∀(k:Nat)(ρ1:Rho),ρ1 H.length z.cells.toList.length=some ⟨w.heap.size,0,z.cells.toList.length,k⟩→V ρ1 (.pointer (some ⟨H.length,0,some z.cells.toList.length⟩)) (.pointer (some ⟨w.heap.size,0,none⟩)):=fun k ρ1 h1=>by
    have:=C0.ptr (ρ:=ρ1) (A:=H.length) (i:=0) (e:=z.cells.toList.length) h1 (by simp)
    exact .v1 (.c1 (.c0 (by simpa [Place.at]using this)))
   unfold tL at hd
   have newc:zS P H t z=some (v,H')→∃k,v=.pointer (some ⟨H.length,0,some z.cells.toList.length⟩)∧z.cells.toList.all oneCell=true∧jD P t=some k∧H'=H.cons (.cells z.cells.toList t true z.cells.toList.length 0):=by
    intro hd
    unfold zS at hd
    simp only at hd
    split at hd
    case isFalse=>cases hd
    rename_i hcond
    simp only[dB,beq_iff_eq]at hcond
    injection (dA hd)with e1 e2
    exact⟨_,e1.symm,hcond.1,hcond.2,by rw[←e2,mR]⟩
   split at hd
   ·rename_i n elem hu
    cases hse:jD P elem with
    | none=>rw[hse]at hd;simp at hd
    | some k=>
      rw[hse]at hd
      dsimp only at hd
      split at hd
      case isFalse=>cases hd
      rename_i hcond
      simp only[dB,beq_iff_eq]at hcond
      obtain⟨⟨hone,hsz⟩,hk⟩:=hcond
      injection (dA hd)with e1 e2
      subst e1 e2
      have hl:All2 (C1 ρ) z.cells.toList z.cells.toList:=(V.v1 (ρ:=ρ) (V1.of_flat hf)).cells hone
      exact⟨_,z.cells.toList,z.cells,elem,t,2,k,by simp only[execOp,dI,hr2,dF,dN],kK _ _,by rw[a2Y],hl,hval k,atOf hse (by simp)⟩
   ·obtain⟨k,rfl,hone,hsz,rfl⟩:=newc hd
    have hl:All2 (C1 ρ) z.cells.toList z.cells.toList:=(V.v1 (ρ:=ρ) (V1.of_flat hf)).cells hone
    exact⟨_,z.cells.toList,z.cells,t,t,0,k,by simp only[execOp,dI,hr2,dF,dN],kK _ _,rfl,hl,hval k,atOf hsz fun _=>rfl⟩
 | buildSlice t len parts=>
   have hps:a8r ρ (parts.toList.map fun(i,x)=>(i,ev l x)) (parts.toList.map fun(i,x)=>(i,a.eval x)):=a0w parts.toList fun x hx=>hV x.2 (by simp only[Op.operands,List.mem_toArray,dP];exact⟨x,hx,rfl⟩)
   simp only[opD,dD]at hd
   obtain⟨elem,he,size,hs,z,hz,hd⟩:=hd
   have hst:=lB he
   have hval:∀(n len:Nat),len*size=n→∀(ρ1:Rho),ρ1 H.length n=some ⟨w.heap.size,0,n,size⟩→V ρ1 (.slice (some ⟨H.length,0,some n⟩) len size) (.slice (some ⟨w.heap.size,0,none⟩) len len):=fun n len hl ρ1 h1=>a6h hl h1
   split at hd
   ·rename_i hc
    simp only[dB,bne_iff_ne,beq_iff_eq,List.isEmpty_iff,iS]at hc
    obtain⟨⟨rfl,hp0⟩,hs0⟩:=hc
    injection (dA hd)with e1 e2;subst e1 e2
    have hpa:parts=#[]:=iX hp0
    subst hpa
    have hrun:(Instr.buildSlice t 0 #[]).run P w=.ok (.slice (some ⟨w.heap.size,0,none⟩) 0 0) (w.alloc (.cells #[] elem)):=by
     unfold Instr.buildSlice
     have er:(Array.range 0).map (fun _=>(default:Value))=#[]:=by simp[Array.range]
     simp[run_underlying hst,kZ hs,Instr.fill,newRow,er]
    exact⟨.slice (some ⟨w.heap.size,0,none⟩) 0 0,[],#[],elem,elem,0,size,by simp only[execOp,Array.map_empty,dI,hrun,dF,dN],kK _ _,by rw[mR],trivial,fun ρ1 h1=>hval 0 0 (by simp) ρ1 h1,atOf hs fun _=>rfl⟩
   split at hd
   ·rename_i hc
    simp only[dB,decide_eq_true_eq,bne_iff_ne,beq_iff_eq]at hc
    obtain⟨⟨⟨⟨hfz,hall1⟩,hsmall⟩,hpos⟩,hzs⟩:=hc
    simp only[dJ]at hd
    obtain⟨cs,hb,hd⟩:=hd
    injection hd with e1 e2;subst e1 e2
    obtain⟨i,hi,hisz⟩:=a3U hs
    subst hisz
    have hiz:i.zero=some z:=by unfold kB at hz;rw[hi]at hz;exact hz
    have hone:∀x∈(parts.toList.map fun(i,x)=>(i,ev l x)),x.2.cells.toList.all oneCell=true:=by
     simp only[dT]at hall1 ⊢;exact hall1
    obtain⟨r',hr',hall⟩:=a0y _ _ _ hps hone _ _ _ (a4F hfz _) hb
    have hsz:len*i.size=cs.toList.length:=by
     have:=a2l _ _ _ _ hb;rw[gz,this];simp
    have hsm:¬len*i.size>2^24:=Nat.not_lt.2 hsmall
    have hparts:(parts.map fun(i,x)=>(i,a.eval x)).toList=(parts.toList.map fun(i,x)=>(i,a.eval x)):=by simp
    have hrun:=run_buildSlice (P:=P) w t elem len (parts.map fun(i,x)=>(i,a.eval x)) r' i z hst hi hiz hsm hpos (by rw[hparts];exact hr')
    exact⟨.slice (some ⟨w.heap.size,0,none⟩) len len,cs.toList,r',elem,elem,0,i.size,by simp only[execOp,dI,hrun,dF,dN],kK _ _,by rw[mR],hall,fun ρ1 h1=>hval _ len hsz ρ1 h1,atOf hs fun _=>rfl⟩
   ·cases hd
 | _=>simp[jU]at ho
theorem b1f(l:List Value)(d:Option Tmp)(v:Value)(t:Tmp):ev (put l d v) (.tmp t)=if d=some t∧t<l.length then v else ev l (.tmp t):=by
 cases d with
 | none=>simp[put]
 | some k=>
   simp only[ev,pW,put,oO,dE,ja,ee]
   by_cases hk:k=t
   ·subst hk
    by_cases hl:k<l.length
    ·simp[hl]
    ·simp[hl]
   ·simp[hk]
theorem nQ(a:Act)(d:Option Tmp)(v:Value)(t:Tmp):(a.put d v).eval (.tmp t)=if d=some t∧t<a.tmps.size then v else a.eval (.tmp t):=by
 cases d with
 | none=>simp[Act.put]
 | some k=>
   simp only[Act.put,Act.eval,ee]
   by_cases hk:k=t
   ·subst hk
    by_cases hl:k<a.tmps.size
    ·simp[hl]
    ·simp[hl]
   ·simp[hk]
theorem a3t(l:List Value)(d:Option Tmp)(v:Value):(put l d v).length=l.length:=by
 cases d<;>simp[put,oO]
theorem b0P(a:Act)(d:Option Tmp)(v:Value):(a.put d v).tmps.size=a.tmps.size:=by
 cases d<;>simp[Act.put]
theorem StepR.plain{o:Oper}{l:List Value}{v:Value}{H':Heap}(h:StepR P o l H v H')(hm:kJ fl o.op=false):Go.Ds.opD P o l H=some (v,H'):=by
 refine h.opD fun c f hc hf=> ?_
 simp[kJ,hc,hf]at hm
structure Text(P:Program)(ops:Array Oper)(T:Nat→List Value×Heap)(val:Nat→Value):Prop where
 step:∀k,k<ops.size→zL P ops k (T k) (T (k+1)) (val k)
section
variable {ops:Array Oper} {T:Nat→List Value×Heap} {val:Nat→Value}
theorem Text.length(X:Text P ops T val):∀k,k≤ops.size→(T k).1.length=(T 0).1.length
 | 0,_=>rfl
 | k+1,hk=>by
   obtain⟨o,_,h,_⟩:=X.step k (by omega)
   rw[h,a3t,X.length k (by omega)]
theorem Text.at(X:Text P ops T val){k:Nat}{o:Oper}(ho:ops[k]? =some o):(T (k+1)).1=put (T k).1 o.dst (val k)∧
 ((Region.wanted o (jX ops (T k).1)=true∧StepR P o (T k).1 (T k).2 (val k) (T (k+1)).2)∨(Region.wanted o (jX ops (T k).1)=false∧val k=undef∧(T (k+1)).2=(T k).2)):=by
 obtain⟨o',ho',h⟩:=X.step k (dL.1 ho).1
 rw[ho]at ho'
 obtain rfl:=dA ho'
 exact h
theorem Text.old(X:Text P ops T val){t:Tmp}:∀k,k≤ops.size→(∀i o,i<k→ops[i]? =some o→o.dst≠some t)→ev (T k).1 (.tmp t)=ev (T 0).1 (.tmp t)
 | 0,_,_=>rfl
 | k+1,hk,h=>by
   obtain⟨o,ho,h1,_⟩:=X.step k (by omega)
   rw[h1,b1f,if_neg (fun hh=>h k o (by omega) ho hh.1),X.old k (by omega) fun i o' hi=>h i o' (by omega)]
theorem Text.new(X:Text P ops T val)(D:Draw P fl ops){i:Nat}{o:Oper}(ho:ops[i]? =some o){t:Tmp}(hd:o.dst=some t)(ht:t<(T 0).1.length):∀k,i<k→k≤ops.size→ev (T k).1 (.tmp t)=val i
 | 0,h,_=>absurd h (eu _)
 | k+1,hk,hn=>by
   obtain⟨o',ho',h1,_⟩:=X.step k (by omega)
   rw[h1,b1f]
   by_cases hik:i=k
   ·subst hik
    rw[ho]at ho'
    obtain rfl:=dA ho'
    rw[if_pos ⟨hd,by rw[X.length _ (by omega)];exact ht⟩]
   ·rw[if_neg fun hh=>D.ne (by omega) ho ho' hd hh.1]
    exact X.new D ho hd ht k (by omega) (by omega)
theorem Text.still(X:Text P ops T val)(D:Draw P fl ops){k:Nat}{o:Oper}(ho:ops[k]? =some o)(hm:kJ fl o.op=false)(ha:jU fl o.op=false):(T (k+1)).2=(T k).2:=by
 rcases(X.at ho).2 with⟨_,h⟩|⟨_,_,h⟩
 ·have hd:=h.plain hm
  cases hr:pI o.op with
  | true=>exact a1R (D.conv _ _ ho) hr hd
  | false=>exact(a9J .nil (D.conv _ _ ho) hm ha hr hd).1
 ·exact h
theorem Text.bF(X:Text P ops T val)(D:Draw P fl ops){i:Nat}:∀k,i≤k→k≤ops.size→(∀j o,i≤j→j<k→ops[j]? =some o→kJ fl o.op=false∧jU fl o.op=false)→(T k).2=(T i).2
 | 0,h,_,_=>by rw[Nat.le_zero.1 h]
 | k+1,h,hk,hh=>by
   by_cases he:i=k+1
   ·rw[he]
   ·obtain⟨o,ho,_⟩:=X.step k (by omega)
    have:=hh k o (by omega) (by omega) ho
    rw[X.still D ho this.1 this.2,X.bF D k (by omega) (by omega) fun j o h1 h2=>hh j o h1 (by omega)]
theorem Text.row(X:Text P ops T val)(D:Draw P fl ops){j A:Nat}(hA:A<(T j).2.length):∀k,j≤k→k≤ops.size→(∀i o,j≤i→i<k→ops[i]? =some o→kJ fl o.op=false)→jS (T k).2 A=jS (T j).2 A∧A<(T k).2.length
 | 0,h,_,_=>by rw[←Nat.le_zero.1 h];exact⟨rfl,hA⟩
 | k+1,h,hk,hh=>by
   by_cases he:j=k+1
   ·rw[←he];exact⟨rfl,hA⟩
   ·obtain⟨o,ho,_⟩:=X.step k (by omega)
    have hm:=hh k o (by omega) (by omega) ho
    obtain⟨h1,h2⟩:=X.row D hA k (by omega) (by omega) fun i o h1 h2=>hh i o h1 (by omega)
    cases ha:jU fl o.op with
    | false=>rw[X.still D ho hm ha];exact⟨h1,h2⟩
    | true=>
      rcases(X.at ho).2 with⟨_,h3⟩|⟨_,_,h3⟩
      ·obtain⟨kX,h4⟩:=b1s ha (h3.plain hm)
       rw[h4,kS _ h2]
       exact⟨h1,by rw[length_cons];omega⟩
      ·rw[h3];exact⟨h1,h2⟩
structure Inv(P:Program)(fl:Fl)(ops:Array Oper)(T:Nat→List Value×Heap)(val:Nat→Value)(ρ0:Rho)(W0:World)(ds:List Deferred)(S:Nat→Prop)(pl:Nat→Nat)(m:Nat)(ρ:Rho)(a:Act)(w:World):Prop where
 le:m≤ops.size
 post:Post P ρ0 (T 0).2 W0 ρ (T m).2 w
 closed:b1L ops S
 mains:∀i o,ops[i]? =some o→kJ fl o.op=true→(S i↔i<m)
 allocs:∀i o,ops[i]? =some o→jU fl o.op=true→i<m→S i
 pend:∀i o,ops[i]? =some o→jU fl o.op=true→m≤i→S i→W0.heap.size≤pl i∧pl i<w.heap.size∧Off ρ (pl i)∧
  ∃(v':Value)(cs:List Value)(cs':Array Value)(ty ty':TypeId)(tg k:Nat),PendAt P ρ w (T i).2 (T (i+1)).2 (val i) v' (pl i) cs cs' ty ty' tg k∧∀d,o.dst=some d→d<(T 0).1.length→a.eval (.tmp d)=v'
 apart:∀i j x y,ops[i]? =some x→ops[j]? =some y→jU fl x.op=true→jU fl y.op=true→m≤i→m≤j→S i→S j→pl i=pl j→i=j
 size:a.tmps.size=(T 0).1.length
 old:∀t,(∀i o,S i→ops[i]? =some o→o.dst≠some t)→V ρ (ev (T 0).1 (.tmp t)) (a.eval (.tmp t))
 new:∀i o t,S i→ops[i]? =some o→o.dst=some t→t<(T 0).1.length→(∀b,lR fl i o.op=some b→b<m)→V ρ (val i) (a.eval (.tmp t))
 der:∀(i j:Nat)(o b:Oper)(t d:Tmp),S i→ops[i]? =some o→jU fl o.op=false→lR fl i o.op=some j→m≤j→o.dst=some t→t<(T 0).1.length→ops[j]? =some b→b.dst=some d→
  ∀ρ1:Rho,(d<(T 0).1.length→V ρ1 (val j) (a.eval (.tmp d)))→V ρ1 (val i) (a.eval (.tmp t))
 defers:a.defers=ds
variable {ρ0:Rho} {W0:World} {ds:List Deferred} {S:Nat→Prop} {pl:Nat→Nat} {m:Nat} {a:Act}
theorem a7N{l:List Value}{t:Tmp}(h:l.length≤t):ev l (.tmp t)=undef:=by
 simp[ev,pW,dE,fm h]
theorem a3I{a:Act}{t:Tmp}(h:a.tmps.size≤t):a.eval (.tmp t)=undef:=by
 simp[Act.eval,h]
theorem Inv.looks(I:Inv P fl ops T val ρ0 W0 ds S pl m ρ a w)(X:Text P ops T val)(D:Draw P fl ops){i:Nat}{o:Oper}(ho:ops[i]? =some o)(hS:¬S i)(hr:∀e∈o.after,Region.binds .any e=true→S e.on)(hm:kJ fl o.op=true→m=i)(hj:∀j,fl.base i=some j→j<m)
 {t:Tmp} (ht:t∈o.looksAt ops):V ρ (ev (T i).1 (.tmp t)) (a.eval (.tmp t)):=by
 have hi:i<ops.size:=(dL.1 ho).1
 by_cases hl:(T 0).1.length≤t
 ·rw[a7N (by rw[X.length i (by omega)];exact hl),a3I (by rw[I.size];exact hl)]
  exact .undef
 have hl:t<(T 0).1.length:=iO hl
 by_cases hk:∃k x,k<i∧ops[k]? =some x∧x.dst=some t
 ·obtain⟨k,x,hki,hx,hd⟩:=hk
  have hSk:S k:=D.bef I.closed i o ho hr k (D.raw hki hx ho hd ht)
  rw[X.new D hx hd hl i hki (by omega)]
  refine I.new k x t hSk hx hd hl fun b hb=> ?_
  rcases D.fresh hki hx ho hd hb ht with h|h
  ·have:=(D.aW hx hb).1
   have:=hm h
   omega
  ·exact hj b h
 ·rw[X.old i (by omega) fun k x hki hx hd=>hk ⟨k,x,hki,hx,hd⟩]
  refine I.old t fun k x hSk hx hd=> ?_
  rcases jb k i with h|h|h
  ·exact hk ⟨k,x,h,hx,hd⟩
  ·exact hS (h▸hSk)
  ·exact hS (D.bef I.closed k x hx (fun e he hb=>I.closed k x hSk hx e he hb) i (D.dq h ho hx hd ht))
theorem Inv.operands(I:Inv P fl ops T val ρ0 W0 ds S pl m ρ a w)(X:Text P ops T val)(D:Draw P fl ops){i:Nat}{o:Oper}(ho:ops[i]? =some o)(hS:¬S i)(hr:∀e∈o.after,Region.binds .any e=true→S e.on)(hm:kJ fl o.op=true→m=i)(hj:∀j,fl.base i=some j→j<m):
 ∀x,x∈o.op.operands→jT x=true→V ρ (ev (T i).1 x) (a.eval x):=fun x hx hok=>by
 cases x with
 | tmp t=>exact I.looks X D ho hS hr hm hj (by
    unfold Oper.looksAt
    simp only[eo,gn]
    exact .inl ⟨.tmp t,by simpa using hx,rfl⟩)
 | const v=>exact .of_flat hok
 | global g=>exact .v1 (.c1 (.c0 (.glob g 0)))
 | func f=>exact .v1 (.c1 (.fn trivial trivial))
theorem b1J{l:List Value}{a:Act}{ops:Array Oper}{j:Nat}(h:∀d,((ops[j]?).bind (·.dst))=some d→V ρ (ev l (.tmp d)) (a.eval (.tmp d))):yielded ops a.tmps j=jX ops l j:=by
 unfold yielded jX
 cases hd:(ops[j]?).bind (·.dst)with
 | none=>rfl
 | some d=>
   have hv:=h d hd
   simp only[ev,pW,Act.eval,dE]at hv
   simp only[dC]
   cases h1:l[d]? with
   | none=>
     rw[h1,Option.getD_none]at hv
     have:=hv.ai rfl
     cases h2:a.tmps[d]? with
     | none=>rfl
     | some v'=>
       have:v'=undef:=by simpa [h2]using this
       subst this
       rfl
   | some v=>
     rw[h1,eE]at hv
     cases h2:a.tmps[d]? with
     | none=>
       cases v with
       | bool b=>have:=hv.aO;simp[h2]at this;cases this
       | _=>rfl
     | some v'=>
       have hv:V ρ v v':=by simpa [h2]using hv
       cases v' with
       | bool b=>rw[hv.of_bool]
       | _=>
         cases v with
         | bool b=>have:=hv.aO;cases this
         | _=>rfl
theorem Inv.wanted(I:Inv P fl ops T val ρ0 W0 ds S pl m ρ a w)(X:Text P ops T val)(D:Draw P fl ops){i:Nat}{o:Oper}(ho:ops[i]? =some o)(hS:¬S i)(hr:∀e∈o.after,Region.binds .any e=true→S e.on)(hm:kJ fl o.op=true→m=i)(hj:∀j,fl.base i=some j→j<m):
 Region.wanted o (yielded ops a.tmps)=Region.wanted o (jX ops (T i).1):=by
 unfold Region.wanted
 cases hg:o.guard with
 | none=>rfl
 | some g=>
   simp only
   rw[b1J (l:=(T i).1) fun d hd=>I.looks X D ho hS hr hm hj (by
    unfold Oper.looksAt
    simp only[hg,eo]
    exact .inr (by rw[hd];simp))]
theorem a4O{b:Nat}(h:Off ρ b):¬Wr ρ H b:=by
 rintro⟨A,e,p,kX,hp,hb,_⟩
 exact h _ _ _ hp hb
theorem Inv.skip(I:Inv P fl ops T val ρ0 W0 ds S pl m ρ a w)(X:Text P ops T val)(D:Draw P fl ops){o:Oper}(ho:ops[m]? =some o)(hm:kJ fl o.op=false)(ha:jU fl o.op=false):Inv P fl ops T val ρ0 W0 ds S pl (m+1) ρ a w:=by
 have hlt:m<ops.size:=(dL.1 ho).1
 have hno:∀i x,ops[i]? =some x→(kJ fl x.op=true∨jU fl x.op=true)→i≠m:=fun i x hx he hi=>by
  subst hi
  rw[ho]at hx
  obtain rfl:=dA hx
  rcases he with he|he
  ·rw[hm]at he;cases he
  ·rw[ha]at he;cases he
 refine⟨hlt,by rw[X.still D ho hm ha];exact I.post,I.closed,fun i x hx hmx=>(I.mains i x hx hmx).trans ?_,fun i x hx hax hi=> ?_,fun i x hx hax hi=>I.pend i x hx hax (by omega),fun i j x y hx hy h1 h2 h3 h4=>I.apart i j x y hx hy h1 h2 (by omega) (by omega),I.size,I.old,fun i x t hS hx hd hl hal=>I.new i x t hS hx hd hl fun b hb=> ?_,fun i j x y t d hS hx hna hh hj=>I.der i j x y t d hS hx hna hh (by omega),I.defers⟩
 ·have:=hno i x hx (.inl hmx);omega
 ·have:=hno i x hx (.inr hax);exact I.allocs i x hx hax (by omega)
 ·obtain⟨_,y,hy,hay⟩:=D.aW hx hb
  have:=hno b y hy (.inr hay);have:=hal b hb;omega
theorem Inv.aT(I:Inv P fl ops T val ρ0 W0 ds S pl m ρ a w)(D:Draw P fl ops){o:Oper}(ho:ops[m]? =some o)(ha:jU fl o.op=true)(hS:S m):∃ρ',Inv P fl ops T val ρ0 W0 ds S pl (m+1) ρ' a w:=by
 have hlt:m<ops.size:=(dL.1 ho).1
 obtain⟨h1,h2,h3,v',cs,cs',ty,ty',tg,k,hpa,h8⟩:=I.pend m o ho ha (dG _) hS
 have hle:ρ.Le (ρ.put (T m).2.length cs.length ⟨pl m,0,cs.length,k⟩):=.put (rN I.post.rel _)
 have hpost:=I.post.aT cs ty tg ⟨pl m,0,cs.length,k⟩ h3 h2 h1 (hpa.at_ _ w hpa.here (hpa.rel.mono fun _ _ h=>h.mono hle))
 rw[←hpa.next]at hpost
 have hmain:kJ fl o.op=false:=qF ha
 refine⟨_,hlt,hpost,I.closed,fun i x hx hmx=>(I.mains i x hx hmx).trans ?_,fun i x hx hax hi=> ?_,fun i x hx hax hi hSi=> ?_,fun i j x y hx hy h1 h2 h3 h4=>I.apart i j x y hx hy h1 h2 (by omega) (by omega),I.size,fun t ht=>(I.old t ht).mono hle,fun i x t hSi hx hd hl hal=> ?_,fun i j x y t d hS hx hna hh hj=>I.der i j x y t d hS hx hna hh (by omega),I.defers⟩
 ·have:i≠m:=fun hi=>by
   subst hi
   rw[ho]at hx
   obtain rfl:=dA hx
   rw[hmain]at hmx;cases hmx
  omega
 ·by_cases hi2:i=m
  ·rw[hi2];exact hS
  ·exact I.allocs i x hx hax (by omega)
 ·obtain⟨k1,k2,k3,v1,c1,c2,t1,t2,g1,kk,k4,k5⟩:=I.pend i x hx hax (by omega) hSi
  refine⟨k1,k2,fun A e p hp=> ?_,v1,c1,c2,t1,t2,g1,kk,k4.mono hle rfl,k5⟩
  by_cases hh:A=(T m).2.length∧e=cs.length
  ·obtain⟨rfl,rfl⟩:=hh
   rw[Rho.al]at hp
   obtain rfl:=dA hp
   intro hpl
   have:=I.apart m i o x ho hx ha hax (dG _) (by omega) hS hSi hpl
   omega
  ·rw[Rho.aQ hh]at hp
   exact k3 _ _ _ hp
 ·by_cases hi:i=m
  ·subst hi
   rw[ho]at hx
   obtain rfl:=dA hx
   rw[h8 t hd hl]
   exact hpa.val _ (Rho.al _ _ _ _)
  ·by_cases hb:lR fl i x.op=some m
   ·have hna:jU fl x.op=false:=by
     cases h:jU fl x.op with
     | false=>rfl
     | true=>rw[vQ h]at hb;exact absurd (dA hb) hi
    obtain⟨_,_,_,y,d,_,_,_,hy,hyd,_⟩:=D.aB hx (tK hna hb).1
    rw[ho]at hy
    obtain rfl:=dA hy
    exact I.der i m x o t d hSi hx hna hb (dG _) hd hl ho hyd _ fun hdl=>by
     rw[h8 d hyd hdl]
     exact hpa.val _ (Rho.al _ _ _ _)
   ·exact(I.new i x t hSi hx hd hl fun b h=>by have:=hal b h;have:b≠m:=fun e=>hb (e▸h);omega).mono hle
theorem Inv.cA(X:Text P ops T val)(D:Draw P fl ops):∀(n m:Nat)(ρ:Rho),Inv P fl ops T val ρ0 W0 ds S pl m ρ a w→m+n≤ops.size→(∀k x,m≤k→k<m+n→ops[k]? =some x→kJ fl x.op=false∧(jU fl x.op=true→S k))→∃ρ',Inv P fl ops T val ρ0 W0 ds S pl (m+n) ρ' a w
 | 0,m,ρ,I,_,_=>⟨ρ,I⟩
 | n+1,m,ρ,I,hn,hh=>by
   have ho:ops[m]? =some (ops[m]'(by omega)):=dL.2 ⟨by omega,rfl⟩
   obtain⟨h1,h2⟩:=hh m _ (dG _) (by omega) ho
   have step:∃ρ',Inv P fl ops T val ρ0 W0 ds S pl (m+1) ρ' a w:=by
    cases ha:jU fl (ops[m]'(by omega)).op with
    | true=>exact I.aT D ho ha (h2 ha)
    | false=>exact⟨ρ,I.skip X D ho h1 ha⟩
   obtain⟨ρ1,I1⟩:=step
   obtain⟨ρ2,I2⟩:=Inv.cA X D n (m+1) ρ1 I1 (by omega) fun k x h3 h4=>hh k x (by omega) (by omega)
   exact⟨ρ2,by rw[show m+(n+1)=m+1+n by omega];exact I2⟩
theorem Inv.next(I:Inv P fl ops T val ρ0 W0 ds S pl m ρ a w)(X:Text P ops T val)(D:Draw P fl ops){i:Nat}{o:Oper}(ho:ops[i]? =some o)(hS:¬S i)(hr:∀e∈o.after,Region.binds .any e=true→S e.on)(hna:jU fl o.op=false)
 {m':Nat} (hm':(kJ fl o.op=true∧m=i∧m'=i+1)∨(kJ fl o.op=false∧m'=m)) {ρ':Rho} {v':Value} {w':World} (hp:Post P ρ (T m).2 w ρ' (T m').2 w') (hv:(∀b,lR fl i o.op=some b→b<m')→V ρ' (val i) v')
 (hdr:∀(j:Nat)(b:Oper)(d:Tmp),lR fl i o.op=some j→m'≤j→ops[j]? =some b→b.dst=some d→∀ρ1:Rho,(d<(T 0).1.length→V ρ1 (val j) (a.eval (.tmp d)))→V ρ1 (val i) v'):
 Inv P fl ops T val ρ0 W0 ds (fun k=>S k∨k=i) pl m' ρ' (a.put o.dst v') w':=by
 have hi:i<ops.size:=(dL.1 ho).1
 have hmm:m≤m':=by rcases hm' with⟨_,rfl,rfl⟩|⟨_,rfl⟩<;>omega
 have hne:∀k x,ops[k]? =some x→k≠i→∀d,x.dst=some d→o.dst≠some d:=fun k x hx hki d hd hod=>by
  rcases gU hki with h|h
  ·exact D.ne h hx ho hd hod
  ·exact D.ne h ho hx hod hd
 have hnot:∀k x,ops[k]? =some x→jU fl x.op=true→k≠i:=fun k x hx hax hki=>by
  subst hki
  rw[ho]at hx
  obtain rfl:=dA hx
  rw[hna]at hax;cases hax
 refine⟨?_,I.post.trans hp,?_,fun k x hx hmx=> ?_,fun k x hx hax hk=> ?_,fun k x hx hax hk hSk=> ?_,fun k j x y hx hy h1 h2 h3 h4 h5 h6=> ?_,by rw[b0P];exact I.size,fun t ht=> ?_,fun k x t hSk hx hd hl hal=> ?_,fun k j x y t d hSk hx hka hh hj htd htl hy hyd ρ1 hV=> ?_,by rw[vV];exact I.defers⟩
 ·rcases hm' with⟨_,rfl,rfl⟩|⟨_,rfl⟩
  ·exact hi
  ·exact I.le
 ·intro j x hj hx e he hb
  rcases hj with hj|rfl
  ·exact .inl (I.closed j x hj hx e he hb)
  ·rw[ho]at hx
   obtain rfl:=dA hx
   exact .inl (hr e he hb)
 ·rcases hm' with⟨h1,rfl,rfl⟩|⟨h1,rfl⟩
  ·rw[I.mains k x hx hmx];omega
  ·rw[I.mains k x hx hmx]
   have:k≠i:=fun hki=>by
    subst hki
    rw[ho]at hx
    obtain rfl:=dA hx
    rw[h1]at hmx;cases hmx
   omega
 ·have hki:=hnot k x hx hax
  refine .inl (I.allocs k x hx hax ?_)
  rcases hm' with⟨_,rfl,rfl⟩|⟨_,rfl⟩<;>omega
 ·have hki:=hnot k x hx hax
  obtain⟨k1,k2,k3,v1,c1,c2,t1,t2,g1,kk,k4,k6⟩:=I.pend k x hx hax (by omega) (hSk.resolve_right hki)
  refine⟨k1,eH k2 hp.size,hp.img _ k2 k3,v1,c1,c2,t1,t2,g1,kk,k4.mono hp.le (hp.frame _ k2 (a4O k3)).1,fun d hd hl=> ?_⟩
  rw[nQ,if_neg fun hh=>hne k x hx hki d hd hh.1]
  exact k6 d hd hl
 ·exact I.apart k j x y hx hy h1 h2 (by omega) (by omega) (h5.resolve_right (hnot k x hx h1)) (h6.resolve_right (hnot j y hy h2))
 ·rw[nQ,if_neg fun hh=>ht i o (.inr rfl) ho hh.1]
  exact(I.old t fun k x hk=>ht k x (.inl hk)).mono hp.le
 ·by_cases hki:k=i
  ·subst hki
   rw[ho]at hx
   obtain rfl:=dA hx
   rw[nQ,if_pos ⟨hd,by rw[I.size];exact hl⟩]
   exact hv hal
  ·rw[nQ,if_neg fun hh=>hne k x hx hki t hd hh.1]
   refine(I.new k x t (hSk.resolve_right hki) hx hd hl fun b h=> ?_).mono hp.le
   have h1:=hal b h
   obtain⟨_,y,hy,hay⟩:=D.aW hx h
   have:=hnot b y hy hay
   rcases hm' with⟨_,rfl,rfl⟩|⟨_,rfl⟩<;>omega
 ·have hji:=hnot j y hy (by
   obtain⟨_,y',hy',hay⟩:=D.aW hx hh
   rw[hy]at hy'
   obtain rfl:=dA hy'
   exact hay)
  have hV':d<(T 0).1.length→V ρ1 (val j) (a.eval (.tmp d)):=fun hdl=>by
   have:=hV hdl
   rw[nQ,if_neg fun hh=>hne j y hy hji d hyd hh.1]at this
   exact this
  by_cases hki:k=i
  ·subst hki
   rw[ho]at hx
   obtain rfl:=dA hx
   rw[nQ,if_pos ⟨htd,by rw[I.size];exact htl⟩]
   exact hdr j y d hh hj hy hyd ρ1 hV'
  ·rw[nQ,if_neg fun hh=>hne k x hx hki t htd hh.1]
   exact I.der k j x y t d (hSk.resolve_right hki) hx hka hh (by omega) htd htl hy hyd ρ1 hV'
theorem Draw.lit(D:Draw P fl ops)(hc:b1L ops S){i j:Nat}{o:Oper}(ho:ops[i]? =some o)(hr:∀e∈o.after,Region.binds .any e=true→S e.on)(hj:fl.base i=some j):S j:=by
 have one:∀(i:Nat)(o b:Oper)(d:Tmp),j<i→ops[i]? =some o→ops[j]? =some b→b.dst=some d→(∀e∈o.after,Region.binds .any e=true→S e.on)→.tmp d∈o.op.operands→S j:=fun i o b d hji ho hb hd hr hx=>
  D.bef hc i o ho hr j (D.raw hji hb ho hd (by
   unfold Oper.looksAt
   simp only[eo,gn]
   exact .inl ⟨.tmp d,by simpa using hx,rfl⟩))
 obtain⟨h1,_,_,b,d,_,_,_,hb,hd,_,_,hD⟩:=D.aB ho hj
 obtain⟨dst,op,type,pos,after,guard⟩:=o
 simp only at hD hr
 cases hD with
 | addr t ix=>exact one i _ b d h1 ho hb hd hr (by simp[Op.operands])
 | conv s t=>exact one i _ b d h1 ho hb hd hr (by simp[Op.operands])
 | load t x k y t' x' ix' g1 g2 g3 g4 g5 g6=>
   have hSk:S k:=D.bef hc i _ ho hr k (D.raw g2 g3 ho g6 (by
    unfold Oper.looksAt
    simp only[eo,gn]
    exact .inl ⟨.tmp x,by simp[Op.operands],rfl⟩))
   obtain⟨_,_,_,b',d',_,_,_,hb',hd',_,_,hD'⟩:=D.aB g3 g4
   rw[hb]at hb'
   obtain rfl:=dA hb'
   rw[hd]at hd'
   obtain rfl:=dA hd'
   obtain⟨dst2,op2,type2,pos2,after2,guard2⟩:=y
   simp only at g5 hD'
   subst g5
   cases hD'
   exact one k _ b d g1 g3 hb hd (fun e he hb=>hc k _ hSk g3 e he hb) (by simp[Op.operands])
theorem Inv.lits(I:Inv P fl ops T val ρ0 W0 ds S pl m ρ a w)(_X:Text P ops T val)(D:Draw P fl ops){i j:Nat}{o:Oper}(ho:ops[i]? =some o)(hS:S i)(hj:fl.base i=some j):S j:=
 D.lit I.closed ho (fun e he hb=>I.closed i o hS ho e he hb) hj
theorem Inv.early(I:Inv P fl ops T val ρ0 W0 ds S pl m ρ a w)(X:Text P ops T val)(D:Draw P fl ops){i:Nat}{o:Oper}(ho:ops[i]? =some o)(hS:¬S i)(hr:∀e∈o.after,Region.binds .any e=true→S e.on)(hal:jU fl o.op=true):
 ∃(v':Value)(w':World),(execOp a.eval o).run P w=.ok (.value v') w'∧Inv P fl ops T val ρ0 W0 ds (fun k=>S k∨k=i) (fun k=>if k=i then w.heap.size else pl k) m ρ (a.put o.dst v') w':=by
 have hi:i<ops.size:=(dL.1 ho).1
 have hmi:m≤i:=iP fun h=>hS (I.allocs i o ho hal h)
 have hw:Region.wanted o (jX ops (T i).1)=true:=by
  unfold Region.wanted
  rw[D.guard i o ho hal]
 have hst:StepR P o (T i).1 (T i).2 (val i) (T (i+1)).2:=by
  rcases(X.at ho).2 with⟨_,h⟩|⟨h,_⟩
  ·exact h
  ·rw[hw]at h;cases h
 have hnm:=qF hal
 have hok:∀x,x∈o.op.operands→jT x=true:=fun x hx=>by
  have:=hst.ok
  rw[dT]at this;exact this x (by simpa using hx)
 obtain⟨v',cs,cs',ty,ty',tg,kk,h1,h2⟩:=b5z hal (hst.plain hnm) (fun x hx=>I.operands X D ho hS hr (fun h=>by rw[hnm]at h;cases h) (fun j hj=>by have:=(D.cm ho hj).2.2;rw[hal]at this;cases this) x hx (hok x hx)) w
 refine⟨_,_,h1,?_⟩
 have hp:=Post.bd I.post.rel (.cells cs' ty')
 have hne:∀k x,ops[k]? =some x→k≠i→∀d,x.dst=some d→o.dst≠some d:=fun k x hx hki d hd hod=>by
  rcases gU hki with h|h
  ·exact D.ne h hx ho hd hod
  ·exact D.ne h ho hx hod hd
 have hoff:Off ρ w.heap.size:=fun A e p hq=>by have:=(I.post.rel.dom _ _ _ hq).2;omega
 refine⟨I.le,I.post.trans hp,?_,fun k x hx hmx=> ?_,fun k x hx hax hk=>.inl (I.allocs k x hx hax hk),fun k x hx hax hk hSk=> ?_,fun k j x y hx hy g1 g2 g3 g4 g5 g6 g7=> ?_,by rw[b0P];exact I.size,fun t' ht=> ?_,fun k x t' hSk hx hd hl hal'=> ?_,fun k j x y t d hSk hx hka hh hj htd htl hy hyd ρ1 hV=> ?_,by rw[vV];exact I.defers⟩
 ·intro j x hj hx e he hb
  rcases hj with hj|rfl
  ·exact .inl (I.closed j x hj hx e he hb)
  ·rw[ho]at hx
   obtain rfl:=dA hx
   exact .inl (hr e he hb)
 ·have:k≠i:=fun hki=>by
   subst hki
   rw[ho]at hx
   obtain rfl:=dA hx
   rw[hnm]at hmx;cases hmx
  rw[←I.mains k x hx hmx]
  simp[this]
 ·by_cases hki:k=i
  ·subst hki
   rw[ho]at hx
   obtain rfl:=dA hx
   simp only[if_true]
   refine⟨I.post.size,by simp,hoff,v',cs,cs',ty,ty',tg,kk,h2,fun d hd hl=> ?_⟩
   rw[nQ,if_pos ⟨hd,by rw[I.size];exact hl⟩]
  ·simp only[hki,if_false]
   obtain⟨k1,k2,k3,v1,c1,c2,t1,t2,g1,kk1,k4,k6⟩:=I.pend k x hx hax hk (hSk.resolve_right hki)
   refine⟨k1,by simp;omega,k3,v1,c1,c2,t1,t2,g1,kk1,k4.mono (fun _ _ _ h=>h) (kH k2),fun d hd hl=> ?_⟩
   rw[nQ,if_neg fun hh=>hne k x hx hki d hd hh.1]
   exact k6 d hd hl
 ·have lt:∀k x,ops[k]? =some x→jU fl x.op=true→m≤k→S k→pl k<w.heap.size:=fun k x hx ha hk hSk=>by
   exact(I.pend k x hx ha hk hSk).2.1
  by_cases hki:k=i
  ·by_cases hji:j=i
   ·rw[hki,hji]
   ·simp only[hki,hji,if_true,if_false]at g7
    have:=lt j y hy g2 g4 (g6.resolve_right hji);omega
  ·by_cases hji:j=i
   ·simp only[hki,hji,if_true,if_false]at g7
    have:=lt k x hx g1 g3 (g5.resolve_right hki);omega
   ·simp only[hki,hji,if_false]at g7
    exact I.apart k j x y hx hy g1 g2 g3 g4 (g5.resolve_right hki) (g6.resolve_right hji) g7
 ·rw[nQ,if_neg fun hh=>ht i o (.inr rfl) ho hh.1]
  exact I.old t' fun k x hk=>ht k x (.inl hk)
 ·have hki:k≠i:=fun hki=>by
   subst hki
   rw[ho]at hx
   obtain rfl:=dA hx
   have:=hal' _ (vQ hal)
   omega
  rw[nQ,if_neg fun hh=>hne k x hx hki t' hd hh.1]
  exact I.new k x t' (hSk.resolve_right hki) hx hd hl hal'
 ·have hki:k≠i:=fun hki=>by
   subst hki
   rw[ho]at hx
   obtain rfl:=dA hx
   rw[hal]at hka
   cases hka
  rw[nQ,if_neg fun hh=>hne k x hx hki t htd hh.1]
  refine I.der k j x y t d (hSk.resolve_right hki) hx hka hh hj htd htl hy hyd ρ1 fun hdl=> ?_
  have h9:=hV hdl
  by_cases hji:j=i
  ·subst hji
   exfalso
   have hb:=(tK hka hh).1
   obtain⟨g1,_,_,b',d',_,_,_,g2,g3,_,_,g4⟩:=D.aB hx hb
   have hSk':=hSk.resolve_right hki
   exact hS (I.lits X D hx hSk' hb)
  ·rw[nQ,if_neg fun hh=>hne j y hy hji d hyd hh.1]at h9
   exact h9
end
end
section
variable {P:Program} {ρ:Rho} {H:Heap} {w:World} {fl:Fl} {ops:Array Oper} {T:Nat→List Value×Heap} {val:Nat→Value}
variable {ρ0:Rho} {W0:World} {ds:List Deferred} {S:Nat→Prop} {pl:Nat→Nat} {m:Nat} {a:Act}
theorem Inv.aB(I:Inv P fl ops T val ρ0 W0 ds S pl m ρ a w)(X:Text P ops T val)(D:Draw P fl ops){i j:Nat}{o:Oper}(ho:ops[i]? =some o)(hS:¬S i)(hr:∀e∈o.after,Region.binds .any e=true→S e.on)(hj:fl.base i=some j)(hmj:m≤j):
 ∃v',(execOp a.eval o).run P w=.ok (.value v') w∧Inv P fl ops T val ρ0 W0 ds (fun k=>S k∨k=i) pl m ρ (a.put o.dst v') w:=by
 have hin:i<ops.size:=(dL.1 ho).1
 have hSj:=D.lit I.closed ho hr hj
 obtain⟨hji,hg,hnm,b,d,bt,blen,bparts,hb,hbd,hbo,hba,hD⟩:=D.aB ho hj
 obtain⟨hmi,hai⟩:=hD.plain
 obtain⟨q1,q2,q3,v0,cs,cs',ty,ty',tg,k,hpa,hslot⟩:=I.pend j b hb hba hmj hSj
 have hwj:Region.wanted b (jX ops (T j).1)=true:=by
  unfold Region.wanted
  rw[D.guard j b hb hba]
 have hopj:opD P b (T j).1 (T j).2=some (val j,(T (j+1)).2):=by
  rcases(X.at hb).2 with⟨_,h⟩|⟨h,_⟩
  ·exact h.plain (qF hba)
  ·rw[hwj]at h;cases h
 obtain⟨cs0,elem,size,hcons,hvj⟩:=c5e hbo hopj
 have hrowj:jS (T (j+1)).2 (T j).2.length=some (.cells cs ty true cs.length tg):=by rw[hpa.next,jP]
 have hcs:cs0=cs:=by
  rw[hcons,jP]at hrowj
  injection (dA hrowj)
 subst hcs
 have hA:(T j).2.length<(T (j+1)).2.length:=kL hrowj
 have hrowi:jS (T i).2 (T j).2.length=some (.cells cs0 ty true cs0.length tg):=by
  rw[(X.row D hA i (by omega) (by omega) fun q x h1 h2 hx=>hnm q x (by omega) h2 hx).1]
  exact hrowj
 have hrow:a8J P ρ (T i).2 w (T j).2.length cs0.length ⟨pl j,0,cs0.length,k⟩:=by
  intro cs2 ty2 rw2 lo2 ver2 hg2
  rw[hrowi]at hg2
  injection (dA hg2)with e1 e2 e3 e4 e5
  subst e1 e2 e3 e4 e5
  exact hpa.at_ ρ w hpa.here hpa.rel
 let ρj:Rho:=Rho.put (fun _ _=>none) (T j).2.length cs0.length ⟨pl j,0,cs0.length,k⟩
 have hput:ρj (T j).2.length cs0.length=some ⟨pl j,0,cs0.length,k⟩:=Rho.al _ _ _ _
 have hdj:d<(T 0).1.length→V ρj (val j) (a.eval (.tmp d)):=fun hdl=>by
  rw[hslot d hbd hdl]
  exact hpa.val _ hput
 have looks:∀t,t∈o.looksAt ops→∃ρ',V ρ' (ev (T i).1 (.tmp t)) (a.eval (.tmp t)):=by
  intro t ht
  by_cases hl:(T 0).1.length≤t
  ·rw[a7N (by rw[X.length i (by omega)];exact hl),a3I (by rw[I.size];exact hl)]
   exact⟨ρ,.undef⟩
  have hl:t<(T 0).1.length:=iO hl
  by_cases hk:∃q x,q<i∧ops[q]? =some x∧x.dst=some t
  ·obtain⟨q,x,hqi,hx,hd⟩:=hk
   have hSq:S q:=D.bef I.closed i o ho hr q (D.raw hqi hx ho hd ht)
   rw[X.new D hx hd hl i hqi (by omega)]
   cases hh:lR fl q x.op with
   | none=>exact⟨ρ,I.new q x t hSq hx hd hl fun c hc=>by rw[hh]at hc;cases hc⟩
   | some c=>
     by_cases hcm:c<m
     ·exact⟨ρ,I.new q x t hSq hx hd hl fun c' hc=>by rw[hh]at hc;obtain rfl:=dA hc;exact hcm⟩
     ·refine⟨ρj,?_⟩
      rcases D.fresh hqi hx ho hd hh ht with h|h
      ·rw[hmi]at h;cases h
      ·rw[hj]at h
       obtain rfl:=dA h
       cases hax:jU fl x.op with
       | true=>
         rw[vQ hax]at hh
         obtain rfl:=dA hh
         rw[hb]at hx
         obtain rfl:=dA hx
         rw[hbd]at hd
         obtain rfl:=dA hd
         exact hdj hl
       | false=>exact I.der q _ x b t d hSq hx hax hh hmj hd hl hb hbd _ hdj
  ·rw[X.old i (by omega) fun q x hqi hx hd=>hk ⟨q,x,hqi,hx,hd⟩]
   refine⟨ρ,I.old t fun q x hSq hx hd=> ?_⟩
   rcases jb q i with h|h|h
   ·exact hk ⟨q,x,h,hx,hd⟩
   ·exact hS (h▸hSq)
   ·exact hS (D.bef I.closed q x hx (fun e he hb=>I.closed q x hSq hx e he hb) i (D.dq h ho hx hd ht))
 have hwi:Region.wanted o (jX ops (T i).1)=true:=by
  unfold Region.wanted
  rw[hg]
 have hst:StepR P o (T i).1 (T i).2 (val i) (T (i+1)).2:=by
  rcases(X.at ho).2 with⟨_,h⟩|⟨h,_⟩
  ·exact h
  ·rw[hwi]at h;cases h
 have hop:=hst.plain hmi
 have hoks:∀x,x∈o.op.operands→jT x=true:=fun x hx=>by
  have:=hst.ok
  rw[dT]at this;exact this x (by simpa using hx)
 have hV:∀x,x∈o.op.operands→∃ρ',V ρ' (ev (T i).1 x) (a.eval x):=fun x hx=>by
  have hok:=hoks x hx
  cases x with
  | tmp t=>exact looks t (by
     unfold Oper.looksAt
     simp only[eo,gn]
     exact .inl ⟨.tmp t,by simpa using hx,rfl⟩)
  | const v=>exact⟨ρ,.of_flat hok⟩
  | global g=>exact⟨ρ,.v1 (.c1 (.c0 (.glob g 0)))⟩
  | func f=>exact⟨ρ,.v1 (.c1 (.fn trivial trivial))⟩
 have hdi:d<(T 0).1.length∨(T 0).1.length≤d:=gQ _ _
 have evd:d<(T 0).1.length→∀q,j<q→q≤ops.size→ev (T q).1 (.tmp d)=val j:=fun hdl q h1 h2=>X.new D hb hbd hdl q h1 h2
 have evn:(T 0).1.length≤d→∀q,q≤ops.size→ev (T q).1 (.tmp d)=undef:=fun hdl q h1=>a7N (by rw[X.length q h1];exact hdl)
 have fin:∀{v':Value},(execOp a.eval o).run P w=.ok (.value v') w→((∀c,lR fl i o.op=some c→c<m)→V ρ (val i) v')→(lR fl i o.op=some j→∀ρ1:Rho,(d<(T 0).1.length→V ρ1 (val j) (a.eval (.tmp d)))→V ρ1 (val i) v')→
  ∃v',(execOp a.eval o).run P w=.ok (.value v') w∧Inv P fl ops T val ρ0 W0 ds (fun k=>S k∨k=i) pl m ρ (a.put o.dst v') w:=by
  intro v' h1 h2 h3
  refine⟨v',h1,I.next X D ho hS hr hai (.inr ⟨hmi,rfl⟩) (.refl I.post.rel) h2 fun j' b' d' hh _ hb' hd' ρ1 hV1=> ?_⟩
  have:=(tK hai hh).1
  rw[hj]at this
  obtain rfl:=dA this
  rw[hb]at hb'
  obtain rfl:=dA hb'
  rw[hbd]at hd'
  obtain rfl:=dA hd'
  exact h3 hh ρ1 hV1
 obtain⟨dst,op,type,pos,after,guard⟩:=o
 simp only at hD hV
 cases hD with
 | addr t ix=>
   obtain⟨ρi,hVi⟩:=hV ix (by simp[Op.operands])
   simp only[opD]at hop
   have hdl:d<(T 0).1.length:=by
    rcases hdi with h|h
    ·exact h
    ·rw[evn h i (by omega)]at hop
     simp[undef]at hop
   have hVx:=hdj hdl
   rw[evd hdl i hji (by omega),hvj]at hop
   rw[hvj]at hVx
   split at hop
   ·rename_i elem' A i' e n c jk jx hu hx hi
    injection hx with hx1 hx2 hx3
    injection (dA hx1)with hx4 hx5 hx6
    obtain rfl:=hx4
    obtain rfl:=hx5
    obtain rfl:=dA hx6
    obtain rfl:=hx2
    obtain rfl:=hx3
    simp only[dD]at hop
    obtain⟨sz,hs,hop⟩:=hop
    split at hop
    case isFalse=>cases hop
    rename_i hc
    simp only[dB,decide_eq_true_eq]at hc
    injection (dA hop)with e1 e2
    rw[hi]at hVi
    obtain⟨p,c',ad,hp,h0,hin',hnc,ha,hck,hbv⟩:=hVx.av
    obtain⟨ha,hsz⟩:ad=⟨p.b,p.at 0,none⟩∧p.at 0+c'*p.k≤p.sz:=by
     rcases ha with ha|ha
     ·exact ha
     ·omega
    subst ha
    have hrun:(Instr.indexAt t (a.eval (.tmp d)) (a.eval ix)).run P w=.ok (.pointer (some ⟨p.b,p.at 0+jx.toNat*sz,none⟩)) w:=by
     unfold Instr.indexAt
     simp only[hbv,hVi.aL,asIntOf,dI,dN,dF,run_underlying hu]
     simp[hc,oZ,kZ hs]
    refine fin (v':=.pointer (some ⟨p.b,p.at 0+jx.toNat*sz,none⟩)) (by simp only[execOp,dI,hrun,dF,dN]) (fun h=> ?_) fun _ ρ1 h1=> ?_
    ·have:=h j (by simp[lR,jU,hj])
     omega
    ·have h2:=h1 hdl
     rw[hvj]at h2
     obtain⟨p2,c2,ad2,hp2,h02,_,hnc2,ha2,_,hbv2⟩:=h2.av
     obtain⟨ha2,_⟩:ad2=⟨p2.b,p2.at 0,none⟩∧p2.at 0+c2*p2.k≤p2.sz:=by
      rcases ha2 with ha2|ha2
      ·exact ha2
      ·omega
     subst ha2
     rw[hbv]at hbv2
     injection hbv2 with g1 g2 g3
     injection (dA g1)with g4 g5 g6
     rw[←e1,g4,g5,←xQ h02]
     exact .v1 (.c1 (.c0 (.ptr hp2 (by
      have:0≤jx.toNat*sz:=fA _
      omega))))
   ·rename_i hx _;cases hx
   ·rename_i hx _;cases hx
   ·cases hop
 | conv s t=>
   have hcv:=D.conv _ _ ho
   simp only[vW,dB,eK]at hcv
   simp only[opD,hcv.1,Bool.not_false,gj]at hop
   rcases hdi with hdl|hdl
   ·have hVx:=hdj hdl
    rw[evd hdl i hji (by omega),hvj]at hop
    rw[hvj]at hVx
    have hfl:flat (.slice (some ⟨(T j).2.length,0,some cs0.length⟩) blen size)=false:=rfl
    rw[hfl]at hop
    simp only[eV,if_false]at hop
    split at hop
    case isFalse=>cases hop
    rename_i hc
    simp only[dB]at hc
    cases hca:(kG (T i).2 (T j).2.length 0 cs0.length blen).bind fun l=>(oX l).map Value.string with
    | none=>rw[hca]at hop;cases hop
    | some v2=>
      rw[hca]at hop
      injection (dA hop)with e1 e2
      simp only[dD,dJ]at hca
      obtain⟨lx,hc1,bx,hc2,hc3⟩:=hca
      obtain⟨p,c',ad,hp,h0,_,_,ha,_,hbv⟩:=hVx.av
      rw[hput]at hp
      obtain rfl:=dA hp
      have hrun:=tW hrow h0 hc.1 hc.2 hc1 hc2 ha
      rw[←hbv]at hrun
      refine fin (v':=.string bx) (by simp only[execOp,dI,hrun,dF,dN]) (fun _=> ?_) fun h=> ?_
      ·rw[←e1,←hc3];exact .of_flat rfl
      ·simp[lR,jU]at h
   ·have e1:=evn hdl i (by omega)
    have e2:a.eval (.tmp d)=undef:=a3I (by rw[I.size];exact hdl)
    rw[e1]at hop
    have hfu:flat undef=true:=rfl
    rw[if_pos hfu]at hop
    unfold lT at hop
    split at hop
    case isFalse=>cases hop
    cases h2:jO P (execOp (ev (T i).1) ⟨dst,.convert s t (.tmp d),type,pos,after,guard⟩)with
    | none=>rw[h2]at hop;cases hop
    | some nx=>
      rw[h2]at hop
      cases nx with
      | value v2=>
        simp only at hop
        split at hop
        case isFalse=>cases hop
        rename_i hf2
        injection (dA hop)with g1 g2
        have hrun:=lX _ h2 w
        have heq:execOp (ev (T i).1) ⟨dst,.convert s t (.tmp d),type,pos,after,guard⟩=execOp a.eval ⟨dst,.convert s t (.tmp d),type,pos,after,guard⟩:=by
         simp only[execOp,e1,e2]
        rw[heq]at hrun
        refine fin hrun (fun _=> ?_) fun h=> ?_
        ·rw[←g1];exact .of_flat hf2
        ·simp[lR,jU]at h
      | _=>cases hop
 | load t x k' y t' x' ix' g1 g2 g3 g4 g5 g6=>
   simp only[opD]at hop
   cases hlo:mC P (T i).2 t (ev (T i).1 (.tmp x))with
   | none=>rw[hlo]at hop;cases hop
   | some r=>
     rw[hlo]at hop
     injection (dA hop)with e1 e2
     have hxl:x<(T 0).1.length:=by
      refine iO fun h=> ?_
      rw[a7N (by rw[X.length i (by omega)];exact h)]at hlo
      simp[mC,undef]at hlo
     rw[X.new D g3 g6 hxl i g2 (by omega)]at hlo
     obtain⟨_,hgk,_,b',d',_,_,_,hb',hd',_,_,hD'⟩:=D.aB g3 g4
     rw[hb]at hb'
     obtain rfl:=dA hb'
     rw[hbd]at hd'
     obtain rfl:=dA hd'
     have hyp:=hD'.plain
     have hwk:Region.wanted y (jX ops (T k').1)=true:=by
      unfold Region.wanted
      rw[hgk]
     have hopk:opD P y (T k').1 (T k').2=some (val k',(T (k'+1)).2):=by
      rcases(X.at g3).2 with⟨_,h⟩|⟨h,_⟩
      ·exact h.plain hyp.1
      ·rw[hwk]at h;cases h
     have hSk:S k':=D.bef I.closed i _ ho hr k' (D.raw g2 g3 ho g6 (by
      unfold Oper.looksAt
      simp only[eo,gn]
      exact .inl ⟨.tmp x,by simp[Op.operands],rfl⟩))
     have hheld:lR fl k' y.op=some j:=by rw[g5];simp[lR,jU,g4]
     have hVk:V ρj (val k') (a.eval (.tmp x)):=I.der k' j y b x d hSk g3 hyp.2 hheld hmj g6 hxl hb hbd _ hdj
     obtain⟨dst2,op2,type2,pos2,after2,guard2⟩:=y
     simp only at g5 hD'
     subst g5
     cases hD'
     simp only[opD]at hopk
     have hdl:d<(T 0).1.length:=by
      rcases hdi with h|h
      ·exact h
      ·rw[evn h k' (by omega)]at hopk
       simp[undef]at hopk
     rw[evd hdl k' g1 (by omega),hvj]at hopk
     split at hopk
     ·rename_i elem' A i' e n c jk jx hu hx hi
      injection hx with hx1 hx2 hx3
      injection (dA hx1)with hx4 hx5 hx6
      obtain rfl:=hx4
      obtain rfl:=hx5
      obtain rfl:=dA hx6
      simp only[dD]at hopk
      obtain⟨sz,hs,hopk⟩:=hopk
      split at hopk
      case isFalse=>cases hopk
      injection (dA hopk)with f1 f2
      rw[←f1]at hlo hVk
      obtain⟨p,hp,h0,hbv⟩:=hVk.aD
      rw[hput]at hp
      obtain rfl:=dA hp
      simp only[mC]at hlo
      obtain⟨r',hr1,hr2⟩:=a9o hrow h0 hlo
      rw[←hbv]at hr1
      refine fin (v':=r') (by simp only[execOp,dI,hr1,dF,dN]) (fun _=> ?_) fun h=> ?_
      ·rw[←e1];exact hr2
      ·simp[lR,jU]at h
     ·rename_i hx _;cases hx
     ·rename_i hx _;cases hx
     ·cases hopk
theorem Inv.done(I:Inv P fl ops T val ρ0 W0 ds S pl m ρ a w)(X:Text P ops T val)(D:Draw P fl ops)(hall:∀i,i<ops.size→S i):
 ∃ρ',Post P ρ0 (T 0).2 W0 ρ' (T ops.size).2 w∧All2 (V ρ') (T ops.size).1 a.tmps.toList∧a.defers=ds:=by
 have hle:=I.le
 obtain⟨ρ',I'⟩:=Inv.cA X D (ops.size-m) m ρ I (by omega) fun k x h1 h2 hx=>by
  have hk:S k:=hall k (by omega)
  refine⟨?_,fun _=>hk⟩
  cases hm:kJ fl x.op with
  | false=>rfl
  | true=>have:=(I.mains k x hx hm).1 hk;omega
 rw[show m+(ops.size-m)=ops.size by omega]at I'
 refine⟨ρ',I'.post,All2.bl (by rw[X.length _ (dG _)];simpa using I'.size.symm) fun t v h1=> ?_,I'.defers⟩
 have ht:t<(T 0).1.length:=by rw[←X.length _ (dG _)];exact(dQ.1 h1).1
 have e1:ev (T ops.size).1 (.tmp t)=v:=by simp[ev,pW,dE,h1]
 have ht2:t<a.tmps.size:=by rw[I'.size];exact ht
 refine⟨a.tmps[t],by simp[ht2],?_⟩
 have e2:a.eval (.tmp t)=a.tmps[t]:=by simp[Act.eval,ht2]
 rw[←e1,←e2]
 by_cases hk:∃k x,k<ops.size∧ops[k]? =some x∧x.dst=some t
 ·obtain⟨k,x,hkn,hx,hd⟩:=hk
  rw[X.new D hx hd ht _ hkn (dG _)]
  exact I'.new k x t (hall k hkn) hx hd ht fun b hb=>by have:=(D.aW hx hb).1;omega
 ·rw[X.old _ (dG _) fun k x hkn hx hd=>hk ⟨k,x,hkn,hx,hd⟩]
  exact I'.old t fun k x hS hx hd=>hk ⟨k,x,(dL.1 hx).1,hx,hd⟩
theorem rA{listed:Array Bool}(hsz:listed.size=ops.size){i:Nat}(h:i∈Region.ready .any ops listed):
 ∃o,ops[i]? =some o∧¬listed.getD i false=true∧∀e∈o.after,Region.binds .any e=true→listed.getD e.on false=true:=by
 unfold Region.ready at h
 rw[eY]at h
 obtain⟨hi,h⟩:=h
 have hi:i<ops.size:=dS.1 hi
 have ho:ops[i]? =some ops[i]:=dL.2 ⟨hi,rfl⟩
 rw[ho,dB]at h
 refine⟨ops[i],ho,?_,?_⟩
 ·have h1:=h.1
  rw[fb,fO (by omega)]at h1 ⊢
  simpa using h1
 ·have h2:=h.2
  simp only[ez,eE,Array.all_eq_true_iff_forall_mem,fi,eK]at h2
  intro e he hb
  rcases h2 e he with h|h
  ·rw[hb]at h;cases h
  ·exact h
theorem a1G{listed:Array Bool}(hsz:listed.size=ops.size){i:Nat}{o:Oper}(ho:ops[i]? =some o)(hn:¬listed.getD i false=true)(hr:∀e∈o.after,Region.binds .any e=true→listed.getD e.on false=true):i∈Region.ready .any ops listed:=by
 have hi:i<ops.size:=(dL.1 ho).1
 unfold Region.ready
 rw[eY]
 refine⟨dS.2 hi,?_⟩
 rw[ho,dB]
 constructor
 ·rw[fb,fO (by omega)]at hn ⊢
  simpa using hn
 ·simp only[ez,eE,Array.all_eq_true_iff_forall_mem,fi,eK]
  intro e he
  cases hb:Region.binds .any e with
  | false=>exact .inl rfl
  | true=>exact .inr (hr e he hb)
theorem b6q{listed:Array Bool}(hsz:listed.size=ops.size)(h:∀i,i<ops.size→listed.getD i false=true):Region.ready .any ops listed=[]:=by
 cases hr:Region.ready .any ops listed with
 | nil=>rfl
 | cons i r=>
   obtain⟨o,ho,hn,_⟩:=rA hsz (i:=i) (by rw[hr];simp)
   exact absurd (h i (dL.1 ho).1) hn
theorem a1H(D:Draw P fl ops){listed:Array Bool}(hsz:listed.size=ops.size)(h:Region.ready .any ops listed=[]):∀i,i<ops.size→listed.getD i false=true:=by
 intro i
 induction i using Nat.strongRecOn with
 | _ i ih=>
   intro hi
   have ho:ops[i]? =some ops[i]:=dL.2 ⟨hi,rfl⟩
   refine fj fun hn=> ?_
   have:=a1G hsz ho hn fun e he hb=>by
    have:=D.back i _ e ho he hb
    exact ih e.on this (by omega)
   rw[h]at this
   cases this
theorem vG{listed:Array Bool}{i:Nat}(hi:i<listed.size)(j:Nat):(listed.setIfInBounds i true).getD j false=true↔(listed.getD j false=true∨j=i):=by
 rw[fb,fb,Array.getElem?_setIfInBounds]
 by_cases h:i=j
 ·subst h;simp[hi]
 ·simp[h,fP h]
theorem Inv.congr{S':Nat→Prop}(h:∀j,S' j↔S j)(I:Inv P fl ops T val ρ0 W0 ds S pl m ρ a w):Inv P fl ops T val ρ0 W0 ds S' pl m ρ a w:=by
 have:S'=S:=funext fun j=>propext (h j)
 rw[this];exact I
theorem c2I{o:Oper}{i:Nat}(h:(o,i)∈ops.toList.zipIdx):ops[i]? =some o:=by
 rw[iD]at h
 simpa using h
theorem b5L{j:Nat}{x:Oper}(hx:ops[j]? =some x)(hm:kJ fl x.op=true):j∈a0E fl ops:=by
 unfold a0E
 rw[gn]
 exact⟨(x,j),oD hx,by simp[hm]⟩
theorem a6f{j:Nat}(h:j∈a0E fl ops):∃x,ops[j]? =some x∧kJ fl x.op=true:=by
 unfold a0E at h
 rw[gn]at h
 obtain⟨⟨x,j'⟩,h1,h2⟩:=h
 simp only at h2
 split at h2
 ·rename_i hm
  obtain rfl:=dA h2
  exact⟨x,c2I h1,hm⟩
 ·cases h2
theorem a9m{j:Nat}{x:Oper}(hx:ops[j]? =some x)(hm:kJ fl x.op=true∨jU fl x.op=true):j∈a1S fl ops:=by
 unfold a1S
 rw[gn]
 exact⟨(x,j),oD hx,by rcases hm with hm|hm<;>simp[hm]⟩
theorem b8B{i m:Nat}{o:Oper}(ho:ops[i]? =some o)(hr:pI o.op=true)(hm:m=0∨∃j x,m=j+1∧ops[j]? =some x∧kJ fl x.op=true)
 (hlo:∀j x,ops[j]? =some x→kJ fl x.op=true→(bef ops i j=true→j<m)∧(bef ops j i=true→m≤j)) (hbs:∀j,fl.base i=some j→j<m):
 (i,m)∈nY fl ops∨∀j x,ops[j]? =some x→min m i≤j→j<max m i→kJ fl x.op=false∧jU fl x.op=false:=by
 by_cases h:∃j x,ops[j]? =some x∧(kJ fl x.op=true∨jU fl x.op=true)∧min m i≤j∧j<max m i
 ·obtain⟨j,x,hx,he,h1,h2⟩:=h
  refine .inl ?_
  unfold nY
  rw[eM]
  refine⟨(o,i),oD ho,?_⟩
  simp only[hr,if_true]
  rw[dP]
  refine⟨m,?_,rfl⟩
  rw[eY]
  refine⟨?_,?_⟩
  ·rcases hm with rfl|⟨j,x,rfl,hx,hmx⟩
   ·simp
   ·exact eX _ (dP.2 ⟨j,b5L hx hmx,rfl⟩)
  ·rw[dB,dB]
   refine⟨⟨?_,?_⟩,?_⟩
   ·rw[dT]
    intro j hj
    obtain⟨x,hx,hmx⟩:=a6f hj
    obtain⟨g1,g2⟩:=hlo j x hx hmx
    unfold bef at g1 g2
    rw[dB]
    constructor
    ·cases hb:((a4S [] ops.toList).getD i 0).testBit j with
     | false=>rfl
     | true=>simpa using g1 hb
    ·cases hb:((a4S [] ops.toList).getD j 0).testBit i with
     | false=>rfl
     | true=>simpa using g2 hb
   ·rw[iN]
    exact⟨j,a9m hx he,by rw[dB];exact⟨decide_eq_true h1,decide_eq_true h2⟩⟩
   ·split
    ·rename_i j hj;exact decide_eq_true (hbs j hj)
    ·rfl
 ·refine .inr fun j x hx h1 h2=> ?_
  constructor
  ·cases hm:kJ fl x.op with
   | false=>rfl
   | true=>exact absurd ⟨j,x,hx,.inl hm,h1,h2⟩ h
  ·cases hm:jU fl x.op with
   | false=>rfl
   | true=>exact absurd ⟨j,x,hx,.inr hm,h1,h2⟩ h
theorem a3f{i m:Nat}(h:(i,m)∈nY fl ops):m≤ops.size:=by
 unfold nY at h
 rw[eM]at h
 obtain⟨⟨x,j⟩,_,h⟩:=h
 simp only at h
 split at h
 ·rw[dP]at h
  obtain⟨m',h,he⟩:=h
  injection he with h1 h2
  subst h1 h2
  rw[eY]at h
  rcases ew.1 h.1 with h|h
  ·omega
  ·rw[dP]at h
   obtain⟨q,hq,rfl⟩:=h
   obtain⟨x,hx,_⟩:=a6f hq
   exact(dL.1 hx).1
 ·cases h
theorem c7S(X:Text P ops T val)(D:Draw P fl ops)
 (hread:∀i m o,(i,m)∈nY fl ops→ops[i]? =some o→Region.wanted o (jX ops (T i).1)=true→∃H2,opD P o (T i).1 (T m).2=some (val i,H2))
 (ro:Option Nat) (k:Nat) {Q:Exit→Act→World→Prop} (hQ:∀ρ' a' w',Post P ρ0 (T 0).2 W0 ρ' (T ops.size).2 w'→All2 (V ρ') (T ops.size).1 a'.tmps.toList→a'.defers=ds→Q .normal a' w'):
 ∀(fuel:Nat)(listed:Array Bool)(U:List Nat),listed.size=ops.size→(∀i,i<ops.size→¬listed.getD i false=true→i∈U)→U.length≤fuel→
  ∀(pl:Nat→Nat)(m:Nat)(ρ:Rho)(a:Act)(w:World),Inv P fl ops T val ρ0 W0 ds (fun j=>listed.getD j false=true) pl m ρ a w→(m=0∨∃j o,m=j+1∧ops[j]? =some o∧kJ fl o.op=true)→
  wpAnyIn (fe ro) k P .any ops Q fuel listed a w:=by
 have fin:∀{listed:Array Bool}{pl:Nat→Nat}{m:Nat}{ρ:Rho}{a:Act}{w:World},(∀i,i<ops.size→listed.getD i false=true)→Inv P fl ops T val ρ0 W0 ds (fun j=>listed.getD j false=true) pl m ρ a w→Q .normal a w:=by
  intro listed pl m ρ a w hall I
  obtain⟨ρ',h1,h2,h3⟩:=I.done X D hall
  exact hQ ρ' a w h1 h2 h3
 intro fuel
 induction fuel with
 | zero=>
   intro listed U hsz hU hlen pl m ρ a w I hm
   have hall:∀i,i<ops.size→listed.getD i false=true:=fun i hi=>fj fun hn=>by
    have:=hU i hi hn
    have h0:U=[]:=gf (by omega)
    rw[h0]at this
    cases this
   exact⟨b6q hsz hall,fin hall I⟩
 | succ fuel ih=>
   intro listed U hsz hU hlen pl m ρ a w I hm
   refine⟨fun h=>fin (a1H D hsz h) I,fun i hi=> ?_⟩
   obtain⟨o,ho,hn,hr⟩:=rA hsz hi
   have hin:i<ops.size:=(dL.1 ho).1
   have hiU:i∈U:=hU i hin hn
   have on:∀(pl:Nat→Nat)(m:Nat)(ρ:Rho)(a:Act)(w:World),Inv P fl ops T val ρ0 W0 ds (fun j=>listed.getD j false=true∨j=i) pl m ρ a w→(m=0∨∃j o,m=j+1∧ops[j]? =some o∧kJ fl o.op=true)→
    wpAnyIn (fe ro) k P .any ops Q fuel (listed.setIfInBounds i true) a w:=by
    intro pl m ρ a w I hm
    refine ih (listed.setIfInBounds i true) (U.erase i) (by simp[hsz]) ?_ (by have h1:=List.length_erase_of_mem hiU;have h2:=List.length_pos_of_mem hiU;omega) pl m ρ a w (I.congr fun j=>vG (by omega) j) hm
    intro j hj hnj
    have hnj':=mt (vG (by omega) j).2 hnj
    have hji:j≠i:=fun h=>hnj' (.inr h)
    exact(List.mem_erase_of_ne hji).2 (hU j hj fun h=>hnj' (.inl h))
   unfold wpOpIn
   rw[ho]
   simp only
   cases hma:kJ fl o.op with
   | true=>
     have hmi:m≤i:=iP fun h=>hn ((I.mains i o ho hma).2 h)
     obtain⟨ρ1,I1⟩:=Inv.cA X D (i-m) m ρ I (by omega) fun j x h1 h2 hx=>by
      have hji:j<i:=by omega
      refine⟨?_,fun hal=>D.bef I.closed i o ho hr j (D.main hji hx ho (.inr hal) hma)⟩
      cases hmx:kJ fl x.op with
      | false=>rfl
      | true=>have:=(I.mains j x hx hmx).1 (D.bef I.closed i o ho hr j (D.main hji hx ho (.inl hmx) hma));omega
     rw[show m+(i-m)=i by omega]at I1
     have hna:jU fl o.op=false:=by
      cases h:jU fl o.op with
      | false=>rfl
      | true=>rw[qF h]at hma;cases hma
     have hbm:∀j,fl.base i=some j→j<i:=fun j hj=>(D.cm ho hj).1
     rw[I1.wanted X D ho hn hr (fun _=>rfl) hbm]
     have nod:∀{v':Value}(j:Nat)(b:Oper)(d:Tmp),lR fl i o.op=some j→i+1≤j→ops[j]? =some b→b.dst=some d→∀ρ1:Rho,(d<(T 0).1.length→V ρ1 (val j) (a.eval (.tmp d)))→V ρ1 (val i) v':=fun j b d hh hij=>by
      have:=(D.aW ho hh).1;omega
     rcases(X.at ho).2 with⟨hw,hst⟩|⟨hw,hv,hT⟩
     ·rw[hw,if_pos rfl]
      refine hst.sound I1.post.rel (I1.operands X D ho hn hr (fun _=>rfl) hbm) ro k fun ρ2 v2 w2 hp2 hv2=> ?_
      exact on _ _ _ _ _ (I1.next X D ho hn hr hna (.inl ⟨hma,rfl,rfl⟩) hp2 (fun _=>hv2) nod) (.inr ⟨i,o,rfl,ho,hma⟩)
     ·rw[hw,if_neg (by simp)]
      refine⟨fun _ _=>trivial,?_⟩
      refine on _ _ _ _ _ (I1.next X D ho hn hr hna (.inl ⟨hma,rfl,rfl⟩) (by rw[hT];exact .refl I1.post.rel) (fun _=>by rw[hv];exact .undef) nod) (.inr ⟨i,o,rfl,ho,hma⟩)
   | false=>
     by_cases hder:∃j,fl.base i=some j∧m≤j
     ·obtain⟨j,hj,hmj⟩:=hder
      obtain⟨v',hrun,I'⟩:=I.aB X D ho hn hr hj hmj
      have hg:=(D.aB ho hj).2.1
      have hw:Region.wanted o (yielded ops a.tmps)=true:=by
       unfold Region.wanted
       rw[hg]
      rw[hw,if_pos rfl]
      refine⟨fun _ _=>trivial,?_⟩
      have hdef:∀c,o.op≠.defer c:=fun c hc=>by
       obtain⟨_,_,_,_,_,_,_,_,_,_,_,_,hD⟩:=D.aB ho hj
       rw[hc]at hD;cases hD
      rw[iU _ _ _ hdef,hrun]
      exact on _ _ _ _ _ I' hm
     have hbm:∀j,fl.base i=some j→j<m:=fun j hj=>iO fun h=>hder ⟨j,hj,h⟩
     rw[I.wanted X D ho hn hr (fun h=>by rw[hma]at h;cases h) hbm]
     cases hal:jU fl o.op with
     | true=>
       have hw:Region.wanted o (jX ops (T i).1)=true:=by
        unfold Region.wanted
        rw[D.guard i o ho hal]
       rw[hw,if_pos rfl]
       obtain⟨v',w',hrun,I'⟩:=I.early X D ho hn hr hal
       refine⟨fun _ _=>trivial,?_⟩
       have hdef:∀c,o.op≠.defer c:=fun c hc=>by rw[hc]at hal;cases hal
       rw[iU _ _ _ hdef,hrun]
       exact on _ _ _ _ _ I' hm
     | false=>
       have hops:=I.operands X D ho hn hr (fun h=>by rw[hma]at h;cases h) hbm
       have nod:∀{v':Value}(j:Nat)(b:Oper)(d:Tmp),lR fl i o.op=some j→m≤j→ops[j]? =some b→b.dst=some d→∀ρ1:Rho,(d<(T 0).1.length→V ρ1 (val j) (a.eval (.tmp d)))→V ρ1 (val i) v':=fun j b d hh hij=>by
        have:=hbm j (tK hal hh).1;omega
       rcases(X.at ho).2 with⟨hw,hst⟩|⟨hw,hv,hT⟩
       ·rw[hw,if_pos rfl]
        have hop:=hst.plain hma
        have hopm:opD P o (T i).1 (T m).2=some (val i,(T m).2):=by
         cases hrd:pI o.op with
         | false=>exact(a9J (T m).2 (D.conv _ _ ho) hma hal hrd hop).2
         | true=>
           have hlo:∀j x,ops[j]? =some x→kJ fl x.op=true→(bef ops i j=true→j<m)∧(bef ops j i=true→m≤j):=fun j x hx hmx=>
            ⟨fun hb=>(I.mains j x hx hmx).1 (D.bef I.closed i o ho hr j hb),fun hb=>iP fun hlt=>by
             have hSj:=(I.mains j x hx hmx).2 hlt
             exact hn (D.bef I.closed j x hx (fun e he hb'=>I.closed j x hSj hx e he hb') i hb)⟩
           rcases b8B ho hrd hm hlo hbm with hmem|hno
           ·obtain⟨H2,hH2⟩:=hread i m o hmem ho hw
            rw[hH2,a1R (D.conv _ _ ho) hrd hH2]
           ·have hTT:(T m).2=(T i).2:=by
             rcases Nat.le_total m i with h|h
             ·exact(X.bF D i h (by omega) fun j x h1 h2 hx=>hno j x hx (by omega) (by omega)).symm
             ·exact X.bF D m h I.le fun j x h1 h2 hx=>hno j x hx (by omega) (by omega)
            rw[hTT]
            have:=a1R (D.conv _ _ ho) hrd hop
            rw[hop,this]
        refine(StepR.op hst.ok hopm).sound I.post.rel hops ro k fun ρ2 v2 w2 hp2 hv2=> ?_
        exact on _ _ _ _ _ (I.next X D ho hn hr hal (.inr ⟨hma,rfl⟩) hp2 (fun _=>hv2) nod) hm
       ·rw[hw,if_neg (by simp)]
        refine⟨fun _ _=>trivial,?_⟩
        exact on _ _ _ _ _ (I.next X D ho hn hr hal (.inr ⟨hma,rfl⟩) (.refl I.post.rel) (fun _=>by rw[hv];exact .undef) nod) hm
end
section
variable {P:Program} {ρ:Rho} {H:Heap} {w:World}
theorem a6K{B:Nat}{id:Nat}{e:Ex}{l':List Value}{H':Heap}{e2:Ex}(he:e2=(match e with|.exit i=>if i=id then .normal else .exit i|e=>e)){e':Exit}{a':Act}{w':World}
 (h:QD P ρ H w B e l' H' e' a' w'):Exit.inBlock id (QD P ρ H w B e2 l' H') e' a' w':=by
 obtain⟨h1,h2⟩:=h
 subst h1
 cases e with
 | normal=>simp only at he;subst he;exact⟨rfl,h2⟩
 | ret=>simp only at he;subst he;exact⟨rfl,h2⟩
 | exit i=>
   simp only[Ex.cj,Exit.inBlock]at he ⊢
   by_cases hi:i=id
   ·rw[if_pos hi]at he;subst he;rw[if_pos hi];exact⟨rfl,h2⟩
   ·rw[if_neg hi]at he;subst he;rw[if_neg hi];exact⟨rfl,h2⟩
theorem a6e{B:Nat}{e:Ex}{l':List Value}{H':Heap}(hne:e≠.normal){next:Act→World→Prop}{e':Exit}{a':Act}{w':World}
 (h:QD P ρ H w B e l' H' e' a' w'):Exit.then next (QD P ρ H w B e l' H') e' a' w':=by
 have h1:=h.1
 cases e with
 | normal=>exact absurd rfl hne
 | exit id=>subst h1;exact h
 | ret=>subst h1;exact h
theorem c2E(h:HRel P ρ H w)(e:Nat)(p:Place):ρ.Le (ρ.put H.length e p):=.put (rN h e)
theorem a8K{ex:Run}(hex:∀c l H e l' H',ex c l H=some (e,l',H')→Sim P c l H e l' H'){g:Operand}{ps:Array Tmp}{assign body:Code}{l:List Value}{v:Value}{H2:Heap}
 (hc:a7C P ex (ev l g) H.length (H.cons (.loop {state:=.ready,pending:=none,fn:=0,tmps:=l.toArray,params:=ps,assign,body,defers:=0}))=some (v,H2)) (hgo:jT g=true) {r:Loop} (hg:jS H2 H.length=some (.loop r)) (hnb:r.state≠.busy)
 {e:Ex} {l':List Value} {H':Heap} (hnext0:r.pending=none→e=.normal∧l'=l∧H'=hset H2 H.length (.loop {r with state:=.exhausted}))
 (hnext1:∀c,r.pending=some c→Sim P c l (hset H2 H.length (.loop {r with state:=.exhausted})) e l' H'):Sim P (.rangeFunc g ps assign body) l H e l' H':=by
 intro ro k B ρ w a hr hE hl hM hB
 refine wpIn_rangeFunc ?_
 intro fn _
 obtain⟨lc,mark,w1,df,henter,hpost0,hmark,hlc,hw1⟩:∃(lc:Nat)(mark:List Deferred)(w1:World)(df:Nat),
  (Instr.enterLoop fn a.tmps ps assign body ro).run P w=.ok (lc,mark) w1∧
  Post P ρ H w (ρ.put H.length 0 ⟨lc,0,0,0⟩) (H.cons (.loop {state:=.ready,pending:=none,fn:=0,tmps:=l.toArray,params:=ps,assign,body,defers:=0})) w1∧
  Marks B w1 (mark++a.defers)∧w.heap.size≤lc∧w1.heap[lc]? =some (.loop {state:=.ready,pending:=none,fn:=fn,tmps:=a.tmps,params:=ps,assign,body,defers:=df}):=by
  have hloop:∀(ρ:Rho)(w:World),HRel P ρ H w→All2 (V ρ) l a.tmps.toList→∀df:Nat,Post P ρ H w (ρ.put H.length 0 ⟨w.heap.size,0,0,0⟩) (H.cons (.loop {state:=.ready,pending:=none,fn:=0,tmps:=l.toArray,params:=ps,assign,body,defers:=0}))
   (w.alloc (.loop {state:=.ready,pending:=none,fn:=fn,tmps:=a.tmps,params:=ps,assign,body,defers:=df})):=fun ρ w hr hE df=>by
   refine Post.new hr _ _ 0 ⟨w.heap.size,0,0,0⟩ rfl (fun _ _ _ _ _ e=>by cases e) (fun _ _ _ e=>by cases e) (fun r e=> ?_)
   injection e with e
   subst e
   refine⟨rfl,_,rfl,rfl,rfl,?_,rfl,rfl,rfl⟩
   simpa using hE.mono fun _ _ h=>h.mono (c2E hr _ _)
  cases ro with
  | none=>
    have hp1:=Post.bd hr (.deferred (some []))
    have hp2:=hloop ρ (w.alloc (.deferred (some []))) hp1.rel hE w.heap.size
    rw[World.size_alloc]at hp2
    refine⟨w.heap.size+1,[{target:=.collected w.heap.size,args:=#[]}],_,w.heap.size,run_enterLoop_outer fn a.tmps ps assign body,hp1.trans hp2,?_,by omega,?_⟩
    ·obtain⟨rs,h1,h2,h3⟩:=hM.post hr (hp1.trans hp2)
     refine⟨w.heap.size::rs,by simp[h1],iC.2 ⟨fun hmem=> ?_,h2⟩,fun q hq=> ?_⟩
     ·obtain⟨rs0,k1,k2,k3⟩:=hM
      have e:rs0=rs:=by
       have:=k1.symm.trans h1
       have inj:∀(x y:List Nat),x.map Target.collected=y.map Target.collected→x=y:=by
        intro x
        induction x with
        | nil=>intro y h;cases y with|nil=>rfl|cons=>simp at h
        | cons a x ih=>intro y h;cases y with|nil=>simp at h|cons b y=>simp at h;rw[h.1,ih y h.2]
       exact inj _ _ this
      subst e
      have:=nK (k3 _ hmem).2
      omega
     ·rcases ew.1 hq with rfl|hq
      ·refine⟨hB,?_⟩
       rw[kH (by simp)]
       exact kK w _
      ·exact h3 q hq
    ·have:=kK (w.alloc (.deferred (some []))) (.loop {state:=.ready,pending:=none,fn:=fn,tmps:=a.tmps,params:=ps,assign,body,defers:=w.heap.size})
     rwa [World.size_alloc]at this
  | some l0=>
    obtain⟨r0,hr0⟩:=hl l0 rfl
    have hp2:=hloop ρ w hr hE r0.defers
    refine⟨w.heap.size,[],_,r0.defers,?_,hp2,by simpa using hM.post hr hp2,dG _,kK w _⟩
    unfold Instr.enterLoop
    simp only[dI,run_getLoop hr0,run_newObj_alloc,dF,dN]
 unfold a7C at hc
 split at hc
 ·rename_i f first captured hev
  have hgv:=c1p hE hgo
  rw[hev]at hgv
  obtain⟨first',captured',hfe,hfa,hfc⟩:=hgv.bm
  obtain⟨fnc,hfn,hbody,hname⟩:=b9U hc
  have hLp:(ρ.put H.length 0 ⟨lc,0,0,0⟩) H.length 0=some ⟨lc,0,0,0⟩:=Rho.al _ _ _ _
  refine⟨lc,mark,w1,{target:=.fn (.func f) captured',args:=first'++#[Value.func (.yield lc) #[] #[]]},w1,f,first'++#[Value.func (.yield lc) #[] #[]]++captured',w1,henter,?_,fun _ _=>trivial,?_,a4l ro,?_⟩
  ·simp only[resolve,hfe,Deferred.ofValue,dN]
   simp[Act.eval]
  ·simp only[invoke]
   exact a1b hfn hbody hname _ w1
  ·have hargs:All2 (V (ρ.put H.length 0 ⟨lc,0,0,0⟩)) (first.toList++[Value.func (.yield H.length) #[] #[]]++captured.toList) (first'++#[Value.func (.yield lc) #[] #[]]++captured').toList:=by
    simp only[ij]
    exact((((hfa.mono fun _ _ h=>h.mono hpost0.le).aV).append (show All2 (V _) [Value.func (.yield H.length) #[] #[]] [Value.func (.yield lc) #[] #[]]from⟨.v1 (.c1 (C1.yld hLp)),trivial⟩)).append (hfc.mono fun _ _ h=>h.mono hpost0.le).aV)
   have hcall:=b0v hex hc (k-1) _ w1 _ hpost0.rel hargs
   have hci:CallsIn (fe ro) (k-1) P f (first'++#[Value.func (.yield lc) #[] #[]]++captured') w1 fun e w'=>∃ρ' v',e=.returned v'∧Post P (ρ.put H.length 0 ⟨lc,0,0,0⟩) _ w1 ρ' H2 w'∧V ρ' v v':=hcall
   refine hci.mono ?_
   rintro e2 w2⟨ρ2,v2,rfl,hp2,_⟩
   obtain⟨r',hw2,hrel⟩:=a2W hp2.rel hg (hp2.le _ _ _ hLp)
   have hp3:=Post.bp (r:={r with state:=.exhausted}) (r':={r' with state:=.exhausted}) hp2.rel hg (hp2.le _ _ _ hLp) hw2 ⟨rfl,hrel.pending,hrel.tmps,hrel.params,hrel.assign,hrel.body⟩
   have hend:=run_endLoop (P:=P) hw2 (by rw[hrel.state];exact hnb)
   revert hp3 hend
   generalize w2.putObj lc (.loop {r' with state:=.exhausted})=w3
   intro hp3 hend
   have hall:=hpost0.trans (hp2.trans hp3)
   have hM3:Marks B _ (mark++a.defers):=hmark.post hpost0.rel (hp2.trans hp3)
   have hE3:=hE.mono fun _ _ h=>h.mono hall.le
   refine⟨r'.pending,w3,hend,?_⟩
   rw[hrel.pending]
   cases hpend:r.pending with
   | none=>
     obtain⟨rfl,rfl,rfl⟩:=hnext0 hpend
     exact⟨rfl,ρ2,hall,hE3,hM3⟩
   | some c=>
     refine wpIn_mono (hnext1 c hpend ro k B ρ2 _ {a with defers:=mark++a.defers} hp3.rel hE3 (hl.post hall) hM3 (dZ hB hall.size)) ?_
     intro e5 a5 w5 hq
     exact hq.trans hall
 ·cases hc
end
section
variable {P:Program} {ρ:Rho} {H:Heap} {w:World}
theorem Sim.skip(l:List Value)(H:Heap):Sim P .skip l H .normal l H:=fun ro k B ρ w a hr hE hl hM hB=>wpIn_skip ⟨rfl,ρ,.refl hr,hE,hM⟩
theorem Sim.label(t:Nat)(l:List Value)(H:Heap):Sim P (.label t) l H .normal l H:=fun ro k B ρ w a hr hE hl hM hB=>wpIn_label ⟨rfl,ρ,.refl hr,hE,hM⟩
theorem Sim.exit(id:Nat)(l:List Value)(H:Heap):Sim P (.exit id) l H (.exit id) l H:=fun ro k B ρ w a hr hE hl hM hB=>wpIn_exit ⟨rfl,ρ,.refl hr,hE,hM⟩
theorem Sim.ret(l:List Value)(H:Heap):Sim P .ret l H .ret l H:=fun ro k B ρ w a hr hE hl hM hB=>wpIn_ret ⟨rfl,ρ,.refl hr,hE,hM⟩
theorem Sim.seq{a b:Code}{l:List Value}{H:Heap}{l1:List Value}{H1:Heap}{e:Ex}{l2:List Value}{H2:Heap}(h1:Sim P a l H .normal l1 H1)(h2:Sim P b l1 H1 e l2 H2):Sim P (.seq a b) l H e l2 H2:=
 fun ro k B ρ w a hr hE hl hM hB=>wpIn_seq (QD.cP h1 h2 hr hE hl hM hB)
theorem Sim.seq'{a b:Code}{l:List Value}{H:Heap}{e:Ex}{l2:List Value}{H2:Heap}(h1:Sim P a l H e l2 H2)(hne:e≠.normal):Sim P (.seq a b) l H e l2 H2:=
 fun ro k B ρ w a hr hE hl hM hB=>wpIn_seq (wpIn_mono (h1 ro k B ρ w a hr hE hl hM hB) fun e' a' w' hq=>a6e hne hq)
theorem Sim.cond{c:Operand}{t:Bool}{x y:Code}{l:List Value}{H:Heap}{e:Ex}{l2:List Value}{H2:Heap}(hc:ev l c=.bool t)(hok:jT c=true)(h:Sim P (if t then x else y) l H e l2 H2):Sim P (.cond c x y) l H e l2 H2:=
 fun ro k B ρ w a hr hE hl hM hB=>by
  have hv:=c1p hE hok
  rw[hc]at hv
  exact wpIn_cond hv.aO (h ro k B ρ w a hr hE hl hM hB)
def Ex.out(id:Nat):Ex→Ex
 | .exit i=>if i=id then .normal else .exit i
 | e=>e
theorem Sim.block{id:Nat}{b:Code}{l:List Value}{H:Heap}{e:Ex}{l2:List Value}{H2:Heap}(h:Sim P b l H e l2 H2):Sim P (.block id b) l H (e.out id) l2 H2:=
 fun ro k B ρ w a hr hE hl hM hB=>wpIn_block (wpIn_mono (h ro k B ρ w a hr hE hl hM hB) fun e' a' w' hq=>a6K (by cases e<;>rfl) hq)
theorem zH{F:Fence}{k:Nat}{c:Code}{Q Q':Exit→Act→World→Prop}(h:∀e a w,Q e a w→Q' e a w):∀(m:Nat)(a:Act)(w:World),Code.roundsIn F k P c Q m a w→Code.roundsIn F k P c Q' m a w
 | 0,_,_,hh=>hh
 | m+1,a,w,hh=>by
   rw[roundsIn_succ]at hh ⊢
   refine wpIn_mono hh ?_
   intro e3 a3 w3 hq
   cases e3<;>first|exact zH h m _ _ hq|exact h _ _ _ hq
inductive Rounds(P:Program)(c:Code):Nat→List Value→Heap→Ex→List Value→Heap→Prop where
 | last {l:List Value} {H:Heap} {e:Ex} {l':List Value} {H':Heap} (h:Sim P c l H e l' H') (hne:e≠.normal):Rounds P c 1 l H e l' H'
 | more {n:Nat} {l:List Value} {H:Heap} {l1:List Value} {H1:Heap} {e:Ex} {l':List Value} {H':Heap} (h:Sim P c l H .normal l1 H1) (hh:Rounds P c n l1 H1 e l' H'):Rounds P c (n+1) l H e l' H'
theorem Rounds.sound{c:Code}{n:Nat}{l:List Value}{H:Heap}{e:Ex}{l':List Value}{H':Heap}(h:Rounds P c n l H e l' H'):
 ∀(ro:Option Nat)(k B:Nat)(ρ:Rho)(w:World)(a:Act),HRel P ρ H w→All2 (V ρ) l a.tmps.toList→LoopAt ro w→Marks B w a.defers→B≤w.heap.size→Code.roundsIn (fe ro) k P c (QD P ρ H w B e l' H') n a w:=by
 induction h with
 | last h hne=>
   intro ro k B ρ w a hr hE hl hM hB
   rw[roundsIn_succ]
   exact wpIn_mono (h ro k B ρ w a hr hE hl hM hB) fun e' a' w' hq=>a6e hne hq
 | more h hh ih=>
   intro ro k B ρ w a hr hE hl hM hB
   rw[roundsIn_succ]
   refine wpIn_mono (h ro k B ρ w a hr hE hl hM hB) ?_
   rintro e' a' w'⟨he,ρ',hp,hE',hM'⟩
   subst he
   exact zH (fun _ _ _ hq=>hq.trans hp) _ _ _ (ih ro k B ρ' w' a' hp.rel hE' (hl.post hp) hM' (dZ hB hp.size))
theorem Sim.loop{c:Code}{n:Nat}{l:List Value}{H:Heap}{e:Ex}{l':List Value}{H':Heap}(h:Rounds P c n l H e l' H'):Sim P (.loop c) l H e l' H':=
 fun ro k B ρ w a hr hE hl hM hB=>wpIn_loop_rounds n (h.sound ro k B ρ w a hr hE hl hM hB)
theorem Sim.region{id:Nat}{ops:Array Oper}{l:List Value}{H:Heap}{l':List Value}{H':Heap}(h:OpsR P ops (List.range ops.size) l H l' H'):Sim P (.region id ops false) l H .normal l' H':=
 fun ro k B ρ w a hr hE hl hM hB=>wpIn_region (h.sound ro k ρ w a hr hE (by
  rintro a' w'⟨ρ',hp,hE',hd⟩
  exact⟨rfl,ρ',hp,hE',by rw[hd];exact hM.post hr hp⟩))
theorem a5H{fl:Fl}{ops:Array Oper}(D:Draw P fl ops){T:Nat→List Value×Heap}{val:Nat→Value}(X:Text P ops T val)
 (hread:∀i m o,(i,m)∈nY fl ops→ops[i]? =some o→Region.wanted o (jX ops (T i).1)=true→∃H2,opD P o (T i).1 (T m).2=some (val i,H2)) (ro:Option Nat) (k B:Nat) {ρ:Rho} {w:World} {a:Act}
 (hr:HRel P ρ (T 0).2 w) (hE:All2 (V ρ) (T 0).1 a.tmps.toList) (hM:Marks B w a.defers):
 wpAnyIn (fe ro) k P .any ops (QD P ρ (T 0).2 w B .normal (T ops.size).1 (T ops.size).2) ops.size (Array.replicate ops.size false) a {w with drawn:=w.drawn+1}:=by
 have hdrew:Post P ρ (T 0).2 w ρ (T 0).2 {w with drawn:=w.drawn+1}:=Post.drew hr
 refine c7S (ρ0:=ρ) (W0:=w) (ds:=a.defers) X D hread ro k ?_ ops.size _ (List.range ops.size) (by simp) (fun i hi _=>dS.2 hi) (by simp) (fun _=>0) 0 ρ a _ ?_ (.inl rfl)
 ·intro ρ' a' w' h1 h2 h3
  exact⟨rfl,ρ',h1,h2,by rw[h3];exact hM.post hr h1⟩
 ·have hfalse:∀j,¬(Array.replicate ops.size false).getD j false=true:=fun j=>by
   rw[fb,Array.getElem?_replicate]
   split<;>simp
  exact⟨fA _,hdrew,fun j _ hj=>absurd hj (hfalse j),fun i o ho hm=>⟨fun h=>absurd h (hfalse i),fun h=>absurd h (eu _)⟩,fun i o ho ha hi=>absurd hi (eu _),fun i o ho ha hi hS=>absurd hS (hfalse i),
   fun i j x y hx hy h1 h2 h3 h4 h5=>absurd h5 (hfalse i),by simpa using hE.length.symm,fun t _=>a4y hE t,fun i o t hS=>absurd hS (hfalse i),fun i _ _ _ _ _ hS=>absurd hS (hfalse i),rfl⟩
theorem Sim.draw(kQ:P.follows .mixedOrders=true){id:Nat}{ops:Array Oper}{tab:List (Nat×Nat)}(htab:oN P ops=some tab){T:Nat→List Value×Heap}{val:Nat→Value}(X:Text P ops T val)
 (hread:∀i m o,(i,m)∈tab→ops[i]? =some o→Region.wanted o (jX ops (T i).1)=true→∃H2,opD P o (T i).1 (T m).2=some (val i,H2)):
 Sim P (.region id ops true) (T 0).1 (T 0).2 .normal (T ops.size).1 (T ops.size).2:=by
 intro ro k B ρ w a hr hE hl hM hB
 obtain⟨fl,D,rfl⟩:=sF htab
 exact wpIn_region_any kQ (a5H D X hread ro k B hr hE hM)
theorem CallOk.bT{f:FuncId}{fn:Func}{c:Code}{args:List Value}{e:Ex}{l1:List Value}{H1:Heap}{v:Value}(hf:P.funcs[f]? =some fn)(hb:fn.body=some c)(hn:(fn.name== "runtime.NumGoroutine")=false)
 (hs:Sim P c (args++List.replicate (fn.ntmps-args.length) undef) H e l1 H1) (he:e=.normal∨e=.ret) (hres:jC P fn l1 H1=some v):CallOk P f args H v H1:=by
 classical
 let ex:Run:=fun c' l' H'=>if c'=c∧l'=args++List.replicate (fn.ntmps-args.length) undef∧H'=H then some (e,l1,H1)else none
 have hex:∀c l H e l' H',ex c l H=some (e,l',H')→Sim P c l H e l' H':=by
  intro c' l' H' e' l2 H2 h
  simp only[ex]at h
  split at h
  ·rename_i hh
   obtain⟨rfl,rfl,rfl⟩:=hh
   injection h with h
   injection h with h1 h
   injection h with h2 h3
   subst h1 h2 h3
   exact hs
  ·cases h
 refine b0v hex ?_
 unfold callF
 have h1:ex c (args++List.replicate (fn.ntmps-args.length) undef) H=some (e,l1,H1):=by simp[ex]
 rw[hf]
 simp only[hb,hn,eV,if_false,h1]
 rcases he with rfl|rfl<;>simp[hres]
theorem HRel.empty(w:World):HRel P (fun _ _=>none) .nil w where
 dom _ _ _ h:=by cases h
 cells _ _ _ _ _ _ h:=by rw[yP (fA _)]at h;cases h
 map _ _ _ _ h:=by rw[yP (fA _)]at h;cases h
 loop _ _ h:=by rw[yP (fA _)]at h;cases h
 one _ _ _ _ h:=by cases h
 excl _ _ _ _ _ _ _ h:=by cases h
 full _ h:=absurd h (eu _)
 glob _ _ _ _ h:=by rw[yP (fA _)]at h;cases h
theorem CallOk.closed{f:FuncId}{v:Value}(hv:flat v=true){H1:Heap}(h:CallOk P f [] .nil v H1)(H:Heap):CallOk P f [] H v H:=by
 intro k ρ w args' hr ha
 have ha':All2 (V (fun _ _=>none)) [] args'.toList:=by
  cases hh:args'.toList with
  | nil=>trivial
  | cons x xs=>rw[hh]at ha;exact ha.elim
 refine(h k (fun _ _=>none) w args' (.empty w) ha').mono ?_
 rintro e w'⟨ρ',v',rfl,hp,hv'⟩
 have hframe:∀b,b<w.heap.size→w'.heap[b]? =w.heap[b]?:=fun b hb=>(hp.frame b hb (by rintro⟨A,e,p,kX,hq,_⟩;cases hq)).1
 refine⟨ρ,v',rfl,?_,?_⟩
 ·exact{
   le:=.refl ρ
   rel:=hr.other hp.size fun A e p hq=>hframe _ (hr.dom _ _ _ hq).2
   len:=dG _
   size:=hp.size
   os:=hp.os
   tape:=hp.tape
   output:=hp.output
   frame:=fun b hb hw=>⟨hframe b hb,hw⟩
   loops:=fun b r h=>⟨r,by rw[hframe b (nK h),h]⟩
   img:=fun _ _ h=>h}
 ·rw[hv'.ai hv]
  exact .of_flat hv
structure Glob(G H:Heap):Prop where
 len:G.length≤H.length
 same:∀A,A<G.length→jS H A=jS G A
 glob:∀A b,jS G A=some b→∃cs ty lo,b=.cells cs ty false lo 1∧lL cs=true
theorem Glob.rel{G:Heap}(hG:Glob G H)(h:HRel P ρ H w):HRel P (fun A e=>if A<G.length then ρ A e else none) G w:=by
 have hcells:=hG.glob
 have hcut:∀{A e p},(if A<G.length then ρ A e else none)=some p→A<G.length∧ρ A e=some p:=fun{A e p}hh=>by
  by_cases hA:A<G.length
  ·rw[if_pos hA]at hh;exact⟨hA,hh⟩
  ·rw[if_neg hA]at hh;cases hh
 refine⟨?_,?_,?_,?_,?_,?_,?_,?_⟩
 ·intro A e p hp
  obtain⟨hA,hp⟩:=hcut hp
  exact⟨hA,(h.dom _ _ _ hp).2⟩
 ·intro A cs ty rw lo ver hg
  have hA:=kL hg
  have hg':jS H A=some (.cells cs ty rw lo ver):=by rw[hG.same A hA,hg]
  obtain⟨⟨p,hp⟩,hall⟩:=h.cells _ _ _ _ _ _ hg'
  refine⟨⟨p,by simp only[if_pos hA,hp]⟩,fun e q hq=> ?_⟩
  have hc:=hall e q (hcut hq).2
  obtain⟨cs',ty',lo',hb,hsc⟩:=hcells A _ hg
  injection hb with hb
  subst hb
  obtain⟨h1,h2,h3,cur,ty2,fr,h4,h5,h6,h7⟩:=hc
  refine⟨h1,h2,h3,cur,ty2,fr,h4,h5,h6,fun hlo i c hi h0 hci=> ?_⟩
  obtain⟨c',a,b⟩:=h7 hlo i c hi h0 hci
  have hs:jZ c=true:=by
   simp only[lL,dT]at hsc
   exact hsc c (dR hci)
  exact⟨c',a,by rw[b.ar hs];exact .aC hs⟩
 ·intro A es ck ver hg
  obtain⟨cs',ty',lo',hb,_⟩:=hcells A _ hg
  cases hb
 ·intro A r hg
  obtain⟨cs',ty',lo',hb,_⟩:=hcells A _ hg
  cases hb
 ·intro A e p kX hp hg
  obtain⟨hA,hp⟩:=hcut hp
  exact h.one _ _ _ _ hp (by rw[hG.same A hA,hg])
 ·intro A e p A2 e2 p2 kX hp hp2 hb hg hwr
  obtain⟨cs',ty',lo',rfl,_⟩:=hcells A _ hg
  cases hwr
 ·intro A hA
  have:=h.full A (eH hA hG.len)
  rw[hG.same A hA]at this;exact this
 ·intro A cs ty lo hg
  have hA:=kL hg
  obtain⟨q,h1,h2,h3⟩:=h.glob A cs ty lo (by rw[hG.same A hA,hg])
  exact⟨q,by simp only[if_pos hA,h1],h2,h3⟩
theorem CallOk.bU{f:FuncId}{v:Value}{args:List Value}(hfa:∀x∈args,flat x=true)(hv:flat v=true){G H H1:Heap}(h:CallOk P f args G v H1)(hG:Glob G H):CallOk P f args H v H:=by
 intro k ρ w args' hr ha
 have hfl:∀(l l':List Value)(ρ':Rho),(∀x∈l,flat x=true)→All2 (V ρ) l l'→All2 (V ρ') l l':=by
  intro l
  induction l with
  | nil=>intro l' ρ' _ hh;cases l' with|nil=>trivial|cons x xs=>exact hh.elim
  | cons y ys ih=>
    intro l' ρ' hy hh
    cases l' with
    | nil=>exact hh.elim
    | cons x xs=>
      refine⟨?_,ih xs ρ' (fun z hz=>hy z (by simp[hz])) hh.2⟩
      rw[hh.1.ai (hy y (by simp))]
      exact .of_flat (hy y (by simp))
 have ha':All2 (V (fun A e=>if A<G.length then ρ A e else none)) args args'.toList:=hfl _ _ _ hfa ha
 refine(h k _ w args' (hG.rel hr) ha').mono ?_
 rintro e w'⟨ρ',v',rfl,hp,hv'⟩
 have hframe:∀b,b<w.heap.size→w'.heap[b]? =w.heap[b]?:=fun b hb=>(hp.frame b hb (by
  rintro⟨A,e,p,kX,hq,_,hg,hw⟩
  obtain⟨cs,ty,lo,rfl,_⟩:=hG.glob A _ hg
  cases hw)).1
 refine⟨ρ,v',rfl,?_,?_⟩
 ·exact{
   le:=.refl ρ
   rel:=hr.other hp.size fun A e p hq=>hframe _ (hr.dom _ _ _ hq).2
   len:=dG _
   size:=hp.size
   os:=hp.os
   tape:=hp.tape
   output:=hp.output
   frame:=fun b hb hw=>⟨hframe b hb,hw⟩
   loops:=fun b r h=>⟨r,by rw[hframe b (nK h),h]⟩
   img:=fun _ _ h=>h}
 ·rw[hv'.ai hv]
  exact .of_flat hv
end
section
variable {P:Program} {ρ:Rho} {H:Heap} {w:World}
abbrev oH:=Ex→List Value→Heap→Prop
structure Keep{α:Sort _}(a:α):Type where
def kY(r:Option (Value×Heap))(K:Value→Heap→Prop)(_k:Keep K:=⟨⟩):Prop:=
 match r with
 | some (v,H1)=>K v H1
 | none=>False
@[simp] theorem b1A(v:Value)(H1:Heap)(K:Value→Heap→Prop):kY (some (v,H1)) K=K v H1:=rfl
def uL(P:Program)(f:Value)(args:List Value)(H:Heap)(K:Value→Heap→Prop)(_k:Keep K:=⟨⟩):Prop:=
 match f with
 | .func (.func k) first captured=>∃v H1,pD P k∧CallOk P k (first.toList++args++captured.toList) H v H1∧K v H1
 | .func (.yield L) _ _=>∃v H1,a1g P L args H v H1∧K v H1
 | _=>False
def nM(P:Program)(o:Oper)(l:List Value)(H:Heap)(K:Value→Heap→Prop):Prop:=
 o.op.operands.toList.all jT=true∧
 match o.op with
 | .move x=>K (ev l x) H
 | .assign x=>K (ev l x) H
 | .call c=>match c.callee with
   | .value f=>uL P (ev l f) (c.args.toList.map (ev l)) H K
   | _=>kY (opD P o l H) K
 | _=>kY (opD P o l H) K
theorem a1M{o:Oper}{l:List Value}{K:Value→Heap→Prop}(h:nM P o l H K):∃v H1,StepR P o l H v H1∧K v H1:=by
 obtain⟨dst,op,type,pos,after,guard⟩:=o
 obtain⟨hok,h⟩:=h
 have plain:kY (opD P ⟨dst,op,type,pos,after,guard⟩ l H) K→∃v H1,StepR P ⟨dst,op,type,pos,after,guard⟩ l H v H1∧K v H1:=fun h=>by
  unfold kY at h
  split at h
  ·rename_i v H1 h1
   exact⟨v,H1,.op hok h1,h⟩
  ·exact h.elim
 simp only at h
 split at h
 ·exact⟨_,_,.op hok rfl,h⟩
 ·exact⟨_,_,.op hok rfl,h⟩
 ·rename_i c
  split at h
  ·rename_i f hf
   unfold uL at h
   split at h
   ·rename_i k first captured hev
    obtain⟨v,H1,h1,h2,h3⟩:=h
    exact⟨v,H1,.call hok c f k first captured rfl hf hev h1 h2,h3⟩
   ·rename_i L b d hev
    obtain⟨v,H1,h1,h2⟩:=h
    exact⟨v,H1,.round hok c f L b d rfl hf hev h1,h2⟩
   ·exact h.elim
  ·exact plain h
 ·exact plain h
def tS(P:Program)(ops:Array Oper):List Oper→List Value→Heap→(List Value→Heap→Prop)→Prop
 | [],l,H,K=>K l H
 | o::os,l,H,K=>if Region.wanted o (jX ops l)=true then nM P o l H fun v H1=>tS P ops os (put l o.dst v) H1 K else tS P ops os (put l o.dst undef) H K
theorem a0b{ops:Array Oper}{K:List Value→Heap→Prop}:∀(os:List Oper)(i:Nat),ops.toList.drop i=os→∀(l:List Value)(H:Heap),tS P ops os l H K→
 ∃l' H',OpsR P ops (List.range' i os.length) l H l' H'∧K l' H'
 | [],i,_,l,H,h=>⟨l,H,.nil l H,h⟩
 | o::os,i,hd,l,H,h=>by
   have ho:ops[i]? =some o:=by
    have:(ops.toList.drop i)[0]? =some o:=by rw[hd];rfl
    rw[ed]at this
    simpa using this
   have hd':ops.toList.drop (i+1)=os:=by
    rw[←gk,hd];rfl
   unfold tS at h
   rw[eL,iQ]
   split at h
   ·rename_i hw
    obtain⟨v,H1,h1,h2⟩:=a1M h
    obtain⟨l',H',h3,h4⟩:=a0b os (i+1) hd' _ _ h2
    exact⟨l',H',.step ho hw h1 h3,h4⟩
   ·rename_i hw
    obtain⟨l',H',h3,h4⟩:=a0b os (i+1) hd' _ _ h
    exact⟨l',H',.past ho (by simpa using hw) h3,h4⟩
theorem a6x{ops:Array Oper}{l:List Value}{K:List Value→Heap→Prop}(h:tS P ops ops.toList l H K):∃l' H',OpsR P ops (List.range ops.size) l H l' H'∧K l' H':=by
 obtain⟨l',H',h1,h2⟩:=a0b ops.toList 0 rfl l H h
 refine⟨l',H',?_,h2⟩
 rw[gL]
 simpa using h1
theorem c2v{ops:Array Oper}:∀(is:List Nat)(l:List Value)(H:Heap)(l':List Value)(H':Heap),OpsR P ops is l H l' H'→
 ∃(T:Nat→List Value×Heap)(val:Nat→Value),T 0=(l,H)∧T is.length=(l',H')∧∀k i,is[k]? =some i→zL P ops i (T k) (T (k+1)) (val k):=by
 intro is l H l' H' h
 have key:∀{i:Nat}{is:List Nat}{l:List Value}{H:Heap}{l1:List Value}{H1:Heap}{v:Value}{l':List Value}{H':Heap},zL P ops i (l,H) (l1,H1) v→
  (∃(T:Nat→List Value×Heap)(val:Nat→Value),T 0=(l1,H1)∧T is.length=(l',H')∧∀k i,is[k]? =some i→zL P ops i (T k) (T (k+1)) (val k))→
  ∃(T:Nat→List Value×Heap)(val:Nat→Value),T 0=(l,H)∧T (i::is).length=(l',H')∧∀k j,(i::is)[k]? =some j→zL P ops j (T k) (T (k+1)) (val k):=by
  intro i is l H l1 H1 v l' H' hst ⟨T,val,h0,h1,h4⟩
  refine⟨fun k=>match k with|0=>(l,H)|k+1=>T k,fun k=>match k with|0=>v|k+1=>val k,rfl,h1,?_⟩
  intro k j hj
  cases k with
  | zero=>
    simp at hj
    subst hj
    simp only[h0]
    exact hst
  | succ k=>exact h4 k j (by simpa using hj)
 induction h with
 | nil l H=>exact⟨fun _=>(l,H),fun _=>undef,rfl,rfl,by simp⟩
 | step ho hw hs rest ih=>exact key ⟨_,ho,rfl,.inl ⟨hw,hs⟩⟩ ih
 | past ho hw rest ih=>exact key ⟨_,ho,rfl,.inr ⟨hw,rfl,rfl⟩⟩ ih
theorem Sim.cp(kQ:P.follows .mixedOrders=true){id:Nat}{ops:Array Oper}(htab:oN P ops=some []){l:List Value}{H:Heap}{l':List Value}{H':Heap}(h:OpsR P ops (List.range ops.size) l H l' H'):
 Sim P (.region id ops true) l H .normal l' H':=by
 obtain⟨T,val,h0,h1,h2⟩:=c2v _ _ _ _ _ h
 rw[List.length_range]at h1
 have:=Sim.draw kQ (id:=id) htab (T:=T) (val:=val) ⟨fun k hk=>h2 k k (by rw[iT hk])⟩ fun i m o hm=>by cases hm
 rw[h0,h1]at this
 exact this
def Wp(P:Program)(c:Code)(l:List Value)(H:Heap)(Q:oH)(_k1:Keep c:=⟨⟩)(_k2:Keep Q:=⟨⟩):Prop:=∃e l' H',Sim P c l H e l' H'∧Q e l' H'
theorem Wp.mono{c:Code}{l:List Value}{Q Q':oH}(h:Wp P c l H Q)(hh:∀e l H,Q e l H→Q' e l H):Wp P c l H Q':=by
 obtain⟨e,l',H',h1,h2⟩:=h
 exact⟨e,l',H',h1,hh _ _ _ h2⟩
def d0U(P:Program)(b:Code)(Q:oH):oH
 | .normal,l,H=>Wp P b l H Q
 | e,l,H=>Q e l H
def zZ(id:Nat)(Q:oH):oH:=fun e l H=>Q (e.out id) l H
theorem Wp.skip{l:List Value}{Q:oH}(h:Q .normal l H):Wp P .skip l H Q:=⟨_,_,_,.skip l H,h⟩
theorem Wp.label{t:Nat}{l:List Value}{Q:oH}(h:Q .normal l H):Wp P (.label t) l H Q:=⟨_,_,_,.label t l H,h⟩
theorem Wp.exit{id:Nat}{l:List Value}{Q:oH}(h:Q (.exit id) l H):Wp P (.exit id) l H Q:=⟨_,_,_,.exit id l H,h⟩
theorem Wp.ret{l:List Value}{Q:oH}(h:Q .ret l H):Wp P .ret l H Q:=⟨_,_,_,.ret l H,h⟩
theorem Wp.seq{a b:Code}{l:List Value}{Q:oH}(h:Wp P a l H (d0U P b Q)):Wp P (.seq a b) l H Q:=by
 obtain⟨e,l1,H1,h1,h2⟩:=h
 cases e with
 | normal=>
   obtain⟨e,l2,H2,h3,h4⟩:=h2
   exact⟨e,l2,H2,.seq h1 h3,h4⟩
 | exit i=>exact⟨_,_,_,.seq' h1 (by simp),h2⟩
 | ret=>exact⟨_,_,_,.seq' h1 (by simp),h2⟩
theorem Wp.cond{c:Operand}{x y:Code}{l:List Value}{Q:oH}(t:Bool)(hc:ev l c=.bool t)(hok:jT c=true)(h:Wp P (if t then x else y) l H Q):Wp P (.cond c x y) l H Q:=by
 obtain⟨e,l2,H2,h3,h4⟩:=h
 exact⟨e,l2,H2,.cond hc hok h3,h4⟩
theorem Wp.ite{c:Operand}{x y:Code}{l:List Value}{Q:oH}(p:Prop)[Decidable p](hc:ev l c=.bool (decide p))(hok:jT c=true)(hx:p→Wp P x l H Q)(hy:¬p→Wp P y l H Q):Wp P (.cond c x y) l H Q:=by
 refine Wp.cond (decide p) hc hok ?_
 by_cases h:p
 ·have e:(if decide p=true then x else y)=x:=by simp[h]
  rw[e];exact hx h
 ·have e:(if decide p=true then x else y)=y:=by simp[h]
  rw[e];exact hy h
theorem Wp.block{id:Nat}{b:Code}{l:List Value}{Q:oH}(h:Wp P b l H (zZ id Q)):Wp P (.block id b) l H Q:=by
 obtain⟨e,l2,H2,h3,h4⟩:=h
 exact⟨_,l2,H2,.block h3,h4⟩
theorem Wp.loop{c:Code}{Q:oH}(I:Nat→List Value→Heap→Prop)(step:∀n l H,I n l H→Wp P c l H fun e l1 H1=>match e with|.normal=>∃m,m<n∧I m l1 H1|e=>Q e l1 H1){l:List Value}(n:Nat)(h:I n l H):Wp P (.loop c) l H Q:=by
 have key:∀(n:Nat)(l:List Value)(H:Heap),I n l H→∃k e l' H',Rounds P c k l H e l' H'∧Q e l' H':=by
  intro n
  induction n using Nat.strongRecOn with
  | _ n ih=>
    intro l H h
    obtain⟨e,l1,H1,h1,h2⟩:=step n l H h
    cases e with
    | normal=>
      obtain⟨m,hm,h3⟩:=h2
      obtain⟨k,e,l',H',h4,h5⟩:=ih m hm l1 H1 h3
      exact⟨k+1,e,l',H',.more h1 h4,h5⟩
    | exit i=>exact⟨1,_,_,_,.last h1 (by simp),h2⟩
    | ret=>exact⟨1,_,_,_,.last h1 (by simp),h2⟩
 obtain⟨k,e,l',H',h1,h2⟩:=key n l H h
 exact⟨e,l',H',.loop h1,h2⟩
theorem Wp.region{id:Nat}{ops:Array Oper}{l:List Value}{Q:oH}(h:tS P ops ops.toList l H fun l H=>Q .normal l H):Wp P (.region id ops false) l H Q:=by
 obtain⟨l',H',h1,h2⟩:=a6x h
 exact⟨_,_,_,.region h1,h2⟩
theorem Wp.draw(kQ:P.follows .mixedOrders=true){id:Nat}{ops:Array Oper}{l:List Value}{Q:oH}(htab:oN P ops=some [])(h:tS P ops ops.toList l H fun l H=>Q .normal l H):Wp P (.region id ops true) l H Q:=by
 obtain⟨l',H',h1,h2⟩:=a6x h
 exact⟨_,_,_,.cp kQ htab h1,h2⟩
theorem CallOk.of_wp{f:FuncId}{fn:Func}{c:Code}{args:List Value}(hf:P.funcs[f]? =some fn)(hb:fn.body=some c)(hn:(fn.name== "runtime.NumGoroutine")=false){Q:Value→Heap→Prop}
 (h:Wp P c (args++List.replicate (fn.ntmps-args.length) undef) H fun e l H1=>(e=.normal∨e=.ret)∧∃v,jC P fn l H1=some v∧Q v H1):∃v H',CallOk P f args H v H'∧Q v H':=by
 obtain⟨e,l',H',h1,h2,v,h3,h4⟩:=h
 exact⟨v,H',.bT hf hb hn h1 h2 h3,h4⟩
theorem b4M(l:List Value)(d:Option Tmp)(v:Value)(t:Tmp):get (put l d v) t=if d=some t∧t<l.length then v else get l t:=b1f l d v t
theorem c1f(l:List Value)(v:Value):put l none v=l:=rfl
end
end Go.Ds
namespace Go.Ds
noncomputable section
variable {P:Program} {H:Heap}
def oR(v:Value)(K:Value→Prop)(_k:Keep K:=⟨⟩):Prop:=K v
theorem b1v{v v':Value}{K:Value→Prop}(h:v=v'):oR v K=oR v' K:=by rw[h]
attribute [congr] b1v
theorem c2t(v:Value)(K:Value→Prop):oR v K=K v:=rfl
def kP(r:Option Value)(K:Value→Prop)(_k:Keep K:=⟨⟩):Prop:=match r with|some v=>K v|none=>False
theorem b0G{r r':Option Value}{K:Value→Prop}(h:r=r'):kP r K=kP r' K:=by rw[h]
attribute [congr] b0G
theorem b3l(v:Value)(K:Value→Prop):kP (some v) K=K v:=rfl
theorem a9R{r r':Option (Value×Heap)}{K:Value→Heap→Prop}(h:r=r'):kY r K=kY r' K:=by rw[h]
attribute [congr] a9R
def xH(b:Bool)(p:Prop)(_k:Keep p:=⟨⟩):Prop:=b=true∧p
theorem b1b{b b':Bool}{p:Prop}(h:b=b'):xH b p=xH b' p:=by rw[h]
attribute [congr] b1b
theorem b5x(p:Prop):xH true p=p:=by simp[xH]
def kI(x:Operand)(l:List Value)(K:Value→Prop)(_k:Keep K:=⟨⟩):Prop:=jT x=true∧K (ev l x)
theorem b9n(t:Tmp)(l:List Value)(K:Value→Prop):kI (.tmp t) l K=oR (get l t) K:=by simp[kI,jT,ev,oR]
theorem b2A(v:Value)(l:List Value)(K:Value→Prop):kI (.const v) l K=xH (flat v) (K v):=by simp[kI,jT,ev,xH]
theorem b7k(f:FuncId)(l:List Value)(K:Value→Prop):kI (.func f) l K=K (.func (.func f) #[] #[]):=by simp[kI,jT,ev]
def a0W:List Operand→List Value→(List Value→Prop)→Prop
 | [],_,K=>K []
 | x::xs,l,K=>kI x l fun v=>a0W xs l fun vs=>K (v::vs)
theorem a3B:∀(xs:List Operand)(l:List Value)(K:List Value→Prop),a0W xs l K=(xs.all jT=true∧K (xs.map (ev l)))
 | [],l,K=>by simp[a0W]
 | x::xs,l,K=>by simp[a0W,a3B,kI,and_assoc]
theorem b5Z(l:List Value)(K:List Value→Prop):a0W [] l K=K []:=rfl
theorem b3d(x:Operand)(xs:List Operand)(l:List Value)(K:List Value→Prop):a0W (x::xs) l K=kI x l fun v=>a0W xs l fun vs=>K (v::vs):=rfl
theorem c0U(d ty pos af g)(x:Operand)(l:List Value)(K:Value→Heap→Prop):nM P ⟨d,.move x,ty,pos,af,g⟩ l H K=kI x l fun v=>K v H:=by
 simp[nM,kI,Op.operands]
theorem b1Z(d ty pos af g)(x:Operand)(l:List Value)(K:Value→Heap→Prop):nM P ⟨d,.assign x,ty,pos,af,g⟩ l H K=kI x l fun v=>K v H:=by
 simp[nM,kI,Op.operands]
def a4A(c a b:Value)(K:Value→Prop)(_k:Keep K:=⟨⟩):Prop:=match c with|.bool t=>K (if t then a else b)|_=>False
theorem a9Y{c c' a b:Value}{K:Value→Prop}(h:c=c'):a4A c a b K=a4A c' a b K:=by rw[h]
attribute [congr] a9Y
theorem b1y(a b:Value)(K:Value→Prop):a4A (.bool true) a b K=K a:=rfl
theorem a8M(a b:Value)(K:Value→Prop):a4A (.bool false) a b K=K b:=rfl
theorem a8p(c x y:Bool)(K:Value→Prop):a4A (.bool c) (.bool x) (.bool y) K=K (.bool (if c then x else y)):=by cases c<;>rfl
theorem b9W(d ty pos af g)(c a b:Operand)(l:List Value)(K:Value→Heap→Prop):nM P ⟨d,.pick c a b,ty,pos,af,g⟩ l H K=kI c l fun c=>kI a l fun a=>kI b l fun b=>a4A c a b fun v=>K v H:=by
 simp only[nM,kI,Op.operands,opD,a4A,gw,jc,gj,dB,and_assoc]
 congr 1;congr 1;congr 1
 cases ev l c<;>simp[kY]
theorem oI(r:Option (Value×Heap))(K:Value→Heap→Prop):kY r K=∃v H1,r=some (v,H1)∧K v H1:=by
 cases r with
 | none=>simp[kY]
 | some r=>
   obtain⟨a,b⟩:=r
   exact propext ⟨fun h=>⟨a,b,rfl,h⟩,fun⟨_,_,h,k⟩=>by cases h;exact k⟩
def oU(a:Option Bool)(s:Option Nat)(H:Heap)(v:Value):Option Value:=
 match v with
 | .pointer (some ⟨A,i,some e⟩)=>
   match a with
   | some true=>s.bind fun n=>(kG H A i e n).map fun l=>.agg l.toArray
   | some false=>(kG H A i e 1).bind fun l=>l[0]?
   | none=>none
 | .pointer (some ⟨A,i,none⟩)=>match jS H A with
   | some (.cells cs _ false _ 1)=>match a with
     | some true=>s.bind fun n=>(kG H A i cs.length n).map fun l=>.agg l.toArray
     | some false=>(kG H A i cs.length 1).bind fun l=>l[0]?
     | none=>none
   | _=>none
 | _=>none
theorem lK(t:TypeId)(v:Value):mC P H t v=oU (kM P t) (jD P t) H v:=rfl
theorem b8T(d ty pos af g)(t:TypeId)(a:Operand)(l:List Value)(K:Value→Heap→Prop):nM P ⟨d,.load t a,ty,pos,af,g⟩ l H K=kI a l fun p=>kP (oU (kM P t) (jD P t) H p) fun v=>K v H:=by
 simp only[nM,kI,Op.operands,opD,gw,jc,gj,lK]
 cases oU (kM P t) (jD P t) H (ev l a)<;>simp[kY,kP]
def a1u(P:Program)(H:Heap)(t:TypeId)(p v:Value)(K:Heap→Prop)(_k:Keep K:=⟨⟩):Prop:=∃H1,tC P H t p v=some H1∧K H1
theorem a6I{t:TypeId}{p p' v v':Value}{K:Heap→Prop}(h1:p=p')(h2:v=v'):a1u P H t p v K=a1u P H t p' v' K:=by rw[h1,h2]
attribute [congr] a6I
theorem b6R(d ty pos af g)(t:TypeId)(a x:Operand)(l:List Value)(K:Value→Heap→Prop):nM P ⟨d,.store t a x,ty,pos,af,g⟩ l H K=kI a l fun p=>kI x l fun v=>a1u P H t p v fun H1=>K undef H1:=by
 simp only[nM,kI,Op.operands,opD,gw,jc,gj,dB,and_assoc,a1u]
 cases tC P H t (ev l a) (ev l x)<;>simp[kY]
def a7R(P:Program)(H:Heap)(t:TypeId)(v:Value)(K:Value→Heap→Prop)(_k:Keep K:=⟨⟩):Prop:=∃p H1,zS P H t v=some (p,H1)∧K p H1
theorem b3i{t:TypeId}{v v':Value}{K:Value→Heap→Prop}(h:v=v'):a7R P H t v K=a7R P H t v' K:=by rw[h]
attribute [congr] b3i
theorem b3a(t:TypeId)(v:Value)(K:Value→Heap→Prop):kY (zS P H t v) K=a7R P H t v K:=oI _ _
def b3k(P:Program)(H:Heap)(t:TypeId)(v:Value)(K:Value→Heap→Prop)(_k:Keep K:=⟨⟩):Prop:=∃p H1,tL P H t v=some (p,H1)∧K p H1
theorem b3b{t:TypeId}{v v':Value}{K:Value→Heap→Prop}(h:v=v'):b3k P H t v K=b3k P H t v' K:=by rw[h]
attribute [congr] b3b
theorem b2O{t:TypeId}(ha:kR P t=none)(z:Value):tL P H t z=zS P H t z:=by
 unfold tL
 split
 ·rename_i n e h;simp[kR,h]at ha
 ·rfl
def xT(P:Program)(H:Heap)(t:TypeId)(z:Option Value)(K:Value→Heap→Prop)(_k:Keep K:=⟨⟩):Prop:=match z with|some z=>kE z=true∧b3k P H t z K|none=>False
theorem a7B{t:TypeId}{z z':Option Value}{K:Value→Heap→Prop}(h:z=z'):xT P H t z K=xT P H t z' K:=by rw[h]
attribute [congr] a7B
theorem a7Z{t:TypeId}(z:Value)(K:Value→Heap→Prop)(ha:kR P t=none):xT P H t (some z) K=xH (kE z) (a7R P H t z K):=by
 simp only[xT,b3k,b2O ha,xH,a7R]
theorem b3r{t:TypeId}(z:Value)(K:Value→Heap→Prop){n:Nat×TypeId}(_ha:kR P t=some n):xT P H t (some z) K=xH (kE z) (b3k P H t z K):=rfl
theorem b7z(d ty pos af g)(t:TypeId)(l:List Value)(K:Value→Heap→Prop):nM P ⟨d,.alloc t,ty,pos,af,g⟩ l H K=xT P H t (kB P t) K:=by
 simp only[nM,Op.operands,opD,jc,true_and,xT]
 cases kB P t with
 | none=>simp[kY]
 | some z=>
   simp only[dC]
   by_cases hz:kE z=true
   ·simp only[hz,if_true,true_and];exact oI _ _
   ·simp[hz,kY]
theorem c4a(d ty pos af g)(t:TypeId)(x:Operand)(l:List Value)(K:Value→Heap→Prop):nM P ⟨d,.box t x,ty,pos,af,g⟩ l H K=kI x l fun v=>a7R P H t v K:=by
 simp only[nM,kI,Op.operands,opD,gw,jc,gj,b3a]
def vY:List (Nat×Operand)→List Value→(List (Nat×Value)→Prop)→Prop
 | [],_,K=>K []
 | (i,x)::xs,l,K=>kI x l fun v=>vY xs l fun vs=>K ((i,v)::vs)
theorem a2p:∀(xs:List (Nat×Operand))(l:List Value)(K:List (Nat×Value)→Prop),vY xs l K=((xs.map (·.2)).all jT=true∧K (xs.map fun(i,x)=>(i,ev l x)))
 | [],l,K=>by simp[vY]
 | (i,x)::xs,l,K=>by simp[vY,a2p,kI,and_assoc]
theorem b2B(l:List Value)(K:List (Nat×Value)→Prop):vY [] l K=K []:=rfl
theorem a8b(i:Nat)(x:Operand)(xs:List (Nat×Operand))(l:List Value)(K:List (Nat×Value)→Prop):vY ((i,x)::xs) l K=kI x l fun v=>vY xs l fun vs=>K ((i,v)::vs):=rfl
def kT(P:Program)(t:TypeId)(ps:List (Nat×Value)):Option Value:=
 if(kB P t).any kE&&ps.all (fun x=>x.2.cells.toList.all oneCell)then(P.built t ps).map fun cs=>.agg cs else none
theorem b6d(d ty pos af g)(t:TypeId)(parts:List (Nat×Operand))(l:List Value)(K:Value→Heap→Prop):
 nM P ⟨d,.build t parts.toArray,ty,pos,af,g⟩ l H K=vY parts l fun ps=>kP (kT P t ps) fun v=>K v H:=by
 rw[a2p]
 simp only[nM,Op.operands,opD,kT]
 congr 1
 split
 ·cases P.built t (parts.map fun(i,x)=>(i,ev l x))<;>simp[kY,kP]
 ·simp[kY,kP]
def a1e(P:Program)(H:Heap)(t:TypeId)(len:Nat)(ps:List (Nat×Value)):Option (Value×Heap):=
 (jI P t).bind fun elem=>(jD P elem).bind fun size=>(kB P elem).bind fun z=>
   if len==0&&ps.isEmpty&&size !=0 then some (.slice (some ⟨H.length,0,some 0⟩) 0 size,uI H elem [])else
   if kE z&&ps.all (fun x=>x.2.cells.toList.all oneCell)&&len*size≤2^24&&len*size !=0&&z.cells.size==size then
    (Instr.fill (fun i=>some (i*size,size)) ((Array.range (len*size)).map (z.cells[·%z.cells.size]!)) ps).map fun cs=>
      (.slice (some ⟨H.length,0,some cs.toList.length⟩) len size,uI H elem cs.toList)
   else none
def uW(P:Program)(H:Heap)(t:TypeId)(len:Nat)(ps:List (Nat×Value))(K:Value→Heap→Prop)(_k:Keep K:=⟨⟩):Prop:=∃v H1,a1e P H t len ps=some (v,H1)∧K v H1
theorem a3A{t:TypeId}{len:Nat}{ps ps':List (Nat×Value)}{K:Value→Heap→Prop}(h:ps=ps'):uW P H t len ps K=uW P H t len ps' K:=by rw[h]
attribute [congr] a3A
theorem a3m(d ty pos af g)(t:TypeId)(len:Nat)(parts:List (Nat×Operand))(l:List Value)(K:Value→Heap→Prop):
 nM P ⟨d,.buildSlice t len parts.toArray,ty,pos,af,g⟩ l H K=vY parts l fun ps=>uW P H t len ps K:=by
 rw[a2p]
 simp only[nM,Op.operands,opD,uW,a1e]
 rw[←oI]
def zY(P:Program)(H:Heap)(t:TypeId)(n c:Value):Option (Value×Heap):=
    (jI P t).bind fun elem=>(jD P elem).bind fun size=>(pF P elem).bind fun bytes=>(kB P elem).bind fun z=>
    match n,c with
    | .int .i64 a,.int .i64 b=>
      if kE z&&decide (a≤b)&&0≤a&&b*(bytes+1)≤(qR:Int)&&size !=0&&z.cells.size==size then
       let cs:=if size=1 then List.replicate b.toNat (z.cells[0]!)else(madeCells z.cells (b.toNat*size)).toList
       some (.slice (some ⟨H.length,0,some cs.length⟩) a.toNat size,uI H elem cs)
      else none
    | _,_=>none
def tF(P:Program)(H:Heap)(t:TypeId)(n c:Value)(K:Value→Heap→Prop)(_k:Keep K:=⟨⟩):Prop:=∃v H1,zY P H t n c=some (v,H1)∧K v H1
theorem a1v{t:TypeId}{n n' c c':Value}{K:Value→Heap→Prop}(h:n=n')(h2:c=c'):tF P H t n c K=tF P H t n' c' K:=by rw[h,h2]
attribute [congr] a1v
theorem a4W(d ty pos af g)(t:TypeId)(n c:Operand)(l:List Value)(K:Value→Heap→Prop):
 nM P ⟨d,.makeSlice t n c,ty,pos,af,g⟩ l H K=kI n l fun n=>kI c l fun c=>tF P H t n c K:=by
 change ((#[n,c].toList.all jT=true)∧kY (zY P H t (ev l n) (ev l c)) K)=_
 rw[oI]
 simp only[kI,tF,gw,jc,gj,dB,and_assoc]
def a0P(P:Program)(H:Heap)(t:TypeId)(s x:Value)(K:Value→Heap→Prop)(_k:Keep K:=⟨⟩):Prop:=∃v H1,pB P H t s x=some (v,H1)∧K v H1
theorem a4U{t:TypeId}{s s' x x':Value}{K:Value→Heap→Prop}(h:s=s')(h2:x=x'):a0P P H t s x K=a0P P H t s' x' K:=by rw[h,h2]
attribute [congr] a4U
def mN(P:Program)(t:TypeId):Bool:=((P.underlying t).map rX)==some true
theorem b3h(d ty pos af g)(s x:Operand)(t1 t2:TypeId)(l:List Value)(K:Value→Heap→Prop):
 nM P ⟨d,.call {callee:=.builtin .append,args:=#[s,x],argTypes:=#[t1,t2]},ty,pos,af,g⟩ l H K=xH (mN P t2) (kI s l fun s=>kI x l fun x=>a0P P H t1 s x K):=by
 simp only[nM,kI,Op.operands,Call.operands,opD,a0P,xH,mN]
 rw[←oI]
 by_cases h:(((P.underlying t2).map rX)==some true)=true
 ·simp[h,and_assoc]
 ·simp[h,kY]
def b4D(P:Program)(H:Heap)(t:TypeId)(s x:Value)(K:Value→Heap→Prop)(_k:Keep K:=⟨⟩):Prop:=∃v H1,a4v P H t s x=some (v,H1)∧K v H1
theorem b0r{t:TypeId}{s s' x x':Value}{K:Value→Heap→Prop}(h:s=s')(h2:x=x'):b4D P H t s x K=b4D P H t s' x' K:=by rw[h,h2]
attribute [congr] b0r
theorem b8N(d ty pos af g)(s x:Operand)(t1 t2:TypeId)(l:List Value)(K:Value→Heap→Prop):
 nM P ⟨d,.call {callee:=.builtin .copy,args:=#[s,x],argTypes:=#[t1,t2]},ty,pos,af,g⟩ l H K=kI s l fun s=>kI x l fun x=>b4D P H t1 s x K:=by
 simp only[nM,kI,Op.operands,Call.operands,opD,b4D]
 rw[←oI]
 simp[and_assoc]
def a3i(P:Program)(H:Heap)(t:TypeId)(s:Value)(K:Value→Heap→Prop)(_k:Keep K:=⟨⟩):Prop:=∃v H1,vM P H t s=some (v,H1)∧K v H1
theorem a7e{t:TypeId}{s s':Value}{K:Value→Heap→Prop}(h:s=s'):a3i P H t s K=a3i P H t s' K:=by rw[h]
attribute [congr] a7e
theorem b5i(d ty pos af g)(s:Operand)(t1:TypeId)(l:List Value)(K:Value→Heap→Prop):
 nM P ⟨d,.call {callee:=.builtin .clear,args:=#[s],argTypes:=#[t1]},ty,pos,af,g⟩ l H K=kI s l fun s=>a3i P H t1 s K:=by
 simp only[nM,kI,Op.operands,Call.operands,opD,a3i]
 rw[←oI]
 simp[]
def a2j(P:Program)(H:Heap)(t:TypeId)(v:Value):Option Value:=
 match (P.underlying t),v with
 | some (.slice _),.slice a n k=>a0f H (.slice a n k)
 | some .string,.string s=>a0f H (.string s)
 | some (.map _ _),.map r=>a0f H (.map r)
 | _,_=>none
theorem c3z(d ty pos af g)(x:Operand)(t:TypeId)(l:List Value)(K:Value→Heap→Prop):
 nM P ⟨d,.call {callee:=.builtin .len,args:=#[x],argTypes:=#[t]},ty,pos,af,g⟩ l H K=kI x l fun x=>kP (a2j P H t x) fun v=>K v H:=by
 have h:opD P ⟨d,.call {callee:=.builtin .len,args:=#[x],argTypes:=#[t]},ty,pos,af,g⟩ l H=(a2j P H t (ev l x)).map fun v=>(v,H):=by
  simp only[opD,a2j]
  simp only[gb,eL,eT,fZ,BEq.rfl,Bool.and_self,if_true]
  simp only[fb,gi,fT,eE]
  cases P.underlying t with
  | none=>rfl
  | some u=>cases u<;>cases ev l x<;>rfl
 simp only[nM,h,kI,Op.operands,Call.operands]
 have h2:kY ((a2j P H t (ev l x)).map fun v=>(v,H)) K=kP (a2j P H t (ev l x)) fun v=>K v H:=by cases a2j P H t (ev l x)<;>rfl
 rw[h2]
 simp
def kO(v:Value)(size j f:Nat):Value:=match v with
 | .slice (some ⟨A,i,s⟩) _ _=>.pointer (some ⟨A,i+j*size+f,s⟩)
 | _=>.pointer none
def a8P(P:Program)(s:TypeId)(f:Nat)(v:Value):Option Value:=match v with
 | .pointer (some ⟨A,i,some e⟩)=>(qE P s f).bind fun fd=>(jD P fd.type).bind fun n=>if n==0 then none else some (.pointer (some ⟨A,i+fd.offset,some e⟩))
 | _=>none
theorem a5e(d ty pos af g)(s:TypeId)(x:Operand)(f:Nat)(l:List Value)(K:Value→Heap→Prop):
 nM P ⟨d,.fieldAddr s x f,ty,pos,af,g⟩ l H K=kI x l fun x=>kP (a8P P s f x) fun v=>K v H:=by
 have h:opD P ⟨d,.fieldAddr s x f,ty,pos,af,g⟩ l H=(a8P P s f (ev l x)).map fun v=>(v,H):=by
  simp only[opD,a8P]
  generalize ev l x=vx
  split
  ·dsimp only
   cases qE P s f with
   | none=>rfl
   | some fd=>
     simp only[dC]
     cases jD P fd.type with
     | none=>rfl
     | some n=>simp only[dC];split<;>rfl
  ·rename_i hne
   split
   ·exact(hne _ _ _ rfl).elim
   ·rfl
 have h2:kY ((a8P P s f (ev l x)).map fun v=>(v,H)) K=kP (a8P P s f (ev l x)) fun v=>K v H:=by cases a8P P s f (ev l x)<;>rfl
 simp only[nM,h,kI,Op.operands,h2]
 simp
def a3l(P:Program)(t:TypeId)(v i:Value):Option Value:=
 match P.underlying t,v,i with
  | some (.slice elem),.slice (some ⟨A,i,some e⟩) n _,.int _ j=>(jD P elem).bind fun size=>
    if 0≤j&&j<n then some (.pointer (some ⟨A,i+j.toNat*size,some e⟩))else none
  | some (.array n elem),.pointer (some ⟨A,i,some e⟩),.int _ j=>(jD P elem).bind fun size=>
    if 0≤j&&j<n then some (.pointer (some ⟨A,i+j.toNat*size,some e⟩))else none
  | some (.array n elem),.pointer (some ⟨A,i,none⟩),.int _ j=>(jD P elem).bind fun size=>
    if 0≤j&&j<n then some (.pointer (some ⟨A,i+j.toNat*size,none⟩))else none
  | _,_,_=>none
theorem a4Z(d ty pos af g)(t:TypeId)(x i:Operand)(l:List Value)(K:Value→Heap→Prop):
 nM P ⟨d,.indexAddr t x i,ty,pos,af,g⟩ l H K=kI x l fun x=>kI i l fun i=>kP (a3l P t x i) fun v=>K v H:=by
 have h:opD P ⟨d,.indexAddr t x i,ty,pos,af,g⟩ l H=(a3l P t (ev l x) (ev l i)).map fun v=>(v,H):=by
  simp only[opD,a3l]
  generalize ev l x=vx
  generalize ev l i=vi
  generalize P.underlying t=u
  split
  ·dsimp only
   cases jD P _ with
   | none=>rfl
   | some n=>simp only[dC];split<;>rfl
  ·dsimp only
   cases jD P _ with
   | none=>rfl
   | some n=>simp only[dC];split<;>rfl
  ·dsimp only
   cases jD P _ with
   | none=>rfl
   | some n=>simp only[dC];split<;>rfl
  ·rename_i h1 h2 h3
   split
   ·exact(h1 _ _ _ _ _ _ _ _ rfl rfl rfl).elim
   ·exact(h2 _ _ _ _ _ _ _ rfl rfl rfl).elim
   ·exact(h3 _ _ _ _ _ _ rfl rfl rfl).elim
   ·rfl
 have h2:kY ((a3l P t (ev l x) (ev l i)).map fun v=>(v,H)) K=kP (a3l P t (ev l x) (ev l i)) fun v=>K v H:=by cases a3l P t (ev l x) (ev l i)<;>rfl
 simp only[nM,h,kI,Op.operands,h2]
 simp[and_assoc]
def c9P(P:Program)(o:Oper)(op:BinOp)(l:List Value)(H:Heap)(x y:Value)(K:Value→Heap→Prop)(_k:Keep K:=⟨⟩):Prop:=match x,y with
 | .int k a,.int k' b=>(match (if k=k' then oB op k a b else none)with|some v=>K v H|none=>kY (opD P o l H) K)
 | _,_=>kY (opD P o l H) K
theorem b3m{o:Oper}{op:BinOp}{l:List Value}{x x' y y':Value}{K:Value→Heap→Prop}(h:x=x')(h2:y=y'):c9P P o op l H x y K=c9P P o op l H x' y' K:=by rw[h,h2]
attribute [congr] b3m
theorem oK(o o':Oper)(l l':List Value)(H:Heap)(h1:o.op.operands.toList.map (ev l)=o'.op.operands.toList.map (ev l'))(h2:execOp (ev l) o=execOp (ev l') o'):
 lT P o l H=((lT P o' l' .nil).map (·.1)).map fun v=>(v,H):=by
 have h3:∀(l:List Value)(xs:List Operand),xs.all (fun x=>flat (ev l x))=(xs.map (ev l)).all flat:=fun l xs=>by simp[List.all_map,jd]
 unfold lT
 rw[h3,h1,←h3,h2]
 split
 ·split
  ·split<;>rfl
  ·rfl
 ·rfl
def unV(P:Program)(op:UnOp)(t:TypeId)(x:Value):Option Value:=(opD P ⟨none,.unOp op t (.const x),t,"",#[],none⟩ [] .nil).map (·.1)
theorem c6d(d ty pos af g)(op:UnOp)(t:TypeId)(x:Operand)(l:List Value)(K:Value→Heap→Prop):
 nM P ⟨d,.unOp op t x,ty,pos,af,g⟩ l H K=kI x l fun x=>kP (unV P op t x) fun v=>K v H:=by
 have h:opD P ⟨d,.unOp op t x,ty,pos,af,g⟩ l H=(unV P op t (ev l x)).map fun v=>(v,H):=by
  have hp:=oK (P:=P) ⟨d,.unOp op t x,ty,pos,af,g⟩ ⟨none,.unOp op t (.const (ev l x)),t,"",#[],none⟩ l [] H rfl rfl
  simp only[opD,unV,hp]
  generalize lT P _ _ _=r
  have e1:∀v,ev [] (.const v)=v:=fun _=>rfl
  simp only[e1]
  generalize ev l x=vx
  split<;>simp
 have h2:kY ((unV P op t (ev l x)).map fun v=>(v,H)) K=kP (unV P op t (ev l x)) fun v=>K v H:=by cases unV P op t (ev l x)<;>rfl
 simp only[nM,h,kI,Op.operands,h2]
 simp
theorem c3D(t:TypeId)(b:Bool):unV P .not t (.bool b)=some (.bool (!b)):=by simp[unV,opD,ev]
def a4i(P:Program)(s t:TypeId)(x:Value):Option Value:=(lT P ⟨none,.convert s t (.const x),t,"",#[],none⟩ [] .nil).map (·.1)
def wN(P:Program)(s t:TypeId)(H:Heap)(x:Value)(K:Value→Heap→Prop)(_k:Keep K:=⟨⟩):Prop:=∃v H1,opD P ⟨none,.convert s t (.const x),t,"",#[],none⟩ [] H=some (v,H1)∧K v H1
theorem a8V{s t:TypeId}{x x':Value}{K:Value→Heap→Prop}(h:x=x'):wN P s t H x K=wN P s t H x' K:=by rw[h]
attribute [congr] a8V
theorem a9T(d ty pos af g)(s t:TypeId)(x:Operand)(l:List Value)(K:Value→Heap→Prop):
 nM P ⟨d,.convert s t x,ty,pos,af,g⟩ l H K=kI x l fun x=>wN P s t H x K:=by
 have h:opD P ⟨d,.convert s t x,ty,pos,af,g⟩ l H=opD P ⟨none,.convert s t (.const (ev l x)),t,"",#[],none⟩ [] H:=by
  have hp:=oK (P:=P) ⟨d,.convert s t x,ty,pos,af,g⟩ ⟨none,.convert s t (.const (ev l x)),t,"",#[],none⟩ l [] H rfl rfl
  have hp2:=oK (P:=P) ⟨none,.convert s t (.const (ev l x)),t,"",#[],none⟩ ⟨none,.convert s t (.const (ev l x)),t,"",#[],none⟩ [] [] H rfl rfl
  have e1:∀v,ev [] (.const v)=v:=fun _=>rfl
  simp only[opD,e1,hp,←hp2]
 simp only[nM,h,kI,Op.operands,wN,oI]
 simp
theorem b1k{s t:TypeId}{x:Value}(K:Value→Heap→Prop)(hb:mL P t=false)(hf:flat x=true):wN P s t H x K=kP (a4i P s t x) fun v=>K v H:=by
 have hp:=oK (P:=P) ⟨none,.convert s t (.const x),t,"",#[],none⟩ ⟨none,.convert s t (.const x),t,"",#[],none⟩ [] [] H rfl rfl
 have e1:ev [] (.const x)=x:=rfl
 have h:opD P ⟨none,.convert s t (.const x),t,"",#[],none⟩ [] H=(a4i P s t x).map fun v=>(v,H):=by
  simp only[opD,e1,hf,hb,Bool.not_false,gj,if_true,a4i]
  exact hp
 unfold wN
 rw[h,←oI]
 cases a4i P s t x<;>rfl
theorem b5q{s t:TypeId}(k:IntKind)(a:Int)(K:Value→Heap→Prop)(hb:mL P t=false):wN P s t H (.int k a) K=kP (a4i P s t (.int k a)) fun v=>K v H:=b1k K hb rfl
def wP(v:Value)(i:Nat):Option Value:=match v with|.tuple vs=>vs[i]?|_=>none
theorem a9r(d ty pos af g)(x:Operand)(i:Nat)(l:List Value)(K:Value→Heap→Prop):
 nM P ⟨d,.extract x i,ty,pos,af,g⟩ l H K=kI x l fun x=>kP (wP x i) fun v=>K v H:=by
 have h:opD P ⟨d,.extract x i,ty,pos,af,g⟩ l H=(wP (ev l x) i).map fun v=>(v,H):=by
  simp only[opD,wP]
  generalize ev l x=vx
  cases vx<;>rfl
 have h2:kY ((wP (ev l x) i).map fun v=>(v,H)) K=kP (wP (ev l x) i) fun v=>K v H:=by cases wP (ev l x) i<;>rfl
 simp only[nM,h,kI,Op.operands,h2]
 simp
theorem b3q(a:Value)(l:List Value):wP (.tuple (a::l).toArray) 0=some a:=by simp[wP]
theorem b7C(a b:Value)(l:List Value):wP (.tuple (a::b::l).toArray) 1=some b:=by simp[wP]
theorem b6B(a b c:Value)(l:List Value):wP (.tuple (a::b::c::l).toArray) 2=some c:=by simp[wP]
def a0t(P:Program)(t:TypeId)(v:Value)(f:Nat):Option Value:=(opD P ⟨none,.field t (.const v) f,t,"",#[],none⟩ [] .nil).map (·.1)
theorem b6t(d ty pos af g)(t:TypeId)(x:Operand)(f:Nat)(l:List Value)(K:Value→Heap→Prop):
 nM P ⟨d,.field t x f,ty,pos,af,g⟩ l H K=kI x l fun x=>kP (a0t P t x f) fun v=>K v H:=by
 have h:opD P ⟨d,.field t x f,ty,pos,af,g⟩ l H=(a0t P t (ev l x) f).map fun v=>(v,H):=by
  have hp:=oK (P:=P) ⟨d,.field t x f,ty,pos,af,g⟩ ⟨none,.field t (.const (ev l x)) f,t,"",#[],none⟩ l [] H rfl rfl
  simp only[opD,a0t,hp]
  generalize lT P _ _ _=r
  have e1:∀v,ev [] (.const v)=v:=fun _=>rfl
  simp only[e1]
  generalize ev l x=vx
  split
  ·cases r<;>rfl
  ·rename_i hfl
   cases vx<;>try rfl
   rename_i cs
   dsimp only
   cases qE P t f with
   | none=>rfl
   | some fd=>
     simp only[dC]
     cases kM P fd.type with
     | none=>rfl
     | some b=>
       cases b
       ·dsimp only;cases cs[fd.offset]?<;>rfl
       ·dsimp only;cases jD P fd.type<;>rfl
 have h2:kY ((a0t P t (ev l x) f).map fun v=>(v,H)) K=kP (a0t P t (ev l x) f) fun v=>K v H:=by cases a0t P t (ev l x) f<;>rfl
 simp only[nM,h,kI,Op.operands,h2]
 simp
end
end Go.Ds
namespace Go.Ds
noncomputable section
variable {P:Program} {H:Heap}
theorem a8Z{f f':Value}{args args':List Value}{K:Value→Heap→Prop}(h1:f=f')(h2:args=args'):uL P f args H K=uL P f' args' H K:=by rw[h1,h2]
attribute [congr] a8Z
def tM(P:Program)(k:FuncId)(args:List Value)(H:Heap)(K:Value→Heap→Prop)(_k:Keep K:=⟨⟩):Prop:=∃v H1,pD P k∧CallOk P k args H v H1∧K v H1
theorem a6A{k:FuncId}{args args':List Value}{K:Value→Heap→Prop}(h2:args=args'):tM P k args H K=tM P k args' H K:=by rw[h2]
attribute [congr] a6A
theorem b2f(k:FuncId)(a b:List Value)(args:List Value)(K:Value→Heap→Prop):uL P (.func (.func k) a.toArray b.toArray) args H K=tM P k (a++args++b) H K:=rfl
theorem b9o(d ty pos af g)(f:Operand)(args:List Operand)(ts:Array TypeId)(l:List Value)(K:Value→Heap→Prop):
 nM P ⟨d,.call {callee:=.value f,args:=args.toArray,argTypes:=ts},ty,pos,af,g⟩ l H K=kI f l fun f=>a0W args l fun vs=>uL P f vs H K:=by
 simp only[nM,a3B,kI,Op.operands,Call.operands]
 simp[and_assoc]
theorem a7U(d ty pos af g)(f:FuncId)(captured:List Operand)(l:List Value)(K:Value→Heap→Prop):
 nM P ⟨d,.makeFunc (.func f) #[] captured.toArray,ty,pos,af,g⟩ l H K=a0W captured l fun vs=>xH (vs.all nE) (K (.func (.func f) #[] vs.toArray) H):=by
 simp only[nM,a3B,xH,Op.operands,opD]
 have e:(captured.map (ev l)).all nE=captured.all fun x=>nE (ev l x):=by simp[List.all_map,jd]
 rw[e]
 by_cases h:(captured.all fun x=>nE (ev l x))=true
 ·simp[h]
 ·simp[h,kY]
def a0x(ops:Array Oper)(j:Nat):Option Tmp:=(ops[j]?).bind (·.dst)
def vB(v:Value)(b:Bool)(p q:Prop)(_k1:Keep p:=⟨⟩)(_k2:Keep q:=⟨⟩):Prop:=match v with|.bool c=>if c=b then p else q|_=>q
theorem b2b{v v':Value}{b:Bool}{p q:Prop}(h:v=v'):vB v b p q=vB v' b p q:=by rw[h]
attribute [congr] b2b
theorem c4Q(p q:Prop):vB (.bool true) true p q=p:=rfl
theorem c4v(p q:Prop):vB (.bool false) false p q=p:=rfl
theorem c2m(p q:Prop):vB (.bool true) false p q=q:=rfl
theorem c4d(p q:Prop):vB (.bool false) true p q=q:=rfl
theorem b1n(b:Bool)(p q:Prop):vB undef b p q=q:=rfl
theorem jW{c:Prop}[Decidable c]{p q:Prop}(h1:c→p)(h2:¬c→q):vB (.bool (decide c)) true p q:=by
 by_cases h:c
 ·simp only[vB,h,decide_true,if_true];exact h1 h
 ·simp only[vB,h,decide_false,eV,if_false];exact h2 h
theorem jL{c:Prop}[Decidable c]{p q:Prop}(h1:c→q)(h2:¬c→p):vB (.bool (decide c)) false p q:=by
 by_cases h:c
 ·simp only[vB,h,decide_true,Bool.true_eq_false,if_false];exact h1 h
 ·simp only[vB,h,decide_false,if_true];exact h2 h
def xC(d:Option Tmp)(l:List Value)(b:Bool)(p q:Prop)(_k1:Keep p:=⟨⟩)(_k2:Keep q:=⟨⟩):Prop:=match d with|some d=>vB (get l d) b p q|none=>q
theorem a6M{d d':Option Tmp}{l:List Value}{b:Bool}{p q:Prop}(h:d=d'):xC d l b p q=xC d' l b p q:=by rw[h]
attribute [congr] a6M
theorem b0y(d:Tmp)(l:List Value)(b:Bool)(p q:Prop):xC (some d) l b p q=vB (get l d) b p q:=rfl
theorem b7G(ops:Array Oper)(l:List Value)(d op ty pos af)(j:Nat)(b:Bool):
 Region.wanted ⟨d,op,ty,pos,af,some (j,b)⟩ (jX ops l)=(match a0x ops j with|some d=>(match get l d with|.bool c=>c==b|_=>false)|none=>false):=by
 show(jX ops l j==some b)=_
 unfold jX a0x
 cases (ops[j]?).bind (·.dst)with
 | none=>rfl
 | some t=>
   simp only[pW]
   rw[dE]
   cases h:l[t]? with
   | none=>rfl
   | some v=>
     simp only[eE]
     cases v<;>rfl
theorem vH(ops:Array Oper)(l:List Value)(d op ty pos af)(j:Nat)(b:Bool)(p q:Prop):
 (if Region.wanted ⟨d,op,ty,pos,af,some (j,b)⟩ (jX ops l)=true then p else q)=xC (a0x ops j) l b p q:=by
 rw[b7G]
 cases a0x ops j with
 | none=>simp[xC]
 | some t=>
   have key:∀v:Value,(if(match v with|.bool c=>c==b|_=>false)=true then p else q)=vB v b p q:=fun v=>by
    cases v<;>simp[vB]
   exact key (get l t)
theorem b8u(ops:Array Oper)(l:List Value)(K:List Value→Heap→Prop):tS P ops [] l H K=K l H:=rfl
theorem b7B(ops:Array Oper)(d op ty pos af)(os:List Oper)(l:List Value)(K:List Value→Heap→Prop):
 tS P ops (⟨d,op,ty,pos,af,none⟩::os) l H K=nM P ⟨d,op,ty,pos,af,none⟩ l H fun v H1=>tS P ops os (put l d v) H1 K:=by
 rw[tS];simp[Region.wanted]
theorem b1d(ops:Array Oper)(d op ty pos af)(j:Nat)(b:Bool)(os:List Oper)(l:List Value)(K:List Value→Heap→Prop):
 tS P ops (⟨d,op,ty,pos,af,some (j,b)⟩::os) l H K=xC (a0x ops j) l b (nM P ⟨d,op,ty,pos,af,some (j,b)⟩ l H fun v H1=>tS P ops os (put l d v) H1 K) (tS P ops os (put l d undef) H K):=by
 rw[tS,←vH ops l d op ty pos af]
def nZ(P:Program)(ops:Array Oper):List Oper→List (List Value×Heap×Value)→List Value→Heap→(List (List Value×Heap×Value)→List Value→Heap→Prop)→Prop
 | [],tr,l,H,K=>K tr l H
 | o::os,tr,l,H,K=>if Region.wanted o (jX ops l)=true then nM P o l H fun v H1=>nZ P ops os (tr++[(l,H,v)]) (put l o.dst v) H1 K else nZ P ops os (tr++[(l,H,undef)]) (put l o.dst undef) H K
theorem b6M(ops:Array Oper)(tr)(l:List Value)(K):nZ P ops [] tr l H K=K tr l H:=rfl
theorem b1p(ops:Array Oper)(d op ty pos af)(os:List Oper)(tr)(l:List Value)(K):
 nZ P ops (⟨d,op,ty,pos,af,none⟩::os) tr l H K=nM P ⟨d,op,ty,pos,af,none⟩ l H fun v H1=>nZ P ops os (tr++[(l,H,v)]) (put l d v) H1 K:=by
 rw[nZ];simp[Region.wanted]
theorem a8U(ops:Array Oper)(d op ty pos af)(j:Nat)(b:Bool)(os:List Oper)(tr)(l:List Value)(K):
 nZ P ops (⟨d,op,ty,pos,af,some (j,b)⟩::os) tr l H K=xC (a0x ops j) l b (nM P ⟨d,op,ty,pos,af,some (j,b)⟩ l H fun v H1=>nZ P ops os (tr++[(l,H,v)]) (put l d v) H1 K) (nZ P ops os (tr++[(l,H,undef)]) (put l d undef) H K):=by
 rw[nZ,←vH ops l d op ty pos af]
theorem xD{ops:Array Oper}{K:List (List Value×Heap×Value)→List Value→Heap→Prop}:∀(os:List Oper)(i:Nat),ops.toList.drop i=os→∀(tr:List (List Value×Heap×Value))(l:List Value)(H:Heap),nZ P ops os tr l H K→
 ∃(T:Nat→List Value×Heap)(val:Nat→Value)(l':List Value)(H':Heap)(ext:List (List Value×Heap×Value)),T 0=(l,H)∧T os.length=(l',H')∧ext.length=os.length∧(∀k,k<os.length→ext[k]? =some ((T k).1,(T k).2,val k))∧
  (∀k,k<os.length→zL P ops (i+k) (T k) (T (k+1)) (val k))∧K (tr++ext) l' H'
 | [],i,_,tr,l,H,h=>⟨fun _=>(l,H),fun _=>undef,l,H,[],rfl,rfl,rfl,by simp,by simp,by simpa [nZ]using h⟩
 | o::os,i,hd,tr,l,H,h=>by
   have ho:ops[i]? =some o:=by
    have:(ops.toList.drop i)[0]? =some o:=by rw[hd];rfl
    rw[ed]at this
    simpa using this
   have hd':ops.toList.drop (i+1)=os:=by
    rw[←gk,hd];rfl
   have key:∀(v:Value)(H1:Heap),zL P ops i (l,H) (put l o.dst v,H1) v→nZ P ops os (tr++[(l,H,v)]) (put l o.dst v) H1 K→
    ∃(T:Nat→List Value×Heap)(val:Nat→Value)(l':List Value)(H':Heap)(ext:List (List Value×Heap×Value)),T 0=(l,H)∧T (o::os).length=(l',H')∧ext.length=(o::os).length∧(∀k,k<(o::os).length→ext[k]? =some ((T k).1,(T k).2,val k))∧
     (∀k,k<(o::os).length→zL P ops (i+k) (T k) (T (k+1)) (val k))∧K (tr++ext) l' H':=by
    intro v H1 hst hop
    obtain⟨T,val,l',H',ext,h0,h1,h2,h3,h4,h5⟩:=xD os (i+1) hd' _ _ _ hop
    refine⟨fun k=>match k with|0=>(l,H)|k+1=>T k,fun k=>match k with|0=>v|k+1=>val k,l',H',(l,H,v)::ext,rfl,h1,by simp[h2],?_,?_,by simpa using h5⟩
    ·intro k hk
     cases k with
     | zero=>rfl
     | succ k=>simpa using h3 k (by simpa using hk)
    ·intro k hk
     cases k with
     | zero=>simp only[h0];exact hst
     | succ k=>
       have:=h4 k (by simpa using hk)
       rw[show i+(k+1)=i+1+k from by omega]
       exact this
   unfold nZ at h
   split at h
   ·rename_i hw
    obtain⟨v,H1,h1,h2⟩:=a1M h
    exact key v H1 ⟨o,ho,rfl,.inl ⟨hw,h1⟩⟩ h2
   ·rename_i hw
    exact key undef H ⟨o,ho,rfl,.inr ⟨by simpa using hw,rfl,rfl⟩⟩ h
def b7T(P:Program)(ops:Array Oper)(tr:List (List Value×Heap×Value))(H1:Heap)(i m:Nat):Prop:=
 match ops[i]?,tr[i]? with
 | some o,some (l,_,v)=>Region.wanted o (jX ops l)=true→nM P o l (match tr[m]? with|some y=>y.2.1|none=>H1) fun v' _=>v'=v
 | _,_=>False
def a1q(o:Oper):Bool:=match o.op with|.call c=>(match c.callee with|.value _=>false|_=>true)|_=>true
def xG(ops:Array Oper)(tab:List (Nat×Nat)):Bool:=tab.all fun x=>match ops[x.1]? with|some o=>a1q o|none=>false
theorem b3U{o:Oper}{l:List Value}{K:Value→Heap→Prop}(hn:a1q o=true)(h:nM P o l H K):∃v H1,opD P o l H=some (v,H1)∧K v H1:=by
 obtain⟨v,H1,h1,h2⟩:=a1M h
 refine⟨v,H1,h1.opD fun c f hc hf=> ?_,h2⟩
 simp[a1q,hc,hf]at hn
theorem Wp.cQ(kQ:P.follows .mixedOrders=true){id:Nat}{ops:Array Oper}{l:List Value}{Q:oH}(tab:List (Nat×Nat))(htab:oN P ops=some tab)(hn:xG ops tab=true)
 (h:nZ P ops ops.toList [] l H fun tr l1 H1=>Q .normal l1 H1∧∀x∈tab,b7T P ops tr H1 x.1 x.2):Wp P (.region id ops true) l H Q:=by
 obtain⟨T,val,l',H',ext,h0,h1,h2,h3,h4,h5,h6⟩:=xD ops.toList 0 rfl [] l H h
 have hlen:ops.toList.length=ops.size:=by simp
 rw[hlen]at h1 h2 h3 h4
 have:=Sim.draw kQ (id:=id) htab (T:=T) (val:=val) ⟨fun k hk=>by simpa using h4 k hk⟩ fun i m o hm ho hw=>by
  have hr:=h6 (i,m) hm
  have hi:i<ops.size:=(dL.1 ho).1
  unfold b7T at hr
  simp only[fH]at hr
  rw[ho,h3 i hi]at hr
  have hr:=hr hw
  have hno:a1q o=true:=by
   unfold xG at hn
   have:=dT.1 hn (i,m) hm
   simpa [ho]using this
  have hTm:(match ext[m]? with|some y=>y.2.1|none=>H')=(T m).2∨ops.size<m:=by
   by_cases hm2:m<ops.size
   ·left;rw[h3 m hm2]
   ·by_cases hm3:m=ops.size
    ·left
     rw[fm (by omega),hm3,h1]
    ·right;omega
  rcases hTm with hTm|hTm
  ·rw[hTm]at hr
   obtain⟨v,H2,h7,h8⟩:=b3U hno hr
   exact⟨H2,by rw[h7,h8]⟩
  ·exfalso
   obtain⟨fl,D,rfl⟩:=sF htab
   have:=a3f hm
   omega
 rw[h0,h1]at this
 exact⟨_,_,_,this,h5⟩
theorem c0Q{c:Code}{l l':List Value}{Q:oH}(h:l=l'):Wp P c l H Q=Wp P c l' H Q:=by rw[h]
attribute [congr] c0Q
theorem a5d(id:Nat)(Q:oH)(l:List Value):zZ id Q .normal l H=Q .normal l H:=rfl
theorem b2k(id:Nat)(Q:oH)(l:List Value):zZ id Q .ret l H=Q .ret l H:=rfl
theorem b0O(id i:Nat)(Q:oH)(l:List Value):zZ id Q (.exit i) l H=if i=id then Q .normal l H else Q (.exit i) l H:=by
 simp only[zZ,Ex.out]
 split<;>rfl
def a2q(I:Nat→List Value→Heap→Prop)(n:Nat)(Q:oH):oH:=fun e l1 H1=>match e with|.normal=>∃m,m<n∧I m l1 H1|e=>Q e l1 H1
theorem a5c(I:Nat→List Value→Heap→Prop)(n:Nat)(Q:oH)(l:List Value):a2q I n Q .normal l H=∃m,m<n∧I m l H:=rfl
theorem a8G(I:Nat→List Value→Heap→Prop)(n:Nat)(Q:oH)(i:Nat)(l:List Value):a2q I n Q (.exit i) l H=Q (.exit i) l H:=rfl
theorem b2h(I:Nat→List Value→Heap→Prop)(n:Nat)(Q:oH)(l:List Value):a2q I n Q .ret l H=Q .ret l H:=rfl
theorem Wp.cut{c:Code}{l:List Value}{Q:oH}(M:oH)(h:Wp P c l H M)(hm:∀e l H,M e l H→Q e l H):Wp P c l H Q:=h.mono hm
theorem c1F(l:List Value)(k t:Nat)(v:Value):get (put l (some k) v) t=if k=t then(if k<l.length then v else get l t)else get l t:=by
 rw[b4M]
 by_cases h:k=t
 ·subst h;simp
 ·simp[h]
theorem a8q(l:List Value)(k:Nat)(v:Value):(put l (some k) v).length=l.length:=a3t l _ v
def tQ(v:Value)(p q:Prop)(_k1:Keep p:=⟨⟩)(_k2:Keep q:=⟨⟩):Prop:=match v with|.bool c=>if c=true then p else q|_=>False
theorem a8l{v v':Value}{p q:Prop}(h:v=v'):tQ v p q=tQ v' p q:=by rw[h]
attribute [congr] a8l
theorem b2j(p q:Prop):tQ (.bool true) p q=p:=rfl
theorem a9M(p q:Prop):tQ (.bool false) p q=q:=rfl
theorem jA{c:Prop}[Decidable c]{p q:Prop}(h1:c→p)(h2:¬c→q):tQ (.bool (decide c)) p q:=by
 by_cases h:c
 ·simp only[tQ,h,decide_true,if_true];exact h1 h
 ·simp only[tQ,h,decide_false,eV,if_false];exact h2 h
theorem kA{c:Bool}{p q:Prop}(h1:c=true→p)(h2:c=false→q):tQ (.bool c) p q:=by
 cases c
 ·exact h2 rfl
 ·exact h1 rfl
theorem Wp.cR{t:Tmp}{x y:Code}{l:List Value}{Q:oH}(h:tQ (get l t) (Wp P x l H Q) (Wp P y l H Q)):Wp P (.cond (.tmp t) x y) l H Q:=by
 unfold tQ at h
 split at h
 ·rename_i c hc
  refine Wp.cond c hc rfl ?_
  cases c
  ·simpa using h
  ·simpa using h
 ·exact h.elim
theorem Wp.reg{id:Nat}{os:List Oper}{l:List Value}{Q:oH}(h:tS P os.toArray os l H fun l H=>Q .normal l H):Wp P (.region id os.toArray false) l H Q:=.region h
theorem Wp.drw(kQ:P.follows .mixedOrders=true){id:Nat}{os:List Oper}{l:List Value}{Q:oH}(htab:oN P os.toArray=some [])(h:tS P os.toArray os l H fun l H=>Q .normal l H):Wp P (.region id os.toArray true) l H Q:=
 .draw kQ htab h
def a6o(f:Nat→Nat→Prop):List (Nat×Nat)→Prop
 | []=>True
 | (i,m)::r=>f i m∧a6o f r
theorem b6s(f:Nat→Nat→Prop):a6o f []=True:=rfl
theorem b2V(f:Nat→Nat→Prop)(i m:Nat)(r:List (Nat×Nat)):a6o f ((i,m)::r)=(f i m∧a6o f r):=rfl
theorem a5L{f:Nat→Nat→Prop}:∀{tab:List (Nat×Nat)},a6o f tab→∀x∈tab,f x.1 x.2
 | [],_,x,hx=>by cases hx
 | (i,m)::r,h,x,hx=>by
   rcases ew.1 hx with rfl|hx
   ·exact h.1
   ·exact a5L h.2 x hx
def trH(y:Option (List Value×Heap×Value))(H1:Heap):Heap:=match y with|some y=>y.2.1|none=>H1
theorem c0H(l:List Value)(H:Heap)(v:Value)(H1:Heap):trH (some (l,H,v)) H1=H:=rfl
theorem c0o(H1:Heap):trH none H1=H1:=rfl
def rdW(P:Program)(ops:Array Oper)(o:Option Oper)(t:Option (List Value×Heap×Value))(H:Heap):Prop:=
 match o,t with
 | some o,some (l,_,v)=>Region.wanted o (jX ops l)=true→nM P o l H fun v' _=>v'=v
 | _,_=>False
theorem c2U(os:List Oper)(tr:List (List Value×Heap×Value))(H1:Heap)(i m:Nat):b7T P os.toArray tr H1 i m=rdW P os.toArray os[i]? tr[i]? (trH tr[m]? H1):=by
 simp[b7T,rdW,trH]
theorem b8s(ops:Array Oper)(d op ty pos af)(l:List Value)(H':Heap)(v:Value):rdW P ops (some ⟨d,op,ty,pos,af,none⟩) (some (l,H',v)) H=nM P ⟨d,op,ty,pos,af,none⟩ l H fun v' _=>v'=v:=by
 simp[rdW,Region.wanted]
theorem Wp.aJ(kQ:P.follows .mixedOrders=true){id:Nat}{os:List Oper}{l:List Value}{Q:oH}(tab:List (Nat×Nat))(htab:oN P os.toArray=some tab)(hn:xG os.toArray tab=true)
 (h:nZ P os.toArray os [] l H fun tr l1 H1=>Q .normal l1 H1∧a6o (b7T P os.toArray tr H1) tab):Wp P (.region id os.toArray true) l H Q:=by
 refine .cQ kQ tab htab hn ?_
 have key:∀(os':List Oper)(tr)(l:List Value)(H:Heap)(K K':List (List Value×Heap×Value)→List Value→Heap→Prop),(∀tr l H,K tr l H→K' tr l H)→nZ P os.toArray os' tr l H K→nZ P os.toArray os' tr l H K':=by
  intro os'
  induction os' with
  | nil=>intro tr l H K K' hk h;exact hk _ _ _ h
  | cons o os' ih=>
    intro tr l H K K' hk h
    unfold nZ at h ⊢
    split
    ·rename_i hw
     rw[if_pos hw]at h
     have mono:∀{K1 K2:Value→Heap→Prop},(∀v H1,K1 v H1→K2 v H1)→nM P o l H K1→nM P o l H K2:=by
      intro K1 K2 hk12 h1
      obtain⟨h2,h3⟩:=h1
      refine⟨h2,?_⟩
      have bw:∀r,kY r K1→kY r K2:=fun r hr=>by
       cases r with
       | none=>exact hr
       | some r=>exact hk12 _ _ hr
      split at h3
      ·exact hk12 _ _ h3
      ·exact hk12 _ _ h3
      ·split at h3
       ·unfold uL at h3 ⊢
        split at h3
        ·obtain⟨v,H1,a,b,c⟩:=h3;exact⟨v,H1,a,b,hk12 _ _ c⟩
        ·obtain⟨v,H1,a,b⟩:=h3;exact⟨v,H1,a,hk12 _ _ b⟩
        ·exact h3
       ·exact bw _ h3
      ·exact bw _ h3
     exact mono (fun v H1 h=>ih _ _ _ _ _ hk h) h
    ·rename_i hw
     rw[if_neg hw]at h
     exact ih _ _ _ _ _ hk h
 exact key _ _ _ _ _ _ (fun tr l1 H1 h=>⟨h.1,a5L h.2⟩) h
theorem Wp.cS{c:Code}{Q:oH}(I:Nat→List Value→Heap→Prop){l:List Value}(n:Nat)(h:I n l H)(step:∀n l H,I n l H→Wp P c l H (a2q I n Q)):Wp P (.loop c) l H Q:=Wp.loop I step n h
end
end Go.Ds
namespace Go.Ds
noncomputable section
structure Base where
 H:Heap
 X:Nat→Prop
instance:Coe Heap Base:=⟨fun H=>⟨H,fun _=>False⟩⟩
variable {P:Program} {H0:Base} {H:Heap}
structure Ob where
 v:Value
 size:Nat
 cs:List Value
def kX:Value→Option Nat
 | .slice (some a) _ _=>some a.block
 | .pointer (some a)=>some a.block
 | .map (some A)=>some A
 | _=>none
def mcs(es:List MapEntry):List Value:=es.flatMap fun e=>[e.key,e.val]
abbrev ptr(A off n:Nat):Value:=.pointer (some ⟨A,off,some n⟩)
def RdAt(H:Heap)(v:Value)(size:Nat)(cs:List Value):Prop:=
 (v=.slice none 0 0∧cs=[])∨∃A i e row ty rw lo ver n,jS H A=some (.cells row ty rw lo ver)∧lo≤e∧e≤row.length∧i+cs.length≤e∧(row.drop i).take cs.length=cs∧
   cs.length=n*size∧v=.slice (some ⟨A,i,some e⟩) n size
def Stamps(es:List MapEntry)(ck:Nat):Prop:=(es.map (·.born)).Pairwise (·<·)∧∀e∈es,e.born<ck
theorem Stamps.nil(ck:Nat):Stamps [] ck:=⟨.nil,by simp⟩
theorem Stamps.push{es:List MapEntry}{ck:Nat}(h:Stamps es ck)(e:MapEntry)(he:e.born=ck):Stamps (es++[e]) (ck+1):=by
 refine⟨?_,fun x hx=> ?_⟩
 ·rw[dY,fp]
  refine⟨h.1,by simp,fun a ha b hb=> ?_⟩
  obtain⟨x,hx,rfl⟩:=dP.1 ha
  simp only[eN,gy,dW]at hb
  have:=h.2 x hx
  omega
 ·rcases eo.1 hx with hx|hx
  ·have:=h.2 x hx;omega
  ·rw[dW.1 hx];omega
theorem Stamps.set{es:List MapEntry}{ck:Nat}(h:Stamps es ck){j:Nat}{e:MapEntry}(hj:es[j]? =some e)(e':MapEntry)(he:e'.born=e.born):Stamps (es.set j e') ck:=by
 have hb:(es.set j e').map (·.born)=es.map (·.born):=by
  rw[je,he]
  apply iF
  intro i
  rw[ja]
  split
  ·rename_i hij
   subst hij
   obtain⟨hlt,hg⟩:=dQ.1 hj
   simp[hlt,hg]
  ·rfl
 refine⟨by rw[hb];exact h.1,fun x hx=> ?_⟩
 have:x.born∈(es.set j e').map (·.born):=gP hx
 rw[hb]at this
 obtain⟨y,hy,hxy⟩:=dP.1 this
 rw[←hxy]
 exact h.2 y hy
theorem Stamps.idx{es:List MapEntry}{ck:Nat}(h:Stamps es ck){j:Nat}{e:MapEntry}(hj:es[j]? =some e):es.findIdx? (fun x=>(x.born:Int)==(e.born:Int))=some j:=by
 obtain⟨hlt,hg⟩:=dQ.1 hj
 rw[List.findIdx?_eq_some_iff_getElem]
 refine⟨hlt,by rw[hg];simp,fun i hi=> ?_⟩
 have h1:=(eQ.1 h.1) i j (by simpa using(by omega:i<es.length)) (by simpa using hlt) hi
 simp only[jm]at h1
 rw[hg]at h1
 simp only[beq_iff_eq,Int.natCast_inj]
 exact Nat.ne_of_lt h1
def OwnAt(P:Program)(H:Heap)(o:Ob):Prop:=
 if o.size=0 then(∃A ty lo ver,jS H A=some (.cells o.cs ty true lo ver)∧lo≤o.cs.length∧o.v=ptr A 0 o.cs.length)∨∃A es ck ver,jS H A=some (.map es ck ver)∧o.cs=mcs es∧o.v=.map (some A)∧Stamps es ck
 else(o.v=.slice none 0 0∧o.cs=[])∨∃A i ty lo ver pre n,jS H A=some (.cells (pre++o.cs) ty true lo ver)∧lo≤i+o.cs.length∧pre.length=i∧o.cs.length=n*o.size∧
  o.v=.slice (some ⟨A,i,some (i+o.cs.length)⟩) n o.size∧jD P ty=some o.size
structure St(P:Program)(H0:Base)(H:Heap)(os:List Ob):Prop where
 len:H0.H.length≤H.length
 old:∀B,B<H0.H.length→¬H0.X B→jS H B=jS H0.H B
 own:∀o∈os,OwnAt P H o
 new:∀o∈os,∀B,kX o.v=some B→H0.H.length≤B∨H0.X B
 sep:os.Pairwise fun o o'=>∀B,kX o.v=some B→kX o'.v≠some B
theorem St.refl(P:Program)(H:Heap):St P H H []:=⟨dG _,fun _ _ _=>rfl,by simp,by simp,.nil⟩
theorem RdAt.ag{H':Heap}{v:Value}{size:Nat}{cs:List Value}(h:RdAt H v size cs)(hk:∀B,B<H.length→jS H' B=jS H B):RdAt H' v size cs:=by
 rcases h with h|⟨A,i,e,row,ty,rw,lo,ver,n,h,h2⟩
 ·exact .inl h
 ·exact .inr ⟨A,i,e,row,ty,rw,lo,ver,n,by rw[hk A (kL h),h],h2⟩
theorem St.ag{H0:Heap}{os:List Ob}(h:St P H0 H os):∀B,B<H0.length→jS H B=jS H0 B:=fun B hB=>h.old B hB (fun h=>h)
theorem St.base{H0:Heap}{os:List Ob}(h:St P H0 H os){v:Value}{size:Nat}{cs:List Value}(hr:RdAt H0 v size cs):RdAt H v size cs:=hr.ag h.ag
theorem OwnAt.lt{o:Ob}(h:OwnAt P H o){B:Nat}(hb:kX o.v=some B):B<H.length:=by
 unfold OwnAt at h
 split at h
 ·rcases h with⟨A,ty,lo,ver,h1,_,h3⟩|⟨A,es,ck,ver,h1,_,h3,_⟩
  ·rw[h3]at hb
   simp[kX]at hb
   exact hb▸kL h1
  ·rw[h3]at hb
   simp[kX]at hb
   exact hb▸kL h1
 ·rcases h with⟨h1,_⟩|⟨A,i,ty,lo,ver,pre,n,h1,_,_,_,h5,_⟩
  ·rw[h1]at hb;simp[kX]at hb
  ·rw[h5]at hb
   simp[kX]at hb
   exact hb▸kL h1
theorem OwnAt.ag{H':Heap}{o:Ob}(h:OwnAt P H o)(hk:∀B,kX o.v=some B→jS H' B=jS H B):OwnAt P H' o:=by
 unfold OwnAt at h ⊢
 split at h
 ·rename_i hz
  rw[if_pos hz]
  rcases h with⟨A,ty,lo,ver,h1,h2,h3⟩|⟨A,es,ck,ver,h1,h2,h3⟩
  ·exact .inl ⟨A,ty,lo,ver,by rw[hk A (by rw[h3];rfl),h1],h2,h3⟩
  ·exact .inr ⟨A,es,ck,ver,by rw[hk A (by rw[h3.1];rfl),h1],h2,h3⟩
 ·rename_i hz
  rw[if_neg hz]
  rcases h with h|⟨A,i,ty,lo,ver,pre,n,h1,h2,h3,h4,h5,h6⟩
  ·exact .inl h
  ·exact .inr ⟨A,i,ty,lo,ver,pre,n,by rw[hk A (by rw[h5];rfl),h1],h2,h3,h4,h5,h6⟩
theorem OwnAt.rd{o:Ob}(h:OwnAt P H o)(hz:o.size≠0):RdAt H o.v o.size o.cs:=by
 unfold OwnAt at h
 rw[if_neg hz]at h
 rcases h with h|⟨A,i,ty,lo,ver,pre,n,h1,h2,h3,h4,h5,h6⟩
 ·exact .inl h
 ·refine .inr ⟨A,i,_,_,ty,true,lo,ver,n,h1,h2,by simp[h3],dG _,?_,h4,h5⟩
  rw[←h3];simp
theorem St.rd{os:List Ob}(h:St P H0 H os)(i:Nat){v:Value}{size:Nat}{cs:List Value}(ho:os[i]? =some ⟨v,size+1,cs⟩):RdAt H v (size+1) cs:=
 (h.own _ (dR ho)).rd (fB _)
def jV(P:Program)(t:TypeId):Option Nat:=(jI P t).bind (jD P)
def jM(P:Program)(s:TypeId)(f:Nat):Option Nat:=(qE P s f).bind fun fd=>(jD P fd.type).bind fun n=>if n==0 then none else some fd.offset
def b0V(o:Option Nat)(P:Program)(H:Heap)(t:TypeId)(v:Value):Option Value:=match o with
 | some _=>(match v with|.slice _ n _=>some (.int .i64 n)|_=>none)
 | none=>a2j P H t v
theorem c4q(t:TypeId)(v:Value):a2j P H t v=b0V (jV P t) P H t v:=by
 unfold b0V
 split
 ·rename_i n hn
  unfold jV jI at hn
  unfold a2j
  split at hn
  ·rename_i e he
   rw[he]
   cases v<;>simp[a0f,goInt]
  ·cases hn
 ·rfl
def xB(o:Option Nat)(P:Program)(t:TypeId)(v i:Value):Option Value:=match o with
 | some s=>(match v,i with|.slice (some ⟨A,i,some e⟩) n _,.int _ j=>if 0≤j&&j<n then some (ptr A (i+j.toNat*s) e)else none|_,_=>none)
 | none=>a3l P t v i
theorem c4E(t:TypeId)(v i:Value):a3l P t v i=xB (jV P t) P t v i:=by
 unfold xB
 split
 ·rename_i n hn
  unfold jV jI at hn
  unfold a3l
  split at hn
  ·rename_i e he
   simp only[dC]at hn
   rw[he]
   cases v with
   | slice a m c=>
     cases a with
     | none=>cases i<;>rfl
     | some a=>
       obtain⟨A,i',s⟩:=a
       cases s with
       | none=>cases i<;>rfl
       | some s=>
         cases i with
         | int k j=>simp only[hn,dC]
         | _=>rfl
   | _=>cases i<;>rfl
  ·cases hn
 ·rfl
def b0e(o:Option Nat)(v:Value):Option Value:=match o,v with
 | some d,.pointer (some ⟨A,i,some e⟩)=>some (ptr A (i+d) e)
 | _,_=>none
theorem c4f(s:TypeId)(f:Nat)(v:Value):a8P P s f v=b0e (jM P s f) v:=by
 unfold a8P jM
 split
 ·cases qE P s f with
  | none=>rfl
  | some fd=>
    simp only[dC]
    cases jD P fd.type with
    | none=>rfl
    | some n=>
      simp only[dC]
      split<;>rfl
 ·rename_i h
  unfold b0e
  split
  ·exact(h _ _ _ rfl).elim
  ·rfl
theorem b8n(d A i e:Nat):b0e (some d) (ptr A i e)=some (ptr A (i+d) e):=rfl
theorem RdAt.len{v:Value}{size:Nat}{cs:List Value}(h:RdAt H v (size+1) cs){n:Nat}(hn:cs.length=n*(size+1))(m:Nat)(t:TypeId):b0V (some m) P H t v=some (.int .i64 n):=by
 have hn':∀m,cs.length=m*(size+1)→m=n:=fun m hm=>fD (fM size) (hm.symm.trans hn)
 rcases h with⟨rfl,rfl⟩|⟨A,i,e,row,ty,rw,lo,ver,m,h1,h2,h3,h4,h5,h6,rfl⟩
 ·have:=hn' 0 (by simp)
  subst this
  rfl
 ·have:=hn' m h6
  subst this
  rfl
theorem RdAt.idx{v:Value}{size:Nat}{cs:List Value}(h:RdAt H v (size+1) cs){n:Nat}(hn:cs.length=n*(size+1))(t:TypeId)(k:IntKind)(j:Int)
 (h0:0≤j) (h1:j<n):xB (some (size+1)) P t v (.int k j)=some (kO v (size+1) j.toNat 0):=by
 have hn':∀m,cs.length=m*(size+1)→m=n:=fun m hm=>fD (fM size) (hm.symm.trans hn)
 rcases h with⟨rfl,rfl⟩|⟨A,i,e,row,ty,rw,lo,ver,m,h2,h3,h4,h5,h6,h7,rfl⟩
 ·have:=hn' 0 (by simp)
  omega
 ·have:=hn' m h7
  subst this
  simp[xB,h0,h1,kO]
theorem RdAt.aZ{v:Value}{size:Nat}{cs:List Value}(h:RdAt H v (size+1) cs)(j:Nat)(hj:j*(size+1)<cs.length)(g d:Nat):b0e (some d) (kO v (size+1) j g)=some (kO v (size+1) j (g+d)):=by
 rcases h with⟨rfl,rfl⟩|⟨A,i,e,row,ty,rw,lo,ver,n,h1,h2,h3,h4,h5,h6,rfl⟩
 ·simp at hj
 ·simp[b0e,kO,gI]
theorem RdAt.get{v:Value}{size:Nat}{cs:List Value}(h:RdAt H v size cs)(j f m:Nat)(hk:j*size+f+m≤cs.length)(hm:0<m):∃A i e,kO v size j f=ptr A i e∧kG H A i e m=some ((cs.drop (j*size+f)).take m):=by
 rcases h with⟨rfl,rfl⟩|⟨A,i,e,row,ty,rw,lo,ver,n,h1,h2,h3,h4,h5,h6,rfl⟩
 ·simp at hk;omega
 ·refine⟨_,_,_,rfl,?_⟩
  simp only[kG,h1]
  rw[if_pos (by simp;omega)]
  congr 1
  conv=>rhs;rw[←h5]
  rw[List.drop_take,List.take_take,gk,ia (by omega)]
  simp[gI]
theorem RdAt.ld{v:Value}{size:Nat}{cs:List Value}(h:RdAt H v size cs)(s:Option Nat)(j f:Nat)(hk:j*size+f<cs.length):oU (some false) s H (kO v size j f)=cs[j*size+f]?:=by
 obtain⟨A,i,e,h1,h2⟩:=h.get j f 1 hk (by omega)
 rw[h1]
 simp only[oU,h2,dC]
 rw[eJ (by omega),ed]
 simp
theorem RdAt.ae{v:Value}{size:Nat}{cs:List Value}(h:RdAt H v size cs)(m j f:Nat)(hk:j*size+f+m≤cs.length)(hm:0<m):oU (some true) (some m) H (kO v size j f)=some (.agg ((cs.drop (j*size+f)).take m).toArray):=by
 obtain⟨A,i,e,h1,h2⟩:=h.get j f m hk hm
 rw[h1]
 simp only[oU,h2,dC,ez]
def Sl1{α:Type}(H:Heap)(v:Value)(mk:α→Value)(xs:List α):Prop:=RdAt H v 1 (xs.map mk)
section
variable {α:Type} {mk:α→Value} {v:Value} {xs:List α}
theorem Sl1.len(h:Sl1 H v mk xs)(m:Nat)(t:TypeId):b0V (some m) P H t v=some (.int .i64 xs.length):=RdAt.len (size:=0) h (by simp) m t
theorem Sl1.idx(h:Sl1 H v mk xs)(t:TypeId)(k:IntKind)(j:Int)(h0:0≤j)(h1:j<xs.length):xB (some 1) P t v (.int k j)=some (kO v 1 j.toNat 0):=RdAt.idx (size:=0) h (by simp) t k j h0 h1
theorem Sl1.ld(h:Sl1 H v mk xs)(d:α)(s:Option Nat)(j:Nat)(hj:j<xs.length):oU (some false) s H (kO v 1 j 0)=some (mk (xs.getD j d)):=by
 rw[RdAt.ld h s j 0 (by simpa using hj)]
 simp[dE,hj]
end
def Sl2{α:Type}(H:Heap)(v:Value)(f g:α→Value)(xs:List α):Prop:=RdAt H v 2 (xs.flatMap fun x=>[f x,g x])
theorem qI{α:Type}(f g:α→Value)(xs:List α):(xs.flatMap fun x=>[f x,g x]).length=xs.length*2:=by
 induction xs with
 | nil=>rfl
 | cons x xs ih=>simp[ec,ih];omega
theorem a3h{α:Type}(f g:α→Value):∀(xs:List α)(j:Nat),(xs.flatMap fun x=>[f x,g x]).drop (j*2)=(xs.drop j).flatMap fun x=>[f x,g x]
 | [],j=>by simp
 | x::xs,0=>rfl
 | x::xs,j+1=>by
   rw[gJ]
   simp only[ec,gr,fH,ik]
   exact a3h f g xs j
section
variable {α:Type} {f g:α→Value} {v:Value} {xs:List α}
theorem Sl2.len(h:Sl2 H v f g xs)(m:Nat)(t:TypeId):b0V (some m) P H t v=some (.int .i64 xs.length):=RdAt.len (size:=1) h (qI f g xs) m t
theorem Sl2.idx(h:Sl2 H v f g xs)(t:TypeId)(k:IntKind)(j:Int)(h0:0≤j)(h1:j<xs.length):xB (some 2) P t v (.int k j)=some (kO v 2 j.toNat 0):=RdAt.idx (size:=1) h (qI f g xs) t k j h0 h1
theorem Sl2.aZ(h:Sl2 H v f g xs)(j:Nat)(hj:j<xs.length)(g d:Nat):b0e (some d) (kO v 2 j g)=some (kO v 2 j (g+d)):=RdAt.aZ (size:=1) h j (by rw[qI];omega) g d
theorem Sl2.drop(j:Nat)(hj:j<xs.length)(d:α):(xs.flatMap fun x=>[f x,g x]).drop (j*2)=f (xs.getD j d)::g (xs.getD j d)::((xs.drop (j+1)).flatMap fun x=>[f x,g x]):=by
 rw[a3h,ga hj]
 have e:xs.getD j d=xs[j]:=by simp[dE,hj]
 rw[e]
 rfl
theorem Sl2.ld1(h:Sl2 H v f g xs)(d:α)(s:Option Nat)(j:Nat)(hj:j<xs.length):oU (some false) s H (kO v 2 j 1)=some (g (xs.getD j d)):=by
 rw[RdAt.ld h s j 1 (by rw[qI];omega)]
 have:=Sl2.drop (f:=f) (g:=g) j hj d
 have h2:((xs.flatMap fun x=>[f x,g x]).drop (j*2))[1]? =some (g (xs.getD j d)):=by rw[this];rfl
 rwa [ed]at h2
theorem Sl2.ae(h:Sl2 H v f g xs)(d:α)(j:Nat)(hj:j<xs.length):oU (some true) (some 2) H (kO v 2 j 0)=some (.agg #[f (xs.getD j d),g (xs.getD j d)]):=by
 rw[RdAt.ae h 2 j 0 (by rw[qI];omega) (by omega)]
 have:=Sl2.drop (f:=f) (g:=g) j hj d
 rw[iu,this]
 rfl
end
theorem St.cell{os:List Ob}(hS:St P H0 H os)(i:Nat){A n:Nat}{cs:List Value}(ho:os[i]? =some ⟨ptr A 0 n,0,cs⟩):n=cs.length∧∃ty lo ver,jS H A=some (.cells cs ty true lo ver)∧lo≤cs.length:=by
 have:=hS.own _ (dR ho)
 unfold OwnAt at this
 rw[if_pos rfl]at this
 rcases this with this|⟨_,_,_,_,_,_,h,_⟩
 case inr=>cases h
 obtain⟨A',ty,lo,ver,h1,h2,h3⟩:=this
 simp only[ptr,Value.pointer.injEq,ee,jr,true_and]at h3
 obtain⟨rfl,rfl⟩:=h3
 exact⟨rfl,ty,lo,ver,h1,h2⟩
theorem St.ld{os:List Ob}(hS:St P H0 H os)(i:Nat){A n:Nat}{cs:List Value}(ho:os[i]? =some ⟨ptr A 0 n,0,cs⟩)(s:Option Nat)(off:Nat):oU (some false) s H (ptr A off n)=cs[off]?:=by
 obtain⟨rfl,ty,lo,ver,h1,h2⟩:=hS.cell i ho
 simp only[oU,kG,h1]
 by_cases h:off<cs.length
 ·rw[if_pos (by simp;omega)]
  simp only[dC]
  rw[eJ (by omega),ed]
  simp
 ·rw[if_neg (by simp;omega),fm (by omega)]
  rfl
theorem St.ae{os:List Ob}(hS:St P H0 H os)(i:Nat){A n:Nat}{cs:List Value}(ho:os[i]? =some ⟨ptr A 0 n,0,cs⟩)(m off:Nat):oU (some true) (some m) H (ptr A off n)=if off+m≤cs.length then some (.agg ((cs.drop off).take m).toArray)else none:=by
 obtain⟨rfl,ty,lo,ver,h1,h2⟩:=hS.cell i ho
 simp only[oU,kG,h1,dC]
 by_cases h:off+m≤cs.length
 ·rw[if_pos (by simp;omega),if_pos h]
  rfl
 ·rw[if_neg (by simp;omega),if_neg h]
  rfl
theorem St.put{H1:Heap}{os:List Ob}(hS:St P H0 H os)(i:Nat){o o':Ob}(ho:os[i]? =some o)(hown:OwnAt P H1 o')(hlen:H.length≤H1.length)(hk:∀B,B<H.length→kX o.v≠some B→jS H1 B=jS H B)
 (hb:∀B,kX o'.v=some B→kX o.v=some B∨H.length≤B):St P H0 H1 (os.set i o'):=by
 have hi:i<os.length:=(dQ.1 ho).1
 have hoi:os[i]=o:=(dQ.1 ho).2
 have hpw:=eQ.1 hS.sep
 have hne:∀j(hj:j<os.length),j≠i→∀B,kX os[j].v=some B→kX o.v≠some B:=by
  intro j hj hji B hB hB2
  rcases gU hji with h|h
  ·exact hpw j i hj hi h B hB (hoi▸hB2)
  ·exact hpw i j hi hj h B (hoi▸hB2) hB
 have ho0:∀B,kX o.v=some B→H0.H.length≤B∨H0.X B:=hS.new o (dR ho)
 refine⟨dZ hS.len hlen,?_,?_,?_,?_⟩
 ·intro B hB hX
  rw[hk B (eH hB hS.len) (fun h=>by
   rcases ho0 B h with h|h
   ·omega
   ·exact hX h),hS.old B hB hX]
 ·intro x hx
  rw[eF]at hx
  obtain⟨j,hj,rfl⟩:=hx
  rw[List.length_set]at hj
  rw[jo]
  split
  ·exact hown
  ·rename_i hij
   have hox:OwnAt P H os[j]:=hS.own _ (gR hj)
   exact hox.ag fun B hB=>hk B (hox.lt hB) (hne j hj (fun h=>hij h.symm) B hB)
 ·intro x hx B hB
  rw[eF]at hx
  obtain⟨j,hj,rfl⟩:=hx
  rw[List.length_set]at hj
  rw[jo]at hB
  split at hB
  ·rcases hb B hB with h|h
   ·exact ho0 B h
   ·exact .inl (dZ hS.len h)
  ·exact hS.new _ (gR hj) B hB
 ·rw[eQ]
  intro j k hj hk' hjk B
  rw[List.length_set]at hj hk'
  rw[jo,jo]
  have hlt:∀j(hj:j<os.length)B,kX os[j].v=some B→B<H.length:=fun j hj B hB=>(hS.own _ (gR hj)).lt hB
  split
  ·rename_i hij
   split
   ·omega
   ·intro h1 h2
    rcases hb B h1 with h|h
    ·exact hne k hk' (by omega) B h2 h
    ·have:=hlt k hk' B h2;omega
  ·rename_i hij
   split
   ·intro h1 h2
    rcases hb B h2 with h|h
    ·exact hne j hj (by omega) B h1 h
    ·have:=hlt j hj B h1;omega
   ·exact hpw j k hj hk' hjk B
theorem St.add{H1:Heap}{os:List Ob}(hS:St P H0 H os){o:Ob}(hown:OwnAt P H1 o)(hlen:H.length≤H1.length)(hk:∀B,B<H.length→jS H1 B=jS H B)(hb:∀B,kX o.v=some B→H.length≤B):St P H0 H1 (os++[o]):=by
 refine⟨dZ hS.len hlen,fun B hB hX=>by rw[hk B (eH hB hS.len),hS.old B hB hX],?_,?_,?_⟩
 ·intro x hx
  rcases eo.1 hx with hx|hx
  ·exact(hS.own x hx).ag fun B hB=>hk B ((hS.own x hx).lt hB)
  ·obtain rfl:=dW.1 hx
   exact hown
 ·intro x hx B hB
  rcases eo.1 hx with hx|hx
  ·exact hS.new x hx B hB
  ·obtain rfl:=dW.1 hx
   exact .inl (dZ hS.len (hb B hB))
 ·rw[fp]
  refine⟨hS.sep,List.pairwise_singleton _ _,fun x hx y hy B h1 h2=> ?_⟩
  obtain rfl:=dW.1 hy
  have:=(hS.own x hx).lt h1
  have:=hb B h2
  omega
theorem St.trans{H1:Heap}{os os1:List Ob}(hS:St P H0 H os)(h1:St P H H1 os1):St P H0 H1 (os++os1):=by
 refine⟨dZ hS.len h1.len,fun B hB hX=>by rw[h1.ag B (eH hB hS.len),hS.old B hB hX],?_,?_,?_⟩
 ·intro x hx
  rcases eo.1 hx with hx|hx
  ·exact(hS.own x hx).ag fun B hB=>h1.ag B ((hS.own x hx).lt hB)
  ·exact h1.own x hx
 ·intro x hx B hB
  rcases eo.1 hx with hx|hx
  ·exact hS.new x hx B hB
  ·rcases h1.new x hx B hB with h|h
   ·exact .inl (dZ hS.len h)
   ·exact h.elim
 ·rw[fp]
  refine⟨hS.sep,h1.sep,fun x hx y hy B e1 e2=> ?_⟩
  have:=(hS.own x hx).lt e1
  rcases h1.new y hy B e2 with h|h
  ·have h:H.length≤B:=h
   omega
  ·exact h.elim
def tE(os:List Ob):Nat→Prop:=fun A=>∃o∈os,kX o.v=some A
theorem St.aR{os:List Ob}(hS:St P H0 H os):St P ⟨H,tE os⟩ H os:=
 ⟨dG _,fun _ _ _=>rfl,hS.own,fun o ho B hB=>.inr ⟨o,ho,hB⟩,hS.sep⟩
theorem St.bG{H1:Heap}{os os1:List Ob}(hS:St P H0 H os)(h1:St P ⟨H,tE os⟩ H1 os1):St P H0 H1 os1:=by
 refine⟨dZ hS.len h1.len,?_,h1.own,?_,h1.sep⟩
 ·intro B hB hX
  rw[h1.old B (eH hB hS.len) ?_,hS.old B hB hX]
  rintro⟨o,ho,hb⟩
  rcases hS.new o ho B hb with h|h
  ·omega
  ·exact hX h
 ·intro o ho B hB
  rcases h1.new o ho B hB with h|⟨o',ho',hb⟩
  ·exact .inl (dZ hS.len h)
  ·exact hS.new o' ho' B hb
theorem St.other{H1:Heap}{os os1:List Ob}(h1:St P ⟨H,tE os⟩ H1 os1){L:Nat}(hL:L<H.length)(hn:∀o∈os,kX o.v≠some L):jS H1 L=jS H L:=
 h1.old L hL fun⟨o,ho,hb⟩=>hn o ho hb
theorem St.sub{os os':List Ob}(hS:St P H0 H os)(h:os'.Sublist os):St P H0 H os':=
 ⟨hS.len,hS.old,fun o ho=>hS.own o (h.subset ho),fun o ho=>hS.new o (h.subset ho),hS.sep.sublist h⟩
theorem St.forget{os:List Ob}(hS:St P H0 H os):St P H0 H []:=hS.sub (List.nil_sublist _)
theorem OwnAt.nil(size:Nat):OwnAt P H ⟨.slice none 0 0,size+1,[]⟩:=by
 unfold OwnAt
 rw[if_neg (fB _)]
 exact .inl ⟨rfl,rfl⟩
theorem St.nil{os:List Ob}(hS:St P H0 H os)(size:Nat):St P H0 H (os++[⟨.slice none 0 0,size+1,[]⟩]):=
 hS.add (.nil size) (dG _) (fun _ _=>rfl) (fun B hB=>by simp[kX]at hB)
end
end Go.Ds
namespace Go.Ds
noncomputable section
variable {P:Program} {H0:Base} {H:Heap} {os:List Ob}
theorem lQ:∀(vs cs:List Value)(i:Nat),(kD cs i vs).length=cs.length
 | [],_,_=>rfl
 | v::vs,cs,i=>by rw[kD,lQ vs,oO,List.length_set]
theorem sZ:∀(vs pre cs:List Value)(i:Nat),kD (pre++cs) (pre.length+i) vs=pre++kD cs i vs
 | [],_,_,_=>rfl
 | v::vs,pre,cs,i=>by
   rw[kD,kD,oO,oO,fL _ _ (by omega),fE,gI]
   exact sZ vs pre _ _
theorem sH(cs:List Value)(i:Nat)(v:Value)(vs:List Value):kD cs i (v::vs)=kD (cs.set i v) (i+1) vs:=by rw[kD,oO]
theorem yD(cs:List Value)(i:Nat):kD cs i []=cs:=rfl
theorem rT{A B:Nat}{b:Blk}(h:A≠B):jS (hset H A b) B=jS H B:=kC b h
theorem St.eNew(hS:St P H0 H os){t:TypeId}{v:Value}(n:Nat)(cs:List Value){K:Value→Heap→Prop}(hc:v.cells.toList=cs)(hn:cs.length=n)(h1:cs.all oneCell=true)(hs:jD P t=some n)
 (h:∀A H1,St P H0 H1 (os++[⟨ptr A 0 n,0,cs⟩])→K (ptr A 0 n) H1):a7R P H t v K:=by
 subst hn
 refine⟨ptr H.length 0 cs.length,H.cons (.cells cs t true cs.length 0),?_,h _ _ (hS.add ?_ ?_ ?_ ?_)⟩
 ·simp only[zS,hc,h1,hs,BEq.rfl,Bool.and_self,if_true,mR]
 ·unfold OwnAt
  rw[if_pos rfl]
  exact .inl ⟨_,t,_,0,jP H _,dG _,rfl⟩
 ·simp[rD]
 ·exact fun B hB=>kS _ hB
 ·intro B hB
  simp[kX]at hB
  omega
theorem St.aa(hS:St P H0 H os)(i:Nat){A n:Nat}{cs:List Value}(ho:os[i]? =some ⟨ptr A 0 n,0,cs⟩){off:Nat}{t:TypeId}{v:Value}{K:Heap→Prop}(vs:List Value)(hc:v.cells.toList=vs)(h1:vs.all oneCell=true)
 (hs:jD P t=some vs.length) (hoff:off+vs.length≤cs.length) (h:∀H1,St P H0 H1 (os.set i ⟨ptr A 0 n,0,kD cs off vs⟩)→K H1):a1u P H t (ptr A off n) v K:=by
 obtain⟨rfl,ty,lo,ver,h2,h3⟩:=hS.cell i ho
 refine⟨hset H A (.cells (kD cs off vs) ty true cs.length ver),?_,h _ (hS.put i ho ?_ ?_ ?_ ?_)⟩
 ·simp only[tC,h2,hc]
  rw[if_pos ⟨hs,h1,by trivial,hoff,h3⟩]
 ·unfold OwnAt
  rw[if_pos rfl]
  refine .inl ⟨A,ty,_,_,jQ _ (kL h2),?_,?_⟩
  ·simp[lQ]
  ·simp[lQ]
 ·rw[kN];exact dG _
 ·intro B hB hne
  refine rT fun hh=>hne ?_
  simp[kX,hh]
 ·intro B hB
  exact .inl hB
theorem St.ba(hS:St P H0 H os)(i:Nat){s:Value}{size:Nat}{cs:List Value}(ho:os[i]? =some ⟨s,size+1,cs⟩){j f:Nat}{t:TypeId}{v:Value}{K:Heap→Prop}(vs:List Value)(hc:v.cells.toList=vs)(h1:vs.all oneCell=true)
 (hs:jD P t=some vs.length) (h0:0<vs.length) (hoff:j*(size+1)+f+vs.length≤cs.length) (h:∀H1,St P H0 H1 (os.set i ⟨s,size+1,kD cs (j*(size+1)+f) vs⟩)→K H1):a1u P H t (kO s (size+1) j f) v K:=by
 have hown:=hS.own _ (dR ho)
 unfold OwnAt at hown
 rw[if_neg (fB _)]at hown
 rcases hown with⟨h2,h3⟩|⟨A,k,ty,lo,ver,pre,n,h2,h3,h4,h5,h6,h7⟩
 ·simp only at h3;subst h3;simp only[eT]at hoff;omega
 ·simp only at h2 h3 h5 h6
  refine⟨hset H A (.cells (kD (pre++cs) (k+j*(size+1)+f) vs) ty true (pre++cs).length ver),?_,h _ (hS.put i ho ?_ ?_ ?_ ?_)⟩
  ·simp only[tC,kO,h6,h2,hc]
   rw[if_pos ⟨hs,h1,by simp[h4],by omega,h3⟩]
  ·unfold OwnAt
   rw[if_neg (fB _)]
   refine .inr ⟨A,k,ty,(pre++cs).length,ver,pre,n,?_,?_,h4,?_,?_,h7⟩
   ·rw[jQ _ (kL h2),←h4,gI,sZ]
   ·simp[lQ,h4]
   ·simp only[lQ];exact h5
   ·simp only[lQ];exact h6
  ·rw[kN];exact dG _
  ·intro B hB hne
   refine rT fun hh=>hne ?_
   simp[kX,h6,hh]
  ·intro B hB
   exact .inl hB
def nX(P:Program)(t:TypeId):Option (Nat×Nat):=
 (jI P t).bind fun elem=>(jD P elem).bind fun size=>(pF P elem).bind fun bytes=>(kB P elem).bind fun z=>if z.cells.size==size then some (size,bytes)else none
theorem RdAt.src{x:Value}{size:Nat}{ys:List Value}(h:RdAt H x (size+1) ys):∃n,ys.length=n*(size+1)∧a1K H (size+1) x=some (n,ys):=by
 rcases h with⟨rfl,rfl⟩|⟨A,i,e,row,ty,rw,lo,ver,n,h1,h2,h3,h4,h5,h6,rfl⟩
 ·exact⟨0,by simp,rfl⟩
 ·refine⟨n,h6,?_⟩
  simp only[a1K,kG,h1]
  rw[←h6,if_pos (by simp;omega),h5]
  rfl
theorem St.aq(hS:St P H0 H os)(i:Nat){s:Value}{size:Nat}{cs:List Value}(ho:os[i]? =some ⟨s,size+1,cs⟩){x:Value}{ys:List Value}(hx:RdAt H x (size+1) ys){t:TypeId}{bytes:Nat}{K:Value→Heap→Prop}
 (ha:nX P t=some (size+1,bytes)) (hroom:(cs.length+ys.length)*(bytes+1)≤17592186044416) (h:∀v H1,St P H0 H1 (os.set i ⟨v,size+1,cs++ys⟩)→K v H1):a0P P H t s x K:=by
 unfold nX at ha
 cases he:jI P t with
 | none=>rw[he]at ha;cases ha
 | some elem=>
 rw[he]at ha
 simp only[dC]at ha
 cases hsz:jD P elem with
 | none=>rw[hsz]at ha;cases ha
 | some sz=>
 rw[hsz]at ha
 simp only[dC]at ha
 cases hby:pF P elem with
 | none=>rw[hby]at ha;cases ha
 | some by'=>
 rw[hby]at ha
 simp only[dC]at ha
 cases hz:kB P elem with
 | none=>rw[hz]at ha;cases ha
 | some z=>
 rw[hz]at ha
 simp only[dC]at ha
 split at ha
 case isFalse=>cases ha
 rename_i hzs
 simp only[ee,iE]at ha
 obtain⟨rfl,rfl⟩:=ha
 obtain⟨n,hn,hsrc⟩:=hx.src
 have hn':n≤ys.length:=by rw[hn];exact il n (fM size)
 have hown:=hS.own _ (dR ho)
 unfold OwnAt at hown
 rw[if_neg (fB _)]at hown
 rcases hown with⟨h2,h3⟩|⟨A,k,ty,lo,ver,pre,m,h2,h3,h4,h5,h6,h7⟩
 ·simp only at h2 h3
  subst h2 h3
  by_cases h0:n=0
  ·subst h0
   have hys:ys=[]:=gf (by omega)
   subst hys
   refine⟨.slice none 0 0,H,?_,h _ _ ?_⟩
   ·simp only[pB,he,hsz,hby,hz,dC,hsrc]
    simp[hzs,qR]
   ·obtain⟨hi,hoi⟩:=dQ.1 ho
    have e:os.set i ⟨.slice none 0 0,size+1,[]++[]⟩=os:=by
     rw[dO,←hoi,gX]
    rw[e]
    exact hS
  ·refine⟨_,H.cons (.cells ys elem true ys.length 0),?_,h (.slice (some ⟨H.length,0,some ys.length⟩) n (size+1)) _ (hS.put i ho ?_ ?_ ?_ ?_)⟩
   ·simp only[pB,he,hsz,hby,hz,dC,hsrc]
    have hr:n*(by'+1)≤qR:=by
     refine dZ (eP _ ?_) hroom
     omega
    simp[hzs,hr,h0,mR]
   ·unfold OwnAt
    rw[if_neg (fB _)]
    exact .inr ⟨_,0,elem,_,0,[],n,jP H _,by simp,rfl,by simpa using hn,by simp,hsz⟩
   ·simp[rD]
   ·exact fun B hB _=>kS _ hB
   ·intro B hB
    simp[kX]at hB
    omega
 ·simp only at h2 h3 h5 h6
  refine⟨_,hset H A (.cells (pre++cs++ys) ty true lo (if ty==elem then ver else 2)),?_,h (.slice (some ⟨A,k,some (k+cs.length+ys.length)⟩) (m+n) (size+1)) _ (hS.put i ho ?_ ?_ ?_ ?_)⟩
  ·have hr:(m+n)*(by'+1)≤qR:=by
    refine dZ (eP _ ?_) hroom
    have:m≤cs.length:=by rw[h5];exact il m (fM size)
    omega
   simp only[pB,he,hsz,hby,hz,dC,hsrc,h6,h2]
   rw[if_pos]
   ·simp[a0C]
   ·have h3':lo≤k+m*(size+1):=by rw[←h5];exact h3
    simp[hr,hzs,h7,h4,h3',h5]
  ·unfold OwnAt
   rw[if_neg (fB _)]
   refine .inr ⟨A,k,ty,lo,(if ty==elem then ver else 2),pre,m+n,?_,?_,h4,?_,?_,h7⟩
   ·rw[jQ _ (kL h2),ef]
   ·simp;omega
   ·simp[fV,h5,hn]
   ·simp[gI]
  ·rw[kN];exact dG _
  ·intro B hB hne
   refine rT fun hh=>hne ?_
   simp[kX,h6,hh]
  ·intro B hB
   simp[kX]at hB
   left
   simp[kX,h6,hB]
theorem a5t(off:Nat):∀(vs:List Value)(k:Nat)(a:Array Value),((vs.zipIdx k).foldl (fun cs(x:Value×Nat)=>cs.setIfInBounds (off+x.2) x.1) a).toList=kD a.toList (off+k) vs
 | [],_,_=>rfl
 | v::vs,k,a=>by
   rw[List.zipIdx_cons,fN,a5t off vs (k+1),sH]
   simp[gI]
theorem nG:∀(vs pre rest:List Value),vs.length≤rest.length→kD (pre++rest) pre.length vs=pre++vs++rest.drop vs.length
 | [],pre,rest,_=>by simp[kD]
 | v::vs,pre,[],h=>by simp at h
 | v::vs,pre,r::rest,h=>by
   rw[sH,fL _ _ (dG _),jf,gV]
   have:=nG vs (pre++[v]) rest (by simpa using h)
   simp only[ef,gr,fH,dM,eL,eT,fZ]at this
   simpa using this
theorem a5z(size:Nat):∀(ps:List (Nat×Value))(k:Nat)(pre rest:List Value),pre.length=k*size→rest.length=ps.length*size→ps.map (·.1)=List.range' k ps.length→(∀p∈ps,p.2.cells.size=size)→
 Instr.fill (fun i=>some (i*size,size)) (pre++rest).toArray ps=some (pre++ps.flatMap fun p=>p.2.cells.toList).toArray
 | [],k,pre,rest,_,h2,_,_=>by
   have:rest=[]:=gf (by simpa using h2)
   subst this
   simp[Instr.fill]
 | (i,v)::ps,k,pre,rest,h1,h2,h3,h4=>by
   simp only[eN,eL,iQ,fG]at h3
   obtain⟨rfl,h3⟩:=h3
   have hv:v.cells.size=size:=h4 (i,v) (eW ..)
   have hrl:v.cells.toList.length≤rest.length:=by
    rw[h2];simp[hv,fV]
   simp only[Instr.fill]
   rw[if_neg (by
    simp only[hv,ne_eq,not_true_eq_false,decide_false,Bool.false_or,gb,dM,h1,h2,eL,fV]
    simp)]
   have e:(v.cells.zipIdx.foldl (fun cs x=>cs.setIfInBounds (i*size+x.2) x.1) (pre++rest).toArray)=(pre++v.cells.toList++rest.drop v.cells.toList.length).toArray:=by
    apply Array.toList_inj.1
    rw[←iY,Array.toList_zipIdx,a5t,iu,←h1,nG _ _ _ hrl]
   have e':(v.cells.zipIdx.foldl (fun cs(c,j)=>cs.setIfInBounds (i*size+j) c) (pre++rest).toArray)=(pre++v.cells.toList++rest.drop v.cells.toList.length).toArray:=e
   rw[e',a5z size ps (i+1) (pre++v.cells.toList) _ (by simp[h1,hv,fV]) (by simp[h2,hv,fV]) h3 (fun p hp=>h4 p (eX _ hp))]
   simp
theorem St.aj(hS:St P H0 H os){t:TypeId}{len:Nat}{ps:List (Nat×Value)}{size bytes:Nat}(cs:List Value){K:Value→Heap→Prop}(ha:nX P t=some (size+1,bytes))(hz:((jI P t).bind (kB P)).any kE=true)
 (hp:ps.map (·.1)=List.range' 0 ps.length) (hl:len=ps.length) (hsz:∀p∈ps,p.2.cells.size=size+1) (hcs:ps.flatMap (fun p=>p.2.cells.toList)=cs) (h1:cs.all oneCell=true) (h0:len*(size+1)≤16777216) (hne:len≠0)
 (h:∀v H1,St P H0 H1 (os++[⟨v,size+1,cs⟩])→K v H1):uW P H t len ps K:=by
 subst hl
 unfold nX at ha
 cases he:jI P t with
 | none=>rw[he]at ha;cases ha
 | some elem=>
 rw[he]at ha hz
 simp only[dC]at ha hz
 cases hsz2:jD P elem with
 | none=>rw[hsz2]at ha;cases ha
 | some sz=>
 rw[hsz2]at ha
 simp only[dC]at ha
 cases hby:pF P elem with
 | none=>rw[hby]at ha;cases ha
 | some by'=>
 rw[hby]at ha
 simp only[dC]at ha
 cases hz2:kB P elem with
 | none=>rw[hz2]at ha;cases ha
 | some z=>
 rw[hz2]at ha hz
 simp only[dC,Option.any_some]at ha hz
 split at ha
 case isFalse=>cases ha
 rename_i hzs
 simp only[ee,iE]at ha
 obtain⟨rfl,rfl⟩:=ha
 have hlen:cs.length=ps.length*(size+1):=by
  rw[←hcs,List.length_flatMap]
  have:ps.map (fun p=>p.2.cells.toList.length)=ps.map (fun _=>size+1):=List.map_congr_left fun p hp=>by simpa using hsz p hp
  rw[this,List.map_const']
  simp
 have hall:ps.all (fun x=>x.2.cells.toList.all oneCell)=true:=by
  rw[←hcs]at h1
  rw[List.all_flatMap]at h1
  exact h1
 refine⟨.slice (some ⟨H.length,0,some cs.length⟩) ps.length (size+1),H.cons (.cells cs elem true cs.length 0),?_,h _ _ (hS.add ?_ ?_ ?_ ?_)⟩
 ·unfold a1e
  simp only[he,hsz2,hz2,dC]
  rw[if_neg (by simp[hne]),if_pos (by
   simp only[hz,hall,hzs,gj,gm,dB,decide_eq_true_eq,bne_iff_ne,ne_eq]
   exact⟨h0,Nat.mul_ne_zero hne (fB _)⟩)]
  have hf:=a5z (size+1) ps 0 [] ((Array.range (ps.length*(size+1))).map (z.cells[·%z.cells.size]!)).toList (by simp) (by simp) hp hsz
  simp only[fH,Array.toArray_toList]at hf
  rw[hf,hcs]
  simp[mR]
 ·unfold OwnAt
  rw[if_neg (fB _)]
  exact .inr ⟨_,0,elem,_,0,[],ps.length,jP H _,by simp,rfl,hlen,by simp,hsz2⟩
 ·simp[rD]
 ·exact fun B hB=>kS _ hB
 ·intro B hB
  simp[kX]at hB
  omega
def c6V(P:Program)(t:TypeId):Option (Nat×Value):=
 (jI P t).bind fun elem=>(jD P elem).bind fun size=>(pF P elem).bind fun bytes=>(kB P elem).bind fun z=>if size==1&&z.cells.size==1&&kE z then some (bytes,z.cells[0]!)else none
theorem St.cB(hS:St P H0 H os){t:TypeId}{bytes:Nat}{z:Value}{K:Value→Heap→Prop}(a:Nat)(ha:c6V P t=some (bytes,z))(hroom:a*(bytes+1)≤17592186044416)
 (h:∀v H1,St P H0 H1 (os++[⟨v,1,List.replicate a z⟩])→K v H1):tF P H t (.int .i64 a) (.int .i64 a) K:=by
 unfold c6V at ha
 cases he:jI P t with
 | none=>rw[he]at ha;cases ha
 | some elem=>
 rw[he]at ha
 simp only[dC]at ha
 cases hsz2:jD P elem with
 | none=>rw[hsz2]at ha;cases ha
 | some sz=>
 rw[hsz2]at ha
 simp only[dC]at ha
 cases hby:pF P elem with
 | none=>rw[hby]at ha;cases ha
 | some by'=>
 rw[hby]at ha
 simp only[dC]at ha
 cases hz2:kB P elem with
 | none=>rw[hz2]at ha;cases ha
 | some z'=>
 rw[hz2]at ha
 simp only[dC]at ha
 split at ha
 case isFalse=>cases ha
 rename_i hzs
 simp only[dB,beq_iff_eq]at hzs
 obtain⟨⟨rfl,hz1⟩,hfl⟩:=hzs
 simp only[ee,iE]at ha
 obtain⟨rfl,rfl⟩:=ha
 refine⟨.slice (some ⟨H.length,0,some a⟩) a 1,H.cons (.cells (List.replicate a z'.cells[0]!) elem true a 0),?_,h _ _ (hS.add ?_ ?_ ?_ ?_)⟩
 ·unfold zY
  simp only[he,hsz2,hby,hz2,dC]
  rw[if_pos]
  ·simp[mR]
  ·have:(a:Int)*(by'+1)≤(qR:Int):=by
    have h3:((a*(by'+1):Nat):Int)≤((17592186044416:Nat):Int):=Int.ofNat_le.2 hroom
    simpa [qR]using h3
   simp[hfl,hz1,this]
 ·unfold OwnAt
  rw[if_neg (by simp)]
  exact .inr ⟨_,0,elem,_,0,[],a,jP H _,by simp,rfl,by simp,by simp,hsz2⟩
 ·simp[rD]
 ·exact fun B hB=>kS _ hB
 ·intro B hB
  simp[kX]at hB
  omega
def Fn(P:Program)(k:FuncId)(args:List Value)(H:Heap)(R:Value→Heap→Prop):Prop:=pD P k∧∃v H1,CallOk P k args H v H1∧R v H1
theorem jG{k:FuncId}{args:List Value}{R K:Value→Heap→Prop}(h:Fn P k args H R)(hk:∀v H1,R v H1→K v H1):tM P k args H K:=by
 obtain⟨h1,v,H1,h2,h3⟩:=h
 exact⟨v,H1,h1,h2,hk v H1 h3⟩
def a1J(P:Program)(fn:Func)(R:Value→Heap→Prop):oH:=fun e l H=>(e=.normal∨e=.ret)∧kP (jC P fn l H) fun v=>R v H
theorem a9F(fn:Func)(R:Value→Heap→Prop)(l:List Value):a1J P fn R .normal l H=kP (jC P fn l H) fun v=>R v H:=by simp[a1J]
theorem b9p(fn:Func)(R:Value→Heap→Prop)(l:List Value):a1J P fn R .ret l H=kP (jC P fn l H) fun v=>R v H:=by simp[a1J]
theorem Fn.of_wp{k:FuncId}{fn:Func}{c:Code}{args:List Value}{R:Value→Heap→Prop}(hf:P.funcs[k]? =some fn)(hb:fn.body=some c)(hn:(fn.name== "runtime.NumGoroutine")=false)
 (h:∀l,l=args++List.replicate (fn.ntmps-args.length) undef→Wp P c l H (a1J P fn R)):Fn P k args H R:=by
 refine⟨⟨fn,hf,by simp[hb],hn⟩,?_⟩
 refine CallOk.of_wp hf hb hn ((h _ rfl).mono ?_)
 rintro e l H1⟨h1,h2⟩
 refine⟨h1,?_⟩
 unfold kP at h2
 split at h2
 ·rename_i v hv;exact⟨v,hv,h2⟩
 ·exact h2.elim
theorem Fn.mono{k:FuncId}{args:List Value}{R R':Value→Heap→Prop}(h:Fn P k args H R)(hr:∀v H1,R v H1→R' v H1):Fn P k args H R':=by
 obtain⟨h1,v,H1,h2,h3⟩:=h
 exact⟨h1,v,H1,h2,hr _ _ h3⟩
theorem RdAt.cells{v:Value}{size:Nat}{cs:List Value}(h:RdAt H v size cs):v.cells=#[v]∧oneCell v=true∧nE v=true:=by
 rcases h with⟨rfl,_⟩|⟨A,i,e,row,ty,rw,lo,ver,n,h1,h2,h3,h4,h5,h6,rfl⟩<;>exact⟨rfl,rfl,rfl⟩
theorem b2z{f:Value}{args:List Value}{K K':Value→Heap→Prop}(h:uL P f args H K)(hk:∀v H1,K v H1→K' v H1):uL P f args H K':=by
 unfold uL at h ⊢
 split at h
 ·obtain⟨v,H1,h1,h2,h3⟩:=h
  exact⟨v,H1,h1,h2,hk _ _ h3⟩
 ·obtain⟨v,H1,h1,h2⟩:=h
  exact⟨v,H1,h1,hk _ _ h2⟩
 ·exact h.elim
def vP(z:Option Nat)(x:Value)(lo hi:Option Value):Option Value:=
 z.bind fun size=>match x with
 | .slice (some ⟨A,i,some e⟩) n c=>
   (match hi with|some h=>xR h|none=>some n).bind fun h=>
   (match lo with|some l=>xR l|none=>some 0).bind fun l=>
   if l≤h&&h≤n&&c==size then some (.slice (some ⟨A,i+l*size,some e⟩) (h-l) size)else none
 | _=>none
theorem a5w(t:TypeId)(x:Value)(lo hi:Option Value):a0r P t x lo hi=vP (jV P t) x lo hi:=by
 unfold a0r vP jV
 cases jI P t with
 | none=>rfl
 | some e=>rfl
def pK(P:Program)(o:Oper)(l:List Value)(H:Heap)(z:Option Nat)(v:Value)(lo hi:Option Value)(K:Value→Heap→Prop)(_k:Keep K:=⟨⟩):Prop:=match z with
 | none=>kY (opD P o l H) K
 | some s=>if flat v then kY (opD P o l H) K else kP (vP (some s) v lo hi) fun v=>K v H
theorem a2D{t:TypeId}{s:Nat}(h:jV P t=some s):kR P t=none:=by
 unfold jV at h
 cases he:jI P t with
 | none=>rw[he]at h;cases h
 | some e=>simp[kR,lB he]
theorem b5s(d ty pos af g)(t:TypeId)(x:Operand)(lo hi:Option Operand)(l:List Value)(K:Value→Heap→Prop)(hok:∀a,lo=some a∨hi=some a→jT a=true)(hx:jT x=true)
 (h:pK P ⟨d,.slice t x lo hi none,ty,pos,af,g⟩ l H (jV P t) (ev l x) (lo.map (ev l)) (hi.map (ev l)) K):nM P ⟨d,.slice t x lo hi none,ty,pos,af,g⟩ l H K:=by
 refine⟨?_,?_⟩
 ·simp only[Op.operands]
  cases lo<;>cases hi<;>simp_all
 ·show kY _ K
  cases hz:jV P t with
  | none=>rw[hz]at h;exact h
  | some sz=>
  have harr:=a2D hz
  rw[hz]at h
  simp only[pK]at h
  rw[←hz]at h
  split at h
  ·exact h
  ·rename_i hf
   have e:opD P ⟨d,.slice t x lo hi none,ty,pos,af,g⟩ l H=(vP (jV P t) (ev l x) (lo.map (ev l)) (hi.map (ev l))).map fun v=>(v,H):=by
    simp only[opD]
    rw[if_neg hf,harr,a5w]
   rw[e]
   cases hs:vP (jV P t) (ev l x) (lo.map (ev l)) (hi.map (ev l))with
   | none=>rw[hs]at h;exact h.elim
   | some v=>rw[hs]at h;exact h
theorem vI(d ty pos af g)(t:TypeId)(x:Operand)(lo hi:Option Operand)(l:List Value)(K:Value→Heap→Prop):
 nM P ⟨d,.slice t x lo hi none,ty,pos,af,g⟩ l H K=(((#[x]++lo.toArray++hi.toArray).toList.all jT=true)∧pK P ⟨d,.slice t x lo hi none,ty,pos,af,g⟩ l H (jV P t) (ev l x) (lo.map (ev l)) (hi.map (ev l)) K):=by
 apply propext
 constructor
 ·intro h
  obtain⟨h1,h2⟩:=h
  refine⟨?_,?_⟩
  ·cases lo<;>cases hi<;>simpa [Op.operands]using h1
  ·cases hz:jV P t with
   | none=>exact h2
   | some sz=>
   have harr:=a2D hz
   simp only[pK]
   rw[←hz]
   split
   ·exact h2
   ·rename_i hf
    have e:opD P ⟨d,.slice t x lo hi none,ty,pos,af,g⟩ l H=(vP (jV P t) (ev l x) (lo.map (ev l)) (hi.map (ev l))).map fun v=>(v,H):=by
     simp only[opD]
     rw[if_neg hf,harr,a5w]
    replace h2:kY (opD P ⟨d,.slice t x lo hi none,ty,pos,af,g⟩ l H) K:=h2
    rw[e]at h2
    cases hs:vP (jV P t) (ev l x) (lo.map (ev l)) (hi.map (ev l))with
    | none=>rw[hs]at h2;exact h2.elim
    | some v=>rw[hs]at h2;exact h2
 ·rintro⟨h1,h2⟩
  refine b5s d ty pos af g t x lo hi l K ?_ ?_ h2
  ·intro a ha
   cases lo<;>cases hi<;>simp_all
   rcases ha with rfl|rfl<;>simp_all
  ·cases lo<;>cases hi<;>simp_all
theorem b2N(d ty pos af g)(t:TypeId)(x a:Operand)(l:List Value)(K:Value→Heap→Prop):
 nM P ⟨d,.slice t x (some a) none none,ty,pos,af,g⟩ l H K=kI x l fun v=>kI a l fun a'=>pK P ⟨d,.slice t x (some a) none none,ty,pos,af,g⟩ l H (jV P t) v (some a') none K:=by
 rw[vI];simp[kI,and_assoc]
theorem b3B(d ty pos af g)(t:TypeId)(x a:Operand)(l:List Value)(K:Value→Heap→Prop):
 nM P ⟨d,.slice t x none (some a) none,ty,pos,af,g⟩ l H K=kI x l fun v=>kI a l fun a'=>pK P ⟨d,.slice t x none (some a) none,ty,pos,af,g⟩ l H (jV P t) v none (some a') K:=by
 rw[vI];simp[kI,and_assoc]
theorem b1l(d ty pos af g)(t:TypeId)(x a b:Operand)(l:List Value)(K:Value→Heap→Prop):
 nM P ⟨d,.slice t x (some a) (some b) none,ty,pos,af,g⟩ l H K=kI x l fun v=>kI a l fun a'=>kI b l fun b'=>pK P ⟨d,.slice t x (some a) (some b) none,ty,pos,af,g⟩ l H (jV P t) v (some a') (some b') K:=by
 rw[vI];simp[kI,and_assoc]
def lP(v:Value)(size lo k:Nat):Value:=match v with
 | .slice (some ⟨A,i,s⟩) _ _=>.slice (some ⟨A,i+lo*size,s⟩) k size
 | v=>v
theorem RdAt.sub{v:Value}{size:Nat}{cs:List Value}(h:RdAt H v size cs)(lo k:Nat)(hk:lo*size+k*size≤cs.length)(h0:cs≠[]):RdAt H (lP v size lo k) size ((cs.drop (lo*size)).take (k*size)):=by
 rcases h with⟨rfl,rfl⟩|⟨A,i,e,row,ty,rw,lo',ver,n,h1,h2,h3,h4,h5,h6,rfl⟩
 ·exact(h0 rfl).elim
 ·refine .inr ⟨A,i+lo*size,e,row,ty,rw,lo',ver,k,h1,h2,h3,?_,?_,?_,rfl⟩
  ·simp;omega
  ·have hl:(List.take (k*size) (List.drop (lo*size) cs)).length=k*size:=by simp;omega
   rw[hl]
   conv=>rhs;rw[←h5]
   rw[List.drop_take,List.take_take,gk,ia (by omega)]
  ·simp;omega
theorem RdAt.bL{v:Value}{size:Nat}{cs:List Value}(h:RdAt H v size cs)(h0:cs≠[]):flat v=false:=by
 rcases h with⟨rfl,rfl⟩|⟨A,i,e,row,ty,rw,lo',ver,n,h1,h2,h3,h4,h5,h6,rfl⟩
 ·exact(h0 rfl).elim
 ·rfl
theorem RdAt.aF{v:Value}{size:Nat}{cs:List Value}(h:RdAt H v (size+1) cs){n:Nat}(hn:cs.length=n*(size+1))(o:Oper)(l:List Value)(H':Heap)(k:IntKind)(a:Int)(K:Value→Heap→Prop)(h0:0<n)(h1:0≤a)(h2:a≤n):
 pK P o l H' (some (size+1)) v (some (.int k a)) none K=oR (lP v (size+1) a.toNat (n-a.toNat)) fun v=>K v H':=by
 have hne:cs≠[]:=fun e=>by
  subst e
  have hp:=iH h0 (fM size)
  have hq:0=n*(size+1):=hn
  exact absurd (hq▸hp:0<0) (fI _)
 simp only[pK]
 rw[h.bL hne]
 rcases h with⟨rfl,rfl⟩|⟨A,i,e,row,ty,rw,lo',ver,m,h3,h4,h5,h6,h7,h8,rfl⟩
 ·exact(hne rfl).elim
 ·have:m=n:=fD (fM size) (h8.symm.trans hn)
  subst this
  have h9:a.toNat≤m:=by omega
  simp[vP,xR,h1,h2,lP,kP,oR]
theorem RdAt.aS{v:Value}{size:Nat}{cs:List Value}(h:RdAt H v (size+1) cs){n:Nat}(hn:cs.length=n*(size+1))(o:Oper)(l:List Value)(H':Heap)(k:IntKind)(a:Int)(K:Value→Heap→Prop)(h0:0<n)(h1:0≤a)(h2:a≤n):
 pK P o l H' (some (size+1)) v none (some (.int k a)) K=oR (lP v (size+1) 0 a.toNat) fun v=>K v H':=by
 have hne:cs≠[]:=fun e=>by
  subst e
  have hp:=iH h0 (fM size)
  have hq:0=n*(size+1):=hn
  exact absurd (hq▸hp:0<0) (fI _)
 simp only[pK]
 rw[h.bL hne]
 rcases h with⟨rfl,rfl⟩|⟨A,i,e,row,ty,rw,lo',ver,m,h3,h4,h5,h6,h7,h8,rfl⟩
 ·exact(hne rfl).elim
 ·have:m=n:=fD (fM size) (h8.symm.trans hn)
  subst this
  have h9:a.toNat≤m:=by omega
  simp[vP,xR,h1,h9,lP,kP,oR]
theorem St.suffix(hS:St P H0 H os)(i:Nat){v:Value}{size:Nat}{cs:List Value}(ho:os[i]? =some ⟨v,size+1,cs⟩){n:Nat}(hn:cs.length=n*(size+1))(a:Nat)(h0:0<n)(ha:a≤n):
 St P H0 H (os.set i ⟨lP v (size+1) a (n-a),size+1,cs.drop (a*(size+1))⟩):=by
 have hne:cs≠[]:=fun e=>by
  subst e
  have hp:=iH h0 (fM size)
  have hq:0=n*(size+1):=hn
  exact absurd (hq▸hp:0<0) (fI _)
 have hown:=hS.own _ (dR ho)
 unfold OwnAt at hown
 rw[if_neg (fB _)]at hown
 rcases hown with⟨h2,h3⟩|⟨A,k,ty,lo,ver,pre,m,h2,h3,h4,h5,h6,h7⟩
 ·exact(hne h3).elim
 ·simp only at h2 h3 h5 h6
  have:m=n:=fD (fM size) (h5.symm.trans hn)
  subst this
  have hle:a*(size+1)≤cs.length:=by rw[hn];exact eP _ ha
  refine hS.put i ho ?_ (dG _) (fun _ _ _=>rfl) ?_
  ·unfold OwnAt
   rw[if_neg (fB _)]
   refine .inr ⟨A,k+a*(size+1),ty,lo,ver,pre++cs.take (a*(size+1)),m-a,?_,?_,?_,?_,?_,h7⟩
   ·rw[h2,ef,fR]
   ·simp;omega
   ·simp[h4];omega
   ·simp[Nat.sub_mul,hn]
   ·rw[h6]
    simp only[lP,fo,Value.slice.injEq,ee,jr,true_and,and_true]
    omega
  ·intro B hB
   left
   rw[h6]at hB ⊢
   exact hB
def a9l(P:Program)(t:TypeId):Option Nat:=(jI P t).bind fun elem=>(kB P elem).bind fun z=>if lL z.cells.toList&&z.cells.size !=0 then some z.cells.size else none
theorem a3H(z:Array Value)(n:Nat):(Builtin.zeroCells z n).toList.length=n*z.size:=by simp[Builtin.zeroCells]
theorem a0R(z:Array Value)(n:Nat)(h:lL z.toList=true)(h0:z.size≠0):lL (Builtin.zeroCells z n).toList=true:=by
 unfold lL at h ⊢
 rw[dT]at h ⊢
 intro x hx
 simp only[Builtin.zeroCells,jl,Array.toList_range,dP]at hx
 obtain⟨i,_,rfl⟩:=hx
 have hlt:i%z.size<z.size:=fz _ (iw h0)
 rw[getElem!_pos z _ hlt]
 exact h _ (by simp)
theorem St.bH(hS:St P H0 H os)(i:Nat){v:Value}{size:Nat}{cs:List Value}(ho:os[i]? =some ⟨v,size+1,cs⟩)(lo k:Nat)(hk:lo*(size+1)+k*(size+1)≤cs.length)(hne:cs≠[]){t:TypeId}(ht:a9l P t=some (size+1)){K:Value→Heap→Prop}
 (h:∀l H1,l.length=k*(size+1)→St P H0 H1 (os.set i ⟨v,size+1,kD cs (lo*(size+1)) l⟩)→K (.tuple #[]) H1):a3i P H t (lP v (size+1) lo k) K:=by
 unfold a9l at ht
 cases he:jI P t with
 | none=>rw[he]at ht;cases ht
 | some elem=>
 rw[he]at ht
 simp only[dC]at ht
 cases hz:kB P elem with
 | none=>rw[hz]at ht;cases ht
 | some z=>
 rw[hz]at ht
 simp only[dC]at ht
 split at ht
 case isFalse=>cases ht
 rename_i hc
 simp only[dB,bne_iff_ne,ne_eq]at hc
 have hzs:=dA ht
 have hown:=hS.own _ (dR ho)
 unfold OwnAt at hown
 rw[if_neg (fB _)]at hown
 rcases hown with⟨h2,h3⟩|⟨A,j,ty,lo',ver,pre,m,h2,h3,h4,h5,h6,h7⟩
 ·exact(hne h3).elim
 simp only at h2 h3 h5 h6
 subst h6
 by_cases hk0:k=0
 ·subst hk0
  refine⟨.tuple #[],H,?_,h [] H (by simp) ?_⟩
  ·simp[vM,lP,he,hz]
  ·obtain⟨hi,hoi⟩:=dQ.1 ho
   rw[yD,←hoi,gX]
   exact hS
 ·have hl:(Builtin.zeroCells z.cells k).toList.length=k*(size+1):=by rw[a3H,hzs]
  have hsc:=a0R z.cells k hc.1 hc.2
  refine⟨.tuple #[],hset H A (.cells (kD (pre++cs) (j+lo*(size+1)) (Builtin.zeroCells z.cells k).toList) ty true (pre++cs).length ver),?_,h _ _ hl (hS.put i ho ?_ ?_ ?_ ?_)⟩
  ·simp only[vM,lP,he,hz,dC,h2]
   rw[if_neg (by simpa using hk0),if_pos (by
    rw[hsc,hl]
    simp[h4,h3];omega)]
  ·unfold OwnAt
   rw[if_neg (fB _)]
   refine .inr ⟨A,j,ty,(pre++cs).length,ver,pre,m,?_,?_,h4,?_,?_,h7⟩
   ·rw[jQ _ (kL h2),←h4,sZ]
   ·simp[lQ,h4]
   ·simp only[lQ];exact h5
   ·simp only[lQ]
  ·rw[kN];exact dG _
  ·intro B' hB hne'
   refine rT fun hh=>hne' ?_
   simp[kX,hh]
  ·intro B' hB
   exact .inl hB
end
end Go.Ds
namespace Go.Ds
theorem c1d(k:IntKind)(n:Int):flat (.int k n)=true:=rfl
theorem b6J(b:Bool):flat (.bool b)=true:=rfl
theorem b2T:flat (.slice none 0 0)=true:=rfl
theorem b5r(k:IntKind)(n:Int):kE (.int k n)=true:=rfl
theorem b3F(b:Bool):kE (.bool b)=true:=rfl
theorem b9q(ops:List Oper)(j:Nat):a0x ops.toArray j=(ops[j]?).bind (·.dst):=by simp[a0x]
theorem b5C(l:List Value):kE (.agg l.toArray)=l.all jZ:=by simp[kE,lL]
theorem b9x(l:List Value):flat (.agg l.toArray)=l.all jZ:=by simp[flat,kE,lL]
theorem b5I:kE (.slice none 0 0)=true:=rfl
theorem a6R:flat .nilFunc=true:=rfl
theorem b1B(k:IntKind)(n:Int):jZ (.int k n)=true:=rfl
theorem a8C(b:Bool):jZ (.bool b)=true:=rfl
theorem b1T:jZ (.slice none 0 0)=true:=rfl
theorem b7W(A i e:Nat):nE (ptr A i e)=true:=rfl
theorem a9h(k:IntKind)(n:Int):kF (.int k n)=true:=rfl
theorem a7y(b:Bool):kF (.bool b)=true:=rfl
theorem b0F:kF (.slice none 0 0)=true:=rfl
theorem a8u(cs:Array Value):kF (.agg cs)=true:=rfl
theorem RC:
 (∀(p:Prop),(True∧p)=p)∧
 (∀(p:Prop),(p∧True)=p)∧
 (∀{α:Sort 1}{x:Decidable True}(t e:α),(@ite α True x t e)=t)∧
 (∀{α:Sort 1}{x:Decidable False}(t e:α),(@ite α False x t e)=e)∧
 (∀{x:Decidable True}(t e:Prop),(@ite Prop True x t e)=t)∧
 (∀{x:Decidable False}(t e:Prop),(@ite Prop False x t e)=e)∧
 (∀(n:Nat),0+n=n)∧
 (∀(n:Nat),n*1=n)∧
 (∀(n:Nat),(n:Int).toNat=n)∧
 (∀(n:Nat),n+0=n)∧
 (∀(h:Decidable True), @decide True h=true)∧
 (∀(h:Decidable False), @decide False h=false)∧
 ((!true)=false)∧
 ((!false)=true)∧
 (∀{α:Type}(l:List α),[]++l=l)∧
 (∀{α:Type}(l:List α),l++[]=l)∧
 (∀{α:Type}{a:α}{l m:List α},a::l++m=a::(l++m))∧
 (∀{α:Type}{a:α}{l:List α},(a::l)[0]? =some a)∧
 (∀{α:Type}{a:α}{i:Nat}{l:List α},(a::l)[i+1]? =l[i]?)∧
 (∀{α β:Type}(a:α)(f:α→Option β),(some a).bind f=f a)∧
 (∀{α:Type}{x:α}{xs:List α}{d:α},(x::xs).getD 0 d=x)∧
 (∀{α:Type}{x:α}{xs:List α}{n:Nat}{d:α},(x::xs).getD (n+1) d=xs.getD n d)∧
 (∀{α:Type}{a:α}{l:List α},(a::l).length=l.length+1)∧
 (∀{α:Type},([]:List α).length=0)∧
 (∀{α:Type}{l:List α},List.drop 0 l=l)∧
 (∀{α:Type}{a:α}{l:List α}{i:Nat},List.take (i+1) (a::l)=a::List.take i l)∧
 (∀{α:Type}{l:List α},List.take 0 l=[])∧
 (∀{α:Type}{a:α}{l:List α}{i:Nat},List.drop (i+1) (a::l)=List.drop i l)∧
 (∀{α:Type}{a:α}{l:List α}{f:α→Bool},(a::l).all f=(f a&&l.all f))∧
 (∀{α:Type}{f:α→Bool},[].all f=true)∧
 (∀(b:Bool),(b&&true)=b)∧
 (∀(b:Bool),(true&&b)=b)∧
 (∀(b:Bool),(b&&b)=b)∧
 (∀(cs:List Value)(i:Nat)(v:Value)(vs:List Value),kD cs i (v::vs)=kD (cs.set i v) (i+1) vs)∧
 (∀(cs:List Value)(i:Nat),kD cs i []=cs)∧
 (∀{α:Type}{x:α}{xs:List α}{a:α},(x::xs).set 0 a=a::xs)∧
 (∀{α:Type}{x:α}{xs:List α}{i:Nat}{a:α},(x::xs).set (i+1) a=x::xs.set i a)∧
 ((¬True)=False)∧
 ((¬False)=True)∧
 (∀{p:Prop}[Decidable p],¬¬p↔p)∧
 (∀{n:Nat},((OfNat.ofNat n:Nat):Int)=OfNat.ofNat n):=
 ⟨@true_and, @and_true, @if_true, @if_false, @if_true Prop, @if_false Prop, @Nat.zero_add, @Nat.mul_one, @Int.toNat_natCast, @Nat.add_zero, @decide_true, @decide_false,Bool.not_true,Bool.not_false, @List.nil_append, @List.append_nil, @List.cons_append, @List.getElem?_cons_zero, @List.getElem?_cons_succ, @Option.bind_some, @List.getD_cons_zero, @List.getD_cons_succ, @List.length_cons, @List.length_nil, @List.drop_zero, @List.take_succ_cons, @List.take_zero, @List.drop_succ_cons, @List.all_cons, @List.all_nil, @Bool.and_true, @Bool.true_and, @Bool.and_self, @sH, @yD, @List.set_cons_zero, @List.set_cons_succ,not_true_eq_false,not_false_eq_true, @Decidable.not_not, @Int.cast_ofNat_Int⟩
end Go.Ds
namespace Go.Ds
open Go.RowKit
section
variable {P:Program} {H:Heap}
theorem CallOk.calls{ρ:Rho}{w:World}{f:FuncId}{args:List Value}{v:Value}{H':Heap}(h:CallOk P f args H v H'){args':Array Value}(hr:HRel P ρ H w)(ha:All2 (V ρ) args args'.toList):
 Calls P f args' w fun e w'=>∃ρ' v',e=.returned v'∧Post P ρ H w ρ' H' w'∧V ρ' v v':=
 (h 0 ρ w args' hr ha).calls fun k=>by intro d h;cases h
def Shut(ρ:Rho)(H:Heap):Prop:=∀b,¬Wr ρ H b
theorem Fn.calls{ρ:Rho}{w:World}{f:FuncId}{args:List Value}{b:Bool}(h:Fn P f args H fun v _=>v=.bool b){args':Array Value}(hr:HRel P ρ H w)(hs:Shut ρ H)(ha:All2 (V ρ) args args'.toList):
 Calls P f args' w fun e w'=>e=.returned (.bool b)∧Below w.heap.size w w':=by
 obtain⟨_,v,H1,h1,rfl⟩:=h
 refine(h1.calls hr ha).mono ?_
 rintro e w'⟨ρ',v',rfl,hp,hv⟩
 refine⟨?_,hp.os,hp.tape.1,hp.output,hp.size,fun k hk=>(hp.frame k hk (hs k)).1⟩
 rw[hv.ai rfl]
theorem HRel.none(w:World):HRel P (fun _ _=>Option.none) .nil w:=.empty w
theorem Shut.none:Shut (fun _ _=>Option.none) .nil:=fun b⟨A,e,p,kX,h,_⟩=>by cases h
end
end Go.Ds
namespace Go.Ds
section
variable {P:Program} {B:Base} {H:Heap}
def FnS(P:Program)(k:FuncId)(args:List Value)(H:Heap)(R:Value→Heap→Prop):Prop:=
 ∃fn c e l1 H1 v,P.funcs[k]? =some fn∧fn.body=some c∧(fn.name== "runtime.NumGoroutine")=false∧Sim P c (args++List.replicate (fn.ntmps-args.length) undef) H e l1 H1∧(e=.normal∨e=.ret)∧jC P fn l1 H1=some v∧R v H1
theorem FnS.of_wp{k:FuncId}{fn:Func}{c:Code}{args:List Value}{R:Value→Heap→Prop}(hf:P.funcs[k]? =some fn)(hb:fn.body=some c)(hn:(fn.name== "runtime.NumGoroutine")=false)
 (h:∀l,l=args++List.replicate (fn.ntmps-args.length) undef→Wp P c l H (a1J P fn R)):FnS P k args H R:=by
 obtain⟨e,l1,H1,h1,h2,h3⟩:=h _ rfl
 unfold kP at h3
 split at h3
 ·rename_i v hv;exact⟨fn,c,e,l1,H1,v,hf,hb,hn,h1,h2,hv,h3⟩
 ·exact h3.elim
theorem FnS.fn{k:FuncId}{args:List Value}{R:Value→Heap→Prop}(h:FnS P k args H R):Fn P k args H R:=by
 obtain⟨fn,c,e,l1,H1,v,hf,hb,hn,h1,h2,h3,h4⟩:=h
 exact⟨⟨fn,hf,by simp[hb],hn⟩,v,H1,.bT hf hb hn h1 h2 h3,h4⟩
theorem FnS.mono{k:FuncId}{args:List Value}{R R':Value→Heap→Prop}(h:FnS P k args H R)(hr:∀v H1,R v H1→R' v H1):FnS P k args H R':=by
 obtain⟨fn,c,e,l1,H1,v,hf,hb,hn,h1,h2,h3,h4⟩:=h
 exact⟨fn,c,e,l1,H1,v,hf,hb,hn,h1,h2,h3,hr _ _ h4⟩
def b4c(l:List Value)(ps:Array Tmp)(assign body:Code):Loop:={state:=.ready,pending:=none,fn:=0,tmps:=l.toArray,params:=ps,assign:=assign,body:=body,defers:=0}
def b8i(P:Program)(l:List Value)(L:Nat)(Q:oH):Value→Heap→Prop:=fun _ H2=>∃r,jS H2 L=some (.loop r)∧r.state≠.busy∧
 (r.pending=none→Q .normal l (hset H2 L (.loop {r with state:=.exhausted})))∧∀c,r.pending=some c→Wp P c l (hset H2 L (.loop {r with state:=.exhausted})) Q
theorem Wp.range{g:Operand}{ps:Array Tmp}{assign body:Code}{l:List Value}{Q:oH}{k:FuncId}{first captured:List Value}(hgo:jT g=true)(hg:ev l g=.func (.func k) first.toArray captured.toArray)
 (h:FnS P k (first++[.func (.yield H.length) #[] #[]]++captured) (H.cons (.loop (b4c l ps assign body))) (b8i P l H.length Q)):Wp P (.rangeFunc g ps assign body) l H Q:=by
 classical
 obtain⟨fn,c,e,l1,H2,v,hf,hb,hn,hs,he,hres,r,hr,hnb,hp⟩:=h
 let sl:=(first++[Value.func (.yield H.length) #[] #[]]++captured)++List.replicate (fn.ntmps-(first++[Value.func (.yield H.length) #[] #[]]++captured).length) undef
 let H1:=H.cons (.loop (b4c l ps assign body))
 let ex:Run:=fun c' l' H'=>if c'=c∧l'=sl∧H'=H1 then some (e,l1,H2)else none
 have hex:∀c l H e l' H',ex c l H=some (e,l',H')→Sim P c l H e l' H':=by
  intro c' l' H' e' l2 H3 hh
  simp only[ex]at hh
  split at hh
  ·rename_i h1
   obtain⟨rfl,rfl,rfl⟩:=h1
   injection hh with hh
   injection hh with h1 hh
   injection hh with h2 h3
   subst h1 h2 h3
   exact hs
  ·cases hh
 have hc:a7C P ex (ev l g) H.length (H.cons (.loop {state:=.ready,pending:=none,fn:=0,tmps:=l.toArray,params:=ps,assign,body,defers:=0}))=some (v,H2):=by
  unfold a7C
  rw[hg]
  show callF P ex k (first++[Value.func (.yield H.length) #[] #[]]++captured) H1=some (v,H2)
  unfold callF
  rw[hf]
  have h1:ex c sl H1=some (e,l1,H2):=by simp[ex]
  simp only[hb,hn,eV,if_false]
  rw[show ex c ((first++[Value.func (.yield H.length) #[] #[]]++captured)++List.replicate (fn.ntmps-(first++[Value.func (.yield H.length) #[] #[]]++captured).length) undef) H1=some (e,l1,H2)from h1]
  rcases he with rfl|rfl<;>simp[hres]
 by_cases hpend:r.pending=none
 ·exact⟨.normal,l,_,a8K hex hc hgo hr hnb (fun _=>⟨rfl,rfl,rfl⟩) (fun c h=>by rw[hpend]at h;cases h),hp.1 hpend⟩
 ·obtain⟨c',hc'⟩:=Option.ne_none_iff_exists'.1 hpend
  obtain⟨e',l',H',hs',hq⟩:=hp.2 c' hc'
  exact⟨e',l',H',a8K hex hc hgo hr hnb (fun h=>absurd h hpend) (fun c h=>by
   rw[hc']at h
   obtain rfl:=dA h
   exact hs'),hq⟩
def uD:Ex→Option Code
 | .normal=>none
 | .ret=>some .ret
 | .exit id=>some (.exit id)
theorem a2w{L:Nat}{args:List Value}{K:Value→Heap→Prop}{r:Loop}(hg:jS H L=some (.loop r))(hn:r.params.size=args.length)(hst:r.state=.ready)
 (h:Wp P r.assign ((r.params.toList.zip args).foldl (fun t(p,v)=>t.set p v) r.tmps.toList) H fun e l1 H1=>e=.normal∧∃r1,jS H1 L=some (.loop r1)∧r1.state=.ready∧
   Wp P r.body l1 (hset H1 L (.loop {r1 with state:=.busy})) fun e _ H2=>∃r2,jS H2 L=some (.loop r2)∧
    K (.bool (uD e).isNone) (hset H2 L (.loop {r2 with state:=if(uD e).isNone then .ready else .done,pending:=uD e}))):
 uL P (.func (.yield L) #[] #[]) args H K:=by
 classical
 obtain⟨e1,l1,H1,hs1,rfl,r1,hg1,hst1,e2,l2,H2,hs2,r2,hg2,hk⟩:=h
 refine⟨_,_,?_,hk⟩
 let sl:=(r.params.toList.zip args).foldl (fun t(p,v)=>t.set p v) r.tmps.toList
 let Hb:=hset H1 L (.loop {r1 with state:=.busy})
 let ex:Run:=fun c' l' H'=>if c'=r.assign∧l'=sl∧H'=H then some (.normal,l1,H1)else if c'=r.body∧l'=l1∧H'=Hb then some (e2,l2,H2)else none
 have hex:∀c l H e l' H',ex c l H=some (e,l',H')→Sim P c l H e l' H':=by
  intro c' l' H' e' l3 H3 hh
  simp only[ex]at hh
  split at hh
  ·rename_i h1
   obtain⟨rfl,rfl,rfl⟩:=h1
   injection hh with hh
   injection hh with h1 hh
   injection hh with h2 h3
   subst h1 h2 h3
   exact hs1
  ·split at hh
   ·rename_i h1
    obtain⟨rfl,rfl,rfl⟩:=h1
    injection hh with hh
    injection hh with h1 hh
    injection hh with h2 h3
    subst h1 h2 h3
    exact hs2
   ·cases hh
 have hbH:¬Hb=H:=by
  intro hh
  have h1:jS Hb L=some (.loop {r1 with state:=.busy}):=jQ _ (kL hg1)
  rw[hh,hg]at h1
  injection h1 with h1
  injection h1 with h1
  have h2:r.state=.busy:=by rw[h1]
  rw[hst]at h2
  cases h2
 have hc:a4B ex L args H=some (.bool (uD e2).isNone,hset H2 L (.loop {r2 with state:=if(uD e2).isNone then .ready else .done,pending:=uD e2})):=by
  unfold a4B
  rw[hg]
  simp only
  rw[if_pos ⟨hn,hst⟩]
  have h1:ex r.assign sl H=some (.normal,l1,H1):=by simp[ex]
  have h2:ex r.body l1 Hb=some (e2,l2,H2):=by
   simp only[ex]
   rw[if_neg (fun hh=>hbH hh.2.2),if_pos ⟨trivial,trivial,trivial⟩]
  rw[show ex r.assign ((r.params.toList.zip args).foldl (fun t(p,v)=>t.set p v) r.tmps.toList) H=some (.normal,l1,H1)from h1]
  simp only[hg1]
  rw[if_pos hst1]
  rw[show ex r.body l1 (hset H1 L (.loop {r1 with state:=.busy}))=some (e2,l2,H2)from h2]
  simp only[hg2]
  cases e2<;>rfl
 exact fun ρ w p args' k hr hp ha=>b8p hex hc hr hp ha k
structure Lp(P:Program)(B:Base)(L:Nat)(r:Loop)(H:Heap)(os:List Ob):Prop where
 st:St P B H os
 get:jS H L=some (.loop r)
 lo:B.H.length≤L
 ne:∀o∈os,kX o.v≠some L
theorem b7j{H:Heap}{A:Nat}{b c:Blk}(h:jS H A=some c):jS (hset H A b) A=some b:=jQ b (kL h)
theorem Lp.enter{os:List Ob}(hS:St P B H os)(r:Loop):Lp P B H.length r (H.cons (.loop r)) os where
 st:=by
  have h1:St P H (H.cons (.loop r)) []:=⟨by rw[rD];exact Nat.le_succ _,fun B hB _=>kS _ hB,by simp,by simp,.nil⟩
  simpa using hS.trans h1
 get:=jP H _
 lo:=hS.len
 ne o ho hb:=by
  have:=(hS.own o ho).lt hb
  omega
theorem Lp.ext{L:Nat}{r:Loop}{H2:Heap}{os os2:List Ob}(h:Lp P B L r H os)(h2:St P H H2 os2):Lp P B L r H2 (os++os2) where
 st:=h.st.trans h2
 get:=by rw[h2.ag L (kL h.get)];exact h.get
 lo:=h.lo
 ne o ho hb:=by
  rcases eo.1 ho with ho|ho
  ·exact h.ne o ho hb
  ·have hl:=kL h.get
   rcases h2.new o ho L hb with h3|h3
   ·have h3:H.length≤L:=h3
    omega
   ·exact h3
theorem Lp.sub{L:Nat}{r:Loop}{os os':List Ob}(h:Lp P B L r H os)(hs:os'.Sublist os):Lp P B L r H os':=⟨h.st.sub hs,h.get,h.lo,fun o ho=>h.ne o (hs.subset ho)⟩
theorem Lp.set{L:Nat}{r:Loop}{os:List Ob}(h:Lp P B L r H os)(hX:¬B.X L)(r':Loop):Lp P B L r' (hset H L (.loop r')) os where
 st:=by
  refine⟨by rw[kN];exact h.st.len,?_,?_,h.st.new,h.st.sep⟩
  ·intro A hA hXA
   rw[kC _ (by have:=h.lo;omega)]
   exact h.st.old A hA hXA
  ·intro o ho
   exact(h.st.own o ho).ag fun A hA=>kC _ (fun hh=>h.ne o ho (by rw[hA,hh]))
 get:=b7j h.get
 lo:=h.lo
 ne:=h.ne
theorem Lp.body{L:Nat}{r:Loop}{H2:Heap}{os os2:List Ob}(h:Lp P B L r H os)(h2:St P ⟨H,tE os⟩ H2 os2):Lp P B L r H2 os2 where
 st:=h.st.bG h2
 get:=by rw[h2.other (kL h.get) h.ne];exact h.get
 lo:=h.lo
 ne o ho hb:=by
  have hl:=kL h.get
  rcases h2.new o ho L hb with h3|⟨o',ho',hb'⟩
  ·have h3:H.length≤L:=h3
   omega
  ·exact h.ne o' ho' hb'
end
end Go.Ds
namespace Go.Ds
noncomputable section
variable {P:Program} {H:Heap}
def SWr(P:Program):Code→List Value→Heap→oH→Prop
 | .skip,l,H,Q=>Q .normal l H
 | .label _,l,H,Q=>Q .normal l H
 | .exit id,l,H,Q=>Q (.exit id) l H
 | .ret,l,H,Q=>Q .ret l H
 | .seq a b,l,H,Q=>SWr P a l H fun e l1 H1=>match e with|.normal=>SWr P b l1 H1 Q|e=>Q e l1 H1
 | .block id b,l,H,Q=>SWr P b l H fun e l1 H1=>Q (e.out id) l1 H1
 | .cond (.tmp t) x y,l,H,Q=>tQ (get l t) (SWr P x l H Q) (SWr P y l H Q)
 | .region _ ops false,l,H,Q=>tS P ops ops.toList l H fun l H=>Q .normal l H
 | c,l,H,Q=>Wp P c l H Q
theorem a3M{v:Value}{p q p' q':Prop}(h:tQ v p q)(h1:p→p')(h2:q→q'):tQ v p' q':=by
 unfold tQ at h ⊢
 split at h
 ·rename_i c
  cases c
  ·simpa using h2 (by simpa using h)
  ·simpa using h1 (by simpa using h)
 ·exact h.elim
theorem c1V{o:Oper}{l:List Value}{K K':Value→Heap→Prop}(hk:∀v H1,K v H1→K' v H1)(h:nM P o l H K):nM P o l H K':=by
 obtain⟨h2,h3⟩:=h
 refine⟨h2,?_⟩
 have bw:∀r,kY r K→kY r K':=fun r hr=>by
  cases r with
  | none=>exact hr
  | some r=>exact hk _ _ hr
 split at h3
 ·exact hk _ _ h3
 ·exact hk _ _ h3
 ·split at h3
  ·unfold uL at h3 ⊢
   split at h3
   ·obtain⟨v,H1,a,b,c⟩:=h3;exact⟨v,H1,a,b,hk _ _ c⟩
   ·obtain⟨v,H1,a,b⟩:=h3;exact⟨v,H1,a,hk _ _ b⟩
   ·exact h3
  ·exact bw _ h3
 ·exact bw _ h3
theorem a1X{ops:Array Oper}{K K':List Value→Heap→Prop}(hk:∀l H,K l H→K' l H):∀(os:List Oper)(l:List Value)(H:Heap),tS P ops os l H K→tS P ops os l H K'
 | [],l,H,h=>hk _ _ h
 | o::os,l,H,h=>by
   unfold tS at h ⊢
   split
   ·rename_i hw
    rw[if_pos hw]at h
    exact c1V (fun v H1 h=>a1X hk os _ _ h) h
   ·rename_i hw
    rw[if_neg hw]at h
    exact a1X hk os _ _ h
theorem SWr.wp:∀(c:Code){l:List Value}{H:Heap}{Q:oH},SWr P c l H Q→Wp P c l H Q:=by
 intro c
 induction c with
 | skip=>intro l H Q h;exact .skip h
 | label t=>intro l H Q h;exact .label h
 | exit id=>intro l H Q h;exact .exit h
 | ret=>intro l H Q h;exact .ret h
 | seq a b iha ihb=>
   intro l H Q h
   refine .seq ((iha h).mono ?_)
   intro e l1 H1 h1
   cases e with
   | normal=>exact ihb h1
   | exit i=>exact h1
   | ret=>exact h1
 | block id b ih=>intro l H Q h;exact .block (ih h)
 | cond c x y ihx ihy=>
   intro l H Q h
   cases c with
   | tmp t=>exact Wp.cR (a3M h ihx ihy)
   | _=>exact h
 | region id ops d=>
   intro l H Q h
   cases d with
   | true=>exact h
   | false=>exact .region h
 | _=>intro l H Q h;exact h
def SW(P:Program)(c:Code)(l:List Value)(H:Heap)(Q:oH)(_k1:Keep c:=⟨⟩)(_k2:Keep Q:=⟨⟩):Prop:=SWr P c l H Q
theorem SW.wp{c:Code}{l:List Value}{Q:oH}(h:SW P c l H Q):Wp P c l H Q:=SWr.wp c h
theorem c0M{c:Code}{l l':List Value}{Q:oH}(h:l=l'):SW P c l H Q=SW P c l' H Q:=by rw[h]
attribute [congr] c0M
def c3l(P:Program)(b:Code)(Q:oH):oH:=fun e l1 H1=>match e with|.normal=>SWr P b l1 H1 Q|e=>Q e l1 H1
theorem a8z(b:Code)(Q:oH)(l:List Value):c3l P b Q .normal l H=SW P b l H Q:=rfl
theorem a5U(b:Code)(Q:oH)(i:Nat)(l:List Value):c3l P b Q (.exit i) l H=Q (.exit i) l H:=rfl
theorem b8c(b:Code)(Q:oH)(l:List Value):c3l P b Q .ret l H=Q .ret l H:=rfl
theorem c4h(l:List Value)(Q:oH):SW P .skip l H Q=Q .normal l H:=rfl
theorem b9Z(t:Nat)(l:List Value)(Q:oH):SW P (.label t) l H Q=Q .normal l H:=rfl
theorem b4I(id:Nat)(l:List Value)(Q:oH):SW P (.exit id) l H Q=Q (.exit id) l H:=rfl
theorem c6C(l:List Value)(Q:oH):SW P .ret l H Q=Q .ret l H:=rfl
theorem c6G(a b:Code)(l:List Value)(Q:oH):SW P (.seq a b) l H Q=SW P a l H (c3l P b Q):=rfl
theorem b8G(id:Nat)(b:Code)(l:List Value)(Q:oH):SW P (.block id b) l H Q=SW P b l H (zZ id Q):=rfl
theorem c4y(t:Nat)(x y:Code)(l:List Value)(Q:oH):SW P (.cond (.tmp t) x y) l H Q=tQ (get l t) (SW P x l H Q) (SW P y l H Q):=rfl
theorem c6t(id:Nat)(os:List Oper)(l:List Value)(Q:oH):SW P (.region id os.toArray false) l H Q=tS P os.toArray os l H fun l H=>Q .normal l H:=rfl
theorem c3t(id:Nat)(ops:Array Oper)(l:List Value)(Q:oH):SW P (.region id ops true) l H Q=Wp P (.region id ops true) l H Q:=rfl
theorem c4k(c:Code)(l:List Value)(Q:oH):SW P (.loop c) l H Q=Wp P (.loop c) l H Q:=rfl
theorem b9a(g:Operand)(ps:Array Tmp)(a b:Code)(l:List Value)(Q:oH):SW P (.rangeFunc g ps a b) l H Q=Wp P (.rangeFunc g ps a b) l H Q:=rfl
theorem Wp.ak{c:Code}{Q:oH}(I:Nat→List Value→Heap→Prop){l:List Value}(n:Nat)(h:I n l H)(step:∀n l H,I n l H→SW P c l H (a2q I n Q)):Wp P (.loop c) l H Q:=Wp.cS I n h fun n l H hI=>(step n l H hI).wp
theorem Fn.bg{k:FuncId}{fn:Func}{c:Code}{args:List Value}{R:Value→Heap→Prop}(hf:P.funcs[k]? =some fn)(hb:fn.body=some c)(hn:(fn.name== "runtime.NumGoroutine")=false)
 (h:∀l,l=args++List.replicate (fn.ntmps-args.length) undef→SW P c l H (a1J P fn R)):Fn P k args H R:=Fn.of_wp hf hb hn fun l hl=>(h l hl).wp
theorem FnS.bg{k:FuncId}{fn:Func}{c:Code}{args:List Value}{R:Value→Heap→Prop}(hf:P.funcs[k]? =some fn)(hb:fn.body=some c)(hn:(fn.name== "runtime.NumGoroutine")=false)
 (h:∀l,l=args++List.replicate (fn.ntmps-args.length) undef→SW P c l H (a1J P fn R)):FnS P k args H R:=FnS.of_wp hf hb hn fun l hl=>(h l hl).wp
theorem Fn.dr{k:FuncId}{fn:Func}{c:Code}{R:Value→Heap→Prop}(hf:P.funcs[k]? =some fn)(hb:fn.body=some c)(hn:(fn.name== "runtime.NumGoroutine")=false){m:Nat}(hm:0+(fn.ntmps-0)=m)(h:∀l,l.length=m→SW P c l H (a1J P fn R)):Fn P k [] H R:=Fn.bg hf hb hn fun l hl=>h l (by rw[hl,dM,gY];exact hm)
theorem Fn.aN{k:FuncId}{fn:Func}{c:Code}{a0:Value}{R:Value→Heap→Prop}(hf:P.funcs[k]? =some fn)(hb:fn.body=some c)(hn:(fn.name== "runtime.NumGoroutine")=false){m:Nat}(hm:1+(fn.ntmps-1)=m)(h:∀l,l.length=m→get l 0=a0→SW P c l H (a1J P fn R)):Fn P k [a0] H R:=Fn.bg hf hb hn fun l hl=>h l (by rw[hl,dM,gY];exact hm) (by rw[hl];rfl)
theorem Fn.aE{k:FuncId}{fn:Func}{c:Code}{a0 a1:Value}{R:Value→Heap→Prop}(hf:P.funcs[k]? =some fn)(hb:fn.body=some c)(hn:(fn.name== "runtime.NumGoroutine")=false){m:Nat}(hm:2+(fn.ntmps-2)=m)(h:∀l,l.length=m→get l 0=a0→get l 1=a1→SW P c l H (a1J P fn R)):Fn P k [a0,a1] H R:=Fn.bg hf hb hn fun l hl=>h l (by rw[hl,dM,gY];exact hm) (by rw[hl];rfl) (by rw[hl];rfl)
theorem Fn.cJ{k:FuncId}{fn:Func}{c:Code}{a0 a1 a2:Value}{R:Value→Heap→Prop}(hf:P.funcs[k]? =some fn)(hb:fn.body=some c)(hn:(fn.name== "runtime.NumGoroutine")=false){m:Nat}(hm:3+(fn.ntmps-3)=m)(h:∀l,l.length=m→get l 0=a0→get l 1=a1→get l 2=a2→SW P c l H (a1J P fn R)):Fn P k [a0,a1,a2] H R:=Fn.bg hf hb hn fun l hl=>h l (by rw[hl,dM,gY];exact hm) (by rw[hl];rfl) (by rw[hl];rfl) (by rw[hl];rfl)
theorem Fn.dg{k:FuncId}{fn:Func}{c:Code}{a0 a1 a2 a3:Value}{R:Value→Heap→Prop}(hf:P.funcs[k]? =some fn)(hb:fn.body=some c)(hn:(fn.name== "runtime.NumGoroutine")=false){m:Nat}(hm:4+(fn.ntmps-4)=m)(h:∀l,l.length=m→get l 0=a0→get l 1=a1→get l 2=a2→get l 3=a3→SW P c l H (a1J P fn R)):Fn P k [a0,a1,a2,a3] H R:=Fn.bg hf hb hn fun l hl=>h l (by rw[hl,dM,gY];exact hm) (by rw[hl];rfl) (by rw[hl];rfl) (by rw[hl];rfl) (by rw[hl];rfl)
theorem St.cF{B:Base}{os:List Ob}{k:FuncId}{args:List Value}{v:Value}{K:Value→Heap→Prop}(hS:St P B H os)(h:Fn P k args H fun r H1=>r=v∧St P H H1 [])(hk:∀H1,St P B H1 os→K v H1):tM P k args H K:=jG h fun r H1⟨e,hT⟩=>by
 subst e
 have h1:=hS.trans hT
 rw[dO]at h1
 exact hk H1 h1
end
end Go.Ds
namespace Go.Ds
noncomputable section
variable {P:Program} {H0:Base} {H:Heap} {α:Type} {n:Nat} {cel:α→List Value} {v:Value} {xs:List α}
def jB[Inhabited α](xs:List α)(j:Nat):α:=xs.getD j default
theorem jR[Inhabited α](xs:List α)(j:Nat)(hj:j<xs.length):jB xs j=xs[j]:=by simp[jB,dE,hj]
theorem jE[Inhabited α]{xs:List α}{j:Nat}(hj:j<xs.length):jB xs j∈xs:=by rw[jR xs j hj];exact gR _
theorem c2u{β:Type}[Inhabited α][Inhabited β](f:α→β){xs:List α}{j:Nat}(hj:j<xs.length):jB (xs.map f) j=f (jB xs j):=by
 rw[jR _ _ (by simpa using hj),jR _ _ hj];simp
theorem a5j[Inhabited α](xs:List α)(j:Nat)(hj:j<xs.length):xs.take (j+1)=xs.take j++[jB xs j]:=by
 rw[jR _ _ hj,ib hj]
theorem qB[Inhabited α](xs:List α)(j:Nat)(hj:j<xs.length):xs.drop j=jB xs j::xs.drop (j+1):=by
 rw[jR _ _ hj,ga hj]
theorem jJ(hc:∀x,(cel x).length=n):∀xs:List α,(xs.flatMap cel).length=xs.length*n
 | []=>by simp
 | x::xs=>by simp[ec,hc x,jJ hc xs,gJ,Nat.add_comm]
theorem vX(hc:∀x,(cel x).length=n):∀(xs:List α)(j:Nat),(xs.flatMap cel).drop (j*n)=(xs.drop j).flatMap cel
 | [],j=>by simp
 | x::xs,0=>by simp
 | x::xs,j+1=>by
   rw[ec,ik,←vX hc xs j,gJ,Nat.add_comm,←gk]
   congr 1
   rw[←hc x,List.drop_left]
theorem a4u(hc:∀x,(cel x).length=n):∀(xs:List α)(j:Nat),(xs.flatMap cel).take (j*n)=(xs.take j).flatMap cel
 | [],j=>by simp
 | x::xs,0=>by simp
 | x::xs,j+1=>by
   rw[ec,List.take_succ_cons,ec,←a4u hc xs j,gJ,Nat.add_comm]
   have:=List.take_length_add_append (l₁:=cel x) (l₂:=xs.flatMap cel) (j*n)
   rw[hc x]at this
   exact this
theorem a5I[Inhabited α](hc:∀x,(cel x).length=n)(xs:List α)(j f:Nat)(hj:j<xs.length)(hf:f<n):(xs.flatMap cel)[j*n+f]? =(cel (jB xs j))[f]?:=by
 have h1:(xs.flatMap cel)[j*n+f]? =((xs.flatMap cel).drop (j*n))[f]?:=by rw[ed]
 rw[h1,vX hc,qB xs j hj,ec,eZ (by rw[hc];exact hf)]
theorem a6k[Inhabited α](hc:∀x,(cel x).length=n)(xs:List α)(j f m:Nat)(hj:j<xs.length)(hf:f+m≤n):((xs.flatMap cel).drop (j*n+f)).take m=((cel (jB xs j)).drop f).take m:=by
 rw[←gk,vX hc,qB xs j hj,ec,ir (by rw[hc];omega),List.take_append_of_le_length (by simp[hc];omega)]
structure Sl(n:Nat)(cel:α→List Value)(H:Heap)(v:Value)(xs:List α):Prop where
 rd:RdAt H v n (xs.flatMap cel)
 hc:∀x,(cel x).length=n
 pos:0<n
theorem Sl.len(h:Sl n cel H v xs)(m:Nat)(t:TypeId):b0V (some m) P H t v=some (.int .i64 xs.length):=by
 obtain⟨k,rfl⟩:∃k,n=k+1:=⟨n-1,by have:=h.pos;omega⟩
 exact h.rd.len (jJ h.hc xs) m t
theorem Sl.idx(h:Sl n cel H v xs)(t:TypeId)(k:IntKind)(j:Int)(h0:0≤j)(h1:j<xs.length):xB (some n) P t v (.int k j)=some (kO v n j.toNat 0):=by
 obtain⟨k,rfl⟩:∃k,n=k+1:=⟨n-1,by have:=h.pos;omega⟩
 exact h.rd.idx (jJ h.hc xs) t _ j h0 h1
theorem c6h{j m n:Nat}(hj:j<m)(hn:0<n):j*n<m*n:=Nat.mul_lt_mul_of_pos_right hj hn
theorem a0p{j f m n:Nat}(hj:j<m)(hf:f≤n):j*n+f≤m*n:=by
 have:=eP n hj
 rw[gJ]at this
 omega
theorem Sl.aZ(h:Sl n cel H v xs)(j:Nat)(hj:j<xs.length)(g d:Nat):b0e (some d) (kO v n j g)=some (kO v n j (g+d)):=by
 obtain⟨k,rfl⟩:∃k,n=k+1:=⟨n-1,by have:=h.pos;omega⟩
 exact h.rd.aZ j (by rw[jJ h.hc];exact c6h hj (fM _)) g d
theorem Sl.ld[Inhabited α](h:Sl n cel H v xs)(s:Option Nat)(j f:Nat)(hj:j<xs.length)(hf:f<n):oU (some false) s H (kO v n j f)=(cel (jB xs j))[f]?:=by
 rw[h.rd.ld s j f (by rw[jJ h.hc];exact eH (Nat.add_lt_add_left hf _) (a0p hj (dG _))),a5I h.hc xs j f hj hf]
theorem Sl.ae[Inhabited α](h:Sl n cel H v xs)(j:Nat)(hj:j<xs.length):oU (some true) (some n) H (kO v n j 0)=some (.agg (cel (jB xs j)).toArray):=by
 rw[h.rd.ae n j 0 (by rw[jJ h.hc];exact a0p hj (dG _)) h.pos,a6k h.hc xs j 0 n hj (by omega)]
 rw[jg,iy (by rw[h.hc];exact dG _)]
theorem Sl.cK[Inhabited α](h:Sl n cel H v xs)(m j f:Nat)(hj:j<xs.length)(hf:f+m≤n)(hm:0<m):oU (some true) (some m) H (kO v n j f)=some (.agg (((cel (jB xs j)).drop f).take m).toArray):=by
 rw[h.rd.ae m j f (by rw[jJ h.hc,gI];exact a0p hj hf) hm,a6k h.hc xs j f m hj hf]
theorem Sl.cells(h:Sl n cel H v xs):v.cells=#[v]∧oneCell v=true∧nE v=true:=h.rd.cells
theorem St.sl{H0:Heap}{os:List Ob}(hS:St P H0 H os)(h:Sl n cel H0 v xs):Sl n cel H v xs:=⟨hS.base h.rd,h.hc,h.pos⟩
theorem Sl.ag{H':Heap}(h:Sl n cel H v xs)(hk:∀B,B<H.length→jS H' B=jS H B):Sl n cel H' v xs:=⟨h.rd.ag hk,h.hc,h.pos⟩
theorem St.az{os:List Ob}(hS:St P H0 H os)(i:Nat){m:Nat}(ho:os[i]? =some ⟨v,m+1,xs.flatMap cel⟩)(hc:∀x,(cel x).length=m+1):Sl (m+1) cel H v xs:=⟨hS.rd i ho,hc,fM _⟩
def one(f:α→Value):α→List Value:=fun x=>[f x]
theorem rF(f:α→Value)(x:α):(one f x).length=1:=rfl
end
end Go.Ds
namespace Go.Ds
open Go.RowKit
section
variable {P:Program} {ρ:Rho} {H:Heap} {w:World}
structure InW(P:Program)(ρ:Rho)(H:Heap)(w:World):Prop where
 rel:HRel P ρ H w
 shut:Shut ρ H
structure ExtW(ρ:Rho)(H:Heap)(ρ':Rho)(H':Heap):Prop where
 le:ρ.Le ρ'
 len:H.length≤H'.length
 old:∀B,B<H.length→jS H' B=jS H B
theorem ExtW.refl(ρ:Rho)(H:Heap):ExtW ρ H ρ H:=⟨.refl ρ,dG _,fun _ _=>rfl⟩
theorem ExtW.trans{ρ' ρ'':Rho}{H' H'':Heap}(h:ExtW ρ H ρ' H')(k:ExtW ρ' H' ρ'' H''):ExtW ρ H ρ'' H'':=
 ⟨h.le.trans k.le,dZ h.len k.len,fun B hB=>by rw[k.old B (eH hB h.len),h.old B hB]⟩
theorem InW.none(w:World):InW P (fun _ _=>Option.none) .nil w:=⟨.none w,.none⟩
theorem InW.row(h:InW P ρ H w)(p:Place){cur:Array Value}{t':TypeId}{fr:Nat×Nat}(hb:w.heap[p.b]? =some (.cells cur t' fr)){ty:TypeId}(hty:jD P ty=some p.k)(hsz:cur.size=p.sz)(cs:List Value)(ver:Nat)
 (hver:ver=1→p.b=H.length∧p.d=0) (hfit:(cs.length:Int)+p.d≤p.sz) (hcell:∀i c,i<cs.length→0≤(i:Int)+p.d→cs[i]? =some c→∃c',cur[p.at i]? =some c'∧C1 (ρ.put H.length cs.length p) c c'):
 InW P (ρ.put H.length cs.length p) (H.cons (.cells cs ty false 0 ver)) w∧ExtW ρ H (ρ.put H.length cs.length p) (H.cons (.cells cs ty false 0 ver)):=by
 have hno:∀f,ρ H.length f=Option.none:=fun f=>by
  cases hh:ρ H.length f with
  | none=>rfl
  | some q=>exact absurd (h.rel.dom _ _ _ hh).1 (fI _)
 have hle:ρ.Le (ρ.put H.length cs.length p):=.put (hno _)
 have hold:∀A f q,(ρ.put H.length cs.length p) A f=some q→(A=H.length∧f=cs.length∧q=p)∨(A<H.length∧ρ A f=some q):=fun A f q hq=>by
  by_cases hh:A=H.length∧f=cs.length
  ·obtain⟨rfl,rfl⟩:=hh;rw[Rho.al]at hq;exact .inl ⟨rfl,rfl,(dA hq).symm⟩
  ·rw[Rho.aQ hh]at hq;exact .inr ⟨(h.rel.dom _ _ _ hq).1,hq⟩
 have hgo:∀A,A<H.length→jS (H.cons (.cells cs ty false 0 ver)) A=jS H A:=fun A hA=>kS _ hA
 have hnew:∀A b,jS (H.cons (.cells cs ty false 0 ver)) A=some b→(A=H.length∧b=.cells cs ty false 0 ver)∨(A<H.length∧jS H A=some b):=fun A b hg=>by
  have hA:A<(H.cons (.cells cs ty false 0 ver)).length:=kL hg
  rw[length_cons]at hA
  by_cases he:A=H.length
  ·subst he;rw[jP]at hg;exact .inl ⟨rfl,(dA hg).symm⟩
  ·rw[hgo A (by omega)]at hg;exact .inr ⟨by omega,hg⟩
 have hrw:∀A f q b,(ρ.put H.length cs.length p) A f=some q→jS (H.cons (.cells cs ty false 0 ver)) A=some b→b.wr=true→False:=fun A f q b hq hg hw=>by
  rcases hnew A b hg with⟨rfl,rfl⟩|⟨hA,hg⟩
  ·cases hw
  ·rcases hold A f q hq with⟨rfl,_⟩|⟨_,hq⟩
   ·exact absurd hA (fI _)
   ·exact h.shut q.b ⟨A,f,q,b,hq,rfl,hg,hw⟩
 refine⟨⟨⟨?_,?_,?_,?_,?_,?_,?_,?_⟩,?_⟩,hle,by rw[length_cons];omega,hgo⟩
 ·intro A f q hq
  rw[length_cons]
  rcases hold A f q hq with⟨rfl,rfl,rfl⟩|⟨hA,hq⟩
  ·exact⟨by omega,nK hb⟩
  ·exact⟨by omega,(h.rel.dom _ _ _ hq).2⟩
 ·intro A cs' ty' rw' lo ver' hg
  rcases hnew A _ hg with⟨rfl,he⟩|⟨hA,hg⟩
  ·cases he
   refine⟨⟨p,Rho.al ..⟩,fun e q hq=> ?_⟩
   rcases hold _ e q hq with⟨_,rfl,rfl⟩|⟨hA,_⟩
   ·exact⟨dG _,hty,hfit,cur,t',fr,hb,hsz,(fun hh=>by cases hh),fun _=>hcell⟩
   ·exact absurd hA (fI _)
  ·obtain⟨⟨q,hq⟩,hall⟩:=h.rel.cells _ _ _ _ _ _ hg
   refine⟨⟨q,hle _ _ _ hq⟩,fun e q hq=> ?_⟩
   rcases hold _ e q hq with⟨rfl,_,_⟩|⟨_,hq⟩
   ·exact absurd hA (fI _)
   ·exact(hall e q hq).world hle rfl
 ·intro A es ck ver' hg
  rcases hnew A _ hg with⟨rfl,he⟩|⟨hA,hg⟩
  ·cases he
  ·obtain⟨q,es',hq,hw,hall⟩:=h.rel.map _ _ _ _ hg
   exact⟨q,es',hle _ _ _ hq,hw,hall.mono fun _ _ x=>x.mono hle⟩
 ·intro A r hg
  rcases hnew A _ hg with⟨rfl,he⟩|⟨hA,hg⟩
  ·cases he
  ·obtain⟨q,r',hq,hw,hall⟩:=h.rel.loop _ _ hg
   exact⟨q,r',hle _ _ _ hq,hw,hall.mono hle⟩
 ·intro A f q b hq hg
  rcases hnew A b hg with⟨rfl,rfl⟩|⟨hA,hg⟩
  ·exact .inl rfl
  ·rcases hold A f q hq with⟨rfl,_⟩|⟨_,hq⟩
   ·exact absurd hA (fI _)
   ·exact h.rel.one _ _ _ _ hq hg
 ·intro A f q A2 f2 q2 b hq _ _ hg hw
  exact absurd hw fun hw=>(hrw A f q b hq hg hw).elim
 ·intro A hA
  rw[length_cons]at hA
  by_cases he:A=H.length
  ·subst he;rw[jP];rfl
  ·rw[hgo A (by omega)];exact h.rel.full A (by omega)
 ·intro A cs' ty' lo hg
  rcases hnew A _ hg with⟨rfl,he⟩|⟨hA,hg⟩
  ·cases he
   exact⟨p,Rho.al ..,hver rfl⟩
  ·obtain⟨q,h1,h2,h3⟩:=h.rel.glob _ _ _ _ hg
   exact⟨q,hle _ _ _ h1,h2,h3⟩
 ·rintro b⟨A,f,q,kX,hq,_,hg,hw⟩
  exact hrw A f q kX hq hg hw
theorem b7Z{a:Addr}{i:Nat}{v:Value}(h:w.cell? (a.add i)=some v):∃cur t fr,w.heap[a.block]? =some (.cells cur t fr)∧(i=0→a.spot=Option.none)∧cur[a.off+i]? =some v:=by
 obtain⟨b,off,spot⟩:=a
 have hb:((⟨b,off,spot⟩:Addr).add i).block=b:=by unfold Addr.add;split<;>rfl
 have ho:((⟨b,off,spot⟩:Addr).add i).off=off+i:=by unfold Addr.add;split<;>simp_all
 unfold World.cell? at h
 rw[hb,ho]at h
 split at h
 ·rename_i cur t fr hcur
  split at h
  ·cases h
  ·rename_i hn
   refine⟨cur,t,fr,hcur,fun h0=> ?_,h⟩
   subst h0
   cases spot with
   | none=>rfl
   | some s=>exact absurd rfl hn
 ·cases h
theorem InW.slice(h:InW P ρ H w){b0:Nat}{cur0:Array Value}{t0:TypeId}{fr0:Nat×Nat}(hb0:w.heap[b0]? =some (.cells cur0 t0 fr0)){ty:TypeId}{size:Nat}(hty:jD P ty=some size)(hs:0<size){a:Addr}{len cap:Nat}(hl:len≤cap)
 (hall:∀i,i<cap*size→(w.cell? (a.add i)).isSome=true) (cs:List Value) (hcs:cs.length=len*size) (hval:∀i c,cs[i]? =some c→∃c',w.cell? (a.add i)=some c'∧C1 ρ c c'):
 ∃ρ' H' v,InW P ρ' H' w∧ExtW ρ H ρ' H'∧C1 ρ' v (.slice (some a) len cap)∧RdAt H' v size cs:=by
 have hne:∀(q:Place)f,ρ.Le (ρ.put H.length f q):=fun q f=>.put (by
  cases hh:ρ H.length f with
  | none=>rfl
  | some q=>exact absurd (h.rel.dom _ _ _ hh).1 (fI _))
 by_cases hc:cap=0
 ·subst hc
  obtain rfl:len=0:=by omega
  obtain rfl:cs=[]:=by simpa using hcs
  obtain⟨h1,h2⟩:=h.row ⟨b0,0,cur0.size,size⟩ hb0 (ty:=ty) hty rfl [] 0 (fun hh=>by cases hh) (by simp) (fun i c hi=>by simp at hi)
  refine⟨_,_,.slice (some ⟨H.length,0,some 0⟩) 0 size,h1,h2,.c0 ?_,.inr ⟨_,_,_,_,_,false,0,0,0,jP H _,dG _,fA _,by simp,by simp,by simp,rfl⟩⟩
  exact C0.slice (p:=⟨b0,0,cur0.size,size⟩) (n:=0) (c':=0) (Rho.al ..) (by simp) (by simp) ⟨dG _,by simp⟩ (.inr ⟨rfl,rfl⟩)
 ·have hpos:0<cap*size:=iH (by omega) hs
  obtain⟨v0,hv0⟩:=fg.1 (hall 0 hpos)
  obtain⟨cur,t,fr,hcur,hsp,_⟩:=b7Z hv0
  have hsp:=hsp rfl
  obtain⟨b,off,spot⟩:=a
  simp only at hsp hcur
  subst hsp
  have jS:∀i c',w.cell? ((⟨b,off,Option.none⟩:Addr).add i)=some c'→cur[off+i]? =some c':=fun i c' hi=>by
   obtain⟨cur',_,_,hh,_,hx⟩:=b7Z hi
   simp only at hh hx
   rw[hcur]at hh
   cases hh
   exact hx
  have hsz:off+cap*size≤cur.size:=by
   obtain⟨v,hv⟩:=fg.1 (hall (cap*size-1) (by omega))
   have:=(dL.1 (jS _ _ hv)).1
   omega
  have hlc:len*size≤cap*size:=eP _ hl
  obtain⟨h1,h2⟩:=h.row ⟨b,off,cur.size,size⟩ hcur (ty:=ty) hty rfl cs 0 (fun hh=>by cases hh) (by simp only[hcs];omega) (fun i c hi h0 hc=>by
   obtain⟨c',h3,h4⟩:=hval i c hc
   exact⟨c',by have:=jS _ _ h3;rw[show(⟨b,off,cur.size,size⟩:Place).at i=off+i from by simp only[Place.at];omega];exact this,h4.mono (hne _ _)⟩)
  refine⟨_,_,.slice (some ⟨H.length,0,some cs.length⟩) len size,h1,h2,.c0 ?_,.inr ⟨_,_,_,_,_,false,0,0,len,jP H _,fA _,dG _,by omega,by simp,hcs,rfl⟩⟩
  exact C0.slice (p:=⟨b,off,cur.size,size⟩) (n:=len) (c':=cap) (Rho.al ..) (by simp) (by simp only;omega) ⟨hl,by simp only;omega⟩ (.inl ⟨by simp[Place.at],by simp[Place.at];exact hsz⟩)
theorem InW.each{α:Type}[Inhabited α](h:InW P ρ H w){n:Nat}{Q:Nat→Rho→Heap→α→Prop}(hQ:∀i ρ H x ρ' H',Q i ρ H x→ExtW ρ H ρ' H'→Q i ρ' H' x)
 (hi:∀i,i<n→∀ρ1 H1,InW P ρ1 H1 w→ExtW ρ H ρ1 H1→∃ρ' H' x,InW P ρ' H' w∧ExtW ρ1 H1 ρ' H'∧Q i ρ' H' x):∃ρ' H' xs,InW P ρ' H' w∧ExtW ρ H ρ' H'∧xs.length=n∧∀i,i<n→Q i ρ' H' (jB xs i):=by
 induction n with
 | zero=>exact⟨ρ,H,[],h,.refl _ _,rfl,fun i hi=>absurd hi (eu _)⟩
 | succ n ih=>
   obtain⟨ρ1,H1,xs,h1,e1,hl,hq⟩:=ih fun i hi'=>hi i (by omega)
   obtain⟨ρ2,H2,x,h2,e2,hx⟩:=hi n (by omega) ρ1 H1 h1 e1
   refine⟨ρ2,H2,xs++[x],h2,e1.trans e2,by simp[hl],fun i hin=> ?_⟩
   by_cases he:i=n
   ·subst he
    rw[jR _ _ (by simp;omega),List.getElem_append_right (by omega)]
    simpa [hl]using hx
   ·have:jB (xs++[x]) i=jB xs i:=by rw[jR _ _ (by simp;omega),jR _ _ (by omega),List.getElem_append_left (by omega)]
    rw[this]
    exact hQ _ _ _ _ _ _ (hq i (by omega)) e2
end
end Go.Ds
namespace Go.Ds
noncomputable section
inductive Pth where
 | z
 | l (p:Pth)
 | r (p:Pth)
inductive Fr where
 | e
 | n (v:Value) (l r:Fr)
def a6H:Nat→Nat→Pth:=fun f=>Nat.rec (motive:=fun _=>Nat→Pth) (fun _=>.z) (fun _ ih k=>Nat.rec (motive:=fun _=>Pth) .z (fun k _=>Bool.rec (motive:=fun _=>Pth) (.r (ih (Nat.div k 2))) (.l (ih (Nat.div k 2))) (Nat.beq (Nat.mod k 2) 0)) k) f
def lU(k:Nat):Pth:=a6H k k
def pR(p:Pth):Fr→Value:=Pth.rec (motive:=fun _=>Fr→Value)
 (fun f=>Fr.rec (motive:=fun _=>Value) undef (fun v _ _ _ _=>v) f)
 (fun _ ih f=>Fr.rec (motive:=fun _=>Value) undef (fun _ l _ _ _=>ih l) f)
 (fun _ ih f=>Fr.rec (motive:=fun _=>Value) undef (fun _ _ r _ _=>ih r) f) p
def rV{α:Type}(v:Value)(p:Pth):Fr→(Fr→α)→α:=Pth.rec (motive:=fun _=>Fr→(Fr→α)→α)
 (fun f K=>Fr.rec (motive:=fun _=>α) (K (.n v .e .e)) (fun _ l r _ _=>K (.n v l r)) f)
 (fun _ ih f K=>Fr.rec (motive:=fun _=>α) (ih .e fun l=>K (.n undef l .e)) (fun w l r _ _=>ih l fun l=>K (.n w l r)) f)
 (fun _ ih f K=>Fr.rec (motive:=fun _=>α) (ih .e fun r=>K (.n undef .e r)) (fun w l r _ _=>ih r fun r=>K (.n w l r)) f) p
def nC{α:Type}(p:Pth):(Pth→α)→α:=Pth.rec (motive:=fun _=>(Pth→α)→α) (fun K=>K .z) (fun _ ih K=>ih fun p=>K (.l p)) (fun _ ih K=>ih fun p=>K (.r p)) p
inductive LArg where
 | t (p:Pth)
 | c (v:Value)
def oA(f:Fr)(x:LArg):Value:=LArg.rec (motive:=fun _=>Value) (fun p=>pR p f) (fun v=>v) x
inductive Rs where
 | no
 | ok (v:Value) (H:Heap)
 | th (v:Value) (H:Heap)
def qJ{α:Type}(v:Value)(K:Value→α):α:=
 match v with
 | .bool b=>K (.bool b)
 | .int k n=>K (.int k n)
 | .string s=>K (.string s)
 | .pointer a=>K (.pointer a)
 | .slice a n c=>K (.slice a n c)
 | .map r=>K (.map r)
 | .func fn a b=>K (.func fn a b)
 | .agg cs=>K (.agg cs)
 | .tuple vs=>K (.tuple vs)
 | v=>K v
inductive LOp where
 | bad
 | mv (x:LArg)
 | pick (c a b:LArg)
 | bin (g:IntKind→Int→Int→Option Value) (x y:LArg)
 | not (x:LArg)
 | ld1 (x:LArg)
 | ldn (n:Nat) (x:LArg)
 | st (n:Nat) (x y:LArg)
 | fa (off:Nat) (x:LArg)
 | ixs (size:Nat) (x i:LArg)
 | ixa (n size:Nat) (x i:LArg)
 | ext (i:Nat) (x:LArg)
 | f1 (off:Nat) (x:LArg)
 | fn (off n:Nat) (x:LArg)
 | len (x:LArg)
 | slen (x:LArg)
 | app (elem size bytes:Nat) (x y:LArg)
 | alloc (t:TypeId) (cs:List Value)
 | callF (f:FuncId) (p:Pth) (args:List LArg)
 | callV (g:LArg) (args:List LArg)
 | gen (o:Oper)
inductive LOps where
 | nil
 | cons (d:Option Pth) (o:LOp) (rest:LOps)
 | gcons (p:Pth) (w:Bool) (d:Option Pth) (o:LOp) (rest:LOps)
inductive LCode where
 | bad
 | skip
 | reg (ops:LOps)
 | drw (ops:LOps) (tab:List (Nat×Option Nat×Option (Pth×Bool)×LOp))
 | seq (a b:LCode)
 | cond (c:LArg) (x y:LCode)
 | block (id:Nat) (b:LCode)
 | loop (b:LCode)
 | exit (id:Nat)
 | ret
 | range (g:LArg) (ps:List Pth) (pp:List Pth) (params:Array Tmp) (assign body:Code) (a b:LCode)
inductive LRes where
 | t (p:Pth)
 | c1 (p:Pth)
 | cn (n:Nat) (p:Pth)
structure LFunc where
 ps:List Pth
 body:LCode
 res:List LRes
inductive LT where
 | e
 | n (g:Option LFunc) (l r:LT)
def a4m(p:Pth):LT→Option LFunc:=Pth.rec (motive:=fun _=>LT→Option LFunc)
 (fun f=>LT.rec (motive:=fun _=>Option LFunc) none (fun v _ _ _ _=>v) f)
 (fun _ ih f=>LT.rec (motive:=fun _=>Option LFunc) none (fun _ l _ _ _=>ih l) f)
 (fun _ ih f=>LT.rec (motive:=fun _=>Option LFunc) none (fun _ _ r _ _=>ih r) f) p
def vA{α:Type}(v:LFunc)(p:Pth):LT→(LT→α)→α:=Pth.rec (motive:=fun _=>LT→(LT→α)→α)
 (fun f K=>LT.rec (motive:=fun _=>α) (K (.n (some v) .e .e)) (fun _ l r _ _=>K (.n (some v) l r)) f)
 (fun _ ih f K=>LT.rec (motive:=fun _=>α) (ih .e fun l=>K (.n none l .e)) (fun w l r _ _=>ih l fun l=>K (.n w l r)) f)
 (fun _ ih f K=>LT.rec (motive:=fun _=>α) (ih .e fun r=>K (.n none .e r)) (fun w l r _ _=>ih r fun r=>K (.n w l r)) f) p
structure LEnv where
 L:Nat
 ps:List Pth
 pp:List Pth
 a:LCode
 b:LCode
def c4z(P:Program)(o:Oper)(ρ:Operand→Value)(H:Heap):Option (Value×Heap):=
 if o.op.operands.toList.all (fun x=>flat (ρ x))then
  match jO P (execOp ρ o)with
  | some (.value v)=>if flat v then some (v,H)else none
  | _=>none
 else none
def c7t(P:Program)(o:Oper)(ρ:Operand→Value)(H:Heap):Option (Value×Heap):=
 let keep (v:Option Value):Option (Value×Heap):=v.map fun v=>(v,H)
 let plain:Option (Value×Heap):=c4z P o ρ H
 match o.op with
 | .move x|.assign x=>some (ρ x,H)
 | .pick c a b=>match ρ c with|.bool t=>some (if t then ρ a else ρ b,H)|_=>none
 | .alloc t=>(kB P t).bind fun z=>if kE z then tL P H t z else none
 | .box t x=>zS P H t (ρ x)
 | .build t parts=>
   let ps:=parts.toList.map fun(i,x)=>(i,ρ x)
   if(kB P t).any kE&&ps.all (fun x=>x.2.cells.toList.all oneCell)then
    (P.built t ps).map fun cs=>(.agg cs,H)
   else none
 | .buildSlice t len parts=>
   (jI P t).bind fun elem=>(jD P elem).bind fun size=>(kB P elem).bind fun z=>
   let ps:=parts.toList.map fun(i,x)=>(i,ρ x)
   if len==0&&ps.isEmpty&&size !=0 then some (.slice (some ⟨H.length,0,some 0⟩) 0 size,uI H elem [])else
   if kE z&&ps.all (fun x=>x.2.cells.toList.all oneCell)&&len*size≤2^24&&len*size !=0&&z.cells.size==size then
    (Instr.fill (fun i=>some (i*size,size)) ((Array.range (len*size)).map (z.cells[·%z.cells.size]!)) ps).map fun cs=>
      (.slice (some ⟨H.length,0,some cs.toList.length⟩) len size,uI H elem cs.toList)
   else none
 | .makeSlice t n c=>
   (jI P t).bind fun elem=>(jD P elem).bind fun size=>(pF P elem).bind fun bytes=>(kB P elem).bind fun z=>
   match ρ n,ρ c with
   | .int .i64 a,.int .i64 b=>
     if kE z&&decide (a≤b)&&0≤a&&b*(bytes+1)≤(qR:Int)&&size !=0&&z.cells.size==size then
      let cs:=if size=1 then List.replicate b.toNat (z.cells[0]!)else(madeCells z.cells (b.toNat*size)).toList
      some (.slice (some ⟨H.length,0,some cs.length⟩) a.toNat size,uI H elem cs)
     else none
   | _,_=>none
 | .load t a=>keep (mC P H t (ρ a))
 | .store t a x=>(tC P H t (ρ a) (ρ x)).map fun H=>(undef,H)
 | .nilCheck x=>match ρ x with
   | .pointer (some a)=>some (.pointer (some a),H)
   | .func (.func f) a b=>some (.func (.func f) a b,H)
   | _=>none
 | .fieldAddr s x f=>match ρ x with
   | .pointer (some ⟨A,i,some e⟩)=>(qE P s f).bind fun fd=>(jD P fd.type).bind fun n=>if n==0 then none else some (.pointer (some ⟨A,i+fd.offset,some e⟩),H)
   | _=>none
 | .indexAddr t x ix=>match P.underlying t,ρ x,ρ ix with
   | some (.slice elem),.slice (some ⟨A,i,some e⟩) n _,.int _ j=>(jD P elem).bind fun size=>
     if 0≤j&&j<n then some (.pointer (some ⟨A,i+j.toNat*size,some e⟩),H)else none
   | some (.array n elem),.pointer (some ⟨A,i,some e⟩),.int _ j=>(jD P elem).bind fun size=>
     if 0≤j&&j<n then some (.pointer (some ⟨A,i+j.toNat*size,some e⟩),H)else none
   | some (.array n elem),.pointer (some ⟨A,i,none⟩),.int _ j=>(jD P elem).bind fun size=>
     if 0≤j&&j<n then some (.pointer (some ⟨A,i+j.toNat*size,none⟩),H)else none
   | _,_,_=>none
 | .slice t x lo hi none=>if flat (ρ x)then plain else match kR P t with
   | some (n,elem)=>keep (a6J P H n elem (ρ x) (lo.map ρ) (hi.map ρ))
   | none=>keep (a0r P t (ρ x) (lo.map ρ) (hi.map ρ))
 | .field t x f=>if flat (ρ x)then plain else
   match ρ x with
   | .agg cs=>(qE P t f).bind fun fd=>match kM P fd.type with
     | some true=>(jD P fd.type).map fun n=>(.agg (cs.extract fd.offset (fd.offset+n)),H)
     | some false=>(cs[fd.offset]?).map fun v=>(v,H)
     | none=>none
   | _=>none
 | .extract t i=>match ρ t with
   | .tuple vs=>(vs[i]?).map fun v=>(v,H)
   | _=>none
 | .makeFunc fn first captured=>match fn with
   | .func f=>if(first++captured).toList.all (fun x=>nE (ρ x))then some (.func (.func f) (first.map ρ) (captured.map ρ),H)else none
   | _=>none
 | .binOp op t x y _=>match op,ρ x,ρ y with
   | .eql,.slice (some _) _ _,.slice none 0 0=>if((P.underlying t).map yL)==some true then some (.bool false,H)else none
   | .neq,.slice (some _) _ _,.slice none 0 0=>if((P.underlying t).map yL)==some true then some (.bool true,H)else none
   | op,.int k a,.int k' b=>if k=k' then(match oB op k a b with|some v=>some (v,H)|none=>plain)else plain
   | .eql,.pointer (some _),.pointer none=>if wJ P t then some (.bool false,H)else none
   | .neq,.pointer (some _),.pointer none=>if wJ P t then some (.bool true,H)else none
   | .eql,.pointer (some ⟨A,i,some e⟩),.pointer (some ⟨A',i',some e'⟩)=>if wJ P t&&A==A'&&i==i'&&e==e' then some (.bool true,H)else none
   | .neq,.pointer (some ⟨A,i,some e⟩),.pointer (some ⟨A',i',some e'⟩)=>if wJ P t&&A==A'&&i==i'&&e==e' then some (.bool false,H)else none
   | _,_,_=>plain
 | .call c=>match c.callee with
   | .builtin .len=>if c.args.size==1&&c.argTypes.size==1 then
      match (P.underlying (c.argTypes.getD 0 0)),ρ (c.args.getD 0 (.tmp 0))with
      | some (.slice _),.slice a n k=>keep (a0f H (.slice a n k))
      | some .string,.string s=>keep (a0f H (.string s))
      | some (.map _ _),.map r=>keep (a0f H (.map r))
      | _,_=>none
     else none
   | .builtin .append=>if c.args.size==2&&c.argTypes.size==2&&((P.underlying (c.argTypes.getD 1 0)).map rX)==some true then
      pB P H (c.argTypes.getD 0 0) (ρ (c.args.getD 0 (.tmp 0))) (ρ (c.args.getD 1 (.tmp 0)))
     else none
   | .builtin .copy=>if c.args.size==2&&c.argTypes.size==2 then a4v P H (c.argTypes.getD 0 0) (ρ (c.args.getD 0 (.tmp 0))) (ρ (c.args.getD 1 (.tmp 0)))else none
   | .builtin .clear=>if c.args.size==1&&c.argTypes.size==1 then vM P H (c.argTypes.getD 0 0) (ρ (c.args.getD 0 (.tmp 0)))else none
   | .builtin .cap=>plain
   | .builtin .unsafeSliceData=>if c.args.size==1&&c.argTypes.size==1 then match ρ (c.args.getD 0 (.tmp 0))with
      | .slice (some a) n _=>if n==0 then none else some (.pointer (some a),H)
      | _=>none
     else none
   | .builtin .unsafeString=>if c.args.size==2&&c.argTypes.size==2 then yZ P H (c.argTypes.getD 0 0) (ρ (c.args.getD 0 (.tmp 0))) (ρ (c.args.getD 1 (.tmp 0)))else none
   | .builtin .max=>plain
   | .builtin .min=>plain
   | _=>none
 | .unOp op _ x=>match op,ρ x with
   | .not,.bool b=>some (.bool (!b),H)
   | _,_=>plain
 | .makeMap t r=>rR P H t (r.map ρ)
 | .lookup t x k c=>keep (rG P H t (ρ x) (ρ k) c)
 | .mapUpdate t m k v=>(a2L P H t (ρ m) (ρ k) (ρ v)).map fun H=>(undef,H)
 | .mapEntry t m k=>wB P H t (ρ m) (ρ k)
 | .entryStore _ m b v=>(uG H (ρ m) (ρ b) (ρ v)).map fun H=>(undef,H)
 | .convert s t x=>if flat (ρ x)&& !(mL P t)then plain else match ρ x with
   | .slice (some ⟨A,i,some e⟩) n _=>if mL P s&&qH P t then keep ((kG H A i e n).bind fun l=>(oX l).map .string)else none
   | .string b=>if mL P t&&qH P s&&b.size≤2^40 then(jI P t).bind fun elem=>some (.slice (some ⟨H.length,0,some b.size⟩) b.size 1,b8K H elem (b.data.toList.map fun c=>.int .u8 c.toNat))else none
   | .pointer (some ⟨A,0,some e⟩)=>if a5y P H s t A e then some (.pointer (some ⟨A,0,some e⟩),H)else none
   | _=>none
 | .index _ _ _=>plain
 | .makeInterface _ _=>plain
 | _=>none
def pO{α:Type}(b:Bool)(no:α)(x:α):α:=Bool.rec (motive:=fun _=>α) no x b
def b0S{α:Type}(cs:List α):Nat→Bool:=List.rec (motive:=fun _=>Nat→Bool) (fun e=>Nat.beq e 0) (fun _ _ ih e=>Nat.rec (motive:=fun _=>Bool) true (fun m _=>ih m) e) cs
def a6d{α:Type}(cs:List α):Nat→Bool:=List.rec (motive:=fun _=>Nat→Bool) (fun e=>Nat.beq e 0) (fun _ _ ih e=>Nat.rec (motive:=fun _=>Bool) false (fun m _=>ih m) e) cs
def a2J{α:Type}(cs:List α):Nat→Option α:=List.rec (motive:=fun _=>Nat→Option α) (fun _=>none) (fun v _ ih e=>Nat.rec (motive:=fun _=>Option α) (some v) (fun m _=>ih m) e) cs
def a3P{α:Type}(cs:List α):Nat→(List α→Rs)→Rs:=List.rec (motive:=fun _=>Nat→(List α→Rs)→Rs) (fun n K=>Nat.rec (motive:=fun _=>Rs) (K []) (fun _ _=>.no) n) (fun v _ ih n K=>Nat.rec (motive:=fun _=>Rs) (K []) (fun m _=>ih m fun l=>K (v::l)) n) cs
def b4y{α:Type}(cs:List α):Nat→List α:=List.rec (motive:=fun _=>Nat→List α) (fun _=>[]) (fun v t ih n=>Nat.rec (motive:=fun _=>List α) (v::t) (fun m _=>ih m) n) cs
def kIx(k:IntKind):Nat:=IntKind.rec (motive:=fun _=>Nat) 0 1 2 3 4 5 6 7 k
def hMv(x:LArg)(f:Fr)(H:Heap):Rs:=qJ (oA f x) fun v=>.ok v H
def b9H(c a b:LArg)(f:Fr)(H:Heap):Rs:=match oA f c with
 | .bool t=>qJ (oA f (Bool.rec (motive:=fun _=>LArg) b a t)) fun v=>.ok v H
 | _=>.no
def oV(v:Option Value)(H:Heap):Rs:=Option.rec (motive:=fun _=>Rs) .no (fun v=>.th v H) v
def c5N(g:IntKind→Int→Int→Option Value)(k:IntKind)(a:Int)(H:Heap)(y:Value):Rs:=match y with
 | .int k' b=>pO (Nat.beq (kIx k) (kIx k')) .no (oV (g k a b) H)
 | _=>.no
def c6A(g:IntKind→Int→Int→Option Value)(x y:LArg)(f:Fr)(H:Heap):Rs:=match oA f x with
 | .int k a=>c5N g k a H (oA f y)
 | _=>.no
def d1p(x:LArg)(f:Fr)(H:Heap):Rs:=match oA f x with
 | .bool b=>.ok (.bool (Bool.rec (motive:=fun _=>Bool) true false b)) H
 | _=>.no
def c4M(b:Option Blk)(i e:Nat)(H:Heap):Rs:=match b with
 | some (.cells cs _ _ lo _)=>pO (Nat.ble lo e) .no (pO (b0S cs e) .no (pO (Nat.ble (Nat.succ i) e) .no (Option.rec (motive:=fun _=>Rs) .no (fun v=>qJ v fun v=>.ok v H) (a2J cs i))))
 | _=>.no
def c7i(b:Option Blk)(i:Nat)(H:Heap):Rs:=match b with
 | some (.cells cs _ false lo 1)=>pO (b0S cs lo) .no (Option.rec (motive:=fun _=>Rs) .no (fun v=>qJ v fun v=>.ok v H) (a2J cs i))
 | _=>.no
def b7s(x:LArg)(f:Fr)(H:Heap):Rs:=match oA f x with
 | .pointer (some ⟨A,i,some e⟩)=>c4M (jS H A) i e H
 | .pointer (some ⟨A,i,none⟩)=>c7i (jS H A) i H
 | _=>.no
def c4u(b:Option Blk)(n i e:Nat)(H:Heap):Rs:=match b with
 | some (.cells cs _ _ lo _)=>pO (Nat.ble lo e) .no (pO (b0S cs e) .no (pO (Nat.ble (Nat.add i n) e) .no (a3P (b4y cs i) n fun l=>.ok (.agg ⟨l⟩) H)))
 | _=>.no
def b6L(n:Nat)(x:LArg)(f:Fr)(H:Heap):Rs:=match oA f x with
 | .pointer (some ⟨A,i,some e⟩)=>c4u (jS H A) n i e H
 | _=>.no
def stB(b:Option Blk)(n A i e:Nat)(vs:List Value)(H:Heap):Rs:=match b with
 | some (.cells cs ty true lo ver)=>pO (a6d vs n) .no (pO (vs.all oneCell) .no (pO (a6d cs e) .no (pO (Nat.ble (Nat.add i n) e) .no (pO (Nat.ble lo e) .no
    (.th undef (hset H A (.cells (kD cs i vs) ty true e ver)))))))
 | _=>.no
def hSt(n:Nat)(x y:LArg)(f:Fr)(H:Heap):Rs:=match oA f x with
 | .pointer (some ⟨A,i,some e⟩)=>stB (jS H A) n A i e (oA f y).cells.toList H
 | _=>.no
def hFa(off:Nat)(x:LArg)(f:Fr)(H:Heap):Rs:=match oA f x with
 | .pointer (some ⟨A,i,some e⟩)=>lD (Nat.add i off) fun i=>.ok (.pointer (some ⟨A,i,some e⟩)) H
 | _=>.no
def ixP(A i e size n:Nat)(H:Heap)(j:Value):Rs:=match j with
 | .int _ (.ofNat j)=>pO (Nat.blt j n) .no (lD (Nat.add i (Nat.mul j size)) fun i=>.ok (.pointer (some ⟨A,i,some e⟩)) H)
 | _=>.no
def c7R(size:Nat)(x i:LArg)(f:Fr)(H:Heap):Rs:=match oA f x with
 | .slice (some ⟨A,a,some e⟩) n _=>ixP A a e size n H (oA f i)
 | _=>.no
def ixG(A i size n:Nat)(H:Heap)(j:Value):Rs:=match j with
 | .int _ (.ofNat j)=>pO (Nat.blt j n) .no (lD (Nat.add i (Nat.mul j size)) fun i=>.ok (.pointer (some ⟨A,i,none⟩)) H)
 | _=>.no
def c6B(n size:Nat)(x i:LArg)(f:Fr)(H:Heap):Rs:=match oA f x with
 | .pointer (some ⟨A,a,some e⟩)=>ixP A a e size n H (oA f i)
 | .pointer (some ⟨A,a,none⟩)=>ixG A a size n H (oA f i)
 | _=>.no
def okV(v:Option Value)(H:Heap):Rs:=Option.rec (motive:=fun _=>Rs) .no (fun v=>qJ v fun v=>.ok v H) v
def c7Y(i:Nat)(x:LArg)(f:Fr)(H:Heap):Rs:=match oA f x with
 | .tuple ⟨vs⟩=>okV (a2J vs i) H
 | _=>.no
def hF1(off:Nat)(x:LArg)(f:Fr)(H:Heap):Rs:=match oA f x with
 | .agg ⟨cs⟩=>okV (a2J cs off) H
 | _=>.no
def hFn(off n:Nat)(x:LArg)(f:Fr)(H:Heap):Rs:=match oA f x with
 | .agg ⟨cs⟩=>a3P (b4y cs off) n fun l=>.ok (.agg ⟨l⟩) H
 | _=>.no
def c6R(x:LArg)(f:Fr)(H:Heap):Rs:=match oA f x with
 | .slice _ n _=>.th (goInt n) H
 | _=>.no
def b9Q(x:LArg)(f:Fr)(H:Heap):Rs:=match oA f x with
 | .string s=>.th (goInt s.size) H
 | _=>.no
def c9n(b:Option Blk)(elem size bytes A i e k:Nat)(n:Nat)(l:List Value)(P:Program)(H:Heap):Rs:=match b with
 | some (.cells cs ty true lo ver)=>pO (Bool.rec (motive:=fun _=>Bool) (jD P ty==some size) true (Nat.beq ty elem)) .no (pO (a6d cs e) .no (pO (Nat.ble lo e) .no
    (pO (Nat.beq (Nat.add i (Nat.mul k size)) e)
      (pO (Nat.beq n 0) (pO (Nat.ble (Nat.add i (Nat.mul (Nat.add k n) size)) e) .no (.th (.slice (some ⟨A,i,some e⟩) (k+n) size) (hset H A (.cells (kD cs (i+k*size) l) ty true e ver)))) .no)
      (pO (Nat.ble (Nat.mul (Nat.add k n) (Nat.succ bytes)) qR) .no (.th (.slice (some ⟨A,i,some (e+l.length)⟩) (k+n) size) (hset H A (.cells (a6F cs l) ty true lo (Bool.rec (motive:=fun _=>Nat) 2 ver (Nat.beq ty elem)))))))))
 | _=>.no
def c8B(P:Program)(elem size bytes:Nat)(s:Value)(H:Heap)(n:Nat)(l:List Value):Rs:=match s with
 | .slice none k c=>pO (Nat.beq k 0) .no (pO (Nat.beq c 0) .no (pO (Nat.ble (Nat.mul n (Nat.succ bytes)) qR) .no (pO (Nat.beq n 0) (.th (.slice (some ⟨H.length,0,some l.length⟩) n size) (uI H elem l)) (.ok (.slice none 0 0) H))))
 | .slice (some ⟨A,i,some e⟩) k _=>c9n (jS H A) elem size bytes A i e k n l P H
 | _=>.no
def c7O(P:Program)(elem size bytes:Nat)(x y:LArg)(f:Fr)(H:Heap):Rs:=match a1K H size (oA f y)with
 | some (n,l)=>c8B P elem size bytes (oA f x) H n l
 | none=>.no
def c7g(t:TypeId)(cs:List Value)(_:Fr)(H:Heap):Rs:=.th (.pointer (some ⟨H.length,0,some cs.length⟩)) (uI H t cs)
def evF(f:Fr):Operand→Value
 | .tmp t=>pR (lU t) f
 | .const v=>v
 | .global g=>.pointer (some ⟨g,0,none⟩)
 | .func k=>.func (.func k) #[] #[]
def d1V(P:Program)(o:Oper)(f:Fr)(H:Heap):Rs:=match c7t P o (evF f) H with
 | some (v,H1)=>.th v H1
 | none=>.no
def a5q{α:Type}(f:Fr)(l:List LArg):(List Value→α)→α:=List.rec (motive:=fun _=>(List Value→α)→α) (fun K=>K []) (fun x _ ih K=>qJ (oA f x) fun v=>ih fun l=>K (v::l)) l
structure Calls' where
 fn:Pth→FuncId→List Value→Heap→Rs
 rd:Nat→List Value→Heap→Rs
def c6m(C:Calls')(k:FuncId)(p:Pth)(args:List LArg)(f:Fr)(H:Heap):Rs:=a5q f args fun l=>C.fn p k l H
def b2o(C:Calls')(l:List Value)(H:Heap)(g:Value):Rs:=match g with
 | .func (.func k) ⟨a⟩ ⟨b⟩=>lD k fun k=>nC (lU k) fun p=>C.fn p k (a6F a (a6F l b)) H
 | .func (.yield L) _ _=>C.rd L l H
 | _=>.no
def c6O(C:Calls')(g:LArg)(args:List LArg)(f:Fr)(H:Heap):Rs:=a5q f args fun l=>b2o C l H (oA f g)
def d1G(_:Fr)(_:Heap):Rs:=.no
def opF(P:Program)(C:Calls')(o:LOp):Fr→Heap→Rs:=
 LOp.rec (motive:=fun _=>Fr→Heap→Rs) d1G hMv b9H c6A d1p b7s b6L hSt hFa c7R c6B c7Y hF1 hFn c6R b9Q (c7O P) c7g (c6m C) (c6O C) (d1V P) o
inductive Rf where
 | no
 | ok (f:Fr) (H:Heap)
def xV{α:Type}(d:Option Pth)(v:Value)(f:Fr)(K:Fr→α):α:=Option.rec (motive:=fun _=>α) (K f) (fun p=>rV v p f K) d
def b4w{α:Type}(no:α)(d:Option Pth)(f:Fr)(K:Fr→Heap→α)(r:Rs):α:=
 Rs.rec (motive:=fun _=>α) no (fun v H=>xV d v f fun f=>K f H) (fun v H=>a1h v fun v=>pH H fun H=>xV d v f fun f=>K f H) r
def isB(v:Value)(w:Bool):Bool:=match v with
 | .bool b=>Bool.rec (motive:=fun _=>Bool) (Bool.rec (motive:=fun _=>Bool) true false w) w b
 | _=>false
def a0Y(P:Program)(C:Calls')(ops:LOps):Fr→Heap→Rf:=LOps.rec (motive:=fun _=>Fr→Heap→Rf)
 (fun f H=>.ok f H)
 (fun d o _ ih f H=>b4w .no d f ih (opF P C o f H))
 (fun p w d o _ ih f H=>pO (isB (pR p f) w) (xV d undef f fun f=>ih f H) (b4w .no d f ih (opF P C o f H))) ops
inductive Rt where
 | no
 | ok (tr:List (Fr×Heap×Value)) (f:Fr) (H:Heap)
def b3T(tr:List (Fr×Heap×Value))(f0:Fr)(H0:Heap)(d:Option Pth)(K:List (Fr×Heap×Value)→Fr→Heap→Rt)(r:Rs):Rt:=
 Rs.rec (motive:=fun _=>Rt) .no (fun v H=>xV d v f0 fun f=>K ((f0,H0,v)::tr) f H) (fun v H=>a1h v fun v=>pH H fun H=>xV d v f0 fun f=>K ((f0,H0,v)::tr) f H) r
def tZ(P:Program)(C:Calls')(ops:LOps):List (Fr×Heap×Value)→Fr→Heap→Rt:=LOps.rec (motive:=fun _=>List (Fr×Heap×Value)→Fr→Heap→Rt)
 (fun tr f H=>.ok tr f H)
 (fun d o _ ih tr f H=>b3T tr f H d ih (opF P C o f H))
 (fun p w d o _ ih tr f H=>pO (isB (pR p f) w) (xV d undef f fun f1=>ih ((f,H,undef)::tr) f1 H) (b3T tr f H d ih (opF P C o f H))) ops
def c2p(v:Value)(r:Rs):Bool:=Rs.rec (motive:=fun _=>Bool) false (fun w _=>veq w v) (fun w _=>veq w v) r
def c1I(f:Fr)(g:Option (Pth×Bool)):Bool:=match g with
 | none=>true
 | some (p,w)=>isB (pR p f) w
def c0S(P:Program)(C:Calls')(tr:List (Fr×Heap×Value))(H1:Heap)(x:Nat×Option Nat×Option (Pth×Bool)×LOp):Bool:=
 match a2J tr x.1 with
 | some (f,_,v)=>pO (c1I f x.2.2.1) true (match x.2.1 with
   | none=>c2p v (opF P C x.2.2.2 f H1)
   | some m=>match a2J tr m with
     | some (_,H,_)=>c2p v (opF P C x.2.2.2 f H)
     | none=>false)
 | none=>false
def b8L{α:Type}(p:α→Bool)(l:List α):Bool:=List.rec (motive:=fun _=>Bool) true (fun x _ ih=>pO (p x) false ih) l
inductive Rc where
 | no
 | ok (e:Ex) (f:Fr) (H:Heap)
def c9X(r:Rf):Rc:=Rf.rec (motive:=fun _=>Rc) .no (fun f H=>.ok .normal f H) r
def c5Y(P:Program)(C:Calls')(tab:List (Nat×Option Nat×Option (Pth×Bool)×LOp))(r:Rt):Rc:=Rt.rec (motive:=fun _=>Rc) .no (fun tr f H=>pO (b8L (c0S P C tr H) tab) .no (.ok .normal f H)) r
def qW{α:Type}(no:α)(l:List Value):List Pth→Fr→(Fr→α)→α:=List.rec (motive:=fun _=>List Pth→Fr→(Fr→α)→α) (fun _ f K=>K f)
 (fun v _ ih ps f K=>List.rec (motive:=fun _=>α) no (fun p ps _=>rV v p f fun f=>ih ps f K) ps) l
def a5T(H:Heap)(f:Fr)(r:LRes):Rs:=LRes.rec (motive:=fun _=>Rs) (fun p=>qJ (pR p f) fun v=>.ok v H) (fun p=>b7s (.t p) f H) (fun n p=>b6L n (.t p) f H) r
def b8x(H:Heap)(f:Fr)(l:List LRes):(List Value→Rs)→Rs:=List.rec (motive:=fun _=>(List Value→Rs)→Rs) (fun K=>K []) (fun r _ ih K=>Rs.rec (motive:=fun _=>Rs) .no (fun v _=>ih fun l=>K (v::l)) (fun _ _=>.no) (a5T H f r)) l
def noT(v:Value):Bool:=match v with|.tuple _=>false|_=>true
def b0c(l:List LRes)(f:Fr)(H:Heap):Rs:=match l with
 | [r]=>a5T H f r
 | l=>b8x H f l fun vs=>pO (b8L noT vs) .no (.ok (.tuple ⟨vs⟩) H)
def c7b(l:List LRes)(r:Rc):Rs:=match r with
 | .ok .normal f H=>b0c l f H
 | .ok .ret f H=>b0c l f H
 | _=>.no
abbrev sE:=List LEnv→LCode→Fr→Heap→Rc
def c6P(P:Program)(k:FuncId)(args:List Value)(H:Heap):Rs:=match sL P k args H with
 | some (v,H1)=>.th v H1
 | none=>.no
def nW(T:LT)(ih:sE)(E:List LEnv)(p:Pth)(args:List Value)(H:Heap):Rs:=match a4m p T with
 | some g=>qW .no args g.ps .e fun f=>c7b g.res (ih E g.body f H)
 | none=>.no
def c1A(P:Program)(T:LT)(ih:sE)(E:List LEnv)(p:Pth)(k:FuncId)(args:List Value)(H:Heap):Rs:=match a4m p T with
 | some g=>qW .no args g.ps .e fun f=>c7b g.res (ih E g.body f H)
 | none=>c6P P k args H
def b8j(E:List LEnv)(L:Nat):Option LEnv:=List.rec (motive:=fun _=>Option LEnv) none (fun e _ ih=>pO (Nat.beq e.L L) ih (some e)) E
def c5n(e:Ex):Option Code:=match e with|.normal=>none|.ret=>some .ret|.exit id=>some (.exit id)
def a4H(L:Nat)(e:Ex)(H:Heap):Rs:=match jS H L with
 | some (.loop ⟨_,_,fn,tmps,ps,a,b,d⟩)=>match c5n e with
   | none=>.th (.bool true) (hset H L (.loop ⟨.ready,none,fn,tmps,ps,a,b,d⟩))
   | some c=>.th (.bool false) (hset H L (.loop ⟨.done,some c,fn,tmps,ps,a,b,d⟩))
 | _=>.no
def b5S(L:Nat)(r:Rc):Rs:=match r with
 | .ok e _ H=>a4H L e H
 | .no=>.no
def a2s(ih:sE)(E:List LEnv)(en:LEnv)(f:Fr)(H:Heap):Rs:=match jS H en.L with
 | some (.loop ⟨.ready,p,fn,tmps,ps,a,b,d⟩)=>pH (hset H en.L (.loop ⟨.busy,p,fn,tmps,ps,a,b,d⟩)) fun H=>b5S en.L (ih E en.b f H)
 | _=>.no
def vK(ih:sE)(E:List LEnv)(en:LEnv)(r:Rc):Rs:=match r with
 | .ok .normal f H=>a2s ih E en f H
 | _=>.no
def b2q(ih:sE)(E:List LEnv)(L:Nat)(args:List Value)(H:Heap):Rs:=match b8j E L with
 | some en=>match jS H L with
   | some (.loop ⟨.ready,_,_,⟨tmps⟩,ps,_,_,_⟩)=>pO (a6d args ps.size) .no (qW .no tmps en.ps .e fun f=>qW .no args en.pp f fun f=>vK ih E en (ih E en.a f H))
   | _=>.no
 | none=>.no
def a1s(P:Program)(T:LT)(ih:sE)(E:List LEnv):Calls':=⟨c1A P T ih E,b2q ih E⟩
def d2f(_:Fr)(_:Heap):Rc:=.no
def d0q(f:Fr)(H:Heap):Rc:=.ok .normal f H
def d2o(P:Program)(T:LT)(ih:sE)(E:List LEnv)(ops:LOps)(f:Fr)(H:Heap):Rc:=c9X (a0Y P (a1s P T ih E) ops f H)
def d2d(P:Program)(T:LT)(ih:sE)(E:List LEnv)(ops:LOps)(tab:List (Nat×Option Nat×Option (Pth×Bool)×LOp))(f:Fr)(H:Heap):Rc:=c5Y P (a1s P T ih E) tab (tZ P (a1s P T ih E) ops [] f H)
def c4t(ih:sE)(E:List LEnv)(b:LCode)(r:Rc):Rc:=match r with
 | .ok .normal f H=>ih E b f H
 | r=>r
def d0Y(ih:sE)(E:List LEnv)(a b:LCode)(_ _:Fr→Heap→Rc)(f:Fr)(H:Heap):Rc:=c4t ih E b (ih E a f H)
def b8O(ih:sE)(E:List LEnv)(c:LArg)(x y:LCode)(_ _:Fr→Heap→Rc)(f:Fr)(H:Heap):Rc:=match oA f c with
 | .bool t=>ih E (Bool.rec (motive:=fun _=>LCode) y x t) f H
 | _=>.no
def c8r(id:Nat)(r:Rc):Rc:=match r with
 | .ok (.exit i) f H=>.ok (Bool.rec (motive:=fun _=>Ex) (.exit i) .normal (Nat.beq i id)) f H
 | r=>r
def c8e(ih:sE)(E:List LEnv)(id:Nat)(b:LCode)(_:Fr→Heap→Rc)(f:Fr)(H:Heap):Rc:=c8r id (ih E b f H)
def c8s(ih:sE)(E:List LEnv)(b:LCode)(_:Fr→Heap→Rc)(f:Fr)(H:Heap):Rc:=c4t ih E (.loop b) (ih E b f H)
def d0J(id:Nat)(f:Fr)(H:Heap):Rc:=.ok (.exit id) f H
def d1l(f:Fr)(H:Heap):Rc:=.ok .ret f H
def frL{α:Type}(f:Fr)(ps:List Pth):(List Value→α)→α:=List.rec (motive:=fun _=>(List Value→α)→α) (fun K=>K []) (fun p _ ih K=>qJ (pR p f) fun v=>ih fun l=>K (v::l)) ps
def xE(L:Nat)(f:Fr)(H:Heap):Rc:=match jS H L with
 | some (.loop ⟨.ready,none,fn,tmps,ps,a,b,d⟩)=>pH (hset H L (.loop ⟨.exhausted,none,fn,tmps,ps,a,b,d⟩)) fun H=>.ok .normal f H
 | some (.loop ⟨.done,none,fn,tmps,ps,a,b,d⟩)=>pH (hset H L (.loop ⟨.exhausted,none,fn,tmps,ps,a,b,d⟩)) fun H=>.ok .normal f H
 | some (.loop ⟨.done,some .ret,fn,tmps,ps,a,b,d⟩)=>pH (hset H L (.loop ⟨.exhausted,some .ret,fn,tmps,ps,a,b,d⟩)) fun H=>.ok .ret f H
 | some (.loop ⟨.done,some (.exit id),fn,tmps,ps,a,b,d⟩)=>pH (hset H L (.loop ⟨.exhausted,some (.exit id),fn,tmps,ps,a,b,d⟩)) fun H=>.ok (.exit id) f H
 | _=>.no
def b6w(L:Nat)(f:Fr)(r:Rs):Rc:=match r with
 | .no=>.no
 | .ok _ H=>xE L f H
 | .th _ H=>pH H fun H=>xE L f H
def b4x(T:LT)(ih:sE)(E:List LEnv)(f:Fr)(L:Nat)(k:FuncId)(args:List Value)(H:Heap):Rc:=nC (lU k) fun p=>b6w L f (nW T ih E p args H)
def b1O(T:LT)(ih:sE)(E:List LEnv)(g:LArg)(ps pp:List Pth)(params:Array Tmp)(assign body:Code)(a b:LCode)(_ _:Fr→Heap→Rc)(f:Fr)(H:Heap):Rc:=match oA f g with
 | .func (.func k) ⟨x⟩ ⟨y⟩=>lD H.length fun L=>frL f ps fun l=>pH (H.cons (.loop ⟨.ready,none,0,⟨l⟩,params,assign,body,0⟩)) fun H1=>
    lD k fun k=>b4x T ih (⟨L,ps,pp,a,b⟩::E) f L k (a6F x (.func (.yield L) #[] #[]::y)) H1
 | _=>.no
def b4Z(P:Program)(T:LT)(ih:sE)(E:List LEnv)(c:LCode):Fr→Heap→Rc:=
 LCode.rec (motive:=fun _=>Fr→Heap→Rc) d2f d0q (d2o P T ih E) (d2d P T ih E) (d0Y ih E) (b8O ih E) (c8e ih E) (c8s ih E) d0J d1l (b1O T ih E) c
def exF(P:Program)(T:LT)(n:Nat):sE:=Nat.rec (motive:=fun _=>sE) (fun _ _ _ _=>.no) (fun _ ih=>b4Z P T ih) n
section
variable {α:Type}
def nH(x:Operand)(K:LArg→α):α:=match x with
 | .tmp t=>nC (lU t) fun p=>K (.t p)
 | .const v=>K (.c v)
 | .global g=>K (.c (.pointer (some ⟨g,0,none⟩)))
 | .func k=>K (.c (.func (.func k) #[] #[]))
def a6W(l:List Operand):(List LArg→α)→α:=List.rec (motive:=fun _=>(List LArg→α)→α) (fun K=>K []) (fun x _ ih K=>nH x fun x=>ih fun l=>K (x::l)) l
def a5h(o:Option Nat)(d:α)(K:Nat→α):α:=match o with
 | some n=>lD n K
 | none=>d
def d1Q(k:IntKind)(a b:Int):Option Value:=some (.int k (zG k (c4I a b)))
def d1x(k:IntKind)(a b:Int):Option Value:=some (.int k (zG k (c2r a b)))
def c8n(a b:Int):Int:=match a,b with
 | .ofNat a,.ofNat b=>.ofNat (Nat.mul a b)
 | a,b=>a*b
def c9E(k:IntKind)(a b:Int):Option Value:=some (.int k (zG k (c8n a b)))
def d0d(a b:Int):Int:=match a,b with
 | .ofNat a,.ofNat b=>.ofNat (Nat.div a b)
 | a,b=>a.tdiv b
def c8E(a b:Int):Int:=match a,b with
 | .ofNat a,.ofNat b=>.ofNat (Nat.mod a b)
 | a,b=>a.tmod b
def c3L(k:IntKind)(a b:Int):Option Value:=match eqI b 0 with|true=>none|false=>some (.int k (zG k (d0d a b)))
def c2w(k:IntKind)(a b:Int):Option Value:=match eqI b 0 with|true=>none|false=>some (.int k (c8E a b))
def d1W(_:IntKind)(a b:Int):Option Value:=some (.bool (eqI a b))
def d1F(_:IntKind)(a b:Int):Option Value:=some (.bool (!eqI a b))
def d1Z(_:IntKind)(a b:Int):Option Value:=some (.bool (ltI a b))
def d1U(_:IntKind)(a b:Int):Option Value:=some (.bool (!ltI b a))
def d1O(_:IntKind)(a b:Int):Option Value:=some (.bool (ltI b a))
def d2a(_:IntKind)(a b:Int):Option Value:=some (.bool (!ltI a b))
def c4x(op:BinOp):Option (IntKind→Int→Int→Option Value):=match op with
 | .add=>some d1Q
 | .sub=>some d1x
 | .mul=>some c9E
 | .quo=>some c3L
 | .rem=>some c2w
 | .eql=>some d1W
 | .neq=>some d1F
 | .lss=>some d1Z
 | .leq=>some d1U
 | .gtr=>some d1O
 | .geq=>some d2a
 | _=>none
def c8f(d:Option TypeDesc):Bool:=match d with|some (.int _)=>true|_=>false
def d2r(P:Program)(s:TypeId)(f:Nat)(d:α)(K1:Nat→α)(Kn:Nat→Nat→α):α:=match qE P s f with
 | some fd=>lD fd.offset fun off=>match kM P fd.type with
   | some true=>a5h (jD P fd.type) d fun n=>Kn off n
   | some false=>K1 off
   | none=>d
 | none=>d
def c1j(P:Program)(o:Oper)(c:Call)(K:LOp→α):α:=match c.callee with
 | .value (.func k)=>nC (lU k) fun p=>a6W c.args.toList fun l=>K (.callF k p l)
 | .value g=>nH g fun g=>a6W c.args.toList fun l=>K (.callV g l)
 | .builtin .len=>pO (c.args.size==1&&c.argTypes.size==1) (K (.gen o)) (match P.underlying (c.argTypes.getD 0 0)with
    | some (.slice _)=>nH (c.args.getD 0 (.tmp 0)) fun x=>K (.len x)
    | some .string=>nH (c.args.getD 0 (.tmp 0)) fun x=>K (.slen x)
    | _=>K (.gen o))
 | .builtin .append=>pO (c.args.size==2&&c.argTypes.size==2&&((P.underlying (c.argTypes.getD 1 0)).map rX)==some true) (K (.gen o))
    (match jI P (c.argTypes.getD 0 0)with
     | some elem=>a5h (jD P elem) (K (.gen o)) fun size=>a5h (pF P elem) (K (.gen o)) fun bytes=>match kB P elem with
       | some z=>pO (z.cells.size==size&&size !=0) (K (.gen o)) (lD elem fun elem=>nH (c.args.getD 0 (.tmp 0)) fun x=>nH (c.args.getD 1 (.tmp 0)) fun y=>K (.app elem size bytes x y))
       | none=>K (.gen o)
     | none=>K (.gen o))
 | _=>K (.gen o)
def d0e(P:Program)(o:Oper)(K:LOp→α):α:=match o.op with
 | .move x=>nH x fun x=>K (.mv x)
 | .assign x=>nH x fun x=>K (.mv x)
 | .pick c a b=>nH c fun c=>nH a fun a=>nH b fun b=>K (.pick c a b)
 | .binOp op t x y _=>pO (c8f (P.underlying t)) (K (.gen o)) (match c4x op with
   | some g=>nH x fun x=>nH y fun y=>K (.bin g x y)
   | none=>K (.gen o))
 | .load t x=>match kM P t with
   | some true=>a5h (jD P t) (K (.gen o)) fun n=>nH x fun x=>K (.ldn n x)
   | some false=>nH x fun x=>K (.ld1 x)
   | none=>K (.gen o)
 | .store t x y=>a5h (jD P t) (K (.gen o)) fun n=>nH x fun x=>nH y fun y=>K (.st n x y)
 | .fieldAddr s x f=>match qE P s f with
   | some fd=>match jD P fd.type with
     | some 0=>K (.gen o)
     | some _=>lD fd.offset fun off=>nH x fun x=>K (.fa off x)
     | none=>K (.gen o)
   | none=>K (.gen o)
 | .indexAddr t x i=>match P.underlying t with
   | some (.slice elem)=>a5h (jD P elem) (K (.gen o)) fun size=>nH x fun x=>nH i fun i=>K (.ixs size x i)
   | some (.array n elem)=>a5h (jD P elem) (K (.gen o)) fun size=>nH x fun x=>nH i fun i=>K (.ixa n size x i)
   | _=>K (.gen o)
 | .extract t i=>lD i fun i=>nH t fun t=>K (.ext i t)
 | .call c=>c1j P o c K
 | _=>K (.gen o)
def a1l(P:Program)(o:Oper)(K:LOp→α):α:=pO (o.op.operands.toList.all jT) (K .bad) (d0e P o K)
def a8m(k:Nat)(d:Option Tmp)(no:α)(K:Option Pth→α):α:=match d with
 | none=>K none
 | some t=>pO (Nat.blt t k) no (nC (lU t) fun p=>K (some p))
def yB(P:Program)(k:Nat)(ops:Array Oper)(l:List Oper):(LOps→α)→α→α:=List.rec (motive:=fun _=>(LOps→α)→α→α) (fun K _=>K .nil)
 (fun o _ ih K no=>a8m k o.dst no fun d=>a1l P o fun o'=>match o.guard with
   | none=>ih (fun r=>K (.cons d o' r)) no
   | some (j,w)=>match (ops[j]?).bind (·.dst)with
     | some t=>pO (Nat.blt t k) no (nC (lU t) fun p=>a1Y w fun w=>ih (fun r=>K (.gcons p w d o' r)) no)
     | none=>no) l
def loG(k:Nat)(ops:Array Oper)(g:Option (Nat×Bool))(no:α)(K:Option (Pth×Bool)→α):α:=match g with
 | none=>K none
 | some (j,w)=>match (ops[j]?).bind (·.dst)with
   | some t=>pO (Nat.blt t k) no (nC (lU t) fun p=>a1Y w fun w=>K (some (p,w)))
   | none=>no
def wG(P:Program)(k:Nat)(ops:Array Oper)(N:Nat)(tab:List (Nat×Nat)):(List (Nat×Option Nat×Option (Pth×Bool)×LOp)→α)→α→α:=List.rec (motive:=fun _=>(List (Nat×Option Nat×Option (Pth×Bool)×LOp)→α)→α→α) (fun K _=>K [])
 (fun x _ ih K no=>match ops[x.1]? with
   | some o=>loG k ops o.guard no fun g=>a1l P o fun o'=>lD (N-1-x.1) fun i=>pO (Nat.blt x.2 N) (ih (fun l=>K ((i,none,g,o')::l)) no) (lD (N-1-x.2) fun m=>ih (fun l=>K ((i,some m,g,o')::l)) no)
   | none=>no) tab
def b9u(k:Nat):(List Pth→α)→α:=Nat.rec (motive:=fun _=>(List Pth→α)→α) (fun K=>K []) (fun n ih K=>nC (lU n) fun p=>ih fun l=>K (p::l)) k
def c6s{β:Type}(l:List β):List β→(List β→α)→α:=List.rec (motive:=fun _=>List β→(List β→α)→α) (fun a K=>K a) (fun x _ ih a K=>ih (x::a) K) l
def b6i(k:Nat)(K:List Pth→α):α:=b9u k fun l=>c6s l [] K
def a0s(k:Nat)(l:List Tmp):(List Pth→α)→α→α:=List.rec (motive:=fun _=>(List Pth→α)→α→α) (fun K _=>K []) (fun t _ ih K no=>pO (Nat.blt t k) no (nC (lU t) fun p=>ih (fun l=>K (p::l)) no)) l
def oS(P:Program)(k:Nat)(c:Code):(LCode→α)→α:=Code.rec (motive:=fun _=>(LCode→α)→α)
 (fun K=>K .skip)
 (fun _ ops d K=>Bool.rec (motive:=fun _=>α) (yB P k ops ops.toList (fun l=>K (.reg l)) (K .bad))
   (match oN P ops with
     | some []=>yB P k ops ops.toList (fun l=>K (.reg l)) (K .bad)
     | some tab=>yB P k ops ops.toList (fun l=>wG P k ops ops.size tab (fun t=>K (.drw l t)) (K .bad)) (K .bad)
     | none=>K .bad) d)
 (fun _ _ iha ihb K=>iha fun a=>ihb fun b=>K (.seq a b))
 (fun c _ _ ihx ihy K=>pO (jT c) (K .bad) (nH c fun c=>ihx fun x=>ihy fun y=>K (.cond c x y)))
 (fun id _ ih K=>lD id fun id=>ih fun b=>K (.block id b))
 (fun _ ih K=>ih fun b=>K (.loop b))
 (fun g ps assign body iha ihb K=>pO (jT g) (K .bad) (nH g fun g'=>b6i k fun pp=>a0s k ps.toList (fun q=>iha fun a=>ihb fun b=>K (.range g' pp q ps assign body a b)) (K .bad)))
 (fun id K=>lD id fun id=>K (.exit id))
 (fun _ _ K=>K .bad)
 (fun _ K=>K .skip)
 (fun _ K=>K .bad)
 (fun K=>K .ret)
 (fun _ K=>K .bad) c
def a2E(P:Program)(l:List ResultVar):(List LRes→α)→α→α:=List.rec (motive:=fun _=>(List LRes→α)→α→α) (fun K _=>K [])
 (fun r _ ih K no=>match r with
   | .tmp t=>nC (lU t) fun p=>ih (fun l=>K (.t p::l)) no
   | .cell a t=>match kM P t with
     | some true=>a5h (jD P t) no fun n=>nC (lU a) fun p=>ih (fun l=>K (.cn n p::l)) no
     | some false=>nC (lU a) fun p=>ih (fun l=>K (.c1 p::l)) no
     | none=>no) l
def a4o(P:Program)(f:FuncId)(no:α)(K:LFunc→α):α:=match P.funcs[f]? with
 | some fn=>match fn.body with
   | some c=>pO (fn.name== "runtime.NumGoroutine") (a2E P fn.results.toList (fun res=>b6i fn.ntmps fun ps=>oS P fn.ntmps c fun b=>K ⟨ps,b,res⟩) no) no
   | none=>no
 | none=>no
def uX(P:Program)(fs:List FuncId):LT→(LT→α)→α:=List.rec (motive:=fun _=>LT→(LT→α)→α) (fun T K=>K T)
 (fun f _ ih T K=>a4o P f (ih T K) fun g=>nC (lU f) fun p=>vA g p T fun T=>ih T K) fs
end
end
end Go.Ds
namespace Go.Ds
section
variable {α:Type}
theorem yR(f k:Nat):a6H (f+1) (k+1)=if k%2=0 then .l (a6H f (k/2))else .r (a6H f (k/2)):=by
 show Bool.rec (motive:=fun _=>Pth) (.r (a6H f (k/2))) (.l (a6H f (k/2))) (Nat.beq (k%2) 0)=_
 by_cases h:k%2=0
 ·rw[if_pos h,h];rfl
 ·rw[if_neg h]
  have:Nat.beq (k%2) 0=false:=gx.2 fun e=>h (eU e)
  rw[this]
theorem a5Y(f:Nat):a6H f 0=.z:=by cases f<;>rfl
theorem a4x:∀(f g a b:Nat),a≤f→b≤g→a6H f a=a6H g b→a=b
 | _,_,0,0,_,_,_=>rfl
 | 0,_,a+1,_,h,_,_=>by omega
 | _,0,_,b+1,_,h,_=>by omega
 | f,g+1,0,b+1,_,_,h=>by
   rw[a5Y,yR]at h
   split at h<;>cases h
 | f+1,g,a+1,0,_,_,h=>by
   rw[a5Y,yR]at h
   split at h<;>cases h
 | f+1,g+1,a+1,b+1,ha,hb,h=>by
   rw[yR,yR]at h
   by_cases h1:a%2=0
   ·rw[if_pos h1]at h
    by_cases h2:b%2=0
    ·rw[if_pos h2]at h
     injection h with h
     have:=a4x f g (a/2) (b/2) (by omega) (by omega) h
     omega
    ·rw[if_neg h2]at h;cases h
   ·rw[if_neg h1]at h
    by_cases h2:b%2=0
    ·rw[if_pos h2]at h;cases h
    ·rw[if_neg h2]at h
     injection h with h
     have:=a4x f g (a/2) (b/2) (by omega) (by omega) h
     omega
theorem b5c{a b:Nat}(h:lU a=lU b):a=b:=a4x _ _ _ _ (dG _) (dG _) h
theorem mV(p:Pth)(K:Pth→α):nC p K=K p:=by
 induction p generalizing K with
 | z=>rfl
 | l p ih=>exact ih _
 | r p ih=>exact ih _
theorem oJ(v:Value)(K:Value→α):qJ v K=K v:=by cases v<;>rfl
theorem wF(v:Value)(p:Pth)(f:Fr)(K:Fr→α):rV v p f K=K (rV v p f fun f=>f):=by
 induction p generalizing f α with
 | z=>cases f<;>rfl
 | l p ih=>
   cases f with
   | e=>
     show rV v p .e (fun l=>K (.n undef l .e))=K (rV v p .e fun l=>.n undef l .e)
     rw[ih,ih (K:=fun l=>Fr.n undef l .e)]
   | n w l r=>
     show rV v p l (fun l=>K (.n w l r))=K (rV v p l fun l=>.n w l r)
     rw[ih,ih (K:=fun l=>Fr.n w l r)]
 | r p ih=>
   cases f with
   | e=>
     show rV v p .e (fun l=>K (.n undef .e l))=K (rV v p .e fun l=>.n undef .e l)
     rw[ih,ih (K:=fun l=>Fr.n undef .e l)]
   | n w l r=>
     show rV v p r (fun r=>K (.n w l r))=K (rV v p r fun r=>.n w l r)
     rw[ih,ih (K:=fun r=>Fr.n w l r)]
theorem yE(p:Pth):pR p .e=undef:=by
 cases p<;>rfl
theorem b6p(v:Value)(p q:Pth)(f:Fr):(q=p→pR q (rV v p f fun f=>f)=v)∧(q≠p→pR q (rV v p f fun f=>f)=pR q f):=by
 induction p generalizing f q with
 | z=>
   refine⟨fun h=> ?_,fun h=> ?_⟩
   ·subst h;cases f<;>rfl
   ·cases q with
    | z=>exact absurd rfl h
    | l q=>
      cases f with
      | e=>show pR q .e=undef;exact yE q
      | n=>rfl
    | r q=>
      cases f with
      | e=>show pR q .e=undef;exact yE q
      | n=>rfl
 | l p ih=>
   have h1:∀f,rV v (.l p) f (fun f=>f)=match f with|.e=>.n undef (rV v p .e fun f=>f) .e|.n w l r=>.n w (rV v p l fun f=>f) r:=fun f=>by
    cases f with
    | e=>exact wF v p .e fun l=>Fr.n undef l .e
    | n w l r=>exact wF v p l fun l=>Fr.n w l r
   rw[h1]
   cases q with
   | z=>exact⟨fun h=>(nomatch h),fun _=>by cases f<;>rfl⟩
   | r q=>
     refine⟨fun h=>(nomatch h),fun _=> ?_⟩
     cases f with
     | e=>show pR q .e=undef;exact yE q
     | n=>rfl
   | l q=>
     refine⟨fun h=> ?_,fun h=> ?_⟩
     ·injection h with h
      cases f with
      | e=>exact(ih q .e).1 h
      | n w l r=>exact(ih q l).1 h
     ·have h:q≠p:=fun e=>h (by rw[e])
      cases f with
      | e=>show pR q (rV v p .e fun f=>f)=undef;rw[(ih q .e).2 h,yE]
      | n w l r=>exact(ih q l).2 h
 | r p ih=>
   have h1:∀f,rV v (.r p) f (fun f=>f)=match f with|.e=>.n undef .e (rV v p .e fun f=>f)|.n w l r=>.n w l (rV v p r fun f=>f):=fun f=>by
    cases f with
    | e=>exact wF v p .e fun l=>Fr.n undef .e l
    | n w l r=>exact wF v p r fun r=>Fr.n w l r
   rw[h1]
   cases q with
   | z=>exact⟨fun h=>(nomatch h),fun _=>by cases f<;>rfl⟩
   | l q=>
     refine⟨fun h=>(nomatch h),fun _=> ?_⟩
     cases f with
     | e=>show pR q .e=undef;exact yE q
     | n=>rfl
   | r q=>
     refine⟨fun h=> ?_,fun h=> ?_⟩
     ·injection h with h
      cases f with
      | e=>exact(ih q .e).1 h
      | n w l r=>exact(ih q r).1 h
     ·have h:q≠p:=fun e=>h (by rw[e])
      cases f with
      | e=>show pR q (rV v p .e fun f=>f)=undef;rw[(ih q .e).2 h,yE]
      | n w l r=>exact(ih q r).2 h
def FAg(f:Fr)(l:List Value):Prop:=∀t,pR (lU t) f=get l t
def FRel(k:Nat)(f:Fr)(l:List Value):Prop:=l.length=k∧FAg f l
noncomputable def b8F (f:Fr) (t:Tmp) (v:Value):Fr:=rV v (lU t) f fun f=>f
theorem a6q(f:Fr)(t u:Tmp)(v:Value):pR (lU u) (b8F f t v)=if u=t then v else pR (lU u) f:=by
 have h:=b6p v (lU t) (lU u) f
 by_cases he:u=t
 ·rw[if_pos he];exact h.1 (by rw[he])
 ·rw[if_neg he];exact h.2 (fun e=>he (b5c e))
theorem FRel.put{k:Nat}{f:Fr}{l:List Value}(h:FRel k f l){t:Tmp}(ht:t<k)(v:Value):FRel k (b8F f t v) (Go.Ds.put l (some t) v):=by
 refine⟨by simp[Go.Ds.put,oO,h.1],fun u=> ?_⟩
 rw[a6q,b4M]
 by_cases he:u=t
 ·subst he;rw[if_pos rfl,if_pos ⟨rfl,by rw[h.1];exact ht⟩]
 ·rw[if_neg he,if_neg (fun hh=>he (dA hh.1).symm)];exact h.2 u
theorem FRel.set{k:Nat}{f:Fr}{l:List Value}(h:FRel k f l){t:Tmp}(ht:t<k)(v:Value):FRel k (b8F f t v) (l.set t v):=by
 have:=h.put ht v
 simpa [Go.Ds.put,oO]using this
def Rs.Is(r:Rs)(v:Value)(H:Heap):Prop:=r=.ok v H∨r=.th v H
theorem Rs.ax{v:Value}{H:Heap}:¬Rs.no.Is v H:=by rintro(h|h)<;>cases h
theorem Rs.aP{v w:Value}{H H1:Heap}(h:(Rs.ok v H).Is w H1):w=v∧H1=H:=by
 rcases h with h|h
 ·injection h with a b;exact⟨a.symm,b.symm⟩
 ·cases h
theorem Rs.aU{v w:Value}{H H1:Heap}(h:(Rs.th v H).Is w H1):w=v∧H1=H:=by
 rcases h with h|h
 ·cases h
 ·injection h with a b;exact⟨a.symm,b.symm⟩
theorem lM(b:Bool)(no x:α):pO b no x=if b=true then x else no:=by cases b<;>rfl
theorem mO{b:Bool}{x:Rs}{v:Value}{H:Heap}(h:(pO b Rs.no x).Is v H):b=true∧x.Is v H:=by
 cases b with
 | false=>exact absurd h Rs.ax
 | true=>exact⟨rfl,h⟩
theorem a1o{β:Type}:∀(cs:List β)(e:Nat),b0S cs e=decide (e≤cs.length)
 | [],0=>rfl
 | [],e+1=>by simp;rfl
 | _::_,0=>rfl
 | _::cs,e+1=>by show b0S cs e=_;rw[a1o cs e];simp
theorem a0F{β:Type}:∀(cs:List β)(e:Nat),a6d cs e=decide (e=cs.length)
 | [],0=>rfl
 | [],e+1=>by simp;rfl
 | _::_,0=>by simp;rfl
 | _::cs,e+1=>by show a6d cs e=_;rw[a0F cs e];simp
theorem a0v{β:Type}:∀(cs:List β)(e:Nat),a2J cs e=cs[e]?
 | [],_=>rfl
 | _::_,0=>rfl
 | _::cs,e+1=>by show a2J cs e=_;rw[a0v cs e];simp
theorem a8F{β:Type}:∀(cs:List β)(e:Nat),b4y cs e=cs.drop e
 | [],e=>by cases e<;>rfl
 | _::_,0=>rfl
 | _::cs,e+1=>by show b4y cs e=_;rw[a8F cs e];rfl
theorem b0H{β:Type}:∀{cs:List β}{n:Nat}{K:List β→Rs}{v:Value}{H:Heap},(a3P cs n K).Is v H→n≤cs.length∧(K (cs.take n)).Is v H
 | [],0,K,v,H,h=>⟨dG _,h⟩
 | [],n+1,K,v,H,h=>absurd h Rs.ax
 | _::_,0,K,v,H,h=>⟨fA _,h⟩
 | c::cs,n+1,K,v,H,h=>by
   have h':(a3P cs n fun l=>K (c::l)).Is v H:=h
   obtain⟨h1,h2⟩:=b0H h'
   exact⟨by simp;omega,h2⟩
theorem c3j{a b:IntKind}(h:Nat.beq (kIx a) (kIx b)=true):a=b:=by
 cases a<;>cases b<;>first|rfl|(exact absurd h (by decide))
theorem c1H(k:Nat)(K:List Pth→α):b9u k K=K ((List.range k).map lU).reverse:=by
 induction k generalizing K with
 | zero=>rfl
 | succ n ih=>
   show nC (lU n) (fun p=>b9u n fun l=>K (p::l))=_
   rw[mV,ih,eR]
   simp
theorem c2S{β:Type}(l:List β):∀(a:List β)(K:List β→α),c6s l a K=K (l.reverse++a):=by
 induction l with
 | nil=>intro a K;rfl
 | cons x l ih=>intro a K;show c6s l (x::a) K=_;rw[ih];simp
theorem b3Z(k:Nat)(K:List Pth→α):b6i k K=K ((List.range k).map lU):=by
 unfold b6i;rw[c1H,c2S];simp
theorem qZ(n:Nat)(d:α)(K:Nat→α):a5h (some n) d K=K n:=lA n K
def LK(H H':Heap):Prop:=H.length≤H'.length∧∀A r',A<H.length→jS H' A=some (.loop r')→
 ∃r,jS H A=some (.loop r)∧r'.assign=r.assign∧r'.body=r.body∧r'.params=r.params∧r'.tmps=r.tmps
theorem LK.refl(H:Heap):LK H H:=⟨dG _,fun _ r _ h=>⟨r,h,rfl,rfl,rfl,rfl⟩⟩
theorem LK.trans{H H1 H2:Heap}(h:LK H H1)(k:LK H1 H2):LK H H2:=⟨dZ h.1 k.1,fun A r' hA hr=>by
 obtain⟨r1,h1,a1,b1,c1,d1⟩:=k.2 A r' (eH hA h.1) hr
 obtain⟨r,h2,a2,b2,c2,d2⟩:=h.2 A r1 hA h1
 exact⟨r,h2,a1.trans a2,b1.trans b2,c1.trans c2,d1.trans d2⟩⟩
def Blk.cC:Blk→Bool
 | .loop _=>true
 | _=>false
theorem LK.hset(H:Heap)(A:Nat){b:Blk}(hb:b.cC=false):LK H (hset H A b):=by
 refine⟨by rw[kN];exact dG _,fun B r' hB h=> ?_⟩
 by_cases he:A=B
 ·subst he;rw[jQ _ hB]at h;injection h with h;subst h;cases hb
 ·rw[kC _ he]at h;exact⟨r',h,rfl,rfl,rfl,rfl⟩
theorem LK.cons(H:Heap)(b:Blk):LK H (H.cons b):=by
 refine⟨by rw[length_cons];omega,fun B r' hB h=> ?_⟩
 rw[kS b hB]at h;exact⟨r',h,rfl,rfl,rfl,rfl⟩
theorem LK.row(H:Heap)(ty:TypeId)(cs:List Value):LK H (uI H ty cs):=by rw[mR];exact .cons _ _
theorem LK.loop{H:Heap}{L:Nat}{r r':Loop}(h:jS H L=some (.loop r))(e:r'.assign=r.assign∧r'.body=r.body∧r'.params=r.params∧r'.tmps=r.tmps):LK H (Go.Ds.hset H L (.loop r')):=by
 refine⟨by rw[kN];exact dG _,fun B r2 hB hg=> ?_⟩
 by_cases he:L=B
 ·subst he;rw[jQ _ hB]at hg;injection hg with hg;injection hg with hg;subst hg;exact⟨r,h,e⟩
 ·rw[kC _ he]at hg;exact⟨r2,hg,rfl,rfl,rfl,rfl⟩
variable {P:Program}
theorem b0N{H H':Heap}{t:TypeId}{p v:Value}(h:tC P H t p v=some H'):LK H H':=by
 unfold tC at h
 split at h
 ·split at h
  ·dsimp only at h
   split at h
   ·injection h with h;subst h;exact .hset _ _ rfl
   ·cases h
  ·cases h
 ·cases h
theorem a5u{H H':Heap}{t:TypeId}{v r:Value}(h:zS P H t v=some (r,H')):LK H H':=by
 unfold zS at h
 dsimp only at h
 split at h
 ·injection h with h;injection h with _ h;subst h;exact .row _ _ _
 ·cases h
theorem a6Z{H H':Heap}{t:TypeId}{s x r:Value}(h:pB P H t s x=some (r,H')):LK H H':=by
 unfold pB at h
 simp only[dD]at h
 obtain⟨elem,_,size,_,bytes,_,z,_,⟨n,l⟩,_,h⟩:=h
 try dsimp only at h
 split at h
 ·split at h
  ·split at h
   ·injection h with h;injection h with _ h;subst h;exact .refl _
   ·injection h with h;injection h with _ h;subst h;exact .row _ _ _
  ·cases h
 ·split at h
  ·split at h
   ·injection h with h;injection h with _ h;subst h;exact .hset _ _ rfl
   ·split at h
    ·injection h with h;injection h with _ h;subst h;exact .hset _ _ rfl
    ·cases h
  ·cases h
 ·cases h
theorem b0x{H H':Heap}{t:TypeId}{v r:Value}(h:tL P H t v=some (r,H')):LK H H':=by
 unfold tL at h
 split at h
 ·dsimp only at h
  rename_i n elem _
  have key:∀(b:Bool),(if b=true then some (Value.pointer (some ⟨H.length,0,some v.cells.toList.length⟩),b9E H elem v.cells.toList)else none)=some (r,H')→LK H H':=by
   intro b h
   cases b
   ·cases h
   ·injection h with h;injection h with _ h;subst h;rw[a2Y];exact .cons _ _
  exact key _ h
 ·exact a5u h
theorem a7r{H H':Heap}{t:TypeId}{x y r:Value}(h:yZ P H t x y=some (r,H')):LK H H':=by
 unfold yZ at h
 split at h
 ·split at h
  ·split at h
   ·simp only[dJ]at h
    obtain⟨_,_,h⟩:=h
    injection h with _ h;subst h;exact .hset _ _ rfl
   ·cases h
  ·cases h
 ·cases h
theorem a7o{H H':Heap}{k:FuncId}{args:List Value}{r:Value}(h:sL P k args H=some (r,H')):LK H H':=by
 unfold sL at h
 simp only[dD]at h
 obtain⟨fn,_,h⟩:=h
 split at h
 case isFalse=>cases h
 split at h
 ·split at h
  ·injection h with h;injection h with _ h;subst h;exact .refl _
  ·cases h
 split at h
 ·split at h
  ·split at h
   ·simp only[dD]at h
    obtain⟨_,_,h⟩:=h
    split at h
    ·injection h with h;injection h with _ h;subst h;exact .row _ _ _
    ·cases h
   ·cases h
  ·cases h
 split at h
 ·split at h
  ·split at h
   ·split at h
    ·injection h with h;injection h with _ h;subst h;exact .refl _
    ·cases h
   ·cases h
  ·cases h
 ·cases h
theorem b2p{H H':Heap}{t:TypeId}{s x r:Value}(h:a4v P H t s x=some (r,H')):LK H H':=by
 unfold a4v at h
 simp only[dD]at h
 obtain⟨elem,_,size,_,m,_,h⟩:=h
 try dsimp only at h
 split at h
 ·split at h
  ·injection h with h;injection h with _ h;subst h;exact .refl _
  ·cases h
 ·split at h
  ·injection h with h;injection h with _ h;subst h;exact .refl _
  ·simp only[dD]at h
   obtain⟨l,_,h⟩:=h
   split at h
   ·split at h
    ·injection h with h;injection h with _ h;subst h;exact .hset _ _ rfl
    ·cases h
   ·cases h
 ·cases h
theorem a9Q{H H':Heap}{t:TypeId}{x r:Value}(h:vM P H t x=some (r,H')):LK H H':=by
 unfold vM at h
 simp only[dD]at h
 obtain⟨elem,_,z,_,h⟩:=h
 split at h
 ·injection h with h;injection h with _ h;subst h;exact .refl _
 ·split at h
  ·injection h with h;injection h with _ h;subst h;exact .refl _
  ·try dsimp only at h
   split at h
   ·split at h
    ·injection h with h;injection h with _ h;subst h;exact .hset _ _ rfl
    ·cases h
   ·cases h
 ·cases h
theorem b5t{H H':Heap}{t:TypeId}{m k v:Value}(h:a2L P H t m k v=some H'):LK H H':=by
 unfold a2L at h
 simp only[dD]at h
 obtain⟨⟨kt,et⟩,_,h⟩:=h
 dsimp only at h
 split at h
 ·split at h
  ·split at h
   ·simp only[dD]at h
    obtain⟨r,_,h⟩:=h
    split at h
    ·simp only[dD]at h
     obtain⟨e,_,h⟩:=h
     split at h
     ·injection h with h;subst h;exact .hset _ _ rfl
     ·cases h
    ·injection h with h;subst h;exact .hset _ _ rfl
   ·cases h
  ·cases h
 ·cases h
theorem a9I{H H':Heap}{t:TypeId}{m k r:Value}(h:wB P H t m k=some (r,H')):LK H H':=by
 unfold wB at h
 simp only[dD]at h
 obtain⟨⟨kt,et⟩,_,h⟩:=h
 dsimp only at h
 split at h
 ·split at h
  ·split at h
   ·simp only[dD]at h
    obtain⟨r,_,h⟩:=h
    split at h
    ·simp only[dD]at h
     obtain⟨e,_,h⟩:=h
     split at h
     ·injection h with h;injection h with _ h;subst h;exact .hset _ _ rfl
     ·cases h
    ·simp only[dD]at h
     obtain⟨z,_,h⟩:=h
     split at h
     ·injection h with h;injection h with _ h;subst h;exact .hset _ _ rfl
     ·cases h
   ·cases h
  ·cases h
 ·cases h
theorem a8j{H H':Heap}{m b v:Value}(h:uG H m b v=some H'):LK H H':=by
 unfold uG at h
 split at h
 ·split at h
  ·split at h
   ·simp only[dD]at h
    obtain⟨e,_,h⟩:=h
    injection h with h;subst h;exact .hset _ _ rfl
   ·cases h
  ·cases h
 ·cases h
theorem a5l{H H':Heap}{t:TypeId}{o:Option Value}{r:Value}(h:rR P H t o=some (r,H')):LK H H':=by
 unfold rR at h
 simp only[dD]at h
 obtain⟨_,_,h⟩:=h
 split at h
 ·injection h with h;injection h with _ h;subst h;exact .cons _ _
 ·injection h with h;injection h with _ h;subst h;exact .cons _ _
 ·cases h
theorem b0M{H H':Heap}{o:Oper}{l:List Value}{r:Value}(h:lT P o l H=some (r,H')):H'=H:=by
 unfold lT at h
 split at h
 ·split at h
  ·split at h
   ·injection h with h;injection h with _ h;exact h.symm
   ·cases h
  ·cases h
 ·cases h
theorem yS{H H':Heap}{v r:Value}(h:some (v,H)=some (r,H')):LK H H':=by injection h with h;injection h with _ h;subst h;exact .refl _
theorem xU{H H':Heap}{v:Option Value}{r:Value}(h:v.map (fun v=>(v,H))=some (r,H')):LK H H':=by
 cases v with
 | none=>cases h
 | some v=>exact yS h
set_option maxHeartbeats 1000000 in
theorem c0B{H H':Heap}{o:Oper}{l:List Value}{r:Value}(h:opD P o l H=some (r,H')):LK H H':=by
 obtain⟨dst,op,type,pos,after,guard⟩:=o
 have pl:∀{o:Oper},lT P o l H=some (r,H')→LK H H':=fun h=>by rw[b0M h];exact .refl _
 cases op with
 | alloc t=>
   simp only[opD,dD]at h
   obtain⟨z,_,h⟩:=h
   split at h
   ·exact b0x h
   ·cases h
 | box t x=>simp only[opD]at h;exact a5u h
 | store t x y=>
   simp only[opD,dJ]at h
   obtain⟨H1,h,e⟩:=h
   injection e with _ e;subst e
   exact b0N h
 | mapUpdate t m x y=>
   simp only[opD,dJ]at h
   obtain⟨H1,h,e⟩:=h
   injection e with _ e;subst e
   exact b5t h
 | mapEntry t m x=>simp only[opD]at h;exact a9I h
 | entryStore t m x y=>
   simp only[opD,dJ]at h
   obtain⟨H1,h,e⟩:=h
   injection e with _ e;subst e
   exact a8j h
 | makeMap t x=>simp only[opD]at h;exact a5l h
 | buildSlice t len parts=>
   simp only[opD,dD]at h
   obtain⟨elem,_,size,_,z,_,h⟩:=h
   split at h
   ·injection h with h;injection h with _ h;subst h;exact .row _ _ _
   split at h
   ·simp only[dJ]at h
    obtain⟨cs,_,e⟩:=h
    injection e with _ e;subst e
    exact .row _ _ _
   ·cases h
 | makeSlice t n c=>
   simp only[opD,dD]at h
   obtain⟨elem,_,size,_,bytes,_,z,_,h⟩:=h
   split at h
   ·split at h
    ·injection h with h;injection h with _ h;subst h;exact .row _ _ _
    ·cases h
   ·cases h
 | call c=>
   simp only[opD]at h
   split at h
   ·split at h
    ·split at h
     all_goals first|exact xU h|cases h
    ·cases h
   ·split at h
    ·exact a6Z h
    ·cases h
   ·split at h
    ·exact b2p h
    ·cases h
   ·split at h
    ·exact a9Q h
    ·cases h
   ·exact pl h
   ·split at h
    ·split at h
     ·split at h
      ·cases h
      ·exact yS h
     ·cases h
    ·cases h
   ·split at h
    ·exact a7r h
    ·cases h
   ·exact pl h
   ·exact pl h
   ·cases h
 | convert s t x=>
   simp only[opD]at h
   split at h
   ·exact pl h
   ·split at h
    ·split at h
     ·exact xU h
     ·cases h
    ·split at h
     ·simp only[dD]at h
      obtain⟨_,_,h⟩:=h
      injection h with h;injection h with _ h;subst h
      rw[b4A];exact .cons _ _
     ·cases h
    ·split at h
     ·exact yS h
     ·cases h
    ·cases h
 | slice t x lo hi mx=>
   cases mx with
   | some _=>simp only[opD]at h;cases h
   | none=>
     simp only[opD]at h
     split at h
     ·exact pl h
     ·split at h
      ·exact xU h
      ·exact xU h
 | _=>
   simp only[opD]at h
   repeat' first
    | exact LK.refl _
    | exact yS h
    | exact xU h
    | exact pl h
    | (cases h;done)
    | split at h
    | (simp only[dD,dJ]at h;obtain⟨_,_,h⟩:=h)
    | (obtain⟨_,_,h⟩:=h)
    | (injection h with h;injection h with _ h;subst h;exact LK.refl _)
    | (injection h with _ h;subst h;exact LK.refl _)
    | (cases h;exact LK.refl _)
end
end Go.Ds
