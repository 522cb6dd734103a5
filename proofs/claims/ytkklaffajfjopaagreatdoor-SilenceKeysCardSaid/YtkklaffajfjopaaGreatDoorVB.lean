/-
  A part of the proof of SilenceKeys.
-/
import Derived.Test.YtkklaffajfjopaaGreatDoorVA
import Derived.Below
import Derived.Deep.Slices
set_option linter.unusedVariables false
set_option linter.unusedSimpArgs false
set_option linter.defProp false
set_option linter.unusedSectionVars false
namespace Go.Ds
section
variable {P:Program} {ρ:Rho} {H:Heap} {w:World} {fl:Fl}
theorem HRel.bk(h:HRel P ρ H w)(cs:List Value)(ty:TypeId)(tg:Nat)(p:Place)(hoff:Off ρ p.b)(hlt:p.b<w.heap.size)
 (hcell:CellsAt P (ρ.put H.length cs.length p) w cs ty true tg cs.length cs.length p):
 HRel P (ρ.put H.length cs.length p) (H.cons (.cells cs ty true cs.length tg)) w:=by
 have hno:∀f,ρ H.length f=none:=fun f=>pQ h f
 have hle:ρ.Le (ρ.put H.length cs.length p):=.put (hno _)
 have hold:∀A f q,(ρ.put H.length cs.length p) A f=some q→(A=H.length∧f=cs.length∧q=p)∨(A<H.length∧ρ A f=some q∧q.b≠p.b):=fun A f q hq=>by
  by_cases hh:A=H.length∧f=cs.length
  ·obtain⟨rfl,rfl⟩:=hh;rw[Rho.ak]at hq;exact .inl ⟨rfl,rfl,(da hq).symm⟩
  ·rw[Rho.aQ hh]at hq;exact .inr ⟨(h.dom _ _ _ hq).1,hq,hoff _ _ _ hq⟩
 have hget_old:∀A,A<H.length→iR (H.cons (.cells cs ty true cs.length tg)) A=iR H A:=fun A hA=>jS _ hA
 refine⟨?_,?_,?_,?_,?_,?_,fun A hA=>by
  by_cases he:A=H.length
  ·subst he;rw[iS];rfl
  ·rw[length_cons]at hA;rw[hget_old A (by omega)];exact h.full A (by omega),fun A cs' ty' lo' hg=>by
  have hA:A<(H.cons (.cells cs ty true cs.length tg)).length:=jI hg
  by_cases he:A=H.length
  ·subst he;rw[iS]at hg;cases hg
  ·have hA':A<H.length:=by simp at hA;omega
   rw[hget_old A hA']at hg
   obtain⟨q,h1,h2,h3⟩:=h.glob _ _ _ _ hg
   exact⟨q,hle _ _ _ h1,h2,h3⟩⟩
 ·intro A f q hq
  rcases hold A f q hq with⟨rfl,rfl,rfl⟩|⟨hA,hq',_⟩
  ·exact⟨by simp,hlt⟩
  ·exact⟨by simp;omega,(h.dom _ _ _ hq').2⟩
 ·intro A cs' ty' rw' lo' ver' hg
  have hA:A<(H.cons (.cells cs ty true cs.length tg)).length:=jI hg
  by_cases he:A=H.length
  ·subst he
   rw[iS]at hg
   injection (da hg)with e1 e2 e3 e4 e5
   subst e1 e2 e3 e4 e5
   refine⟨⟨p,Rho.ak _ _ _ _⟩,fun f q hq=> ?_⟩
   rcases hold _ f q hq with⟨_,rfl,rfl⟩|⟨hlt,_,_⟩
   ·exact hcell
   ·exact absurd hlt (eR _)
  ·have hA':A<H.length:=by simp at hA;omega
   rw[hget_old A hA']at hg
   obtain⟨⟨q,hq⟩,hall⟩:=h.cells _ _ _ _ _ _ hg
   refine⟨⟨q,hle _ _ _ hq⟩,fun f q hq=> ?_⟩
   rcases hold _ f q hq with⟨rfl,_,_⟩|⟨_,hq',_⟩
   ·exact absurd hA' (eR _)
   ·exact(hall f q hq').world hle rfl
 ·intro A es ck ver hg
  have hA:A<(H.cons (.cells cs ty true cs.length tg)).length:=jI hg
  by_cases he:A=H.length
  ·subst he;rw[iS]at hg;cases hg
  ·have hA':A<H.length:=by simp at hA;omega
   rw[hget_old A hA']at hg
   obtain⟨q,es',hq,hw,hall⟩:=h.map _ _ _ _ hg
   exact⟨q,es',hle _ _ _ hq,hw,hall.mono fun _ _ x=>x.mono hle⟩
 ·intro A r hg
  have hA:A<(H.cons (.cells cs ty true cs.length tg)).length:=jI hg
  by_cases he:A=H.length
  ·subst he;rw[iS]at hg;cases hg
  ·have hA':A<H.length:=by simp at hA;omega
   rw[hget_old A hA']at hg
   obtain⟨q,r',hq,hw,hall⟩:=h.loop _ _ hg
   exact⟨q,r',hle _ _ _ hq,hw,hall.mono hle⟩
 ·intro A f q blk' hq hg
  rcases hold A f q hq with⟨rfl,rfl,rfl⟩|⟨hA,hq',_⟩
  ·rw[iS]at hg
   obtain rfl:=da hg
   exact .inl rfl
  ·rw[hget_old A hA]at hg
   exact h.one _ _ _ _ hq' hg
 ·intro A f q A2 f2 q2 blk' hq hq2 hbb hg hwr
  rcases hold A f q hq with⟨rfl,rfl,rfl⟩|⟨hA,hq',hqb⟩
  ·rcases hold A2 f2 q2 hq2 with⟨rfl,rfl,rfl⟩|⟨hA2,hq2',hqb2⟩
   ·exact⟨rfl,rfl⟩
   ·exact absurd hbb.symm hqb2
  ·rcases hold A2 f2 q2 hq2 with⟨rfl,rfl,rfl⟩|⟨hA2,hq2',hqb2⟩
   ·exact absurd hbb hqb
   ·rw[hget_old A hA]at hg
    exact h.excl _ _ _ _ _ _ _ hq' hq2' hbb hg hwr
theorem Post.bk{ρ0:Rho}{H0:Heap}{W0:World}(h:Post P ρ0 H0 W0 ρ H w)(cs:List Value)(ty:TypeId)(tg:Nat)(p:Place)(hoff:Off ρ p.b)(hlt:p.b<w.heap.size)(hW:W0.heap.size≤p.b)
 (hcell:CellsAt P (ρ.put H.length cs.length p) w cs ty true tg cs.length cs.length p):
 Post P ρ0 H0 W0 (ρ.put H.length cs.length p) (H.cons (.cells cs ty true cs.length tg)) w:=by
 have hle:ρ.Le (ρ.put H.length cs.length p):=.put (pQ h.rel _)
 have hold:∀A f q,(ρ.put H.length cs.length p) A f=some q→q=p∨(A<H.length∧ρ A f=some q):=fun A f q hq=>by
  by_cases hh:A=H.length∧f=cs.length
  ·obtain⟨rfl,rfl⟩:=hh;rw[Rho.ak]at hq;exact .inl (da hq).symm
  ·rw[Rho.aQ hh]at hq;exact .inr ⟨(h.rel.dom _ _ _ hq).1,hq⟩
 refine⟨h.le.trans hle,h.rel.bk cs ty tg p hoff hlt hcell,by have:=h.len;simp;omega,h.size,h.os,h.tape,h.output,fun b hb hw=>⟨(h.frame b hb hw).1,?_⟩,h.loops,fun b hb hw A f q hq=> ?_⟩
 ·rintro⟨A,f,q,kJ,hq,rfl,hg,hwr⟩
  rcases hold A f q hq with rfl|⟨hA,hq'⟩
  ·omega
  ·rw[jS _ hA]at hg
   exact(h.frame _ hb hw).2 ⟨A,f,q,kJ,hq',rfl,hg,hwr⟩
 ·rcases hold A f q hq with rfl|⟨hA,hq'⟩
  ·omega
  ·exact h.img b hb hw _ _ _ hq'
structure PendAt(P:Program)(ρ:Rho)(w:World)(H Hn:Heap)(v v':Value)(b:Nat)(cs:List Value)(cs':Array Value)(ty ty':TypeId)(tg k:Nat):Prop where
 here:w.heap[b]? =some (.cells cs' ty')
 next:Hn=H.cons (.cells cs ty true cs.length tg)
 rel:All2 (C1 ρ) cs cs'.toList
 val:∀ρ1:Rho,ρ1 H.length cs.length=some ⟨b,0,cs.length,k⟩→V ρ1 v v'
 at_:∀(ρ:Rho)(w:World),w.heap[b]? =some (.cells cs' ty')→All2 (C1 ρ) cs cs'.toList→CellsAt P ρ w cs ty true tg cs.length cs.length ⟨b,0,cs.length,k⟩
theorem PendAt.mono{ρ':Rho}{w':World}{H Hn:Heap}{v v':Value}{b:Nat}{cs:List Value}{cs':Array Value}{ty ty':TypeId}{tg k:Nat}(h:PendAt P ρ w H Hn v v' b cs cs' ty ty' tg k)(hle:ρ.Le ρ')(hw:w'.heap[b]? =w.heap[b]?):PendAt P ρ' w' H Hn v v' b cs cs' ty ty' tg k:=
 ⟨by rw[hw];exact h.here,h.next,h.rel.mono fun _ _ h=>h.mono hle,h.val,h.at_⟩
theorem oN{o:Op}(h:iT fl o=true):jL fl o=false:=by
 cases o<;>first|rfl|(simp[iT]at h;done)|(simp[iT]at h;simp[jL,h])
theorem tH{i:Nat}{o:Op}(h:iT fl o=true):lR fl i o=some i:=by simp[lR,h]
theorem qW{i b:Nat}{o:Op}(h:iT fl o=false)(hh:lR fl i o=some b):fl.base i=some b∧∃t x ix,o=.indexAddr t x ix:=by
 unfold lR at hh
 rw[h]at hh
 simp only[dR,if_false]at hh
 split at hh
 ·exact⟨hh,_,_,_,rfl⟩
 ·cases hh
theorem Der.plain{ops:Array Oper}{j i:Nat}{d:Tmp}{o:Op}(h:Der fl ops j d i o):jL fl o=false∧iT fl o=false:=by
 cases h<;>exact⟨rfl,rfl⟩
theorem Draw.bZ{ops:Array Oper}(D:Draw P fl ops){i j:Nat}{o:Oper}(ho:ops[i]? =some o)(hj:fl.base i=some j):j<i∧jL fl o.op=false∧iT fl o.op=false:=by
 obtain⟨h1,_,_,_,_,_,_,_,_,_,_,_,h2⟩:=D.aA ho hj
 exact⟨h1,h2.plain⟩
theorem Draw.aV{ops:Array Oper}(D:Draw P fl ops){i b:Nat}{o:Oper}(ho:ops[i]? =some o)(hh:lR fl i o.op=some b):b≤i∧∃y,ops[b]? =some y∧iT fl y.op=true:=by
 cases ha:iT fl o.op with
 | true=>
   rw[tH ha]at hh
   obtain rfl:=da hh
   exact⟨dj _,o,ho,ha⟩
 | false=>
   obtain⟨h1,_⟩:=qW ha hh
   obtain⟨h2,_,_,y,_,_,_,_,h3,_,_,h4,_⟩:=D.aA ho h1
   exact⟨by omega,y,h3,h4⟩
theorem a9F{o:Oper}(ho:iT fl o.op=true){l:List Value}{v:Value}{H':Heap}(hd:opD P o l H=some (v,H')):∃kJ,H'=H.cons kJ:=by
 obtain⟨dst,op,type,pos,after,guard⟩:=o
 simp only at ho
 cases op with
 | alloc t=>
   simp only[opD,db]at hd
   obtain⟨z,hz,hd⟩:=hd
   split at hd
   case isFalse=>cases hd
   have newc:wS P H t z=some (v,H')→∃kJ,H'=H.cons kJ:=by
    intro hd
    unfold wS at hd
    simp only at hd
    split at hd
    case isFalse=>cases hd
    injection (da hd)with e1 e2
    exact⟨_,by rw[←e2,lI]⟩
   unfold qV at hd
   split at hd
   ·rename_i n elem hu
    cases hse:iF P elem with
    | none=>rw[hse]at hd;simp at hd
    | some k=>
      rw[hse]at hd
      dsimp only at hd
      split at hd
      case isFalse=>cases hd
      injection (da hd)with e1 e2
      exact⟨_,by rw[←e2,a1h]⟩
   ·exact newc hd
 | buildSlice t len parts=>
   simp only[opD,db]at hd
   obtain⟨elem,he,size,hs,z,hz,hd⟩:=hd
   split at hd
   ·injection (da hd)with e1 e2
    exact⟨_,by rw[←e2,lI]⟩
   split at hd
   ·simp only[dq]at hd
    obtain⟨cs,hb,hd⟩:=hd
    injection hd with e1 e2
    exact⟨_,by rw[←e2,lI]⟩
   ·cases hd
 | _=>simp[iT]at ho
theorem b9h{o:Oper}{t:TypeId}{len:Nat}{parts:Array (Nat×Operand)}(ho:o.op=.buildSlice t len parts){l:List Value}{v:Value}{H':Heap}(hd:opD P o l H=some (v,H')):
 ∃(cs:List Value)(elem:TypeId)(size:Nat),H'=H.cons (.cells cs elem true cs.length 0)∧v=.slice (some ⟨H.length,0,some cs.length⟩) len size:=by
 obtain⟨dst,op,type,pos,after,guard⟩:=o
 simp only at ho
 subst ho
 simp only[opD,db]at hd
 obtain⟨elem,he,size,hs,z,hz,hd⟩:=hd
 split at hd
 ·rename_i hc
  simp only[de,beq_iff_eq]at hc
  obtain⟨⟨rfl,_⟩,_⟩:=hc
  injection (da hd)with e1 e2
  exact⟨[],elem,size,by rw[←e2,lI],e1.symm⟩
 split at hd
 ·simp only[dq]at hd
  obtain⟨cs,hb,hd⟩:=hd
  injection hd with e1 e2
  exact⟨cs.toList,elem,size,by rw[←e2,lI],e1.symm⟩
 ·cases hd
theorem b3l{o:Oper}(ho:iT fl o.op=true){l:List Value}{v:Value}{H':Heap}(hd:opD P o l H=some (v,H')){a:Act}(hV:∀x,x∈o.op.operands→V ρ (ev l x) (a.eval x))(w:World):
 ∃(v':Value)(cs:List Value)(cs':Array Value)(ty ty':TypeId)(tg k:Nat),(execOp a.eval o).run P w=.ok (.value v') (w.alloc (.cells cs' ty'))∧PendAt P ρ (w.alloc (.cells cs' ty')) H H' v v' w.heap.size cs cs' ty ty' tg k:=by
 obtain⟨dst,op,type,pos,after,guard⟩:=o
 simp only at ho hV
 have atOf:∀{cs:List Value}{cs':Array Value}{ty ty':TypeId}{tg k b:Nat},iF P ty=some k→(tg=0→ty'=ty)→∀(ρ:Rho)(w:World),w.heap[b]? =some (.cells cs' ty')→All2 (C1 ρ) cs cs'.toList→CellsAt P ρ w cs ty true tg cs.length cs.length ⟨b,0,cs.length,k⟩:=by
  intro cs cs' ty ty' tg k b hk ht ρ w hb hl
  refine⟨dj _,hk,by simp,cs',ty',(0,0),hb,by simpa using hl.length.symm,fun _=>⟨rfl,Int.le_refl _,ht⟩,fun _ i c hi _ hc=> ?_⟩
  obtain⟨c',hc',hr⟩:=hl.get i c hc
  exact⟨c',by simpa [Place.at]using hc',hr⟩
 cases op with
 | alloc t=>
   simp only[opD,db]at hd
   obtain⟨z,hz,hd⟩:=hd
   split at hd
   case isFalse=>cases hd
   rename_i hf
   have hr2:(Instr.alloc t true (.tuple #[])).run P w=.ok (.pointer (some ⟨w.heap.size,0,none⟩)) (w.alloc (.cells z.cells t)):=by
    simp only[Instr.alloc,di,qK hz,dg]
    simp[newVar,newRow]
   have hval:∀(k:Nat)(ρ1:Rho),ρ1 H.length z.cells.toList.length=some ⟨w.heap.size,0,z.cells.toList.length,k⟩→V ρ1 (.pointer (some ⟨H.length,0,some z.cells.toList.length⟩)) (.pointer (some ⟨w.heap.size,0,none⟩)):=fun k ρ1 h1=>by
    have:=C0.ptr (ρ:=ρ1) (A:=H.length) (i:=0) (e:=z.cells.toList.length) h1 (by simp)
    exact .v1 (.c1 (.c0 (by simpa [Place.at]using this)))
   unfold qV at hd
   have newc:wS P H t z=some (v,H')→∃k,v=.pointer (some ⟨H.length,0,some z.cells.toList.length⟩)∧z.cells.toList.all oneCell=true∧iF P t=some k∧H'=H.cons (.cells z.cells.toList t true z.cells.toList.length 0):=by
    intro hd
    unfold wS at hd
    simp only at hd
    split at hd
    case isFalse=>cases hd
    rename_i hcond
    simp only[de,beq_iff_eq]at hcond
    injection (da hd)with e1 e2
    exact⟨_,e1.symm,hcond.1,hcond.2,by rw[←e2,lI]⟩
   split at hd
   ·rename_i n elem hu
    cases hse:iF P elem with
    | none=>rw[hse]at hd;simp at hd
    | some k=>
      rw[hse]at hd
      dsimp only at hd
      split at hd
      case isFalse=>cases hd
      rename_i hcond
      simp only[de,beq_iff_eq]at hcond
      obtain⟨⟨hone,hsz⟩,hk⟩:=hcond
      injection (da hd)with e1 e2
      subst e1 e2
      have hl:All2 (C1 ρ) z.cells.toList z.cells.toList:=(V.v1 (ρ:=ρ) (V1.of_flat hf)).cells hone
      exact⟨_,z.cells.toList,z.cells,elem,t,2,k,by simp only[execOp,di,hr2,dg,du],jK _ _,by rw[a1h],hl,hval k,atOf hse (by simp)⟩
   ·obtain⟨k,rfl,hone,hsz,rfl⟩:=newc hd
    have hl:All2 (C1 ρ) z.cells.toList z.cells.toList:=(V.v1 (ρ:=ρ) (V1.of_flat hf)).cells hone
    exact⟨_,z.cells.toList,z.cells,t,t,0,k,by simp only[execOp,di,hr2,dg,du],jK _ _,rfl,hl,hval k,atOf hsz fun _=>rfl⟩
 | buildSlice t len parts=>
   have hps:a7G ρ (parts.toList.map fun(i,x)=>(i,ev l x)) (parts.toList.map fun(i,x)=>(i,a.eval x)):=yV parts.toList fun x hx=>hV x.2 (by simp only[Op.operands,List.mem_toArray,dD];exact⟨x,hx,rfl⟩)
   simp only[opD,db]at hd
   obtain⟨elem,he,size,hs,z,hz,hd⟩:=hd
   have hst:=kD he
   have hval:∀(n len:Nat),len*size=n→∀(ρ1:Rho),ρ1 H.length n=some ⟨w.heap.size,0,n,size⟩→V ρ1 (.slice (some ⟨H.length,0,some n⟩) len size) (.slice (some ⟨w.heap.size,0,none⟩) len len):=fun n len hl ρ1 h1=>a3D hl h1
   split at hd
   ·rename_i hc
    simp only[de,bne_iff_ne,beq_iff_eq,List.isEmpty_iff,List.map_eq_nil_iff]at hc
    obtain⟨⟨rfl,hp0⟩,hs0⟩:=hc
    injection (da hd)with e1 e2;subst e1 e2
    have hpa:parts=#[]:=iy hp0
    subst hpa
    have hrun:(Instr.buildSlice t 0 #[]).run P w=.ok (.slice (some ⟨w.heap.size,0,none⟩) 0 0) (w.alloc (.cells #[] elem)):=by
     unfold Instr.buildSlice
     have er:(Array.range 0).map (fun _=>(default:Value))=#[]:=by simp[Array.range]
     simp[run_underlying hst,kB hs,Instr.fill,newRow,er]
    exact⟨.slice (some ⟨w.heap.size,0,none⟩) 0 0,[],#[],elem,elem,0,size,by simp only[execOp,Array.map_empty,di,hrun,dg,du],jK _ _,by rw[lI],trivial,fun ρ1 h1=>hval 0 0 (by simp) ρ1 h1,atOf hs fun _=>rfl⟩
   split at hd
   ·rename_i hc
    simp only[de,decide_eq_true_eq,bne_iff_ne,beq_iff_eq]at hc
    obtain⟨⟨⟨⟨hfz,hall1⟩,hsmall⟩,hpos⟩,hzs⟩:=hc
    simp only[dq]at hd
    obtain⟨cs,hb,hd⟩:=hd
    injection hd with e1 e2;subst e1 e2
    obtain⟨i,hi,hisz⟩:=a1K hs
    subst hisz
    have hiz:i.zero=some z:=by unfold jA at hz;rw[hi]at hz;exact hz
    have hone:∀x∈(parts.toList.map fun(i,x)=>(i,ev l x)),x.2.cells.toList.all oneCell=true:=by
     simp only[dx]at hall1 ⊢;exact hall1
    obtain⟨r',hr',hall⟩:=yK _ _ _ hps hone _ _ _ (a1u hfz _) hb
    have hsz:len*i.size=cs.toList.length:=by
     have:=zK _ _ _ _ hb;rw[fE,this];simp
    have hsm:¬len*i.size>2^24:=Nat.not_lt.2 hsmall
    have hparts:(parts.map fun(i,x)=>(i,a.eval x)).toList=(parts.toList.map fun(i,x)=>(i,a.eval x)):=by simp
    have hrun:=run_buildSlice (P:=P) w t elem len (parts.map fun(i,x)=>(i,a.eval x)) r' i z hst hi hiz hsm hpos (by rw[hparts];exact hr')
    exact⟨.slice (some ⟨w.heap.size,0,none⟩) len len,cs.toList,r',elem,elem,0,i.size,by simp only[execOp,di,hrun,dg,du],jK _ _,by rw[lI],hall,fun ρ1 h1=>hval _ len hsz ρ1 h1,atOf hs fun _=>rfl⟩
   ·cases hd
 | _=>simp[iT]at ho
theorem a9M(l:List Value)(d:Option Tmp)(v:Value)(t:Tmp):ev (put l d v) (.tmp t)=if d=some t∧t<l.length then v else ev l (.tmp t):=by
 cases d with
 | none=>simp[put]
 | some k=>
   simp only[ev,oL,put,kP,dh,gD,dF]
   by_cases hk:k=t
   ·subst hk
    by_cases hl:k<l.length
    ·simp[hl]
    ·simp[hl]
   ·simp[hk]
theorem lZ(a:Act)(d:Option Tmp)(v:Value)(t:Tmp):(a.put d v).eval (.tmp t)=if d=some t∧t<a.tmps.size then v else a.eval (.tmp t):=by
 cases d with
 | none=>simp[Act.put]
 | some k=>
   simp only[Act.put,Act.eval,dF]
   by_cases hk:k=t
   ·subst hk
    by_cases hl:k<a.tmps.size
    ·simp[hl]
    ·simp[hl]
   ·simp[hk]
theorem a1C(l:List Value)(d:Option Tmp)(v:Value):(put l d v).length=l.length:=by
 cases d<;>simp[put,kP]
theorem a6w(a:Act)(d:Option Tmp)(v:Value):(a.put d v).tmps.size=a.tmps.size:=by
 cases d<;>simp[Act.put]
theorem StepR.plain{o:Oper}{l:List Value}{v:Value}{H':Heap}(h:StepR P o l H v H')(hm:jL fl o.op=false):Go.Ds.opD P o l H=some (v,H'):=by
 refine h.opD fun c f hc hf=> ?_
 simp[jL,hc,hf]at hm
structure Text(P:Program)(ops:Array Oper)(T:Nat→List Value×Heap)(val:Nat→Value):Prop where
 step:∀k,k<ops.size→wJ P ops k (T k) (T (k+1)) (val k)
section
variable {ops:Array Oper} {T:Nat→List Value×Heap} {val:Nat→Value}
theorem Text.length(X:Text P ops T val):∀k,k≤ops.size→(T k).1.length=(T 0).1.length
 | 0,_=>rfl
 | k+1,hk=>by
   obtain⟨o,_,h,_⟩:=X.step k (by omega)
   rw[h,a1C,X.length k (by omega)]
theorem Text.at(X:Text P ops T val){k:Nat}{o:Oper}(ho:ops[k]? =some o):(T (k+1)).1=put (T k).1 o.dst (val k)∧
 ((Region.wanted o (iX ops (T k).1)=true∧StepR P o (T k).1 (T k).2 (val k) (T (k+1)).2)∨(Region.wanted o (iX ops (T k).1)=false∧val k=undef∧(T (k+1)).2=(T k).2)):=by
 obtain⟨o',ho',h⟩:=X.step k (dp.1 ho).1
 rw[ho]at ho'
 obtain rfl:=da ho'
 exact h
theorem Text.old(X:Text P ops T val){t:Tmp}:∀k,k≤ops.size→(∀i o,i<k→ops[i]? =some o→o.dst≠some t)→ev (T k).1 (.tmp t)=ev (T 0).1 (.tmp t)
 | 0,_,_=>rfl
 | k+1,hk,h=>by
   obtain⟨o,ho,h1,_⟩:=X.step k (by omega)
   rw[h1,a9M,if_neg (fun hh=>h k o (by omega) ho hh.1),X.old k (by omega) fun i o' hi=>h i o' (by omega)]
theorem Text.new(X:Text P ops T val)(D:Draw P fl ops){i:Nat}{o:Oper}(ho:ops[i]? =some o){t:Tmp}(hd:o.dst=some t)(ht:t<(T 0).1.length):∀k,i<k→k≤ops.size→ev (T k).1 (.tmp t)=val i
 | 0,h,_=>absurd h (dJ _)
 | k+1,hk,hn=>by
   obtain⟨o',ho',h1,_⟩:=X.step k (by omega)
   rw[h1,a9M]
   by_cases hik:i=k
   ·subst hik
    rw[ho]at ho'
    obtain rfl:=da ho'
    rw[if_pos ⟨hd,by rw[X.length _ (by omega)];exact ht⟩]
   ·rw[if_neg fun hh=>D.ne (by omega) ho ho' hd hh.1]
    exact X.new D ho hd ht k (by omega) (by omega)
theorem Text.still(X:Text P ops T val)(D:Draw P fl ops){k:Nat}{o:Oper}(ho:ops[k]? =some o)(hm:jL fl o.op=false)(ha:iT fl o.op=false):(T (k+1)).2=(T k).2:=by
 rcases(X.at ho).2 with⟨_,h⟩|⟨_,_,h⟩
 ·have hd:=h.plain hm
  cases hr:nT o.op with
  | true=>exact zS (D.conv _ _ ho) hr hd
  | false=>exact(a6Z .nil (D.conv _ _ ho) hm ha hr hd).1
 ·exact h
theorem Text.bC(X:Text P ops T val)(D:Draw P fl ops){i:Nat}:∀k,i≤k→k≤ops.size→(∀j o,i≤j→j<k→ops[j]? =some o→jL fl o.op=false∧iT fl o.op=false)→(T k).2=(T i).2
 | 0,h,_,_=>by rw[Nat.le_zero.1 h]
 | k+1,h,hk,hh=>by
   by_cases he:i=k+1
   ·rw[he]
   ·obtain⟨o,ho,_⟩:=X.step k (by omega)
    have:=hh k o (by omega) (by omega) ho
    rw[X.still D ho this.1 this.2,X.bC D k (by omega) (by omega) fun j o h1 h2=>hh j o h1 (by omega)]
theorem Text.row(X:Text P ops T val)(D:Draw P fl ops){j A:Nat}(hA:A<(T j).2.length):∀k,j≤k→k≤ops.size→(∀i o,j≤i→i<k→ops[i]? =some o→jL fl o.op=false)→iR (T k).2 A=iR (T j).2 A∧A<(T k).2.length
 | 0,h,_,_=>by rw[←Nat.le_zero.1 h];exact⟨rfl,hA⟩
 | k+1,h,hk,hh=>by
   by_cases he:j=k+1
   ·rw[←he];exact⟨rfl,hA⟩
   ·obtain⟨o,ho,_⟩:=X.step k (by omega)
    have hm:=hh k o (by omega) (by omega) ho
    obtain⟨h1,h2⟩:=X.row D hA k (by omega) (by omega) fun i o h1 h2=>hh i o h1 (by omega)
    cases ha:iT fl o.op with
    | false=>rw[X.still D ho hm ha];exact⟨h1,h2⟩
    | true=>
      rcases(X.at ho).2 with⟨_,h3⟩|⟨_,_,h3⟩
      ·obtain⟨kJ,h4⟩:=a9F ha (h3.plain hm)
       rw[h4,jS _ h2]
       exact⟨h1,by rw[length_cons];omega⟩
      ·rw[h3];exact⟨h1,h2⟩
structure Inv(P:Program)(fl:Fl)(ops:Array Oper)(T:Nat→List Value×Heap)(val:Nat→Value)(ρ0:Rho)(W0:World)(ds:List Deferred)(S:Nat→Prop)(pl:Nat→Nat)(m:Nat)(ρ:Rho)(a:Act)(w:World):Prop where
 le:m≤ops.size
 post:Post P ρ0 (T 0).2 W0 ρ (T m).2 w
 closed:a9z ops S
 mains:∀i o,ops[i]? =some o→jL fl o.op=true→(S i↔i<m)
 allocs:∀i o,ops[i]? =some o→iT fl o.op=true→i<m→S i
 pend:∀i o,ops[i]? =some o→iT fl o.op=true→m≤i→S i→W0.heap.size≤pl i∧pl i<w.heap.size∧Off ρ (pl i)∧
  ∃(v':Value)(cs:List Value)(cs':Array Value)(ty ty':TypeId)(tg k:Nat),PendAt P ρ w (T i).2 (T (i+1)).2 (val i) v' (pl i) cs cs' ty ty' tg k∧∀d,o.dst=some d→d<(T 0).1.length→a.eval (.tmp d)=v'
 apart:∀i j x y,ops[i]? =some x→ops[j]? =some y→iT fl x.op=true→iT fl y.op=true→m≤i→m≤j→S i→S j→pl i=pl j→i=j
 size:a.tmps.size=(T 0).1.length
 old:∀t,(∀i o,S i→ops[i]? =some o→o.dst≠some t)→V ρ (ev (T 0).1 (.tmp t)) (a.eval (.tmp t))
 new:∀i o t,S i→ops[i]? =some o→o.dst=some t→t<(T 0).1.length→(∀b,lR fl i o.op=some b→b<m)→V ρ (val i) (a.eval (.tmp t))
 der:∀(i j:Nat)(o b:Oper)(t d:Tmp),S i→ops[i]? =some o→iT fl o.op=false→lR fl i o.op=some j→m≤j→o.dst=some t→t<(T 0).1.length→ops[j]? =some b→b.dst=some d→
  ∀ρ1:Rho,(d<(T 0).1.length→V ρ1 (val j) (a.eval (.tmp d)))→V ρ1 (val i) (a.eval (.tmp t))
 defers:a.defers=ds
variable {ρ0:Rho} {W0:World} {ds:List Deferred} {S:Nat→Prop} {pl:Nat→Nat} {m:Nat} {a:Act}
theorem a4U{l:List Value}{t:Tmp}(h:l.length≤t):ev l (.tmp t)=undef:=by
 simp[ev,oL,dh,ew h]
theorem a1j{a:Act}{t:Tmp}(h:a.tmps.size≤t):a.eval (.tmp t)=undef:=by
 simp[Act.eval,h]
theorem Inv.looks(I:Inv P fl ops T val ρ0 W0 ds S pl m ρ a w)(X:Text P ops T val)(D:Draw P fl ops){i:Nat}{o:Oper}(ho:ops[i]? =some o)(hS:¬S i)(hr:∀e∈o.after,Region.binds .any e=true→S e.on)(hm:jL fl o.op=true→m=i)(hj:∀j,fl.base i=some j→j<m)
 {t:Tmp} (ht:t∈o.looksAt ops):V ρ (ev (T i).1 (.tmp t)) (a.eval (.tmp t)):=by
 have hi:i<ops.size:=(dp.1 ho).1
 by_cases hl:(T 0).1.length≤t
 ·rw[a4U (by rw[X.length i (by omega)];exact hl),a1j (by rw[I.size];exact hl)]
  exact .undef
 have hl:t<(T 0).1.length:=gJ hl
 by_cases hk:∃k x,k<i∧ops[k]? =some x∧x.dst=some t
 ·obtain⟨k,x,hki,hx,hd⟩:=hk
  have hSk:S k:=D.bef I.closed i o ho hr k (D.raw hki hx ho hd ht)
  rw[X.new D hx hd hl i hki (by omega)]
  refine I.new k x t hSk hx hd hl fun b hb=> ?_
  rcases D.fresh hki hx ho hd hb ht with h|h
  ·have:=(D.aV hx hb).1
   have:=hm h
   omega
  ·exact hj b h
 ·rw[X.old i (by omega) fun k x hki hx hd=>hk ⟨k,x,hki,hx,hd⟩]
  refine I.old t fun k x hSk hx hd=> ?_
  rcases ic k i with h|h|h
  ·exact hk ⟨k,x,h,hx,hd⟩
  ·exact hS (h▸hSk)
  ·exact hS (D.bef I.closed k x hx (fun e he hb=>I.closed k x hSk hx e he hb) i (D.cS h ho hx hd ht))
theorem Inv.operands(I:Inv P fl ops T val ρ0 W0 ds S pl m ρ a w)(X:Text P ops T val)(D:Draw P fl ops){i:Nat}{o:Oper}(ho:ops[i]? =some o)(hS:¬S i)(hr:∀e∈o.after,Region.binds .any e=true→S e.on)(hm:jL fl o.op=true→m=i)(hj:∀j,fl.base i=some j→j<m):
 ∀x,x∈o.op.operands→iU x=true→V ρ (ev (T i).1 x) (a.eval x):=fun x hx hok=>by
 cases x with
 | tmp t=>exact I.looks X D ho hS hr hm hj (by
    unfold Oper.looksAt
    simp only[dH,fu]
    exact .inl ⟨.tmp t,by simpa using hx,rfl⟩)
 | const v=>exact .of_flat hok
 | global g=>exact .v1 (.c1 (.c0 (.glob g 0)))
 | func f=>exact .v1 (.c1 (.fn trivial trivial))
theorem a9O{l:List Value}{a:Act}{ops:Array Oper}{j:Nat}(h:∀d,((ops[j]?).bind (·.dst))=some d→V ρ (ev l (.tmp d)) (a.eval (.tmp d))):yielded ops a.tmps j=iX ops l j:=by
 unfold yielded iX
 cases hd:(ops[j]?).bind (·.dst)with
 | none=>rfl
 | some d=>
   have hv:=h d hd
   simp only[ev,oL,Act.eval,dh]at hv
   simp only[dc]
   cases h1:l[d]? with
   | none=>
     rw[h1,Option.getD_none]at hv
     have:=hv.ag rfl
     cases h2:a.tmps[d]? with
     | none=>rfl
     | some v'=>
       have:v'=undef:=by simpa [h2]using this
       subst this
       rfl
   | some v=>
     rw[h1,fi]at hv
     cases h2:a.tmps[d]? with
     | none=>
       cases v with
       | bool b=>have:=hv.aO;simp[h2]at this;cases this
       | _=>rfl
     | some v'=>
       have hv:V ρ v v':=by simpa [h2]using hv
       cases v' with
       | bool b=>rw[hv.of_bool]
       | _=>
         cases v with
         | bool b=>have:=hv.aO;cases this
         | _=>rfl
theorem Inv.wanted(I:Inv P fl ops T val ρ0 W0 ds S pl m ρ a w)(X:Text P ops T val)(D:Draw P fl ops){i:Nat}{o:Oper}(ho:ops[i]? =some o)(hS:¬S i)(hr:∀e∈o.after,Region.binds .any e=true→S e.on)(hm:jL fl o.op=true→m=i)(hj:∀j,fl.base i=some j→j<m):
 Region.wanted o (yielded ops a.tmps)=Region.wanted o (iX ops (T i).1):=by
 unfold Region.wanted
 cases hg:o.guard with
 | none=>rfl
 | some g=>
   simp only
   rw[a9O (l:=(T i).1) fun d hd=>I.looks X D ho hS hr hm hj (by
    unfold Oper.looksAt
    simp only[hg,dH]
    exact .inr (by rw[hd];simp))]
theorem a3k{b:Nat}(h:Off ρ b):¬Wr ρ H b:=by
 rintro⟨A,e,p,kJ,hp,hb,_⟩
 exact h _ _ _ hp hb
theorem Inv.skip(I:Inv P fl ops T val ρ0 W0 ds S pl m ρ a w)(X:Text P ops T val)(D:Draw P fl ops){o:Oper}(ho:ops[m]? =some o)(hm:jL fl o.op=false)(ha:iT fl o.op=false):Inv P fl ops T val ρ0 W0 ds S pl (m+1) ρ a w:=by
 have hlt:m<ops.size:=(dp.1 ho).1
 have hno:∀i x,ops[i]? =some x→(jL fl x.op=true∨iT fl x.op=true)→i≠m:=fun i x hx he hi=>by
  subst hi
  rw[ho]at hx
  obtain rfl:=da hx
  rcases he with he|he
  ·rw[hm]at he;cases he
  ·rw[ha]at he;cases he
 refine⟨hlt,by rw[X.still D ho hm ha];exact I.post,I.closed,fun i x hx hmx=>(I.mains i x hx hmx).trans ?_,fun i x hx hax hi=> ?_,fun i x hx hax hi=>I.pend i x hx hax (by omega),fun i j x y hx hy h1 h2 h3 h4=>I.apart i j x y hx hy h1 h2 (by omega) (by omega),I.size,I.old,fun i x t hS hx hd hl hal=>I.new i x t hS hx hd hl fun b hb=> ?_,fun i j x y t d hS hx hna hh hj=>I.der i j x y t d hS hx hna hh (by omega),I.defers⟩
 ·have:=hno i x hx (.inl hmx);omega
 ·have:=hno i x hx (.inr hax);exact I.allocs i x hx hax (by omega)
 ·obtain⟨_,y,hy,hay⟩:=D.aV hx hb
  have:=hno b y hy (.inr hay);have:=hal b hb;omega
theorem Inv.bk(I:Inv P fl ops T val ρ0 W0 ds S pl m ρ a w)(D:Draw P fl ops){o:Oper}(ho:ops[m]? =some o)(ha:iT fl o.op=true)(hS:S m):∃ρ',Inv P fl ops T val ρ0 W0 ds S pl (m+1) ρ' a w:=by
 have hlt:m<ops.size:=(dp.1 ho).1
 obtain⟨h1,h2,h3,v',cs,cs',ty,ty',tg,k,hpa,h8⟩:=I.pend m o ho ha (dj _) hS
 have hle:ρ.Le (ρ.put (T m).2.length cs.length ⟨pl m,0,cs.length,k⟩):=.put (pQ I.post.rel _)
 have hpost:=I.post.bk cs ty tg ⟨pl m,0,cs.length,k⟩ h3 h2 h1 (hpa.at_ _ w hpa.here (hpa.rel.mono fun _ _ h=>h.mono hle))
 rw[←hpa.next]at hpost
 have hmain:jL fl o.op=false:=oN ha
 refine⟨_,hlt,hpost,I.closed,fun i x hx hmx=>(I.mains i x hx hmx).trans ?_,fun i x hx hax hi=> ?_,fun i x hx hax hi hSi=> ?_,fun i j x y hx hy h1 h2 h3 h4=>I.apart i j x y hx hy h1 h2 (by omega) (by omega),I.size,fun t ht=>(I.old t ht).mono hle,fun i x t hSi hx hd hl hal=> ?_,fun i j x y t d hS hx hna hh hj=>I.der i j x y t d hS hx hna hh (by omega),I.defers⟩
 ·have:i≠m:=fun hi=>by
   subst hi
   rw[ho]at hx
   obtain rfl:=da hx
   rw[hmain]at hmx;cases hmx
  omega
 ·by_cases hi2:i=m
  ·rw[hi2];exact hS
  ·exact I.allocs i x hx hax (by omega)
 ·obtain⟨k1,k2,k3,v1,c1,c2,t1,t2,g1,kk,k4,k5⟩:=I.pend i x hx hax (by omega) hSi
  refine⟨k1,k2,fun A e p hp=> ?_,v1,c1,c2,t1,t2,g1,kk,k4.mono hle rfl,k5⟩
  by_cases hh:A=(T m).2.length∧e=cs.length
  ·obtain⟨rfl,rfl⟩:=hh
   rw[Rho.ak]at hp
   obtain rfl:=da hp
   intro hpl
   have:=I.apart m i o x ho hx ha hax (dj _) (by omega) hS hSi hpl
   omega
  ·rw[Rho.aQ hh]at hp
   exact k3 _ _ _ hp
 ·by_cases hi:i=m
  ·subst hi
   rw[ho]at hx
   obtain rfl:=da hx
   rw[h8 t hd hl]
   exact hpa.val _ (Rho.ak _ _ _ _)
  ·by_cases hb:lR fl i x.op=some m
   ·have hna:iT fl x.op=false:=by
     cases h:iT fl x.op with
     | false=>rfl
     | true=>rw[tH h]at hb;exact absurd (da hb) hi
    obtain⟨_,_,_,y,d,_,_,_,hy,hyd,_⟩:=D.aA hx (qW hna hb).1
    rw[ho]at hy
    obtain rfl:=da hy
    exact I.der i m x o t d hSi hx hna hb (dj _) hd hl ho hyd _ fun hdl=>by
     rw[h8 d hyd hdl]
     exact hpa.val _ (Rho.ak _ _ _ _)
   ·exact(I.new i x t hSi hx hd hl fun b h=>by have:=hal b h;have:b≠m:=fun e=>hb (e▸h);omega).mono hle
theorem Inv.ch(X:Text P ops T val)(D:Draw P fl ops):∀(n m:Nat)(ρ:Rho),Inv P fl ops T val ρ0 W0 ds S pl m ρ a w→m+n≤ops.size→(∀k x,m≤k→k<m+n→ops[k]? =some x→jL fl x.op=false∧(iT fl x.op=true→S k))→∃ρ',Inv P fl ops T val ρ0 W0 ds S pl (m+n) ρ' a w
 | 0,m,ρ,I,_,_=>⟨ρ,I⟩
 | n+1,m,ρ,I,hn,hh=>by
   have ho:ops[m]? =some (ops[m]'(by omega)):=dp.2 ⟨by omega,rfl⟩
   obtain⟨h1,h2⟩:=hh m _ (dj _) (by omega) ho
   have step:∃ρ',Inv P fl ops T val ρ0 W0 ds S pl (m+1) ρ' a w:=by
    cases ha:iT fl (ops[m]'(by omega)).op with
    | true=>exact I.bk D ho ha (h2 ha)
    | false=>exact⟨ρ,I.skip X D ho h1 ha⟩
   obtain⟨ρ1,I1⟩:=step
   obtain⟨ρ2,I2⟩:=Inv.ch X D n (m+1) ρ1 I1 (by omega) fun k x h3 h4=>hh k x (by omega) (by omega)
   exact⟨ρ2,by rw[show m+(n+1)=m+1+n by omega];exact I2⟩
theorem Inv.next(I:Inv P fl ops T val ρ0 W0 ds S pl m ρ a w)(X:Text P ops T val)(D:Draw P fl ops){i:Nat}{o:Oper}(ho:ops[i]? =some o)(hS:¬S i)(hr:∀e∈o.after,Region.binds .any e=true→S e.on)(hna:iT fl o.op=false)
 {m':Nat} (hm':(jL fl o.op=true∧m=i∧m'=i+1)∨(jL fl o.op=false∧m'=m)) {ρ':Rho} {v':Value} {w':World} (hp:Post P ρ (T m).2 w ρ' (T m').2 w') (hv:(∀b,lR fl i o.op=some b→b<m')→V ρ' (val i) v')
 (hdr:∀(j:Nat)(b:Oper)(d:Tmp),lR fl i o.op=some j→m'≤j→ops[j]? =some b→b.dst=some d→∀ρ1:Rho,(d<(T 0).1.length→V ρ1 (val j) (a.eval (.tmp d)))→V ρ1 (val i) v'):
 Inv P fl ops T val ρ0 W0 ds (fun k=>S k∨k=i) pl m' ρ' (a.put o.dst v') w':=by
 have hi:i<ops.size:=(dp.1 ho).1
 have hmm:m≤m':=by rcases hm' with⟨_,rfl,rfl⟩|⟨_,rfl⟩<;>omega
 have hne:∀k x,ops[k]? =some x→k≠i→∀d,x.dst=some d→o.dst≠some d:=fun k x hx hki d hd hod=>by
  rcases fJ hki with h|h
  ·exact D.ne h hx ho hd hod
  ·exact D.ne h ho hx hod hd
 have hnot:∀k x,ops[k]? =some x→iT fl x.op=true→k≠i:=fun k x hx hax hki=>by
  subst hki
  rw[ho]at hx
  obtain rfl:=da hx
  rw[hna]at hax;cases hax
 refine⟨?_,I.post.trans hp,?_,fun k x hx hmx=> ?_,fun k x hx hax hk=> ?_,fun k x hx hax hk hSk=> ?_,fun k j x y hx hy h1 h2 h3 h4 h5 h6=> ?_,by rw[a6w];exact I.size,fun t ht=> ?_,fun k x t hSk hx hd hl hal=> ?_,fun k j x y t d hSk hx hka hh hj htd htl hy hyd ρ1 hV=> ?_,by rw[sO];exact I.defers⟩
 ·rcases hm' with⟨_,rfl,rfl⟩|⟨_,rfl⟩
  ·exact hi
  ·exact I.le
 ·intro j x hj hx e he hb
  rcases hj with hj|rfl
  ·exact .inl (I.closed j x hj hx e he hb)
  ·rw[ho]at hx
   obtain rfl:=da hx
   exact .inl (hr e he hb)
 ·rcases hm' with⟨h1,rfl,rfl⟩|⟨h1,rfl⟩
  ·rw[I.mains k x hx hmx];omega
  ·rw[I.mains k x hx hmx]
   have:k≠i:=fun hki=>by
    subst hki
    rw[ho]at hx
    obtain rfl:=da hx
    rw[h1]at hmx;cases hmx
   omega
 ·have hki:=hnot k x hx hax
  refine .inl (I.allocs k x hx hax ?_)
  rcases hm' with⟨_,rfl,rfl⟩|⟨_,rfl⟩<;>omega
 ·have hki:=hnot k x hx hax
  obtain⟨k1,k2,k3,v1,c1,c2,t1,t2,g1,kk,k4,k6⟩:=I.pend k x hx hax (by omega) (hSk.resolve_right hki)
  refine⟨k1,dQ k2 hp.size,hp.img _ k2 k3,v1,c1,c2,t1,t2,g1,kk,k4.mono hp.le (hp.frame _ k2 (a3k k3)).1,fun d hd hl=> ?_⟩
  rw[lZ,if_neg fun hh=>hne k x hx hki d hd hh.1]
  exact k6 d hd hl
 ·exact I.apart k j x y hx hy h1 h2 (by omega) (by omega) (h5.resolve_right (hnot k x hx h1)) (h6.resolve_right (hnot j y hy h2))
 ·rw[lZ,if_neg fun hh=>ht i o (.inr rfl) ho hh.1]
  exact(I.old t fun k x hk=>ht k x (.inl hk)).mono hp.le
 ·by_cases hki:k=i
  ·subst hki
   rw[ho]at hx
   obtain rfl:=da hx
   rw[lZ,if_pos ⟨hd,by rw[I.size];exact hl⟩]
   exact hv hal
  ·rw[lZ,if_neg fun hh=>hne k x hx hki t hd hh.1]
   refine(I.new k x t (hSk.resolve_right hki) hx hd hl fun b h=> ?_).mono hp.le
   have h1:=hal b h
   obtain⟨_,y,hy,hay⟩:=D.aV hx h
   have:=hnot b y hy hay
   rcases hm' with⟨_,rfl,rfl⟩|⟨_,rfl⟩<;>omega
 ·have hji:=hnot j y hy (by
   obtain⟨_,y',hy',hay⟩:=D.aV hx hh
   rw[hy]at hy'
   obtain rfl:=da hy'
   exact hay)
  have hV':d<(T 0).1.length→V ρ1 (val j) (a.eval (.tmp d)):=fun hdl=>by
   have:=hV hdl
   rw[lZ,if_neg fun hh=>hne j y hy hji d hyd hh.1]at this
   exact this
  by_cases hki:k=i
  ·subst hki
   rw[ho]at hx
   obtain rfl:=da hx
   rw[lZ,if_pos ⟨htd,by rw[I.size];exact htl⟩]
   exact hdr j y d hh hj hy hyd ρ1 hV'
  ·rw[lZ,if_neg fun hh=>hne k x hx hki t htd hh.1]
   exact I.der k j x y t d (hSk.resolve_right hki) hx hka hh (by omega) htd htl hy hyd ρ1 hV'
theorem Draw.lit(D:Draw P fl ops)(hc:a9z ops S){i j:Nat}{o:Oper}(ho:ops[i]? =some o)(hr:∀e∈o.after,Region.binds .any e=true→S e.on)(hj:fl.base i=some j):S j:=by
 have one:∀(i:Nat)(o b:Oper)(d:Tmp),j<i→ops[i]? =some o→ops[j]? =some b→b.dst=some d→(∀e∈o.after,Region.binds .any e=true→S e.on)→.tmp d∈o.op.operands→S j:=fun i o b d hji ho hb hd hr hx=>
  D.bef hc i o ho hr j (D.raw hji hb ho hd (by
   unfold Oper.looksAt
   simp only[dH,fu]
   exact .inl ⟨.tmp d,by simpa using hx,rfl⟩))
 obtain⟨h1,_,_,b,d,_,_,_,hb,hd,_,_,hD⟩:=D.aA ho hj
 obtain⟨dst,op,type,pos,after,guard⟩:=o
 simp only at hD hr
 cases hD with
 | addr t ix=>exact one i _ b d h1 ho hb hd hr (by simp[Op.operands])
 | conv s t=>exact one i _ b d h1 ho hb hd hr (by simp[Op.operands])
 | load t x k y t' x' ix' g1 g2 g3 g4 g5 g6=>
   have hSk:S k:=D.bef hc i _ ho hr k (D.raw g2 g3 ho g6 (by
    unfold Oper.looksAt
    simp only[dH,fu]
    exact .inl ⟨.tmp x,by simp[Op.operands],rfl⟩))
   obtain⟨_,_,_,b',d',_,_,_,hb',hd',_,_,hD'⟩:=D.aA g3 g4
   rw[hb]at hb'
   obtain rfl:=da hb'
   rw[hd]at hd'
   obtain rfl:=da hd'
   obtain⟨dst2,op2,type2,pos2,after2,guard2⟩:=y
   simp only at g5 hD'
   subst g5
   cases hD'
   exact one k _ b d g1 g3 hb hd (fun e he hb=>hc k _ hSk g3 e he hb) (by simp[Op.operands])
theorem Inv.lits(I:Inv P fl ops T val ρ0 W0 ds S pl m ρ a w)(_X:Text P ops T val)(D:Draw P fl ops){i j:Nat}{o:Oper}(ho:ops[i]? =some o)(hS:S i)(hj:fl.base i=some j):S j:=
 D.lit I.closed ho (fun e he hb=>I.closed i o hS ho e he hb) hj
theorem Inv.early(I:Inv P fl ops T val ρ0 W0 ds S pl m ρ a w)(X:Text P ops T val)(D:Draw P fl ops){i:Nat}{o:Oper}(ho:ops[i]? =some o)(hS:¬S i)(hr:∀e∈o.after,Region.binds .any e=true→S e.on)(hal:iT fl o.op=true):
 ∃(v':Value)(w':World),(execOp a.eval o).run P w=.ok (.value v') w'∧Inv P fl ops T val ρ0 W0 ds (fun k=>S k∨k=i) (fun k=>if k=i then w.heap.size else pl k) m ρ (a.put o.dst v') w':=by
 have hi:i<ops.size:=(dp.1 ho).1
 have hmi:m≤i:=Nat.le_of_not_lt fun h=>hS (I.allocs i o ho hal h)
 have hw:Region.wanted o (iX ops (T i).1)=true:=by
  unfold Region.wanted
  rw[D.guard i o ho hal]
 have hst:StepR P o (T i).1 (T i).2 (val i) (T (i+1)).2:=by
  rcases(X.at ho).2 with⟨_,h⟩|⟨h,_⟩
  ·exact h
  ·rw[hw]at h;cases h
 have hnm:=oN hal
 have hok:∀x,x∈o.op.operands→iU x=true:=fun x hx=>by
  have:=hst.ok
  rw[dx]at this;exact this x (by simpa using hx)
 obtain⟨v',cs,cs',ty,ty',tg,kk,h1,h2⟩:=b3l hal (hst.plain hnm) (fun x hx=>I.operands X D ho hS hr (fun h=>by rw[hnm]at h;cases h) (fun j hj=>by have:=(D.bZ ho hj).2.2;rw[hal]at this;cases this) x hx (hok x hx)) w
 refine⟨_,_,h1,?_⟩
 have hp:=Post.bg I.post.rel (.cells cs' ty')
 have hne:∀k x,ops[k]? =some x→k≠i→∀d,x.dst=some d→o.dst≠some d:=fun k x hx hki d hd hod=>by
  rcases fJ hki with h|h
  ·exact D.ne h hx ho hd hod
  ·exact D.ne h ho hx hod hd
 have hoff:Off ρ w.heap.size:=fun A e p hq=>by have:=(I.post.rel.dom _ _ _ hq).2;omega
 refine⟨I.le,I.post.trans hp,?_,fun k x hx hmx=> ?_,fun k x hx hax hk=>.inl (I.allocs k x hx hax hk),fun k x hx hax hk hSk=> ?_,fun k j x y hx hy g1 g2 g3 g4 g5 g6 g7=> ?_,by rw[a6w];exact I.size,fun t' ht=> ?_,fun k x t' hSk hx hd hl hal'=> ?_,fun k j x y t d hSk hx hka hh hj htd htl hy hyd ρ1 hV=> ?_,by rw[sO];exact I.defers⟩
 ·intro j x hj hx e he hb
  rcases hj with hj|rfl
  ·exact .inl (I.closed j x hj hx e he hb)
  ·rw[ho]at hx
   obtain rfl:=da hx
   exact .inl (hr e he hb)
 ·have:k≠i:=fun hki=>by
   subst hki
   rw[ho]at hx
   obtain rfl:=da hx
   rw[hnm]at hmx;cases hmx
  rw[←I.mains k x hx hmx]
  simp[this]
 ·by_cases hki:k=i
  ·subst hki
   rw[ho]at hx
   obtain rfl:=da hx
   simp only[if_true]
   refine⟨I.post.size,by simp,hoff,v',cs,cs',ty,ty',tg,kk,h2,fun d hd hl=> ?_⟩
   rw[lZ,if_pos ⟨hd,by rw[I.size];exact hl⟩]
  ·simp only[hki,if_false]
   obtain⟨k1,k2,k3,v1,c1,c2,t1,t2,g1,kk1,k4,k6⟩:=I.pend k x hx hax hk (hSk.resolve_right hki)
   refine⟨k1,by simp;omega,k3,v1,c1,c2,t1,t2,g1,kk1,k4.mono (fun _ _ _ h=>h) (jH k2),fun d hd hl=> ?_⟩
   rw[lZ,if_neg fun hh=>hne k x hx hki d hd hh.1]
   exact k6 d hd hl
 ·have lt:∀k x,ops[k]? =some x→iT fl x.op=true→m≤k→S k→pl k<w.heap.size:=fun k x hx ha hk hSk=>by
   exact(I.pend k x hx ha hk hSk).2.1
  by_cases hki:k=i
  ·by_cases hji:j=i
   ·rw[hki,hji]
   ·simp only[hki,hji,if_true,if_false]at g7
    have:=lt j y hy g2 g4 (g6.resolve_right hji);omega
  ·by_cases hji:j=i
   ·simp only[hki,hji,if_true,if_false]at g7
    have:=lt k x hx g1 g3 (g5.resolve_right hki);omega
   ·simp only[hki,hji,if_false]at g7
    exact I.apart k j x y hx hy g1 g2 g3 g4 (g5.resolve_right hki) (g6.resolve_right hji) g7
 ·rw[lZ,if_neg fun hh=>ht i o (.inr rfl) ho hh.1]
  exact I.old t' fun k x hk=>ht k x (.inl hk)
 ·have hki:k≠i:=fun hki=>by
   subst hki
   rw[ho]at hx
   obtain rfl:=da hx
   have:=hal' _ (tH hal)
   omega
  rw[lZ,if_neg fun hh=>hne k x hx hki t' hd hh.1]
  exact I.new k x t' (hSk.resolve_right hki) hx hd hl hal'
 ·have hki:k≠i:=fun hki=>by
   subst hki
   rw[ho]at hx
   obtain rfl:=da hx
   rw[hal]at hka
   cases hka
  rw[lZ,if_neg fun hh=>hne k x hx hki t htd hh.1]
  refine I.der k j x y t d (hSk.resolve_right hki) hx hka hh hj htd htl hy hyd ρ1 fun hdl=> ?_
  have h9:=hV hdl
  by_cases hji:j=i
  ·subst hji
   exfalso
   have hb:=(qW hka hh).1
   obtain⟨g1,_,_,b',d',_,_,_,g2,g3,_,_,g4⟩:=D.aA hx hb
   have hSk':=hSk.resolve_right hki
   exact hS (I.lits X D hx hSk' hb)
  ·rw[lZ,if_neg fun hh=>hne j y hy hji d hyd hh.1]at h9
   exact h9
end
end
section
variable {P:Program} {ρ:Rho} {H:Heap} {w:World} {fl:Fl} {ops:Array Oper} {T:Nat→List Value×Heap} {val:Nat→Value}
variable {ρ0:Rho} {W0:World} {ds:List Deferred} {S:Nat→Prop} {pl:Nat→Nat} {m:Nat} {a:Act}
theorem Inv.aA(I:Inv P fl ops T val ρ0 W0 ds S pl m ρ a w)(X:Text P ops T val)(D:Draw P fl ops){i j:Nat}{o:Oper}(ho:ops[i]? =some o)(hS:¬S i)(hr:∀e∈o.after,Region.binds .any e=true→S e.on)(hj:fl.base i=some j)(hmj:m≤j):
 ∃v',(execOp a.eval o).run P w=.ok (.value v') w∧Inv P fl ops T val ρ0 W0 ds (fun k=>S k∨k=i) pl m ρ (a.put o.dst v') w:=by
 have hin:i<ops.size:=(dp.1 ho).1
 have hSj:=D.lit I.closed ho hr hj
 obtain⟨hji,hg,hnm,b,d,bt,blen,bparts,hb,hbd,hbo,hba,hD⟩:=D.aA ho hj
 obtain⟨hmi,hai⟩:=hD.plain
 obtain⟨q1,q2,q3,v0,cs,cs',ty,ty',tg,k,hpa,hslot⟩:=I.pend j b hb hba hmj hSj
 have hwj:Region.wanted b (iX ops (T j).1)=true:=by
  unfold Region.wanted
  rw[D.guard j b hb hba]
 have hopj:opD P b (T j).1 (T j).2=some (val j,(T (j+1)).2):=by
  rcases(X.at hb).2 with⟨_,h⟩|⟨h,_⟩
  ·exact h.plain (oN hba)
  ·rw[hwj]at h;cases h
 obtain⟨cs0,elem,size,hcons,hvj⟩:=b9h hbo hopj
 have hrowj:iR (T (j+1)).2 (T j).2.length=some (.cells cs ty true cs.length tg):=by rw[hpa.next,iS]
 have hcs:cs0=cs:=by
  rw[hcons,iS]at hrowj
  injection (da hrowj)
 subst hcs
 have hA:(T j).2.length<(T (j+1)).2.length:=jI hrowj
 have hrowi:iR (T i).2 (T j).2.length=some (.cells cs0 ty true cs0.length tg):=by
  rw[(X.row D hA i (by omega) (by omega) fun q x h1 h2 hx=>hnm q x (by omega) h2 hx).1]
  exact hrowj
 have hrow:a7U P ρ (T i).2 w (T j).2.length cs0.length ⟨pl j,0,cs0.length,k⟩:=by
  intro cs2 ty2 rw2 lo2 ver2 hg2
  rw[hrowi]at hg2
  injection (da hg2)with e1 e2 e3 e4 e5
  subst e1 e2 e3 e4 e5
  exact hpa.at_ ρ w hpa.here hpa.rel
 let ρj:Rho:=Rho.put (fun _ _=>none) (T j).2.length cs0.length ⟨pl j,0,cs0.length,k⟩
 have hput:ρj (T j).2.length cs0.length=some ⟨pl j,0,cs0.length,k⟩:=Rho.ak _ _ _ _
 have hdj:d<(T 0).1.length→V ρj (val j) (a.eval (.tmp d)):=fun hdl=>by
  rw[hslot d hbd hdl]
  exact hpa.val _ hput
 have looks:∀t,t∈o.looksAt ops→∃ρ',V ρ' (ev (T i).1 (.tmp t)) (a.eval (.tmp t)):=by
  intro t ht
  by_cases hl:(T 0).1.length≤t
  ·rw[a4U (by rw[X.length i (by omega)];exact hl),a1j (by rw[I.size];exact hl)]
   exact⟨ρ,.undef⟩
  have hl:t<(T 0).1.length:=gJ hl
  by_cases hk:∃q x,q<i∧ops[q]? =some x∧x.dst=some t
  ·obtain⟨q,x,hqi,hx,hd⟩:=hk
   have hSq:S q:=D.bef I.closed i o ho hr q (D.raw hqi hx ho hd ht)
   rw[X.new D hx hd hl i hqi (by omega)]
   cases hh:lR fl q x.op with
   | none=>exact⟨ρ,I.new q x t hSq hx hd hl fun c hc=>by rw[hh]at hc;cases hc⟩
   | some c=>
     by_cases hcm:c<m
     ·exact⟨ρ,I.new q x t hSq hx hd hl fun c' hc=>by rw[hh]at hc;obtain rfl:=da hc;exact hcm⟩
     ·refine⟨ρj,?_⟩
      rcases D.fresh hqi hx ho hd hh ht with h|h
      ·rw[hmi]at h;cases h
      ·rw[hj]at h
       obtain rfl:=da h
       cases hax:iT fl x.op with
       | true=>
         rw[tH hax]at hh
         obtain rfl:=da hh
         rw[hb]at hx
         obtain rfl:=da hx
         rw[hbd]at hd
         obtain rfl:=da hd
         exact hdj hl
       | false=>exact I.der q _ x b t d hSq hx hax hh hmj hd hl hb hbd _ hdj
  ·rw[X.old i (by omega) fun q x hqi hx hd=>hk ⟨q,x,hqi,hx,hd⟩]
   refine⟨ρ,I.old t fun q x hSq hx hd=> ?_⟩
   rcases ic q i with h|h|h
   ·exact hk ⟨q,x,h,hx,hd⟩
   ·exact hS (h▸hSq)
   ·exact hS (D.bef I.closed q x hx (fun e he hb=>I.closed q x hSq hx e he hb) i (D.cS h ho hx hd ht))
 have hwi:Region.wanted o (iX ops (T i).1)=true:=by
  unfold Region.wanted
  rw[hg]
 have hst:StepR P o (T i).1 (T i).2 (val i) (T (i+1)).2:=by
  rcases(X.at ho).2 with⟨_,h⟩|⟨h,_⟩
  ·exact h
  ·rw[hwi]at h;cases h
 have hop:=hst.plain hmi
 have hoks:∀x,x∈o.op.operands→iU x=true:=fun x hx=>by
  have:=hst.ok
  rw[dx]at this;exact this x (by simpa using hx)
 have hV:∀x,x∈o.op.operands→∃ρ',V ρ' (ev (T i).1 x) (a.eval x):=fun x hx=>by
  have hok:=hoks x hx
  cases x with
  | tmp t=>exact looks t (by
     unfold Oper.looksAt
     simp only[dH,fu]
     exact .inl ⟨.tmp t,by simpa using hx,rfl⟩)
  | const v=>exact⟨ρ,.of_flat hok⟩
  | global g=>exact⟨ρ,.v1 (.c1 (.c0 (.glob g 0)))⟩
  | func f=>exact⟨ρ,.v1 (.c1 (.fn trivial trivial))⟩
 have hdi:d<(T 0).1.length∨(T 0).1.length≤d:=ig _ _
 have evd:d<(T 0).1.length→∀q,j<q→q≤ops.size→ev (T q).1 (.tmp d)=val j:=fun hdl q h1 h2=>X.new D hb hbd hdl q h1 h2
 have evn:(T 0).1.length≤d→∀q,q≤ops.size→ev (T q).1 (.tmp d)=undef:=fun hdl q h1=>a4U (by rw[X.length q h1];exact hdl)
 have fin:∀{v':Value},(execOp a.eval o).run P w=.ok (.value v') w→((∀c,lR fl i o.op=some c→c<m)→V ρ (val i) v')→(lR fl i o.op=some j→∀ρ1:Rho,(d<(T 0).1.length→V ρ1 (val j) (a.eval (.tmp d)))→V ρ1 (val i) v')→
  ∃v',(execOp a.eval o).run P w=.ok (.value v') w∧Inv P fl ops T val ρ0 W0 ds (fun k=>S k∨k=i) pl m ρ (a.put o.dst v') w:=by
  intro v' h1 h2 h3
  refine⟨v',h1,I.next X D ho hS hr hai (.inr ⟨hmi,rfl⟩) (.refl I.post.rel) h2 fun j' b' d' hh _ hb' hd' ρ1 hV1=> ?_⟩
  have:=(qW hai hh).1
  rw[hj]at this
  obtain rfl:=da this
  rw[hb]at hb'
  obtain rfl:=da hb'
  rw[hbd]at hd'
  obtain rfl:=da hd'
  exact h3 hh ρ1 hV1
 obtain⟨dst,op,type,pos,after,guard⟩:=o
 simp only at hD hV
 cases hD with
 | addr t ix=>
   obtain⟨ρi,hVi⟩:=hV ix (by simp[Op.operands])
   simp only[opD]at hop
   have hdl:d<(T 0).1.length:=by
    rcases hdi with h|h
    ·exact h
    ·rw[evn h i (by omega)]at hop
     simp[undef]at hop
   have hVx:=hdj hdl
   rw[evd hdl i hji (by omega),hvj]at hop
   rw[hvj]at hVx
   split at hop
   ·rename_i elem' A i' e n c jk jx hu hx hi
    injection hx with hx1 hx2 hx3
    injection (da hx1)with hx4 hx5 hx6
    obtain rfl:=hx4
    obtain rfl:=hx5
    obtain rfl:=da hx6
    obtain rfl:=hx2
    obtain rfl:=hx3
    simp only[db]at hop
    obtain⟨sz,hs,hop⟩:=hop
    split at hop
    case isFalse=>cases hop
    rename_i hc
    simp only[de,decide_eq_true_eq]at hc
    injection (da hop)with e1 e2
    rw[hi]at hVi
    obtain⟨p,c',ad,hp,h0,hin',hnc,ha,hck,hbv⟩:=hVx.ax
    obtain⟨ha,hsz⟩:ad=⟨p.b,p.at 0,none⟩∧p.at 0+c'*p.k≤p.sz:=by
     rcases ha with ha|ha
     ·exact ha
     ·omega
    subst ha
    have hrun:(Instr.indexAt t (a.eval (.tmp d)) (a.eval ix)).run P w=.ok (.pointer (some ⟨p.b,p.at 0+jx.toNat*sz,none⟩)) w:=by
     unfold Instr.indexAt
     simp only[hbv,hVi.aJ,asIntOf,di,du,dg,run_underlying hu]
     simp[hc,nC,kB hs]
    refine fin (v':=.pointer (some ⟨p.b,p.at 0+jx.toNat*sz,none⟩)) (by simp only[execOp,di,hrun,dg,du]) (fun h=> ?_) fun _ ρ1 h1=> ?_
    ·have:=h j (by simp[lR,iT,hj])
     omega
    ·have h2:=h1 hdl
     rw[hvj]at h2
     obtain⟨p2,c2,ad2,hp2,h02,_,hnc2,ha2,_,hbv2⟩:=h2.ax
     obtain⟨ha2,_⟩:ad2=⟨p2.b,p2.at 0,none⟩∧p2.at 0+c2*p2.k≤p2.sz:=by
      rcases ha2 with ha2|ha2
      ·exact ha2
      ·omega
     subst ha2
     rw[hbv]at hbv2
     injection hbv2 with g1 g2 g3
     injection (da g1)with g4 g5 g6
     rw[←e1,g4,g5,←vA h02]
     exact .v1 (.c1 (.c0 (.ptr hp2 (by
      have:0≤jx.toNat*sz:=eX _
      omega))))
   ·rename_i hx _;cases hx
   ·rename_i hx _;cases hx
   ·cases hop
 | conv s t=>
   have hcv:=D.conv _ _ ho
   simp only[tA,de,dK]at hcv
   simp only[opD,hcv.1,Bool.not_false,fg]at hop
   rcases hdi with hdl|hdl
   ·have hVx:=hdj hdl
    rw[evd hdl i hji (by omega),hvj]at hop
    rw[hvj]at hVx
    have hfl:flat (.slice (some ⟨(T j).2.length,0,some cs0.length⟩) blen size)=false:=rfl
    rw[hfl]at hop
    simp only[dR,if_false]at hop
    split at hop
    case isFalse=>cases hop
    rename_i hc
    simp only[de]at hc
    cases hca:(jF (T i).2 (T j).2.length 0 cs0.length blen).bind fun l=>(nG l).map Value.string with
    | none=>rw[hca]at hop;cases hop
    | some v2=>
      rw[hca]at hop
      injection (da hop)with e1 e2
      simp only[db,dq]at hca
      obtain⟨lx,hc1,bx,hc2,hc3⟩:=hca
      obtain⟨p,c',ad,hp,h0,_,_,ha,_,hbv⟩:=hVx.ax
      rw[hput]at hp
      obtain rfl:=da hp
      have hrun:=rL hrow h0 hc.1 hc.2 hc1 hc2 ha
      rw[←hbv]at hrun
      refine fin (v':=.string bx) (by simp only[execOp,di,hrun,dg,du]) (fun _=> ?_) fun h=> ?_
      ·rw[←e1,←hc3];exact .of_flat rfl
      ·simp[lR,iT]at h
   ·have e1:=evn hdl i (by omega)
    have e2:a.eval (.tmp d)=undef:=a1j (by rw[I.size];exact hdl)
    rw[e1]at hop
    have hfu:flat undef=true:=rfl
    rw[if_pos hfu]at hop
    unfold kK at hop
    split at hop
    case isFalse=>cases hop
    cases h2:iQ P (execOp (ev (T i).1) ⟨dst,.convert s t (.tmp d),type,pos,after,guard⟩)with
    | none=>rw[h2]at hop;cases hop
    | some nx=>
      rw[h2]at hop
      cases nx with
      | value v2=>
        simp only at hop
        split at hop
        case isFalse=>cases hop
        rename_i hf2
        injection (da hop)with g1 g2
        have hrun:=kQ _ h2 w
        have heq:execOp (ev (T i).1) ⟨dst,.convert s t (.tmp d),type,pos,after,guard⟩=execOp a.eval ⟨dst,.convert s t (.tmp d),type,pos,after,guard⟩:=by
         simp only[execOp,e1,e2]
        rw[heq]at hrun
        refine fin hrun (fun _=> ?_) fun h=> ?_
        ·rw[←g1];exact .of_flat hf2
        ·simp[lR,iT]at h
      | _=>cases hop
 | load t x k' y t' x' ix' g1 g2 g3 g4 g5 g6=>
   simp only[opD]at hop
   cases hlo:lP P (T i).2 t (ev (T i).1 (.tmp x))with
   | none=>rw[hlo]at hop;cases hop
   | some r=>
     rw[hlo]at hop
     injection (da hop)with e1 e2
     have hxl:x<(T 0).1.length:=by
      refine gJ fun h=> ?_
      rw[a4U (by rw[X.length i (by omega)];exact h)]at hlo
      simp[lP,undef]at hlo
     rw[X.new D g3 g6 hxl i g2 (by omega)]at hlo
     obtain⟨_,hgk,_,b',d',_,_,_,hb',hd',_,_,hD'⟩:=D.aA g3 g4
     rw[hb]at hb'
     obtain rfl:=da hb'
     rw[hbd]at hd'
     obtain rfl:=da hd'
     have hyp:=hD'.plain
     have hwk:Region.wanted y (iX ops (T k').1)=true:=by
      unfold Region.wanted
      rw[hgk]
     have hopk:opD P y (T k').1 (T k').2=some (val k',(T (k'+1)).2):=by
      rcases(X.at g3).2 with⟨_,h⟩|⟨h,_⟩
      ·exact h.plain hyp.1
      ·rw[hwk]at h;cases h
     have hSk:S k':=D.bef I.closed i _ ho hr k' (D.raw g2 g3 ho g6 (by
      unfold Oper.looksAt
      simp only[dH,fu]
      exact .inl ⟨.tmp x,by simp[Op.operands],rfl⟩))
     have hheld:lR fl k' y.op=some j:=by rw[g5];simp[lR,iT,g4]
     have hVk:V ρj (val k') (a.eval (.tmp x)):=I.der k' j y b x d hSk g3 hyp.2 hheld hmj g6 hxl hb hbd _ hdj
     obtain⟨dst2,op2,type2,pos2,after2,guard2⟩:=y
     simp only at g5 hD'
     subst g5
     cases hD'
     simp only[opD]at hopk
     have hdl:d<(T 0).1.length:=by
      rcases hdi with h|h
      ·exact h
      ·rw[evn h k' (by omega)]at hopk
       simp[undef]at hopk
     rw[evd hdl k' g1 (by omega),hvj]at hopk
     split at hopk
     ·rename_i elem' A i' e n c jk jx hu hx hi
      injection hx with hx1 hx2 hx3
      injection (da hx1)with hx4 hx5 hx6
      obtain rfl:=hx4
      obtain rfl:=hx5
      obtain rfl:=da hx6
      simp only[db]at hopk
      obtain⟨sz,hs,hopk⟩:=hopk
      split at hopk
      case isFalse=>cases hopk
      injection (da hopk)with f1 f2
      rw[←f1]at hlo hVk
      obtain⟨p,hp,h0,hbv⟩:=hVk.aC
      rw[hput]at hp
      obtain rfl:=da hp
      simp only[lP]at hlo
      obtain⟨r',hr1,hr2⟩:=a7D hrow h0 hlo
      rw[←hbv]at hr1
      refine fin (v':=r') (by simp only[execOp,di,hr1,dg,du]) (fun _=> ?_) fun h=> ?_
      ·rw[←e1];exact hr2
      ·simp[lR,iT]at h
     ·rename_i hx _;cases hx
     ·rename_i hx _;cases hx
     ·cases hopk
theorem Inv.done(I:Inv P fl ops T val ρ0 W0 ds S pl m ρ a w)(X:Text P ops T val)(D:Draw P fl ops)(hall:∀i,i<ops.size→S i):
 ∃ρ',Post P ρ0 (T 0).2 W0 ρ' (T ops.size).2 w∧All2 (V ρ') (T ops.size).1 a.tmps.toList∧a.defers=ds:=by
 have hle:=I.le
 obtain⟨ρ',I'⟩:=Inv.ch X D (ops.size-m) m ρ I (by omega) fun k x h1 h2 hx=>by
  have hk:S k:=hall k (by omega)
  refine⟨?_,fun _=>hk⟩
  cases hm:jL fl x.op with
  | false=>rfl
  | true=>have:=(I.mains k x hx hm).1 hk;omega
 rw[show m+(ops.size-m)=ops.size by omega]at I'
 refine⟨ρ',I'.post,All2.bm (by rw[X.length _ (dj _)];simpa using I'.size.symm) fun t v h1=> ?_,I'.defers⟩
 have ht:t<(T 0).1.length:=by rw[←X.length _ (dj _)];exact(dy.1 h1).1
 have e1:ev (T ops.size).1 (.tmp t)=v:=by simp[ev,oL,dh,h1]
 have ht2:t<a.tmps.size:=by rw[I'.size];exact ht
 refine⟨a.tmps[t],by simp[ht2],?_⟩
 have e2:a.eval (.tmp t)=a.tmps[t]:=by simp[Act.eval,ht2]
 rw[←e1,←e2]
 by_cases hk:∃k x,k<ops.size∧ops[k]? =some x∧x.dst=some t
 ·obtain⟨k,x,hkn,hx,hd⟩:=hk
  rw[X.new D hx hd ht _ hkn (dj _)]
  exact I'.new k x t (hall k hkn) hx hd ht fun b hb=>by have:=(D.aV hx hb).1;omega
 ·rw[X.old _ (dj _) fun k x hkn hx hd=>hk ⟨k,x,hkn,hx,hd⟩]
  exact I'.old t fun k x hS hx hd=>hk ⟨k,x,(dp.1 hx).1,hx,hd⟩
theorem pF{listed:Array Bool}(hsz:listed.size=ops.size){i:Nat}(h:i∈Region.ready .any ops listed):
 ∃o,ops[i]? =some o∧¬listed.getD i false=true∧∀e∈o.after,Region.binds .any e=true→listed.getD e.on false=true:=by
 unfold Region.ready at h
 rw[ee]at h
 obtain⟨hi,h⟩:=h
 have hi:i<ops.size:=dz.1 hi
 have ho:ops[i]? =some ops[i]:=dp.2 ⟨hi,rfl⟩
 rw[ho,de]at h
 refine⟨ops[i],ho,?_,?_⟩
 ·have h1:=h.1
  rw[ed,fG (by omega)]at h1 ⊢
  simpa using h1
 ·have h2:=h.2
  simp only[dS,fi,Array.all_eq_true_iff_forall_mem,eB,dK]at h2
  intro e he hb
  rcases h2 e he with h|h
  ·rw[hb]at h;cases h
  ·exact h
theorem zN{listed:Array Bool}(hsz:listed.size=ops.size){i:Nat}{o:Oper}(ho:ops[i]? =some o)(hn:¬listed.getD i false=true)(hr:∀e∈o.after,Region.binds .any e=true→listed.getD e.on false=true):i∈Region.ready .any ops listed:=by
 have hi:i<ops.size:=(dp.1 ho).1
 unfold Region.ready
 rw[ee]
 refine⟨dz.2 hi,?_⟩
 rw[ho,de]
 constructor
 ·rw[ed,fG (by omega)]at hn ⊢
  simpa using hn
 ·simp only[dS,fi,Array.all_eq_true_iff_forall_mem,eB,dK]
  intro e he
  cases hb:Region.binds .any e with
  | false=>exact .inl rfl
  | true=>exact .inr (hr e he hb)
theorem b2J{listed:Array Bool}(hsz:listed.size=ops.size)(h:∀i,i<ops.size→listed.getD i false=true):Region.ready .any ops listed=[]:=by
 cases hr:Region.ready .any ops listed with
 | nil=>rfl
 | cons i r=>
   obtain⟨o,ho,hn,_⟩:=pF hsz (i:=i) (by rw[hr];simp)
   exact absurd (h i (dp.1 ho).1) hn
theorem zM(D:Draw P fl ops){listed:Array Bool}(hsz:listed.size=ops.size)(h:Region.ready .any ops listed=[]):∀i,i<ops.size→listed.getD i false=true:=by
 intro i
 induction i using Nat.strongRecOn with
 | _ i ih=>
   intro hi
   have ho:ops[i]? =some ops[i]:=dp.2 ⟨hi,rfl⟩
   refine gO fun hn=> ?_
   have:=zN hsz ho hn fun e he hb=>by
    have:=D.back i _ e ho he hb
    exact ih e.on this (by omega)
   rw[h]at this
   cases this
theorem sY{listed:Array Bool}{i:Nat}(hi:i<listed.size)(j:Nat):(listed.setIfInBounds i true).getD j false=true↔(listed.getD j false=true∨j=i):=by
 rw[ed,ed,Array.getElem?_setIfInBounds]
 by_cases h:i=j
 ·subst h;simp[hi]
 ·simp[h,eG h]
theorem Inv.congr{S':Nat→Prop}(h:∀j,S' j↔S j)(I:Inv P fl ops T val ρ0 W0 ds S pl m ρ a w):Inv P fl ops T val ρ0 W0 ds S' pl m ρ a w:=by
 have:S'=S:=funext fun j=>propext (h j)
 rw[this];exact I
theorem b9a{o:Oper}{i:Nat}(h:(o,i)∈ops.toList.zipIdx):ops[i]? =some o:=by
 rw[gx]at h
 simpa using h
theorem b1G{j:Nat}{x:Oper}(hx:ops[j]? =some x)(hm:jL fl x.op=true):j∈yL fl ops:=by
 unfold yL
 rw[fu]
 exact⟨(x,j),mW hx,by simp[hm]⟩
theorem a3S{j:Nat}(h:j∈yL fl ops):∃x,ops[j]? =some x∧jL fl x.op=true:=by
 unfold yL at h
 rw[fu]at h
 obtain⟨⟨x,j'⟩,h1,h2⟩:=h
 simp only at h2
 split at h2
 ·rename_i hm
  obtain rfl:=da h2
  exact⟨x,b9a h1,hm⟩
 ·cases h2
theorem a6l{j:Nat}{x:Oper}(hx:ops[j]? =some x)(hm:jL fl x.op=true∨iT fl x.op=true):j∈zU fl ops:=by
 unfold zU
 rw[fu]
 exact⟨(x,j),mW hx,by rcases hm with hm|hm<;>simp[hm]⟩
theorem b5P{i m:Nat}{o:Oper}(ho:ops[i]? =some o)(hr:nT o.op=true)(hm:m=0∨∃j x,m=j+1∧ops[j]? =some x∧jL fl x.op=true)
 (hlo:∀j x,ops[j]? =some x→jL fl x.op=true→(bef ops i j=true→j<m)∧(bef ops j i=true→m≤j)) (hbs:∀j,fl.base i=some j→j<m):
 (i,m)∈mM fl ops∨∀j x,ops[j]? =some x→min m i≤j→j<max m i→jL fl x.op=false∧iT fl x.op=false:=by
 by_cases h:∃j x,ops[j]? =some x∧(jL fl x.op=true∨iT fl x.op=true)∧min m i≤j∧j<max m i
 ·obtain⟨j,x,hx,he,h1,h2⟩:=h
  refine .inl ?_
  unfold mM
  rw[eD]
  refine⟨(o,i),mW ho,?_⟩
  simp only[hr,if_true]
  rw[dD]
  refine⟨m,?_,rfl⟩
  rw[ee]
  refine⟨?_,?_⟩
  ·rcases hm with rfl|⟨j,x,rfl,hx,hmx⟩
   ·simp
   ·exact eC _ (dD.2 ⟨j,b1G hx hmx,rfl⟩)
  ·rw[de,de]
   refine⟨⟨?_,?_⟩,?_⟩
   ·rw[dx]
    intro j hj
    obtain⟨x,hx,hmx⟩:=a3S hj
    obtain⟨g1,g2⟩:=hlo j x hx hmx
    unfold bef at g1 g2
    rw[de]
    constructor
    ·cases hb:((a2Y [] ops.toList).getD i 0).testBit j with
     | false=>rfl
     | true=>simpa using g1 hb
    ·cases hb:((a2Y [] ops.toList).getD j 0).testBit i with
     | false=>rfl
     | true=>simpa using g2 hb
   ·rw[gI]
    exact⟨j,a6l hx he,by rw[de];exact⟨decide_eq_true h1,decide_eq_true h2⟩⟩
   ·split
    ·rename_i j hj;exact decide_eq_true (hbs j hj)
    ·rfl
 ·refine .inr fun j x hx h1 h2=> ?_
  constructor
  ·cases hm:jL fl x.op with
   | false=>rfl
   | true=>exact absurd ⟨j,x,hx,.inl hm,h1,h2⟩ h
  ·cases hm:iT fl x.op with
   | false=>rfl
   | true=>exact absurd ⟨j,x,hx,.inr hm,h1,h2⟩ h
theorem a1Y{i m:Nat}(h:(i,m)∈mM fl ops):m≤ops.size:=by
 unfold mM at h
 rw[eD]at h
 obtain⟨⟨x,j⟩,_,h⟩:=h
 simp only at h
 split at h
 ·rw[dD]at h
  obtain⟨m',h,he⟩:=h
  injection he with h1 h2
  subst h1 h2
  rw[ee]at h
  rcases eM.1 h.1 with h|h
  ·omega
  ·rw[dD]at h
   obtain⟨q,hq,rfl⟩:=h
   obtain⟨x,hx,_⟩:=a3S hq
   exact(dp.1 hx).1
 ·cases h
theorem c1J(X:Text P ops T val)(D:Draw P fl ops)
 (hread:∀i m o,(i,m)∈mM fl ops→ops[i]? =some o→Region.wanted o (iX ops (T i).1)=true→∃H2,opD P o (T i).1 (T m).2=some (val i,H2))
 (ro:Option Nat) (k:Nat) {Q:Exit→Act→World→Prop} (hQ:∀ρ' a' w',Post P ρ0 (T 0).2 W0 ρ' (T ops.size).2 w'→All2 (V ρ') (T ops.size).1 a'.tmps.toList→a'.defers=ds→Q .normal a' w'):
 ∀(fuel:Nat)(listed:Array Bool)(U:List Nat),listed.size=ops.size→(∀i,i<ops.size→¬listed.getD i false=true→i∈U)→U.length≤fuel→
  ∀(pl:Nat→Nat)(m:Nat)(ρ:Rho)(a:Act)(w:World),Inv P fl ops T val ρ0 W0 ds (fun j=>listed.getD j false=true) pl m ρ a w→(m=0∨∃j o,m=j+1∧ops[j]? =some o∧jL fl o.op=true)→
  wpAnyIn (fe ro) k P .any ops Q fuel listed a w:=by
 have fin:∀{listed:Array Bool}{pl:Nat→Nat}{m:Nat}{ρ:Rho}{a:Act}{w:World},(∀i,i<ops.size→listed.getD i false=true)→Inv P fl ops T val ρ0 W0 ds (fun j=>listed.getD j false=true) pl m ρ a w→Q .normal a w:=by
  intro listed pl m ρ a w hall I
  obtain⟨ρ',h1,h2,h3⟩:=I.done X D hall
  exact hQ ρ' a w h1 h2 h3
 intro fuel
 induction fuel with
 | zero=>
   intro listed U hsz hU hlen pl m ρ a w I hm
   have hall:∀i,i<ops.size→listed.getD i false=true:=fun i hi=>gO fun hn=>by
    have:=hU i hi hn
    have h0:U=[]:=fm (by omega)
    rw[h0]at this
    cases this
   exact⟨b2J hsz hall,fin hall I⟩
 | succ fuel ih=>
   intro listed U hsz hU hlen pl m ρ a w I hm
   refine⟨fun h=>fin (zM D hsz h) I,fun i hi=> ?_⟩
   obtain⟨o,ho,hn,hr⟩:=pF hsz hi
   have hin:i<ops.size:=(dp.1 ho).1
   have hiU:i∈U:=hU i hin hn
   have on:∀(pl:Nat→Nat)(m:Nat)(ρ:Rho)(a:Act)(w:World),Inv P fl ops T val ρ0 W0 ds (fun j=>listed.getD j false=true∨j=i) pl m ρ a w→(m=0∨∃j o,m=j+1∧ops[j]? =some o∧jL fl o.op=true)→
    wpAnyIn (fe ro) k P .any ops Q fuel (listed.setIfInBounds i true) a w:=by
    intro pl m ρ a w I hm
    refine ih (listed.setIfInBounds i true) (U.erase i) (by simp[hsz]) ?_ (by have h1:=List.length_erase_of_mem hiU;have h2:=List.length_pos_of_mem hiU;omega) pl m ρ a w (I.congr fun j=>sY (by omega) j) hm
    intro j hj hnj
    have hnj':=mt (sY (by omega) j).2 hnj
    have hji:j≠i:=fun h=>hnj' (.inr h)
    exact(List.mem_erase_of_ne hji).2 (hU j hj fun h=>hnj' (.inl h))
   unfold wpOpIn
   rw[ho]
   simp only
   cases hma:jL fl o.op with
   | true=>
     have hmi:m≤i:=Nat.le_of_not_lt fun h=>hn ((I.mains i o ho hma).2 h)
     obtain⟨ρ1,I1⟩:=Inv.ch X D (i-m) m ρ I (by omega) fun j x h1 h2 hx=>by
      have hji:j<i:=by omega
      refine⟨?_,fun hal=>D.bef I.closed i o ho hr j (D.main hji hx ho (.inr hal) hma)⟩
      cases hmx:jL fl x.op with
      | false=>rfl
      | true=>have:=(I.mains j x hx hmx).1 (D.bef I.closed i o ho hr j (D.main hji hx ho (.inl hmx) hma));omega
     rw[show m+(i-m)=i by omega]at I1
     have hna:iT fl o.op=false:=by
      cases h:iT fl o.op with
      | false=>rfl
      | true=>rw[oN h]at hma;cases hma
     have hbm:∀j,fl.base i=some j→j<i:=fun j hj=>(D.bZ ho hj).1
     rw[I1.wanted X D ho hn hr (fun _=>rfl) hbm]
     have nod:∀{v':Value}(j:Nat)(b:Oper)(d:Tmp),lR fl i o.op=some j→i+1≤j→ops[j]? =some b→b.dst=some d→∀ρ1:Rho,(d<(T 0).1.length→V ρ1 (val j) (a.eval (.tmp d)))→V ρ1 (val i) v':=fun j b d hh hij=>by
      have:=(D.aV ho hh).1;omega
     rcases(X.at ho).2 with⟨hw,hst⟩|⟨hw,hv,hT⟩
     ·rw[hw,if_pos rfl]
      refine hst.sound I1.post.rel (I1.operands X D ho hn hr (fun _=>rfl) hbm) ro k fun ρ2 v2 w2 hp2 hv2=> ?_
      exact on _ _ _ _ _ (I1.next X D ho hn hr hna (.inl ⟨hma,rfl,rfl⟩) hp2 (fun _=>hv2) nod) (.inr ⟨i,o,rfl,ho,hma⟩)
     ·rw[hw,if_neg (by simp)]
      refine⟨fun _ _=>trivial,?_⟩
      refine on _ _ _ _ _ (I1.next X D ho hn hr hna (.inl ⟨hma,rfl,rfl⟩) (by rw[hT];exact .refl I1.post.rel) (fun _=>by rw[hv];exact .undef) nod) (.inr ⟨i,o,rfl,ho,hma⟩)
   | false=>
     by_cases hder:∃j,fl.base i=some j∧m≤j
     ·obtain⟨j,hj,hmj⟩:=hder
      obtain⟨v',hrun,I'⟩:=I.aA X D ho hn hr hj hmj
      have hg:=(D.aA ho hj).2.1
      have hw:Region.wanted o (yielded ops a.tmps)=true:=by
       unfold Region.wanted
       rw[hg]
      rw[hw,if_pos rfl]
      refine⟨fun _ _=>trivial,?_⟩
      have hdef:∀c,o.op≠.defer c:=fun c hc=>by
       obtain⟨_,_,_,_,_,_,_,_,_,_,_,_,hD⟩:=D.aA ho hj
       rw[hc]at hD;cases hD
      rw[gU _ _ _ hdef,hrun]
      exact on _ _ _ _ _ I' hm
     have hbm:∀j,fl.base i=some j→j<m:=fun j hj=>gJ fun h=>hder ⟨j,hj,h⟩
     rw[I.wanted X D ho hn hr (fun h=>by rw[hma]at h;cases h) hbm]
     cases hal:iT fl o.op with
     | true=>
       have hw:Region.wanted o (iX ops (T i).1)=true:=by
        unfold Region.wanted
        rw[D.guard i o ho hal]
       rw[hw,if_pos rfl]
       obtain⟨v',w',hrun,I'⟩:=I.early X D ho hn hr hal
       refine⟨fun _ _=>trivial,?_⟩
       have hdef:∀c,o.op≠.defer c:=fun c hc=>by rw[hc]at hal;cases hal
       rw[gU _ _ _ hdef,hrun]
       exact on _ _ _ _ _ I' hm
     | false=>
       have hops:=I.operands X D ho hn hr (fun h=>by rw[hma]at h;cases h) hbm
       have nod:∀{v':Value}(j:Nat)(b:Oper)(d:Tmp),lR fl i o.op=some j→m≤j→ops[j]? =some b→b.dst=some d→∀ρ1:Rho,(d<(T 0).1.length→V ρ1 (val j) (a.eval (.tmp d)))→V ρ1 (val i) v':=fun j b d hh hij=>by
        have:=hbm j (qW hal hh).1;omega
       rcases(X.at ho).2 with⟨hw,hst⟩|⟨hw,hv,hT⟩
       ·rw[hw,if_pos rfl]
        have hop:=hst.plain hma
        have hopm:opD P o (T i).1 (T m).2=some (val i,(T m).2):=by
         cases hrd:nT o.op with
         | false=>exact(a6Z (T m).2 (D.conv _ _ ho) hma hal hrd hop).2
         | true=>
           have hlo:∀j x,ops[j]? =some x→jL fl x.op=true→(bef ops i j=true→j<m)∧(bef ops j i=true→m≤j):=fun j x hx hmx=>
            ⟨fun hb=>(I.mains j x hx hmx).1 (D.bef I.closed i o ho hr j hb),fun hb=>Nat.le_of_not_lt fun hlt=>by
             have hSj:=(I.mains j x hx hmx).2 hlt
             exact hn (D.bef I.closed j x hx (fun e he hb'=>I.closed j x hSj hx e he hb') i hb)⟩
           rcases b5P ho hrd hm hlo hbm with hmem|hno
           ·obtain⟨H2,hH2⟩:=hread i m o hmem ho hw
            rw[hH2,zS (D.conv _ _ ho) hrd hH2]
           ·have hTT:(T m).2=(T i).2:=by
             rcases Nat.le_total m i with h|h
             ·exact(X.bC D i h (by omega) fun j x h1 h2 hx=>hno j x hx (by omega) (by omega)).symm
             ·exact X.bC D m h I.le fun j x h1 h2 hx=>hno j x hx (by omega) (by omega)
            rw[hTT]
            have:=zS (D.conv _ _ ho) hrd hop
            rw[hop,this]
        refine(StepR.op hst.ok hopm).sound I.post.rel hops ro k fun ρ2 v2 w2 hp2 hv2=> ?_
        exact on _ _ _ _ _ (I.next X D ho hn hr hal (.inr ⟨hma,rfl⟩) hp2 (fun _=>hv2) nod) hm
       ·rw[hw,if_neg (by simp)]
        refine⟨fun _ _=>trivial,?_⟩
        exact on _ _ _ _ _ (I.next X D ho hn hr hal (.inr ⟨hma,rfl⟩) (.refl I.post.rel) (fun _=>by rw[hv];exact .undef) nod) hm
end
section
variable {P:Program} {ρ:Rho} {H:Heap} {w:World}
theorem a5J{B:Nat}{id:Nat}{e:Ex}{l':List Value}{H':Heap}{e2:Ex}(he:e2=(match e with|.exit i=>if i=id then .normal else .exit i|e=>e)){e':Exit}{a':Act}{w':World}
 (h:QD P ρ H w B e l' H' e' a' w'):Exit.inBlock id (QD P ρ H w B e2 l' H') e' a' w':=by
 obtain⟨h1,h2⟩:=h
 subst h1
 cases e with
 | normal=>simp only at he;subst he;exact⟨rfl,h2⟩
 | ret=>simp only at he;subst he;exact⟨rfl,h2⟩
 | exit i=>
   simp only[Ex.bY,Exit.inBlock]at he ⊢
   by_cases hi:i=id
   ·rw[if_pos hi]at he;subst he;rw[if_pos hi];exact⟨rfl,h2⟩
   ·rw[if_neg hi]at he;subst he;rw[if_neg hi];exact⟨rfl,h2⟩
theorem a4i{B:Nat}{e:Ex}{l':List Value}{H':Heap}(hne:e≠.normal){next:Act→World→Prop}{e':Exit}{a':Act}{w':World}
 (h:QD P ρ H w B e l' H' e' a' w'):Exit.then next (QD P ρ H w B e l' H') e' a' w':=by
 have h1:=h.1
 cases e with
 | normal=>exact absurd rfl hne
 | exit id=>subst h1;exact h
 | ret=>subst h1;exact h
theorem b8t(h:HRel P ρ H w)(e:Nat)(p:Place):ρ.Le (ρ.put H.length e p):=.put (pQ h e)
theorem a6Q{ex:Run}(hex:∀c l H e l' H',ex c l H=some (e,l',H')→Sim P c l H e l' H'){g:Operand}{ps:Array Tmp}{assign body:Code}{l:List Value}{v:Value}{H2:Heap}
 (hc:a5c P ex (ev l g) H.length (H.cons (.loop {state:=.ready,pending:=none,fn:=0,tmps:=l.toArray,params:=ps,assign,body,defers:=0}))=some (v,H2)) (hgo:iU g=true) {r:Loop} (hg:iR H2 H.length=some (.loop r)) (hnb:r.state≠.busy)
 {e:Ex} {l':List Value} {H':Heap} (hnext0:r.pending=none→e=.normal∧l'=l∧H'=hset H2 H.length (.loop {r with state:=.exhausted}))
 (hnext1:∀c,r.pending=some c→Sim P c l (hset H2 H.length (.loop {r with state:=.exhausted})) e l' H'):Sim P (.rangeFunc g ps assign body) l H e l' H':=by
 intro ro k B ρ w a hr hE hl hM hB
 refine wpIn_rangeFunc ?_
 intro fn _
 obtain⟨lc,mark,w1,df,henter,hpost0,hmark,hlc,hw1⟩:∃(lc:Nat)(mark:List Deferred)(w1:World)(df:Nat),
  (Instr.enterLoop fn a.tmps ps assign body ro).run P w=.ok (lc,mark) w1∧
  Post P ρ H w (ρ.put H.length 0 ⟨lc,0,0,0⟩) (H.cons (.loop {state:=.ready,pending:=none,fn:=0,tmps:=l.toArray,params:=ps,assign,body,defers:=0})) w1∧
  Marks B w1 (mark++a.defers)∧w.heap.size≤lc∧w1.heap[lc]? =some (.loop {state:=.ready,pending:=none,fn:=fn,tmps:=a.tmps,params:=ps,assign,body,defers:=df}):=by
  have hloop:∀(ρ:Rho)(w:World),HRel P ρ H w→All2 (V ρ) l a.tmps.toList→∀df:Nat,Post P ρ H w (ρ.put H.length 0 ⟨w.heap.size,0,0,0⟩) (H.cons (.loop {state:=.ready,pending:=none,fn:=0,tmps:=l.toArray,params:=ps,assign,body,defers:=0}))
   (w.alloc (.loop {state:=.ready,pending:=none,fn:=fn,tmps:=a.tmps,params:=ps,assign,body,defers:=df})):=fun ρ w hr hE df=>by
   refine Post.new hr _ _ 0 ⟨w.heap.size,0,0,0⟩ rfl (fun _ _ _ _ _ e=>by cases e) (fun _ _ _ e=>by cases e) (fun r e=> ?_)
   injection e with e
   subst e
   refine⟨rfl,_,rfl,rfl,rfl,?_,rfl,rfl,rfl⟩
   simpa using hE.mono fun _ _ h=>h.mono (b8t hr _ _)
  cases ro with
  | none=>
    have hp1:=Post.bg hr (.deferred (some []))
    have hp2:=hloop ρ (w.alloc (.deferred (some []))) hp1.rel hE w.heap.size
    rw[World.size_alloc]at hp2
    refine⟨w.heap.size+1,[{target:=.collected w.heap.size,args:=#[]}],_,w.heap.size,run_enterLoop_outer fn a.tmps ps assign body,hp1.trans hp2,?_,by omega,?_⟩
    ·obtain⟨rs,h1,h2,h3⟩:=hM.post hr (hp1.trans hp2)
     refine⟨w.heap.size::rs,by simp[h1],List.nodup_cons.2 ⟨fun hmem=> ?_,h2⟩,fun q hq=> ?_⟩
     ·obtain⟨rs0,k1,k2,k3⟩:=hM
      have e:rs0=rs:=by
       have:=k1.symm.trans h1
       have inj:∀(x y:List Nat),x.map Target.collected=y.map Target.collected→x=y:=by
        intro x
        induction x with
        | nil=>intro y h;cases y with|nil=>rfl|cons=>simp at h
        | cons a x ih=>intro y h;cases y with|nil=>simp at h|cons b y=>simp at h;rw[h.1,ih y h.2]
       exact inj _ _ this
      subst e
      have:=mJ (k3 _ hmem).2
      omega
     ·rcases eM.1 hq with rfl|hq
      ·refine⟨hB,?_⟩
       rw[jH (by simp)]
       exact jK w _
      ·exact h3 q hq
    ·have:=jK (w.alloc (.deferred (some []))) (.loop {state:=.ready,pending:=none,fn:=fn,tmps:=a.tmps,params:=ps,assign,body,defers:=w.heap.size})
     rwa [World.size_alloc]at this
  | some l0=>
    obtain⟨r0,hr0⟩:=hl l0 rfl
    have hp2:=hloop ρ w hr hE r0.defers
    refine⟨w.heap.size,[],_,r0.defers,?_,hp2,by simpa using hM.post hr hp2,dj _,jK w _⟩
    unfold Instr.enterLoop
    simp only[di,run_getLoop hr0,run_newObj_alloc,dg,du]
 unfold a5c at hc
 split at hc
 ·rename_i f first captured hev
  have hgv:=b4z hE hgo
  rw[hev]at hgv
  obtain⟨first',captured',hfe,hfa,hfc⟩:=hgv.bn
  obtain⟨fnc,hfn,hbody,hname⟩:=b4d hc
  have hLp:(ρ.put H.length 0 ⟨lc,0,0,0⟩) H.length 0=some ⟨lc,0,0,0⟩:=Rho.ak _ _ _ _
  refine⟨lc,mark,w1,{target:=.fn (.func f) captured',args:=first'++#[Value.func (.yield lc) #[] #[]]},w1,f,first'++#[Value.func (.yield lc) #[] #[]]++captured',w1,henter,?_,fun _ _=>trivial,?_,a2f ro,?_⟩
  ·simp only[resolve,hfe,Deferred.ofValue,du]
   simp[Act.eval]
  ·simp only[invoke]
   exact xX hfn hbody hname _ w1
  ·have hargs:All2 (V (ρ.put H.length 0 ⟨lc,0,0,0⟩)) (first.toList++[Value.func (.yield H.length) #[] #[]]++captured.toList) (first'++#[Value.func (.yield lc) #[] #[]]++captured').toList:=by
    simp only[gj]
    exact((((hfa.mono fun _ _ h=>h.mono hpost0.le).aU).append (show All2 (V _) [Value.func (.yield H.length) #[] #[]] [Value.func (.yield lc) #[] #[]]from⟨.v1 (.c1 (C1.yld hLp)),trivial⟩)).append (hfc.mono fun _ _ h=>h.mono hpost0.le).aU)
   have hcall:=a6T hex hc (k-1) _ w1 _ hpost0.rel hargs
   have hci:CallsIn (fe ro) (k-1) P f (first'++#[Value.func (.yield lc) #[] #[]]++captured') w1 fun e w'=>∃ρ' v',e=.returned v'∧Post P (ρ.put H.length 0 ⟨lc,0,0,0⟩) _ w1 ρ' H2 w'∧V ρ' v v':=hcall
   refine hci.mono ?_
   rintro e2 w2⟨ρ2,v2,rfl,hp2,_⟩
   obtain⟨r',hw2,hrel⟩:=a1a hp2.rel hg (hp2.le _ _ _ hLp)
   have hp3:=Post.bp (r:={r with state:=.exhausted}) (r':={r' with state:=.exhausted}) hp2.rel hg (hp2.le _ _ _ hLp) hw2 ⟨rfl,hrel.pending,hrel.tmps,hrel.params,hrel.assign,hrel.body⟩
   have hend:=run_endLoop (P:=P) hw2 (by rw[hrel.state];exact hnb)
   revert hp3 hend
   generalize w2.putObj lc (.loop {r' with state:=.exhausted})=w3
   intro hp3 hend
   have hall:=hpost0.trans (hp2.trans hp3)
   have hM3:Marks B _ (mark++a.defers):=hmark.post hpost0.rel (hp2.trans hp3)
   have hE3:=hE.mono fun _ _ h=>h.mono hall.le
   refine⟨r'.pending,w3,hend,?_⟩
   rw[hrel.pending]
   cases hpend:r.pending with
   | none=>
     obtain⟨rfl,rfl,rfl⟩:=hnext0 hpend
     exact⟨rfl,ρ2,hall,hE3,hM3⟩
   | some c=>
     refine wpIn_mono (hnext1 c hpend ro k B ρ2 _ {a with defers:=mark++a.defers} hp3.rel hE3 (hl.post hall) hM3 (dL hB hall.size)) ?_
     intro e5 a5 w5 hq
     exact hq.trans hall
 ·cases hc
end
section
variable {P:Program} {ρ:Rho} {H:Heap} {w:World}
theorem Sim.skip(l:List Value)(H:Heap):Sim P .skip l H .normal l H:=fun ro k B ρ w a hr hE hl hM hB=>wpIn_skip ⟨rfl,ρ,.refl hr,hE,hM⟩
theorem Sim.label(t:Nat)(l:List Value)(H:Heap):Sim P (.label t) l H .normal l H:=fun ro k B ρ w a hr hE hl hM hB=>wpIn_label ⟨rfl,ρ,.refl hr,hE,hM⟩
theorem Sim.exit(id:Nat)(l:List Value)(H:Heap):Sim P (.exit id) l H (.exit id) l H:=fun ro k B ρ w a hr hE hl hM hB=>wpIn_exit ⟨rfl,ρ,.refl hr,hE,hM⟩
theorem Sim.ret(l:List Value)(H:Heap):Sim P .ret l H .ret l H:=fun ro k B ρ w a hr hE hl hM hB=>wpIn_ret ⟨rfl,ρ,.refl hr,hE,hM⟩
theorem Sim.seq{a b:Code}{l:List Value}{H:Heap}{l1:List Value}{H1:Heap}{e:Ex}{l2:List Value}{H2:Heap}(h1:Sim P a l H .normal l1 H1)(h2:Sim P b l1 H1 e l2 H2):Sim P (.seq a b) l H e l2 H2:=
 fun ro k B ρ w a hr hE hl hM hB=>wpIn_seq (QD.cA h1 h2 hr hE hl hM hB)
theorem Sim.seq'{a b:Code}{l:List Value}{H:Heap}{e:Ex}{l2:List Value}{H2:Heap}(h1:Sim P a l H e l2 H2)(hne:e≠.normal):Sim P (.seq a b) l H e l2 H2:=
 fun ro k B ρ w a hr hE hl hM hB=>wpIn_seq (wpIn_mono (h1 ro k B ρ w a hr hE hl hM hB) fun e' a' w' hq=>a4i hne hq)
theorem Sim.cond{c:Operand}{t:Bool}{x y:Code}{l:List Value}{H:Heap}{e:Ex}{l2:List Value}{H2:Heap}(hc:ev l c=.bool t)(hok:iU c=true)(h:Sim P (if t then x else y) l H e l2 H2):Sim P (.cond c x y) l H e l2 H2:=
 fun ro k B ρ w a hr hE hl hM hB=>by
  have hv:=b4z hE hok
  rw[hc]at hv
  exact wpIn_cond hv.aO (h ro k B ρ w a hr hE hl hM hB)
def Ex.out(id:Nat):Ex→Ex
 | .exit i=>if i=id then .normal else .exit i
 | e=>e
theorem Sim.block{id:Nat}{b:Code}{l:List Value}{H:Heap}{e:Ex}{l2:List Value}{H2:Heap}(h:Sim P b l H e l2 H2):Sim P (.block id b) l H (e.out id) l2 H2:=
 fun ro k B ρ w a hr hE hl hM hB=>wpIn_block (wpIn_mono (h ro k B ρ w a hr hE hl hM hB) fun e' a' w' hq=>a5J (by cases e<;>rfl) hq)
theorem wL{F:Fence}{k:Nat}{c:Code}{Q Q':Exit→Act→World→Prop}(h:∀e a w,Q e a w→Q' e a w):∀(m:Nat)(a:Act)(w:World),Code.roundsIn F k P c Q m a w→Code.roundsIn F k P c Q' m a w
 | 0,_,_,hh=>hh
 | m+1,a,w,hh=>by
   rw[roundsIn_succ]at hh ⊢
   refine wpIn_mono hh ?_
   intro e3 a3 w3 hq
   cases e3<;>first|exact wL h m _ _ hq|exact h _ _ _ hq
inductive Rounds(P:Program)(c:Code):Nat→List Value→Heap→Ex→List Value→Heap→Prop where
 | last {l:List Value} {H:Heap} {e:Ex} {l':List Value} {H':Heap} (h:Sim P c l H e l' H') (hne:e≠.normal):Rounds P c 1 l H e l' H'
 | more {n:Nat} {l:List Value} {H:Heap} {l1:List Value} {H1:Heap} {e:Ex} {l':List Value} {H':Heap} (h:Sim P c l H .normal l1 H1) (hh:Rounds P c n l1 H1 e l' H'):Rounds P c (n+1) l H e l' H'
theorem Rounds.sound{c:Code}{n:Nat}{l:List Value}{H:Heap}{e:Ex}{l':List Value}{H':Heap}(h:Rounds P c n l H e l' H'):
 ∀(ro:Option Nat)(k B:Nat)(ρ:Rho)(w:World)(a:Act),HRel P ρ H w→All2 (V ρ) l a.tmps.toList→LoopAt ro w→Marks B w a.defers→B≤w.heap.size→Code.roundsIn (fe ro) k P c (QD P ρ H w B e l' H') n a w:=by
 induction h with
 | last h hne=>
   intro ro k B ρ w a hr hE hl hM hB
   rw[roundsIn_succ]
   exact wpIn_mono (h ro k B ρ w a hr hE hl hM hB) fun e' a' w' hq=>a4i hne hq
 | more h hh ih=>
   intro ro k B ρ w a hr hE hl hM hB
   rw[roundsIn_succ]
   refine wpIn_mono (h ro k B ρ w a hr hE hl hM hB) ?_
   rintro e' a' w'⟨he,ρ',hp,hE',hM'⟩
   subst he
   exact wL (fun _ _ _ hq=>hq.trans hp) _ _ _ (ih ro k B ρ' w' a' hp.rel hE' (hl.post hp) hM' (dL hB hp.size))
theorem Sim.loop{c:Code}{n:Nat}{l:List Value}{H:Heap}{e:Ex}{l':List Value}{H':Heap}(h:Rounds P c n l H e l' H'):Sim P (.loop c) l H e l' H':=
 fun ro k B ρ w a hr hE hl hM hB=>wpIn_loop_rounds n (h.sound ro k B ρ w a hr hE hl hM hB)
theorem Sim.region{id:Nat}{ops:Array Oper}{l:List Value}{H:Heap}{l':List Value}{H':Heap}(h:OpsR P ops (List.range ops.size) l H l' H'):Sim P (.region id ops false) l H .normal l' H':=
 fun ro k B ρ w a hr hE hl hM hB=>wpIn_region (h.sound ro k ρ w a hr hE (by
  rintro a' w'⟨ρ',hp,hE',hd⟩
  exact⟨rfl,ρ',hp,hE',by rw[hd];exact hM.post hr hp⟩))
theorem a3l{fl:Fl}{ops:Array Oper}(D:Draw P fl ops){T:Nat→List Value×Heap}{val:Nat→Value}(X:Text P ops T val)
 (hread:∀i m o,(i,m)∈mM fl ops→ops[i]? =some o→Region.wanted o (iX ops (T i).1)=true→∃H2,opD P o (T i).1 (T m).2=some (val i,H2)) (ro:Option Nat) (k B:Nat) {ρ:Rho} {w:World} {a:Act}
 (hr:HRel P ρ (T 0).2 w) (hE:All2 (V ρ) (T 0).1 a.tmps.toList) (hM:Marks B w a.defers):
 wpAnyIn (fe ro) k P .any ops (QD P ρ (T 0).2 w B .normal (T ops.size).1 (T ops.size).2) ops.size (Array.replicate ops.size false) a {w with drawn:=w.drawn+1}:=by
 have hdrew:Post P ρ (T 0).2 w ρ (T 0).2 {w with drawn:=w.drawn+1}:=Post.drew hr
 refine c1J (ρ0:=ρ) (W0:=w) (ds:=a.defers) X D hread ro k ?_ ops.size _ (List.range ops.size) (by simp) (fun i hi _=>dz.2 hi) (by simp) (fun _=>0) 0 ρ a _ ?_ (.inl rfl)
 ·intro ρ' a' w' h1 h2 h3
  exact⟨rfl,ρ',h1,h2,by rw[h3];exact hM.post hr h1⟩
 ·have hfalse:∀j,¬(Array.replicate ops.size false).getD j false=true:=fun j=>by
   rw[ed,Array.getElem?_replicate]
   split<;>simp
  exact⟨eX _,hdrew,fun j _ hj=>absurd hj (hfalse j),fun i o ho hm=>⟨fun h=>absurd h (hfalse i),fun h=>absurd h (dJ _)⟩,fun i o ho ha hi=>absurd hi (dJ _),fun i o ho ha hi hS=>absurd hS (hfalse i),
   fun i j x y hx hy h1 h2 h3 h4 h5=>absurd h5 (hfalse i),by simpa using hE.length.symm,fun t _=>a1P hE t,fun i o t hS=>absurd hS (hfalse i),fun i _ _ _ _ _ hS=>absurd hS (hfalse i),rfl⟩
theorem Sim.draw(kG:P.follows .mixedOrders=true){id:Nat}{ops:Array Oper}{tab:List (Nat×Nat)}(htab:mX P ops=some tab){T:Nat→List Value×Heap}{val:Nat→Value}(X:Text P ops T val)
 (hread:∀i m o,(i,m)∈tab→ops[i]? =some o→Region.wanted o (iX ops (T i).1)=true→∃H2,opD P o (T i).1 (T m).2=some (val i,H2)):
 Sim P (.region id ops true) (T 0).1 (T 0).2 .normal (T ops.size).1 (T ops.size).2:=by
 intro ro k B ρ w a hr hE hl hM hB
 obtain⟨fl,D,rfl⟩:=qD htab
 exact wpIn_region_any kG (a3l D X hread ro k B hr hE hM)
theorem CallOk.bN{f:FuncId}{fn:Func}{c:Code}{args:List Value}{e:Ex}{l1:List Value}{H1:Heap}{v:Value}(hf:P.funcs[f]? =some fn)(hb:fn.body=some c)(hn:(fn.name== "runtime.NumGoroutine")=false)
 (hs:Sim P c (args++List.replicate (fn.ntmps-args.length) undef) H e l1 H1) (he:e=.normal∨e=.ret) (hres:iE P fn l1 H1=some v):CallOk P f args H v H1:=by
 classical
 let ex:Run:=fun c' l' H'=>if c'=c∧l'=args++List.replicate (fn.ntmps-args.length) undef∧H'=H then some (e,l1,H1)else none
 have hex:∀c l H e l' H',ex c l H=some (e,l',H')→Sim P c l H e l' H':=by
  intro c' l' H' e' l2 H2 h
  simp only[ex]at h
  split at h
  ·rename_i hh
   obtain⟨rfl,rfl,rfl⟩:=hh
   injection h with h
   injection h with h1 h
   injection h with h2 h3
   subst h1 h2 h3
   exact hs
  ·cases h
 refine a6T hex ?_
 unfold callF
 have h1:ex c (args++List.replicate (fn.ntmps-args.length) undef) H=some (e,l1,H1):=by simp[ex]
 rw[hf]
 simp only[hb,hn,dR,if_false,h1]
 rcases he with rfl|rfl<;>simp[hres]
theorem HRel.empty(w:World):HRel P (fun _ _=>none) .nil w where
 dom _ _ _ h:=by cases h
 cells _ _ _ _ _ _ h:=by rw[vG (eX _)]at h;cases h
 map _ _ _ _ h:=by rw[vG (eX _)]at h;cases h
 loop _ _ h:=by rw[vG (eX _)]at h;cases h
 one _ _ _ _ h:=by cases h
 excl _ _ _ _ _ _ _ h:=by cases h
 full _ h:=absurd h (dJ _)
 glob _ _ _ _ h:=by rw[vG (eX _)]at h;cases h
theorem CallOk.closed{f:FuncId}{v:Value}(hv:flat v=true){H1:Heap}(h:CallOk P f [] .nil v H1)(H:Heap):CallOk P f [] H v H:=by
 intro k ρ w args' hr ha
 have ha':All2 (V (fun _ _=>none)) [] args'.toList:=by
  cases hh:args'.toList with
  | nil=>trivial
  | cons x xs=>rw[hh]at ha;exact ha.elim
 refine(h k (fun _ _=>none) w args' (.empty w) ha').mono ?_
 rintro e w'⟨ρ',v',rfl,hp,hv'⟩
 have hframe:∀b,b<w.heap.size→w'.heap[b]? =w.heap[b]?:=fun b hb=>(hp.frame b hb (by rintro⟨A,e,p,kJ,hq,_⟩;cases hq)).1
 refine⟨ρ,v',rfl,?_,?_⟩
 ·exact{
   le:=.refl ρ
   rel:=hr.other hp.size fun A e p hq=>hframe _ (hr.dom _ _ _ hq).2
   len:=dj _
   size:=hp.size
   os:=hp.os
   tape:=hp.tape
   output:=hp.output
   frame:=fun b hb hw=>⟨hframe b hb,hw⟩
   loops:=fun b r h=>⟨r,by rw[hframe b (mJ h),h]⟩
   img:=fun _ _ h=>h}
 ·rw[hv'.ag hv]
  exact .of_flat hv
structure Glob(G H:Heap):Prop where
 len:G.length≤H.length
 same:∀A,A<G.length→iR H A=iR G A
 glob:∀A b,iR G A=some b→∃cs ty lo,b=.cells cs ty false lo 1∧kH cs=true
theorem Glob.rel{G:Heap}(hG:Glob G H)(h:HRel P ρ H w):HRel P (fun A e=>if A<G.length then ρ A e else none) G w:=by
 have hcells:=hG.glob
 have hcut:∀{A e p},(if A<G.length then ρ A e else none)=some p→A<G.length∧ρ A e=some p:=fun{A e p}hh=>by
  by_cases hA:A<G.length
  ·rw[if_pos hA]at hh;exact⟨hA,hh⟩
  ·rw[if_neg hA]at hh;cases hh
 refine⟨?_,?_,?_,?_,?_,?_,?_,?_⟩
 ·intro A e p hp
  obtain⟨hA,hp⟩:=hcut hp
  exact⟨hA,(h.dom _ _ _ hp).2⟩
 ·intro A cs ty rw lo ver hg
  have hA:=jI hg
  have hg':iR H A=some (.cells cs ty rw lo ver):=by rw[hG.same A hA,hg]
  obtain⟨⟨p,hp⟩,hall⟩:=h.cells _ _ _ _ _ _ hg'
  refine⟨⟨p,by simp only[if_pos hA,hp]⟩,fun e q hq=> ?_⟩
  have hc:=hall e q (hcut hq).2
  obtain⟨cs',ty',lo',hb,hsc⟩:=hcells A _ hg
  injection hb with hb
  subst hb
  obtain⟨h1,h2,h3,cur,ty2,fr,h4,h5,h6,h7⟩:=hc
  refine⟨h1,h2,h3,cur,ty2,fr,h4,h5,h6,fun hlo i c hi h0 hci=> ?_⟩
  obtain⟨c',a,b⟩:=h7 hlo i c hi h0 hci
  have hs:jC c=true:=by
   simp only[kH,dx]at hsc
   exact hsc c (dW hci)
  exact⟨c',a,by rw[b.az hs];exact .aB hs⟩
 ·intro A es ck ver hg
  obtain⟨cs',ty',lo',hb,_⟩:=hcells A _ hg
  cases hb
 ·intro A r hg
  obtain⟨cs',ty',lo',hb,_⟩:=hcells A _ hg
  cases hb
 ·intro A e p kJ hp hg
  obtain⟨hA,hp⟩:=hcut hp
  exact h.one _ _ _ _ hp (by rw[hG.same A hA,hg])
 ·intro A e p A2 e2 p2 kJ hp hp2 hb hg hwr
  obtain⟨cs',ty',lo',rfl,_⟩:=hcells A _ hg
  cases hwr
 ·intro A hA
  have:=h.full A (dQ hA hG.len)
  rw[hG.same A hA]at this;exact this
 ·intro A cs ty lo hg
  have hA:=jI hg
  obtain⟨q,h1,h2,h3⟩:=h.glob A cs ty lo (by rw[hG.same A hA,hg])
  exact⟨q,by simp only[if_pos hA,h1],h2,h3⟩
theorem CallOk.bO{f:FuncId}{v:Value}{args:List Value}(hfa:∀x∈args,flat x=true)(hv:flat v=true){G H H1:Heap}(h:CallOk P f args G v H1)(hG:Glob G H):CallOk P f args H v H:=by
 intro k ρ w args' hr ha
 have hfl:∀(l l':List Value)(ρ':Rho),(∀x∈l,flat x=true)→All2 (V ρ) l l'→All2 (V ρ') l l':=by
  intro l
  induction l with
  | nil=>intro l' ρ' _ hh;cases l' with|nil=>trivial|cons x xs=>exact hh.elim
  | cons y ys ih=>
    intro l' ρ' hy hh
    cases l' with
    | nil=>exact hh.elim
    | cons x xs=>
      refine⟨?_,ih xs ρ' (fun z hz=>hy z (by simp[hz])) hh.2⟩
      rw[hh.1.ag (hy y (by simp))]
      exact .of_flat (hy y (by simp))
 have ha':All2 (V (fun A e=>if A<G.length then ρ A e else none)) args args'.toList:=hfl _ _ _ hfa ha
 refine(h k _ w args' (hG.rel hr) ha').mono ?_
 rintro e w'⟨ρ',v',rfl,hp,hv'⟩
 have hframe:∀b,b<w.heap.size→w'.heap[b]? =w.heap[b]?:=fun b hb=>(hp.frame b hb (by
  rintro⟨A,e,p,kJ,hq,_,hg,hw⟩
  obtain⟨cs,ty,lo,rfl,_⟩:=hG.glob A _ hg
  cases hw)).1
 refine⟨ρ,v',rfl,?_,?_⟩
 ·exact{
   le:=.refl ρ
   rel:=hr.other hp.size fun A e p hq=>hframe _ (hr.dom _ _ _ hq).2
   len:=dj _
   size:=hp.size
   os:=hp.os
   tape:=hp.tape
   output:=hp.output
   frame:=fun b hb hw=>⟨hframe b hb,hw⟩
   loops:=fun b r h=>⟨r,by rw[hframe b (mJ h),h]⟩
   img:=fun _ _ h=>h}
 ·rw[hv'.ag hv]
  exact .of_flat hv
end
section
variable {P:Program} {ρ:Rho} {H:Heap} {w:World}
abbrev nN:=Ex→List Value→Heap→Prop
structure Keep{α:Sort _}(a:α):Type where
def jZ(r:Option (Value×Heap))(K:Value→Heap→Prop)(_k:Keep K:=⟨⟩):Prop:=
 match r with
 | some (v,H1)=>K v H1
 | none=>False
@[simp] theorem a8u(v:Value)(H1:Heap)(K:Value→Heap→Prop):jZ (some (v,H1)) K=K v H1:=rfl
def qY(P:Program)(f:Value)(args:List Value)(H:Heap)(K:Value→Heap→Prop)(_k:Keep K:=⟨⟩):Prop:=
 match f with
 | .func (.func k) first captured=>∃v H1,rI P k∧CallOk P k (first.toList++args++captured.toList) H v H1∧K v H1
 | .func (.yield L) _ _=>∃v H1,xR P L args H v H1∧K v H1
 | _=>False
def lW(P:Program)(o:Oper)(l:List Value)(H:Heap)(K:Value→Heap→Prop):Prop:=
 o.op.operands.toList.all iU=true∧
 match o.op with
 | .move x=>K (ev l x) H
 | .assign x=>K (ev l x) H
 | .call c=>match c.callee with
   | .value f=>qY P (ev l f) (c.args.toList.map (ev l)) H K
   | _=>jZ (opD P o l H) K
 | _=>jZ (opD P o l H) K
theorem a0e{o:Oper}{l:List Value}{K:Value→Heap→Prop}(h:lW P o l H K):∃v H1,StepR P o l H v H1∧K v H1:=by
 obtain⟨dst,op,type,pos,after,guard⟩:=o
 obtain⟨hok,h⟩:=h
 have plain:jZ (opD P ⟨dst,op,type,pos,after,guard⟩ l H) K→∃v H1,StepR P ⟨dst,op,type,pos,after,guard⟩ l H v H1∧K v H1:=fun h=>by
  unfold jZ at h
  split at h
  ·rename_i v H1 h1
   exact⟨v,H1,.op hok h1,h⟩
  ·exact h.elim
 simp only at h
 split at h
 ·exact⟨_,_,.op hok rfl,h⟩
 ·exact⟨_,_,.op hok rfl,h⟩
 ·rename_i c
  split at h
  ·rename_i f hf
   unfold qY at h
   split at h
   ·rename_i k first captured hev
    obtain⟨v,H1,h1,h2,h3⟩:=h
    exact⟨v,H1,.call hok c f k first captured rfl hf hev h1 h2,h3⟩
   ·rename_i L b d hev
    obtain⟨v,H1,h1,h2⟩:=h
    exact⟨v,H1,.round hok c f L b d rfl hf hev h1,h2⟩
   ·exact h.elim
  ·exact plain h
 ·exact plain h
def rD(P:Program)(ops:Array Oper):List Oper→List Value→Heap→(List Value→Heap→Prop)→Prop
 | [],l,H,K=>K l H
 | o::os,l,H,K=>if Region.wanted o (iX ops l)=true then lW P o l H fun v H1=>rD P ops os (put l o.dst v) H1 K else rD P ops os (put l o.dst undef) H K
theorem wO{ops:Array Oper}{K:List Value→Heap→Prop}:∀(os:List Oper)(i:Nat),ops.toList.drop i=os→∀(l:List Value)(H:Heap),rD P ops os l H K→
 ∃l' H',OpsR P ops (List.range' i os.length) l H l' H'∧K l' H'
 | [],i,_,l,H,h=>⟨l,H,.nil l H,h⟩
 | o::os,i,hd,l,H,h=>by
   have ho:ops[i]? =some o:=by
    have:(ops.toList.drop i)[0]? =some o:=by rw[hd];rfl
    rw[dI]at this
    simpa using this
   have hd':ops.toList.drop (i+1)=os:=by
    rw[←fC,hd];rfl
   unfold rD at h
   rw[eo,gK]
   split at h
   ·rename_i hw
    obtain⟨v,H1,h1,h2⟩:=a0e h
    obtain⟨l',H',h3,h4⟩:=wO os (i+1) hd' _ _ h2
    exact⟨l',H',.step ho hw h1 h3,h4⟩
   ·rename_i hw
    obtain⟨l',H',h3,h4⟩:=wO os (i+1) hd' _ _ h
    exact⟨l',H',.past ho (by simpa using hw) h3,h4⟩
theorem a3p{ops:Array Oper}{l:List Value}{K:List Value→Heap→Prop}(h:rD P ops ops.toList l H K):∃l' H',OpsR P ops (List.range ops.size) l H l' H'∧K l' H':=by
 obtain⟨l',H',h1,h2⟩:=wO ops.toList 0 rfl l H h
 refine⟨l',H',?_,h2⟩
 rw[fO]
 simpa using h1
theorem b6Z{ops:Array Oper}:∀(is:List Nat)(l:List Value)(H:Heap)(l':List Value)(H':Heap),OpsR P ops is l H l' H'→
 ∃(T:Nat→List Value×Heap)(val:Nat→Value),T 0=(l,H)∧T is.length=(l',H')∧∀k i,is[k]? =some i→wJ P ops i (T k) (T (k+1)) (val k):=by
 intro is l H l' H' h
 have key:∀{i:Nat}{is:List Nat}{l:List Value}{H:Heap}{l1:List Value}{H1:Heap}{v:Value}{l':List Value}{H':Heap},wJ P ops i (l,H) (l1,H1) v→
  (∃(T:Nat→List Value×Heap)(val:Nat→Value),T 0=(l1,H1)∧T is.length=(l',H')∧∀k i,is[k]? =some i→wJ P ops i (T k) (T (k+1)) (val k))→
  ∃(T:Nat→List Value×Heap)(val:Nat→Value),T 0=(l,H)∧T (i::is).length=(l',H')∧∀k j,(i::is)[k]? =some j→wJ P ops j (T k) (T (k+1)) (val k):=by
  intro i is l H l1 H1 v l' H' hst ⟨T,val,h0,h1,h4⟩
  refine⟨fun k=>match k with|0=>(l,H)|k+1=>T k,fun k=>match k with|0=>v|k+1=>val k,rfl,h1,?_⟩
  intro k j hj
  cases k with
  | zero=>
    simp at hj
    subst hj
    simp only[h0]
    exact hst
  | succ k=>exact h4 k j (by simpa using hj)
 induction h with
 | nil l H=>exact⟨fun _=>(l,H),fun _=>undef,rfl,rfl,by simp⟩
 | step ho hw hs rest ih=>exact key ⟨_,ho,rfl,.inl ⟨hw,hs⟩⟩ ih
 | past ho hw rest ih=>exact key ⟨_,ho,rfl,.inr ⟨hw,rfl,rfl⟩⟩ ih
theorem Sim.ca(kG:P.follows .mixedOrders=true){id:Nat}{ops:Array Oper}(htab:mX P ops=some []){l:List Value}{H:Heap}{l':List Value}{H':Heap}(h:OpsR P ops (List.range ops.size) l H l' H'):
 Sim P (.region id ops true) l H .normal l' H':=by
 obtain⟨T,val,h0,h1,h2⟩:=b6Z _ _ _ _ _ h
 rw[gE]at h1
 have:=Sim.draw kG (id:=id) htab (T:=T) (val:=val) ⟨fun k hk=>h2 k k (by rw[List.getElem?_range hk])⟩ fun i m o hm=>by cases hm
 rw[h0,h1]at this
 exact this
def Wp(P:Program)(c:Code)(l:List Value)(H:Heap)(Q:nN)(_k1:Keep c:=⟨⟩)(_k2:Keep Q:=⟨⟩):Prop:=∃e l' H',Sim P c l H e l' H'∧Q e l' H'
theorem Wp.mono{c:Code}{l:List Value}{Q Q':nN}(h:Wp P c l H Q)(hh:∀e l H,Q e l H→Q' e l H):Wp P c l H Q':=by
 obtain⟨e,l',H',h1,h2⟩:=h
 exact⟨e,l',H',h1,hh _ _ _ h2⟩
def c5e(P:Program)(b:Code)(Q:nN):nN
 | .normal,l,H=>Wp P b l H Q
 | e,l,H=>Q e l H
def zP(id:Nat)(Q:nN):nN:=fun e l H=>Q (e.out id) l H
theorem Wp.skip{l:List Value}{Q:nN}(h:Q .normal l H):Wp P .skip l H Q:=⟨_,_,_,.skip l H,h⟩
theorem Wp.label{t:Nat}{l:List Value}{Q:nN}(h:Q .normal l H):Wp P (.label t) l H Q:=⟨_,_,_,.label t l H,h⟩
theorem Wp.exit{id:Nat}{l:List Value}{Q:nN}(h:Q (.exit id) l H):Wp P (.exit id) l H Q:=⟨_,_,_,.exit id l H,h⟩
theorem Wp.ret{l:List Value}{Q:nN}(h:Q .ret l H):Wp P .ret l H Q:=⟨_,_,_,.ret l H,h⟩
theorem Wp.seq{a b:Code}{l:List Value}{Q:nN}(h:Wp P a l H (c5e P b Q)):Wp P (.seq a b) l H Q:=by
 obtain⟨e,l1,H1,h1,h2⟩:=h
 cases e with
 | normal=>
   obtain⟨e,l2,H2,h3,h4⟩:=h2
   exact⟨e,l2,H2,.seq h1 h3,h4⟩
 | exit i=>exact⟨_,_,_,.seq' h1 (by simp),h2⟩
 | ret=>exact⟨_,_,_,.seq' h1 (by simp),h2⟩
theorem Wp.cond{c:Operand}{x y:Code}{l:List Value}{Q:nN}(t:Bool)(hc:ev l c=.bool t)(hok:iU c=true)(h:Wp P (if t then x else y) l H Q):Wp P (.cond c x y) l H Q:=by
 obtain⟨e,l2,H2,h3,h4⟩:=h
 exact⟨e,l2,H2,.cond hc hok h3,h4⟩
theorem Wp.ite{c:Operand}{x y:Code}{l:List Value}{Q:nN}(p:Prop)[Decidable p](hc:ev l c=.bool (decide p))(hok:iU c=true)(hx:p→Wp P x l H Q)(hy:¬p→Wp P y l H Q):Wp P (.cond c x y) l H Q:=by
 refine Wp.cond (decide p) hc hok ?_
 by_cases h:p
 ·have e:(if decide p=true then x else y)=x:=by simp[h]
  rw[e];exact hx h
 ·have e:(if decide p=true then x else y)=y:=by simp[h]
  rw[e];exact hy h
theorem Wp.block{id:Nat}{b:Code}{l:List Value}{Q:nN}(h:Wp P b l H (zP id Q)):Wp P (.block id b) l H Q:=by
 obtain⟨e,l2,H2,h3,h4⟩:=h
 exact⟨_,l2,H2,.block h3,h4⟩
theorem Wp.loop{c:Code}{Q:nN}(I:Nat→List Value→Heap→Prop)(step:∀n l H,I n l H→Wp P c l H fun e l1 H1=>match e with|.normal=>∃m,m<n∧I m l1 H1|e=>Q e l1 H1){l:List Value}(n:Nat)(h:I n l H):Wp P (.loop c) l H Q:=by
 have key:∀(n:Nat)(l:List Value)(H:Heap),I n l H→∃k e l' H',Rounds P c k l H e l' H'∧Q e l' H':=by
  intro n
  induction n using Nat.strongRecOn with
  | _ n ih=>
    intro l H h
    obtain⟨e,l1,H1,h1,h2⟩:=step n l H h
    cases e with
    | normal=>
      obtain⟨m,hm,h3⟩:=h2
      obtain⟨k,e,l',H',h4,h5⟩:=ih m hm l1 H1 h3
      exact⟨k+1,e,l',H',.more h1 h4,h5⟩
    | exit i=>exact⟨1,_,_,_,.last h1 (by simp),h2⟩
    | ret=>exact⟨1,_,_,_,.last h1 (by simp),h2⟩
 obtain⟨k,e,l',H',h1,h2⟩:=key n l H h
 exact⟨e,l',H',.loop h1,h2⟩
theorem Wp.region{id:Nat}{ops:Array Oper}{l:List Value}{Q:nN}(h:rD P ops ops.toList l H fun l H=>Q .normal l H):Wp P (.region id ops false) l H Q:=by
 obtain⟨l',H',h1,h2⟩:=a3p h
 exact⟨_,_,_,.region h1,h2⟩
theorem Wp.draw(kG:P.follows .mixedOrders=true){id:Nat}{ops:Array Oper}{l:List Value}{Q:nN}(htab:mX P ops=some [])(h:rD P ops ops.toList l H fun l H=>Q .normal l H):Wp P (.region id ops true) l H Q:=by
 obtain⟨l',H',h1,h2⟩:=a3p h
 exact⟨_,_,_,.ca kG htab h1,h2⟩
theorem CallOk.of_wp{f:FuncId}{fn:Func}{c:Code}{args:List Value}(hf:P.funcs[f]? =some fn)(hb:fn.body=some c)(hn:(fn.name== "runtime.NumGoroutine")=false){Q:Value→Heap→Prop}
 (h:Wp P c (args++List.replicate (fn.ntmps-args.length) undef) H fun e l H1=>(e=.normal∨e=.ret)∧∃v,iE P fn l H1=some v∧Q v H1):∃v H',CallOk P f args H v H'∧Q v H':=by
 obtain⟨e,l',H',h1,h2,v,h3,h4⟩:=h
 exact⟨v,H',.bN hf hb hn h1 h2 h3,h4⟩
theorem b0N(l:List Value)(d:Option Tmp)(v:Value)(t:Tmp):get (put l d v) t=if d=some t∧t<l.length then v else get l t:=a9M l d v t
theorem b3X(l:List Value)(v:Value):put l none v=l:=rfl
end
end Go.Ds
namespace Go.Ds
noncomputable section
variable {P:Program} {H:Heap}
def oI(v:Value)(K:Value→Prop)(_k:Keep K:=⟨⟩):Prop:=K v
theorem a8F{v v':Value}{K:Value→Prop}(h:v=v'):oI v K=oI v' K:=by rw[h]
attribute [congr] a8F
theorem b7q(v:Value)(K:Value→Prop):oI v K=K v:=rfl
def jY(r:Option Value)(K:Value→Prop)(_k:Keep K:=⟨⟩):Prop:=match r with|some v=>K v|none=>False
theorem a7v{r r':Option Value}{K:Value→Prop}(h:r=r'):jY r K=jY r' K:=by rw[h]
attribute [congr] a7v
theorem a8Z(v:Value)(K:Value→Prop):jY (some v) K=K v:=rfl
theorem a8d{r r':Option (Value×Heap)}{K:Value→Heap→Prop}(h:r=r'):jZ r K=jZ r' K:=by rw[h]
attribute [congr] a8d
def uV(b:Bool)(p:Prop)(_k:Keep p:=⟨⟩):Prop:=b=true∧p
theorem a8w{b b':Bool}{p:Prop}(h:b=b'):uV b p=uV b' p:=by rw[h]
attribute [congr] a8w
theorem b2L(p:Prop):uV true p=p:=by simp[uV]
def jN(x:Operand)(l:List Value)(K:Value→Prop)(_k:Keep K:=⟨⟩):Prop:=iU x=true∧K (ev l x)
theorem b5m(t:Tmp)(l:List Value)(K:Value→Prop):jN (.tmp t) l K=oI (get l t) K:=by simp[jN,iU,ev,oI]
theorem a9W(v:Value)(l:List Value)(K:Value→Prop):jN (.const v) l K=uV (flat v) (K v):=by simp[jN,iU,ev,uV]
theorem b3k(f:FuncId)(l:List Value)(K:Value→Prop):jN (.func f) l K=K (.func (.func f) #[] #[]):=by simp[jN,iU,ev]
def yW:List Operand→List Value→(List Value→Prop)→Prop
 | [],_,K=>K []
 | x::xs,l,K=>jN x l fun v=>yW xs l fun vs=>K (v::vs)
theorem a2q:∀(xs:List Operand)(l:List Value)(K:List Value→Prop),yW xs l K=(xs.all iU=true∧K (xs.map (ev l)))
 | [],l,K=>by simp[yW]
 | x::xs,l,K=>by simp[yW,a2q,jN,and_assoc]
theorem b1u(l:List Value)(K:List Value→Prop):yW [] l K=K []:=rfl
theorem a9v(x:Operand)(xs:List Operand)(l:List Value)(K:List Value→Prop):yW (x::xs) l K=jN x l fun v=>yW xs l fun vs=>K (v::vs):=rfl
theorem b6C(d ty pos af g)(x:Operand)(l:List Value)(K:Value→Heap→Prop):lW P ⟨d,.move x,ty,pos,af,g⟩ l H K=jN x l fun v=>K v H:=by
 simp[lW,jN,Op.operands]
theorem a8z(d ty pos af g)(x:Operand)(l:List Value)(K:Value→Heap→Prop):lW P ⟨d,.assign x,ty,pos,af,g⟩ l H K=jN x l fun v=>K v H:=by
 simp[lW,jN,Op.operands]
def a2g(c a b:Value)(K:Value→Prop)(_k:Keep K:=⟨⟩):Prop:=match c with|.bool t=>K (if t then a else b)|_=>False
theorem a6C{c c' a b:Value}{K:Value→Prop}(h:c=c'):a2g c a b K=a2g c' a b K:=by rw[h]
attribute [congr] a6C
theorem a8C(a b:Value)(K:Value→Prop):a2g (.bool true) a b K=K a:=rfl
theorem a7k(a b:Value)(K:Value→Prop):a2g (.bool false) a b K=K b:=rfl
theorem a7w(c x y:Bool)(K:Value→Prop):a2g (.bool c) (.bool x) (.bool y) K=K (.bool (if c then x else y)):=by cases c<;>rfl
theorem b6t(d ty pos af g)(c a b:Operand)(l:List Value)(K:Value→Heap→Prop):lW P ⟨d,.pick c a b,ty,pos,af,g⟩ l H K=jN c l fun c=>jN a l fun a=>jN b l fun b=>a2g c a b fun v=>K v H:=by
 simp only[lW,jN,Op.operands,opD,a2g,fz,ij,fg,de,and_assoc]
 congr 1;congr 1;congr 1
 cases ev l c<;>simp[jZ]
theorem mU(r:Option (Value×Heap))(K:Value→Heap→Prop):jZ r K=∃v H1,r=some (v,H1)∧K v H1:=by
 cases r with
 | none=>simp[jZ]
 | some r=>
   obtain⟨a,b⟩:=r
   exact propext ⟨fun h=>⟨a,b,rfl,h⟩,fun⟨_,_,h,k⟩=>by cases h;exact k⟩
def pA(a:Option Bool)(s:Option Nat)(H:Heap)(v:Value):Option Value:=
 match v with
 | .pointer (some ⟨A,i,some e⟩)=>
   match a with
   | some true=>s.bind fun n=>(jF H A i e n).map fun l=>.agg l.toArray
   | some false=>(jF H A i e 1).bind fun l=>l[0]?
   | none=>none
 | .pointer (some ⟨A,i,none⟩)=>match iR H A with
   | some (.cells cs _ false _ 1)=>match a with
     | some true=>s.bind fun n=>(jF H A i cs.length n).map fun l=>.agg l.toArray
     | some false=>(jF H A i cs.length 1).bind fun l=>l[0]?
     | none=>none
   | _=>none
 | _=>none
theorem lC(t:TypeId)(v:Value):lP P H t v=pA (jQ P t) (iF P t) H v:=rfl
theorem b5w(d ty pos af g)(t:TypeId)(a:Operand)(l:List Value)(K:Value→Heap→Prop):lW P ⟨d,.load t a,ty,pos,af,g⟩ l H K=jN a l fun p=>jY (pA (jQ P t) (iF P t) H p) fun v=>K v H:=by
 simp only[lW,jN,Op.operands,opD,fz,ij,fg,lC]
 cases pA (jQ P t) (iF P t) H (ev l a)<;>simp[jZ,jY]
def a0t(P:Program)(H:Heap)(t:TypeId)(p v:Value)(K:Heap→Prop)(_k:Keep K:=⟨⟩):Prop:=∃H1,qT P H t p v=some H1∧K H1
theorem a4x{t:TypeId}{p p' v v':Value}{K:Heap→Prop}(h1:p=p')(h2:v=v'):a0t P H t p v K=a0t P H t p' v' K:=by rw[h1,h2]
attribute [congr] a4x
theorem b2M(d ty pos af g)(t:TypeId)(a x:Operand)(l:List Value)(K:Value→Heap→Prop):lW P ⟨d,.store t a x,ty,pos,af,g⟩ l H K=jN a l fun p=>jN x l fun v=>a0t P H t p v fun H1=>K undef H1:=by
 simp only[lW,jN,Op.operands,opD,fz,ij,fg,de,and_assoc,a0t]
 cases qT P H t (ev l a) (ev l x)<;>simp[jZ]
def a5B(P:Program)(H:Heap)(t:TypeId)(v:Value)(K:Value→Heap→Prop)(_k:Keep K:=⟨⟩):Prop:=∃p H1,wS P H t v=some (p,H1)∧K p H1
theorem a9f{t:TypeId}{v v':Value}{K:Value→Heap→Prop}(h:v=v'):a5B P H t v K=a5B P H t v' K:=by rw[h]
attribute [congr] a9f
theorem a9k(t:TypeId)(v:Value)(K:Value→Heap→Prop):jZ (wS P H t v) K=a5B P H t v K:=mU _ _
def a8E(P:Program)(H:Heap)(t:TypeId)(v:Value)(K:Value→Heap→Prop)(_k:Keep K:=⟨⟩):Prop:=∃p H1,qV P H t v=some (p,H1)∧K p H1
theorem a9w{t:TypeId}{v v':Value}{K:Value→Heap→Prop}(h:v=v'):a8E P H t v K=a8E P H t v' K:=by rw[h]
attribute [congr] a9w
theorem a9E{t:TypeId}(ha:jM P t=none)(z:Value):qV P H t z=wS P H t z:=by
 unfold qV
 split
 ·rename_i n e h;simp[jM,h]at ha
 ·rfl
def uT(P:Program)(H:Heap)(t:TypeId)(z:Option Value)(K:Value→Heap→Prop)(_k:Keep K:=⟨⟩):Prop:=match z with|some z=>jD z=true∧a8E P H t z K|none=>False
theorem a4F{t:TypeId}{z z':Option Value}{K:Value→Heap→Prop}(h:z=z'):uT P H t z K=uT P H t z' K:=by rw[h]
attribute [congr] a4F
theorem a7N{t:TypeId}(z:Value)(K:Value→Heap→Prop)(ha:jM P t=none):uT P H t (some z) K=uV (jD z) (a5B P H t z K):=by
 simp only[uT,a8E,a9E ha,uV,a5B]
theorem a9P{t:TypeId}(z:Value)(K:Value→Heap→Prop){n:Nat×TypeId}(_ha:jM P t=some n):uT P H t (some z) K=uV (jD z) (a8E P H t z K):=rfl
theorem b1Z(d ty pos af g)(t:TypeId)(l:List Value)(K:Value→Heap→Prop):lW P ⟨d,.alloc t,ty,pos,af,g⟩ l H K=uT P H t (jA P t) K:=by
 simp only[lW,Op.operands,opD,ij,true_and,uT]
 cases jA P t with
 | none=>simp[jZ]
 | some z=>
   simp only[dc]
   by_cases hz:jD z=true
   ·simp only[hz,if_true,true_and];exact mU _ _
   ·simp[hz,jZ]
theorem b9g(d ty pos af g)(t:TypeId)(x:Operand)(l:List Value)(K:Value→Heap→Prop):lW P ⟨d,.box t x,ty,pos,af,g⟩ l H K=jN x l fun v=>a5B P H t v K:=by
 simp only[lW,jN,Op.operands,opD,fz,ij,fg,a9k]
def tI:List (Nat×Operand)→List Value→(List (Nat×Value)→Prop)→Prop
 | [],_,K=>K []
 | (i,x)::xs,l,K=>jN x l fun v=>tI xs l fun vs=>K ((i,v)::vs)
theorem a0h:∀(xs:List (Nat×Operand))(l:List Value)(K:List (Nat×Value)→Prop),tI xs l K=((xs.map (·.2)).all iU=true∧K (xs.map fun(i,x)=>(i,ev l x)))
 | [],l,K=>by simp[tI]
 | (i,x)::xs,l,K=>by simp[tI,a0h,jN,and_assoc]
theorem a9o(l:List Value)(K:List (Nat×Value)→Prop):tI [] l K=K []:=rfl
theorem a7q(i:Nat)(x:Operand)(xs:List (Nat×Operand))(l:List Value)(K:List (Nat×Value)→Prop):tI ((i,x)::xs) l K=jN x l fun v=>tI xs l fun vs=>K ((i,v)::vs):=rfl
def kI(P:Program)(t:TypeId)(ps:List (Nat×Value)):Option Value:=
 if(jA P t).any jD&&ps.all (fun x=>x.2.cells.toList.all oneCell)then(P.built t ps).map fun cs=>.agg cs else none
theorem b1Q(d ty pos af g)(t:TypeId)(parts:List (Nat×Operand))(l:List Value)(K:Value→Heap→Prop):
 lW P ⟨d,.build t parts.toArray,ty,pos,af,g⟩ l H K=tI parts l fun ps=>jY (kI P t ps) fun v=>K v H:=by
 rw[a0h]
 simp only[lW,Op.operands,opD,kI]
 congr 1
 split
 ·cases P.built t (parts.map fun(i,x)=>(i,ev l x))<;>simp[jZ,jY]
 ·simp[jZ,jY]
def yI(P:Program)(H:Heap)(t:TypeId)(len:Nat)(ps:List (Nat×Value)):Option (Value×Heap):=
 (iJ P t).bind fun elem=>(iF P elem).bind fun size=>(jA P elem).bind fun z=>
   if len==0&&ps.isEmpty&&size !=0 then some (.slice (some ⟨H.length,0,some 0⟩) 0 size,rR H elem [])else
   if jD z&&ps.all (fun x=>x.2.cells.toList.all oneCell)&&len*size≤2^24&&len*size !=0&&z.cells.size==size then
    (Instr.fill (fun i=>some (i*size,size)) ((Array.range (len*size)).map (z.cells[·%z.cells.size]!)) ps).map fun cs=>
      (.slice (some ⟨H.length,0,some cs.toList.length⟩) len size,rR H elem cs.toList)
   else none
def sJ(P:Program)(H:Heap)(t:TypeId)(len:Nat)(ps:List (Nat×Value))(K:Value→Heap→Prop)(_k:Keep K:=⟨⟩):Prop:=∃v H1,yI P H t len ps=some (v,H1)∧K v H1
theorem a2h{t:TypeId}{len:Nat}{ps ps':List (Nat×Value)}{K:Value→Heap→Prop}(h:ps=ps'):sJ P H t len ps K=sJ P H t len ps' K:=by rw[h]
attribute [congr] a2h
theorem a1M(d ty pos af g)(t:TypeId)(len:Nat)(parts:List (Nat×Operand))(l:List Value)(K:Value→Heap→Prop):
 lW P ⟨d,.buildSlice t len parts.toArray,ty,pos,af,g⟩ l H K=tI parts l fun ps=>sJ P H t len ps K:=by
 rw[a0h]
 simp only[lW,Op.operands,opD,sJ,yI]
 rw[←mU]
def wZ(P:Program)(H:Heap)(t:TypeId)(n c:Value):Option (Value×Heap):=
    (iJ P t).bind fun elem=>(iF P elem).bind fun size=>(nP P elem).bind fun bytes=>(jA P elem).bind fun z=>
    match n,c with
    | .int .i64 a,.int .i64 b=>
      if jD z&&decide (a≤b)&&0≤a&&b*(bytes+1)≤(oX:Int)&&size !=0&&z.cells.size==size then
       let cs:=if size=1 then List.replicate b.toNat (z.cells[0]!)else(madeCells z.cells (b.toNat*size)).toList
       some (.slice (some ⟨H.length,0,some cs.length⟩) a.toNat size,rR H elem cs)
      else none
    | _,_=>none
def qZ(P:Program)(H:Heap)(t:TypeId)(n c:Value)(K:Value→Heap→Prop)(_k:Keep K:=⟨⟩):Prop:=∃v H1,wZ P H t n c=some (v,H1)∧K v H1
theorem a0a{t:TypeId}{n n' c c':Value}{K:Value→Heap→Prop}(h:n=n')(h2:c=c'):qZ P H t n c K=qZ P H t n' c' K:=by rw[h,h2]
attribute [congr] a0a
theorem a3d(d ty pos af g)(t:TypeId)(n c:Operand)(l:List Value)(K:Value→Heap→Prop):
 lW P ⟨d,.makeSlice t n c,ty,pos,af,g⟩ l H K=jN n l fun n=>jN c l fun c=>qZ P H t n c K:=by
 change ((#[n,c].toList.all iU=true)∧jZ (wZ P H t (ev l n) (ev l c)) K)=_
 rw[mU]
 simp only[jN,qZ,fz,ij,fg,de,and_assoc]
def zC(P:Program)(H:Heap)(t:TypeId)(s x:Value)(K:Value→Heap→Prop)(_k:Keep K:=⟨⟩):Prop:=∃v H1,nO P H t s x=some (v,H1)∧K v H1
theorem a2Q{t:TypeId}{s s' x x':Value}{K:Value→Heap→Prop}(h:s=s')(h2:x=x'):zC P H t s x K=zC P H t s' x' K:=by rw[h,h2]
attribute [congr] a2Q
def kV(P:Program)(t:TypeId):Bool:=((P.underlying t).map pY)==some true
theorem a8g(d ty pos af g)(s x:Operand)(t1 t2:TypeId)(l:List Value)(K:Value→Heap→Prop):
 lW P ⟨d,.call {callee:=.builtin .append,args:=#[s,x],argTypes:=#[t1,t2]},ty,pos,af,g⟩ l H K=uV (kV P t2) (jN s l fun s=>jN x l fun x=>zC P H t1 s x K):=by
 simp only[lW,jN,Op.operands,Call.operands,opD,zC,uV,kV]
 rw[←mU]
 by_cases h:(((P.underlying t2).map pY)==some true)=true
 ·simp[h,and_assoc]
 ·simp[h,jZ]
def b0T(P:Program)(H:Heap)(t:TypeId)(s x:Value)(K:Value→Heap→Prop)(_k:Keep K:=⟨⟩):Prop:=∃v H1,a1k P H t s x=some (v,H1)∧K v H1
theorem a6x{t:TypeId}{s s' x x':Value}{K:Value→Heap→Prop}(h:s=s')(h2:x=x'):b0T P H t s x K=b0T P H t s' x' K:=by rw[h,h2]
attribute [congr] a6x
theorem b4Q(d ty pos af g)(s x:Operand)(t1 t2:TypeId)(l:List Value)(K:Value→Heap→Prop):
 lW P ⟨d,.call {callee:=.builtin .copy,args:=#[s,x],argTypes:=#[t1,t2]},ty,pos,af,g⟩ l H K=jN s l fun s=>jN x l fun x=>b0T P H t1 s x K:=by
 simp only[lW,jN,Op.operands,Call.operands,opD,b0T]
 rw[←mU]
 simp[and_assoc]
def a2e(P:Program)(H:Heap)(t:TypeId)(s:Value)(K:Value→Heap→Prop)(_k:Keep K:=⟨⟩):Prop:=∃v H1,sQ P H t s=some (v,H1)∧K v H1
theorem a5I{t:TypeId}{s s':Value}{K:Value→Heap→Prop}(h:s=s'):a2e P H t s K=a2e P H t s' K:=by rw[h]
attribute [congr] a5I
theorem b2S(d ty pos af g)(s:Operand)(t1:TypeId)(l:List Value)(K:Value→Heap→Prop):
 lW P ⟨d,.call {callee:=.builtin .clear,args:=#[s],argTypes:=#[t1]},ty,pos,af,g⟩ l H K=jN s l fun s=>a2e P H t1 s K:=by
 simp only[lW,jN,Op.operands,Call.operands,opD,a2e]
 rw[←mU]
 simp[]
def zR(P:Program)(H:Heap)(t:TypeId)(v:Value):Option Value:=
 match (P.underlying t),v with
 | some (.slice _),.slice a n k=>xD H (.slice a n k)
 | some .string,.string s=>xD H (.string s)
 | some (.map _ _),.map r=>xD H (.map r)
 | _,_=>none
theorem b7A(d ty pos af g)(x:Operand)(t:TypeId)(l:List Value)(K:Value→Heap→Prop):
 lW P ⟨d,.call {callee:=.builtin .len,args:=#[x],argTypes:=#[t]},ty,pos,af,g⟩ l H K=jN x l fun x=>jY (zR P H t x) fun v=>K v H:=by
 have h:opD P ⟨d,.call {callee:=.builtin .len,args:=#[x],argTypes:=#[t]},ty,pos,af,g⟩ l H=(zR P H t (ev l x)).map fun v=>(v,H):=by
  simp only[opD,zR]
  simp only[gB,eo,eP,fh,BEq.rfl,Bool.and_self,if_true]
  simp only[ed,fo,eZ,fi]
  cases P.underlying t with
  | none=>rfl
  | some u=>cases u<;>cases ev l x<;>rfl
 simp only[lW,h,jN,Op.operands,Call.operands]
 have h2:jZ ((zR P H t (ev l x)).map fun v=>(v,H)) K=jY (zR P H t (ev l x)) fun v=>K v H:=by cases zR P H t (ev l x)<;>rfl
 rw[h2]
 simp
def jR(v:Value)(size j f:Nat):Value:=match v with
 | .slice (some ⟨A,i,s⟩) _ _=>.pointer (some ⟨A,i+j*size+f,s⟩)
 | _=>.pointer none
def a6S(P:Program)(s:TypeId)(f:Nat)(v:Value):Option Value:=match v with
 | .pointer (some ⟨A,i,some e⟩)=>(oO P s f).bind fun fd=>(iF P fd.type).bind fun n=>if n==0 then none else some (.pointer (some ⟨A,i+fd.offset,some e⟩))
 | _=>none
theorem a2V(d ty pos af g)(s:TypeId)(x:Operand)(f:Nat)(l:List Value)(K:Value→Heap→Prop):
 lW P ⟨d,.fieldAddr s x f,ty,pos,af,g⟩ l H K=jN x l fun x=>jY (a6S P s f x) fun v=>K v H:=by
 have h:opD P ⟨d,.fieldAddr s x f,ty,pos,af,g⟩ l H=(a6S P s f (ev l x)).map fun v=>(v,H):=by
  simp only[opD,a6S]
  generalize ev l x=vx
  split
  ·dsimp only
   cases oO P s f with
   | none=>rfl
   | some fd=>
     simp only[dc]
     cases iF P fd.type with
     | none=>rfl
     | some n=>simp only[dc];split<;>rfl
  ·rename_i hne
   split
   ·exact(hne _ _ _ rfl).elim
   ·rfl
 have h2:jZ ((a6S P s f (ev l x)).map fun v=>(v,H)) K=jY (a6S P s f (ev l x)) fun v=>K v H:=by cases a6S P s f (ev l x)<;>rfl
 simp only[lW,h,jN,Op.operands,h2]
 simp
def a2X(P:Program)(t:TypeId)(v i:Value):Option Value:=
 match P.underlying t,v,i with
  | some (.slice elem),.slice (some ⟨A,i,some e⟩) n _,.int _ j=>(iF P elem).bind fun size=>
    if 0≤j&&j<n then some (.pointer (some ⟨A,i+j.toNat*size,some e⟩))else none
  | some (.array n elem),.pointer (some ⟨A,i,some e⟩),.int _ j=>(iF P elem).bind fun size=>
    if 0≤j&&j<n then some (.pointer (some ⟨A,i+j.toNat*size,some e⟩))else none
  | some (.array n elem),.pointer (some ⟨A,i,none⟩),.int _ j=>(iF P elem).bind fun size=>
    if 0≤j&&j<n then some (.pointer (some ⟨A,i+j.toNat*size,none⟩))else none
  | _,_,_=>none
theorem a3j(d ty pos af g)(t:TypeId)(x i:Operand)(l:List Value)(K:Value→Heap→Prop):
 lW P ⟨d,.indexAddr t x i,ty,pos,af,g⟩ l H K=jN x l fun x=>jN i l fun i=>jY (a2X P t x i) fun v=>K v H:=by
 have h:opD P ⟨d,.indexAddr t x i,ty,pos,af,g⟩ l H=(a2X P t (ev l x) (ev l i)).map fun v=>(v,H):=by
  simp only[opD,a2X]
  generalize ev l x=vx
  generalize ev l i=vi
  generalize P.underlying t=u
  split
  ·dsimp only
   cases iF P _ with
   | none=>rfl
   | some n=>simp only[dc];split<;>rfl
  ·dsimp only
   cases iF P _ with
   | none=>rfl
   | some n=>simp only[dc];split<;>rfl
  ·dsimp only
   cases iF P _ with
   | none=>rfl
   | some n=>simp only[dc];split<;>rfl
  ·rename_i h1 h2 h3
   split
   ·exact(h1 _ _ _ _ _ _ _ _ rfl rfl rfl).elim
   ·exact(h2 _ _ _ _ _ _ _ rfl rfl rfl).elim
   ·exact(h3 _ _ _ _ _ _ rfl rfl rfl).elim
   ·rfl
 have h2:jZ ((a2X P t (ev l x) (ev l i)).map fun v=>(v,H)) K=jY (a2X P t (ev l x) (ev l i)) fun v=>K v H:=by cases a2X P t (ev l x) (ev l i)<;>rfl
 simp only[lW,h,jN,Op.operands,h2]
 simp[and_assoc]
def c3A(P:Program)(o:Oper)(op:BinOp)(l:List Value)(H:Heap)(x y:Value)(K:Value→Heap→Prop)(_k:Keep K:=⟨⟩):Prop:=match x,y with
 | .int k a,.int k' b=>(match (if k=k' then mR op k a b else none)with|some v=>K v H|none=>jZ (opD P o l H) K)
 | _,_=>jZ (opD P o l H) K
theorem a8n{o:Oper}{op:BinOp}{l:List Value}{x x' y y':Value}{K:Value→Heap→Prop}(h:x=x')(h2:y=y'):c3A P o op l H x y K=c3A P o op l H x' y' K:=by rw[h,h2]
attribute [congr] a8n
theorem mZ(o o':Oper)(l l':List Value)(H:Heap)(h1:o.op.operands.toList.map (ev l)=o'.op.operands.toList.map (ev l'))(h2:execOp (ev l) o=execOp (ev l') o'):
 kK P o l H=((kK P o' l' .nil).map (·.1)).map fun v=>(v,H):=by
 have h3:∀(l:List Value)(xs:List Operand),xs.all (fun x=>flat (ev l x))=(xs.map (ev l)).all flat:=fun l xs=>by simp[List.all_map,ik]
 unfold kK
 rw[h3,h1,←h3,h2]
 split
 ·split
  ·split<;>rfl
  ·rfl
 ·rfl
def unV(P:Program)(op:UnOp)(t:TypeId)(x:Value):Option Value:=(opD P ⟨none,.unOp op t (.const x),t,"",#[],none⟩ [] .nil).map (·.1)
theorem c1d(d ty pos af g)(op:UnOp)(t:TypeId)(x:Operand)(l:List Value)(K:Value→Heap→Prop):
 lW P ⟨d,.unOp op t x,ty,pos,af,g⟩ l H K=jN x l fun x=>jY (unV P op t x) fun v=>K v H:=by
 have h:opD P ⟨d,.unOp op t x,ty,pos,af,g⟩ l H=(unV P op t (ev l x)).map fun v=>(v,H):=by
  have hp:=mZ (P:=P) ⟨d,.unOp op t x,ty,pos,af,g⟩ ⟨none,.unOp op t (.const (ev l x)),t,"",#[],none⟩ l [] H rfl rfl
  simp only[opD,unV,hp]
  generalize kK P _ _ _=r
  have e1:∀v,ev [] (.const v)=v:=fun _=>rfl
  simp only[e1]
  generalize ev l x=vx
  split<;>simp
 have h2:jZ ((unV P op t (ev l x)).map fun v=>(v,H)) K=jY (unV P op t (ev l x)) fun v=>K v H:=by cases unV P op t (ev l x)<;>rfl
 simp only[lW,h,jN,Op.operands,h2]
 simp
theorem b9q(t:TypeId)(b:Bool):unV P .not t (.bool b)=some (.bool (!b)):=by simp[unV,opD,ev]
def a1l(P:Program)(s t:TypeId)(x:Value):Option Value:=(kK P ⟨none,.convert s t (.const x),t,"",#[],none⟩ [] .nil).map (·.1)
def tS(P:Program)(s t:TypeId)(H:Heap)(x:Value)(K:Value→Heap→Prop)(_k:Keep K:=⟨⟩):Prop:=∃v H1,opD P ⟨none,.convert s t (.const x),t,"",#[],none⟩ [] H=some (v,H1)∧K v H1
theorem a7y{s t:TypeId}{x x':Value}{K:Value→Heap→Prop}(h:x=x'):tS P s t H x K=tS P s t H x' K:=by rw[h]
attribute [congr] a7y
theorem a6h(d ty pos af g)(s t:TypeId)(x:Operand)(l:List Value)(K:Value→Heap→Prop):
 lW P ⟨d,.convert s t x,ty,pos,af,g⟩ l H K=jN x l fun x=>tS P s t H x K:=by
 have h:opD P ⟨d,.convert s t x,ty,pos,af,g⟩ l H=opD P ⟨none,.convert s t (.const (ev l x)),t,"",#[],none⟩ [] H:=by
  have hp:=mZ (P:=P) ⟨d,.convert s t x,ty,pos,af,g⟩ ⟨none,.convert s t (.const (ev l x)),t,"",#[],none⟩ l [] H rfl rfl
  have hp2:=mZ (P:=P) ⟨none,.convert s t (.const (ev l x)),t,"",#[],none⟩ ⟨none,.convert s t (.const (ev l x)),t,"",#[],none⟩ [] [] H rfl rfl
  have e1:∀v,ev [] (.const v)=v:=fun _=>rfl
  simp only[opD,e1,hp,←hp2]
 simp only[lW,h,jN,Op.operands,tS,mU]
 simp
theorem b0d{s t:TypeId}{x:Value}(K:Value→Heap→Prop)(hb:lF P t=false)(hf:flat x=true):tS P s t H x K=jY (a1l P s t x) fun v=>K v H:=by
 have hp:=mZ (P:=P) ⟨none,.convert s t (.const x),t,"",#[],none⟩ ⟨none,.convert s t (.const x),t,"",#[],none⟩ [] [] H rfl rfl
 have e1:ev [] (.const x)=x:=rfl
 have h:opD P ⟨none,.convert s t (.const x),t,"",#[],none⟩ [] H=(a1l P s t x).map fun v=>(v,H):=by
  simp only[opD,e1,hf,hb,Bool.not_false,fg,if_true,a1l]
  exact hp
 unfold tS
 rw[h,←mU]
 cases a1l P s t x<;>rfl
theorem b2A{s t:TypeId}(k:IntKind)(a:Int)(K:Value→Heap→Prop)(hb:lF P t=false):tS P s t H (.int k a) K=jY (a1l P s t (.int k a)) fun v=>K v H:=b0d K hb rfl
def tO(v:Value)(i:Nat):Option Value:=match v with|.tuple vs=>vs[i]?|_=>none
theorem a5X(d ty pos af g)(x:Operand)(i:Nat)(l:List Value)(K:Value→Heap→Prop):
 lW P ⟨d,.extract x i,ty,pos,af,g⟩ l H K=jN x l fun x=>jY (tO x i) fun v=>K v H:=by
 have h:opD P ⟨d,.extract x i,ty,pos,af,g⟩ l H=(tO (ev l x) i).map fun v=>(v,H):=by
  simp only[opD,tO]
  generalize ev l x=vx
  cases vx<;>rfl
 have h2:jZ ((tO (ev l x) i).map fun v=>(v,H)) K=jY (tO (ev l x) i) fun v=>K v H:=by cases tO (ev l x) i<;>rfl
 simp only[lW,h,jN,Op.operands,h2]
 simp
theorem b0e(a:Value)(l:List Value):tO (.tuple (a::l).toArray) 0=some a:=by simp[tO]
theorem b1B(a b:Value)(l:List Value):tO (.tuple (a::b::l).toArray) 1=some b:=by simp[tO]
theorem b2W(a b c:Value)(l:List Value):tO (.tuple (a::b::c::l).toArray) 2=some c:=by simp[tO]
def xE(P:Program)(t:TypeId)(v:Value)(f:Nat):Option Value:=(opD P ⟨none,.field t (.const v) f,t,"",#[],none⟩ [] .nil).map (·.1)
theorem b3j(d ty pos af g)(t:TypeId)(x:Operand)(f:Nat)(l:List Value)(K:Value→Heap→Prop):
 lW P ⟨d,.field t x f,ty,pos,af,g⟩ l H K=jN x l fun x=>jY (xE P t x f) fun v=>K v H:=by
 have h:opD P ⟨d,.field t x f,ty,pos,af,g⟩ l H=(xE P t (ev l x) f).map fun v=>(v,H):=by
  have hp:=mZ (P:=P) ⟨d,.field t x f,ty,pos,af,g⟩ ⟨none,.field t (.const (ev l x)) f,t,"",#[],none⟩ l [] H rfl rfl
  simp only[opD,xE,hp]
  generalize kK P _ _ _=r
  have e1:∀v,ev [] (.const v)=v:=fun _=>rfl
  simp only[e1]
  generalize ev l x=vx
  split
  ·cases r<;>rfl
  ·rename_i hfl
   cases vx<;>try rfl
   rename_i cs
   dsimp only
   cases oO P t f with
   | none=>rfl
   | some fd=>
     simp only[dc]
     cases jQ P fd.type with
     | none=>rfl
     | some b=>
       cases b
       ·dsimp only;cases cs[fd.offset]?<;>rfl
       ·dsimp only;cases iF P fd.type<;>rfl
 have h2:jZ ((xE P t (ev l x) f).map fun v=>(v,H)) K=jY (xE P t (ev l x) f) fun v=>K v H:=by cases xE P t (ev l x) f<;>rfl
 simp only[lW,h,jN,Op.operands,h2]
 simp
end
end Go.Ds
namespace Go.Ds
noncomputable section
variable {P:Program} {H:Heap}
theorem a5U{f f':Value}{args args':List Value}{K:Value→Heap→Prop}(h1:f=f')(h2:args=args'):qY P f args H K=qY P f' args' H K:=by rw[h1,h2]
attribute [congr] a5U
def wY(P:Program)(k:FuncId)(args:List Value)(H:Heap)(K:Value→Heap→Prop)(_k:Keep K:=⟨⟩):Prop:=∃v H1,rI P k∧CallOk P k args H v H1∧K v H1
theorem a4N{k:FuncId}{args args':List Value}{K:Value→Heap→Prop}(h2:args=args'):wY P k args H K=wY P k args' H K:=by rw[h2]
attribute [congr] a4N
theorem a9q(k:FuncId)(a b:List Value)(args:List Value)(K:Value→Heap→Prop):qY P (.func (.func k) a.toArray b.toArray) args H K=wY P k (a++args++b) H K:=rfl
theorem b5p(d ty pos af g)(f:Operand)(args:List Operand)(ts:Array TypeId)(l:List Value)(K:Value→Heap→Prop):
 lW P ⟨d,.call {callee:=.value f,args:=args.toArray,argTypes:=ts},ty,pos,af,g⟩ l H K=jN f l fun f=>yW args l fun vs=>qY P f vs H K:=by
 simp only[lW,a2q,jN,Op.operands,Call.operands]
 simp[and_assoc]
theorem a4w(d ty pos af g)(f:FuncId)(captured:List Operand)(l:List Value)(K:Value→Heap→Prop):
 lW P ⟨d,.makeFunc (.func f) #[] captured.toArray,ty,pos,af,g⟩ l H K=yW captured l fun vs=>uV (vs.all oG) (K (.func (.func f) #[] vs.toArray) H):=by
 simp only[lW,a2q,uV,Op.operands,opD]
 have e:(captured.map (ev l)).all oG=captured.all fun x=>oG (ev l x):=by simp[List.all_map,ik]
 rw[e]
 by_cases h:(captured.all fun x=>oG (ev l x))=true
 ·simp[h]
 ·simp[h,jZ]
def xU(ops:Array Oper)(j:Nat):Option Tmp:=(ops[j]?).bind (·.dst)
def sA(v:Value)(b:Bool)(p q:Prop)(_k1:Keep p:=⟨⟩)(_k2:Keep q:=⟨⟩):Prop:=match v with|.bool c=>if c=b then p else q|_=>q
theorem a9y{v v':Value}{b:Bool}{p q:Prop}(h:v=v'):sA v b p q=sA v' b p q:=by rw[h]
attribute [congr] a9y
theorem b8u(p q:Prop):sA (.bool true) true p q=p:=rfl
theorem b9k(p q:Prop):sA (.bool false) false p q=p:=rfl
theorem b7w(p q:Prop):sA (.bool true) false p q=q:=rfl
theorem b6S(p q:Prop):sA (.bool false) true p q=q:=rfl
theorem a9N(b:Bool)(p q:Prop):sA undef b p q=q:=rfl
theorem jU{c:Prop}[Decidable c]{p q:Prop}(h1:c→p)(h2:¬c→q):sA (.bool (decide c)) true p q:=by
 by_cases h:c
 ·simp only[sA,h,decide_true,if_true];exact h1 h
 ·simp only[sA,h,decide_false,dR,if_false];exact h2 h
theorem iO{c:Prop}[Decidable c]{p q:Prop}(h1:c→q)(h2:¬c→p):sA (.bool (decide c)) false p q:=by
 by_cases h:c
 ·simp only[sA,h,decide_true,Bool.true_eq_false,if_false];exact h1 h
 ·simp only[sA,h,decide_false,if_true];exact h2 h
def uM(d:Option Tmp)(l:List Value)(b:Bool)(p q:Prop)(_k1:Keep p:=⟨⟩)(_k2:Keep q:=⟨⟩):Prop:=match d with|some d=>sA (get l d) b p q|none=>q
theorem a5m{d d':Option Tmp}{l:List Value}{b:Bool}{p q:Prop}(h:d=d'):uM d l b p q=uM d' l b p q:=by rw[h]
attribute [congr] a5m
theorem a6c(d:Tmp)(l:List Value)(b:Bool)(p q:Prop):uM (some d) l b p q=sA (get l d) b p q:=rfl
theorem b2z(ops:Array Oper)(l:List Value)(d op ty pos af)(j:Nat)(b:Bool):
 Region.wanted ⟨d,op,ty,pos,af,some (j,b)⟩ (iX ops l)=(match xU ops j with|some d=>(match get l d with|.bool c=>c==b|_=>false)|none=>false):=by
 show(iX ops l j==some b)=_
 unfold iX xU
 cases (ops[j]?).bind (·.dst)with
 | none=>rfl
 | some t=>
   simp only[oL]
   rw[dh]
   cases h:l[t]? with
   | none=>rfl
   | some v=>
     simp only[fi]
     cases v<;>rfl
theorem sV(ops:Array Oper)(l:List Value)(d op ty pos af)(j:Nat)(b:Bool)(p q:Prop):
 (if Region.wanted ⟨d,op,ty,pos,af,some (j,b)⟩ (iX ops l)=true then p else q)=uM (xU ops j) l b p q:=by
 rw[b2z]
 cases xU ops j with
 | none=>simp[uM]
 | some t=>
   have key:∀v:Value,(if(match v with|.bool c=>c==b|_=>false)=true then p else q)=sA v b p q:=fun v=>by
    cases v<;>simp[sA]
   exact key (get l t)
theorem b6u(ops:Array Oper)(l:List Value)(K:List Value→Heap→Prop):rD P ops [] l H K=K l H:=rfl
theorem b2v(ops:Array Oper)(d op ty pos af)(os:List Oper)(l:List Value)(K:List Value→Heap→Prop):
 rD P ops (⟨d,op,ty,pos,af,none⟩::os) l H K=lW P ⟨d,op,ty,pos,af,none⟩ l H fun v H1=>rD P ops os (put l d v) H1 K:=by
 rw[rD];simp[Region.wanted]
theorem a8S(ops:Array Oper)(d op ty pos af)(j:Nat)(b:Bool)(os:List Oper)(l:List Value)(K:List Value→Heap→Prop):
 rD P ops (⟨d,op,ty,pos,af,some (j,b)⟩::os) l H K=uM (xU ops j) l b (lW P ⟨d,op,ty,pos,af,some (j,b)⟩ l H fun v H1=>rD P ops os (put l d v) H1 K) (rD P ops os (put l d undef) H K):=by
 rw[rD,←sV ops l d op ty pos af]
def mL(P:Program)(ops:Array Oper):List Oper→List (List Value×Heap×Value)→List Value→Heap→(List (List Value×Heap×Value)→List Value→Heap→Prop)→Prop
 | [],tr,l,H,K=>K tr l H
 | o::os,tr,l,H,K=>if Region.wanted o (iX ops l)=true then lW P o l H fun v H1=>mL P ops os (tr++[(l,H,v)]) (put l o.dst v) H1 K else mL P ops os (tr++[(l,H,undef)]) (put l o.dst undef) H K
theorem b1q(ops:Array Oper)(tr)(l:List Value)(K):mL P ops [] tr l H K=K tr l H:=rfl
theorem a8I(ops:Array Oper)(d op ty pos af)(os:List Oper)(tr)(l:List Value)(K):
 mL P ops (⟨d,op,ty,pos,af,none⟩::os) tr l H K=lW P ⟨d,op,ty,pos,af,none⟩ l H fun v H1=>mL P ops os (tr++[(l,H,v)]) (put l d v) H1 K:=by
 rw[mL];simp[Region.wanted]
theorem a6m(ops:Array Oper)(d op ty pos af)(j:Nat)(b:Bool)(os:List Oper)(tr)(l:List Value)(K):
 mL P ops (⟨d,op,ty,pos,af,some (j,b)⟩::os) tr l H K=uM (xU ops j) l b (lW P ⟨d,op,ty,pos,af,some (j,b)⟩ l H fun v H1=>mL P ops os (tr++[(l,H,v)]) (put l d v) H1 K) (mL P ops os (tr++[(l,H,undef)]) (put l d undef) H K):=by
 rw[mL,←sV ops l d op ty pos af]
theorem uI{ops:Array Oper}{K:List (List Value×Heap×Value)→List Value→Heap→Prop}:∀(os:List Oper)(i:Nat),ops.toList.drop i=os→∀(tr:List (List Value×Heap×Value))(l:List Value)(H:Heap),mL P ops os tr l H K→
 ∃(T:Nat→List Value×Heap)(val:Nat→Value)(l':List Value)(H':Heap)(ext:List (List Value×Heap×Value)),T 0=(l,H)∧T os.length=(l',H')∧ext.length=os.length∧(∀k,k<os.length→ext[k]? =some ((T k).1,(T k).2,val k))∧
  (∀k,k<os.length→wJ P ops (i+k) (T k) (T (k+1)) (val k))∧K (tr++ext) l' H'
 | [],i,_,tr,l,H,h=>⟨fun _=>(l,H),fun _=>undef,l,H,[],rfl,rfl,rfl,by simp,by simp,by simpa [mL]using h⟩
 | o::os,i,hd,tr,l,H,h=>by
   have ho:ops[i]? =some o:=by
    have:(ops.toList.drop i)[0]? =some o:=by rw[hd];rfl
    rw[dI]at this
    simpa using this
   have hd':ops.toList.drop (i+1)=os:=by
    rw[←fC,hd];rfl
   have key:∀(v:Value)(H1:Heap),wJ P ops i (l,H) (put l o.dst v,H1) v→mL P ops os (tr++[(l,H,v)]) (put l o.dst v) H1 K→
    ∃(T:Nat→List Value×Heap)(val:Nat→Value)(l':List Value)(H':Heap)(ext:List (List Value×Heap×Value)),T 0=(l,H)∧T (o::os).length=(l',H')∧ext.length=(o::os).length∧(∀k,k<(o::os).length→ext[k]? =some ((T k).1,(T k).2,val k))∧
     (∀k,k<(o::os).length→wJ P ops (i+k) (T k) (T (k+1)) (val k))∧K (tr++ext) l' H':=by
    intro v H1 hst hop
    obtain⟨T,val,l',H',ext,h0,h1,h2,h3,h4,h5⟩:=uI os (i+1) hd' _ _ _ hop
    refine⟨fun k=>match k with|0=>(l,H)|k+1=>T k,fun k=>match k with|0=>v|k+1=>val k,l',H',(l,H,v)::ext,rfl,h1,by simp[h2],?_,?_,by simpa using h5⟩
    ·intro k hk
     cases k with
     | zero=>rfl
     | succ k=>simpa using h3 k (by simpa using hk)
    ·intro k hk
     cases k with
     | zero=>simp only[h0];exact hst
     | succ k=>
       have:=h4 k (by simpa using hk)
       rw[show i+(k+1)=i+1+k from by omega]
       exact this
   unfold mL at h
   split at h
   ·rename_i hw
    obtain⟨v,H1,h1,h2⟩:=a0e h
    exact key v H1 ⟨o,ho,rfl,.inl ⟨hw,h1⟩⟩ h2
   ·rename_i hw
    exact key undef H ⟨o,ho,rfl,.inr ⟨by simpa using hw,rfl,rfl⟩⟩ h
def b4e(P:Program)(ops:Array Oper)(tr:List (List Value×Heap×Value))(H1:Heap)(i m:Nat):Prop:=
 match ops[i]?,tr[i]? with
 | some o,some (l,_,v)=>Region.wanted o (iX ops l)=true→lW P o l (match tr[m]? with|some y=>y.2.1|none=>H1) fun v' _=>v'=v
 | _,_=>False
def zF(o:Oper):Bool:=match o.op with|.call c=>(match c.callee with|.value _=>false|_=>true)|_=>true
def tZ(ops:Array Oper)(tab:List (Nat×Nat)):Bool:=tab.all fun x=>match ops[x.1]? with|some o=>zF o|none=>false
theorem b0w{o:Oper}{l:List Value}{K:Value→Heap→Prop}(hn:zF o=true)(h:lW P o l H K):∃v H1,opD P o l H=some (v,H1)∧K v H1:=by
 obtain⟨v,H1,h1,h2⟩:=a0e h
 refine⟨v,H1,h1.opD fun c f hc hf=> ?_,h2⟩
 simp[zF,hc,hf]at hn
theorem Wp.cB(kG:P.follows .mixedOrders=true){id:Nat}{ops:Array Oper}{l:List Value}{Q:nN}(tab:List (Nat×Nat))(htab:mX P ops=some tab)(hn:tZ ops tab=true)
 (h:mL P ops ops.toList [] l H fun tr l1 H1=>Q .normal l1 H1∧∀x∈tab,b4e P ops tr H1 x.1 x.2):Wp P (.region id ops true) l H Q:=by
 obtain⟨T,val,l',H',ext,h0,h1,h2,h3,h4,h5,h6⟩:=uI ops.toList 0 rfl [] l H h
 have hlen:ops.toList.length=ops.size:=by simp
 rw[hlen]at h1 h2 h3 h4
 have:=Sim.draw kG (id:=id) htab (T:=T) (val:=val) ⟨fun k hk=>by simpa using h4 k hk⟩ fun i m o hm ho hw=>by
  have hr:=h6 (i,m) hm
  have hi:i<ops.size:=(dp.1 ho).1
  unfold b4e at hr
  simp only[fp]at hr
  rw[ho,h3 i hi]at hr
  have hr:=hr hw
  have hno:zF o=true:=by
   unfold tZ at hn
   have:=dx.1 hn (i,m) hm
   simpa [ho]using this
  have hTm:(match ext[m]? with|some y=>y.2.1|none=>H')=(T m).2∨ops.size<m:=by
   by_cases hm2:m<ops.size
   ·left;rw[h3 m hm2]
   ·by_cases hm3:m=ops.size
    ·left
     rw[ew (by omega),hm3,h1]
    ·right;omega
  rcases hTm with hTm|hTm
  ·rw[hTm]at hr
   obtain⟨v,H2,h7,h8⟩:=b0w hno hr
   exact⟨H2,by rw[h7,h8]⟩
  ·exfalso
   obtain⟨fl,D,rfl⟩:=qD htab
   have:=a1Y hm
   omega
 rw[h0,h1]at this
 exact⟨_,_,_,this,h5⟩
theorem b4A{c:Code}{l l':List Value}{Q:nN}(h:l=l'):Wp P c l H Q=Wp P c l' H Q:=by rw[h]
attribute [congr] b4A
theorem a3f(id:Nat)(Q:nN)(l:List Value):zP id Q .normal l H=Q .normal l H:=rfl
theorem a9A(id:Nat)(Q:nN)(l:List Value):zP id Q .ret l H=Q .ret l H:=rfl
theorem a7t(id i:Nat)(Q:nN)(l:List Value):zP id Q (.exit i) l H=if i=id then Q .normal l H else Q (.exit i) l H:=by
 simp only[zP,Ex.out]
 split<;>rfl
def a2I(I:Nat→List Value→Heap→Prop)(n:Nat)(Q:nN):nN:=fun e l1 H1=>match e with|.normal=>∃m,m<n∧I m l1 H1|e=>Q e l1 H1
theorem a2R(I:Nat→List Value→Heap→Prop)(n:Nat)(Q:nN)(l:List Value):a2I I n Q .normal l H=∃m,m<n∧I m l H:=rfl
theorem a7Y(I:Nat→List Value→Heap→Prop)(n:Nat)(Q:nN)(i:Nat)(l:List Value):a2I I n Q (.exit i) l H=Q (.exit i) l H:=rfl
theorem a9S(I:Nat→List Value→Heap→Prop)(n:Nat)(Q:nN)(l:List Value):a2I I n Q .ret l H=Q .ret l H:=rfl
theorem Wp.cut{c:Code}{l:List Value}{Q:nN}(M:nN)(h:Wp P c l H M)(hm:∀e l H,M e l H→Q e l H):Wp P c l H Q:=h.mono hm
theorem b4I(l:List Value)(k t:Nat)(v:Value):get (put l (some k) v) t=if k=t then(if k<l.length then v else get l t)else get l t:=by
 rw[b0N]
 by_cases h:k=t
 ·subst h;simp
 ·simp[h]
theorem a7I(l:List Value)(k:Nat)(v:Value):(put l (some k) v).length=l.length:=a1C l _ v
def rB(v:Value)(p q:Prop)(_k1:Keep p:=⟨⟩)(_k2:Keep q:=⟨⟩):Prop:=match v with|.bool c=>if c=true then p else q|_=>False
theorem a6W{v v':Value}{p q:Prop}(h:v=v'):rB v p q=rB v' p q:=by rw[h]
attribute [congr] a6W
theorem a8J(p q:Prop):rB (.bool true) p q=p:=rfl
theorem a6U(p q:Prop):rB (.bool false) p q=q:=rfl
theorem iC{c:Prop}[Decidable c]{p q:Prop}(h1:c→p)(h2:¬c→q):rB (.bool (decide c)) p q:=by
 by_cases h:c
 ·simp only[rB,h,decide_true,if_true];exact h1 h
 ·simp only[rB,h,decide_false,dR,if_false];exact h2 h
theorem jJ{c:Bool}{p q:Prop}(h1:c=true→p)(h2:c=false→q):rB (.bool c) p q:=by
 cases c
 ·exact h2 rfl
 ·exact h1 rfl
theorem Wp.cC{t:Tmp}{x y:Code}{l:List Value}{Q:nN}(h:rB (get l t) (Wp P x l H Q) (Wp P y l H Q)):Wp P (.cond (.tmp t) x y) l H Q:=by
 unfold rB at h
 split at h
 ·rename_i c hc
  refine Wp.cond c hc rfl ?_
  cases c
  ·simpa using h
  ·simpa using h
 ·exact h.elim
theorem Wp.reg{id:Nat}{os:List Oper}{l:List Value}{Q:nN}(h:rD P os.toArray os l H fun l H=>Q .normal l H):Wp P (.region id os.toArray false) l H Q:=.region h
theorem Wp.drw(kG:P.follows .mixedOrders=true){id:Nat}{os:List Oper}{l:List Value}{Q:nN}(htab:mX P os.toArray=some [])(h:rD P os.toArray os l H fun l H=>Q .normal l H):Wp P (.region id os.toArray true) l H Q:=
 .draw kG htab h
def a4m(f:Nat→Nat→Prop):List (Nat×Nat)→Prop
 | []=>True
 | (i,m)::r=>f i m∧a4m f r
theorem b2f(f:Nat→Nat→Prop):a4m f []=True:=rfl
theorem a9e(f:Nat→Nat→Prop)(i m:Nat)(r:List (Nat×Nat)):a4m f ((i,m)::r)=(f i m∧a4m f r):=rfl
theorem a4r{f:Nat→Nat→Prop}:∀{tab:List (Nat×Nat)},a4m f tab→∀x∈tab,f x.1 x.2
 | [],_,x,hx=>by cases hx
 | (i,m)::r,h,x,hx=>by
   rcases eM.1 hx with rfl|hx
   ·exact h.1
   ·exact a4r h.2 x hx
def trH(y:Option (List Value×Heap×Value))(H1:Heap):Heap:=match y with|some y=>y.2.1|none=>H1
theorem b6A(l:List Value)(H:Heap)(v:Value)(H1:Heap):trH (some (l,H,v)) H1=H:=rfl
theorem b6M(H1:Heap):trH none H1=H1:=rfl
def rdW(P:Program)(ops:Array Oper)(o:Option Oper)(t:Option (List Value×Heap×Value))(H:Heap):Prop:=
 match o,t with
 | some o,some (l,_,v)=>Region.wanted o (iX ops l)=true→lW P o l H fun v' _=>v'=v
 | _,_=>False
theorem b7x(os:List Oper)(tr:List (List Value×Heap×Value))(H1:Heap)(i m:Nat):b4e P os.toArray tr H1 i m=rdW P os.toArray os[i]? tr[i]? (trH tr[m]? H1):=by
 simp[b4e,rdW,trH]
theorem b6h(ops:Array Oper)(d op ty pos af)(l:List Value)(H':Heap)(v:Value):rdW P ops (some ⟨d,op,ty,pos,af,none⟩) (some (l,H',v)) H=lW P ⟨d,op,ty,pos,af,none⟩ l H fun v' _=>v'=v:=by
 simp[rdW,Region.wanted]
theorem Wp.aS(kG:P.follows .mixedOrders=true){id:Nat}{os:List Oper}{l:List Value}{Q:nN}(tab:List (Nat×Nat))(htab:mX P os.toArray=some tab)(hn:tZ os.toArray tab=true)
 (h:mL P os.toArray os [] l H fun tr l1 H1=>Q .normal l1 H1∧a4m (b4e P os.toArray tr H1) tab):Wp P (.region id os.toArray true) l H Q:=by
 refine .cB kG tab htab hn ?_
 have key:∀(os':List Oper)(tr)(l:List Value)(H:Heap)(K K':List (List Value×Heap×Value)→List Value→Heap→Prop),(∀tr l H,K tr l H→K' tr l H)→mL P os.toArray os' tr l H K→mL P os.toArray os' tr l H K':=by
  intro os'
  induction os' with
  | nil=>intro tr l H K K' hk h;exact hk _ _ _ h
  | cons o os' ih=>
    intro tr l H K K' hk h
    unfold mL at h ⊢
    split
    ·rename_i hw
     rw[if_pos hw]at h
     have mono:∀{K1 K2:Value→Heap→Prop},(∀v H1,K1 v H1→K2 v H1)→lW P o l H K1→lW P o l H K2:=by
      intro K1 K2 hk12 h1
      obtain⟨h2,h3⟩:=h1
      refine⟨h2,?_⟩
      have bw:∀r,jZ r K1→jZ r K2:=fun r hr=>by
       cases r with
       | none=>exact hr
       | some r=>exact hk12 _ _ hr
      split at h3
      ·exact hk12 _ _ h3
      ·exact hk12 _ _ h3
      ·split at h3
       ·unfold qY at h3 ⊢
        split at h3
        ·obtain⟨v,H1,a,b,c⟩:=h3;exact⟨v,H1,a,b,hk12 _ _ c⟩
        ·obtain⟨v,H1,a,b⟩:=h3;exact⟨v,H1,a,hk12 _ _ b⟩
        ·exact h3
       ·exact bw _ h3
      ·exact bw _ h3
     exact mono (fun v H1 h=>ih _ _ _ _ _ hk h) h
    ·rename_i hw
     rw[if_neg hw]at h
     exact ih _ _ _ _ _ hk h
 exact key _ _ _ _ _ _ (fun tr l1 H1 h=>⟨h.1,a4r h.2⟩) h
theorem Wp.cD{c:Code}{Q:nN}(I:Nat→List Value→Heap→Prop){l:List Value}(n:Nat)(h:I n l H)(step:∀n l H,I n l H→Wp P c l H (a2I I n Q)):Wp P (.loop c) l H Q:=Wp.loop I step n h
end
end Go.Ds
namespace Go.Ds
noncomputable section
structure Base where
 H:Heap
 X:Nat→Prop
instance:Coe Heap Base:=⟨fun H=>⟨H,fun _=>False⟩⟩
variable {P:Program} {H0:Base} {H:Heap}
structure Ob where
 v:Value
 size:Nat
 cs:List Value
def kJ:Value→Option Nat
 | .slice (some a) _ _=>some a.block
 | .pointer (some a)=>some a.block
 | .map (some A)=>some A
 | _=>none
def mcs(es:List MapEntry):List Value:=es.flatMap fun e=>[e.key,e.val]
abbrev ptr(A off n:Nat):Value:=.pointer (some ⟨A,off,some n⟩)
def RdAt(H:Heap)(v:Value)(size:Nat)(cs:List Value):Prop:=
 (v=.slice none 0 0∧cs=[])∨∃A i e row ty rw lo ver n,iR H A=some (.cells row ty rw lo ver)∧lo≤e∧e≤row.length∧i+cs.length≤e∧(row.drop i).take cs.length=cs∧
   cs.length=n*size∧v=.slice (some ⟨A,i,some e⟩) n size
def Stamps(es:List MapEntry)(ck:Nat):Prop:=(es.map (·.born)).Pairwise (·<·)∧∀e∈es,e.born<ck
theorem Stamps.nil(ck:Nat):Stamps [] ck:=⟨.nil,by simp⟩
theorem Stamps.push{es:List MapEntry}{ck:Nat}(h:Stamps es ck)(e:MapEntry)(he:e.born=ck):Stamps (es++[e]) (ck+1):=by
 refine⟨?_,fun x hx=> ?_⟩
 ·rw[dO,eT]
  refine⟨h.1,by simp,fun a ha b hb=> ?_⟩
  obtain⟨x,hx,rfl⟩:=dD.1 ha
  simp only[dU,fq,dC]at hb
  have:=h.2 x hx
  omega
 ·rcases dH.1 hx with hx|hx
  ·have:=h.2 x hx;omega
  ·rw[dC.1 hx];omega
theorem Stamps.set{es:List MapEntry}{ck:Nat}(h:Stamps es ck){j:Nat}{e:MapEntry}(hj:es[j]? =some e)(e':MapEntry)(he:e'.born=e.born):Stamps (es.set j e') ck:=by
 have hb:(es.set j e').map (·.born)=es.map (·.born):=by
  rw[gq,he]
  apply gC
  intro i
  rw[gD]
  split
  ·rename_i hij
   subst hij
   obtain⟨hlt,hg⟩:=dy.1 hj
   simp[hlt,hg]
  ·rfl
 refine⟨by rw[hb];exact h.1,fun x hx=> ?_⟩
 have:x.born∈(es.set j e').map (·.born):=eO hx
 rw[hb]at this
 obtain⟨y,hy,hxy⟩:=dD.1 this
 rw[←hxy]
 exact h.2 y hy
theorem Stamps.idx{es:List MapEntry}{ck:Nat}(h:Stamps es ck){j:Nat}{e:MapEntry}(hj:es[j]? =some e):es.findIdx? (fun x=>(x.born:Int)==(e.born:Int))=some j:=by
 obtain⟨hlt,hg⟩:=dy.1 hj
 rw[List.findIdx?_eq_some_iff_getElem]
 refine⟨hlt,by rw[hg];simp,fun i hi=> ?_⟩
 have h1:=(ec.1 h.1) i j (by simpa using(by omega:i<es.length)) (by simpa using hlt) hi
 simp only[iB]at h1
 rw[hg]at h1
 simp only[beq_iff_eq,Int.natCast_inj]
 exact Nat.ne_of_lt h1
def OwnAt(P:Program)(H:Heap)(o:Ob):Prop:=
 if o.size=0 then(∃A ty lo ver,iR H A=some (.cells o.cs ty true lo ver)∧lo≤o.cs.length∧o.v=ptr A 0 o.cs.length)∨∃A es ck ver,iR H A=some (.map es ck ver)∧o.cs=mcs es∧o.v=.map (some A)∧Stamps es ck
 else(o.v=.slice none 0 0∧o.cs=[])∨∃A i ty lo ver pre n,iR H A=some (.cells (pre++o.cs) ty true lo ver)∧lo≤i+o.cs.length∧pre.length=i∧o.cs.length=n*o.size∧
  o.v=.slice (some ⟨A,i,some (i+o.cs.length)⟩) n o.size∧iF P ty=some o.size
structure St(P:Program)(H0:Base)(H:Heap)(os:List Ob):Prop where
 len:H0.H.length≤H.length
 old:∀B,B<H0.H.length→¬H0.X B→iR H B=iR H0.H B
 own:∀o∈os,OwnAt P H o
 new:∀o∈os,∀B,kJ o.v=some B→H0.H.length≤B∨H0.X B
 sep:os.Pairwise fun o o'=>∀B,kJ o.v=some B→kJ o'.v≠some B
theorem St.refl(P:Program)(H:Heap):St P H H []:=⟨dj _,fun _ _ _=>rfl,by simp,by simp,.nil⟩
theorem RdAt.ae{H':Heap}{v:Value}{size:Nat}{cs:List Value}(h:RdAt H v size cs)(hk:∀B,B<H.length→iR H' B=iR H B):RdAt H' v size cs:=by
 rcases h with h|⟨A,i,e,row,ty,rw,lo,ver,n,h,h2⟩
 ·exact .inl h
 ·exact .inr ⟨A,i,e,row,ty,rw,lo,ver,n,by rw[hk A (jI h),h],h2⟩
theorem St.ae{H0:Heap}{os:List Ob}(h:St P H0 H os):∀B,B<H0.length→iR H B=iR H0 B:=fun B hB=>h.old B hB (fun h=>h)
theorem St.base{H0:Heap}{os:List Ob}(h:St P H0 H os){v:Value}{size:Nat}{cs:List Value}(hr:RdAt H0 v size cs):RdAt H v size cs:=hr.ae h.ae
theorem OwnAt.lt{o:Ob}(h:OwnAt P H o){B:Nat}(hb:kJ o.v=some B):B<H.length:=by
 unfold OwnAt at h
 split at h
 ·rcases h with⟨A,ty,lo,ver,h1,_,h3⟩|⟨A,es,ck,ver,h1,_,h3,_⟩
  ·rw[h3]at hb
   simp[kJ]at hb
   exact hb▸jI h1
  ·rw[h3]at hb
   simp[kJ]at hb
   exact hb▸jI h1
 ·rcases h with⟨h1,_⟩|⟨A,i,ty,lo,ver,pre,n,h1,_,_,_,h5,_⟩
  ·rw[h1]at hb;simp[kJ]at hb
  ·rw[h5]at hb
   simp[kJ]at hb
   exact hb▸jI h1
theorem OwnAt.ae{H':Heap}{o:Ob}(h:OwnAt P H o)(hk:∀B,kJ o.v=some B→iR H' B=iR H B):OwnAt P H' o:=by
 unfold OwnAt at h ⊢
 split at h
 ·rename_i hz
  rw[if_pos hz]
  rcases h with⟨A,ty,lo,ver,h1,h2,h3⟩|⟨A,es,ck,ver,h1,h2,h3⟩
  ·exact .inl ⟨A,ty,lo,ver,by rw[hk A (by rw[h3];rfl),h1],h2,h3⟩
  ·exact .inr ⟨A,es,ck,ver,by rw[hk A (by rw[h3.1];rfl),h1],h2,h3⟩
 ·rename_i hz
  rw[if_neg hz]
  rcases h with h|⟨A,i,ty,lo,ver,pre,n,h1,h2,h3,h4,h5,h6⟩
  ·exact .inl h
  ·exact .inr ⟨A,i,ty,lo,ver,pre,n,by rw[hk A (by rw[h5];rfl),h1],h2,h3,h4,h5,h6⟩
theorem OwnAt.rd{o:Ob}(h:OwnAt P H o)(hz:o.size≠0):RdAt H o.v o.size o.cs:=by
 unfold OwnAt at h
 rw[if_neg hz]at h
 rcases h with h|⟨A,i,ty,lo,ver,pre,n,h1,h2,h3,h4,h5,h6⟩
 ·exact .inl h
 ·refine .inr ⟨A,i,_,_,ty,true,lo,ver,n,h1,h2,by simp[h3],dj _,?_,h4,h5⟩
  rw[←h3];simp
theorem St.rd{os:List Ob}(h:St P H0 H os)(i:Nat){v:Value}{size:Nat}{cs:List Value}(ho:os[i]? =some ⟨v,size+1,cs⟩):RdAt H v (size+1) cs:=
 (h.own _ (dW ho)).rd (eQ _)
def jB(P:Program)(t:TypeId):Option Nat:=(iJ P t).bind (iF P)
def iV(P:Program)(s:TypeId)(f:Nat):Option Nat:=(oO P s f).bind fun fd=>(iF P fd.type).bind fun n=>if n==0 then none else some fd.offset
def a7i(o:Option Nat)(P:Program)(H:Heap)(t:TypeId)(v:Value):Option Value:=match o with
 | some _=>(match v with|.slice _ n _=>some (.int .i64 n)|_=>none)
 | none=>zR P H t v
theorem b7j(t:TypeId)(v:Value):zR P H t v=a7i (jB P t) P H t v:=by
 unfold a7i
 split
 ·rename_i n hn
  unfold jB iJ at hn
  unfold zR
  split at hn
  ·rename_i e he
   rw[he]
   cases v<;>simp[xD,goInt]
  ·cases hn
 ·rfl
def a1s(o:Option Nat)(P:Program)(t:TypeId)(v i:Value):Option Value:=match o with
 | some s=>(match v,i with|.slice (some ⟨A,i,some e⟩) n _,.int _ j=>if 0≤j&&j<n then some (ptr A (i+j.toNat*s) e)else none|_,_=>none)
 | none=>a2X P t v i
theorem b8h(t:TypeId)(v i:Value):a2X P t v i=a1s (jB P t) P t v i:=by
 unfold a1s
 split
 ·rename_i n hn
  unfold jB iJ at hn
  unfold a2X
  split at hn
  ·rename_i e he
   simp only[dc]at hn
   rw[he]
   cases v with
   | slice a m c=>
     cases a with
     | none=>cases i<;>rfl
     | some a=>
       obtain⟨A,i',s⟩:=a
       cases s with
       | none=>cases i<;>rfl
       | some s=>
         cases i with
         | int k j=>simp only[hn,dc]
         | _=>rfl
   | _=>cases i<;>rfl
  ·cases hn
 ·rfl
def a6n(o:Option Nat)(v:Value):Option Value:=match o,v with
 | some d,.pointer (some ⟨A,i,some e⟩)=>some (ptr A (i+d) e)
 | _,_=>none
theorem b7R(s:TypeId)(f:Nat)(v:Value):a6S P s f v=a6n (iV P s f) v:=by
 unfold a6S iV
 split
 ·cases oO P s f with
  | none=>rfl
  | some fd=>
    simp only[dc]
    cases iF P fd.type with
    | none=>rfl
    | some n=>
      simp only[dc]
      split<;>rfl
 ·rename_i h
  unfold a6n
  split
  ·exact(h _ _ _ rfl).elim
  ·rfl
theorem b6q(d A i e:Nat):a6n (some d) (ptr A i e)=some (ptr A (i+d) e):=rfl
theorem RdAt.len{v:Value}{size:Nat}{cs:List Value}(h:RdAt H v (size+1) cs){n:Nat}(hn:cs.length=n*(size+1))(m:Nat)(t:TypeId):a7i (some m) P H t v=some (.int .i64 n):=by
 have hn':∀m,cs.length=m*(size+1)→m=n:=fun m hm=>fD (fL size) (hm.symm.trans hn)
 rcases h with⟨rfl,rfl⟩|⟨A,i,e,row,ty,rw,lo,ver,m,h1,h2,h3,h4,h5,h6,rfl⟩
 ·have:=hn' 0 (by simp)
  subst this
  rfl
 ·have:=hn' m h6
  subst this
  rfl
theorem RdAt.idx{v:Value}{size:Nat}{cs:List Value}(h:RdAt H v (size+1) cs){n:Nat}(hn:cs.length=n*(size+1))(t:TypeId)(k:IntKind)(j:Int)
 (h0:0≤j) (h1:j<n):a1s (some (size+1)) P t v (.int k j)=some (jR v (size+1) j.toNat 0):=by
 have hn':∀m,cs.length=m*(size+1)→m=n:=fun m hm=>fD (fL size) (hm.symm.trans hn)
 rcases h with⟨rfl,rfl⟩|⟨A,i,e,row,ty,rw,lo,ver,m,h2,h3,h4,h5,h6,h7,rfl⟩
 ·have:=hn' 0 (by simp)
  omega
 ·have:=hn' m h7
  subst this
  simp[a1s,h0,h1,jR]
theorem RdAt.bd{v:Value}{size:Nat}{cs:List Value}(h:RdAt H v (size+1) cs)(j:Nat)(hj:j*(size+1)<cs.length)(g d:Nat):a6n (some d) (jR v (size+1) j g)=some (jR v (size+1) j (g+d)):=by
 rcases h with⟨rfl,rfl⟩|⟨A,i,e,row,ty,rw,lo,ver,n,h1,h2,h3,h4,h5,h6,rfl⟩
 ·simp at hj
 ·simp[a6n,jR,gg]
theorem RdAt.get{v:Value}{size:Nat}{cs:List Value}(h:RdAt H v size cs)(j f m:Nat)(hk:j*size+f+m≤cs.length)(hm:0<m):∃A i e,jR v size j f=ptr A i e∧jF H A i e m=some ((cs.drop (j*size+f)).take m):=by
 rcases h with⟨rfl,rfl⟩|⟨A,i,e,row,ty,rw,lo,ver,n,h1,h2,h3,h4,h5,h6,rfl⟩
 ·simp at hk;omega
 ·refine⟨_,_,_,rfl,?_⟩
  simp only[jF,h1]
  rw[if_pos (by simp;omega)]
  congr 1
  conv=>rhs;rw[←h5]
  rw[List.drop_take,List.take_take,fC,ft (by omega)]
  simp[gg]
theorem RdAt.ld{v:Value}{size:Nat}{cs:List Value}(h:RdAt H v size cs)(s:Option Nat)(j f:Nat)(hk:j*size+f<cs.length):pA (some false) s H (jR v size j f)=cs[j*size+f]?:=by
 obtain⟨A,i,e,h1,h2⟩:=h.get j f 1 hk (by omega)
 rw[h1]
 simp only[pA,h2,dc]
 rw[dX (by omega),dI]
 simp
theorem RdAt.aj{v:Value}{size:Nat}{cs:List Value}(h:RdAt H v size cs)(m j f:Nat)(hk:j*size+f+m≤cs.length)(hm:0<m):pA (some true) (some m) H (jR v size j f)=some (.agg ((cs.drop (j*size+f)).take m).toArray):=by
 obtain⟨A,i,e,h1,h2⟩:=h.get j f m hk hm
 rw[h1]
 simp only[pA,h2,dc,dS]
def Sl1{α:Type}(H:Heap)(v:Value)(mk:α→Value)(xs:List α):Prop:=RdAt H v 1 (xs.map mk)
section
variable {α:Type} {mk:α→Value} {v:Value} {xs:List α}
theorem Sl1.len(h:Sl1 H v mk xs)(m:Nat)(t:TypeId):a7i (some m) P H t v=some (.int .i64 xs.length):=RdAt.len (size:=0) h (by simp) m t
theorem Sl1.idx(h:Sl1 H v mk xs)(t:TypeId)(k:IntKind)(j:Int)(h0:0≤j)(h1:j<xs.length):a1s (some 1) P t v (.int k j)=some (jR v 1 j.toNat 0):=RdAt.idx (size:=0) h (by simp) t k j h0 h1
theorem Sl1.ld(h:Sl1 H v mk xs)(d:α)(s:Option Nat)(j:Nat)(hj:j<xs.length):pA (some false) s H (jR v 1 j 0)=some (mk (xs.getD j d)):=by
 rw[RdAt.ld h s j 0 (by simpa using hj)]
 simp[dh,hj]
end
def Sl2{α:Type}(H:Heap)(v:Value)(f g:α→Value)(xs:List α):Prop:=RdAt H v 2 (xs.flatMap fun x=>[f x,g x])
theorem oR{α:Type}(f g:α→Value)(xs:List α):(xs.flatMap fun x=>[f x,g x]).length=xs.length*2:=by
 induction xs with
 | nil=>rfl
 | cons x xs ih=>simp[dM,ih];omega
theorem a1D{α:Type}(f g:α→Value):∀(xs:List α)(j:Nat),(xs.flatMap fun x=>[f x,g x]).drop (j*2)=(xs.drop j).flatMap fun x=>[f x,g x]
 | [],j=>by simp
 | x::xs,0=>rfl
 | x::xs,j+1=>by
   rw[gL]
   simp only[dM,gn,fp,List.drop_succ_cons]
   exact a1D f g xs j
section
variable {α:Type} {f g:α→Value} {v:Value} {xs:List α}
theorem Sl2.len(h:Sl2 H v f g xs)(m:Nat)(t:TypeId):a7i (some m) P H t v=some (.int .i64 xs.length):=RdAt.len (size:=1) h (oR f g xs) m t
theorem Sl2.idx(h:Sl2 H v f g xs)(t:TypeId)(k:IntKind)(j:Int)(h0:0≤j)(h1:j<xs.length):a1s (some 2) P t v (.int k j)=some (jR v 2 j.toNat 0):=RdAt.idx (size:=1) h (oR f g xs) t k j h0 h1
theorem Sl2.bd(h:Sl2 H v f g xs)(j:Nat)(hj:j<xs.length)(g d:Nat):a6n (some d) (jR v 2 j g)=some (jR v 2 j (g+d)):=RdAt.bd (size:=1) h j (by rw[oR];omega) g d
theorem Sl2.drop(j:Nat)(hj:j<xs.length)(d:α):(xs.flatMap fun x=>[f x,g x]).drop (j*2)=f (xs.getD j d)::g (xs.getD j d)::((xs.drop (j+1)).flatMap fun x=>[f x,g x]):=by
 rw[a1D,eU hj]
 have e:xs.getD j d=xs[j]:=by simp[dh,hj]
 rw[e]
 rfl
theorem Sl2.ld1(h:Sl2 H v f g xs)(d:α)(s:Option Nat)(j:Nat)(hj:j<xs.length):pA (some false) s H (jR v 2 j 1)=some (g (xs.getD j d)):=by
 rw[RdAt.ld h s j 1 (by rw[oR];omega)]
 have:=Sl2.drop (f:=f) (g:=g) j hj d
 have h2:((xs.flatMap fun x=>[f x,g x]).drop (j*2))[1]? =some (g (xs.getD j d)):=by rw[this];rfl
 rwa [dI]at h2
theorem Sl2.aj(h:Sl2 H v f g xs)(d:α)(j:Nat)(hj:j<xs.length):pA (some true) (some 2) H (jR v 2 j 0)=some (.agg #[f (xs.getD j d),g (xs.getD j d)]):=by
 rw[RdAt.aj h 2 j 0 (by rw[oR];omega) (by omega)]
 have:=Sl2.drop (f:=f) (g:=g) j hj d
 rw[ib,this]
 rfl
end
theorem St.cell{os:List Ob}(hS:St P H0 H os)(i:Nat){A n:Nat}{cs:List Value}(ho:os[i]? =some ⟨ptr A 0 n,0,cs⟩):n=cs.length∧∃ty lo ver,iR H A=some (.cells cs ty true lo ver)∧lo≤cs.length:=by
 have:=hS.own _ (dW ho)
 unfold OwnAt at this
 rw[if_pos rfl]at this
 rcases this with this|⟨_,_,_,_,_,_,h,_⟩
 case inr=>cases h
 obtain⟨A',ty,lo,ver,h1,h2,h3⟩:=this
 simp only[ptr,Value.pointer.injEq,dF,Addr.mk.injEq,true_and]at h3
 obtain⟨rfl,rfl⟩:=h3
 exact⟨rfl,ty,lo,ver,h1,h2⟩
theorem St.ld{os:List Ob}(hS:St P H0 H os)(i:Nat){A n:Nat}{cs:List Value}(ho:os[i]? =some ⟨ptr A 0 n,0,cs⟩)(s:Option Nat)(off:Nat):pA (some false) s H (ptr A off n)=cs[off]?:=by
 obtain⟨rfl,ty,lo,ver,h1,h2⟩:=hS.cell i ho
 simp only[pA,jF,h1]
 by_cases h:off<cs.length
 ·rw[if_pos (by simp;omega)]
  simp only[dc]
  rw[dX (by omega),dI]
  simp
 ·rw[if_neg (by simp;omega),ew (by omega)]
  rfl
theorem St.aj{os:List Ob}(hS:St P H0 H os)(i:Nat){A n:Nat}{cs:List Value}(ho:os[i]? =some ⟨ptr A 0 n,0,cs⟩)(m off:Nat):pA (some true) (some m) H (ptr A off n)=if off+m≤cs.length then some (.agg ((cs.drop off).take m).toArray)else none:=by
 obtain⟨rfl,ty,lo,ver,h1,h2⟩:=hS.cell i ho
 simp only[pA,jF,h1,dc]
 by_cases h:off+m≤cs.length
 ·rw[if_pos (by simp;omega),if_pos h]
  rfl
 ·rw[if_neg (by simp;omega),if_neg h]
  rfl
theorem St.put{H1:Heap}{os:List Ob}(hS:St P H0 H os)(i:Nat){o o':Ob}(ho:os[i]? =some o)(hown:OwnAt P H1 o')(hlen:H.length≤H1.length)(hk:∀B,B<H.length→kJ o.v≠some B→iR H1 B=iR H B)
 (hb:∀B,kJ o'.v=some B→kJ o.v=some B∨H.length≤B):St P H0 H1 (os.set i o'):=by
 have hi:i<os.length:=(dy.1 ho).1
 have hoi:os[i]=o:=(dy.1 ho).2
 have hpw:=ec.1 hS.sep
 have hne:∀j(hj:j<os.length),j≠i→∀B,kJ os[j].v=some B→kJ o.v≠some B:=by
  intro j hj hji B hB hB2
  rcases fJ hji with h|h
  ·exact hpw j i hj hi h B hB (hoi▸hB2)
  ·exact hpw i j hi hj h B (hoi▸hB2) hB
 have ho0:∀B,kJ o.v=some B→H0.H.length≤B∨H0.X B:=hS.new o (dW ho)
 refine⟨dL hS.len hlen,?_,?_,?_,?_⟩
 ·intro B hB hX
  rw[hk B (dQ hB hS.len) (fun h=>by
   rcases ho0 B h with h|h
   ·omega
   ·exact hX h),hS.old B hB hX]
 ·intro x hx
  rw[dT]at hx
  obtain⟨j,hj,rfl⟩:=hx
  rw[fF]at hj
  rw[gM]
  split
  ·exact hown
  ·rename_i hij
   have hox:OwnAt P H os[j]:=hS.own _ (gN hj)
   exact hox.ae fun B hB=>hk B (hox.lt hB) (hne j hj (fun h=>hij h.symm) B hB)
 ·intro x hx B hB
  rw[dT]at hx
  obtain⟨j,hj,rfl⟩:=hx
  rw[fF]at hj
  rw[gM]at hB
  split at hB
  ·rcases hb B hB with h|h
   ·exact ho0 B h
   ·exact .inl (dL hS.len h)
  ·exact hS.new _ (gN hj) B hB
 ·rw[ec]
  intro j k hj hk' hjk B
  rw[fF]at hj hk'
  rw[gM,gM]
  have hlt:∀j(hj:j<os.length)B,kJ os[j].v=some B→B<H.length:=fun j hj B hB=>(hS.own _ (gN hj)).lt hB
  split
  ·rename_i hij
   split
   ·omega
   ·intro h1 h2
    rcases hb B h1 with h|h
    ·exact hne k hk' (by omega) B h2 h
    ·have:=hlt k hk' B h2;omega
  ·rename_i hij
   split
   ·intro h1 h2
    rcases hb B h2 with h|h
    ·exact hne j hj (by omega) B h1 h
    ·have:=hlt j hj B h1;omega
   ·exact hpw j k hj hk' hjk B
theorem St.add{H1:Heap}{os:List Ob}(hS:St P H0 H os){o:Ob}(hown:OwnAt P H1 o)(hlen:H.length≤H1.length)(hk:∀B,B<H.length→iR H1 B=iR H B)(hb:∀B,kJ o.v=some B→H.length≤B):St P H0 H1 (os++[o]):=by
 refine⟨dL hS.len hlen,fun B hB hX=>by rw[hk B (dQ hB hS.len),hS.old B hB hX],?_,?_,?_⟩
 ·intro x hx
  rcases dH.1 hx with hx|hx
  ·exact(hS.own x hx).ae fun B hB=>hk B ((hS.own x hx).lt hB)
  ·obtain rfl:=dC.1 hx
   exact hown
 ·intro x hx B hB
  rcases dH.1 hx with hx|hx
  ·exact hS.new x hx B hB
  ·obtain rfl:=dC.1 hx
   exact .inl (dL hS.len (hb B hB))
 ·rw[eT]
  refine⟨hS.sep,List.pairwise_singleton _ _,fun x hx y hy B h1 h2=> ?_⟩
  obtain rfl:=dC.1 hy
  have:=(hS.own x hx).lt h1
  have:=hb B h2
  omega
theorem St.trans{H1:Heap}{os os1:List Ob}(hS:St P H0 H os)(h1:St P H H1 os1):St P H0 H1 (os++os1):=by
 refine⟨dL hS.len h1.len,fun B hB hX=>by rw[h1.ae B (dQ hB hS.len),hS.old B hB hX],?_,?_,?_⟩
 ·intro x hx
  rcases dH.1 hx with hx|hx
  ·exact(hS.own x hx).ae fun B hB=>h1.ae B ((hS.own x hx).lt hB)
  ·exact h1.own x hx
 ·intro x hx B hB
  rcases dH.1 hx with hx|hx
  ·exact hS.new x hx B hB
  ·rcases h1.new x hx B hB with h|h
   ·exact .inl (dL hS.len h)
   ·exact h.elim
 ·rw[eT]
  refine⟨hS.sep,h1.sep,fun x hx y hy B e1 e2=> ?_⟩
  have:=(hS.own x hx).lt e1
  rcases h1.new y hy B e2 with h|h
  ·have h:H.length≤B:=h
   omega
  ·exact h.elim
def pX(os:List Ob):Nat→Prop:=fun A=>∃o∈os,kJ o.v=some A
theorem St.aH{os:List Ob}(hS:St P H0 H os):St P ⟨H,pX os⟩ H os:=
 ⟨dj _,fun _ _ _=>rfl,hS.own,fun o ho B hB=>.inr ⟨o,ho,hB⟩,hS.sep⟩
theorem St.bD{H1:Heap}{os os1:List Ob}(hS:St P H0 H os)(h1:St P ⟨H,pX os⟩ H1 os1):St P H0 H1 os1:=by
 refine⟨dL hS.len h1.len,?_,h1.own,?_,h1.sep⟩
 ·intro B hB hX
  rw[h1.old B (dQ hB hS.len) ?_,hS.old B hB hX]
  rintro⟨o,ho,hb⟩
  rcases hS.new o ho B hb with h|h
  ·omega
  ·exact hX h
 ·intro o ho B hB
  rcases h1.new o ho B hB with h|⟨o',ho',hb⟩
  ·exact .inl (dL hS.len h)
  ·exact hS.new o' ho' B hb
theorem St.other{H1:Heap}{os os1:List Ob}(h1:St P ⟨H,pX os⟩ H1 os1){L:Nat}(hL:L<H.length)(hn:∀o∈os,kJ o.v≠some L):iR H1 L=iR H L:=
 h1.old L hL fun⟨o,ho,hb⟩=>hn o ho hb
theorem St.sub{os os':List Ob}(hS:St P H0 H os)(h:os'.Sublist os):St P H0 H os':=
 ⟨hS.len,hS.old,fun o ho=>hS.own o (h.subset ho),fun o ho=>hS.new o (h.subset ho),hS.sep.sublist h⟩
theorem St.forget{os:List Ob}(hS:St P H0 H os):St P H0 H []:=hS.sub (List.nil_sublist _)
theorem OwnAt.nil(size:Nat):OwnAt P H ⟨.slice none 0 0,size+1,[]⟩:=by
 unfold OwnAt
 rw[if_neg (eQ _)]
 exact .inl ⟨rfl,rfl⟩
theorem St.nil{os:List Ob}(hS:St P H0 H os)(size:Nat):St P H0 H (os++[⟨.slice none 0 0,size+1,[]⟩]):=
 hS.add (.nil size) (dj _) (fun _ _=>rfl) (fun B hB=>by simp[kJ]at hB)
end
end Go.Ds
namespace Go.Ds
noncomputable section
variable {P:Program} {H0:Base} {H:Heap} {os:List Ob}
theorem kN:∀(vs cs:List Value)(i:Nat),(iZ cs i vs).length=cs.length
 | [],_,_=>rfl
 | v::vs,cs,i=>by rw[iZ,kN vs,kP,fF]
theorem oK:∀(vs pre cs:List Value)(i:Nat),iZ (pre++cs) (pre.length+i) vs=pre++iZ cs i vs
 | [],_,_,_=>rfl
 | v::vs,pre,cs,i=>by
   rw[iZ,iZ,kP,kP,eI _ _ (by omega),fT,gg]
   exact oK vs pre _ _
theorem kW(cs:List Value)(i:Nat)(v:Value)(vs:List Value):iZ cs i (v::vs)=iZ (cs.set i v) (i+1) vs:=by rw[iZ,kP]
theorem oA(cs:List Value)(i:Nat):iZ cs i []=cs:=rfl
theorem sK{A B:Nat}{b:Blk}(h:A≠B):iR (hset H A b) B=iR H B:=iP b h
theorem St.eNew(hS:St P H0 H os){t:TypeId}{v:Value}(n:Nat)(cs:List Value){K:Value→Heap→Prop}(hc:v.cells.toList=cs)(hn:cs.length=n)(h1:cs.all oneCell=true)(hs:iF P t=some n)
 (h:∀A H1,St P H0 H1 (os++[⟨ptr A 0 n,0,cs⟩])→K (ptr A 0 n) H1):a5B P H t v K:=by
 subst hn
 refine⟨ptr H.length 0 cs.length,H.cons (.cells cs t true cs.length 0),?_,h _ _ (hS.add ?_ ?_ ?_ ?_)⟩
 ·simp only[wS,hc,h1,hs,BEq.rfl,Bool.and_self,if_true,lI]
 ·unfold OwnAt
  rw[if_pos rfl]
  exact .inl ⟨_,t,_,0,iS H _,dj _,rfl⟩
 ·simp[pJ]
 ·exact fun B hB=>jS _ hB
 ·intro B hB
  simp[kJ]at hB
  omega
theorem St.aa(hS:St P H0 H os)(i:Nat){A n:Nat}{cs:List Value}(ho:os[i]? =some ⟨ptr A 0 n,0,cs⟩){off:Nat}{t:TypeId}{v:Value}{K:Heap→Prop}(vs:List Value)(hc:v.cells.toList=vs)(h1:vs.all oneCell=true)
 (hs:iF P t=some vs.length) (hoff:off+vs.length≤cs.length) (h:∀H1,St P H0 H1 (os.set i ⟨ptr A 0 n,0,iZ cs off vs⟩)→K H1):a0t P H t (ptr A off n) v K:=by
 obtain⟨rfl,ty,lo,ver,h2,h3⟩:=hS.cell i ho
 refine⟨hset H A (.cells (iZ cs off vs) ty true cs.length ver),?_,h _ (hS.put i ho ?_ ?_ ?_ ?_)⟩
 ·simp only[qT,h2,hc]
  rw[if_pos ⟨hs,h1,by trivial,hoff,h3⟩]
 ·unfold OwnAt
  rw[if_pos rfl]
  refine .inl ⟨A,ty,_,_,iW _ (jI h2),?_,?_⟩
  ·simp[kN]
  ·simp[kN]
 ·rw[jE];exact dj _
 ·intro B hB hne
  refine sK fun hh=>hne ?_
  simp[kJ,hh]
 ·intro B hB
  exact .inl hB
theorem St.aR(hS:St P H0 H os)(i:Nat){s:Value}{size:Nat}{cs:List Value}(ho:os[i]? =some ⟨s,size+1,cs⟩){j f:Nat}{t:TypeId}{v:Value}{K:Heap→Prop}(vs:List Value)(hc:v.cells.toList=vs)(h1:vs.all oneCell=true)
 (hs:iF P t=some vs.length) (h0:0<vs.length) (hoff:j*(size+1)+f+vs.length≤cs.length) (h:∀H1,St P H0 H1 (os.set i ⟨s,size+1,iZ cs (j*(size+1)+f) vs⟩)→K H1):a0t P H t (jR s (size+1) j f) v K:=by
 have hown:=hS.own _ (dW ho)
 unfold OwnAt at hown
 rw[if_neg (eQ _)]at hown
 rcases hown with⟨h2,h3⟩|⟨A,k,ty,lo,ver,pre,n,h2,h3,h4,h5,h6,h7⟩
 ·simp only at h3;subst h3;simp only[eP]at hoff;omega
 ·simp only at h2 h3 h5 h6
  refine⟨hset H A (.cells (iZ (pre++cs) (k+j*(size+1)+f) vs) ty true (pre++cs).length ver),?_,h _ (hS.put i ho ?_ ?_ ?_ ?_)⟩
  ·simp only[qT,jR,h6,h2,hc]
   rw[if_pos ⟨hs,h1,by simp[h4],by omega,h3⟩]
  ·unfold OwnAt
   rw[if_neg (eQ _)]
   refine .inr ⟨A,k,ty,(pre++cs).length,ver,pre,n,?_,?_,h4,?_,?_,h7⟩
   ·rw[iW _ (jI h2),←h4,gg,oK]
   ·simp[kN,h4]
   ·simp only[kN];exact h5
   ·simp only[kN];exact h6
  ·rw[jE];exact dj _
  ·intro B hB hne
   refine sK fun hh=>hne ?_
   simp[kJ,h6,hh]
  ·intro B hB
   exact .inl hB
def mN(P:Program)(t:TypeId):Option (Nat×Nat):=
 (iJ P t).bind fun elem=>(iF P elem).bind fun size=>(nP P elem).bind fun bytes=>(jA P elem).bind fun z=>if z.cells.size==size then some (size,bytes)else none
theorem RdAt.src{x:Value}{size:Nat}{ys:List Value}(h:RdAt H x (size+1) ys):∃n,ys.length=n*(size+1)∧a0g H (size+1) x=some (n,ys):=by
 rcases h with⟨rfl,rfl⟩|⟨A,i,e,row,ty,rw,lo,ver,n,h1,h2,h3,h4,h5,h6,rfl⟩
 ·exact⟨0,by simp,rfl⟩
 ·refine⟨n,h6,?_⟩
  simp only[a0g,jF,h1]
  rw[←h6,if_pos (by simp;omega),h5]
  rfl
theorem St.al(hS:St P H0 H os)(i:Nat){s:Value}{size:Nat}{cs:List Value}(ho:os[i]? =some ⟨s,size+1,cs⟩){x:Value}{ys:List Value}(hx:RdAt H x (size+1) ys){t:TypeId}{bytes:Nat}{K:Value→Heap→Prop}
 (ha:mN P t=some (size+1,bytes)) (hroom:(cs.length+ys.length)*(bytes+1)≤17592186044416) (h:∀v H1,St P H0 H1 (os.set i ⟨v,size+1,cs++ys⟩)→K v H1):zC P H t s x K:=by
 unfold mN at ha
 cases he:iJ P t with
 | none=>rw[he]at ha;cases ha
 | some elem=>
 rw[he]at ha
 simp only[dc]at ha
 cases hsz:iF P elem with
 | none=>rw[hsz]at ha;cases ha
 | some sz=>
 rw[hsz]at ha
 simp only[dc]at ha
 cases hby:nP P elem with
 | none=>rw[hby]at ha;cases ha
 | some by'=>
 rw[hby]at ha
 simp only[dc]at ha
 cases hz:jA P elem with
 | none=>rw[hz]at ha;cases ha
 | some z=>
 rw[hz]at ha
 simp only[dc]at ha
 split at ha
 case isFalse=>cases ha
 rename_i hzs
 simp only[dF,gT]at ha
 obtain⟨rfl,rfl⟩:=ha
 obtain⟨n,hn,hsrc⟩:=hx.src
 have hn':n≤ys.length:=by rw[hn];exact gk n (fL size)
 have hown:=hS.own _ (dW ho)
 unfold OwnAt at hown
 rw[if_neg (eQ _)]at hown
 rcases hown with⟨h2,h3⟩|⟨A,k,ty,lo,ver,pre,m,h2,h3,h4,h5,h6,h7⟩
 ·simp only at h2 h3
  subst h2 h3
  by_cases h0:n=0
  ·subst h0
   have hys:ys=[]:=fm (by omega)
   subst hys
   refine⟨.slice none 0 0,H,?_,h _ _ ?_⟩
   ·simp only[nO,he,hsz,hby,hz,dc,hsrc]
    simp[hzs,oX]
   ·obtain⟨hi,hoi⟩:=dy.1 ho
    have e:os.set i ⟨.slice none 0 0,size+1,[]++[]⟩=os:=by
     rw[dm,←hoi,List.set_getElem_self]
    rw[e]
    exact hS
  ·refine⟨_,H.cons (.cells ys elem true ys.length 0),?_,h (.slice (some ⟨H.length,0,some ys.length⟩) n (size+1)) _ (hS.put i ho ?_ ?_ ?_ ?_)⟩
   ·simp only[nO,he,hsz,hby,hz,dc,hsrc]
    have hr:n*(by'+1)≤oX:=by
     refine dL (dP _ ?_) hroom
     omega
    simp[hzs,hr,h0,lI]
   ·unfold OwnAt
    rw[if_neg (eQ _)]
    exact .inr ⟨_,0,elem,_,0,[],n,iS H _,by simp,rfl,by simpa using hn,by simp,hsz⟩
   ·simp[pJ]
   ·exact fun B hB _=>jS _ hB
   ·intro B hB
    simp[kJ]at hB
    omega
 ·simp only at h2 h3 h5 h6
  refine⟨_,hset H A (.cells (pre++cs++ys) ty true lo (if ty==elem then ver else 2)),?_,h (.slice (some ⟨A,k,some (k+cs.length+ys.length)⟩) (m+n) (size+1)) _ (hS.put i ho ?_ ?_ ?_ ?_)⟩
  ·have hr:(m+n)*(by'+1)≤oX:=by
    refine dL (dP _ ?_) hroom
    have:m≤cs.length:=by rw[h5];exact gk m (fL size)
    omega
   simp only[nO,he,hsz,hby,hz,dc,hsrc,h6,h2]
   rw[if_pos]
   ·simp[yP]
   ·have h3':lo≤k+m*(size+1):=by rw[←h5];exact h3
    simp[hr,hzs,h7,h4,h3',h5]
  ·unfold OwnAt
   rw[if_neg (eQ _)]
   refine .inr ⟨A,k,ty,lo,(if ty==elem then ver else 2),pre,m+n,?_,?_,h4,?_,?_,h7⟩
   ·rw[iW _ (jI h2),dG]
   ·simp;omega
   ·simp[fc,h5,hn]
   ·simp[gg]
  ·rw[jE];exact dj _
  ·intro B hB hne
   refine sK fun hh=>hne ?_
   simp[kJ,h6,hh]
  ·intro B hB
   simp[kJ]at hB
   left
   simp[kJ,h6,hB]
theorem a3W(off:Nat):∀(vs:List Value)(k:Nat)(a:Array Value),((vs.zipIdx k).foldl (fun cs(x:Value×Nat)=>cs.setIfInBounds (off+x.2) x.1) a).toList=iZ a.toList (off+k) vs
 | [],_,_=>rfl
 | v::vs,k,a=>by
   rw[List.zipIdx_cons,eA,a3W off vs (k+1),kW]
   simp[gg]
theorem mG:∀(vs pre rest:List Value),vs.length≤rest.length→iZ (pre++rest) pre.length vs=pre++vs++rest.drop vs.length
 | [],pre,rest,_=>by simp[iZ]
 | v::vs,pre,[],h=>by simp at h
 | v::vs,pre,r::rest,h=>by
   rw[kW,eI _ _ (dj _),il,fw]
   have:=mG vs (pre++[v]) rest (by simpa using h)
   simp only[dG,gn,fp,dr,eo,eP,fh]at this
   simpa using this
theorem a3A(size:Nat):∀(ps:List (Nat×Value))(k:Nat)(pre rest:List Value),pre.length=k*size→rest.length=ps.length*size→ps.map (·.1)=List.range' k ps.length→(∀p∈ps,p.2.cells.size=size)→
 Instr.fill (fun i=>some (i*size,size)) (pre++rest).toArray ps=some (pre++ps.flatMap fun p=>p.2.cells.toList).toArray
 | [],k,pre,rest,_,h2,_,_=>by
   have:rest=[]:=fm (by simpa using h2)
   subst this
   simp[Instr.fill]
 | (i,v)::ps,k,pre,rest,h1,h2,h3,h4=>by
   simp only[dU,eo,gK,fZ]at h3
   obtain⟨rfl,h3⟩:=h3
   have hv:v.cells.size=size:=h4 (i,v) (dY ..)
   have hrl:v.cells.toList.length≤rest.length:=by
    rw[h2];simp[hv,fc]
   simp only[Instr.fill]
   rw[if_neg (by
    simp only[hv,ne_eq,not_true_eq_false,decide_false,Bool.false_or,gB,dr,h1,h2,eo,fc]
    simp)]
   have e:(v.cells.zipIdx.foldl (fun cs x=>cs.setIfInBounds (i*size+x.2) x.1) (pre++rest).toArray)=(pre++v.cells.toList++rest.drop v.cells.toList.length).toArray:=by
    apply Array.toList_inj.1
    rw[←gW,Array.toList_zipIdx,a3W,ib,←h1,mG _ _ _ hrl]
   have e':(v.cells.zipIdx.foldl (fun cs(c,j)=>cs.setIfInBounds (i*size+j) c) (pre++rest).toArray)=(pre++v.cells.toList++rest.drop v.cells.toList.length).toArray:=e
   rw[e',a3A size ps (i+1) (pre++v.cells.toList) _ (by simp[h1,hv,fc]) (by simp[h2,hv,fc]) h3 (fun p hp=>h4 p (eC _ hp))]
   simp
theorem St.ai(hS:St P H0 H os){t:TypeId}{len:Nat}{ps:List (Nat×Value)}{size bytes:Nat}(cs:List Value){K:Value→Heap→Prop}(ha:mN P t=some (size+1,bytes))(hz:((iJ P t).bind (jA P)).any jD=true)
 (hp:ps.map (·.1)=List.range' 0 ps.length) (hl:len=ps.length) (hsz:∀p∈ps,p.2.cells.size=size+1) (hcs:ps.flatMap (fun p=>p.2.cells.toList)=cs) (h1:cs.all oneCell=true) (h0:len*(size+1)≤16777216) (hne:len≠0)
 (h:∀v H1,St P H0 H1 (os++[⟨v,size+1,cs⟩])→K v H1):sJ P H t len ps K:=by
 subst hl
 unfold mN at ha
 cases he:iJ P t with
 | none=>rw[he]at ha;cases ha
 | some elem=>
 rw[he]at ha hz
 simp only[dc]at ha hz
 cases hsz2:iF P elem with
 | none=>rw[hsz2]at ha;cases ha
 | some sz=>
 rw[hsz2]at ha
 simp only[dc]at ha
 cases hby:nP P elem with
 | none=>rw[hby]at ha;cases ha
 | some by'=>
 rw[hby]at ha
 simp only[dc]at ha
 cases hz2:jA P elem with
 | none=>rw[hz2]at ha;cases ha
 | some z=>
 rw[hz2]at ha hz
 simp only[dc,Option.any_some]at ha hz
 split at ha
 case isFalse=>cases ha
 rename_i hzs
 simp only[dF,gT]at ha
 obtain⟨rfl,rfl⟩:=ha
 have hlen:cs.length=ps.length*(size+1):=by
  rw[←hcs,List.length_flatMap]
  have:ps.map (fun p=>p.2.cells.toList.length)=ps.map (fun _=>size+1):=gR fun p hp=>by simpa using hsz p hp
  rw[this,List.map_const']
  simp
 have hall:ps.all (fun x=>x.2.cells.toList.all oneCell)=true:=by
  rw[←hcs]at h1
  rw[List.all_flatMap]at h1
  exact h1
 refine⟨.slice (some ⟨H.length,0,some cs.length⟩) ps.length (size+1),H.cons (.cells cs elem true cs.length 0),?_,h _ _ (hS.add ?_ ?_ ?_ ?_)⟩
 ·unfold yI
  simp only[he,hsz2,hz2,dc]
  rw[if_neg (by simp[hne]),if_pos (by
   simp only[hz,hall,hzs,fg,gy,de,decide_eq_true_eq,bne_iff_ne,ne_eq]
   exact⟨h0,Nat.mul_ne_zero hne (eQ _)⟩)]
  have hf:=a3A (size+1) ps 0 [] ((Array.range (ps.length*(size+1))).map (z.cells[·%z.cells.size]!)).toList (by simp) (by simp) hp hsz
  simp only[fp,Array.toArray_toList]at hf
  rw[hf,hcs]
  simp[lI]
 ·unfold OwnAt
  rw[if_neg (eQ _)]
  exact .inr ⟨_,0,elem,_,0,[],ps.length,iS H _,by simp,rfl,hlen,by simp,hsz2⟩
 ·simp[pJ]
 ·exact fun B hB=>jS _ hB
 ·intro B hB
  simp[kJ]at hB
  omega
def Fn(P:Program)(k:FuncId)(args:List Value)(H:Heap)(R:Value→Heap→Prop):Prop:=rI P k∧∃v H1,CallOk P k args H v H1∧R v H1
theorem iK{k:FuncId}{args:List Value}{R K:Value→Heap→Prop}(h:Fn P k args H R)(hk:∀v H1,R v H1→K v H1):wY P k args H K:=by
 obtain⟨h1,v,H1,h2,h3⟩:=h
 exact⟨v,H1,h1,h2,hk v H1 h3⟩
def xP(P:Program)(fn:Func)(R:Value→Heap→Prop):nN:=fun e l H=>(e=.normal∨e=.ret)∧jY (iE P fn l H) fun v=>R v H
theorem a6a(fn:Func)(R:Value→Heap→Prop)(l:List Value):xP P fn R .normal l H=jY (iE P fn l H) fun v=>R v H:=by simp[xP]
theorem b3S(fn:Func)(R:Value→Heap→Prop)(l:List Value):xP P fn R .ret l H=jY (iE P fn l H) fun v=>R v H:=by simp[xP]
theorem Fn.of_wp{k:FuncId}{fn:Func}{c:Code}{args:List Value}{R:Value→Heap→Prop}(hf:P.funcs[k]? =some fn)(hb:fn.body=some c)(hn:(fn.name== "runtime.NumGoroutine")=false)
 (h:∀l,l=args++List.replicate (fn.ntmps-args.length) undef→Wp P c l H (xP P fn R)):Fn P k args H R:=by
 refine⟨⟨fn,hf,by simp[hb],hn⟩,?_⟩
 refine CallOk.of_wp hf hb hn ((h _ rfl).mono ?_)
 rintro e l H1⟨h1,h2⟩
 refine⟨h1,?_⟩
 unfold jY at h2
 split at h2
 ·rename_i v hv;exact⟨v,hv,h2⟩
 ·exact h2.elim
theorem Fn.mono{k:FuncId}{args:List Value}{R R':Value→Heap→Prop}(h:Fn P k args H R)(hr:∀v H1,R v H1→R' v H1):Fn P k args H R':=by
 obtain⟨h1,v,H1,h2,h3⟩:=h
 exact⟨h1,v,H1,h2,hr _ _ h3⟩
theorem RdAt.cells{v:Value}{size:Nat}{cs:List Value}(h:RdAt H v size cs):v.cells=#[v]∧oneCell v=true∧oG v=true:=by
 rcases h with⟨rfl,_⟩|⟨A,i,e,row,ty,rw,lo,ver,n,h1,h2,h3,h4,h5,h6,rfl⟩<;>exact⟨rfl,rfl,rfl⟩
theorem a1E{f:Value}{args:List Value}{K K':Value→Heap→Prop}(h:qY P f args H K)(hk:∀v H1,K v H1→K' v H1):qY P f args H K':=by
 unfold qY at h ⊢
 split at h
 ·obtain⟨v,H1,h1,h2,h3⟩:=h
  exact⟨v,H1,h1,h2,hk _ _ h3⟩
 ·obtain⟨v,H1,h1,h2⟩:=h
  exact⟨v,H1,h1,hk _ _ h2⟩
 ·exact h.elim
def sS(z:Option Nat)(x:Value)(lo hi:Option Value):Option Value:=
 z.bind fun size=>match x with
 | .slice (some ⟨A,i,some e⟩) n c=>
   (match hi with|some h=>uU h|none=>some n).bind fun h=>
   (match lo with|some l=>uU l|none=>some 0).bind fun l=>
   if l≤h&&h≤n&&c==size then some (.slice (some ⟨A,i+l*size,some e⟩) (h-l) size)else none
 | _=>none
theorem a3u(t:TypeId)(x:Value)(lo hi:Option Value):xB P t x lo hi=sS (jB P t) x lo hi:=by
 unfold xB sS jB
 cases iJ P t with
 | none=>rfl
 | some e=>rfl
def nQ(P:Program)(o:Oper)(l:List Value)(H:Heap)(z:Option Nat)(v:Value)(lo hi:Option Value)(K:Value→Heap→Prop)(_k:Keep K:=⟨⟩):Prop:=match z with
 | none=>jZ (opD P o l H) K
 | some s=>if flat v then jZ (opD P o l H) K else jY (sS (some s) v lo hi) fun v=>K v H
theorem a0w{t:TypeId}{s:Nat}(h:jB P t=some s):jM P t=none:=by
 unfold jB at h
 cases he:iJ P t with
 | none=>rw[he]at h;cases h
 | some e=>simp[jM,kD he]
theorem b3q(d ty pos af g)(t:TypeId)(x:Operand)(lo hi:Option Operand)(l:List Value)(K:Value→Heap→Prop)(hok:∀a,lo=some a∨hi=some a→iU a=true)(hx:iU x=true)
 (h:nQ P ⟨d,.slice t x lo hi none,ty,pos,af,g⟩ l H (jB P t) (ev l x) (lo.map (ev l)) (hi.map (ev l)) K):lW P ⟨d,.slice t x lo hi none,ty,pos,af,g⟩ l H K:=by
 refine⟨?_,?_⟩
 ·simp only[Op.operands]
  cases lo<;>cases hi<;>simp_all
 ·show jZ _ K
  cases hz:jB P t with
  | none=>rw[hz]at h;exact h
  | some sz=>
  have harr:=a0w hz
  rw[hz]at h
  simp only[nQ]at h
  rw[←hz]at h
  split at h
  ·exact h
  ·rename_i hf
   have e:opD P ⟨d,.slice t x lo hi none,ty,pos,af,g⟩ l H=(sS (jB P t) (ev l x) (lo.map (ev l)) (hi.map (ev l))).map fun v=>(v,H):=by
    simp only[opD]
    rw[if_neg hf,harr,a3u]
   rw[e]
   cases hs:sS (jB P t) (ev l x) (lo.map (ev l)) (hi.map (ev l))with
   | none=>rw[hs]at h;exact h.elim
   | some v=>rw[hs]at h;exact h
theorem tE(d ty pos af g)(t:TypeId)(x:Operand)(lo hi:Option Operand)(l:List Value)(K:Value→Heap→Prop):
 lW P ⟨d,.slice t x lo hi none,ty,pos,af,g⟩ l H K=(((#[x]++lo.toArray++hi.toArray).toList.all iU=true)∧nQ P ⟨d,.slice t x lo hi none,ty,pos,af,g⟩ l H (jB P t) (ev l x) (lo.map (ev l)) (hi.map (ev l)) K):=by
 apply propext
 constructor
 ·intro h
  obtain⟨h1,h2⟩:=h
  refine⟨?_,?_⟩
  ·cases lo<;>cases hi<;>simpa [Op.operands]using h1
  ·cases hz:jB P t with
   | none=>exact h2
   | some sz=>
   have harr:=a0w hz
   simp only[nQ]
   rw[←hz]
   split
   ·exact h2
   ·rename_i hf
    have e:opD P ⟨d,.slice t x lo hi none,ty,pos,af,g⟩ l H=(sS (jB P t) (ev l x) (lo.map (ev l)) (hi.map (ev l))).map fun v=>(v,H):=by
     simp only[opD]
     rw[if_neg hf,harr,a3u]
    replace h2:jZ (opD P ⟨d,.slice t x lo hi none,ty,pos,af,g⟩ l H) K:=h2
    rw[e]at h2
    cases hs:sS (jB P t) (ev l x) (lo.map (ev l)) (hi.map (ev l))with
    | none=>rw[hs]at h2;exact h2.elim
    | some v=>rw[hs]at h2;exact h2
 ·rintro⟨h1,h2⟩
  refine b3q d ty pos af g t x lo hi l K ?_ ?_ h2
  ·intro a ha
   cases lo<;>cases hi<;>simp_all
   rcases ha with rfl|rfl<;>simp_all
  ·cases lo<;>cases hi<;>simp_all
theorem a8N(d ty pos af g)(t:TypeId)(x a:Operand)(l:List Value)(K:Value→Heap→Prop):
 lW P ⟨d,.slice t x (some a) none none,ty,pos,af,g⟩ l H K=jN x l fun v=>jN a l fun a'=>nQ P ⟨d,.slice t x (some a) none none,ty,pos,af,g⟩ l H (jB P t) v (some a') none K:=by
 rw[tE];simp[jN,and_assoc]
theorem a8R(d ty pos af g)(t:TypeId)(x a:Operand)(l:List Value)(K:Value→Heap→Prop):
 lW P ⟨d,.slice t x none (some a) none,ty,pos,af,g⟩ l H K=jN x l fun v=>jN a l fun a'=>nQ P ⟨d,.slice t x none (some a) none,ty,pos,af,g⟩ l H (jB P t) v none (some a') K:=by
 rw[tE];simp[jN,and_assoc]
theorem a9d(d ty pos af g)(t:TypeId)(x a b:Operand)(l:List Value)(K:Value→Heap→Prop):
 lW P ⟨d,.slice t x (some a) (some b) none,ty,pos,af,g⟩ l H K=jN x l fun v=>jN a l fun a'=>jN b l fun b'=>nQ P ⟨d,.slice t x (some a) (some b) none,ty,pos,af,g⟩ l H (jB P t) v (some a') (some b') K:=by
 rw[tE];simp[jN,and_assoc]
def lB(v:Value)(size lo k:Nat):Value:=match v with
 | .slice (some ⟨A,i,s⟩) _ _=>.slice (some ⟨A,i+lo*size,s⟩) k size
 | v=>v
theorem RdAt.sub{v:Value}{size:Nat}{cs:List Value}(h:RdAt H v size cs)(lo k:Nat)(hk:lo*size+k*size≤cs.length)(h0:cs≠[]):RdAt H (lB v size lo k) size ((cs.drop (lo*size)).take (k*size)):=by
 rcases h with⟨rfl,rfl⟩|⟨A,i,e,row,ty,rw,lo',ver,n,h1,h2,h3,h4,h5,h6,rfl⟩
 ·exact(h0 rfl).elim
 ·refine .inr ⟨A,i+lo*size,e,row,ty,rw,lo',ver,k,h1,h2,h3,?_,?_,?_,rfl⟩
  ·simp;omega
  ·have hl:(List.take (k*size) (List.drop (lo*size) cs)).length=k*size:=by simp;omega
   rw[hl]
   conv=>rhs;rw[←h5]
   rw[List.drop_take,List.take_take,fC,ft (by omega)]
  ·simp;omega
theorem RdAt.bF{v:Value}{size:Nat}{cs:List Value}(h:RdAt H v size cs)(h0:cs≠[]):flat v=false:=by
 rcases h with⟨rfl,rfl⟩|⟨A,i,e,row,ty,rw,lo',ver,n,h1,h2,h3,h4,h5,h6,rfl⟩
 ·exact(h0 rfl).elim
 ·rfl
theorem RdAt.aM{v:Value}{size:Nat}{cs:List Value}(h:RdAt H v (size+1) cs){n:Nat}(hn:cs.length=n*(size+1))(o:Oper)(l:List Value)(H':Heap)(k:IntKind)(a:Int)(K:Value→Heap→Prop)(h0:0<n)(h1:0≤a)(h2:a≤n):
 nQ P o l H' (some (size+1)) v (some (.int k a)) none K=oI (lB v (size+1) a.toNat (n-a.toNat)) fun v=>K v H':=by
 have hne:cs≠[]:=fun e=>by
  subst e
  have hp:=hP h0 (fL size)
  have hq:0=n*(size+1):=hn
  exact absurd (hq▸hp:0<0) (eR _)
 simp only[nQ]
 rw[h.bF hne]
 rcases h with⟨rfl,rfl⟩|⟨A,i,e,row,ty,rw,lo',ver,m,h3,h4,h5,h6,h7,h8,rfl⟩
 ·exact(hne rfl).elim
 ·have:m=n:=fD (fL size) (h8.symm.trans hn)
  subst this
  have h9:a.toNat≤m:=by omega
  simp[sS,uU,h1,h2,lB,jY,oI]
theorem RdAt.aN{v:Value}{size:Nat}{cs:List Value}(h:RdAt H v (size+1) cs){n:Nat}(hn:cs.length=n*(size+1))(o:Oper)(l:List Value)(H':Heap)(k:IntKind)(a:Int)(K:Value→Heap→Prop)(h0:0<n)(h1:0≤a)(h2:a≤n):
 nQ P o l H' (some (size+1)) v none (some (.int k a)) K=oI (lB v (size+1) 0 a.toNat) fun v=>K v H':=by
 have hne:cs≠[]:=fun e=>by
  subst e
  have hp:=hP h0 (fL size)
  have hq:0=n*(size+1):=hn
  exact absurd (hq▸hp:0<0) (eR _)
 simp only[nQ]
 rw[h.bF hne]
 rcases h with⟨rfl,rfl⟩|⟨A,i,e,row,ty,rw,lo',ver,m,h3,h4,h5,h6,h7,h8,rfl⟩
 ·exact(hne rfl).elim
 ·have:m=n:=fD (fL size) (h8.symm.trans hn)
  subst this
  have h9:a.toNat≤m:=by omega
  simp[sS,uU,h1,h9,lB,jY,oI]
def a3K(P:Program)(t:TypeId):Option Nat:=(iJ P t).bind fun elem=>(jA P elem).bind fun z=>if kH z.cells.toList&&z.cells.size !=0 then some z.cells.size else none
theorem a1n(z:Array Value)(n:Nat):(Builtin.zeroCells z n).toList.length=n*z.size:=by simp[Builtin.zeroCells]
theorem yE(z:Array Value)(n:Nat)(h:kH z.toList=true)(h0:z.size≠0):kH (Builtin.zeroCells z n).toList=true:=by
 unfold kH at h ⊢
 rw[dx]at h ⊢
 intro x hx
 simp only[Builtin.zeroCells,iA,Array.toList_range,dD]at hx
 obtain⟨i,_,rfl⟩:=hx
 have hlt:i%z.size<z.size:=eY _ (gp h0)
 rw[getElem!_pos z _ hlt]
 exact h _ (by simp)
theorem St.bq(hS:St P H0 H os)(i:Nat){v:Value}{size:Nat}{cs:List Value}(ho:os[i]? =some ⟨v,size+1,cs⟩)(lo k:Nat)(hk:lo*(size+1)+k*(size+1)≤cs.length)(hne:cs≠[]){t:TypeId}(ht:a3K P t=some (size+1)){K:Value→Heap→Prop}
 (h:∀l H1,l.length=k*(size+1)→St P H0 H1 (os.set i ⟨v,size+1,iZ cs (lo*(size+1)) l⟩)→K (.tuple #[]) H1):a2e P H t (lB v (size+1) lo k) K:=by
 unfold a3K at ht
 cases he:iJ P t with
 | none=>rw[he]at ht;cases ht
 | some elem=>
 rw[he]at ht
 simp only[dc]at ht
 cases hz:jA P elem with
 | none=>rw[hz]at ht;cases ht
 | some z=>
 rw[hz]at ht
 simp only[dc]at ht
 split at ht
 case isFalse=>cases ht
 rename_i hc
 simp only[de,bne_iff_ne,ne_eq]at hc
 have hzs:=da ht
 have hown:=hS.own _ (dW ho)
 unfold OwnAt at hown
 rw[if_neg (eQ _)]at hown
 rcases hown with⟨h2,h3⟩|⟨A,j,ty,lo',ver,pre,m,h2,h3,h4,h5,h6,h7⟩
 ·exact(hne h3).elim
 simp only at h2 h3 h5 h6
 subst h6
 by_cases hk0:k=0
 ·subst hk0
  refine⟨.tuple #[],H,?_,h [] H (by simp) ?_⟩
  ·simp[sQ,lB,he,hz]
  ·obtain⟨hi,hoi⟩:=dy.1 ho
   rw[oA,←hoi,List.set_getElem_self]
   exact hS
 ·have hl:(Builtin.zeroCells z.cells k).toList.length=k*(size+1):=by rw[a1n,hzs]
  have hsc:=yE z.cells k hc.1 hc.2
  refine⟨.tuple #[],hset H A (.cells (iZ (pre++cs) (j+lo*(size+1)) (Builtin.zeroCells z.cells k).toList) ty true (pre++cs).length ver),?_,h _ _ hl (hS.put i ho ?_ ?_ ?_ ?_)⟩
  ·simp only[sQ,lB,he,hz,dc,h2]
   rw[if_neg (by simpa using hk0),if_pos (by
    rw[hsc,hl]
    simp[h4,h3];omega)]
  ·unfold OwnAt
   rw[if_neg (eQ _)]
   refine .inr ⟨A,j,ty,(pre++cs).length,ver,pre,m,?_,?_,h4,?_,?_,h7⟩
   ·rw[iW _ (jI h2),←h4,oK]
   ·simp[kN,h4]
   ·simp only[kN];exact h5
   ·simp only[kN]
  ·rw[jE];exact dj _
  ·intro B' hB hne'
   refine sK fun hh=>hne' ?_
   simp[kJ,hh]
  ·intro B' hB
   exact .inl hB
end
end Go.Ds
namespace Go.Ds
theorem b4F(k:IntKind)(n:Int):flat (.int k n)=true:=rfl
theorem b2n(b:Bool):flat (.bool b)=true:=rfl
theorem a8A:flat (.slice none 0 0)=true:=rfl
theorem b2q(k:IntKind)(n:Int):jD (.int k n)=true:=rfl
theorem a9r(b:Bool):jD (.bool b)=true:=rfl
theorem b5Y(ops:List Oper)(j:Nat):xU ops.toArray j=(ops[j]?).bind (·.dst):=by simp[xU]
theorem b3w(l:List Value):jD (.agg l.toArray)=l.all jC:=by simp[jD,kH]
theorem b4l(l:List Value):flat (.agg l.toArray)=l.all jC:=by simp[flat,jD,kH]
theorem b1p:jD (.slice none 0 0)=true:=rfl
theorem a5t:flat .nilFunc=true:=rfl
theorem a8y(k:IntKind)(n:Int):jC (.int k n)=true:=rfl
theorem a7B(b:Bool):jC (.bool b)=true:=rfl
theorem a9a:jC (.slice none 0 0)=true:=rfl
theorem b3T(A i e:Nat):oG (ptr A i e)=true:=rfl
theorem a6O(k:IntKind)(n:Int):jW (.int k n)=true:=rfl
theorem a4K(b:Bool):jW (.bool b)=true:=rfl
theorem a7p:jW (.slice none 0 0)=true:=rfl
theorem a6k(cs:Array Value):jW (.agg cs)=true:=rfl
theorem RC:
 (∀(p:Prop),(True∧p)=p)∧
 (∀(p:Prop),(p∧True)=p)∧
 (∀{α:Sort 1}{x:Decidable True}(t e:α),(@ite α True x t e)=t)∧
 (∀{α:Sort 1}{x:Decidable False}(t e:α),(@ite α False x t e)=e)∧
 (∀{x:Decidable True}(t e:Prop),(@ite Prop True x t e)=t)∧
 (∀{x:Decidable False}(t e:Prop),(@ite Prop False x t e)=e)∧
 (∀(n:Nat),0+n=n)∧
 (∀(n:Nat),n*1=n)∧
 (∀(n:Nat),(n:Int).toNat=n)∧
 (∀(n:Nat),n+0=n)∧
 (∀(h:Decidable True), @decide True h=true)∧
 (∀(h:Decidable False), @decide False h=false)∧
 ((!true)=false)∧
 ((!false)=true)∧
 (∀{α:Type}(l:List α),[]++l=l)∧
 (∀{α:Type}(l:List α),l++[]=l)∧
 (∀{α:Type}{a:α}{l m:List α},a::l++m=a::(l++m))∧
 (∀{α:Type}{a:α}{l:List α},(a::l)[0]? =some a)∧
 (∀{α:Type}{a:α}{i:Nat}{l:List α},(a::l)[i+1]? =l[i]?)∧
 (∀{α β:Type}(a:α)(f:α→Option β),(some a).bind f=f a)∧
 (∀{α:Type}{x:α}{xs:List α}{d:α},(x::xs).getD 0 d=x)∧
 (∀{α:Type}{x:α}{xs:List α}{n:Nat}{d:α},(x::xs).getD (n+1) d=xs.getD n d)∧
 (∀{α:Type}{a:α}{l:List α},(a::l).length=l.length+1)∧
 (∀{α:Type},([]:List α).length=0)∧
 (∀{α:Type}{l:List α},List.drop 0 l=l)∧
 (∀{α:Type}{a:α}{l:List α}{i:Nat},List.take (i+1) (a::l)=a::List.take i l)∧
 (∀{α:Type}{l:List α},List.take 0 l=[])∧
 (∀{α:Type}{a:α}{l:List α}{i:Nat},List.drop (i+1) (a::l)=List.drop i l)∧
 (∀{α:Type}{a:α}{l:List α}{f:α→Bool},(a::l).all f=(f a&&l.all f))∧
 (∀{α:Type}{f:α→Bool},[].all f=true)∧
 (∀(b:Bool),(b&&true)=b)∧
 (∀(b:Bool),(true&&b)=b)∧
 (∀(b:Bool),(b&&b)=b)∧
 (∀(cs:List Value)(i:Nat)(v:Value)(vs:List Value),iZ cs i (v::vs)=iZ (cs.set i v) (i+1) vs)∧
 (∀(cs:List Value)(i:Nat),iZ cs i []=cs)∧
 (∀{α:Type}{x:α}{xs:List α}{a:α},(x::xs).set 0 a=a::xs)∧
 (∀{α:Type}{x:α}{xs:List α}{i:Nat}{a:α},(x::xs).set (i+1) a=x::xs.set i a)∧
 ((¬True)=False)∧
 ((¬False)=True)∧
 (∀{p:Prop}[Decidable p],¬¬p↔p)∧
 (∀{n:Nat},((OfNat.ofNat n:Nat):Int)=OfNat.ofNat n):=
 ⟨@true_and, @and_true, @if_true, @if_false, @if_true Prop, @if_false Prop, @Nat.zero_add, @Nat.mul_one, @Int.toNat_natCast, @Nat.add_zero, @decide_true, @decide_false,Bool.not_true,Bool.not_false, @List.nil_append, @List.append_nil, @List.cons_append, @List.getElem?_cons_zero, @List.getElem?_cons_succ, @Option.bind_some, @List.getD_cons_zero, @List.getD_cons_succ, @List.length_cons, @List.length_nil, @List.drop_zero, @List.take_succ_cons, @List.take_zero, @List.drop_succ_cons, @List.all_cons, @List.all_nil, @Bool.and_true, @Bool.true_and, @Bool.and_self, @kW, @oA, @List.set_cons_zero, @List.set_cons_succ,not_true_eq_false,not_false_eq_true, @Decidable.not_not, @Int.cast_ofNat_Int⟩
end Go.Ds
namespace Go.Ds
open Go.RowKit
section
variable {P:Program} {H:Heap}
theorem CallOk.calls{ρ:Rho}{w:World}{f:FuncId}{args:List Value}{v:Value}{H':Heap}(h:CallOk P f args H v H'){args':Array Value}(hr:HRel P ρ H w)(ha:All2 (V ρ) args args'.toList):
 Calls P f args' w fun e w'=>∃ρ' v',e=.returned v'∧Post P ρ H w ρ' H' w'∧V ρ' v v':=
 (h 0 ρ w args' hr ha).calls fun k=>by intro d h;cases h
def Shut(ρ:Rho)(H:Heap):Prop:=∀b,¬Wr ρ H b
theorem Fn.calls{ρ:Rho}{w:World}{f:FuncId}{args:List Value}{b:Bool}(h:Fn P f args H fun v _=>v=.bool b){args':Array Value}(hr:HRel P ρ H w)(hs:Shut ρ H)(ha:All2 (V ρ) args args'.toList):
 Calls P f args' w fun e w'=>e=.returned (.bool b)∧Below w.heap.size w w':=by
 obtain⟨_,v,H1,h1,rfl⟩:=h
 refine(h1.calls hr ha).mono ?_
 rintro e w'⟨ρ',v',rfl,hp,hv⟩
 refine⟨?_,hp.os,hp.tape.1,hp.output,hp.size,fun k hk=>(hp.frame k hk (hs k)).1⟩
 rw[hv.ag rfl]
theorem HRel.none(w:World):HRel P (fun _ _=>Option.none) .nil w:=.empty w
theorem Shut.none:Shut (fun _ _=>Option.none) .nil:=fun b⟨A,e,p,kJ,h,_⟩=>by cases h
end
end Go.Ds
namespace Go.Ds
section
variable {P:Program} {B:Base} {H:Heap}
def FnS(P:Program)(k:FuncId)(args:List Value)(H:Heap)(R:Value→Heap→Prop):Prop:=
 ∃fn c e l1 H1 v,P.funcs[k]? =some fn∧fn.body=some c∧(fn.name== "runtime.NumGoroutine")=false∧Sim P c (args++List.replicate (fn.ntmps-args.length) undef) H e l1 H1∧(e=.normal∨e=.ret)∧iE P fn l1 H1=some v∧R v H1
theorem FnS.of_wp{k:FuncId}{fn:Func}{c:Code}{args:List Value}{R:Value→Heap→Prop}(hf:P.funcs[k]? =some fn)(hb:fn.body=some c)(hn:(fn.name== "runtime.NumGoroutine")=false)
 (h:∀l,l=args++List.replicate (fn.ntmps-args.length) undef→Wp P c l H (xP P fn R)):FnS P k args H R:=by
 obtain⟨e,l1,H1,h1,h2,h3⟩:=h _ rfl
 unfold jY at h3
 split at h3
 ·rename_i v hv;exact⟨fn,c,e,l1,H1,v,hf,hb,hn,h1,h2,hv,h3⟩
 ·exact h3.elim
theorem FnS.fn{k:FuncId}{args:List Value}{R:Value→Heap→Prop}(h:FnS P k args H R):Fn P k args H R:=by
 obtain⟨fn,c,e,l1,H1,v,hf,hb,hn,h1,h2,h3,h4⟩:=h
 exact⟨⟨fn,hf,by simp[hb],hn⟩,v,H1,.bN hf hb hn h1 h2 h3,h4⟩
theorem FnS.mono{k:FuncId}{args:List Value}{R R':Value→Heap→Prop}(h:FnS P k args H R)(hr:∀v H1,R v H1→R' v H1):FnS P k args H R':=by
 obtain⟨fn,c,e,l1,H1,v,hf,hb,hn,h1,h2,h3,h4⟩:=h
 exact⟨fn,c,e,l1,H1,v,hf,hb,hn,h1,h2,h3,hr _ _ h4⟩
def b0P(l:List Value)(ps:Array Tmp)(assign body:Code):Loop:={state:=.ready,pending:=none,fn:=0,tmps:=l.toArray,params:=ps,assign:=assign,body:=body,defers:=0}
def b5A(P:Program)(l:List Value)(L:Nat)(Q:nN):Value→Heap→Prop:=fun _ H2=>∃r,iR H2 L=some (.loop r)∧r.state≠.busy∧
 (r.pending=none→Q .normal l (hset H2 L (.loop {r with state:=.exhausted})))∧∀c,r.pending=some c→Wp P c l (hset H2 L (.loop {r with state:=.exhausted})) Q
theorem Wp.range{g:Operand}{ps:Array Tmp}{assign body:Code}{l:List Value}{Q:nN}{k:FuncId}{first captured:List Value}(hgo:iU g=true)(hg:ev l g=.func (.func k) first.toArray captured.toArray)
 (h:FnS P k (first++[.func (.yield H.length) #[] #[]]++captured) (H.cons (.loop (b0P l ps assign body))) (b5A P l H.length Q)):Wp P (.rangeFunc g ps assign body) l H Q:=by
 classical
 obtain⟨fn,c,e,l1,H2,v,hf,hb,hn,hs,he,hres,r,hr,hnb,hp⟩:=h
 let sl:=(first++[Value.func (.yield H.length) #[] #[]]++captured)++List.replicate (fn.ntmps-(first++[Value.func (.yield H.length) #[] #[]]++captured).length) undef
 let H1:=H.cons (.loop (b0P l ps assign body))
 let ex:Run:=fun c' l' H'=>if c'=c∧l'=sl∧H'=H1 then some (e,l1,H2)else none
 have hex:∀c l H e l' H',ex c l H=some (e,l',H')→Sim P c l H e l' H':=by
  intro c' l' H' e' l2 H3 hh
  simp only[ex]at hh
  split at hh
  ·rename_i h1
   obtain⟨rfl,rfl,rfl⟩:=h1
   injection hh with hh
   injection hh with h1 hh
   injection hh with h2 h3
   subst h1 h2 h3
   exact hs
  ·cases hh
 have hc:a5c P ex (ev l g) H.length (H.cons (.loop {state:=.ready,pending:=none,fn:=0,tmps:=l.toArray,params:=ps,assign,body,defers:=0}))=some (v,H2):=by
  unfold a5c
  rw[hg]
  show callF P ex k (first++[Value.func (.yield H.length) #[] #[]]++captured) H1=some (v,H2)
  unfold callF
  rw[hf]
  have h1:ex c sl H1=some (e,l1,H2):=by simp[ex]
  simp only[hb,hn,dR,if_false]
  rw[show ex c ((first++[Value.func (.yield H.length) #[] #[]]++captured)++List.replicate (fn.ntmps-(first++[Value.func (.yield H.length) #[] #[]]++captured).length) undef) H1=some (e,l1,H2)from h1]
  rcases he with rfl|rfl<;>simp[hres]
 by_cases hpend:r.pending=none
 ·exact⟨.normal,l,_,a6Q hex hc hgo hr hnb (fun _=>⟨rfl,rfl,rfl⟩) (fun c h=>by rw[hpend]at h;cases h),hp.1 hpend⟩
 ·obtain⟨c',hc'⟩:=Option.ne_none_iff_exists'.1 hpend
  obtain⟨e',l',H',hs',hq⟩:=hp.2 c' hc'
  exact⟨e',l',H',a6Q hex hc hgo hr hnb (fun h=>absurd h hpend) (fun c h=>by
   rw[hc']at h
   obtain rfl:=da h
   exact hs'),hq⟩
def rO:Ex→Option Code
 | .normal=>none
 | .ret=>some .ret
 | .exit id=>some (.exit id)
theorem mT{L:Nat}{args:List Value}{K:Value→Heap→Prop}{r:Loop}(hg:iR H L=some (.loop r))(hn:r.params.size=args.length)(hst:r.state=.ready)
 (h:Wp P r.assign ((r.params.toList.zip args).foldl (fun t(p,v)=>t.set p v) r.tmps.toList) H fun e l1 H1=>e=.normal∧∃r1,iR H1 L=some (.loop r1)∧r1.state=.ready∧
   Wp P r.body l1 (hset H1 L (.loop {r1 with state:=.busy})) fun e _ H2=>∃r2,iR H2 L=some (.loop r2)∧
    K (.bool (rO e).isNone) (hset H2 L (.loop {r2 with state:=if(rO e).isNone then .ready else .done,pending:=rO e}))):
 qY P (.func (.yield L) #[] #[]) args H K:=by
 classical
 obtain⟨e1,l1,H1,hs1,rfl,r1,hg1,hst1,e2,l2,H2,hs2,r2,hg2,hk⟩:=h
 refine⟨_,_,?_,hk⟩
 let sl:=(r.params.toList.zip args).foldl (fun t(p,v)=>t.set p v) r.tmps.toList
 let Hb:=hset H1 L (.loop {r1 with state:=.busy})
 let ex:Run:=fun c' l' H'=>if c'=r.assign∧l'=sl∧H'=H then some (.normal,l1,H1)else if c'=r.body∧l'=l1∧H'=Hb then some (e2,l2,H2)else none
 have hex:∀c l H e l' H',ex c l H=some (e,l',H')→Sim P c l H e l' H':=by
  intro c' l' H' e' l3 H3 hh
  simp only[ex]at hh
  split at hh
  ·rename_i h1
   obtain⟨rfl,rfl,rfl⟩:=h1
   injection hh with hh
   injection hh with h1 hh
   injection hh with h2 h3
   subst h1 h2 h3
   exact hs1
  ·split at hh
   ·rename_i h1
    obtain⟨rfl,rfl,rfl⟩:=h1
    injection hh with hh
    injection hh with h1 hh
    injection hh with h2 h3
    subst h1 h2 h3
    exact hs2
   ·cases hh
 have hbH:¬Hb=H:=by
  intro hh
  have h1:iR Hb L=some (.loop {r1 with state:=.busy}):=iW _ (jI hg1)
  rw[hh,hg]at h1
  injection h1 with h1
  injection h1 with h1
  have h2:r.state=.busy:=by rw[h1]
  rw[hst]at h2
  cases h2
 have hc:a2m ex L args H=some (.bool (rO e2).isNone,hset H2 L (.loop {r2 with state:=if(rO e2).isNone then .ready else .done,pending:=rO e2})):=by
  unfold a2m
  rw[hg]
  simp only
  rw[if_pos ⟨hn,hst⟩]
  have h1:ex r.assign sl H=some (.normal,l1,H1):=by simp[ex]
  have h2:ex r.body l1 Hb=some (e2,l2,H2):=by
   simp only[ex]
   rw[if_neg (fun hh=>hbH hh.2.2),if_pos ⟨trivial,trivial,trivial⟩]
  rw[show ex r.assign ((r.params.toList.zip args).foldl (fun t(p,v)=>t.set p v) r.tmps.toList) H=some (.normal,l1,H1)from h1]
  simp only[hg1]
  rw[if_pos hst1]
  rw[show ex r.body l1 (hset H1 L (.loop {r1 with state:=.busy}))=some (e2,l2,H2)from h2]
  simp only[hg2]
  cases e2<;>rfl
 exact fun ρ w p args' k hr hp ha=>b3V hex hc hr hp ha k
structure Lp(P:Program)(B:Base)(L:Nat)(r:Loop)(H:Heap)(os:List Ob):Prop where
 st:St P B H os
 get:iR H L=some (.loop r)
 lo:B.H.length≤L
 ne:∀o∈os,kJ o.v≠some L
theorem b3t{H:Heap}{A:Nat}{b c:Blk}(h:iR H A=some c):iR (hset H A b) A=some b:=iW b (jI h)
theorem Lp.enter{os:List Ob}(hS:St P B H os)(r:Loop):Lp P B H.length r (H.cons (.loop r)) os where
 st:=by
  have h1:St P H (H.cons (.loop r)) []:=⟨by rw[pJ];exact Nat.le_succ _,fun B hB _=>jS _ hB,by simp,by simp,.nil⟩
  simpa using hS.trans h1
 get:=iS H _
 lo:=hS.len
 ne o ho hb:=by
  have:=(hS.own o ho).lt hb
  omega
theorem Lp.ext{L:Nat}{r:Loop}{H2:Heap}{os os2:List Ob}(h:Lp P B L r H os)(h2:St P H H2 os2):Lp P B L r H2 (os++os2) where
 st:=h.st.trans h2
 get:=by rw[h2.ae L (jI h.get)];exact h.get
 lo:=h.lo
 ne o ho hb:=by
  rcases dH.1 ho with ho|ho
  ·exact h.ne o ho hb
  ·have hl:=jI h.get
   rcases h2.new o ho L hb with h3|h3
   ·have h3:H.length≤L:=h3
    omega
   ·exact h3
theorem Lp.sub{L:Nat}{r:Loop}{os os':List Ob}(h:Lp P B L r H os)(hs:os'.Sublist os):Lp P B L r H os':=⟨h.st.sub hs,h.get,h.lo,fun o ho=>h.ne o (hs.subset ho)⟩
theorem Lp.set{L:Nat}{r:Loop}{os:List Ob}(h:Lp P B L r H os)(hX:¬B.X L)(r':Loop):Lp P B L r' (hset H L (.loop r')) os where
 st:=by
  refine⟨by rw[jE];exact h.st.len,?_,?_,h.st.new,h.st.sep⟩
  ·intro A hA hXA
   rw[iP _ (by have:=h.lo;omega)]
   exact h.st.old A hA hXA
  ·intro o ho
   exact(h.st.own o ho).ae fun A hA=>iP _ (fun hh=>h.ne o ho (by rw[hA,hh]))
 get:=b3t h.get
 lo:=h.lo
 ne:=h.ne
theorem Lp.body{L:Nat}{r:Loop}{H2:Heap}{os os2:List Ob}(h:Lp P B L r H os)(h2:St P ⟨H,pX os⟩ H2 os2):Lp P B L r H2 os2 where
 st:=h.st.bD h2
 get:=by rw[h2.other (jI h.get) h.ne];exact h.get
 lo:=h.lo
 ne o ho hb:=by
  have hl:=jI h.get
  rcases h2.new o ho L hb with h3|⟨o',ho',hb'⟩
  ·have h3:H.length≤L:=h3
   omega
  ·exact h.ne o' ho' hb'
end
end Go.Ds
namespace Go.Ds
noncomputable section
variable {P:Program} {H:Heap}
def SWr(P:Program):Code→List Value→Heap→nN→Prop
 | .skip,l,H,Q=>Q .normal l H
 | .label _,l,H,Q=>Q .normal l H
 | .exit id,l,H,Q=>Q (.exit id) l H
 | .ret,l,H,Q=>Q .ret l H
 | .seq a b,l,H,Q=>SWr P a l H fun e l1 H1=>match e with|.normal=>SWr P b l1 H1 Q|e=>Q e l1 H1
 | .block id b,l,H,Q=>SWr P b l H fun e l1 H1=>Q (e.out id) l1 H1
 | .cond (.tmp t) x y,l,H,Q=>rB (get l t) (SWr P x l H Q) (SWr P y l H Q)
 | .region _ ops false,l,H,Q=>rD P ops ops.toList l H fun l H=>Q .normal l H
 | c,l,H,Q=>Wp P c l H Q
theorem a1Q{v:Value}{p q p' q':Prop}(h:rB v p q)(h1:p→p')(h2:q→q'):rB v p' q':=by
 unfold rB at h ⊢
 split at h
 ·rename_i c
  cases c
  ·simpa using h2 (by simpa using h)
  ·simpa using h1 (by simpa using h)
 ·exact h.elim
theorem b5i{o:Oper}{l:List Value}{K K':Value→Heap→Prop}(hk:∀v H1,K v H1→K' v H1)(h:lW P o l H K):lW P o l H K':=by
 obtain⟨h2,h3⟩:=h
 refine⟨h2,?_⟩
 have bw:∀r,jZ r K→jZ r K':=fun r hr=>by
  cases r with
  | none=>exact hr
  | some r=>exact hk _ _ hr
 split at h3
 ·exact hk _ _ h3
 ·exact hk _ _ h3
 ·split at h3
  ·unfold qY at h3 ⊢
   split at h3
   ·obtain⟨v,H1,a,b,c⟩:=h3;exact⟨v,H1,a,b,hk _ _ c⟩
   ·obtain⟨v,H1,a,b⟩:=h3;exact⟨v,H1,a,hk _ _ b⟩
   ·exact h3
  ·exact bw _ h3
 ·exact bw _ h3
theorem a0l{ops:Array Oper}{K K':List Value→Heap→Prop}(hk:∀l H,K l H→K' l H):∀(os:List Oper)(l:List Value)(H:Heap),rD P ops os l H K→rD P ops os l H K'
 | [],l,H,h=>hk _ _ h
 | o::os,l,H,h=>by
   unfold rD at h ⊢
   split
   ·rename_i hw
    rw[if_pos hw]at h
    exact b5i (fun v H1 h=>a0l hk os _ _ h) h
   ·rename_i hw
    rw[if_neg hw]at h
    exact a0l hk os _ _ h
theorem SWr.wp:∀(c:Code){l:List Value}{H:Heap}{Q:nN},SWr P c l H Q→Wp P c l H Q:=by
 intro c
 induction c with
 | skip=>intro l H Q h;exact .skip h
 | label t=>intro l H Q h;exact .label h
 | exit id=>intro l H Q h;exact .exit h
 | ret=>intro l H Q h;exact .ret h
 | seq a b iha ihb=>
   intro l H Q h
   refine .seq ((iha h).mono ?_)
   intro e l1 H1 h1
   cases e with
   | normal=>exact ihb h1
   | exit i=>exact h1
   | ret=>exact h1
 | block id b ih=>intro l H Q h;exact .block (ih h)
 | cond c x y ihx ihy=>
   intro l H Q h
   cases c with
   | tmp t=>exact Wp.cC (a1Q h ihx ihy)
   | _=>exact h
 | region id ops d=>
   intro l H Q h
   cases d with
   | true=>exact h
   | false=>exact .region h
 | _=>intro l H Q h;exact h
def SW(P:Program)(c:Code)(l:List Value)(H:Heap)(Q:nN)(_k1:Keep c:=⟨⟩)(_k2:Keep Q:=⟨⟩):Prop:=SWr P c l H Q
theorem SW.wp{c:Code}{l:List Value}{Q:nN}(h:SW P c l H Q):Wp P c l H Q:=SWr.wp c h
theorem b4L{c:Code}{l l':List Value}{Q:nN}(h:l=l'):SW P c l H Q=SW P c l' H Q:=by rw[h]
attribute [congr] b4L
def b8Y(P:Program)(b:Code)(Q:nN):nN:=fun e l1 H1=>match e with|.normal=>SWr P b l1 H1 Q|e=>Q e l1 H1
theorem a7M(b:Code)(Q:nN)(l:List Value):b8Y P b Q .normal l H=SW P b l H Q:=rfl
theorem b1X(b:Code)(Q:nN)(i:Nat)(l:List Value):b8Y P b Q (.exit i) l H=Q (.exit i) l H:=rfl
theorem b5n(b:Code)(Q:nN)(l:List Value):b8Y P b Q .ret l H=Q .ret l H:=rfl
theorem b7X(l:List Value)(Q:nN):SW P .skip l H Q=Q .normal l H:=rfl
theorem b4s(t:Nat)(l:List Value)(Q:nN):SW P (.label t) l H Q=Q .normal l H:=rfl
theorem b8W(id:Nat)(l:List Value)(Q:nN):SW P (.exit id) l H Q=Q (.exit id) l H:=rfl
theorem c1j(l:List Value)(Q:nN):SW P .ret l H Q=Q .ret l H:=rfl
theorem c1I(a b:Code)(l:List Value)(Q:nN):SW P (.seq a b) l H Q=SW P a l H (b8Y P b Q):=rfl
theorem b6m(id:Nat)(b:Code)(l:List Value)(Q:nN):SW P (.block id b) l H Q=SW P b l H (zP id Q):=rfl
theorem b8m(t:Nat)(x y:Code)(l:List Value)(Q:nN):SW P (.cond (.tmp t) x y) l H Q=rB (get l t) (SW P x l H Q) (SW P y l H Q):=rfl
theorem c1e(id:Nat)(os:List Oper)(l:List Value)(Q:nN):SW P (.region id os.toArray false) l H Q=rD P os.toArray os l H fun l H=>Q .normal l H:=rfl
theorem b7v(id:Nat)(ops:Array Oper)(l:List Value)(Q:nN):SW P (.region id ops true) l H Q=Wp P (.region id ops true) l H Q:=rfl
theorem b7t(c:Code)(l:List Value)(Q:nN):SW P (.loop c) l H Q=Wp P (.loop c) l H Q:=rfl
theorem b6j(g:Operand)(ps:Array Tmp)(a b:Code)(l:List Value)(Q:nN):SW P (.rangeFunc g ps a b) l H Q=Wp P (.rangeFunc g ps a b) l H Q:=rfl
theorem Wp.aq{c:Code}{Q:nN}(I:Nat→List Value→Heap→Prop){l:List Value}(n:Nat)(h:I n l H)(step:∀n l H,I n l H→SW P c l H (a2I I n Q)):Wp P (.loop c) l H Q:=Wp.cD I n h fun n l H hI=>(step n l H hI).wp
theorem Fn.aY{k:FuncId}{fn:Func}{c:Code}{args:List Value}{R:Value→Heap→Prop}(hf:P.funcs[k]? =some fn)(hb:fn.body=some c)(hn:(fn.name== "runtime.NumGoroutine")=false)
 (h:∀l,l=args++List.replicate (fn.ntmps-args.length) undef→SW P c l H (xP P fn R)):Fn P k args H R:=Fn.of_wp hf hb hn fun l hl=>(h l hl).wp
theorem FnS.aY{k:FuncId}{fn:Func}{c:Code}{args:List Value}{R:Value→Heap→Prop}(hf:P.funcs[k]? =some fn)(hb:fn.body=some c)(hn:(fn.name== "runtime.NumGoroutine")=false)
 (h:∀l,l=args++List.replicate (fn.ntmps-args.length) undef→SW P c l H (xP P fn R)):FnS P k args H R:=FnS.of_wp hf hb hn fun l hl=>(h l hl).wp
theorem Fn.cT{k:FuncId}{fn:Func}{c:Code}{R:Value→Heap→Prop}(hf:P.funcs[k]? =some fn)(hb:fn.body=some c)(hn:(fn.name== "runtime.NumGoroutine")=false){m:Nat}(hm:0+(fn.ntmps-0)=m)(h:∀l,l.length=m→SW P c l H (xP P fn R)):Fn P k [] H R:=Fn.aY hf hb hn fun l hl=>h l (by rw[hl,dr,eN];exact hm)
theorem Fn.aW{k:FuncId}{fn:Func}{c:Code}{a0:Value}{R:Value→Heap→Prop}(hf:P.funcs[k]? =some fn)(hb:fn.body=some c)(hn:(fn.name== "runtime.NumGoroutine")=false){m:Nat}(hm:1+(fn.ntmps-1)=m)(h:∀l,l.length=m→get l 0=a0→SW P c l H (xP P fn R)):Fn P k [a0] H R:=Fn.aY hf hb hn fun l hl=>h l (by rw[hl,dr,eN];exact hm) (by rw[hl];rfl)
theorem Fn.aD{k:FuncId}{fn:Func}{c:Code}{a0 a1:Value}{R:Value→Heap→Prop}(hf:P.funcs[k]? =some fn)(hb:fn.body=some c)(hn:(fn.name== "runtime.NumGoroutine")=false){m:Nat}(hm:2+(fn.ntmps-2)=m)(h:∀l,l.length=m→get l 0=a0→get l 1=a1→SW P c l H (xP P fn R)):Fn P k [a0,a1] H R:=Fn.aY hf hb hn fun l hl=>h l (by rw[hl,dr,eN];exact hm) (by rw[hl];rfl) (by rw[hl];rfl)
theorem Fn.bU{k:FuncId}{fn:Func}{c:Code}{a0 a1 a2:Value}{R:Value→Heap→Prop}(hf:P.funcs[k]? =some fn)(hb:fn.body=some c)(hn:(fn.name== "runtime.NumGoroutine")=false){m:Nat}(hm:3+(fn.ntmps-3)=m)(h:∀l,l.length=m→get l 0=a0→get l 1=a1→get l 2=a2→SW P c l H (xP P fn R)):Fn P k [a0,a1,a2] H R:=Fn.aY hf hb hn fun l hl=>h l (by rw[hl,dr,eN];exact hm) (by rw[hl];rfl) (by rw[hl];rfl) (by rw[hl];rfl)
theorem Fn.cU{k:FuncId}{fn:Func}{c:Code}{a0 a1 a2 a3:Value}{R:Value→Heap→Prop}(hf:P.funcs[k]? =some fn)(hb:fn.body=some c)(hn:(fn.name== "runtime.NumGoroutine")=false){m:Nat}(hm:4+(fn.ntmps-4)=m)(h:∀l,l.length=m→get l 0=a0→get l 1=a1→get l 2=a2→get l 3=a3→SW P c l H (xP P fn R)):Fn P k [a0,a1,a2,a3] H R:=Fn.aY hf hb hn fun l hl=>h l (by rw[hl,dr,eN];exact hm) (by rw[hl];rfl) (by rw[hl];rfl) (by rw[hl];rfl) (by rw[hl];rfl)
theorem Fn.cV{k:FuncId}{fn:Func}{c:Code}{a0 a1 a2 a3 a4 a5:Value}{R:Value→Heap→Prop}(hf:P.funcs[k]? =some fn)(hb:fn.body=some c)(hn:(fn.name== "runtime.NumGoroutine")=false){m:Nat}(hm:6+(fn.ntmps-6)=m)(h:∀l,l.length=m→get l 0=a0→get l 1=a1→get l 2=a2→get l 3=a3→get l 4=a4→get l 5=a5→SW P c l H (xP P fn R)):Fn P k [a0,a1,a2,a3,a4,a5] H R:=Fn.aY hf hb hn fun l hl=>h l (by rw[hl,dr,eN];exact hm) (by rw[hl];rfl) (by rw[hl];rfl) (by rw[hl];rfl) (by rw[hl];rfl) (by rw[hl];rfl) (by rw[hl];rfl)
theorem St.cF{B:Base}{os:List Ob}{k:FuncId}{args:List Value}{v:Value}{K:Value→Heap→Prop}(hS:St P B H os)(h:Fn P k args H fun r H1=>r=v∧St P H H1 [])(hk:∀H1,St P B H1 os→K v H1):wY P k args H K:=iK h fun r H1⟨e,hT⟩=>by
 subst e
 have h1:=hS.trans hT
 rw[dm]at h1
 exact hk H1 h1
end
end Go.Ds
namespace Go.Ds
noncomputable section
variable {P:Program} {H0:Base} {H:Heap} {α:Type} {n:Nat} {cel:α→List Value} {v:Value} {xs:List α}
def iD[Inhabited α](xs:List α)(j:Nat):α:=xs.getD j default
theorem jP[Inhabited α](xs:List α)(j:Nat)(hj:j<xs.length):iD xs j=xs[j]:=by simp[iD,dh,hj]
theorem iG[Inhabited α]{xs:List α}{j:Nat}(hj:j<xs.length):iD xs j∈xs:=by rw[jP xs j hj];exact gN _
theorem pK{β:Type}[Inhabited α][Inhabited β](f:α→β){xs:List α}{j:Nat}(hj:j<xs.length):iD (xs.map f) j=f (iD xs j):=by
 rw[jP _ _ (by simpa using hj),jP _ _ hj];simp
theorem pM[Inhabited α](xs:List α)(j:Nat)(hj:j<xs.length):xs.take (j+1)=xs.take j++[iD xs j]:=by
 rw[jP _ _ hj,List.take_succ_eq_append_getElem hj]
theorem yT[Inhabited α](xs:List α)(j:Nat)(hj:j<xs.length):xs.drop j=iD xs j::xs.drop (j+1):=by
 rw[jP _ _ hj,eU hj]
theorem iI(hc:∀x,(cel x).length=n):∀xs:List α,(xs.flatMap cel).length=xs.length*n
 | []=>by simp
 | x::xs=>by simp[dM,hc x,iI hc xs,gL,Nat.add_comm]
theorem sN(hc:∀x,(cel x).length=n):∀(xs:List α)(j:Nat),(xs.flatMap cel).drop (j*n)=(xs.drop j).flatMap cel
 | [],j=>by simp
 | x::xs,0=>by simp
 | x::xs,j+1=>by
   rw[dM,List.drop_succ_cons,←sN hc xs j,gL,Nat.add_comm,←fC]
   congr 1
   rw[←hc x,List.drop_left]
theorem a2L(hc:∀x,(cel x).length=n):∀(xs:List α)(j:Nat),(xs.flatMap cel).take (j*n)=(xs.take j).flatMap cel
 | [],j=>by simp
 | x::xs,0=>by simp
 | x::xs,j+1=>by
   rw[dM,List.take_succ_cons,dM,←a2L hc xs j,gL,Nat.add_comm]
   have:=List.take_length_add_append (l₁:=cel x) (l₂:=xs.flatMap cel) (j*n)
   rw[hc x]at this
   exact this
theorem a4n[Inhabited α](hc:∀x,(cel x).length=n)(xs:List α)(j f:Nat)(hj:j<xs.length)(hf:f<n):(xs.flatMap cel)[j*n+f]? =(cel (iD xs j))[f]?:=by
 have h1:(xs.flatMap cel)[j*n+f]? =((xs.flatMap cel).drop (j*n))[f]?:=by rw[dI]
 rw[h1,sN hc,yT xs j hj,dM,eJ (by rw[hc];exact hf)]
theorem a3R[Inhabited α](hc:∀x,(cel x).length=n)(xs:List α)(j f m:Nat)(hj:j<xs.length)(hf:f+m≤n):((xs.flatMap cel).drop (j*n+f)).take m=((cel (iD xs j)).drop f).take m:=by
 rw[←fC,sN hc,yT xs j hj,dM,List.drop_append_of_le_length (by rw[hc];omega),List.take_append_of_le_length (by simp[hc];omega)]
theorem vS[Inhabited α](hc:∀x,(cel x).length=n):∀(xs:List α)(j f:Nat)(vs:List Value)(y:α),j<xs.length→f+vs.length≤n→cel y=iZ (cel (iD xs j)) f vs→iZ (xs.flatMap cel) (j*n+f) vs=(xs.set j y).flatMap cel
 | [],j,f,vs,y,hj,_,_=>by simp at hj
 | x::xs,0,f,vs,y,_,hf,hy=>by
   have key:∀(vs:List Value)(l m:List Value)(f:Nat),f+vs.length≤l.length→iZ (l++m) f vs=iZ l f vs++m:=by
    intro vs
    induction vs with
    | nil=>intro l m f _;rfl
    | cons w vs ih=>
      intro l m f h
      simp only[eo]at h
      rw[kW,kW,List.set_append_left _ _ (by omega),ih _ _ _ (by simp;omega)]
   simp only[dM,fw,Nat.zero_mul,fh]
   rw[key _ _ _ _ (by rw[hc];exact hf),hy]
   rfl
 | x::xs,j+1,f,vs,y,hj,hf,hy=>by
   simp only[dM,gX]
   have e:(j+1)*n+f=(cel x).length+(j*n+f):=by rw[hc,gL];omega
   rw[e,oK,vS hc xs j f vs y (by simpa using hj) hf hy]
structure Sl(n:Nat)(cel:α→List Value)(H:Heap)(v:Value)(xs:List α):Prop where
 rd:RdAt H v n (xs.flatMap cel)
 hc:∀x,(cel x).length=n
 pos:0<n
theorem Sl.len(h:Sl n cel H v xs)(m:Nat)(t:TypeId):a7i (some m) P H t v=some (.int .i64 xs.length):=by
 obtain⟨k,rfl⟩:∃k,n=k+1:=⟨n-1,by have:=h.pos;omega⟩
 exact h.rd.len (iI h.hc xs) m t
theorem Sl.idx(h:Sl n cel H v xs)(t:TypeId)(k:IntKind)(j:Int)(h0:0≤j)(h1:j<xs.length):a1s (some n) P t v (.int k j)=some (jR v n j.toNat 0):=by
 obtain⟨k,rfl⟩:∃k,n=k+1:=⟨n-1,by have:=h.pos;omega⟩
 exact h.rd.idx (iI h.hc xs) t _ j h0 h1
theorem c0H{j m n:Nat}(hj:j<m)(hn:0<n):j*n<m*n:=Nat.mul_lt_mul_of_pos_right hj hn
theorem wT{j f m n:Nat}(hj:j<m)(hf:f≤n):j*n+f≤m*n:=by
 have:=dP n hj
 rw[gL]at this
 omega
theorem Sl.bd(h:Sl n cel H v xs)(j:Nat)(hj:j<xs.length)(g d:Nat):a6n (some d) (jR v n j g)=some (jR v n j (g+d)):=by
 obtain⟨k,rfl⟩:∃k,n=k+1:=⟨n-1,by have:=h.pos;omega⟩
 exact h.rd.bd j (by rw[iI h.hc];exact c0H hj (fL _)) g d
theorem Sl.ld[Inhabited α](h:Sl n cel H v xs)(s:Option Nat)(j f:Nat)(hj:j<xs.length)(hf:f<n):pA (some false) s H (jR v n j f)=(cel (iD xs j))[f]?:=by
 rw[h.rd.ld s j f (by rw[iI h.hc];exact dQ (Nat.add_lt_add_left hf _) (wT hj (dj _))),a4n h.hc xs j f hj hf]
theorem Sl.aj[Inhabited α](h:Sl n cel H v xs)(j:Nat)(hj:j<xs.length):pA (some true) (some n) H (jR v n j 0)=some (.agg (cel (iD xs j)).toArray):=by
 rw[h.rd.aj n j 0 (by rw[iI h.hc];exact wT hj (dj _)) h.pos,a3R h.hc xs j 0 n hj (by omega)]
 rw[im,List.take_of_length_le (by rw[h.hc];exact dj _)]
theorem Sl.cN[Inhabited α](h:Sl n cel H v xs)(m j f:Nat)(hj:j<xs.length)(hf:f+m≤n)(hm:0<m):pA (some true) (some m) H (jR v n j f)=some (.agg (((cel (iD xs j)).drop f).take m).toArray):=by
 rw[h.rd.aj m j f (by rw[iI h.hc,gg];exact wT hj hf) hm,a3R h.hc xs j f m hj hf]
theorem Sl.cells(h:Sl n cel H v xs):v.cells=#[v]∧oneCell v=true∧oG v=true:=h.rd.cells
theorem St.sl{H0:Heap}{os:List Ob}(hS:St P H0 H os)(h:Sl n cel H0 v xs):Sl n cel H v xs:=⟨hS.base h.rd,h.hc,h.pos⟩
theorem Sl.ae{H':Heap}(h:Sl n cel H v xs)(hk:∀B,B<H.length→iR H' B=iR H B):Sl n cel H' v xs:=⟨h.rd.ae hk,h.hc,h.pos⟩
theorem St.av{os:List Ob}(hS:St P H0 H os)(i:Nat){m:Nat}(ho:os[i]? =some ⟨v,m+1,xs.flatMap cel⟩)(hc:∀x,(cel x).length=m+1):Sl (m+1) cel H v xs:=⟨hS.rd i ho,hc,fL _⟩
def one(f:α→Value):α→List Value:=fun x=>[f x]
theorem rJ(f:α→Value)(x:α):(one f x).length=1:=rfl
end
end Go.Ds
namespace Go.Ds
open Go.RowKit
section
variable {P:Program} {ρ:Rho} {H:Heap} {w:World}
structure InW(P:Program)(ρ:Rho)(H:Heap)(w:World):Prop where
 rel:HRel P ρ H w
 shut:Shut ρ H
structure ExtW(ρ:Rho)(H:Heap)(ρ':Rho)(H':Heap):Prop where
 le:ρ.Le ρ'
 len:H.length≤H'.length
 old:∀B,B<H.length→iR H' B=iR H B
theorem ExtW.refl(ρ:Rho)(H:Heap):ExtW ρ H ρ H:=⟨.refl ρ,dj _,fun _ _=>rfl⟩
theorem ExtW.trans{ρ' ρ'':Rho}{H' H'':Heap}(h:ExtW ρ H ρ' H')(k:ExtW ρ' H' ρ'' H''):ExtW ρ H ρ'' H'':=
 ⟨h.le.trans k.le,dL h.len k.len,fun B hB=>by rw[k.old B (dQ hB h.len),h.old B hB]⟩
theorem InW.none(w:World):InW P (fun _ _=>Option.none) .nil w:=⟨.none w,.none⟩
theorem InW.row(h:InW P ρ H w)(p:Place){cur:Array Value}{t':TypeId}{fr:Nat×Nat}(hb:w.heap[p.b]? =some (.cells cur t' fr)){ty:TypeId}(hty:iF P ty=some p.k)(hsz:cur.size=p.sz)(cs:List Value)(ver:Nat)
 (hver:ver=1→p.b=H.length∧p.d=0) (hfit:(cs.length:Int)+p.d≤p.sz) (hcell:∀i c,i<cs.length→0≤(i:Int)+p.d→cs[i]? =some c→∃c',cur[p.at i]? =some c'∧C1 (ρ.put H.length cs.length p) c c'):
 InW P (ρ.put H.length cs.length p) (H.cons (.cells cs ty false 0 ver)) w∧ExtW ρ H (ρ.put H.length cs.length p) (H.cons (.cells cs ty false 0 ver)):=by
 have hno:∀f,ρ H.length f=Option.none:=fun f=>by
  cases hh:ρ H.length f with
  | none=>rfl
  | some q=>exact absurd (h.rel.dom _ _ _ hh).1 (eR _)
 have hle:ρ.Le (ρ.put H.length cs.length p):=.put (hno _)
 have hold:∀A f q,(ρ.put H.length cs.length p) A f=some q→(A=H.length∧f=cs.length∧q=p)∨(A<H.length∧ρ A f=some q):=fun A f q hq=>by
  by_cases hh:A=H.length∧f=cs.length
  ·obtain⟨rfl,rfl⟩:=hh;rw[Rho.ak]at hq;exact .inl ⟨rfl,rfl,(da hq).symm⟩
  ·rw[Rho.aQ hh]at hq;exact .inr ⟨(h.rel.dom _ _ _ hq).1,hq⟩
 have hgo:∀A,A<H.length→iR (H.cons (.cells cs ty false 0 ver)) A=iR H A:=fun A hA=>jS _ hA
 have hnew:∀A b,iR (H.cons (.cells cs ty false 0 ver)) A=some b→(A=H.length∧b=.cells cs ty false 0 ver)∨(A<H.length∧iR H A=some b):=fun A b hg=>by
  have hA:A<(H.cons (.cells cs ty false 0 ver)).length:=jI hg
  rw[length_cons]at hA
  by_cases he:A=H.length
  ·subst he;rw[iS]at hg;exact .inl ⟨rfl,(da hg).symm⟩
  ·rw[hgo A (by omega)]at hg;exact .inr ⟨by omega,hg⟩
 have hrw:∀A f q b,(ρ.put H.length cs.length p) A f=some q→iR (H.cons (.cells cs ty false 0 ver)) A=some b→b.wr=true→False:=fun A f q b hq hg hw=>by
  rcases hnew A b hg with⟨rfl,rfl⟩|⟨hA,hg⟩
  ·cases hw
  ·rcases hold A f q hq with⟨rfl,_⟩|⟨_,hq⟩
   ·exact absurd hA (eR _)
   ·exact h.shut q.b ⟨A,f,q,b,hq,rfl,hg,hw⟩
 refine⟨⟨⟨?_,?_,?_,?_,?_,?_,?_,?_⟩,?_⟩,hle,by rw[length_cons];omega,hgo⟩
 ·intro A f q hq
  rw[length_cons]
  rcases hold A f q hq with⟨rfl,rfl,rfl⟩|⟨hA,hq⟩
  ·exact⟨by omega,mJ hb⟩
  ·exact⟨by omega,(h.rel.dom _ _ _ hq).2⟩
 ·intro A cs' ty' rw' lo ver' hg
  rcases hnew A _ hg with⟨rfl,he⟩|⟨hA,hg⟩
  ·cases he
   refine⟨⟨p,Rho.ak ..⟩,fun e q hq=> ?_⟩
   rcases hold _ e q hq with⟨_,rfl,rfl⟩|⟨hA,_⟩
   ·exact⟨dj _,hty,hfit,cur,t',fr,hb,hsz,(fun hh=>by cases hh),fun _=>hcell⟩
   ·exact absurd hA (eR _)
  ·obtain⟨⟨q,hq⟩,hall⟩:=h.rel.cells _ _ _ _ _ _ hg
   refine⟨⟨q,hle _ _ _ hq⟩,fun e q hq=> ?_⟩
   rcases hold _ e q hq with⟨rfl,_,_⟩|⟨_,hq⟩
   ·exact absurd hA (eR _)
   ·exact(hall e q hq).world hle rfl
 ·intro A es ck ver' hg
  rcases hnew A _ hg with⟨rfl,he⟩|⟨hA,hg⟩
  ·cases he
  ·obtain⟨q,es',hq,hw,hall⟩:=h.rel.map _ _ _ _ hg
   exact⟨q,es',hle _ _ _ hq,hw,hall.mono fun _ _ x=>x.mono hle⟩
 ·intro A r hg
  rcases hnew A _ hg with⟨rfl,he⟩|⟨hA,hg⟩
  ·cases he
  ·obtain⟨q,r',hq,hw,hall⟩:=h.rel.loop _ _ hg
   exact⟨q,r',hle _ _ _ hq,hw,hall.mono hle⟩
 ·intro A f q b hq hg
  rcases hnew A b hg with⟨rfl,rfl⟩|⟨hA,hg⟩
  ·exact .inl rfl
  ·rcases hold A f q hq with⟨rfl,_⟩|⟨_,hq⟩
   ·exact absurd hA (eR _)
   ·exact h.rel.one _ _ _ _ hq hg
 ·intro A f q A2 f2 q2 b hq _ _ hg hw
  exact absurd hw fun hw=>(hrw A f q b hq hg hw).elim
 ·intro A hA
  rw[length_cons]at hA
  by_cases he:A=H.length
  ·subst he;rw[iS];rfl
  ·rw[hgo A (by omega)];exact h.rel.full A (by omega)
 ·intro A cs' ty' lo hg
  rcases hnew A _ hg with⟨rfl,he⟩|⟨hA,hg⟩
  ·cases he
   exact⟨p,Rho.ak ..,hver rfl⟩
  ·obtain⟨q,h1,h2,h3⟩:=h.rel.glob _ _ _ _ hg
   exact⟨q,hle _ _ _ h1,h2,h3⟩
 ·rintro b⟨A,f,q,kJ,hq,_,hg,hw⟩
  exact hrw A f q kJ hq hg hw
theorem b3G{a:Addr}{i:Nat}{v:Value}(h:w.cell? (a.add i)=some v):∃cur t fr,w.heap[a.block]? =some (.cells cur t fr)∧(i=0→a.spot=Option.none)∧cur[a.off+i]? =some v:=by
 obtain⟨b,off,spot⟩:=a
 have hb:((⟨b,off,spot⟩:Addr).add i).block=b:=by unfold Addr.add;split<;>rfl
 have ho:((⟨b,off,spot⟩:Addr).add i).off=off+i:=by unfold Addr.add;split<;>simp_all
 unfold World.cell? at h
 rw[hb,ho]at h
 split at h
 ·rename_i cur t fr hcur
  split at h
  ·cases h
  ·rename_i hn
   refine⟨cur,t,fr,hcur,fun h0=> ?_,h⟩
   subst h0
   cases spot with
   | none=>rfl
   | some s=>exact absurd rfl hn
 ·cases h
theorem InW.slice(h:InW P ρ H w){b0:Nat}{cur0:Array Value}{t0:TypeId}{fr0:Nat×Nat}(hb0:w.heap[b0]? =some (.cells cur0 t0 fr0)){ty:TypeId}{size:Nat}(hty:iF P ty=some size)(hs:0<size){a:Addr}{len cap:Nat}(hl:len≤cap)
 (hall:∀i,i<cap*size→(w.cell? (a.add i)).isSome=true) (cs:List Value) (hcs:cs.length=len*size) (hval:∀i c,cs[i]? =some c→∃c',w.cell? (a.add i)=some c'∧C1 ρ c c'):
 ∃ρ' H' v,InW P ρ' H' w∧ExtW ρ H ρ' H'∧C1 ρ' v (.slice (some a) len cap)∧RdAt H' v size cs:=by
 have hne:∀(q:Place)f,ρ.Le (ρ.put H.length f q):=fun q f=>.put (by
  cases hh:ρ H.length f with
  | none=>rfl
  | some q=>exact absurd (h.rel.dom _ _ _ hh).1 (eR _))
 by_cases hc:cap=0
 ·subst hc
  obtain rfl:len=0:=by omega
  obtain rfl:cs=[]:=by simpa using hcs
  obtain⟨h1,h2⟩:=h.row ⟨b0,0,cur0.size,size⟩ hb0 (ty:=ty) hty rfl [] 0 (fun hh=>by cases hh) (by simp) (fun i c hi=>by simp at hi)
  refine⟨_,_,.slice (some ⟨H.length,0,some 0⟩) 0 size,h1,h2,.c0 ?_,.inr ⟨_,_,_,_,_,false,0,0,0,iS H _,dj _,eX _,by simp,by simp,by simp,rfl⟩⟩
  exact C0.slice (p:=⟨b0,0,cur0.size,size⟩) (n:=0) (c':=0) (Rho.ak ..) (by simp) (by simp) ⟨dj _,by simp⟩ (.inr ⟨rfl,rfl⟩)
 ·have hpos:0<cap*size:=hP (by omega) hs
  obtain⟨v0,hv0⟩:=eV.1 (hall 0 hpos)
  obtain⟨cur,t,fr,hcur,hsp,_⟩:=b3G hv0
  have hsp:=hsp rfl
  obtain⟨b,off,spot⟩:=a
  simp only at hsp hcur
  subst hsp
  have iR:∀i c',w.cell? ((⟨b,off,Option.none⟩:Addr).add i)=some c'→cur[off+i]? =some c':=fun i c' hi=>by
   obtain⟨cur',_,_,hh,_,hx⟩:=b3G hi
   simp only at hh hx
   rw[hcur]at hh
   cases hh
   exact hx
  have hsz:off+cap*size≤cur.size:=by
   obtain⟨v,hv⟩:=eV.1 (hall (cap*size-1) (by omega))
   have:=(dp.1 (iR _ _ hv)).1
   omega
  have hlc:len*size≤cap*size:=dP _ hl
  obtain⟨h1,h2⟩:=h.row ⟨b,off,cur.size,size⟩ hcur (ty:=ty) hty rfl cs 0 (fun hh=>by cases hh) (by simp only[hcs];omega) (fun i c hi h0 hc=>by
   obtain⟨c',h3,h4⟩:=hval i c hc
   exact⟨c',by have:=iR _ _ h3;rw[show(⟨b,off,cur.size,size⟩:Place).at i=off+i from by simp only[Place.at];omega];exact this,h4.mono (hne _ _)⟩)
  refine⟨_,_,.slice (some ⟨H.length,0,some cs.length⟩) len size,h1,h2,.c0 ?_,.inr ⟨_,_,_,_,_,false,0,0,len,iS H _,eX _,dj _,by omega,by simp,hcs,rfl⟩⟩
  exact C0.slice (p:=⟨b,off,cur.size,size⟩) (n:=len) (c':=cap) (Rho.ak ..) (by simp) (by simp only;omega) ⟨hl,by simp only;omega⟩ (.inl ⟨by simp[Place.at],by simp[Place.at];exact hsz⟩)
theorem InW.each{α:Type}[Inhabited α](h:InW P ρ H w){n:Nat}{Q:Nat→Rho→Heap→α→Prop}(hQ:∀i ρ H x ρ' H',Q i ρ H x→ExtW ρ H ρ' H'→Q i ρ' H' x)
 (hi:∀i,i<n→∀ρ1 H1,InW P ρ1 H1 w→ExtW ρ H ρ1 H1→∃ρ' H' x,InW P ρ' H' w∧ExtW ρ1 H1 ρ' H'∧Q i ρ' H' x):∃ρ' H' xs,InW P ρ' H' w∧ExtW ρ H ρ' H'∧xs.length=n∧∀i,i<n→Q i ρ' H' (iD xs i):=by
 induction n with
 | zero=>exact⟨ρ,H,[],h,.refl _ _,rfl,fun i hi=>absurd hi (dJ _)⟩
 | succ n ih=>
   obtain⟨ρ1,H1,xs,h1,e1,hl,hq⟩:=ih fun i hi'=>hi i (by omega)
   obtain⟨ρ2,H2,x,h2,e2,hx⟩:=hi n (by omega) ρ1 H1 h1 e1
   refine⟨ρ2,H2,xs++[x],h2,e1.trans e2,by simp[hl],fun i hin=> ?_⟩
   by_cases he:i=n
   ·subst he
    rw[jP _ _ (by simp;omega),List.getElem_append_right (by omega)]
    simpa [hl]using hx
   ·have:iD (xs++[x]) i=iD xs i:=by rw[jP _ _ (by simp;omega),jP _ _ (by omega),List.getElem_append_left (by omega)]
    rw[this]
    exact hQ _ _ _ _ _ _ (hq i (by omega)) e2
end
end Go.Ds
namespace Go.Ds
noncomputable section
inductive Pth where
 | z
 | l (p:Pth)
 | r (p:Pth)
inductive Fr where
 | e
 | n (v:Value) (l r:Fr)
def a5H:Nat→Nat→Pth:=fun f=>Nat.rec (motive:=fun _=>Nat→Pth) (fun _=>.z) (fun _ ih k=>Nat.rec (motive:=fun _=>Pth) .z (fun k _=>Bool.rec (motive:=fun _=>Pth) (.r (ih (Nat.div k 2))) (.l (ih (Nat.div k 2))) (Nat.beq (Nat.mod k 2) 0)) k) f
def kS(k:Nat):Pth:=a5H k k
def oB(p:Pth):Fr→Value:=Pth.rec (motive:=fun _=>Fr→Value)
 (fun f=>Fr.rec (motive:=fun _=>Value) undef (fun v _ _ _ _=>v) f)
 (fun _ ih f=>Fr.rec (motive:=fun _=>Value) undef (fun _ l _ _ _=>ih l) f)
 (fun _ ih f=>Fr.rec (motive:=fun _=>Value) undef (fun _ _ r _ _=>ih r) f) p
def pW{α:Type}(v:Value)(p:Pth):Fr→(Fr→α)→α:=Pth.rec (motive:=fun _=>Fr→(Fr→α)→α)
 (fun f K=>Fr.rec (motive:=fun _=>α) (K (.n v .e .e)) (fun _ l r _ _=>K (.n v l r)) f)
 (fun _ ih f K=>Fr.rec (motive:=fun _=>α) (ih .e fun l=>K (.n undef l .e)) (fun w l r _ _=>ih l fun l=>K (.n w l r)) f)
 (fun _ ih f K=>Fr.rec (motive:=fun _=>α) (ih .e fun r=>K (.n undef .e r)) (fun w l r _ _=>ih r fun r=>K (.n w l r)) f) p
def lQ{α:Type}(p:Pth):(Pth→α)→α:=Pth.rec (motive:=fun _=>(Pth→α)→α) (fun K=>K .z) (fun _ ih K=>ih fun p=>K (.l p)) (fun _ ih K=>ih fun p=>K (.r p)) p
inductive LArg where
 | t (p:Pth)
 | c (v:Value)
def mP(f:Fr)(x:LArg):Value:=LArg.rec (motive:=fun _=>Value) (fun p=>oB p f) (fun v=>v) x
inductive Rs where
 | no
 | ok (v:Value) (H:Heap)
 | th (v:Value) (H:Heap)
def oJ{α:Type}(v:Value)(K:Value→α):α:=
 match v with
 | .bool b=>K (.bool b)
 | .int k n=>K (.int k n)
 | .string s=>K (.string s)
 | .pointer a=>K (.pointer a)
 | .slice a n c=>K (.slice a n c)
 | .map r=>K (.map r)
 | .func fn a b=>K (.func fn a b)
 | .agg cs=>K (.agg cs)
 | .tuple vs=>K (.tuple vs)
 | v=>K v
inductive LOp where
 | bad
 | mv (x:LArg)
 | pick (c a b:LArg)
 | bin (g:IntKind→Int→Int→Option Value) (x y:LArg)
 | not (x:LArg)
 | ld1 (x:LArg)
 | ldn (n:Nat) (x:LArg)
 | st (n:Nat) (x y:LArg)
 | fa (off:Nat) (x:LArg)
 | ixs (size:Nat) (x i:LArg)
 | ixa (n size:Nat) (x i:LArg)
 | ext (i:Nat) (x:LArg)
 | f1 (off:Nat) (x:LArg)
 | fn (off n:Nat) (x:LArg)
 | len (x:LArg)
 | slen (x:LArg)
 | app (elem size bytes:Nat) (x y:LArg)
 | alloc (t:TypeId) (cs:List Value)
 | callF (f:FuncId) (p:Pth) (args:List LArg)
 | callV (g:LArg) (args:List LArg)
 | gen (o:Oper)
inductive LOps where
 | nil
 | cons (d:Option Pth) (o:LOp) (rest:LOps)
 | gcons (p:Pth) (w:Bool) (d:Option Pth) (o:LOp) (rest:LOps)
inductive LCode where
 | bad
 | skip
 | reg (ops:LOps)
 | drw (ops:LOps) (tab:List (Nat×Option Nat×Option (Pth×Bool)×LOp))
 | seq (a b:LCode)
 | cond (c:LArg) (x y:LCode)
 | block (id:Nat) (b:LCode)
 | loop (b:LCode)
 | exit (id:Nat)
 | ret
 | range (g:LArg) (ps:List Pth) (pp:List Pth) (params:Array Tmp) (assign body:Code) (a b:LCode)
inductive LRes where
 | t (p:Pth)
 | c1 (p:Pth)
 | cn (n:Nat) (p:Pth)
structure LFunc where
 ps:List Pth
 body:LCode
 res:List LRes
inductive LT where
 | e
 | n (g:Option LFunc) (l r:LT)
def a1X(p:Pth):LT→Option LFunc:=Pth.rec (motive:=fun _=>LT→Option LFunc)
 (fun f=>LT.rec (motive:=fun _=>Option LFunc) none (fun v _ _ _ _=>v) f)
 (fun _ ih f=>LT.rec (motive:=fun _=>Option LFunc) none (fun _ l _ _ _=>ih l) f)
 (fun _ ih f=>LT.rec (motive:=fun _=>Option LFunc) none (fun _ _ r _ _=>ih r) f) p
def sC{α:Type}(v:LFunc)(p:Pth):LT→(LT→α)→α:=Pth.rec (motive:=fun _=>LT→(LT→α)→α)
 (fun f K=>LT.rec (motive:=fun _=>α) (K (.n (some v) .e .e)) (fun _ l r _ _=>K (.n (some v) l r)) f)
 (fun _ ih f K=>LT.rec (motive:=fun _=>α) (ih .e fun l=>K (.n none l .e)) (fun w l r _ _=>ih l fun l=>K (.n w l r)) f)
 (fun _ ih f K=>LT.rec (motive:=fun _=>α) (ih .e fun r=>K (.n none .e r)) (fun w l r _ _=>ih r fun r=>K (.n w l r)) f) p
structure LEnv where
 L:Nat
 ps:List Pth
 pp:List Pth
 a:LCode
 b:LCode
def b9d(P:Program)(o:Oper)(ρ:Operand→Value)(H:Heap):Option (Value×Heap):=
 if o.op.operands.toList.all (fun x=>flat (ρ x))then
  match iQ P (execOp ρ o)with
  | some (.value v)=>if flat v then some (v,H)else none
  | _=>none
 else none
def c1Y(P:Program)(o:Oper)(ρ:Operand→Value)(H:Heap):Option (Value×Heap):=
 let keep (v:Option Value):Option (Value×Heap):=v.map fun v=>(v,H)
 let plain:Option (Value×Heap):=b9d P o ρ H
 match o.op with
 | .move x|.assign x=>some (ρ x,H)
 | .pick c a b=>match ρ c with|.bool t=>some (if t then ρ a else ρ b,H)|_=>none
 | .alloc t=>(jA P t).bind fun z=>if jD z then qV P H t z else none
 | .box t x=>wS P H t (ρ x)
 | .build t parts=>
   let ps:=parts.toList.map fun(i,x)=>(i,ρ x)
   if(jA P t).any jD&&ps.all (fun x=>x.2.cells.toList.all oneCell)then
    (P.built t ps).map fun cs=>(.agg cs,H)
   else none
 | .buildSlice t len parts=>
   (iJ P t).bind fun elem=>(iF P elem).bind fun size=>(jA P elem).bind fun z=>
   let ps:=parts.toList.map fun(i,x)=>(i,ρ x)
   if len==0&&ps.isEmpty&&size !=0 then some (.slice (some ⟨H.length,0,some 0⟩) 0 size,rR H elem [])else
   if jD z&&ps.all (fun x=>x.2.cells.toList.all oneCell)&&len*size≤2^24&&len*size !=0&&z.cells.size==size then
    (Instr.fill (fun i=>some (i*size,size)) ((Array.range (len*size)).map (z.cells[·%z.cells.size]!)) ps).map fun cs=>
      (.slice (some ⟨H.length,0,some cs.toList.length⟩) len size,rR H elem cs.toList)
   else none
 | .makeSlice t n c=>
   (iJ P t).bind fun elem=>(iF P elem).bind fun size=>(nP P elem).bind fun bytes=>(jA P elem).bind fun z=>
   match ρ n,ρ c with
   | .int .i64 a,.int .i64 b=>
     if jD z&&decide (a≤b)&&0≤a&&b*(bytes+1)≤(oX:Int)&&size !=0&&z.cells.size==size then
      let cs:=if size=1 then List.replicate b.toNat (z.cells[0]!)else(madeCells z.cells (b.toNat*size)).toList
      some (.slice (some ⟨H.length,0,some cs.length⟩) a.toNat size,rR H elem cs)
     else none
   | _,_=>none
 | .load t a=>keep (lP P H t (ρ a))
 | .store t a x=>(qT P H t (ρ a) (ρ x)).map fun H=>(undef,H)
 | .nilCheck x=>match ρ x with
   | .pointer (some a)=>some (.pointer (some a),H)
   | .func (.func f) a b=>some (.func (.func f) a b,H)
   | _=>none
 | .fieldAddr s x f=>match ρ x with
   | .pointer (some ⟨A,i,some e⟩)=>(oO P s f).bind fun fd=>(iF P fd.type).bind fun n=>if n==0 then none else some (.pointer (some ⟨A,i+fd.offset,some e⟩),H)
   | _=>none
 | .indexAddr t x ix=>match P.underlying t,ρ x,ρ ix with
   | some (.slice elem),.slice (some ⟨A,i,some e⟩) n _,.int _ j=>(iF P elem).bind fun size=>
     if 0≤j&&j<n then some (.pointer (some ⟨A,i+j.toNat*size,some e⟩),H)else none
   | some (.array n elem),.pointer (some ⟨A,i,some e⟩),.int _ j=>(iF P elem).bind fun size=>
     if 0≤j&&j<n then some (.pointer (some ⟨A,i+j.toNat*size,some e⟩),H)else none
   | some (.array n elem),.pointer (some ⟨A,i,none⟩),.int _ j=>(iF P elem).bind fun size=>
     if 0≤j&&j<n then some (.pointer (some ⟨A,i+j.toNat*size,none⟩),H)else none
   | _,_,_=>none
 | .slice t x lo hi none=>if flat (ρ x)then plain else match jM P t with
   | some (n,elem)=>keep (a5f P H n elem (ρ x) (lo.map ρ) (hi.map ρ))
   | none=>keep (xB P t (ρ x) (lo.map ρ) (hi.map ρ))
 | .field t x f=>if flat (ρ x)then plain else
   match ρ x with
   | .agg cs=>(oO P t f).bind fun fd=>match jQ P fd.type with
     | some true=>(iF P fd.type).map fun n=>(.agg (cs.extract fd.offset (fd.offset+n)),H)
     | some false=>(cs[fd.offset]?).map fun v=>(v,H)
     | none=>none
   | _=>none
 | .extract t i=>match ρ t with
   | .tuple vs=>(vs[i]?).map fun v=>(v,H)
   | _=>none
 | .makeFunc fn first captured=>match fn with
   | .func f=>if(first++captured).toList.all (fun x=>oG (ρ x))then some (.func (.func f) (first.map ρ) (captured.map ρ),H)else none
   | _=>none
 | .binOp op t x y _=>match op,ρ x,ρ y with
   | .eql,.slice (some _) _ _,.slice none 0 0=>if((P.underlying t).map vO)==some true then some (.bool false,H)else none
   | .neq,.slice (some _) _ _,.slice none 0 0=>if((P.underlying t).map vO)==some true then some (.bool true,H)else none
   | op,.int k a,.int k' b=>if k=k' then(match mR op k a b with|some v=>some (v,H)|none=>plain)else plain
   | .eql,.pointer (some _),.pointer none=>if tP P t then some (.bool false,H)else none
   | .neq,.pointer (some _),.pointer none=>if tP P t then some (.bool true,H)else none
   | .eql,.pointer (some ⟨A,i,some e⟩),.pointer (some ⟨A',i',some e'⟩)=>if tP P t&&A==A'&&i==i'&&e==e' then some (.bool true,H)else none
   | .neq,.pointer (some ⟨A,i,some e⟩),.pointer (some ⟨A',i',some e'⟩)=>if tP P t&&A==A'&&i==i'&&e==e' then some (.bool false,H)else none
   | _,_,_=>plain
 | .call c=>match c.callee with
   | .builtin .len=>if c.args.size==1&&c.argTypes.size==1 then
      match (P.underlying (c.argTypes.getD 0 0)),ρ (c.args.getD 0 (.tmp 0))with
      | some (.slice _),.slice a n k=>keep (xD H (.slice a n k))
      | some .string,.string s=>keep (xD H (.string s))
      | some (.map _ _),.map r=>keep (xD H (.map r))
      | _,_=>none
     else none
   | .builtin .append=>if c.args.size==2&&c.argTypes.size==2&&((P.underlying (c.argTypes.getD 1 0)).map pY)==some true then
      nO P H (c.argTypes.getD 0 0) (ρ (c.args.getD 0 (.tmp 0))) (ρ (c.args.getD 1 (.tmp 0)))
     else none
   | .builtin .copy=>if c.args.size==2&&c.argTypes.size==2 then a1k P H (c.argTypes.getD 0 0) (ρ (c.args.getD 0 (.tmp 0))) (ρ (c.args.getD 1 (.tmp 0)))else none
   | .builtin .clear=>if c.args.size==1&&c.argTypes.size==1 then sQ P H (c.argTypes.getD 0 0) (ρ (c.args.getD 0 (.tmp 0)))else none
   | .builtin .cap=>plain
   | .builtin .unsafeSliceData=>if c.args.size==1&&c.argTypes.size==1 then match ρ (c.args.getD 0 (.tmp 0))with
      | .slice (some a) n _=>if n==0 then none else some (.pointer (some a),H)
      | _=>none
     else none
   | .builtin .unsafeString=>if c.args.size==2&&c.argTypes.size==2 then vT P H (c.argTypes.getD 0 0) (ρ (c.args.getD 0 (.tmp 0))) (ρ (c.args.getD 1 (.tmp 0)))else none
   | .builtin .max=>plain
   | .builtin .min=>plain
   | _=>none
 | .unOp op _ x=>match op,ρ x with
   | .not,.bool b=>some (.bool (!b),H)
   | _,_=>plain
 | .makeMap t r=>pS P H t (r.map ρ)
 | .lookup t x k c=>keep (pL P H t (ρ x) (ρ k) c)
 | .mapUpdate t m k v=>(a0V P H t (ρ m) (ρ k) (ρ v)).map fun H=>(undef,H)
 | .mapEntry t m k=>tB P H t (ρ m) (ρ k)
 | .entryStore _ m b v=>(rQ H (ρ m) (ρ b) (ρ v)).map fun H=>(undef,H)
 | .convert s t x=>if flat (ρ x)&& !(lF P t)then plain else match ρ x with
   | .slice (some ⟨A,i,some e⟩) n _=>if lF P s&&oW P t then keep ((jF H A i e n).bind fun l=>(nG l).map .string)else none
   | .string b=>if lF P t&&oW P s&&b.size≤2^40 then(iJ P t).bind fun elem=>some (.slice (some ⟨H.length,0,some b.size⟩) b.size 1,b6v H elem (b.data.toList.map fun c=>.int .u8 c.toNat))else none
   | .pointer (some ⟨A,0,some e⟩)=>if a3T P H s t A e then some (.pointer (some ⟨A,0,some e⟩),H)else none
   | _=>none
 | .index _ _ _=>plain
 | .makeInterface _ _=>plain
 | _=>none
def nX{α:Type}(b:Bool)(no:α)(x:α):α:=Bool.rec (motive:=fun _=>α) no x b
def a7l{α:Type}(cs:List α):Nat→Bool:=List.rec (motive:=fun _=>Nat→Bool) (fun e=>Nat.beq e 0) (fun _ _ ih e=>Nat.rec (motive:=fun _=>Bool) true (fun m _=>ih m) e) cs
def a4p{α:Type}(cs:List α):Nat→Bool:=List.rec (motive:=fun _=>Nat→Bool) (fun e=>Nat.beq e 0) (fun _ _ ih e=>Nat.rec (motive:=fun _=>Bool) false (fun m _=>ih m) e) cs
def a0S{α:Type}(cs:List α):Nat→Option α:=List.rec (motive:=fun _=>Nat→Option α) (fun _=>none) (fun v _ ih e=>Nat.rec (motive:=fun _=>Option α) (some v) (fun m _=>ih m) e) cs
def a2r{α:Type}(cs:List α):Nat→(List α→Rs)→Rs:=List.rec (motive:=fun _=>Nat→(List α→Rs)→Rs) (fun n K=>Nat.rec (motive:=fun _=>Rs) (K []) (fun _ _=>.no) n) (fun v _ ih n K=>Nat.rec (motive:=fun _=>Rs) (K []) (fun m _=>ih m fun l=>K (v::l)) n) cs
def b0Y{α:Type}(cs:List α):Nat→List α:=List.rec (motive:=fun _=>Nat→List α) (fun _=>[]) (fun v t ih n=>Nat.rec (motive:=fun _=>List α) (v::t) (fun m _=>ih m) n) cs
def kIx(k:IntKind):Nat:=IntKind.rec (motive:=fun _=>Nat) 0 1 2 3 4 5 6 7 k
def hMv(x:LArg)(f:Fr)(H:Heap):Rs:=oJ (mP f x) fun v=>.ok v H
def b3E(c a b:LArg)(f:Fr)(H:Heap):Rs:=match mP f c with
 | .bool t=>oJ (mP f (Bool.rec (motive:=fun _=>LArg) b a t)) fun v=>.ok v H
 | _=>.no
def oV(v:Option Value)(H:Heap):Rs:=Option.rec (motive:=fun _=>Rs) .no (fun v=>.th v H) v
def b9N(g:IntKind→Int→Int→Option Value)(k:IntKind)(a:Int)(H:Heap)(y:Value):Rs:=match y with
 | .int k' b=>nX (Nat.beq (kIx k) (kIx k')) .no (oV (g k a b) H)
 | _=>.no
def c0B(g:IntKind→Int→Int→Option Value)(x y:LArg)(f:Fr)(H:Heap):Rs:=match mP f x with
 | .int k a=>b9N g k a H (mP f y)
 | _=>.no
def c5U(x:LArg)(f:Fr)(H:Heap):Rs:=match mP f x with
 | .bool b=>.ok (.bool (Bool.rec (motive:=fun _=>Bool) true false b)) H
 | _=>.no
def b9j(b:Option Blk)(i e:Nat)(H:Heap):Rs:=match b with
 | some (.cells cs _ _ lo _)=>nX (Nat.ble lo e) .no (nX (a7l cs e) .no (nX (Nat.ble (Nat.succ i) e) .no (Option.rec (motive:=fun _=>Rs) .no (fun v=>oJ v fun v=>.ok v H) (a0S cs i))))
 | _=>.no
def c2g(b:Option Blk)(i:Nat)(H:Heap):Rs:=match b with
 | some (.cells cs _ false lo 1)=>nX (a7l cs lo) .no (Option.rec (motive:=fun _=>Rs) .no (fun v=>oJ v fun v=>.ok v H) (a0S cs i))
 | _=>.no
def b1s(x:LArg)(f:Fr)(H:Heap):Rs:=match mP f x with
 | .pointer (some ⟨A,i,some e⟩)=>b9j (iR H A) i e H
 | .pointer (some ⟨A,i,none⟩)=>c2g (iR H A) i H
 | _=>.no
def b8x(b:Option Blk)(n i e:Nat)(H:Heap):Rs:=match b with
 | some (.cells cs _ _ lo _)=>nX (Nat.ble lo e) .no (nX (a7l cs e) .no (nX (Nat.ble (Nat.add i n) e) .no (a2r (b0Y cs i) n fun l=>.ok (.agg ⟨l⟩) H)))
 | _=>.no
def b3o(n:Nat)(x:LArg)(f:Fr)(H:Heap):Rs:=match mP f x with
 | .pointer (some ⟨A,i,some e⟩)=>b8x (iR H A) n i e H
 | _=>.no
def stB(b:Option Blk)(n A i e:Nat)(vs:List Value)(H:Heap):Rs:=match b with
 | some (.cells cs ty true lo ver)=>nX (a4p vs n) .no (nX (vs.all oneCell) .no (nX (a4p cs e) .no (nX (Nat.ble (Nat.add i n) e) .no (nX (Nat.ble lo e) .no
    (.th undef (hset H A (.cells (iZ cs i vs) ty true e ver)))))))
 | _=>.no
def hSt(n:Nat)(x y:LArg)(f:Fr)(H:Heap):Rs:=match mP f x with
 | .pointer (some ⟨A,i,some e⟩)=>stB (iR H A) n A i e (mP f y).cells.toList H
 | _=>.no
def hFa(off:Nat)(x:LArg)(f:Fr)(H:Heap):Rs:=match mP f x with
 | .pointer (some ⟨A,i,some e⟩)=>kF (Nat.add i off) fun i=>.ok (.pointer (some ⟨A,i,some e⟩)) H
 | _=>.no
def ixP(A i e size n:Nat)(H:Heap)(j:Value):Rs:=match j with
 | .int _ (.ofNat j)=>nX (Nat.blt j n) .no (kF (Nat.add i (Nat.mul j size)) fun i=>.ok (.pointer (some ⟨A,i,some e⟩)) H)
 | _=>.no
def c1N(size:Nat)(x i:LArg)(f:Fr)(H:Heap):Rs:=match mP f x with
 | .slice (some ⟨A,a,some e⟩) n _=>ixP A a e size n H (mP f i)
 | _=>.no
def ixG(A i size n:Nat)(H:Heap)(j:Value):Rs:=match j with
 | .int _ (.ofNat j)=>nX (Nat.blt j n) .no (kF (Nat.add i (Nat.mul j size)) fun i=>.ok (.pointer (some ⟨A,i,none⟩)) H)
 | _=>.no
def c0i(n size:Nat)(x i:LArg)(f:Fr)(H:Heap):Rs:=match mP f x with
 | .pointer (some ⟨A,a,some e⟩)=>ixP A a e size n H (mP f i)
 | .pointer (some ⟨A,a,none⟩)=>ixG A a size n H (mP f i)
 | _=>.no
def okV(v:Option Value)(H:Heap):Rs:=Option.rec (motive:=fun _=>Rs) .no (fun v=>oJ v fun v=>.ok v H) v
def c1V(i:Nat)(x:LArg)(f:Fr)(H:Heap):Rs:=match mP f x with
 | .tuple ⟨vs⟩=>okV (a0S vs i) H
 | _=>.no
def hF1(off:Nat)(x:LArg)(f:Fr)(H:Heap):Rs:=match mP f x with
 | .agg ⟨cs⟩=>okV (a0S cs off) H
 | _=>.no
def hFn(off n:Nat)(x:LArg)(f:Fr)(H:Heap):Rs:=match mP f x with
 | .agg ⟨cs⟩=>a2r (b0Y cs off) n fun l=>.ok (.agg ⟨l⟩) H
 | _=>.no
def c1C(x:LArg)(f:Fr)(H:Heap):Rs:=match mP f x with
 | .slice _ n _=>.th (goInt n) H
 | _=>.no
def b4g(x:LArg)(f:Fr)(H:Heap):Rs:=match mP f x with
 | .string s=>.th (goInt s.size) H
 | _=>.no
def c3G(b:Option Blk)(elem size bytes A i e k:Nat)(n:Nat)(l:List Value)(P:Program)(H:Heap):Rs:=match b with
 | some (.cells cs ty true lo ver)=>nX (Bool.rec (motive:=fun _=>Bool) (iF P ty==some size) true (Nat.beq ty elem)) .no (nX (a4p cs e) .no (nX (Nat.ble lo e) .no
    (nX (Nat.beq (Nat.add i (Nat.mul k size)) e)
      (nX (Nat.beq n 0) (nX (Nat.ble (Nat.add i (Nat.mul (Nat.add k n) size)) e) .no (.th (.slice (some ⟨A,i,some e⟩) (k+n) size) (hset H A (.cells (iZ cs (i+k*size) l) ty true e ver)))) .no)
      (nX (Nat.ble (Nat.mul (Nat.add k n) (Nat.succ bytes)) oX) .no (.th (.slice (some ⟨A,i,some (e+l.length)⟩) (k+n) size) (hset H A (.cells (a4Q cs l) ty true lo (Bool.rec (motive:=fun _=>Nat) 2 ver (Nat.beq ty elem)))))))))
 | _=>.no
def c4j(P:Program)(elem size bytes:Nat)(s:Value)(H:Heap)(n:Nat)(l:List Value):Rs:=match s with
 | .slice none k c=>nX (Nat.beq k 0) .no (nX (Nat.beq c 0) .no (nX (Nat.ble (Nat.mul n (Nat.succ bytes)) oX) .no (nX (Nat.beq n 0) (.th (.slice (some ⟨H.length,0,some l.length⟩) n size) (rR H elem l)) (.ok (.slice none 0 0) H))))
 | .slice (some ⟨A,i,some e⟩) k _=>c3G (iR H A) elem size bytes A i e k n l P H
 | _=>.no
def c2h(P:Program)(elem size bytes:Nat)(x y:LArg)(f:Fr)(H:Heap):Rs:=match a0g H size (mP f y)with
 | some (n,l)=>c4j P elem size bytes (mP f x) H n l
 | none=>.no
def c0j(t:TypeId)(cs:List Value)(_:Fr)(H:Heap):Rs:=.th (.pointer (some ⟨H.length,0,some cs.length⟩)) (rR H t cs)
def evF(f:Fr):Operand→Value
 | .tmp t=>oB (kS t) f
 | .const v=>v
 | .global g=>.pointer (some ⟨g,0,none⟩)
 | .func k=>.func (.func k) #[] #[]
def c5S(P:Program)(o:Oper)(f:Fr)(H:Heap):Rs:=match c1Y P o (evF f) H with
 | some (v,H1)=>.th v H1
 | none=>.no
def a3V{α:Type}(f:Fr)(l:List LArg):(List Value→α)→α:=List.rec (motive:=fun _=>(List Value→α)→α) (fun K=>K []) (fun x _ ih K=>oJ (mP f x) fun v=>ih fun l=>K (v::l)) l
structure Calls' where
 fn:Pth→FuncId→List Value→Heap→Rs
 rd:Nat→List Value→Heap→Rs
def c1U(C:Calls')(k:FuncId)(p:Pth)(args:List LArg)(f:Fr)(H:Heap):Rs:=a3V f args fun l=>C.fn p k l H
def a8m(C:Calls')(l:List Value)(H:Heap)(g:Value):Rs:=match g with
 | .func (.func k) ⟨a⟩ ⟨b⟩=>kF k fun k=>lQ (kS k) fun p=>C.fn p k (a4Q a (a4Q l b)) H
 | .func (.yield L) _ _=>C.rd L l H
 | _=>.no
def c2d(C:Calls')(g:LArg)(args:List LArg)(f:Fr)(H:Heap):Rs:=a3V f args fun l=>a8m C l H (mP f g)
def c5R(_:Fr)(_:Heap):Rs:=.no
def opF(P:Program)(C:Calls')(o:LOp):Fr→Heap→Rs:=
 LOp.rec (motive:=fun _=>Fr→Heap→Rs) c5R hMv b3E c0B c5U b1s b3o hSt hFa c1N c0i c1V hF1 hFn c1C b4g (c2h P) c0j (c1U C) (c2d C) (c5S P) o
inductive Rf where
 | no
 | ok (f:Fr) (H:Heap)
def uK{α:Type}(d:Option Pth)(v:Value)(f:Fr)(K:Fr→α):α:=Option.rec (motive:=fun _=>α) (K f) (fun p=>pW v p f K) d
def b0S{α:Type}(no:α)(d:Option Pth)(f:Fr)(K:Fr→Heap→α)(r:Rs):α:=
 Rs.rec (motive:=fun _=>α) no (fun v H=>uK d v f fun f=>K f H) (fun v H=>xS v fun v=>nW H fun H=>uK d v f fun f=>K f H) r
def isB(v:Value)(w:Bool):Bool:=match v with
 | .bool b=>Bool.rec (motive:=fun _=>Bool) (Bool.rec (motive:=fun _=>Bool) true false w) w b
 | _=>false
def yJ(P:Program)(C:Calls')(ops:LOps):Fr→Heap→Rf:=LOps.rec (motive:=fun _=>Fr→Heap→Rf)
 (fun f H=>.ok f H)
 (fun d o _ ih f H=>b0S .no d f ih (opF P C o f H))
 (fun p w d o _ ih f H=>nX (isB (oB p f) w) (uK d undef f fun f=>ih f H) (b0S .no d f ih (opF P C o f H))) ops
inductive Rt where
 | no
 | ok (tr:List (Fr×Heap×Value)) (f:Fr) (H:Heap)
def b0D(tr:List (Fr×Heap×Value))(f0:Fr)(H0:Heap)(d:Option Pth)(K:List (Fr×Heap×Value)→Fr→Heap→Rt)(r:Rs):Rt:=
 Rs.rec (motive:=fun _=>Rt) .no (fun v H=>uK d v f0 fun f=>K ((f0,H0,v)::tr) f H) (fun v H=>xS v fun v=>nW H fun H=>uK d v f0 fun f=>K ((f0,H0,v)::tr) f H) r
def rM(P:Program)(C:Calls')(ops:LOps):List (Fr×Heap×Value)→Fr→Heap→Rt:=LOps.rec (motive:=fun _=>List (Fr×Heap×Value)→Fr→Heap→Rt)
 (fun tr f H=>.ok tr f H)
 (fun d o _ ih tr f H=>b0D tr f H d ih (opF P C o f H))
 (fun p w d o _ ih tr f H=>nX (isB (oB p f) w) (uK d undef f fun f1=>ih ((f,H,undef)::tr) f1 H) (b0D tr f H d ih (opF P C o f H))) ops
def b7M(v:Value)(r:Rs):Bool:=Rs.rec (motive:=fun _=>Bool) false (fun w _=>veq w v) (fun w _=>veq w v) r
def b4i(f:Fr)(g:Option (Pth×Bool)):Bool:=match g with
 | none=>true
 | some (p,w)=>isB (oB p f) w
def b5t(P:Program)(C:Calls')(tr:List (Fr×Heap×Value))(H1:Heap)(x:Nat×Option Nat×Option (Pth×Bool)×LOp):Bool:=
 match a0S tr x.1 with
 | some (f,_,v)=>nX (b4i f x.2.2.1) true (match x.2.1 with
   | none=>b7M v (opF P C x.2.2.2 f H1)
   | some m=>match a0S tr m with
     | some (_,H,_)=>b7M v (opF P C x.2.2.2 f H)
     | none=>false)
 | none=>false
def b3N{α:Type}(p:α→Bool)(l:List α):Bool:=List.rec (motive:=fun _=>Bool) true (fun x _ ih=>nX (p x) false ih) l
inductive Rc where
 | no
 | ok (e:Ex) (f:Fr) (H:Heap)
def c2A(r:Rf):Rc:=Rf.rec (motive:=fun _=>Rc) .no (fun f H=>.ok .normal f H) r
def b9V(P:Program)(C:Calls')(tab:List (Nat×Option Nat×Option (Pth×Bool)×LOp))(r:Rt):Rc:=Rt.rec (motive:=fun _=>Rc) .no (fun tr f H=>nX (b3N (b5t P C tr H) tab) .no (.ok .normal f H)) r
def pC{α:Type}(no:α)(l:List Value):List Pth→Fr→(Fr→α)→α:=List.rec (motive:=fun _=>List Pth→Fr→(Fr→α)→α) (fun _ f K=>K f)
 (fun v _ ih ps f K=>List.rec (motive:=fun _=>α) no (fun p ps _=>pW v p f fun f=>ih ps f K) ps) l
def a3s(H:Heap)(f:Fr)(r:LRes):Rs:=LRes.rec (motive:=fun _=>Rs) (fun p=>oJ (oB p f) fun v=>.ok v H) (fun p=>b1s (.t p) f H) (fun n p=>b3o n (.t p) f H) r
def b5I(H:Heap)(f:Fr)(l:List LRes):(List Value→Rs)→Rs:=List.rec (motive:=fun _=>(List Value→Rs)→Rs) (fun K=>K []) (fun r _ ih K=>Rs.rec (motive:=fun _=>Rs) .no (fun v _=>ih fun l=>K (v::l)) (fun _ _=>.no) (a3s H f r)) l
def noT(v:Value):Bool:=match v with|.tuple _=>false|_=>true
def a5V(l:List LRes)(f:Fr)(H:Heap):Rs:=match l with
 | [r]=>a3s H f r
 | l=>b5I H f l fun vs=>nX (b3N noT vs) .no (.ok (.tuple ⟨vs⟩) H)
def c1S(l:List LRes)(r:Rc):Rs:=match r with
 | .ok .normal f H=>a5V l f H
 | .ok .ret f H=>a5V l f H
 | _=>.no
abbrev qH:=List LEnv→LCode→Fr→Heap→Rc
def c0C(P:Program)(k:FuncId)(args:List Value)(H:Heap):Rs:=match qF P k args H with
 | some (v,H1)=>.th v H1
 | none=>.no
def oM(T:LT)(ih:qH)(E:List LEnv)(p:Pth)(args:List Value)(H:Heap):Rs:=match a1X p T with
 | some g=>pC .no args g.ps .e fun f=>c1S g.res (ih E g.body f H)
 | none=>.no
def b4B(P:Program)(T:LT)(ih:qH)(E:List LEnv)(p:Pth)(k:FuncId)(args:List Value)(H:Heap):Rs:=match a1X p T with
 | some g=>pC .no args g.ps .e fun f=>c1S g.res (ih E g.body f H)
 | none=>c0C P k args H
def b5T(E:List LEnv)(L:Nat):Option LEnv:=List.rec (motive:=fun _=>Option LEnv) none (fun e _ ih=>nX (Nat.beq e.L L) ih (some e)) E
def c0d(e:Ex):Option Code:=match e with|.normal=>none|.ret=>some .ret|.exit id=>some (.exit id)
def a2v(L:Nat)(e:Ex)(H:Heap):Rs:=match iR H L with
 | some (.loop ⟨_,_,fn,tmps,ps,a,b,d⟩)=>match c0d e with
   | none=>.th (.bool true) (hset H L (.loop ⟨.ready,none,fn,tmps,ps,a,b,d⟩))
   | some c=>.th (.bool false) (hset H L (.loop ⟨.done,some c,fn,tmps,ps,a,b,d⟩))
 | _=>.no
def b2Y(L:Nat)(r:Rc):Rs:=match r with
 | .ok e _ H=>a2v L e H
 | .no=>.no
def zI(ih:qH)(E:List LEnv)(en:LEnv)(f:Fr)(H:Heap):Rs:=match iR H en.L with
 | some (.loop ⟨.ready,p,fn,tmps,ps,a,b,d⟩)=>nW (hset H en.L (.loop ⟨.busy,p,fn,tmps,ps,a,b,d⟩)) fun H=>b2Y en.L (ih E en.b f H)
 | _=>.no
def sU(ih:qH)(E:List LEnv)(en:LEnv)(r:Rc):Rs:=match r with
 | .ok .normal f H=>zI ih E en f H
 | _=>.no
def a9x(ih:qH)(E:List LEnv)(L:Nat)(args:List Value)(H:Heap):Rs:=match b5T E L with
 | some en=>match iR H L with
   | some (.loop ⟨.ready,_,_,⟨tmps⟩,ps,_,_,_⟩)=>nX (a4p args ps.size) .no (pC .no tmps en.ps .e fun f=>pC .no args en.pp f fun f=>sU ih E en (ih E en.a f H))
   | _=>.no
 | none=>.no
def zW(P:Program)(T:LT)(ih:qH)(E:List LEnv):Calls':=⟨b4B P T ih E,a9x ih E⟩
def c5P(_:Fr)(_:Heap):Rc:=.no
def c2I(f:Fr)(H:Heap):Rc:=.ok .normal f H
def c4U(P:Program)(T:LT)(ih:qH)(E:List LEnv)(ops:LOps)(f:Fr)(H:Heap):Rc:=c2A (yJ P (zW P T ih E) ops f H)
def c4Q(P:Program)(T:LT)(ih:qH)(E:List LEnv)(ops:LOps)(tab:List (Nat×Option Nat×Option (Pth×Bool)×LOp))(f:Fr)(H:Heap):Rc:=b9V P (zW P T ih E) tab (rM P (zW P T ih E) ops [] f H)
def b7u(ih:qH)(E:List LEnv)(b:LCode)(r:Rc):Rc:=match r with
 | .ok .normal f H=>ih E b f H
 | r=>r
def c5m(ih:qH)(E:List LEnv)(a b:LCode)(_ _:Fr→Heap→Rc)(f:Fr)(H:Heap):Rc:=b7u ih E b (ih E a f H)
def b4Y(ih:qH)(E:List LEnv)(c:LArg)(x y:LCode)(_ _:Fr→Heap→Rc)(f:Fr)(H:Heap):Rc:=match mP f c with
 | .bool t=>ih E (Bool.rec (motive:=fun _=>LCode) y x t) f H
 | _=>.no
def c2p(id:Nat)(r:Rc):Rc:=match r with
 | .ok (.exit i) f H=>.ok (Bool.rec (motive:=fun _=>Ex) (.exit i) .normal (Nat.beq i id)) f H
 | r=>r
def c0v(ih:qH)(E:List LEnv)(id:Nat)(b:LCode)(_:Fr→Heap→Rc)(f:Fr)(H:Heap):Rc:=c2p id (ih E b f H)
def c4w(ih:qH)(E:List LEnv)(b:LCode)(_:Fr→Heap→Rc)(f:Fr)(H:Heap):Rc:=b7u ih E (.loop b) (ih E b f H)
def c2P(id:Nat)(f:Fr)(H:Heap):Rc:=.ok (.exit id) f H
def c5p(f:Fr)(H:Heap):Rc:=.ok .ret f H
def frL{α:Type}(f:Fr)(ps:List Pth):(List Value→α)→α:=List.rec (motive:=fun _=>(List Value→α)→α) (fun K=>K []) (fun p _ ih K=>oJ (oB p f) fun v=>ih fun l=>K (v::l)) ps
def uG(L:Nat)(f:Fr)(H:Heap):Rc:=match iR H L with
 | some (.loop ⟨.ready,none,fn,tmps,ps,a,b,d⟩)=>nW (hset H L (.loop ⟨.exhausted,none,fn,tmps,ps,a,b,d⟩)) fun H=>.ok .normal f H
 | some (.loop ⟨.done,none,fn,tmps,ps,a,b,d⟩)=>nW (hset H L (.loop ⟨.exhausted,none,fn,tmps,ps,a,b,d⟩)) fun H=>.ok .normal f H
 | some (.loop ⟨.done,some .ret,fn,tmps,ps,a,b,d⟩)=>nW (hset H L (.loop ⟨.exhausted,some .ret,fn,tmps,ps,a,b,d⟩)) fun H=>.ok .ret f H
 | some (.loop ⟨.done,some (.exit id),fn,tmps,ps,a,b,d⟩)=>nW (hset H L (.loop ⟨.exhausted,some (.exit id),fn,tmps,ps,a,b,d⟩)) fun H=>.ok (.exit id) f H
 | _=>.no
def b2F(L:Nat)(f:Fr)(r:Rs):Rc:=match r with
 | .no=>.no
 | .ok _ H=>uG L f H
 | .th _ H=>nW H fun H=>uG L f H
def b1l(T:LT)(ih:qH)(E:List LEnv)(f:Fr)(L:Nat)(k:FuncId)(args:List Value)(H:Heap):Rc:=lQ (kS k) fun p=>b2F L f (oM T ih E p args H)
def a9b(T:LT)(ih:qH)(E:List LEnv)(g:LArg)(ps pp:List Pth)(params:Array Tmp)(assign body:Code)(a b:LCode)(_ _:Fr→Heap→Rc)(f:Fr)(H:Heap):Rc:=match mP f g with
 | .func (.func k) ⟨x⟩ ⟨y⟩=>kF H.length fun L=>frL f ps fun l=>nW (H.cons (.loop ⟨.ready,none,0,⟨l⟩,params,assign,body,0⟩)) fun H1=>
    kF k fun k=>b1l T ih (⟨L,ps,pp,a,b⟩::E) f L k (a4Q x (.func (.yield L) #[] #[]::y)) H1
 | _=>.no
def b1e(P:Program)(T:LT)(ih:qH)(E:List LEnv)(c:LCode):Fr→Heap→Rc:=
 LCode.rec (motive:=fun _=>Fr→Heap→Rc) c5P c2I (c4U P T ih E) (c4Q P T ih E) (c5m ih E) (b4Y ih E) (c0v ih E) (c4w ih E) c2P c5p (a9b T ih E) c
def exF(P:Program)(T:LT)(n:Nat):qH:=Nat.rec (motive:=fun _=>qH) (fun _ _ _ _=>.no) (fun _ ih=>b1e P T ih) n
section
variable {α:Type}
def lS(x:Operand)(K:LArg→α):α:=match x with
 | .tmp t=>lQ (kS t) fun p=>K (.t p)
 | .const v=>K (.c v)
 | .global g=>K (.c (.pointer (some ⟨g,0,none⟩)))
 | .func k=>K (.c (.func (.func k) #[] #[]))
def a4y(l:List Operand):(List LArg→α)→α:=List.rec (motive:=fun _=>(List LArg→α)→α) (fun K=>K []) (fun x _ ih K=>lS x fun x=>ih fun l=>K (x::l)) l
def a3c(o:Option Nat)(d:α)(K:Nat→α):α:=match o with
 | some n=>kF n K
 | none=>d
def c4X(k:IntKind)(a b:Int):Option Value:=some (.int k (wE k (b8B a b)))
def c4N(k:IntKind)(a b:Int):Option Value:=some (.int k (wE k (b7G a b)))
def c2z(a b:Int):Int:=match a,b with
 | .ofNat a,.ofNat b=>.ofNat (Nat.mul a b)
 | a,b=>a*b
def c3V(k:IntKind)(a b:Int):Option Value:=some (.int k (wE k (c2z a b)))
def c3a(a b:Int):Int:=match a,b with
 | .ofNat a,.ofNat b=>.ofNat (Nat.div a b)
 | a,b=>a.tdiv b
def c3K(a b:Int):Int:=match a,b with
 | .ofNat a,.ofNat b=>.ofNat (Nat.mod a b)
 | a,b=>a.tmod b
def b8J(k:IntKind)(a b:Int):Option Value:=match eqI b 0 with|true=>none|false=>some (.int k (wE k (c3a a b)))
def b8v(k:IntKind)(a b:Int):Option Value:=match eqI b 0 with|true=>none|false=>some (.int k (c3K a b))
def c5z(_:IntKind)(a b:Int):Option Value:=some (.bool (eqI a b))
def c5w(_:IntKind)(a b:Int):Option Value:=some (.bool (!eqI a b))
def c5y(_:IntKind)(a b:Int):Option Value:=some (.bool (ltI a b))
def c5A(_:IntKind)(a b:Int):Option Value:=some (.bool (!ltI b a))
def c4M(_:IntKind)(a b:Int):Option Value:=some (.bool (ltI b a))
def c5G(_:IntKind)(a b:Int):Option Value:=some (.bool (!ltI a b))
def b9i(op:BinOp):Option (IntKind→Int→Int→Option Value):=match op with
 | .add=>some c4X
 | .sub=>some c4N
 | .mul=>some c3V
 | .quo=>some b8J
 | .rem=>some b8v
 | .eql=>some c5z
 | .neq=>some c5w
 | .lss=>some c5y
 | .leq=>some c5A
 | .gtr=>some c4M
 | .geq=>some c5G
 | _=>none
def c0m(d:Option TypeDesc):Bool:=match d with|some (.int _)=>true|_=>false
def c5Y(P:Program)(s:TypeId)(f:Nat)(d:α)(K1:Nat→α)(Kn:Nat→Nat→α):α:=match oO P s f with
 | some fd=>kF fd.offset fun off=>match jQ P fd.type with
   | some true=>a3c (iF P fd.type) d fun n=>Kn off n
   | some false=>K1 off
   | none=>d
 | none=>d
def b5W(P:Program)(o:Oper)(c:Call)(K:LOp→α):α:=match c.callee with
 | .value (.func k)=>lQ (kS k) fun p=>a4y c.args.toList fun l=>K (.callF k p l)
 | .value g=>lS g fun g=>a4y c.args.toList fun l=>K (.callV g l)
 | .builtin .len=>nX (c.args.size==1&&c.argTypes.size==1) (K (.gen o)) (match P.underlying (c.argTypes.getD 0 0)with
    | some (.slice _)=>lS (c.args.getD 0 (.tmp 0)) fun x=>K (.len x)
    | some .string=>lS (c.args.getD 0 (.tmp 0)) fun x=>K (.slen x)
    | _=>K (.gen o))
 | .builtin .append=>nX (c.args.size==2&&c.argTypes.size==2&&((P.underlying (c.argTypes.getD 1 0)).map pY)==some true) (K (.gen o))
    (match iJ P (c.argTypes.getD 0 0)with
     | some elem=>a3c (iF P elem) (K (.gen o)) fun size=>a3c (nP P elem) (K (.gen o)) fun bytes=>match jA P elem with
       | some z=>nX (z.cells.size==size&&size !=0) (K (.gen o)) (kF elem fun elem=>lS (c.args.getD 0 (.tmp 0)) fun x=>lS (c.args.getD 1 (.tmp 0)) fun y=>K (.app elem size bytes x y))
       | none=>K (.gen o)
     | none=>K (.gen o))
 | _=>K (.gen o)
def c3R(P:Program)(o:Oper)(K:LOp→α):α:=match o.op with
 | .move x=>lS x fun x=>K (.mv x)
 | .assign x=>lS x fun x=>K (.mv x)
 | .pick c a b=>lS c fun c=>lS a fun a=>lS b fun b=>K (.pick c a b)
 | .binOp op t x y _=>nX (c0m (P.underlying t)) (K (.gen o)) (match b9i op with
   | some g=>lS x fun x=>lS y fun y=>K (.bin g x y)
   | none=>K (.gen o))
 | .load t x=>match jQ P t with
   | some true=>a3c (iF P t) (K (.gen o)) fun n=>lS x fun x=>K (.ldn n x)
   | some false=>lS x fun x=>K (.ld1 x)
   | none=>K (.gen o)
 | .store t x y=>a3c (iF P t) (K (.gen o)) fun n=>lS x fun x=>lS y fun y=>K (.st n x y)
 | .fieldAddr s x f=>match oO P s f with
   | some fd=>match iF P fd.type with
     | some 0=>K (.gen o)
     | some _=>kF fd.offset fun off=>lS x fun x=>K (.fa off x)
     | none=>K (.gen o)
   | none=>K (.gen o)
 | .indexAddr t x i=>match P.underlying t with
   | some (.slice elem)=>a3c (iF P elem) (K (.gen o)) fun size=>lS x fun x=>lS i fun i=>K (.ixs size x i)
   | some (.array n elem)=>a3c (iF P elem) (K (.gen o)) fun size=>lS x fun x=>lS i fun i=>K (.ixa n size x i)
   | _=>K (.gen o)
 | .extract t i=>kF i fun i=>lS t fun t=>K (.ext i t)
 | .call c=>b5W P o c K
 | _=>K (.gen o)
def xL(P:Program)(o:Oper)(K:LOp→α):α:=nX (o.op.operands.toList.all iU) (K .bad) (c3R P o K)
def a6Y(k:Nat)(d:Option Tmp)(no:α)(K:Option Pth→α):α:=match d with
 | none=>K none
 | some t=>nX (Nat.blt t k) no (lQ (kS t) fun p=>K (some p))
def uJ(P:Program)(k:Nat)(ops:Array Oper)(l:List Oper):(LOps→α)→α→α:=List.rec (motive:=fun _=>(LOps→α)→α→α) (fun K _=>K .nil)
 (fun o _ ih K no=>a6Y k o.dst no fun d=>xL P o fun o'=>match o.guard with
   | none=>ih (fun r=>K (.cons d o' r)) no
   | some (j,w)=>match (ops[j]?).bind (·.dst)with
     | some t=>nX (Nat.blt t k) no (lQ (kS t) fun p=>a0b w fun w=>ih (fun r=>K (.gcons p w d o' r)) no)
     | none=>no) l
def loG(k:Nat)(ops:Array Oper)(g:Option (Nat×Bool))(no:α)(K:Option (Pth×Bool)→α):α:=match g with
 | none=>K none
 | some (j,w)=>match (ops[j]?).bind (·.dst)with
   | some t=>nX (Nat.blt t k) no (lQ (kS t) fun p=>a0b w fun w=>K (some (p,w)))
   | none=>no
def tL(P:Program)(k:Nat)(ops:Array Oper)(N:Nat)(tab:List (Nat×Nat)):(List (Nat×Option Nat×Option (Pth×Bool)×LOp)→α)→α→α:=List.rec (motive:=fun _=>(List (Nat×Option Nat×Option (Pth×Bool)×LOp)→α)→α→α) (fun K _=>K [])
 (fun x _ ih K no=>match ops[x.1]? with
   | some o=>loG k ops o.guard no fun g=>xL P o fun o'=>kF (N-1-x.1) fun i=>nX (Nat.blt x.2 N) (ih (fun l=>K ((i,none,g,o')::l)) no) (kF (N-1-x.2) fun m=>ih (fun l=>K ((i,some m,g,o')::l)) no)
   | none=>no) tab
def b4H(k:Nat):(List Pth→α)→α:=Nat.rec (motive:=fun _=>(List Pth→α)→α) (fun K=>K []) (fun n ih K=>lQ (kS n) fun p=>ih fun l=>K (p::l)) k
def c0Y{β:Type}(l:List β):List β→(List β→α)→α:=List.rec (motive:=fun _=>List β→(List β→α)→α) (fun a K=>K a) (fun x _ ih a K=>ih (x::a) K) l
def b2e(k:Nat)(K:List Pth→α):α:=b4H k fun l=>c0Y l [] K
def wV(k:Nat)(l:List Tmp):(List Pth→α)→α→α:=List.rec (motive:=fun _=>(List Pth→α)→α→α) (fun K _=>K []) (fun t _ ih K no=>nX (Nat.blt t k) no (lQ (kS t) fun p=>ih (fun l=>K (p::l)) no)) l
def nB(P:Program)(k:Nat)(c:Code):(LCode→α)→α:=Code.rec (motive:=fun _=>(LCode→α)→α)
 (fun K=>K .skip)
 (fun _ ops d K=>Bool.rec (motive:=fun _=>α) (uJ P k ops ops.toList (fun l=>K (.reg l)) (K .bad))
   (match mX P ops with
     | some []=>uJ P k ops ops.toList (fun l=>K (.reg l)) (K .bad)
     | some tab=>uJ P k ops ops.toList (fun l=>tL P k ops ops.size tab (fun t=>K (.drw l t)) (K .bad)) (K .bad)
     | none=>K .bad) d)
 (fun _ _ iha ihb K=>iha fun a=>ihb fun b=>K (.seq a b))
 (fun c _ _ ihx ihy K=>nX (iU c) (K .bad) (lS c fun c=>ihx fun x=>ihy fun y=>K (.cond c x y)))
 (fun id _ ih K=>kF id fun id=>ih fun b=>K (.block id b))
 (fun _ ih K=>ih fun b=>K (.loop b))
 (fun g ps assign body iha ihb K=>nX (iU g) (K .bad) (lS g fun g'=>b2e k fun pp=>wV k ps.toList (fun q=>iha fun a=>ihb fun b=>K (.range g' pp q ps assign body a b)) (K .bad)))
 (fun id K=>kF id fun id=>K (.exit id))
 (fun _ _ K=>K .bad)
 (fun _ K=>K .skip)
 (fun _ K=>K .bad)
 (fun K=>K .ret)
 (fun _ K=>K .bad) c
def a0C(P:Program)(l:List ResultVar):(List LRes→α)→α→α:=List.rec (motive:=fun _=>(List LRes→α)→α→α) (fun K _=>K [])
 (fun r _ ih K no=>match r with
   | .tmp t=>lQ (kS t) fun p=>ih (fun l=>K (.t p::l)) no
   | .cell a t=>match jQ P t with
     | some true=>a3c (iF P t) no fun n=>lQ (kS a) fun p=>ih (fun l=>K (.cn n p::l)) no
     | some false=>lQ (kS a) fun p=>ih (fun l=>K (.c1 p::l)) no
     | none=>no) l
def a1t(P:Program)(f:FuncId)(no:α)(K:LFunc→α):α:=match P.funcs[f]? with
 | some fn=>match fn.body with
   | some c=>nX (fn.name== "runtime.NumGoroutine") (a0C P fn.results.toList (fun res=>b2e fn.ntmps fun ps=>nB P fn.ntmps c fun b=>K ⟨ps,b,res⟩) no) no
   | none=>no
 | none=>no
def uB(P:Program)(fs:List FuncId):LT→(LT→α)→α:=List.rec (motive:=fun _=>LT→(LT→α)→α) (fun T K=>K T)
 (fun f _ ih T K=>a1t P f (ih T K) fun g=>lQ (kS f) fun p=>sC g p T fun T=>ih T K) fs
end
end
end Go.Ds
namespace Go.Ds
section
variable {α:Type}
theorem vC(f k:Nat):a5H (f+1) (k+1)=if k%2=0 then .l (a5H f (k/2))else .r (a5H f (k/2)):=by
 show Bool.rec (motive:=fun _=>Pth) (.r (a5H f (k/2))) (.l (a5H f (k/2))) (Nat.beq (k%2) 0)=_
 by_cases h:k%2=0
 ·rw[if_pos h,h];rfl
 ·rw[if_neg h]
  have:Nat.beq (k%2) 0=false:=gb.2 fun e=>h (dV e)
  rw[this]
theorem a3q(f:Nat):a5H f 0=.z:=by cases f<;>rfl
theorem a1q:∀(f g a b:Nat),a≤f→b≤g→a5H f a=a5H g b→a=b
 | _,_,0,0,_,_,_=>rfl
 | 0,_,a+1,_,h,_,_=>by omega
 | _,0,_,b+1,_,h,_=>by omega
 | f,g+1,0,b+1,_,_,h=>by
   rw[a3q,vC]at h
   split at h<;>cases h
 | f+1,g,a+1,0,_,_,h=>by
   rw[a3q,vC]at h
   split at h<;>cases h
 | f+1,g+1,a+1,b+1,ha,hb,h=>by
   rw[vC,vC]at h
   by_cases h1:a%2=0
   ·rw[if_pos h1]at h
    by_cases h2:b%2=0
    ·rw[if_pos h2]at h
     injection h with h
     have:=a1q f g (a/2) (b/2) (by omega) (by omega) h
     omega
    ·rw[if_neg h2]at h;cases h
   ·rw[if_neg h1]at h
    by_cases h2:b%2=0
    ·rw[if_pos h2]at h;cases h
    ·rw[if_neg h2]at h
     injection h with h
     have:=a1q f g (a/2) (b/2) (by omega) (by omega) h
     omega
theorem b0W{a b:Nat}(h:kS a=kS b):a=b:=a1q _ _ _ _ (dj _) (dj _) h
theorem lL(p:Pth)(K:Pth→α):lQ p K=K p:=by
 induction p generalizing K with
 | z=>rfl
 | l p ih=>exact ih _
 | r p ih=>exact ih _
theorem mS(v:Value)(K:Value→α):oJ v K=K v:=by cases v<;>rfl
theorem sX(v:Value)(p:Pth)(f:Fr)(K:Fr→α):pW v p f K=K (pW v p f fun f=>f):=by
 induction p generalizing f α with
 | z=>cases f<;>rfl
 | l p ih=>
   cases f with
   | e=>
     show pW v p .e (fun l=>K (.n undef l .e))=K (pW v p .e fun l=>.n undef l .e)
     rw[ih,ih (K:=fun l=>Fr.n undef l .e)]
   | n w l r=>
     show pW v p l (fun l=>K (.n w l r))=K (pW v p l fun l=>.n w l r)
     rw[ih,ih (K:=fun l=>Fr.n w l r)]
 | r p ih=>
   cases f with
   | e=>
     show pW v p .e (fun l=>K (.n undef .e l))=K (pW v p .e fun l=>.n undef .e l)
     rw[ih,ih (K:=fun l=>Fr.n undef .e l)]
   | n w l r=>
     show pW v p r (fun r=>K (.n w l r))=K (pW v p r fun r=>.n w l r)
     rw[ih,ih (K:=fun r=>Fr.n w l r)]
theorem uY(p:Pth):oB p .e=undef:=by
 cases p<;>rfl
theorem b1J(v:Value)(p q:Pth)(f:Fr):(q=p→oB q (pW v p f fun f=>f)=v)∧(q≠p→oB q (pW v p f fun f=>f)=oB q f):=by
 induction p generalizing f q with
 | z=>
   refine⟨fun h=> ?_,fun h=> ?_⟩
   ·subst h;cases f<;>rfl
   ·cases q with
    | z=>exact absurd rfl h
    | l q=>
      cases f with
      | e=>show oB q .e=undef;exact uY q
      | n=>rfl
    | r q=>
      cases f with
      | e=>show oB q .e=undef;exact uY q
      | n=>rfl
 | l p ih=>
   have h1:∀f,pW v (.l p) f (fun f=>f)=match f with|.e=>.n undef (pW v p .e fun f=>f) .e|.n w l r=>.n w (pW v p l fun f=>f) r:=fun f=>by
    cases f with
    | e=>exact sX v p .e fun l=>Fr.n undef l .e
    | n w l r=>exact sX v p l fun l=>Fr.n w l r
   rw[h1]
   cases q with
   | z=>exact⟨fun h=>(nomatch h),fun _=>by cases f<;>rfl⟩
   | r q=>
     refine⟨fun h=>(nomatch h),fun _=> ?_⟩
     cases f with
     | e=>show oB q .e=undef;exact uY q
     | n=>rfl
   | l q=>
     refine⟨fun h=> ?_,fun h=> ?_⟩
     ·injection h with h
      cases f with
      | e=>exact(ih q .e).1 h
      | n w l r=>exact(ih q l).1 h
     ·have h:q≠p:=fun e=>h (by rw[e])
      cases f with
      | e=>show oB q (pW v p .e fun f=>f)=undef;rw[(ih q .e).2 h,uY]
      | n w l r=>exact(ih q l).2 h
 | r p ih=>
   have h1:∀f,pW v (.r p) f (fun f=>f)=match f with|.e=>.n undef .e (pW v p .e fun f=>f)|.n w l r=>.n w l (pW v p r fun f=>f):=fun f=>by
    cases f with
    | e=>exact sX v p .e fun l=>Fr.n undef .e l
    | n w l r=>exact sX v p r fun r=>Fr.n w l r
   rw[h1]
   cases q with
   | z=>exact⟨fun h=>(nomatch h),fun _=>by cases f<;>rfl⟩
   | l q=>
     refine⟨fun h=>(nomatch h),fun _=> ?_⟩
     cases f with
     | e=>show oB q .e=undef;exact uY q
     | n=>rfl
   | r q=>
     refine⟨fun h=> ?_,fun h=> ?_⟩
     ·injection h with h
      cases f with
      | e=>exact(ih q .e).1 h
      | n w l r=>exact(ih q r).1 h
     ·have h:q≠p:=fun e=>h (by rw[e])
      cases f with
      | e=>show oB q (pW v p .e fun f=>f)=undef;rw[(ih q .e).2 h,uY]
      | n w l r=>exact(ih q r).2 h
def FAg(f:Fr)(l:List Value):Prop:=∀t,oB (kS t) f=get l t
def FRel(k:Nat)(f:Fr)(l:List Value):Prop:=l.length=k∧FAg f l
noncomputable def b5a (f:Fr) (t:Tmp) (v:Value):Fr:=pW v (kS t) f fun f=>f
theorem a4q(f:Fr)(t u:Tmp)(v:Value):oB (kS u) (b5a f t v)=if u=t then v else oB (kS u) f:=by
 have h:=b1J v (kS t) (kS u) f
 by_cases he:u=t
 ·rw[if_pos he];exact h.1 (by rw[he])
 ·rw[if_neg he];exact h.2 (fun e=>he (b0W e))
theorem FRel.put{k:Nat}{f:Fr}{l:List Value}(h:FRel k f l){t:Tmp}(ht:t<k)(v:Value):FRel k (b5a f t v) (Go.Ds.put l (some t) v):=by
 refine⟨by simp[Go.Ds.put,kP,h.1],fun u=> ?_⟩
 rw[a4q,b0N]
 by_cases he:u=t
 ·subst he;rw[if_pos rfl,if_pos ⟨rfl,by rw[h.1];exact ht⟩]
 ·rw[if_neg he,if_neg (fun hh=>he (da hh.1).symm)];exact h.2 u
theorem FRel.set{k:Nat}{f:Fr}{l:List Value}(h:FRel k f l){t:Tmp}(ht:t<k)(v:Value):FRel k (b5a f t v) (l.set t v):=by
 have:=h.put ht v
 simpa [Go.Ds.put,kP]using this
def Rs.Is(r:Rs)(v:Value)(H:Heap):Prop:=r=.ok v H∨r=.th v H
theorem Rs.ar{v:Value}{H:Heap}:¬Rs.no.Is v H:=by rintro(h|h)<;>cases h
theorem Rs.aP{v w:Value}{H H1:Heap}(h:(Rs.ok v H).Is w H1):w=v∧H1=H:=by
 rcases h with h|h
 ·injection h with a b;exact⟨a.symm,b.symm⟩
 ·cases h
theorem Rs.aT{v w:Value}{H H1:Heap}(h:(Rs.th v H).Is w H1):w=v∧H1=H:=by
 rcases h with h|h
 ·cases h
 ·injection h with a b;exact⟨a.symm,b.symm⟩
theorem kM(b:Bool)(no x:α):nX b no x=if b=true then x else no:=by cases b<;>rfl
theorem lG{b:Bool}{x:Rs}{v:Value}{H:Heap}(h:(nX b Rs.no x).Is v H):b=true∧x.Is v H:=by
 cases b with
 | false=>exact absurd h Rs.ar
 | true=>exact⟨rfl,h⟩
theorem yH{β:Type}:∀(cs:List β)(e:Nat),a7l cs e=decide (e≤cs.length)
 | [],0=>rfl
 | [],e+1=>by simp;rfl
 | _::_,0=>rfl
 | _::cs,e+1=>by show a7l cs e=_;rw[yH cs e];simp
theorem yM{β:Type}:∀(cs:List β)(e:Nat),a4p cs e=decide (e=cs.length)
 | [],0=>rfl
 | [],e+1=>by simp;rfl
 | _::_,0=>by simp;rfl
 | _::cs,e+1=>by show a4p cs e=_;rw[yM cs e];simp
theorem yD{β:Type}:∀(cs:List β)(e:Nat),a0S cs e=cs[e]?
 | [],_=>rfl
 | _::_,0=>rfl
 | _::cs,e+1=>by show a0S cs e=_;rw[yD cs e];simp
theorem a7J{β:Type}:∀(cs:List β)(e:Nat),b0Y cs e=cs.drop e
 | [],e=>by cases e<;>rfl
 | _::_,0=>rfl
 | _::cs,e+1=>by show b0Y cs e=_;rw[a7J cs e];rfl
theorem a6i{β:Type}:∀{cs:List β}{n:Nat}{K:List β→Rs}{v:Value}{H:Heap},(a2r cs n K).Is v H→n≤cs.length∧(K (cs.take n)).Is v H
 | [],0,K,v,H,h=>⟨dj _,h⟩
 | [],n+1,K,v,H,h=>absurd h Rs.ar
 | _::_,0,K,v,H,h=>⟨eX _,h⟩
 | c::cs,n+1,K,v,H,h=>by
   have h':(a2r cs n fun l=>K (c::l)).Is v H:=h
   obtain⟨h1,h2⟩:=a6i h'
   exact⟨by simp;omega,h2⟩
theorem b8f{a b:IntKind}(h:Nat.beq (kIx a) (kIx b)=true):a=b:=by
 cases a<;>cases b<;>first|rfl|(exact absurd h (by decide))
theorem b4W(k:Nat)(K:List Pth→α):b4H k K=K ((List.range k).map kS).reverse:=by
 induction k generalizing K with
 | zero=>rfl
 | succ n ih=>
   show lQ (kS n) (fun p=>b4H n fun l=>K (p::l))=_
   rw[lL,ih,eu]
   simp
theorem b8p{β:Type}(l:List β):∀(a:List β)(K:List β→α),c0Y l a K=K (l.reverse++a):=by
 induction l with
 | nil=>intro a K;rfl
 | cons x l ih=>intro a K;show c0Y l (x::a) K=_;rw[ih];simp
theorem b0v(k:Nat)(K:List Pth→α):b2e k K=K ((List.range k).map kS):=by
 unfold b2e;rw[b4W,b8p];simp
theorem pH(n:Nat)(d:α)(K:Nat→α):a3c (some n) d K=K n:=kA n K
def LK(H H':Heap):Prop:=H.length≤H'.length∧∀A r',A<H.length→iR H' A=some (.loop r')→
 ∃r,iR H A=some (.loop r)∧r'.assign=r.assign∧r'.body=r.body∧r'.params=r.params∧r'.tmps=r.tmps
theorem LK.refl(H:Heap):LK H H:=⟨dj _,fun _ r _ h=>⟨r,h,rfl,rfl,rfl,rfl⟩⟩
theorem LK.trans{H H1 H2:Heap}(h:LK H H1)(k:LK H1 H2):LK H H2:=⟨dL h.1 k.1,fun A r' hA hr=>by
 obtain⟨r1,h1,a1,b1,c1,d1⟩:=k.2 A r' (dQ hA h.1) hr
 obtain⟨r,h2,a2,b2,c2,d2⟩:=h.2 A r1 hA h1
 exact⟨r,h2,a1.trans a2,b1.trans b2,c1.trans c2,d1.trans d2⟩⟩
def Blk.cj:Blk→Bool
 | .loop _=>true
 | _=>false
theorem LK.hset(H:Heap)(A:Nat){b:Blk}(hb:b.cj=false):LK H (hset H A b):=by
 refine⟨by rw[jE];exact dj _,fun B r' hB h=> ?_⟩
 by_cases he:A=B
 ·subst he;rw[iW _ hB]at h;injection h with h;subst h;cases hb
 ·rw[iP _ he]at h;exact⟨r',h,rfl,rfl,rfl,rfl⟩
theorem LK.cons(H:Heap)(b:Blk):LK H (H.cons b):=by
 refine⟨by rw[length_cons];omega,fun B r' hB h=> ?_⟩
 rw[jS b hB]at h;exact⟨r',h,rfl,rfl,rfl,rfl⟩
theorem LK.row(H:Heap)(ty:TypeId)(cs:List Value):LK H (rR H ty cs):=by rw[lI];exact .cons _ _
theorem LK.loop{H:Heap}{L:Nat}{r r':Loop}(h:iR H L=some (.loop r))(e:r'.assign=r.assign∧r'.body=r.body∧r'.params=r.params∧r'.tmps=r.tmps):LK H (Go.Ds.hset H L (.loop r')):=by
 refine⟨by rw[jE];exact dj _,fun B r2 hB hg=> ?_⟩
 by_cases he:L=B
 ·subst he;rw[iW _ hB]at hg;injection hg with hg;injection hg with hg;subst hg;exact⟨r,h,e⟩
 ·rw[iP _ he]at hg;exact⟨r2,hg,rfl,rfl,rfl,rfl⟩
variable {P:Program}
theorem a5Z{H H':Heap}{t:TypeId}{p v:Value}(h:qT P H t p v=some H'):LK H H':=by
 unfold qT at h
 split at h
 ·split at h
  ·dsimp only at h
   split at h
   ·injection h with h;subst h;exact .hset _ _ rfl
   ·cases h
  ·cases h
 ·cases h
theorem a3J{H H':Heap}{t:TypeId}{v r:Value}(h:wS P H t v=some (r,H')):LK H H':=by
 unfold wS at h
 dsimp only at h
 split at h
 ·injection h with h;injection h with _ h;subst h;exact .row _ _ _
 ·cases h
theorem a4O{H H':Heap}{t:TypeId}{s x r:Value}(h:nO P H t s x=some (r,H')):LK H H':=by
 unfold nO at h
 simp only[db]at h
 obtain⟨elem,_,size,_,bytes,_,z,_,⟨n,l⟩,_,h⟩:=h
 try dsimp only at h
 split at h
 ·split at h
  ·split at h
   ·injection h with h;injection h with _ h;subst h;exact .refl _
   ·injection h with h;injection h with _ h;subst h;exact .row _ _ _
  ·cases h
 ·split at h
  ·split at h
   ·injection h with h;injection h with _ h;subst h;exact .hset _ _ rfl
   ·split at h
    ·injection h with h;injection h with _ h;subst h;exact .hset _ _ rfl
    ·cases h
  ·cases h
 ·cases h
theorem a7S{H H':Heap}{t:TypeId}{v r:Value}(h:qV P H t v=some (r,H')):LK H H':=by
 unfold qV at h
 split at h
 ·dsimp only at h
  rename_i n elem _
  have key:∀(b:Bool),(if b=true then some (Value.pointer (some ⟨H.length,0,some v.cells.toList.length⟩),b4U H elem v.cells.toList)else none)=some (r,H')→LK H H':=by
   intro b h
   cases b
   ·cases h
   ·injection h with h;injection h with _ h;subst h;rw[a1h];exact .cons _ _
  exact key _ h
 ·exact a3J h
theorem a4W{H H':Heap}{t:TypeId}{x y r:Value}(h:vT P H t x y=some (r,H')):LK H H':=by
 unfold vT at h
 split at h
 ·split at h
  ·split at h
   ·simp only[dq]at h
    obtain⟨_,_,h⟩:=h
    injection h with _ h;subst h;exact .hset _ _ rfl
   ·cases h
  ·cases h
 ·cases h
theorem a4E{H H':Heap}{k:FuncId}{args:List Value}{r:Value}(h:qF P k args H=some (r,H')):LK H H':=by
 unfold qF at h
 simp only[db]at h
 obtain⟨fn,_,h⟩:=h
 split at h
 case isFalse=>cases h
 split at h
 ·split at h
  ·injection h with h;injection h with _ h;subst h;exact .refl _
  ·cases h
 split at h
 ·split at h
  ·split at h
   ·simp only[db]at h
    obtain⟨_,_,h⟩:=h
    split at h
    ·injection h with h;injection h with _ h;subst h;exact .row _ _ _
    ·cases h
   ·cases h
  ·cases h
 split at h
 ·split at h
  ·split at h
   ·split at h
    ·injection h with h;injection h with _ h;subst h;exact .refl _
    ·cases h
   ·cases h
  ·cases h
 ·cases h
theorem a9t{H H':Heap}{t:TypeId}{s x r:Value}(h:a1k P H t s x=some (r,H')):LK H H':=by
 unfold a1k at h
 simp only[db]at h
 obtain⟨elem,_,size,_,m,_,h⟩:=h
 try dsimp only at h
 split at h
 ·split at h
  ·injection h with h;injection h with _ h;subst h;exact .refl _
  ·cases h
 ·split at h
  ·injection h with h;injection h with _ h;subst h;exact .refl _
  ·simp only[db]at h
   obtain⟨l,_,h⟩:=h
   split at h
   ·split at h
    ·injection h with h;injection h with _ h;subst h;exact .hset _ _ rfl
    ·cases h
   ·cases h
 ·cases h
theorem a6H{H H':Heap}{t:TypeId}{x r:Value}(h:sQ P H t x=some (r,H')):LK H H':=by
 unfold sQ at h
 simp only[db]at h
 obtain⟨elem,_,z,_,h⟩:=h
 split at h
 ·injection h with h;injection h with _ h;subst h;exact .refl _
 ·split at h
  ·injection h with h;injection h with _ h;subst h;exact .refl _
  ·try dsimp only at h
   split at h
   ·split at h
    ·injection h with h;injection h with _ h;subst h;exact .hset _ _ rfl
    ·cases h
   ·cases h
 ·cases h
theorem b1r{H H':Heap}{t:TypeId}{m k v:Value}(h:a0V P H t m k v=some H'):LK H H':=by
 unfold a0V at h
 simp only[db]at h
 obtain⟨⟨kt,et⟩,_,h⟩:=h
 dsimp only at h
 split at h
 ·split at h
  ·split at h
   ·simp only[db]at h
    obtain⟨r,_,h⟩:=h
    split at h
    ·simp only[db]at h
     obtain⟨e,_,h⟩:=h
     split at h
     ·injection h with h;subst h;exact .hset _ _ rfl
     ·cases h
    ·injection h with h;subst h;exact .hset _ _ rfl
   ·cases h
  ·cases h
 ·cases h
theorem a6D{H H':Heap}{t:TypeId}{m k r:Value}(h:tB P H t m k=some (r,H')):LK H H':=by
 unfold tB at h
 simp only[db]at h
 obtain⟨⟨kt,et⟩,_,h⟩:=h
 dsimp only at h
 split at h
 ·split at h
  ·split at h
   ·simp only[db]at h
    obtain⟨r,_,h⟩:=h
    split at h
    ·simp only[db]at h
     obtain⟨e,_,h⟩:=h
     split at h
     ·injection h with h;injection h with _ h;subst h;exact .hset _ _ rfl
     ·cases h
    ·simp only[db]at h
     obtain⟨z,_,h⟩:=h
     split at h
     ·injection h with h;injection h with _ h;subst h;exact .hset _ _ rfl
     ·cases h
   ·cases h
  ·cases h
 ·cases h
theorem a7o{H H':Heap}{m b v:Value}(h:rQ H m b v=some H'):LK H H':=by
 unfold rQ at h
 split at h
 ·split at h
  ·split at h
   ·simp only[db]at h
    obtain⟨e,_,h⟩:=h
    injection h with h;subst h;exact .hset _ _ rfl
   ·cases h
  ·cases h
 ·cases h
theorem a2S{H H':Heap}{t:TypeId}{o:Option Value}{r:Value}(h:pS P H t o=some (r,H')):LK H H':=by
 unfold pS at h
 simp only[db]at h
 obtain⟨_,_,h⟩:=h
 split at h
 ·injection h with h;injection h with _ h;subst h;exact .cons _ _
 ·injection h with h;injection h with _ h;subst h;exact .cons _ _
 ·cases h
theorem a7T{H H':Heap}{o:Oper}{l:List Value}{r:Value}(h:kK P o l H=some (r,H')):H'=H:=by
 unfold kK at h
 split at h
 ·split at h
  ·split at h
   ·injection h with h;injection h with _ h;exact h.symm
   ·cases h
  ·cases h
 ·cases h
theorem vN{H H':Heap}{v r:Value}(h:some (v,H)=some (r,H')):LK H H':=by injection h with h;injection h with _ h;subst h;exact .refl _
theorem uN{H H':Heap}{v:Option Value}{r:Value}(h:v.map (fun v=>(v,H))=some (r,H')):LK H H':=by
 cases v with
 | none=>cases h
 | some v=>exact vN h
set_option maxHeartbeats 1000000 in
theorem b3R{H H':Heap}{o:Oper}{l:List Value}{r:Value}(h:opD P o l H=some (r,H')):LK H H':=by
 obtain⟨dst,op,type,pos,after,guard⟩:=o
 have pl:∀{o:Oper},kK P o l H=some (r,H')→LK H H':=fun h=>by rw[a7T h];exact .refl _
 cases op with
 | alloc t=>
   simp only[opD,db]at h
   obtain⟨z,_,h⟩:=h
   split at h
   ·exact a7S h
   ·cases h
 | box t x=>simp only[opD]at h;exact a3J h
 | store t x y=>
   simp only[opD,dq]at h
   obtain⟨H1,h,e⟩:=h
   injection e with _ e;subst e
   exact a5Z h
 | mapUpdate t m x y=>
   simp only[opD,dq]at h
   obtain⟨H1,h,e⟩:=h
   injection e with _ e;subst e
   exact b1r h
 | mapEntry t m x=>simp only[opD]at h;exact a6D h
 | entryStore t m x y=>
   simp only[opD,dq]at h
   obtain⟨H1,h,e⟩:=h
   injection e with _ e;subst e
   exact a7o h
 | makeMap t x=>simp only[opD]at h;exact a2S h
 | buildSlice t len parts=>
   simp only[opD,db]at h
   obtain⟨elem,_,size,_,z,_,h⟩:=h
   split at h
   ·injection h with h;injection h with _ h;subst h;exact .row _ _ _
   split at h
   ·simp only[dq]at h
    obtain⟨cs,_,e⟩:=h
    injection e with _ e;subst e
    exact .row _ _ _
   ·cases h
 | makeSlice t n c=>
   simp only[opD,db]at h
   obtain⟨elem,_,size,_,bytes,_,z,_,h⟩:=h
   split at h
   ·split at h
    ·injection h with h;injection h with _ h;subst h;exact .row _ _ _
    ·cases h
   ·cases h
 | call c=>
   simp only[opD]at h
   split at h
   ·split at h
    ·split at h
     all_goals first|exact uN h|cases h
    ·cases h
   ·split at h
    ·exact a4O h
    ·cases h
   ·split at h
    ·exact a9t h
    ·cases h
   ·split at h
    ·exact a6H h
    ·cases h
   ·exact pl h
   ·split at h
    ·split at h
     ·split at h
      ·cases h
      ·exact vN h
     ·cases h
    ·cases h
   ·split at h
    ·exact a4W h
    ·cases h
   ·exact pl h
   ·exact pl h
   ·cases h
 | convert s t x=>
   simp only[opD]at h
   split at h
   ·exact pl h
   ·split at h
    ·split at h
     ·exact uN h
     ·cases h
    ·split at h
     ·simp only[db]at h
      obtain⟨_,_,h⟩:=h
      injection h with h;injection h with _ h;subst h
      rw[b0t];exact .cons _ _
     ·cases h
    ·split at h
     ·exact vN h
     ·cases h
    ·cases h
 | slice t x lo hi mx=>
   cases mx with
   | some _=>simp only[opD]at h;cases h
   | none=>
     simp only[opD]at h
     split at h
     ·exact pl h
     ·split at h
      ·exact uN h
      ·exact uN h
 | _=>
   simp only[opD]at h
   repeat' first
    | exact LK.refl _
    | exact vN h
    | exact uN h
    | exact pl h
    | (cases h;done)
    | split at h
    | (simp only[db,dq]at h;obtain⟨_,_,h⟩:=h)
    | (obtain⟨_,_,h⟩:=h)
    | (injection h with h;injection h with _ h;subst h;exact LK.refl _)
    | (injection h with _ h;subst h;exact LK.refl _)
    | (cases h;exact LK.refl _)
end
end Go.Ds
