/-
  A part of the proof of SurveyParts.
-/
import Derived.Test.YtbkobkpbkhbcgaaGreatDoorVA
import Derived.Below
import Derived.Deep.Slices
set_option linter.unusedVariables false
set_option linter.unusedSimpArgs false
set_option linter.defProp false
set_option linter.unusedSectionVars false
set_option maxRecDepth 100000
set_option maxHeartbeats 2000000
namespace Go.Ds
section
variable {P:Program} {ρ:Rho} {H:Heap} {w:World} {fl:Fl}
theorem HRel.bg(h:HRel P ρ H w)(cs:List Value)(ty:TypeId)(tg:Nat)(p:Place)(hoff:Off ρ p.b)(hlt:p.b<w.heap.size) (hcell:CellsAt P (ρ.put H.length cs.length p) w cs ty true tg cs.length cs.length p): HRel P (ρ.put H.length cs.length p) (H.cons (.cells cs ty true cs.length tg)) w:=by
 have hno:∀f,ρ H.length f=none:=λf=>oL h f;have hle:ρ.Le (ρ.put H.length cs.length p):=.put (hno _);(have hold:∀A f q,(ρ.put H.length cs.length p) A f=some q->(A=H.length∧f=cs.length∧q=p)∨(A<H.length∧ρ A f=some q∧q.b≠p.b):=λA f q hq=>by by_cases hh:A=H.length∧f=cs.length;(·obtain⟨rfl,rfl⟩:=hh;rw[Rho.aq]at hq;exact .inl ⟨rfl,rfl,(dK hq).symm⟩);·rw[Rho.aM hh]at hq;exact .inr ⟨(h.dom _ _ _ hq).1,hq,hoff _ _ _ hq⟩);have hget_old:∀A,A<H.length->jM (H.cons (.cells cs ty true cs.length tg)) A=jM H A:=λA hA=>kG _ hA;refine⟨?_,?_,?_,?_,?_,?_,λA hA=>by by_cases he:A=H.length;(·subst he;rw[jJ];rfl);·rw[length_cons]at hA;rw[hget_old A (by omega)];exact h.full A (by omega),λA cs' ty' lo' hg=>by have hA:A<(H.cons (.cells cs ty true cs.length tg)).length:=jX hg;by_cases he:A=H.length;(·subst he;rw[jJ]at hg;cases hg);·(have hA':A<H.length:=by simp at hA;omega);rw[hget_old A hA']at hg;obtain⟨q,h1,h2,h3⟩:=h.glob _ _ _ _ hg;exact⟨q,hle _ _ _ h1,h2,h3⟩⟩
 (·intro A f q hq;rcases hold A f q hq with⟨rfl,rfl,rfl⟩|⟨hA,hq',_⟩;(·exact⟨by simp,hlt⟩);·exact⟨by simp;omega,(h.dom _ _ _ hq').2⟩);(·intro A cs' ty' rw' lo' ver' hg;have hA:A<(H.cons (.cells cs ty true cs.length tg)).length:=jX hg;by_cases he:A=H.length;(·subst he;rw[jJ]at hg;injection (dK hg)with e1 e2 e3 e4 e5;subst e1 e2 e3 e4 e5;refine⟨⟨p,Rho.aq _ _ _ _⟩,λf q hq=> ?_⟩;rcases hold _ f q hq with⟨_,rfl,rfl⟩|⟨hlt,_,_⟩;(·exact hcell);·exact absurd hlt (fq _));·(have hA':A<H.length:=by simp at hA;omega);rw[hget_old A hA']at hg;obtain⟨⟨q,hq⟩,hall⟩:=h.cells _ _ _ _ _ _ hg;refine⟨⟨q,hle _ _ _ hq⟩,λf q hq=> ?_⟩;rcases hold _ f q hq with⟨rfl,_,_⟩|⟨_,hq',_⟩;(·exact absurd hA' (fq _));·exact(hall f q hq').world hle rfl);(·intro A es ck ver hg;have hA:A<(H.cons (.cells cs ty true cs.length tg)).length:=jX hg;by_cases he:A=H.length;(·subst he;rw[jJ]at hg;cases hg);·(have hA':A<H.length:=by simp at hA;omega);rw[hget_old A hA']at hg;obtain⟨q,es',hq,hw,hall⟩:=h.map _ _ _ _ hg;exact⟨q,es',hle _ _ _ hq,hw,hall.mono λ_ _ x=>x.mono hle⟩)
 (·intro A r hg;have hA:A<(H.cons (.cells cs ty true cs.length tg)).length:=jX hg;by_cases he:A=H.length;(·subst he;rw[jJ]at hg;cases hg);·(have hA':A<H.length:=by simp at hA;omega);rw[hget_old A hA']at hg;obtain⟨q,r',hq,hw,hall⟩:=h.loop _ _ hg;exact⟨q,r',hle _ _ _ hq,hw,hall.mono hle⟩);(·intro A f q blk' hq hg;rcases hold A f q hq with⟨rfl,rfl,rfl⟩|⟨hA,hq',_⟩;(·rw[jJ]at hg;obtain rfl:=dK hg;exact .inl rfl);·rw[hget_old A hA]at hg;exact h.one _ _ _ _ hq' hg);·intro A f q A2 f2 q2 blk' hq hq2 hbb hg hwr;rcases hold A f q hq with⟨rfl,rfl,rfl⟩|⟨hA,hq',hqb⟩;(·rcases hold A2 f2 q2 hq2 with⟨rfl,rfl,rfl⟩|⟨hA2,hq2',hqb2⟩;(·exact⟨rfl,rfl⟩);·exact absurd hbb.symm hqb2);·rcases hold A2 f2 q2 hq2 with⟨rfl,rfl,rfl⟩|⟨hA2,hq2',hqb2⟩;(·exact absurd hbb hqb);·rw[hget_old A hA]at hg;exact h.excl _ _ _ _ _ _ _ hq' hq2' hbb hg hwr
theorem Post.bg{ρ0:Rho}{H0:Heap}{W0:World}(h:Post P ρ0 H0 W0 ρ H w)(cs:List Value)(ty:TypeId)(tg:Nat)(p:Place)(hoff:Off ρ p.b)(hlt:p.b<w.heap.size)(hW:W0.heap.size<=p.b) (hcell:CellsAt P (ρ.put H.length cs.length p) w cs ty true tg cs.length cs.length p): Post P ρ0 H0 W0 (ρ.put H.length cs.length p) (H.cons (.cells cs ty true cs.length tg)) w:=by
 have hle:ρ.Le (ρ.put H.length cs.length p):=.put (oL h.rel _);(have hold:∀A f q,(ρ.put H.length cs.length p) A f=some q->q=p∨(A<H.length∧ρ A f=some q):=λA f q hq=>by by_cases hh:A=H.length∧f=cs.length;(·obtain⟨rfl,rfl⟩:=hh;rw[Rho.aq]at hq;exact .inl (dK hq).symm);·rw[Rho.aM hh]at hq;exact .inr ⟨(h.rel.dom _ _ _ hq).1,hq⟩);refine⟨h.le.trans hle,h.rel.bg cs ty tg p hoff hlt hcell,by have:=h.len;simp;omega,h.size,h.os,h.tape,h.output,λb hb hw=>⟨(h.frame b hb hw).1,?_⟩,h.loops,λb hb hw A f q hq=> ?_⟩;(·rintro⟨A,f,q,blk,hq,rfl,hg,hwr⟩;rcases hold A f q hq with rfl|⟨hA,hq'⟩;(·omega);·rw[kG _ hA]at hg;exact(h.frame _ hb hw).2 ⟨A,f,q,blk,hq',rfl,hg,hwr⟩);·rcases hold A f q hq with rfl|⟨hA,hq'⟩;(·omega);·exact h.img b hb hw _ _ _ hq'
structure PendAt(P:Program)(ρ:Rho)(w:World)(H Hn:Heap)(v v':Value)(b:Nat)(cs:List Value)(cs':Array Value)(ty ty':TypeId)(tg k:Nat):Prop where
 here:w.heap[b]? =some (.cells cs' ty')
 next:Hn=H.cons (.cells cs ty true cs.length tg)
 rel:All2 (C1 ρ) cs cs'.toList
 val:∀ρ1:Rho,ρ1 H.length cs.length=some ⟨b,0,cs.length,k⟩→V ρ1 v v'
 at_:∀(ρ:Rho)(w:World),w.heap[b]? =some (.cells cs' ty')→All2 (C1 ρ) cs cs'.toList→CellsAt P ρ w cs ty true tg cs.length cs.length ⟨b,0,cs.length,k⟩
theorem PendAt.mono{ρ':Rho}{w':World}{H Hn:Heap}{v v':Value}{b:Nat}{cs:List Value}{cs':Array Value}{ty ty':TypeId}{tg k:Nat}(h:PendAt P ρ w H Hn v v' b cs cs' ty ty' tg k)(hle:ρ.Le ρ')(hw:w'.heap[b]? =w.heap[b]?):PendAt P ρ' w' H Hn v v' b cs cs' ty ty' tg k:=⟨by rw[hw];exact h.here,h.next,h.rel.mono λ_ _ h=>h.mono hle,h.val,h.at_⟩
theorem pT{o:Op}(h:jQ fl o=true):kK fl o=false:=by cases o<;>first|rfl|(simp[jQ]at h;done)|(simp[jQ]at h;simp[kK,h])
theorem uB{i:Nat}{o:Op}(h:jQ fl o=true):lZ fl i o=some i:=by simp[lZ,h]
theorem rV{i b:Nat}{o:Op}(h:jQ fl o=false)(hh:lZ fl i o=some b):fl.base i=some b∧∃t x ix,o=.indexAddr t x ix:=by unfold lZ at hh;rw[h]at hh;simp only[eH,if_false]at hh;split at hh;(·exact⟨hh,_,_,_,rfl⟩);·cases hh
theorem Der.plain{ops:Array Oper}{j i:Nat}{d:Tmp}{o:Op}(h:Der fl ops j d i o):kK fl o=false∧jQ fl o=false:=by cases h<;>exact⟨rfl,rfl⟩
theorem Draw.cA{ops:Array Oper}(D:Draw P fl ops){i j:Nat}{o:Oper}(ho:ops[i]? =some o)(hj:fl.base i=some j):j<i∧kK fl o.op=false∧jQ fl o.op=false:=by obtain⟨h1,_,_,_,_,_,_,_,_,_,_,_,h2⟩:=D.aB ho hj;exact⟨h1,h2.plain⟩
theorem Draw.aS{ops:Array Oper}(D:Draw P fl ops){i b:Nat}{o:Oper}(ho:ops[i]? =some o)(hh:lZ fl i o.op=some b):b<=i∧∃y,ops[b]? =some y∧jQ fl y.op=true:=by cases ha:jQ fl o.op with| true=>rw[uB ha]at hh;obtain rfl:=dK hh;exact⟨dP _,o,ho,ha⟩| false=>obtain⟨h1,_⟩:=rV ha hh;obtain⟨h2,_,_,y,_,_,_,_,h3,_,_,h4,_⟩:=D.aB ho h1;exact⟨by omega,y,h3,h4⟩
theorem a9b{o:Oper}(ho:jQ fl o.op=true){l:List Value}{v:Value}{H':Heap}(hd:opD P o l H=some (v,H')):∃blk,H'=H.cons blk:=by
 obtain⟨dst,op,type,pos,after,guard⟩:=o;simp only at ho;cases op with| alloc t=>simp only[opD,dM]at hd;obtain⟨z,hz,hd⟩:=hd;split at hd;(case isFalse=>cases hd);(have newc:yI P H t z=some (v,H')->∃blk,H'=H.cons blk:=by intro hd;unfold yI at hd;simp only at hd;split at hd;(case isFalse=>cases hd);injection (dK hd)with e1 e2;exact⟨_,by rw[<-e2,mF]⟩);unfold qU at hd;split at hd;(·rename_i n elem hu;cases hse:jF P elem with| none=>rw[hse]at hd;simp at hd| some k=>rw[hse]at hd;dsimp only at hd;split at hd;(case isFalse=>cases hd);injection (dK hd)with e1 e2;exact⟨_,by rw[<-e2,zI]⟩);(·exact newc hd)| buildSlice t len parts=>simp only[opD,dM]at hd;obtain⟨elem,he,size,hs,z,hz,hd⟩:=hd;split at hd;(·injection (dK hd)with e1 e2;exact⟨_,by rw[<-e2,mF]⟩);split at hd;(·simp only[dS]at hd;obtain⟨cs,hb,hd⟩:=hd;injection hd with e1 e2;exact⟨_,by rw[<-e2,mF]⟩);(·cases hd)| _=>simp[jQ]at ho
theorem b9T{o:Oper}{t:TypeId}{len:Nat}{parts:Array (Nat×Operand)}(ho:o.op=.buildSlice t len parts){l:List Value}{v:Value}{H':Heap}(hd:opD P o l H=some (v,H')): ∃(cs:List Value)(elem:TypeId)(size:Nat),H'=H.cons (.cells cs elem true cs.length 0)∧v=.slice (some ⟨H.length,0,some cs.length⟩) len size:=by
 obtain⟨dst,op,type,pos,after,guard⟩:=o;simp only at ho;subst ho;simp only[opD,dM]at hd;obtain⟨elem,he,size,hs,z,hz,hd⟩:=hd;split at hd;(·rename_i hc;simp only[dN,beq_iff_eq]at hc;obtain⟨⟨rfl,_⟩,_⟩:=hc;injection (dK hd)with e1 e2;exact⟨[],elem,size,by rw[<-e2,mF],e1.symm⟩);split at hd;(·simp only[dS]at hd;obtain⟨cs,hb,hd⟩:=hd;injection hd with e1 e2;exact⟨cs.toList,elem,size,by rw[<-e2,mF],e1.symm⟩);·cases hd
theorem b3T{o:Oper}(ho:jQ fl o.op=true){l:List Value}{v:Value}{H':Heap}(hd:opD P o l H=some (v,H')){a:Act}(hV:∀x,x∈o.op.operands->V ρ (ev l x) (a.eval x))(w:World): ∃(v':Value)(cs:List Value)(cs':Array Value)(ty ty':TypeId)(tg k:Nat),(execOp a.eval o).run P w=.ok (.value v') (w.alloc (.cells cs' ty'))∧PendAt P ρ (w.alloc (.cells cs' ty')) H H' v v' w.heap.size cs cs' ty ty' tg k:=by
 obtain⟨dst,op,type,pos,after,guard⟩:=o;simp only at ho hV;(have atOf:∀{cs:List Value}{cs':Array Value}{ty ty':TypeId}{tg k b:Nat},jF P ty=some k->(tg=0->ty'=ty)->∀(ρ:Rho)(w:World),w.heap[b]? =some (.cells cs' ty')->All2 (C1 ρ) cs cs'.toList->CellsAt P ρ w cs ty true tg cs.length cs.length ⟨b,0,cs.length,k⟩:=by intro cs cs' ty ty' tg k b hk ht ρ w hb hl;refine⟨dP _,hk,by simp,cs',ty',(0,0),hb,by simpa using hl.length.symm,λ_=>⟨rfl,Int.le_refl _,ht⟩,λ_ i c hi _ hc=> ?_⟩;obtain⟨c',hc',hr⟩:=hl.get i c hc;exact⟨c',by simpa [Place.at]using hc',hr⟩);cases op with| alloc t=>simp only[opD,dM]at hd;obtain⟨z,hz,hd⟩:=hd;split at hd;(case isFalse=>cases hd);rename_i hf;(have hr2:(Instr.alloc t true (.tuple #[])).run P w=.ok (.pointer (some ⟨w.heap.size,0,none⟩)) (w.alloc (.cells z.cells t)):=by simp only[Instr.alloc,dR,rS hz,dO];simp[newVar,newRow]);(have hval:∀(k:Nat)(ρ1:Rho),ρ1 H.length z.cells.toList.length=some ⟨w.heap.size,0,z.cells.toList.length,k⟩->V ρ1 (.pointer (some ⟨H.length,0,some z.cells.toList.length⟩)) (.pointer (some ⟨w.heap.size,0,none⟩)):=λk ρ1 h1=>by have:=C0.ptr (ρ:=ρ1) (A:=H.length) (i:=0) (e:=z.cells.toList.length) h1 (by simp);exact .v1 (.c1 (.c0 (by simpa [Place.at]using this))));unfold qU at hd;(have newc:yI P H t z=some (v,H')->∃k,v=.pointer (some ⟨H.length,0,some z.cells.toList.length⟩)∧z.cells.toList.all oneCell=true∧jF P t=some k∧H'=H.cons (.cells z.cells.toList t true z.cells.toList.length 0):=by intro hd;unfold yI at hd;simp only at hd;split at hd;(case isFalse=>cases hd);rename_i hcond;simp only[dN,beq_iff_eq]at hcond;injection (dK hd)with e1 e2;exact⟨_,e1.symm,hcond.1,hcond.2,by rw[<-e2,mF]⟩);split at hd;(·rename_i n elem hu;cases hse:jF P elem with| none=>rw[hse]at hd;simp at hd| some k=>rw[hse]at hd;dsimp only at hd;split at hd;(case isFalse=>cases hd);rename_i hcond;simp only[dN,beq_iff_eq]at hcond;obtain⟨⟨hone,hsz⟩,hk⟩:=hcond;injection (dK hd)with e1 e2;subst e1 e2;have hl:All2 (C1 ρ) z.cells.toList z.cells.toList:=(V.v1 (ρ:=ρ) (V1.of_flat hf)).cells hone;exact⟨_,z.cells.toList,z.cells,elem,t,2,k,by simp only[execOp,dR,hr2,dO,dU],kH _ _,by rw[zI],hl,hval k,atOf hse (by simp)⟩);(·obtain⟨k,rfl,hone,hsz,rfl⟩:=newc hd;have hl:All2 (C1 ρ) z.cells.toList z.cells.toList:=(V.v1 (ρ:=ρ) (V1.of_flat hf)).cells hone;exact⟨_,z.cells.toList,z.cells,t,t,0,k,by simp only[execOp,dR,hr2,dO,dU],kH _ _,rfl,hl,hval k,atOf hsz λ_=>rfl⟩)| buildSlice t len parts=>have hps:a6I ρ (parts.toList.map λ(i,x)=>(i,ev l x)) (parts.toList.map λ(i,x)=>(i,a.eval x)):=zK parts.toList λx hx=>hV x.2 (by simp only[Op.operands,jj,eC];exact⟨x,hx,rfl⟩);simp only[opD,dM]at hd;obtain⟨elem,he,size,hs,z,hz,hd⟩:=hd;have hst:=kZ he;have hval:∀(n len:Nat),len*size=n->∀(ρ1:Rho),ρ1 H.length n=some ⟨w.heap.size,0,n,size⟩->V ρ1 (.slice (some ⟨H.length,0,some n⟩) len size) (.slice (some ⟨w.heap.size,0,none⟩) len len):=λn len hl ρ1 h1=>a4J hl h1;split at hd;(·rename_i hc;simp only[dN,bne_iff_ne,beq_iff_eq,List.isEmpty_iff,List.map_eq_nil_iff]at hc;obtain⟨⟨rfl,hp0⟩,hs0⟩:=hc;injection (dK hd)with e1 e2;subst e1 e2;have hpa:parts=#[]:=iO hp0;subst hpa;(have hrun:(Instr.buildSlice t 0 #[]).run P w=.ok (.slice (some ⟨w.heap.size,0,none⟩) 0 0) (w.alloc (.cells #[] elem)):=by unfold Instr.buildSlice;(have er:(Array.range 0).map (λ_=>(default:Value))=#[]:=by simp[Array.range]);simp[run_underlying hst,kX hs,Instr.fill,newRow,er]);exact⟨.slice (some ⟨w.heap.size,0,none⟩) 0 0,[],#[],elem,elem,0,size,by simp only[execOp,Array.map_empty,dR,hrun,dO,dU],kH _ _,by rw[mF],trivial,λρ1 h1=>hval 0 0 (by simp) ρ1 h1,atOf hs λ_=>rfl⟩);split at hd;(·rename_i hc;simp only[dN,decide_eq_true_eq,bne_iff_ne,beq_iff_eq]at hc;obtain⟨⟨⟨⟨hfz,hall1⟩,hsmall⟩,hpos⟩,hzs⟩:=hc;simp only[dS]at hd;obtain⟨cs,hb,hd⟩:=hd;injection hd with e1 e2;subst e1 e2;obtain⟨i,hi,hisz⟩:=a3m hs;subst hisz;(have hiz:i.zero=some z:=by unfold jW at hz;rw[hi]at hz;exact hz);(have hone:∀x∈(parts.toList.map λ(i,x)=>(i,ev l x)),x.2.cells.toList.all oneCell=true:=by simp only[dZ]at hall1 ⊢;exact hall1);obtain⟨r',hr',hall⟩:=a0a _ _ _ hps hone _ _ _ (a2T hfz _) hb;(have hsz:len*i.size=cs.toList.length:=by have:=a0V _ _ _ _ hb;rw[gK,this];simp);have hsm:¬len*i.size>2^24:=Nat.not_lt.2 hsmall;(have hparts:(parts.map λ(i,x)=>(i,a.eval x)).toList=(parts.toList.map λ(i,x)=>(i,a.eval x)):=by simp);have hrun:=run_buildSlice (P:=P) w t elem len (parts.map λ(i,x)=>(i,a.eval x)) r' i z hst hi hiz hsm hpos (by rw[hparts];exact hr');exact⟨.slice (some ⟨w.heap.size,0,none⟩) len len,cs.toList,r',elem,elem,0,i.size,by simp only[execOp,dR,hrun,dO,dU],kH _ _,by rw[mF],hall,λρ1 h1=>hval _ len hsz ρ1 h1,atOf hs λ_=>rfl⟩);(·cases hd)| _=>simp[jQ]at ho
theorem a8T(l:List Value)(d:Option Tmp)(v:Value)(t:Tmp):ev (put l d v) (.tmp t)=if d=some t∧t<l.length then v else ev l (.tmp t):=by cases d with| none=>simp[put]| some k=>simp only[ev,pQ,put,pX,dT,iw,ef];by_cases hk:k=t;(·subst hk;by_cases hl:k<l.length;(·simp[hl]);·simp[hl]);·simp[hk]
theorem nB(a:Act)(d:Option Tmp)(v:Value)(t:Tmp):(a.put d v).eval (.tmp t)=if d=some t∧t<a.tmps.size then v else a.eval (.tmp t):=by cases d with| none=>simp[Act.put]| some k=>simp only[Act.put,Act.eval,ef];by_cases hk:k=t;(·subst hk;by_cases hl:k<a.tmps.size;(·simp[hl]);·simp[hl]);·simp[hk]
theorem lY(l:List Value)(d:Option Tmp)(v:Value):(put l d v).length=l.length:=by cases d<;>simp[put,pX]
theorem a7Y(a:Act)(d:Option Tmp)(v:Value):(a.put d v).tmps.size=a.tmps.size:=by cases d<;>simp[Act.put]
theorem StepR.plain{o:Oper}{l:List Value}{v:Value}{H':Heap}(h:StepR P o l H v H')(hm:kK fl o.op=false):Go.Ds.opD P o l H=some (v,H'):=by refine h.opD λc f hc hf=> ?_;simp[kK,hc,hf]at hm
structure Text(P:Program)(ops:Array Oper)(T:Nat->List Value×Heap)(val:Nat->Value):Prop where step:∀k,k<ops.size->xI P ops k (T k) (T (k+1)) (val k)
section
variable {ops:Array Oper} {T:Nat→List Value×Heap} {val:Nat→Value}
theorem Text.length(X:Text P ops T val):∀k,k<=ops.size->(T k).1.length=(T 0).1.length| 0,_=>rfl| k+1,hk=>by obtain⟨o,_,h,_⟩:=X.step k (by omega);rw[h,lY,X.length k (by omega)]
theorem Text.at(X:Text P ops T val){k:Nat}{o:Oper}(ho:ops[k]? =some o):(T (k+1)).1=put (T k).1 o.dst (val k)∧ ((Region.wanted o (jS ops (T k).1)=true∧StepR P o (T k).1 (T k).2 (val k) (T (k+1)).2)∨(Region.wanted o (jS ops (T k).1)=false∧val k=undef∧(T (k+1)).2=(T k).2)):=by obtain⟨o',ho',h⟩:=X.step k (dQ.1 ho).1;rw[ho]at ho';obtain rfl:=dK ho';exact h
theorem Text.old(X:Text P ops T val){t:Tmp}:∀k,k<=ops.size->(∀i o,i<k->ops[i]? =some o->o.dst≠some t)->ev (T k).1 (.tmp t)=ev (T 0).1 (.tmp t)| 0,_,_=>rfl| k+1,hk,h=>by obtain⟨o,ho,h1,_⟩:=X.step k (by omega);rw[h1,a8T,if_neg (λhh=>h k o (by omega) ho hh.1),X.old k (by omega) λi o' hi=>h i o' (by omega)]
theorem Text.new(X:Text P ops T val)(D:Draw P fl ops){i:Nat}{o:Oper}(ho:ops[i]? =some o){t:Tmp}(hd:o.dst=some t)(ht:t<(T 0).1.length):∀k,i<k->k<=ops.size->ev (T k).1 (.tmp t)=val i| 0,h,_=>absurd h (eK _)| k+1,hk,hn=>by obtain⟨o',ho',h1,_⟩:=X.step k (by omega);rw[h1,a8T];by_cases hik:i=k;(·subst hik;rw[ho]at ho';obtain rfl:=dK ho';rw[if_pos ⟨hd,by rw[X.length _ (by omega)];exact ht⟩]);·rw[if_neg λhh=>D.ne (by omega) ho ho' hd hh.1];exact X.new D ho hd ht k (by omega) (by omega)
theorem Text.still(X:Text P ops T val)(D:Draw P fl ops){k:Nat}{o:Oper}(ho:ops[k]? =some o)(hm:kK fl o.op=false)(ha:jQ fl o.op=false):(T (k+1)).2=(T k).2:=by rcases(X.at ho).2 with⟨_,h⟩|⟨_,_,h⟩;(·have hd:=h.plain hm;cases hr:pC o.op with| true=>exact a0C (D.conv _ _ ho) hr hd| false=>exact(a6s .nil (D.conv _ _ ho) hm ha hr hd).1);·exact h
theorem Text.bI(X:Text P ops T val)(D:Draw P fl ops){i:Nat}:∀k,i<=k->k<=ops.size->(∀j o,i<=j->j<k->ops[j]? =some o->kK fl o.op=false∧jQ fl o.op=false)->(T k).2=(T i).2| 0,h,_,_=>by rw[Nat.le_zero.1 h]| k+1,h,hk,hh=>by by_cases he:i=k+1;(·rw[he]);·obtain⟨o,ho,_⟩:=X.step k (by omega);have:=hh k o (by omega) (by omega) ho;rw[X.still D ho this.1 this.2,X.bI D k (by omega) (by omega) λj o h1 h2=>hh j o h1 (by omega)]
theorem Text.row(X:Text P ops T val)(D:Draw P fl ops){j A:Nat}(hA:A<(T j).2.length):∀k,j<=k->k<=ops.size->(∀i o,j<=i->i<k->ops[i]? =some o->kK fl o.op=false)->jM (T k).2 A=jM (T j).2 A∧A<(T k).2.length| 0,h,_,_=>by rw[<-Nat.le_zero.1 h];exact⟨rfl,hA⟩| k+1,h,hk,hh=>by by_cases he:j=k+1;(·rw[<-he];exact⟨rfl,hA⟩);·obtain⟨o,ho,_⟩:=X.step k (by omega);have hm:=hh k o (by omega) (by omega) ho;obtain⟨h1,h2⟩:=X.row D hA k (by omega) (by omega) λi o h1 h2=>hh i o h1 (by omega);cases ha:jQ fl o.op with| false=>rw[X.still D ho hm ha];exact⟨h1,h2⟩| true=>rcases(X.at ho).2 with⟨_,h3⟩|⟨_,_,h3⟩;(·obtain⟨blk,h4⟩:=a9b ha (h3.plain hm);rw[h4,kG _ h2];exact⟨h1,by rw[length_cons];omega⟩);·rw[h3];exact⟨h1,h2⟩
structure Inv(P:Program)(fl:Fl)(ops:Array Oper)(T:Nat→List Value×Heap)(val:Nat→Value)(ρ0:Rho)(W0:World)(ds:List Deferred)(S:Nat→Prop)(pl:Nat→Nat)(m:Nat)(ρ:Rho)(a:Act)(w:World):Prop where
 le:m≤ops.size
 post:Post P ρ0 (T 0).2 W0 ρ (T m).2 w
 closed:b0T ops S
 mains:∀i o,ops[i]? =some o→kK fl o.op=true→(S i↔i<m)
 allocs:∀i o,ops[i]? =some o→jQ fl o.op=true→i<m→S i
 pend:∀i o,ops[i]? =some o→jQ fl o.op=true→m≤i→S i→W0.heap.size≤pl i∧pl i<w.heap.size∧Off ρ (pl i)∧
  ∃(v':Value)(cs:List Value)(cs':Array Value)(ty ty':TypeId)(tg k:Nat),PendAt P ρ w (T i).2 (T (i+1)).2 (val i) v' (pl i) cs cs' ty ty' tg k∧∀d,o.dst=some d→d<(T 0).1.length→a.eval (.tmp d)=v'
 apart:∀i j x y,ops[i]? =some x→ops[j]? =some y→jQ fl x.op=true→jQ fl y.op=true→m≤i→m≤j→S i→S j→pl i=pl j→i=j
 size:a.tmps.size=(T 0).1.length
 old:∀t,(∀i o,S i→ops[i]? =some o→o.dst≠some t)→V ρ (ev (T 0).1 (.tmp t)) (a.eval (.tmp t))
 new:∀i o t,S i→ops[i]? =some o→o.dst=some t→t<(T 0).1.length→(∀b,lZ fl i o.op=some b→b<m)→V ρ (val i) (a.eval (.tmp t))
 der:∀(i j:Nat)(o b:Oper)(t d:Tmp),S i→ops[i]? =some o→jQ fl o.op=false→lZ fl i o.op=some j→m≤j→o.dst=some t→t<(T 0).1.length→ops[j]? =some b→b.dst=some d→
  ∀ρ1:Rho,(d<(T 0).1.length→V ρ1 (val j) (a.eval (.tmp d)))→V ρ1 (val i) (a.eval (.tmp t))
 defers:a.defers=ds
variable {ρ0:Rho} {W0:World} {ds:List Deferred} {S:Nat→Prop} {pl:Nat→Nat} {m:Nat} {a:Act}
theorem a5P{l:List Value}{t:Tmp}(h:l.length<=t):ev l (.tmp t)=undef:=by simp[ev,pQ,dT,fx h]
theorem a2Q{a:Act}{t:Tmp}(h:a.tmps.size<=t):a.eval (.tmp t)=undef:=by simp[Act.eval,h]
theorem Inv.looks(I:Inv P fl ops T val ρ0 W0 ds S pl m ρ a w)(X:Text P ops T val)(D:Draw P fl ops){i:Nat}{o:Oper}(ho:ops[i]? =some o)(hS:¬S i)(hr:∀e∈o.after,Region.binds .any e=true->S e.on)(hm:kK fl o.op=true->m=i)(hj:∀j,fl.base i=some j->j<m) {t:Tmp} (ht:t∈o.looksAt ops):V ρ (ev (T i).1 (.tmp t)) (a.eval (.tmp t)):=by
 have hi:i<ops.size:=(dQ.1 ho).1;by_cases hl:(T 0).1.length<=t;(·rw[a5P (by rw[X.length i (by omega)];exact hl),a2Q (by rw[I.size];exact hl)];exact .undef);have hl:t<(T 0).1.length:=iS hl;by_cases hk:∃k x,k<i∧ops[k]? =some x∧x.dst=some t;(·obtain⟨k,x,hki,hx,hd⟩:=hk;have hSk:S k:=D.bef I.closed i o ho hr k (D.raw hki hx ho hd ht);rw[X.new D hx hd hl i hki (by omega)];refine I.new k x t hSk hx hd hl λb hb=> ?_;rcases D.fresh hki hx ho hd hb ht with h|h;(·have:=(D.aS hx hb).1;have:=hm h;omega);·exact hj b h);·rw[X.old i (by omega) λk x hki hx hd=>hk ⟨k,x,hki,hx,hd⟩];refine I.old t λk x hSk hx hd=> ?_;rcases Nat.lt_trichotomy k i with h|h|h;(·exact hk ⟨k,x,h,hx,hd⟩);(·exact hS (h▸hSk));·exact hS (D.bef I.closed k x hx (λe he hb=>I.closed k x hSk hx e he hb) i (D.dx h ho hx hd ht))
theorem Inv.operands(I:Inv P fl ops T val ρ0 W0 ds S pl m ρ a w)(X:Text P ops T val)(D:Draw P fl ops){i:Nat}{o:Oper}(ho:ops[i]? =some o)(hS:¬S i)(hr:∀e∈o.after,Region.binds .any e=true->S e.on)(hm:kK fl o.op=true->m=i)(hj:∀j,fl.base i=some j->j<m): ∀x,x∈o.op.operands->jP x=true->V ρ (ev (T i).1 x) (a.eval x):=λx hx hok=>by cases x with| tmp t=>exact I.looks X D ho hS hr hm hj (by unfold Oper.looksAt;simp only[eo,gr];exact .inl ⟨.tmp t,by simpa using hx,rfl⟩)| const v=>exact .of_flat hok| global g=>exact .v1 (.c1 (.c0 (.glob g 0)))| func f=>exact .v1 (.c1 (.fn trivial trivial))
theorem a9F{l:List Value}{a:Act}{ops:Array Oper}{j:Nat}(h:∀d,((ops[j]?).bind (·.dst))=some d->V ρ (ev l (.tmp d)) (a.eval (.tmp d))):yielded ops a.tmps j=jS ops l j:=by
 unfold yielded jS;cases hd:(ops[j]?).bind (·.dst)with| none=>rfl| some d=>have hv:=h d hd;simp only[ev,pQ,Act.eval,dT]at hv;simp only[dL];cases h1:l[d]? with| none=>rw[h1,Option.getD_none]at hv;have:=hv.ai rfl;(cases h2:a.tmps[d]? with| none=>rfl| some v'=>(have:v'=undef:=by simpa [h2]using this);subst this;rfl)| some v=>rw[h1,fV]at hv;cases h2:a.tmps[d]? with| none=>(cases v with| bool b=>have:=hv.aD;simp[h2]at this;cases this| _=>rfl)| some v'=>(have hv:V ρ v v':=by simpa [h2]using hv);cases v' with| bool b=>rw[hv.of_bool]| _=>cases v with| bool b=>have:=hv.aD;cases this| _=>rfl
theorem Inv.wanted(I:Inv P fl ops T val ρ0 W0 ds S pl m ρ a w)(X:Text P ops T val)(D:Draw P fl ops){i:Nat}{o:Oper}(ho:ops[i]? =some o)(hS:¬S i)(hr:∀e∈o.after,Region.binds .any e=true->S e.on)(hm:kK fl o.op=true->m=i)(hj:∀j,fl.base i=some j->j<m): Region.wanted o (yielded ops a.tmps)=Region.wanted o (jS ops (T i).1):=by unfold Region.wanted;cases hg:o.guard with| none=>rfl| some g=>simp only;rw[a9F (l:=(T i).1) λd hd=>I.looks X D ho hS hr hm hj (by unfold Oper.looksAt;simp only[hg,eo];exact .inr (by rw[hd];simp))]
theorem a3P{b:Nat}(h:Off ρ b):¬Wr ρ H b:=by rintro⟨A,e,p,blk,hp,hb,_⟩;exact h _ _ _ hp hb
theorem Inv.skip(I:Inv P fl ops T val ρ0 W0 ds S pl m ρ a w)(X:Text P ops T val)(D:Draw P fl ops){o:Oper}(ho:ops[m]? =some o)(hm:kK fl o.op=false)(ha:jQ fl o.op=false):Inv P fl ops T val ρ0 W0 ds S pl (m+1) ρ a w:=by
 have hlt:m<ops.size:=(dQ.1 ho).1;(have hno:∀i x,ops[i]? =some x->(kK fl x.op=true∨jQ fl x.op=true)->i≠m:=λi x hx he hi=>by subst hi;rw[ho]at hx;obtain rfl:=dK hx;rcases he with he|he;(·rw[hm]at he;cases he);·rw[ha]at he;cases he);refine⟨hlt,by rw[X.still D ho hm ha];exact I.post,I.closed,λi x hx hmx=>(I.mains i x hx hmx).trans ?_,λi x hx hax hi=> ?_,λi x hx hax hi=>I.pend i x hx hax (by omega),λi j x y hx hy h1 h2 h3 h4=>I.apart i j x y hx hy h1 h2 (by omega) (by omega),I.size,I.old,λi x t hS hx hd hl hal=>I.new i x t hS hx hd hl λb hb=> ?_,λi j x y t d hS hx hna hh hj=>I.der i j x y t d hS hx hna hh (by omega),I.defers⟩;(·have:=hno i x hx (.inl hmx);omega);(·have:=hno i x hx (.inr hax);exact I.allocs i x hx hax (by omega));·obtain⟨_,y,hy,hay⟩:=D.aS hx hb;have:=hno b y hy (.inr hay);have:=hal b hb;omega
theorem Inv.bg(I:Inv P fl ops T val ρ0 W0 ds S pl m ρ a w)(D:Draw P fl ops){o:Oper}(ho:ops[m]? =some o)(ha:jQ fl o.op=true)(hS:S m):∃ρ',Inv P fl ops T val ρ0 W0 ds S pl (m+1) ρ' a w:=by
 have hlt:m<ops.size:=(dQ.1 ho).1;obtain⟨h1,h2,h3,v',cs,cs',ty,ty',tg,k,hpa,h8⟩:=I.pend m o ho ha (dP _) hS;have hle:ρ.Le (ρ.put (T m).2.length cs.length ⟨pl m,0,cs.length,k⟩):=.put (oL I.post.rel _);have hpost:=I.post.bg cs ty tg ⟨pl m,0,cs.length,k⟩ h3 h2 h1 (hpa.at_ _ w hpa.here (hpa.rel.mono λ_ _ h=>h.mono hle));rw[<-hpa.next]at hpost;have hmain:kK fl o.op=false:=pT ha;refine⟨_,hlt,hpost,I.closed,λi x hx hmx=>(I.mains i x hx hmx).trans ?_,λi x hx hax hi=> ?_,λi x hx hax hi hSi=> ?_,λi j x y hx hy h1 h2 h3 h4=>I.apart i j x y hx hy h1 h2 (by omega) (by omega),I.size,λt ht=>(I.old t ht).mono hle,λi x t hSi hx hd hl hal=> ?_,λi j x y t d hS hx hna hh hj=>I.der i j x y t d hS hx hna hh (by omega),I.defers⟩;(·(have:i≠m:=λhi=>by subst hi;rw[ho]at hx;obtain rfl:=dK hx;rw[hmain]at hmx;cases hmx);omega);(·by_cases hi2:i=m;(·rw[hi2];exact hS);·exact I.allocs i x hx hax (by omega));(·obtain⟨k1,k2,k3,v1,c1,c2,t1,t2,g1,kk,k4,k5⟩:=I.pend i x hx hax (by omega) hSi;refine⟨k1,k2,λA e p hp=> ?_,v1,c1,c2,t1,t2,g1,kk,k4.mono hle rfl,k5⟩;by_cases hh:A=(T m).2.length∧e=cs.length;(·obtain⟨rfl,rfl⟩:=hh;rw[Rho.aq]at hp;obtain rfl:=dK hp;intro hpl;have:=I.apart m i o x ho hx ha hax (dP _) (by omega) hS hSi hpl;omega);·rw[Rho.aM hh]at hp;exact k3 _ _ _ hp)
 ·by_cases hi:i=m;(·subst hi;rw[ho]at hx;obtain rfl:=dK hx;rw[h8 t hd hl];exact hpa.val _ (Rho.aq _ _ _ _));·by_cases hb:lZ fl i x.op=some m;(·(have hna:jQ fl x.op=false:=by cases h:jQ fl x.op with| false=>rfl| true=>rw[uB h]at hb;exact absurd (dK hb) hi);obtain⟨_,_,_,y,d,_,_,_,hy,hyd,_⟩:=D.aB hx (rV hna hb).1;rw[ho]at hy;obtain rfl:=dK hy;exact I.der i m x o t d hSi hx hna hb (dP _) hd hl ho hyd _ λhdl=>by rw[h8 d hyd hdl];exact hpa.val _ (Rho.aq _ _ _ _));·exact(I.new i x t hSi hx hd hl λb h=>by have:=hal b h;have:b≠m:=λe=>hb (e▸h);omega).mono hle
theorem Inv.cK(X:Text P ops T val)(D:Draw P fl ops):∀(n m:Nat)(ρ:Rho),Inv P fl ops T val ρ0 W0 ds S pl m ρ a w->m+n<=ops.size->(∀k x,m<=k->k<m+n->ops[k]? =some x->kK fl x.op=false∧(jQ fl x.op=true->S k))->∃ρ',Inv P fl ops T val ρ0 W0 ds S pl (m+n) ρ' a w| 0,m,ρ,I,_,_=>⟨ρ,I⟩| n+1,m,ρ,I,hn,hh=>by have ho:ops[m]? =some (ops[m]'(by omega)):=dQ.2 ⟨by omega,rfl⟩;obtain⟨h1,h2⟩:=hh m _ (dP _) (by omega) ho;(have step:∃ρ',Inv P fl ops T val ρ0 W0 ds S pl (m+1) ρ' a w:=by cases ha:jQ fl (ops[m]'(by omega)).op with| true=>exact I.bg D ho ha (h2 ha)| false=>exact⟨ρ,I.skip X D ho h1 ha⟩);obtain⟨ρ1,I1⟩:=step;obtain⟨ρ2,I2⟩:=Inv.cK X D n (m+1) ρ1 I1 (by omega) λk x h3 h4=>hh k x (by omega) (by omega);exact⟨ρ2,by rw[show m+(n+1)=m+1+n by omega];exact I2⟩
theorem Inv.next(I:Inv P fl ops T val ρ0 W0 ds S pl m ρ a w)(X:Text P ops T val)(D:Draw P fl ops){i:Nat}{o:Oper}(ho:ops[i]? =some o)(hS:¬S i)(hr:∀e∈o.after,Region.binds .any e=true->S e.on)(hna:jQ fl o.op=false) {m':Nat} (hm':(kK fl o.op=true∧m=i∧m'=i+1)∨(kK fl o.op=false∧m'=m)) {ρ':Rho} {v':Value} {w':World} (hp:Post P ρ (T m).2 w ρ' (T m').2 w') (hv:(∀b,lZ fl i o.op=some b->b<m')->V ρ' (val i) v') (hdr:∀(j:Nat)(b:Oper)(d:Tmp),lZ fl i o.op=some j->m'<=j->ops[j]? =some b->b.dst=some d->∀ρ1:Rho,(d<(T 0).1.length->V ρ1 (val j) (a.eval (.tmp d)))->V ρ1 (val i) v'): Inv P fl ops T val ρ0 W0 ds (λk=>S k∨k=i) pl m' ρ' (a.put o.dst v') w':=by
 have hi:i<ops.size:=(dQ.1 ho).1;(have hmm:m<=m':=by rcases hm' with⟨_,rfl,rfl⟩|⟨_,rfl⟩<;>omega);(have hne:∀k x,ops[k]? =some x->k≠i->∀d,x.dst=some d->o.dst≠some d:=λk x hx hki d hd hod=>by rcases gY hki with h|h;(·exact D.ne h hx ho hd hod);·exact D.ne h ho hx hod hd);(have hnot:∀k x,ops[k]? =some x->jQ fl x.op=true->k≠i:=λk x hx hax hki=>by subst hki;rw[ho]at hx;obtain rfl:=dK hx;rw[hna]at hax;cases hax);refine⟨?_,I.post.trans hp,?_,λk x hx hmx=> ?_,λk x hx hax hk=> ?_,λk x hx hax hk hSk=> ?_,λk j x y hx hy h1 h2 h3 h4 h5 h6=> ?_,by rw[a7Y];exact I.size,λt ht=> ?_,λk x t hSk hx hd hl hal=> ?_,λk j x y t d hSk hx hka hh hj htd htl hy hyd ρ1 hV=> ?_,by rw[mM];exact I.defers⟩;(·rcases hm' with⟨_,rfl,rfl⟩|⟨_,rfl⟩;(·exact hi);·exact I.le);(·intro j x hj hx e he hb;rcases hj with hj|rfl;(·exact .inl (I.closed j x hj hx e he hb));·rw[ho]at hx;obtain rfl:=dK hx;exact .inl (hr e he hb));(·rcases hm' with⟨h1,rfl,rfl⟩|⟨h1,rfl⟩;(·rw[I.mains k x hx hmx];omega);·rw[I.mains k x hx hmx];(have:k≠i:=λhki=>by subst hki;rw[ho]at hx;obtain rfl:=dK hx;rw[h1]at hmx;cases hmx);omega)
 (·have hki:=hnot k x hx hax;refine .inl (I.allocs k x hx hax ?_);rcases hm' with⟨_,rfl,rfl⟩|⟨_,rfl⟩<;>omega);(·have hki:=hnot k x hx hax;obtain⟨k1,k2,k3,v1,c1,c2,t1,t2,g1,kk,k4,k6⟩:=I.pend k x hx hax (by omega) (hSk.resolve_right hki);refine⟨k1,ez k2 hp.size,hp.img _ k2 k3,v1,c1,c2,t1,t2,g1,kk,k4.mono hp.le (hp.frame _ k2 (a3P k3)).1,λd hd hl=> ?_⟩;rw[nB,if_neg λhh=>hne k x hx hki d hd hh.1];exact k6 d hd hl);(·exact I.apart k j x y hx hy h1 h2 (by omega) (by omega) (h5.resolve_right (hnot k x hx h1)) (h6.resolve_right (hnot j y hy h2)));(·rw[nB,if_neg λhh=>ht i o (.inr rfl) ho hh.1];exact(I.old t λk x hk=>ht k x (.inl hk)).mono hp.le);(·by_cases hki:k=i;(·subst hki;rw[ho]at hx;obtain rfl:=dK hx;rw[nB,if_pos ⟨hd,by rw[I.size];exact hl⟩];exact hv hal);·rw[nB,if_neg λhh=>hne k x hx hki t hd hh.1];refine(I.new k x t (hSk.resolve_right hki) hx hd hl λb h=> ?_).mono hp.le;have h1:=hal b h;obtain⟨_,y,hy,hay⟩:=D.aS hx h;have:=hnot b y hy hay;rcases hm' with⟨_,rfl,rfl⟩|⟨_,rfl⟩<;>omega)
 ·have hji:=hnot j y hy (by obtain⟨_,y',hy',hay⟩:=D.aS hx hh;rw[hy]at hy';obtain rfl:=dK hy';exact hay);(have hV':d<(T 0).1.length->V ρ1 (val j) (a.eval (.tmp d)):=λhdl=>by have:=hV hdl;rw[nB,if_neg λhh=>hne j y hy hji d hyd hh.1]at this;exact this);by_cases hki:k=i;(·subst hki;rw[ho]at hx;obtain rfl:=dK hx;rw[nB,if_pos ⟨htd,by rw[I.size];exact htl⟩];exact hdr j y d hh hj hy hyd ρ1 hV');·rw[nB,if_neg λhh=>hne k x hx hki t htd hh.1];exact I.der k j x y t d (hSk.resolve_right hki) hx hka hh (by omega) htd htl hy hyd ρ1 hV'
theorem Draw.lit(D:Draw P fl ops)(hc:b0T ops S){i j:Nat}{o:Oper}(ho:ops[i]? =some o)(hr:∀e∈o.after,Region.binds .any e=true->S e.on)(hj:fl.base i=some j):S j:=by
 have one:∀(i:Nat)(o b:Oper)(d:Tmp),j<i->ops[i]? =some o->ops[j]? =some b->b.dst=some d->(∀e∈o.after,Region.binds .any e=true->S e.on)->.tmp d∈o.op.operands->S j:=λi o b d hji ho hb hd hr hx=>D.bef hc i o ho hr j (D.raw hji hb ho hd (by unfold Oper.looksAt;simp only[eo,gr];exact .inl ⟨.tmp d,by simpa using hx,rfl⟩));obtain⟨h1,_,_,b,d,_,_,_,hb,hd,_,_,hD⟩:=D.aB ho hj;obtain⟨dst,op,type,pos,after,guard⟩:=o;simp only at hD hr;cases hD with| addr t ix=>exact one i _ b d h1 ho hb hd hr (by simp[Op.operands])| conv s t=>exact one i _ b d h1 ho hb hd hr (by simp[Op.operands])| load t x k y t' x' ix' g1 g2 g3 g4 g5 g6=>have hSk:S k:=D.bef hc i _ ho hr k (D.raw g2 g3 ho g6 (by unfold Oper.looksAt;simp only[eo,gr];exact .inl ⟨.tmp x,by simp[Op.operands],rfl⟩));obtain⟨_,_,_,b',d',_,_,_,hb',hd',_,_,hD'⟩:=D.aB g3 g4;rw[hb]at hb';obtain rfl:=dK hb';rw[hd]at hd';obtain rfl:=dK hd';obtain⟨dst2,op2,type2,pos2,after2,guard2⟩:=y;simp only at g5 hD';subst g5;cases hD';exact one k _ b d g1 g3 hb hd (λe he hb=>hc k _ hSk g3 e he hb) (by simp[Op.operands])
theorem Inv.lits(I:Inv P fl ops T val ρ0 W0 ds S pl m ρ a w)(_X:Text P ops T val)(D:Draw P fl ops){i j:Nat}{o:Oper}(ho:ops[i]? =some o)(hS:S i)(hj:fl.base i=some j):S j:=D.lit I.closed ho (λe he hb=>I.closed i o hS ho e he hb) hj
theorem Inv.early(I:Inv P fl ops T val ρ0 W0 ds S pl m ρ a w)(X:Text P ops T val)(D:Draw P fl ops){i:Nat}{o:Oper}(ho:ops[i]? =some o)(hS:¬S i)(hr:∀e∈o.after,Region.binds .any e=true->S e.on)(hal:jQ fl o.op=true): ∃(v':Value)(w':World),(execOp a.eval o).run P w=.ok (.value v') w'∧Inv P fl ops T val ρ0 W0 ds (λk=>S k∨k=i) (λk=>if k=i then w.heap.size else pl k) m ρ (a.put o.dst v') w':=by
 have hi:i<ops.size:=(dQ.1 ho).1;have hmi:m<=i:=iT λh=>hS (I.allocs i o ho hal h);(have hw:Region.wanted o (jS ops (T i).1)=true:=by unfold Region.wanted;rw[D.guard i o ho hal]);(have hst:StepR P o (T i).1 (T i).2 (val i) (T (i+1)).2:=by rcases(X.at ho).2 with⟨_,h⟩|⟨h,_⟩;(·exact h);·rw[hw]at h;cases h);have hnm:=pT hal;(have hok:∀x,x∈o.op.operands->jP x=true:=λx hx=>by have:=hst.ok;rw[dZ]at this;exact this x (by simpa using hx));obtain⟨v',cs,cs',ty,ty',tg,kk,h1,h2⟩:=b3T hal (hst.plain hnm) (λx hx=>I.operands X D ho hS hr (λh=>by rw[hnm]at h;cases h) (λj hj=>by have:=(D.cA ho hj).2.2;rw[hal]at this;cases this) x hx (hok x hx)) w;refine⟨_,_,h1,?_⟩;have hp:=Post.bf I.post.rel (.cells cs' ty');(have hne:∀k x,ops[k]? =some x->k≠i->∀d,x.dst=some d->o.dst≠some d:=λk x hx hki d hd hod=>by rcases gY hki with h|h;(·exact D.ne h hx ho hd hod);·exact D.ne h ho hx hod hd);(have hoff:Off ρ w.heap.size:=λA e p hq=>by have:=(I.post.rel.dom _ _ _ hq).2;omega)
 refine⟨I.le,I.post.trans hp,?_,λk x hx hmx=> ?_,λk x hx hax hk=>.inl (I.allocs k x hx hax hk),λk x hx hax hk hSk=> ?_,λk j x y hx hy g1 g2 g3 g4 g5 g6 g7=> ?_,by rw[a7Y];exact I.size,λt' ht=> ?_,λk x t' hSk hx hd hl hal'=> ?_,λk j x y t d hSk hx hka hh hj htd htl hy hyd ρ1 hV=> ?_,by rw[mM];exact I.defers⟩;(·intro j x hj hx e he hb;rcases hj with hj|rfl;(·exact .inl (I.closed j x hj hx e he hb));·rw[ho]at hx;obtain rfl:=dK hx;exact .inl (hr e he hb));(·(have:k≠i:=λhki=>by subst hki;rw[ho]at hx;obtain rfl:=dK hx;rw[hnm]at hmx;cases hmx);rw[<-I.mains k x hx hmx];simp[this]);(·by_cases hki:k=i;(·subst hki;rw[ho]at hx;obtain rfl:=dK hx;simp only[if_true];refine⟨I.post.size,by simp,hoff,v',cs,cs',ty,ty',tg,kk,h2,λd hd hl=> ?_⟩;rw[nB,if_pos ⟨hd,by rw[I.size];exact hl⟩]);·simp only[hki,if_false];obtain⟨k1,k2,k3,v1,c1,c2,t1,t2,g1,kk1,k4,k6⟩:=I.pend k x hx hax hk (hSk.resolve_right hki);refine⟨k1,by simp;omega,k3,v1,c1,c2,t1,t2,g1,kk1,k4.mono (λ_ _ _ h=>h) (kD k2),λd hd hl=> ?_⟩;rw[nB,if_neg λhh=>hne k x hx hki d hd hh.1];exact k6 d hd hl)
 (·(have lt:∀k x,ops[k]? =some x->jQ fl x.op=true->m<=k->S k->pl k<w.heap.size:=λk x hx ha hk hSk=>by exact(I.pend k x hx ha hk hSk).2.1);by_cases hki:k=i;(·by_cases hji:j=i;(·rw[hki,hji]);·simp only[hki,hji,if_true,if_false]at g7;have:=lt j y hy g2 g4 (g6.resolve_right hji);omega);·by_cases hji:j=i;(·simp only[hki,hji,if_true,if_false]at g7;have:=lt k x hx g1 g3 (g5.resolve_right hki);omega);·simp only[hki,hji,if_false]at g7;exact I.apart k j x y hx hy g1 g2 g3 g4 (g5.resolve_right hki) (g6.resolve_right hji) g7);(·rw[nB,if_neg λhh=>ht i o (.inr rfl) ho hh.1];exact I.old t' λk x hk=>ht k x (.inl hk));(·(have hki:k≠i:=λhki=>by subst hki;rw[ho]at hx;obtain rfl:=dK hx;have:=hal' _ (uB hal);omega);rw[nB,if_neg λhh=>hne k x hx hki t' hd hh.1];exact I.new k x t' (hSk.resolve_right hki) hx hd hl hal');·(have hki:k≠i:=λhki=>by subst hki;rw[ho]at hx;obtain rfl:=dK hx;rw[hal]at hka;cases hka);rw[nB,if_neg λhh=>hne k x hx hki t htd hh.1];refine I.der k j x y t d (hSk.resolve_right hki) hx hka hh hj htd htl hy hyd ρ1 λhdl=> ?_;have h9:=hV hdl;by_cases hji:j=i;(·subst hji;exfalso;have hb:=(rV hka hh).1;obtain⟨g1,_,_,b',d',_,_,_,g2,g3,_,_,g4⟩:=D.aB hx hb;have hSk':=hSk.resolve_right hki;exact hS (I.lits X D hx hSk' hb));·rw[nB,if_neg λhh=>hne j y hy hji d hyd hh.1]at h9;exact h9
end
end
section
variable {P:Program} {ρ:Rho} {H:Heap} {w:World} {fl:Fl} {ops:Array Oper} {T:Nat→List Value×Heap} {val:Nat→Value}
variable {ρ0:Rho} {W0:World} {ds:List Deferred} {S:Nat→Prop} {pl:Nat→Nat} {m:Nat} {a:Act}
theorem Inv.aB(I:Inv P fl ops T val ρ0 W0 ds S pl m ρ a w)(X:Text P ops T val)(D:Draw P fl ops){i j:Nat}{o:Oper}(ho:ops[i]? =some o)(hS:¬S i)(hr:∀e∈o.after,Region.binds .any e=true->S e.on)(hj:fl.base i=some j)(hmj:m<=j): ∃v',(execOp a.eval o).run P w=.ok (.value v') w∧Inv P fl ops T val ρ0 W0 ds (λk=>S k∨k=i) pl m ρ (a.put o.dst v') w:=by
 have hin:i<ops.size:=(dQ.1 ho).1;have hSj:=D.lit I.closed ho hr hj;obtain⟨hji,hg,hnm,b,d,bt,blen,bparts,hb,hbd,hbo,hba,hD⟩:=D.aB ho hj;obtain⟨hmi,hai⟩:=hD.plain;obtain⟨q1,q2,q3,v0,cs,cs',ty,ty',tg,k,hpa,hslot⟩:=I.pend j b hb hba hmj hSj;(have hwj:Region.wanted b (jS ops (T j).1)=true:=by unfold Region.wanted;rw[D.guard j b hb hba]);(have hopj:opD P b (T j).1 (T j).2=some (val j,(T (j+1)).2):=by rcases(X.at hb).2 with⟨_,h⟩|⟨h,_⟩;(·exact h.plain (pT hba));·rw[hwj]at h;cases h);obtain⟨cs0,elem,size,hcons,hvj⟩:=b9T hbo hopj;(have hrowj:jM (T (j+1)).2 (T j).2.length=some (.cells cs ty true cs.length tg):=by rw[hpa.next,jJ]);(have hcs:cs0=cs:=by rw[hcons,jJ]at hrowj;injection (dK hrowj));subst hcs;have hA:(T j).2.length<(T (j+1)).2.length:=jX hrowj;(have hrowi:jM (T i).2 (T j).2.length=some (.cells cs0 ty true cs0.length tg):=by rw[(X.row D hA i (by omega) (by omega) λq x h1 h2 hx=>hnm q x (by omega) h2 hx).1];exact hrowj)
 (have hrow:a7M P ρ (T i).2 w (T j).2.length cs0.length ⟨pl j,0,cs0.length,k⟩:=by intro cs2 ty2 rw2 lo2 ver2 hg2;rw[hrowi]at hg2;injection (dK hg2)with e1 e2 e3 e4 e5;subst e1 e2 e3 e4 e5;exact hpa.at_ ρ w hpa.here hpa.rel);let ρj:Rho:=Rho.put (λ_ _=>none) (T j).2.length cs0.length ⟨pl j,0,cs0.length,k⟩;have hput:ρj (T j).2.length cs0.length=some ⟨pl j,0,cs0.length,k⟩:=Rho.aq _ _ _ _;(have hdj:d<(T 0).1.length->V ρj (val j) (a.eval (.tmp d)):=λhdl=>by rw[hslot d hbd hdl];exact hpa.val _ hput);(have looks:∀t,t∈o.looksAt ops->∃ρ',V ρ' (ev (T i).1 (.tmp t)) (a.eval (.tmp t)):=by intro t ht;by_cases hl:(T 0).1.length<=t;(·rw[a5P (by rw[X.length i (by omega)];exact hl),a2Q (by rw[I.size];exact hl)];exact⟨ρ,.undef⟩);have hl:t<(T 0).1.length:=iS hl;by_cases hk:∃q x,q<i∧ops[q]? =some x∧x.dst=some t;(·obtain⟨q,x,hqi,hx,hd⟩:=hk;have hSq:S q:=D.bef I.closed i o ho hr q (D.raw hqi hx ho hd ht);rw[X.new D hx hd hl i hqi (by omega)];cases hh:lZ fl q x.op with| none=>exact⟨ρ,I.new q x t hSq hx hd hl λc hc=>by rw[hh]at hc;cases hc⟩| some c=>by_cases hcm:c<m;(·exact⟨ρ,I.new q x t hSq hx hd hl λc' hc=>by rw[hh]at hc;obtain rfl:=dK hc;exact hcm⟩);·refine⟨ρj,?_⟩;rcases D.fresh hqi hx ho hd hh ht with h|h;(·rw[hmi]at h;cases h);·rw[hj]at h;obtain rfl:=dK h;cases hax:jQ fl x.op with| true=>rw[uB hax]at hh;obtain rfl:=dK hh;rw[hb]at hx;obtain rfl:=dK hx;rw[hbd]at hd;obtain rfl:=dK hd;exact hdj hl| false=>exact I.der q _ x b t d hSq hx hax hh hmj hd hl hb hbd _ hdj);·rw[X.old i (by omega) λq x hqi hx hd=>hk ⟨q,x,hqi,hx,hd⟩];refine⟨ρ,I.old t λq x hSq hx hd=> ?_⟩;rcases Nat.lt_trichotomy q i with h|h|h;(·exact hk ⟨q,x,h,hx,hd⟩);(·exact hS (h▸hSq));·exact hS (D.bef I.closed q x hx (λe he hb=>I.closed q x hSq hx e he hb) i (D.dx h ho hx hd ht)))
 (have hwi:Region.wanted o (jS ops (T i).1)=true:=by unfold Region.wanted;rw[hg]);(have hst:StepR P o (T i).1 (T i).2 (val i) (T (i+1)).2:=by rcases(X.at ho).2 with⟨_,h⟩|⟨h,_⟩;(·exact h);·rw[hwi]at h;cases h);have hop:=hst.plain hmi;(have hoks:∀x,x∈o.op.operands->jP x=true:=λx hx=>by have:=hst.ok;rw[dZ]at this;exact this x (by simpa using hx));(have hV:∀x,x∈o.op.operands->∃ρ',V ρ' (ev (T i).1 x) (a.eval x):=λx hx=>by have hok:=hoks x hx;cases x with| tmp t=>exact looks t (by unfold Oper.looksAt;simp only[eo,gr];exact .inl ⟨.tmp t,by simpa using hx,rfl⟩)| const v=>exact⟨ρ,.of_flat hok⟩| global g=>exact⟨ρ,.v1 (.c1 (.c0 (.glob g 0)))⟩| func f=>exact⟨ρ,.v1 (.c1 (.fn trivial trivial))⟩);have hdi:d<(T 0).1.length∨(T 0).1.length<=d:=gC _ _;have evd:d<(T 0).1.length->∀q,j<q->q<=ops.size->ev (T q).1 (.tmp d)=val j:=λhdl q h1 h2=>X.new D hb hbd hdl q h1 h2;have evn:(T 0).1.length<=d->∀q,q<=ops.size->ev (T q).1 (.tmp d)=undef:=λhdl q h1=>a5P (by rw[X.length q h1];exact hdl)
 (have fin:∀{v':Value},(execOp a.eval o).run P w=.ok (.value v') w->((∀c,lZ fl i o.op=some c->c<m)->V ρ (val i) v')->(lZ fl i o.op=some j->∀ρ1:Rho,(d<(T 0).1.length->V ρ1 (val j) (a.eval (.tmp d)))->V ρ1 (val i) v')-> ∃v',(execOp a.eval o).run P w=.ok (.value v') w∧Inv P fl ops T val ρ0 W0 ds (λk=>S k∨k=i) pl m ρ (a.put o.dst v') w:=by intro v' h1 h2 h3;refine⟨v',h1,I.next X D ho hS hr hai (.inr ⟨hmi,rfl⟩) (.refl I.post.rel) h2 λj' b' d' hh _ hb' hd' ρ1 hV1=> ?_⟩;have:=(rV hai hh).1;rw[hj]at this;obtain rfl:=dK this;rw[hb]at hb';obtain rfl:=dK hb';rw[hbd]at hd';obtain rfl:=dK hd';exact h3 hh ρ1 hV1);obtain⟨dst,op,type,pos,after,guard⟩:=o;simp only at hD hV;cases hD with| addr t ix=>obtain⟨ρi,hVi⟩:=hV ix (by simp[Op.operands]);simp only[opD]at hop;(have hdl:d<(T 0).1.length:=by rcases hdi with h|h;(·exact h);·rw[evn h i (by omega)]at hop;simp[undef]at hop);have hVx:=hdj hdl;rw[evd hdl i hji (by omega),hvj]at hop;rw[hvj]at hVx;split at hop;(·rename_i elem' A i' e n c jk jx hu hx hi;injection hx with hx1 hx2 hx3;injection (dK hx1)with hx4 hx5 hx6;obtain rfl:=hx4;obtain rfl:=hx5;obtain rfl:=dK hx6;obtain rfl:=hx2;obtain rfl:=hx3;simp only[dM]at hop;obtain⟨sz,hs,hop⟩:=hop;split at hop;(case isFalse=>cases hop);rename_i hc;simp only[dN,decide_eq_true_eq]at hc;injection (dK hop)with e1 e2;rw[hi]at hVi;obtain⟨p,c',ad,hp,h0,hin',hnc,ha,hck,hbv⟩:=hVx.ax;(obtain⟨ha,hsz⟩:ad=⟨p.b,p.at 0,none⟩∧p.at 0+c'*p.k<=p.sz:=by rcases ha with ha|ha;(·exact ha);·omega);subst ha;(have hrun:(Instr.indexAt t (a.eval (.tmp d)) (a.eval ix)).run P w=.ok (.pointer (some ⟨p.b,p.at 0+jx.toNat*sz,none⟩)) w:=by unfold Instr.indexAt;simp only[hbv,hVi.aI,asIntOf,dR,dU,dO,run_underlying hu];simp[hc,oM,kX hs]);refine fin (v':=.pointer (some ⟨p.b,p.at 0+jx.toNat*sz,none⟩)) (by simp only[execOp,dR,hrun,dO,dU]) (λh=> ?_) λ_ ρ1 h1=> ?_;(·have:=h j (by simp[lZ,jQ,hj]);omega);·have h2:=h1 hdl;rw[hvj]at h2;obtain⟨p2,c2,ad2,hp2,h02,_,hnc2,ha2,_,hbv2⟩:=h2.ax;(obtain⟨ha2,_⟩:ad2=⟨p2.b,p2.at 0,none⟩∧p2.at 0+c2*p2.k<=p2.sz:=by rcases ha2 with ha2|ha2;(·exact ha2);·omega);subst ha2;rw[hbv]at hbv2;injection hbv2 with g1 g2 g3;injection (dK g1)with g4 g5 g6;rw[<-e1,g4,g5,<-wD h02];exact .v1 (.c1 (.c0 (.ptr hp2 (by have:0<=jx.toNat*sz:=fJ _;omega)))));(·rename_i hx _;cases hx);(·rename_i hx _;cases hx);(·cases hop)| conv s t=>have hcv:=D.conv _ _ ho;simp only[uD,dN,eV]at hcv;simp only[opD,hcv.1,Bool.not_false,gz]at hop;rcases hdi with hdl|hdl;(·have hVx:=hdj hdl;rw[evd hdl i hji (by omega),hvj]at hop;rw[hvj]at hVx;have hfl:flat (.slice (some ⟨(T j).2.length,0,some cs0.length⟩) blen size)=false:=rfl;rw[hfl]at hop;simp only[eH,if_false]at hop;split at hop;(case isFalse=>cases hop);rename_i hc;simp only[dN]at hc;cases hca:(kB (T i).2 (T j).2.length 0 cs0.length blen).bind λl=>(oO l).map Value.string with| none=>rw[hca]at hop;cases hop| some v2=>rw[hca]at hop;injection (dK hop)with e1 e2;simp only[dM,dS]at hca;obtain⟨lx,hc1,bx,hc2,hc3⟩:=hca;obtain⟨p,c',ad,hp,h0,_,_,ha,_,hbv⟩:=hVx.ax;rw[hput]at hp;obtain rfl:=dK hp;have hrun:=sW hrow h0 hc.1 hc.2 hc1 hc2 ha;rw[<-hbv]at hrun;refine fin (v':=.string bx) (by simp only[execOp,dR,hrun,dO,dU]) (λ_=> ?_) λh=> ?_;(·rw[<-e1,<-hc3];exact .of_flat rfl);·simp[lZ,jQ]at h);(·have e1:=evn hdl i (by omega);have e2:a.eval (.tmp d)=undef:=a2Q (by rw[I.size];exact hdl);rw[e1]at hop;have hfu:flat undef=true:=rfl;rw[if_pos hfu]at hop;unfold lE at hop;split at hop;(case isFalse=>cases hop);cases h2:jK P (execOp (ev (T i).1) ⟨dst,.convert s t (.tmp d),type,pos,after,guard⟩)with| none=>rw[h2]at hop;cases hop| some nx=>rw[h2]at hop;cases nx with| value v2=>simp only at hop;split at hop;(case isFalse=>cases hop);rename_i hf2;injection (dK hop)with g1 g2;have hrun:=lN _ h2 w;(have heq:execOp (ev (T i).1) ⟨dst,.convert s t (.tmp d),type,pos,after,guard⟩=execOp a.eval ⟨dst,.convert s t (.tmp d),type,pos,after,guard⟩:=by simp only[execOp,e1,e2]);rw[heq]at hrun;refine fin hrun (λ_=> ?_) λh=> ?_;(·rw[<-g1];exact .of_flat hf2);(·simp[lZ,jQ]at h)| _=>cases hop)| load t x k' y t' x' ix' g1 g2 g3 g4 g5 g6=>simp only[opD]at hop;cases hlo:mS P (T i).2 t (ev (T i).1 (.tmp x))with| none=>rw[hlo]at hop;cases hop| some r=>rw[hlo]at hop;injection (dK hop)with e1 e2;(have hxl:x<(T 0).1.length:=by refine iS λh=> ?_;rw[a5P (by rw[X.length i (by omega)];exact h)]at hlo;simp[mS,undef]at hlo);rw[X.new D g3 g6 hxl i g2 (by omega)]at hlo;obtain⟨_,hgk,_,b',d',_,_,_,hb',hd',_,_,hD'⟩:=D.aB g3 g4;rw[hb]at hb';obtain rfl:=dK hb';rw[hbd]at hd';obtain rfl:=dK hd';have hyp:=hD'.plain;(have hwk:Region.wanted y (jS ops (T k').1)=true:=by unfold Region.wanted;rw[hgk]);(have hopk:opD P y (T k').1 (T k').2=some (val k',(T (k'+1)).2):=by rcases(X.at g3).2 with⟨_,h⟩|⟨h,_⟩;(·exact h.plain hyp.1);·rw[hwk]at h;cases h);have hSk:S k':=D.bef I.closed i _ ho hr k' (D.raw g2 g3 ho g6 (by unfold Oper.looksAt;simp only[eo,gr];exact .inl ⟨.tmp x,by simp[Op.operands],rfl⟩));(have hheld:lZ fl k' y.op=some j:=by rw[g5];simp[lZ,jQ,g4]);have hVk:V ρj (val k') (a.eval (.tmp x)):=I.der k' j y b x d hSk g3 hyp.2 hheld hmj g6 hxl hb hbd _ hdj;obtain⟨dst2,op2,type2,pos2,after2,guard2⟩:=y;simp only at g5 hD';subst g5;cases hD';simp only[opD]at hopk;(have hdl:d<(T 0).1.length:=by rcases hdi with h|h;(·exact h);·rw[evn h k' (by omega)]at hopk;simp[undef]at hopk);rw[evd hdl k' g1 (by omega),hvj]at hopk;split at hopk;(·rename_i elem' A i' e n c jk jx hu hx hi;injection hx with hx1 hx2 hx3;injection (dK hx1)with hx4 hx5 hx6;obtain rfl:=hx4;obtain rfl:=hx5;obtain rfl:=dK hx6;simp only[dM]at hopk;obtain⟨sz,hs,hopk⟩:=hopk;split at hopk;(case isFalse=>cases hopk);injection (dK hopk)with f1 f2;rw[<-f1]at hlo hVk;obtain⟨p,hp,h0,hbv⟩:=hVk.aE;rw[hput]at hp;obtain rfl:=dK hp;simp only[mS]at hlo;obtain⟨r',hr1,hr2⟩:=a6K hrow h0 hlo;rw[<-hbv]at hr1;refine fin (v':=r') (by simp only[execOp,dR,hr1,dO,dU]) (λ_=> ?_) λh=> ?_;(·rw[<-e1];exact hr2);·simp[lZ,jQ]at h);(·rename_i hx _;cases hx);(·rename_i hx _;cases hx);·cases hopk
theorem Inv.done(I:Inv P fl ops T val ρ0 W0 ds S pl m ρ a w)(X:Text P ops T val)(D:Draw P fl ops)(hall:∀i,i<ops.size->S i): ∃ρ',Post P ρ0 (T 0).2 W0 ρ' (T ops.size).2 w∧All2 (V ρ') (T ops.size).1 a.tmps.toList∧a.defers=ds:=by
 have hle:=I.le;(obtain⟨ρ',I'⟩:=Inv.cK X D (ops.size-m) m ρ I (by omega) λk x h1 h2 hx=>by have hk:S k:=hall k (by omega);refine⟨?_,λ_=>hk⟩;cases hm:kK fl x.op with| false=>rfl| true=>have:=(I.mains k x hx hm).1 hk;omega);rw[show m+(ops.size-m)=ops.size by omega]at I';refine⟨ρ',I'.post,All2.bp (by rw[X.length _ (dP _)];simpa using I'.size.symm) λt v h1=> ?_,I'.defers⟩;(have ht:t<(T 0).1.length:=by rw[<-X.length _ (dP _)];exact(dW.1 h1).1);(have e1:ev (T ops.size).1 (.tmp t)=v:=by simp[ev,pQ,dT,h1]);(have ht2:t<a.tmps.size:=by rw[I'.size];exact ht);refine⟨a.tmps[t],by simp[ht2],?_⟩;(have e2:a.eval (.tmp t)=a.tmps[t]:=by simp[Act.eval,ht2]);rw[<-e1,<-e2];by_cases hk:∃k x,k<ops.size∧ops[k]? =some x∧x.dst=some t;(·obtain⟨k,x,hkn,hx,hd⟩:=hk;rw[X.new D hx hd ht _ hkn (dP _)];exact I'.new k x t (hall k hkn) hx hd ht λb hb=>by have:=(D.aS hx hb).1;omega);·rw[X.old _ (dP _) λk x hkn hx hd=>hk ⟨k,x,hkn,hx,hd⟩];exact I'.old t λk x hS hx hd=>hk ⟨k,x,(dQ.1 hx).1,hx,hd⟩
theorem qJ{listed:Array Bool}(hsz:listed.size=ops.size){i:Nat}(h:i∈Region.ready .any ops listed): ∃o,ops[i]? =some o∧¬listed.getD i false=true∧∀e∈o.after,Region.binds .any e=true->listed.getD e.on false=true:=by unfold Region.ready at h;rw[gS]at h;obtain⟨hi,h⟩:=h;have hi:i<ops.size:=eO.1 hi;have ho:ops[i]? =some ops[i]:=dQ.2 ⟨hi,rfl⟩;rw[ho,dN]at h;refine⟨ops[i],ho,?_,?_⟩;(·have h1:=h.1;rw[fh,gi (by omega)]at h1 ⊢;simpa using h1);·have h2:=h.2;simp only[eA,fV,Array.all_eq_true_iff_forall_mem,fF,eV]at h2;intro e he hb;rcases h2 e he with h|h;(·rw[hb]at h;cases h);·exact h
theorem a0T{listed:Array Bool}(hsz:listed.size=ops.size){i:Nat}{o:Oper}(ho:ops[i]? =some o)(hn:¬listed.getD i false=true)(hr:∀e∈o.after,Region.binds .any e=true->listed.getD e.on false=true):i∈Region.ready .any ops listed:=by have hi:i<ops.size:=(dQ.1 ho).1;unfold Region.ready;rw[gS];refine⟨eO.2 hi,?_⟩;rw[ho,dN];constructor;(·rw[fh,gi (by omega)]at hn ⊢;simpa using hn);·simp only[eA,fV,Array.all_eq_true_iff_forall_mem,fF,eV];intro e he;cases hb:Region.binds .any e with| false=>exact .inl rfl| true=>exact .inr (hr e he hb)
theorem b4h{listed:Array Bool}(hsz:listed.size=ops.size)(h:∀i,i<ops.size->listed.getD i false=true):Region.ready .any ops listed=[]:=by cases hr:Region.ready .any ops listed with| nil=>rfl| cons i r=>obtain⟨o,ho,hn,_⟩:=qJ hsz (i:=i) (by rw[hr];simp);exact absurd (h i (dQ.1 ho).1) hn
theorem a1s(D:Draw P fl ops){listed:Array Bool}(hsz:listed.size=ops.size)(h:Region.ready .any ops listed=[]):∀i,i<ops.size->listed.getD i false=true:=by intro i;induction i using Nat.strongRecOn with| _ i ih=>intro hi;have ho:ops[i]? =some ops[i]:=dQ.2 ⟨hi,rfl⟩;refine iW λhn=> ?_;(have:=a0T hsz ho hn λe he hb=>by have:=D.back i _ e ho he hb;exact ih e.on this (by omega));rw[h]at this;cases this
theorem uI{listed:Array Bool}{i:Nat}(hi:i<listed.size)(j:Nat):(listed.setIfInBounds i true).getD j false=true↔(listed.getD j false=true∨j=i):=by rw[fh,fh,Array.getElem?_setIfInBounds];by_cases h:i=j;(·subst h;simp[hi]);·simp[h,gh h]
theorem Inv.congr{S':Nat->Prop}(h:∀j,S' j↔S j)(I:Inv P fl ops T val ρ0 W0 ds S pl m ρ a w):Inv P fl ops T val ρ0 W0 ds S' pl m ρ a w:=by have:S'=S:=funext λj=>propext (h j);rw[this];exact I
theorem b9X{o:Oper}{i:Nat}(h:(o,i)∈ops.toList.zipIdx):ops[i]? =some o:=by rw[iH]at h;simpa using h
theorem b2L{j:Nat}{x:Oper}(hx:ops[j]? =some x)(hm:kK fl x.op=true):j∈zX fl ops:=by unfold zX;rw[gr];exact⟨(x,j),oF hx,by simp[hm]⟩
theorem a4t{j:Nat}(h:j∈zX fl ops):∃x,ops[j]? =some x∧kK fl x.op=true:=by unfold zX at h;rw[gr]at h;obtain⟨⟨x,j'⟩,h1,h2⟩:=h;simp only at h2;split at h2;(·rename_i hm;obtain rfl:=dK h2;exact⟨x,b9X h1,hm⟩);·cases h2
theorem a7B{j:Nat}{x:Oper}(hx:ops[j]? =some x)(hm:kK fl x.op=true∨jQ fl x.op=true):j∈a0E fl ops:=by unfold a0E;rw[gr];exact⟨(x,j),oF hx,by rcases hm with hm|hm<;>simp[hm]⟩
theorem b7i{i m:Nat}{o:Oper}(ho:ops[i]? =some o)(hr:pC o.op=true)(hm:m=0∨∃j x,m=j+1∧ops[j]? =some x∧kK fl x.op=true) (hlo:∀j x,ops[j]? =some x->kK fl x.op=true->(bef ops i j=true->j<m)∧(bef ops j i=true->m<=j)) (hbs:∀j,fl.base i=some j->j<m): (i,m)∈nS fl ops∨∀j x,ops[j]? =some x->min m i<=j->j<max m i->kK fl x.op=false∧jQ fl x.op=false:=by
 by_cases h:∃j x,ops[j]? =some x∧(kK fl x.op=true∨jQ fl x.op=true)∧min m i<=j∧j<max m i;(·obtain⟨j,x,hx,he,h1,h2⟩:=h;refine .inl ?_;unfold nS;rw[gw];refine⟨(o,i),oF ho,?_⟩;simp only[hr,if_true];rw[eC];refine⟨m,?_,rfl⟩;rw[gS];refine⟨?_,?_⟩;(·rcases hm with rfl|⟨j,x,rfl,hx,hmx⟩;(·simp);·exact fj _ (eC.2 ⟨j,b2L hx hmx,rfl⟩));·rw[dN,dN];refine⟨⟨?_,?_⟩,?_⟩;(·rw[dZ];intro j hj;obtain⟨x,hx,hmx⟩:=a4t hj;obtain⟨g1,g2⟩:=hlo j x hx hmx;unfold bef at g1 g2;rw[dN];constructor;(·cases hb:((a3U [] ops.toList).getD i 0).testBit j with| false=>rfl| true=>simpa using g1 hb);·cases hb:((a3U [] ops.toList).getD j 0).testBit i with| false=>rfl| true=>simpa using g2 hb);(·rw[gW];exact⟨j,a7B hx he,by rw[dN];exact⟨decide_eq_true h1,decide_eq_true h2⟩⟩);·split;(·rename_i j hj;exact decide_eq_true (hbs j hj));·rfl);·refine .inr λj x hx h1 h2=> ?_;constructor;(·cases hm:kK fl x.op with| false=>rfl| true=>exact absurd ⟨j,x,hx,.inl hm,h1,h2⟩ h);·cases hm:jQ fl x.op with| false=>rfl| true=>exact absurd ⟨j,x,hx,.inr hm,h1,h2⟩ h
theorem a2w{i m:Nat}(h:(i,m)∈nS fl ops):m<=ops.size:=by unfold nS at h;rw[gw]at h;obtain⟨⟨x,j⟩,_,h⟩:=h;simp only at h;split at h;(·rw[eC]at h;obtain⟨m',h,he⟩:=h;injection he with h1 h2;subst h1 h2;rw[gS]at h;rcases fC.1 h.1 with h|h;(·omega);·rw[eC]at h;obtain⟨q,hq,rfl⟩:=h;obtain⟨x,hx,_⟩:=a4t hq;exact(dQ.1 hx).1);·cases h
theorem c3J(X:Text P ops T val)(D:Draw P fl ops) (hread:∀i m o,(i,m)∈nS fl ops->ops[i]? =some o->Region.wanted o (jS ops (T i).1)=true->∃H2,opD P o (T i).1 (T m).2=some (val i,H2)) (ro:Option Nat) (k:Nat) {Q:Exit->Act->World->Prop} (hQ:∀ρ' a' w',Post P ρ0 (T 0).2 W0 ρ' (T ops.size).2 w'->All2 (V ρ') (T ops.size).1 a'.tmps.toList->a'.defers=ds->Q .normal a' w'): ∀(fuel:Nat)(listed:Array Bool)(U:List Nat),listed.size=ops.size->(∀i,i<ops.size->¬listed.getD i false=true->i∈U)->U.length<=fuel-> ∀(pl:Nat->Nat)(m:Nat)(ρ:Rho)(a:Act)(w:World),Inv P fl ops T val ρ0 W0 ds (λj=>listed.getD j false=true) pl m ρ a w->(m=0∨∃j o,m=j+1∧ops[j]? =some o∧kK fl o.op=true)-> wpAnyIn (fe ro) k P .any ops Q fuel listed a w:=by
 (have fin:∀{listed:Array Bool}{pl:Nat->Nat}{m:Nat}{ρ:Rho}{a:Act}{w:World},(∀i,i<ops.size->listed.getD i false=true)->Inv P fl ops T val ρ0 W0 ds (λj=>listed.getD j false=true) pl m ρ a w->Q .normal a w:=by intro listed pl m ρ a w hall I;obtain⟨ρ',h1,h2,h3⟩:=I.done X D hall;exact hQ ρ' a w h1 h2 h3);intro fuel;induction fuel with| zero=>intro listed U hsz hU hlen pl m ρ a w I hm;(have hall:∀i,i<ops.size->listed.getD i false=true:=λi hi=>iW λhn=>by have:=hU i hi hn;have h0:U=[]:=fQ (by omega);rw[h0]at this;cases this);exact⟨b4h hsz hall,fin hall I⟩| succ fuel ih=>intro listed U hsz hU hlen pl m ρ a w I hm;refine⟨λh=>fin (a1s D hsz h) I,λi hi=> ?_⟩;obtain⟨o,ho,hn,hr⟩:=qJ hsz hi;have hin:i<ops.size:=(dQ.1 ho).1;have hiU:i∈U:=hU i hin hn;(have on:∀(pl:Nat->Nat)(m:Nat)(ρ:Rho)(a:Act)(w:World),Inv P fl ops T val ρ0 W0 ds (λj=>listed.getD j false=true∨j=i) pl m ρ a w->(m=0∨∃j o,m=j+1∧ops[j]? =some o∧kK fl o.op=true)-> wpAnyIn (fe ro) k P .any ops Q fuel (listed.setIfInBounds i true) a w:=by intro pl m ρ a w I hm;refine ih (listed.setIfInBounds i true) (U.erase i) (by simp[hsz]) ?_ (by have h1:=List.length_erase_of_mem hiU;have h2:=List.length_pos_of_mem hiU;omega) pl m ρ a w (I.congr λj=>uI (by omega) j) hm;intro j hj hnj;have hnj':=mt (uI (by omega) j).2 hnj;have hji:j≠i:=λh=>hnj' (.inr h);exact(List.mem_erase_of_ne hji).2 (hU j hj λh=>hnj' (.inl h)));unfold wpOpIn;rw[ho];simp only;cases hma:kK fl o.op with| true=>have hmi:m<=i:=iT λh=>hn ((I.mains i o ho hma).2 h);(obtain⟨ρ1,I1⟩:=Inv.cK X D (i-m) m ρ I (by omega) λj x h1 h2 hx=>by(have hji:j<i:=by omega);refine⟨?_,λhal=>D.bef I.closed i o ho hr j (D.main hji hx ho (.inr hal) hma)⟩;cases hmx:kK fl x.op with| false=>rfl| true=>have:=(I.mains j x hx hmx).1 (D.bef I.closed i o ho hr j (D.main hji hx ho (.inl hmx) hma));omega);rw[show m+(i-m)=i by omega]at I1;(have hna:jQ fl o.op=false:=by cases h:jQ fl o.op with| false=>rfl| true=>rw[pT h]at hma;cases hma);have hbm:∀j,fl.base i=some j->j<i:=λj hj=>(D.cA ho hj).1;rw[I1.wanted X D ho hn hr (λ_=>rfl) hbm];(have nod:∀{v':Value}(j:Nat)(b:Oper)(d:Tmp),lZ fl i o.op=some j->i+1<=j->ops[j]? =some b->b.dst=some d->∀ρ1:Rho,(d<(T 0).1.length->V ρ1 (val j) (a.eval (.tmp d)))->V ρ1 (val i) v':=λj b d hh hij=>by have:=(D.aS ho hh).1;omega);rcases(X.at ho).2 with⟨hw,hst⟩|⟨hw,hv,hT⟩;(·rw[hw,if_pos rfl];refine hst.sound I1.post.rel (I1.operands X D ho hn hr (λ_=>rfl) hbm) ro k λρ2 v2 w2 hp2 hv2=> ?_;exact on _ _ _ _ _ (I1.next X D ho hn hr hna (.inl ⟨hma,rfl,rfl⟩) hp2 (λ_=>hv2) nod) (.inr ⟨i,o,rfl,ho,hma⟩));(·rw[hw,if_neg (by simp)];refine⟨λ_ _=>trivial,?_⟩;refine on _ _ _ _ _ (I1.next X D ho hn hr hna (.inl ⟨hma,rfl,rfl⟩) (by rw[hT];exact .refl I1.post.rel) (λ_=>by rw[hv];exact .undef) nod) (.inr ⟨i,o,rfl,ho,hma⟩))| false=>by_cases hder:∃j,fl.base i=some j∧m<=j;(·obtain⟨j,hj,hmj⟩:=hder;obtain⟨v',hrun,I'⟩:=I.aB X D ho hn hr hj hmj;have hg:=(D.aB ho hj).2.1;(have hw:Region.wanted o (yielded ops a.tmps)=true:=by unfold Region.wanted;rw[hg]);rw[hw,if_pos rfl];refine⟨λ_ _=>trivial,?_⟩;(have hdef:∀c,o.op≠.defer c:=λc hc=>by obtain⟨_,_,_,_,_,_,_,_,_,_,_,_,hD⟩:=D.aB ho hj;rw[hc]at hD;cases hD);rw[iz _ _ _ hdef,hrun];exact on _ _ _ _ _ I' hm);have hbm:∀j,fl.base i=some j->j<m:=λj hj=>iS λh=>hder ⟨j,hj,h⟩;rw[I.wanted X D ho hn hr (λh=>by rw[hma]at h;cases h) hbm];cases hal:jQ fl o.op with| true=>(have hw:Region.wanted o (jS ops (T i).1)=true:=by unfold Region.wanted;rw[D.guard i o ho hal]);rw[hw,if_pos rfl];obtain⟨v',w',hrun,I'⟩:=I.early X D ho hn hr hal;refine⟨λ_ _=>trivial,?_⟩;(have hdef:∀c,o.op≠.defer c:=λc hc=>by rw[hc]at hal;cases hal);rw[iz _ _ _ hdef,hrun];exact on _ _ _ _ _ I' hm| false=>have hops:=I.operands X D ho hn hr (λh=>by rw[hma]at h;cases h) hbm;(have nod:∀{v':Value}(j:Nat)(b:Oper)(d:Tmp),lZ fl i o.op=some j->m<=j->ops[j]? =some b->b.dst=some d->∀ρ1:Rho,(d<(T 0).1.length->V ρ1 (val j) (a.eval (.tmp d)))->V ρ1 (val i) v':=λj b d hh hij=>by have:=hbm j (rV hal hh).1;omega);rcases(X.at ho).2 with⟨hw,hst⟩|⟨hw,hv,hT⟩;(·rw[hw,if_pos rfl];have hop:=hst.plain hma;(have hopm:opD P o (T i).1 (T m).2=some (val i,(T m).2):=by cases hrd:pC o.op with| false=>exact(a6s (T m).2 (D.conv _ _ ho) hma hal hrd hop).2| true=>have hlo:∀j x,ops[j]? =some x->kK fl x.op=true->(bef ops i j=true->j<m)∧(bef ops j i=true->m<=j):=λj x hx hmx=>⟨λhb=>(I.mains j x hx hmx).1 (D.bef I.closed i o ho hr j hb),λhb=>iT λhlt=>by have hSj:=(I.mains j x hx hmx).2 hlt;exact hn (D.bef I.closed j x hx (λe he hb'=>I.closed j x hSj hx e he hb') i hb)⟩;rcases b7i ho hrd hm hlo hbm with hmem|hno;(·obtain⟨H2,hH2⟩:=hread i m o hmem ho hw;rw[hH2,a0C (D.conv _ _ ho) hrd hH2]);·(have hTT:(T m).2=(T i).2:=by rcases Nat.le_total m i with h|h;(·exact(X.bI D i h (by omega) λj x h1 h2 hx=>hno j x hx (by omega) (by omega)).symm);·exact X.bI D m h I.le λj x h1 h2 hx=>hno j x hx (by omega) (by omega));rw[hTT];have:=a0C (D.conv _ _ ho) hrd hop;rw[hop,this]);refine(StepR.op hst.ok hopm).sound I.post.rel hops ro k λρ2 v2 w2 hp2 hv2=> ?_;exact on _ _ _ _ _ (I.next X D ho hn hr hal (.inr ⟨hma,rfl⟩) hp2 (λ_=>hv2) nod) hm);·rw[hw,if_neg (by simp)];refine⟨λ_ _=>trivial,?_⟩;exact on _ _ _ _ _ (I.next X D ho hn hr hal (.inr ⟨hma,rfl⟩) (.refl I.post.rel) (λ_=>by rw[hv];exact .undef) nod) hm
end
section
variable {P:Program} {ρ:Rho} {H:Heap} {w:World}
theorem a5W{B:Nat}{id:Nat}{e:Ex}{l':List Value}{H':Heap}{e2:Ex}(he:e2=(match e with|.exit i=>if i=id then .normal else .exit i|e=>e)){e':Exit}{a':Act}{w':World} (h:QD P ρ H w B e l' H' e' a' w'):Exit.inBlock id (QD P ρ H w B e2 l' H') e' a' w':=by obtain⟨h1,h2⟩:=h;subst h1;cases e with| normal=>simp only at he;subst he;exact⟨rfl,h2⟩| ret=>simp only at he;subst he;exact⟨rfl,h2⟩| exit i=>simp only[Ex.cz,Exit.inBlock]at he ⊢;by_cases hi:i=id;(·rw[if_pos hi]at he;subst he;rw[if_pos hi];exact⟨rfl,h2⟩);·rw[if_neg hi]at he;subst he;rw[if_neg hi];exact⟨rfl,h2⟩
theorem a4M{B:Nat}{e:Ex}{l':List Value}{H':Heap}(hne:e≠.normal){next:Act->World->Prop}{e':Exit}{a':Act}{w':World} (h:QD P ρ H w B e l' H' e' a' w'):Exit.then next (QD P ρ H w B e l' H') e' a' w':=by have h1:=h.1;cases e with| normal=>exact absurd rfl hne| exit id=>subst h1;exact h| ret=>subst h1;exact h
theorem c1g(h:HRel P ρ H w)(e:Nat)(p:Place):ρ.Le (ρ.put H.length e p):=.put (oL h e)
theorem a7r{ex:Run}(hex:∀c l H e l' H',ex c l H=some (e,l',H')->Sim P c l H e l' H'){g:Operand}{ps:Array Tmp}{assign body:Code}{l:List Value}{v:Value}{H2:Heap} (hc:a6l P ex (ev l g) H.length (H.cons (.loop {state:=.ready,pending:=none,fn:=0,tmps:=l.toArray,params:=ps,assign,body,defers:=0}))=some (v,H2)) (hgo:jP g=true) {r:Loop} (hg:jM H2 H.length=some (.loop r)) (hnb:r.state≠.busy) {e:Ex} {l':List Value} {H':Heap} (hnext0:r.pending=none->e=.normal∧l'=l∧H'=hset H2 H.length (.loop {r with state:=.exhausted})) (hnext1:∀c,r.pending=some c->Sim P c l (hset H2 H.length (.loop {r with state:=.exhausted})) e l' H'):Sim P (.rangeFunc g ps assign body) l H e l' H':=by
 intro ro k B ρ w a hr hE hl hM hB;refine wpIn_rangeFunc ?_;intro fn _;(obtain⟨lc,mark,w1,df,henter,hpost0,hmark,hlc,hw1⟩:∃(lc:Nat)(mark:List Deferred)(w1:World)(df:Nat),(Instr.enterLoop fn a.tmps ps assign body ro).run P w=.ok (lc,mark) w1∧ Post P ρ H w (ρ.put H.length 0 ⟨lc,0,0,0⟩) (H.cons (.loop {state:=.ready,pending:=none,fn:=0,tmps:=l.toArray,params:=ps,assign,body,defers:=0})) w1∧ Marks B w1 (mark++a.defers)∧w.heap.size<=lc∧w1.heap[lc]? =some (.loop {state:=.ready,pending:=none,fn:=fn,tmps:=a.tmps,params:=ps,assign,body,defers:=df}):=by(have hloop:∀(ρ:Rho)(w:World),HRel P ρ H w->All2 (V ρ) l a.tmps.toList->∀df:Nat,Post P ρ H w (ρ.put H.length 0 ⟨w.heap.size,0,0,0⟩) (H.cons (.loop {state:=.ready,pending:=none,fn:=0,tmps:=l.toArray,params:=ps,assign,body,defers:=0})) (w.alloc (.loop {state:=.ready,pending:=none,fn:=fn,tmps:=a.tmps,params:=ps,assign,body,defers:=df})):=λρ w hr hE df=>by refine Post.new hr _ _ 0 ⟨w.heap.size,0,0,0⟩ rfl (λ_ _ _ _ _ e=>by cases e) (λ_ _ _ e=>by cases e) (λr e=> ?_);injection e with e;subst e;refine⟨rfl,_,rfl,rfl,rfl,?_,rfl,rfl,rfl⟩;simpa using hE.mono λ_ _ h=>h.mono (c1g hr _ _));cases ro with| none=>have hp1:=Post.bf hr (.deferred (some []));have hp2:=hloop ρ (w.alloc (.deferred (some []))) hp1.rel hE w.heap.size;rw[World.size_alloc]at hp2;refine⟨w.heap.size+1,[{target:=.collected w.heap.size,args:=#[]}],_,w.heap.size,run_enterLoop_outer fn a.tmps ps assign body,hp1.trans hp2,?_,by omega,?_⟩;(·obtain⟨rs,h1,h2,h3⟩:=hM.post hr (hp1.trans hp2);refine⟨w.heap.size::rs,by simp[h1],List.nodup_cons.2 ⟨λhmem=> ?_,h2⟩,λq hq=> ?_⟩;(·obtain⟨rs0,k1,k2,k3⟩:=hM;(have e:rs0=rs:=by have:=k1.symm.trans h1;(have inj:∀(x y:List Nat),x.map Target.collected=y.map Target.collected->x=y:=by intro x;induction x with| nil=>intro y h;(cases y with|nil=>rfl|cons=>simp at h)| cons a x ih=>intro y h;cases y with|nil=>simp at h|cons b y=>simp at h;rw[h.1,ih y h.2]);exact inj _ _ this);subst e;have:=nF (k3 _ hmem).2;omega);·rcases fC.1 hq with rfl|hq;(·refine⟨hB,?_⟩;rw[kD (by simp)];exact kH w _);·exact h3 q hq);(·have:=kH (w.alloc (.deferred (some []))) (.loop {state:=.ready,pending:=none,fn:=fn,tmps:=a.tmps,params:=ps,assign,body,defers:=w.heap.size});rwa [World.size_alloc]at this)| some l0=>obtain⟨r0,hr0⟩:=hl l0 rfl;have hp2:=hloop ρ w hr hE r0.defers;refine⟨w.heap.size,[],_,r0.defers,?_,hp2,by simpa using hM.post hr hp2,dP _,kH w _⟩;unfold Instr.enterLoop;simp only[dR,run_getLoop hr0,run_newObj_alloc,dO,dU])
 unfold a6l at hc;split at hc;(·rename_i f first captured hev;have hgv:=tO hE hgo;rw[hev]at hgv;obtain⟨first',captured',hfe,hfa,hfc⟩:=hgv.bd;obtain⟨fnc,hfn,hbody,hname⟩:=b5f hc;have hLp:(ρ.put H.length 0 ⟨lc,0,0,0⟩) H.length 0=some ⟨lc,0,0,0⟩:=Rho.aq _ _ _ _;refine⟨lc,mark,w1,{target:=.fn (.func f) captured',args:=first'++#[Value.func (.yield lc) #[] #[]]},w1,f,first'++#[Value.func (.yield lc) #[] #[]]++captured',w1,henter,?_,λ_ _=>trivial,?_,yX ro,?_⟩;(·simp only[resolve,hfe,Deferred.ofValue,dU];simp[Act.eval]);(·simp only[invoke];exact uM hfn hbody hname _ w1);·(have hargs:All2 (V (ρ.put H.length 0 ⟨lc,0,0,0⟩)) (first.toList++[Value.func (.yield H.length) #[] #[]]++captured.toList) (first'++#[Value.func (.yield lc) #[] #[]]++captured').toList:=by simp only[gL];exact((((hfa.mono λ_ _ h=>h.mono hpost0.le).aK).append (show All2 (V _) [Value.func (.yield H.length) #[] #[]] [Value.func (.yield lc) #[] #[]]from⟨.v1 (.c1 (C1.yld hLp)),trivial⟩)).append (hfc.mono λ_ _ h=>h.mono hpost0.le).aK));have hcall:=a7j hex hc (k-1) _ w1 _ hpost0.rel hargs;have hci:CallsIn (fe ro) (k-1) P f (first'++#[Value.func (.yield lc) #[] #[]]++captured') w1 λe w'=>∃ρ' v',e=.returned v'∧Post P (ρ.put H.length 0 ⟨lc,0,0,0⟩) _ w1 ρ' H2 w'∧V ρ' v v':=hcall;refine hci.mono ?_;rintro e2 w2⟨ρ2,v2,rfl,hp2,_⟩;obtain⟨r',hw2,hrel⟩:=a1X hp2.rel hg (hp2.le _ _ _ hLp);have hp3:=Post.bq (r:={r with state:=.exhausted}) (r':={r' with state:=.exhausted}) hp2.rel hg (hp2.le _ _ _ hLp) hw2 ⟨rfl,hrel.pending,hrel.tmps,hrel.params,hrel.assign,hrel.body⟩;have hend:=run_endLoop (P:=P) hw2 (by rw[hrel.state];exact hnb);revert hp3 hend;generalize w2.putObj lc (.loop {r' with state:=.exhausted})=w3;intro hp3 hend;have hall:=hpost0.trans (hp2.trans hp3);have hM3:Marks B _ (mark++a.defers):=hmark.post hpost0.rel (hp2.trans hp3);have hE3:=hE.mono λ_ _ h=>h.mono hall.le;refine⟨r'.pending,w3,hend,?_⟩;rw[hrel.pending];cases hpend:r.pending with| none=>obtain⟨rfl,rfl,rfl⟩:=hnext0 hpend;exact⟨rfl,ρ2,hall,hE3,hM3⟩| some c=>refine wpIn_mono (hnext1 c hpend ro k B ρ2 _ {a with defers:=mark++a.defers} hp3.rel hE3 (hl.post hall) hM3 (ek hB hall.size)) ?_;intro e5 a5 w5 hq;exact hq.trans hall)
 ·cases hc
end
section
variable {P:Program} {ρ:Rho} {H:Heap} {w:World}
theorem Sim.skip(l:List Value)(H:Heap):Sim P .skip l H .normal l H:=λro k B ρ w a hr hE hl hM hB=>wpIn_skip ⟨rfl,ρ,.refl hr,hE,hM⟩
theorem Sim.label(t:Nat)(l:List Value)(H:Heap):Sim P (.label t) l H .normal l H:=λro k B ρ w a hr hE hl hM hB=>wpIn_label ⟨rfl,ρ,.refl hr,hE,hM⟩
theorem Sim.exit(id:Nat)(l:List Value)(H:Heap):Sim P (.exit id) l H (.exit id) l H:=λro k B ρ w a hr hE hl hM hB=>wpIn_exit ⟨rfl,ρ,.refl hr,hE,hM⟩
theorem Sim.ret(l:List Value)(H:Heap):Sim P .ret l H .ret l H:=λro k B ρ w a hr hE hl hM hB=>wpIn_ret ⟨rfl,ρ,.refl hr,hE,hM⟩
theorem Sim.seq{a b:Code}{l:List Value}{H:Heap}{l1:List Value}{H1:Heap}{e:Ex}{l2:List Value}{H2:Heap}(h1:Sim P a l H .normal l1 H1)(h2:Sim P b l1 H1 e l2 H2):Sim P (.seq a b) l H e l2 H2:=λro k B ρ w a hr hE hl hM hB=>wpIn_seq (QD.cV h1 h2 hr hE hl hM hB)
theorem Sim.seq'{a b:Code}{l:List Value}{H:Heap}{e:Ex}{l2:List Value}{H2:Heap}(h1:Sim P a l H e l2 H2)(hne:e≠.normal):Sim P (.seq a b) l H e l2 H2:=λro k B ρ w a hr hE hl hM hB=>wpIn_seq (wpIn_mono (h1 ro k B ρ w a hr hE hl hM hB) λe' a' w' hq=>a4M hne hq)
theorem Sim.cond{c:Operand}{t:Bool}{x y:Code}{l:List Value}{H:Heap}{e:Ex}{l2:List Value}{H2:Heap}(hc:ev l c=.bool t)(hok:jP c=true)(h:Sim P (if t then x else y) l H e l2 H2):Sim P (.cond c x y) l H e l2 H2:=λro k B ρ w a hr hE hl hM hB=>by have hv:=tO hE hok;rw[hc]at hv;exact wpIn_cond hv.aD (h ro k B ρ w a hr hE hl hM hB)
def Ex.out(id:Nat):Ex->Ex| .exit i=>if i=id then .normal else .exit i| e=>e
theorem Sim.block{id:Nat}{b:Code}{l:List Value}{H:Heap}{e:Ex}{l2:List Value}{H2:Heap}(h:Sim P b l H e l2 H2):Sim P (.block id b) l H (e.out id) l2 H2:=λro k B ρ w a hr hE hl hM hB=>wpIn_block (wpIn_mono (h ro k B ρ w a hr hE hl hM hB) λe' a' w' hq=>a5W (by cases e<;>rfl) hq)
theorem xO{F:Fence}{k:Nat}{c:Code}{Q Q':Exit->Act->World->Prop}(h:∀e a w,Q e a w->Q' e a w):∀(m:Nat)(a:Act)(w:World),Code.roundsIn F k P c Q m a w->Code.roundsIn F k P c Q' m a w| 0,_,_,hh=>hh| m+1,a,w,hh=>by rw[roundsIn_succ]at hh ⊢;refine wpIn_mono hh ?_;intro e3 a3 w3 hq;cases e3<;>first|exact xO h m _ _ hq|exact h _ _ _ hq
inductive Rounds(P:Program)(c:Code):Nat->List Value->Heap->Ex->List Value->Heap->Prop where| last {l:List Value} {H:Heap} {e:Ex} {l':List Value} {H':Heap} (h:Sim P c l H e l' H') (hne:e≠.normal):Rounds P c 1 l H e l' H'| more {n:Nat} {l:List Value} {H:Heap} {l1:List Value} {H1:Heap} {e:Ex} {l':List Value} {H':Heap} (h:Sim P c l H .normal l1 H1) (hh:Rounds P c n l1 H1 e l' H'):Rounds P c (n+1) l H e l' H'
theorem Rounds.sound{c:Code}{n:Nat}{l:List Value}{H:Heap}{e:Ex}{l':List Value}{H':Heap}(h:Rounds P c n l H e l' H'): ∀(ro:Option Nat)(k B:Nat)(ρ:Rho)(w:World)(a:Act),HRel P ρ H w->All2 (V ρ) l a.tmps.toList->LoopAt ro w->Marks B w a.defers->B<=w.heap.size->Code.roundsIn (fe ro) k P c (QD P ρ H w B e l' H') n a w:=by induction h with| last h hne=>intro ro k B ρ w a hr hE hl hM hB;rw[roundsIn_succ];exact wpIn_mono (h ro k B ρ w a hr hE hl hM hB) λe' a' w' hq=>a4M hne hq| more h hh ih=>intro ro k B ρ w a hr hE hl hM hB;rw[roundsIn_succ];refine wpIn_mono (h ro k B ρ w a hr hE hl hM hB) ?_;rintro e' a' w'⟨he,ρ',hp,hE',hM'⟩;subst he;exact xO (λ_ _ _ hq=>hq.trans hp) _ _ _ (ih ro k B ρ' w' a' hp.rel hE' (hl.post hp) hM' (ek hB hp.size))
theorem Sim.loop{c:Code}{n:Nat}{l:List Value}{H:Heap}{e:Ex}{l':List Value}{H':Heap}(h:Rounds P c n l H e l' H'):Sim P (.loop c) l H e l' H':=λro k B ρ w a hr hE hl hM hB=>wpIn_loop_rounds n (h.sound ro k B ρ w a hr hE hl hM hB)
theorem Sim.region{id:Nat}{ops:Array Oper}{l:List Value}{H:Heap}{l':List Value}{H':Heap}(h:OpsR P ops (List.range ops.size) l H l' H'):Sim P (.region id ops false) l H .normal l' H':=λro k B ρ w a hr hE hl hM hB=>wpIn_region (h.sound ro k ρ w a hr hE (by rintro a' w'⟨ρ',hp,hE',hd⟩;exact⟨rfl,ρ',hp,hE',by rw[hd];exact hM.post hr hp⟩))
theorem a4g{fl:Fl}{ops:Array Oper}(D:Draw P fl ops){T:Nat->List Value×Heap}{val:Nat->Value}(X:Text P ops T val) (hread:∀i m o,(i,m)∈nS fl ops->ops[i]? =some o->Region.wanted o (jS ops (T i).1)=true->∃H2,opD P o (T i).1 (T m).2=some (val i,H2)) (ro:Option Nat) (k B:Nat) {ρ:Rho} {w:World} {a:Act} (hr:HRel P ρ (T 0).2 w) (hE:All2 (V ρ) (T 0).1 a.tmps.toList) (hM:Marks B w a.defers): wpAnyIn (fe ro) k P .any ops (QD P ρ (T 0).2 w B .normal (T ops.size).1 (T ops.size).2) ops.size (Array.replicate ops.size false) a {w with drawn:=w.drawn+1}:=by
 have hdrew:Post P ρ (T 0).2 w ρ (T 0).2 {w with drawn:=w.drawn+1}:=Post.drew hr;refine c3J (ρ0:=ρ) (W0:=w) (ds:=a.defers) X D hread ro k ?_ ops.size _ (List.range ops.size) (by simp) (λi hi _=>eO.2 hi) (by simp) (λ_=>0) 0 ρ a _ ?_ (.inl rfl);(·intro ρ' a' w' h1 h2 h3;exact⟨rfl,ρ',h1,h2,by rw[h3];exact hM.post hr h1⟩);·(have hfalse:∀j,¬(Array.replicate ops.size false).getD j false=true:=λj=>by rw[fh,Array.getElem?_replicate];split<;>simp);exact⟨fJ _,hdrew,λj _ hj=>absurd hj (hfalse j),λi o ho hm=>⟨λh=>absurd h (hfalse i),λh=>absurd h (eK _)⟩,λi o ho ha hi=>absurd hi (eK _),λi o ho ha hi hS=>absurd hS (hfalse i),λi j x y hx hy h1 h2 h3 h4 h5=>absurd h5 (hfalse i),by simpa using hE.length.symm,λt _=>a2O hE t,λi o t hS=>absurd hS (hfalse i),λi _ _ _ _ _ hS=>absurd hS (hfalse i),rfl⟩
theorem Sim.draw(lA:P.follows .mixedOrders=true){id:Nat}{ops:Array Oper}{tab:List (Nat×Nat)}(htab:oH P ops=some tab){T:Nat->List Value×Heap}{val:Nat->Value}(X:Text P ops T val) (hread:∀i m o,(i,m)∈tab->ops[i]? =some o->Region.wanted o (jS ops (T i).1)=true->∃H2,opD P o (T i).1 (T m).2=some (val i,H2)): Sim P (.region id ops true) (T 0).1 (T 0).2 .normal (T ops.size).1 (T ops.size).2:=by intro ro k B ρ w a hr hE hl hM hB;obtain⟨fl,D,rfl⟩:=rH htab;exact wpIn_region_any lA (a4g D X hread ro k B hr hE hM)
theorem CallOk.bU{f:FuncId}{fn:Func}{c:Code}{args:List Value}{e:Ex}{l1:List Value}{H1:Heap}{v:Value}(hf:P.funcs[f]? =some fn)(hb:fn.body=some c)(hn:(fn.name== "runtime.NumGoroutine")=false) (hs:Sim P c (args++List.replicate (fn.ntmps-args.length) undef) H e l1 H1) (he:e=.normal∨e=.ret) (hres:jD P fn l1 H1=some v):CallOk P f args H v H1:=by
 classical let ex:Run:=λc' l' H'=>if c'=c∧l'=args++List.replicate (fn.ntmps-args.length) undef∧H'=H then some (e,l1,H1)else none;(have hex:∀c l H e l' H',ex c l H=some (e,l',H')->Sim P c l H e l' H':=by intro c' l' H' e' l2 H2 h;simp only[ex]at h;split at h;(·rename_i hh;obtain⟨rfl,rfl,rfl⟩:=hh;injection h with h;injection h with h1 h;injection h with h2 h3;subst h1 h2 h3;exact hs);·cases h);refine a7j hex ?_;unfold callF;(have h1:ex c (args++List.replicate (fn.ntmps-args.length) undef) H=some (e,l1,H1):=by simp[ex]);rw[hf];simp only[hb,hn,eH,if_false,h1];rcases he with rfl|rfl<;>simp[hres]
theorem HRel.empty(w:World):HRel P (fun _ _=>none) .nil w where
 dom _ _ _ h:=by cases h
 cells _ _ _ _ _ _ h:=by rw[wU (fJ _)]at h;cases h
 map _ _ _ _ h:=by rw[wU (fJ _)]at h;cases h
 loop _ _ h:=by rw[wU (fJ _)]at h;cases h
 one _ _ _ _ h:=by cases h
 excl _ _ _ _ _ _ _ h:=by cases h
 full _ h:=absurd h (eK _)
 glob _ _ _ _ h:=by rw[wU (fJ _)]at h;cases h
theorem CallOk.closed{f:FuncId}{v:Value}(hv:flat v=true){H1:Heap}(h:CallOk P f [] .nil v H1)(H:Heap):CallOk P f [] H v H:=by
 intro k ρ w args' hr ha;(have ha':All2 (V (λ_ _=>none)) [] args'.toList:=by cases hh:args'.toList with| nil=>trivial| cons x xs=>rw[hh]at ha;exact ha.elim);refine(h k (λ_ _=>none) w args' (.empty w) ha').mono ?_;rintro e w'⟨ρ',v',rfl,hp,hv'⟩;have hframe:∀b,b<w.heap.size->w'.heap[b]? =w.heap[b]?:=λb hb=>(hp.frame b hb (by rintro⟨A,e,p,blk,hq,_⟩;cases hq)).1;refine⟨ρ,v',rfl,?_,?_⟩;(·exact{le:=.refl ρ,rel:=hr.other hp.size λA e p hq=>hframe _ (hr.dom _ _ _ hq).2,len:=dP _,size:=hp.size,os:=hp.os,tape:=hp.tape,output:=hp.output,frame:=λb hb hw=>⟨hframe b hb,hw⟩,loops:=λb r h=>⟨r,by rw[hframe b (nF h),h]⟩,img:=λ_ _ h=>h});·rw[hv'.ai hv];exact .of_flat hv
structure Glob(G H:Heap):Prop where
 len:G.length≤H.length
 same:∀A,A<G.length→jM H A=jM G A
 glob:∀A b,jM G A=some b→∃cs ty lo,b=.cells cs ty false lo 1∧kW cs=true
theorem Glob.rel{G:Heap}(hG:Glob G H)(h:HRel P ρ H w):HRel P (λA e=>if A<G.length then ρ A e else none) G w:=by
 have hcells:=hG.glob;(have hcut:∀{A e p},(if A<G.length then ρ A e else none)=some p->A<G.length∧ρ A e=some p:=λ{A e p}hh=>by by_cases hA:A<G.length;(·rw[if_pos hA]at hh;exact⟨hA,hh⟩);·rw[if_neg hA]at hh;cases hh);refine⟨?_,?_,?_,?_,?_,?_,?_,?_⟩;(·intro A e p hp;obtain⟨hA,hp⟩:=hcut hp;exact⟨hA,(h.dom _ _ _ hp).2⟩);(·intro A cs ty rw lo ver hg;have hA:=jX hg;(have hg':jM H A=some (.cells cs ty rw lo ver):=by rw[hG.same A hA,hg]);obtain⟨⟨p,hp⟩,hall⟩:=h.cells _ _ _ _ _ _ hg';refine⟨⟨p,by simp only[if_pos hA,hp]⟩,λe q hq=> ?_⟩;have hc:=hall e q (hcut hq).2;obtain⟨cs',ty',lo',hb,hsc⟩:=hcells A _ hg;injection hb with hb;subst hb;obtain⟨h1,h2,h3,cur,ty2,fr,h4,h5,h6,h7⟩:=hc;refine⟨h1,h2,h3,cur,ty2,fr,h4,h5,h6,λhlo i c hi h0 hci=> ?_⟩;obtain⟨c',a,b⟩:=h7 hlo i c hi h0 hci;(have hs:jN c=true:=by simp only[kW,dZ]at hsc;exact hsc c (eh hci));exact⟨c',a,by rw[b.az hs];exact .aC hs⟩);(·intro A es ck ver hg;obtain⟨cs',ty',lo',hb,_⟩:=hcells A _ hg;cases hb)
 (·intro A r hg;obtain⟨cs',ty',lo',hb,_⟩:=hcells A _ hg;cases hb);(·intro A e p blk hp hg;obtain⟨hA,hp⟩:=hcut hp;exact h.one _ _ _ _ hp (by rw[hG.same A hA,hg]));(·intro A e p A2 e2 p2 blk hp hp2 hb hg hwr;obtain⟨cs',ty',lo',rfl,_⟩:=hcells A _ hg;cases hwr);(·intro A hA;have:=h.full A (ez hA hG.len);rw[hG.same A hA]at this;exact this);·intro A cs ty lo hg;have hA:=jX hg;obtain⟨q,h1,h2,h3⟩:=h.glob A cs ty lo (by rw[hG.same A hA,hg]);exact⟨q,by simp only[if_pos hA,h1],h2,h3⟩
theorem CallOk.bV{f:FuncId}{v:Value}{args:List Value}(hfa:∀x∈args,flat x=true)(hv:flat v=true){G H H1:Heap}(h:CallOk P f args G v H1)(hG:Glob G H):CallOk P f args H v H:=by
 intro k ρ w args' hr ha;(have hfl:∀(l l':List Value)(ρ':Rho),(∀x∈l,flat x=true)->All2 (V ρ) l l'->All2 (V ρ') l l':=by intro l;induction l with| nil=>intro l' ρ' _ hh;(cases l' with|nil=>trivial|cons x xs=>exact hh.elim)| cons y ys ih=>intro l' ρ' hy hh;cases l' with| nil=>exact hh.elim| cons x xs=>refine⟨?_,ih xs ρ' (λz hz=>hy z (by simp[hz])) hh.2⟩;rw[hh.1.ai (hy y (by simp))];exact .of_flat (hy y (by simp)));have ha':All2 (V (λA e=>if A<G.length then ρ A e else none)) args args'.toList:=hfl _ _ _ hfa ha;refine(h k _ w args' (hG.rel hr) ha').mono ?_;rintro e w'⟨ρ',v',rfl,hp,hv'⟩;have hframe:∀b,b<w.heap.size->w'.heap[b]? =w.heap[b]?:=λb hb=>(hp.frame b hb (by rintro⟨A,e,p,blk,hq,_,hg,hw⟩;obtain⟨cs,ty,lo,rfl,_⟩:=hG.glob A _ hg;cases hw)).1;refine⟨ρ,v',rfl,?_,?_⟩;(·exact{le:=.refl ρ,rel:=hr.other hp.size λA e p hq=>hframe _ (hr.dom _ _ _ hq).2,len:=dP _,size:=hp.size,os:=hp.os,tape:=hp.tape,output:=hp.output,frame:=λb hb hw=>⟨hframe b hb,hw⟩,loops:=λb r h=>⟨r,by rw[hframe b (nF h),h]⟩,img:=λ_ _ h=>h})
 ·rw[hv'.ai hv];exact .of_flat hv
end
section
variable {P:Program} {ρ:Rho} {H:Heap} {w:World}
abbrev lS:=Ex->List Value->Heap->Prop
structure Keep{α:Sort _}(a:α):Type where
def kU(r:Option (Value×Heap))(K:Value->Heap->Prop)(_k:Keep K:=⟨⟩):Prop:=match r with| some (v,H1)=>K v H1| none=>False
@[simp] theorem a9r(v:Value)(H1:Heap)(K:Value->Heap->Prop):kU (some (v,H1)) K=K v H1:=rfl
def zL(P:Program)(f:Value)(args:List Value)(H:Heap)(K:Value->Heap->Prop)(_k:Keep K:=⟨⟩):Prop:=match f with| .func (.func k) first captured=>∃v H1,rK P k∧CallOk P k (first.toList++args++captured.toList) H v H1∧K v H1| .func (.yield L) _ _=>∃v H1,zW P L args H v H1∧K v H1| _=>False
def mW(P:Program)(o:Oper)(l:List Value)(H:Heap)(K:Value->Heap->Prop):Prop:=o.op.operands.toList.all jP=true∧ match o.op with| .move x=>K (ev l x) H| .assign x=>K (ev l x) H| .call c=>(match c.callee with| .value f=>zL P (ev l f) (c.args.toList.map (ev l)) H K| _=>kU (opD P o l H) K)| _=>kU (opD P o l H) K
theorem wW{o:Oper}{l:List Value}{K:Value->Heap->Prop}(h:mW P o l H K):∃v H1,StepR P o l H v H1∧K v H1:=by
 obtain⟨dst,op,type,pos,after,guard⟩:=o;obtain⟨hok,h⟩:=h;(have plain:kU (opD P ⟨dst,op,type,pos,after,guard⟩ l H) K->∃v H1,StepR P ⟨dst,op,type,pos,after,guard⟩ l H v H1∧K v H1:=λh=>by unfold kU at h;split at h;(·rename_i v H1 h1;exact⟨v,H1,.op hok h1,h⟩);·exact h.elim);simp only at h;split at h;(·exact⟨_,_,.op hok rfl,h⟩);(·exact⟨_,_,.op hok rfl,h⟩);(·rename_i c;split at h;(·rename_i f hf;unfold zL at h;split at h;(·rename_i k first captured hev;obtain⟨v,H1,h1,h2,h3⟩:=h;exact⟨v,H1,.call hok c f k first captured rfl hf hev h1 h2,h3⟩);(·rename_i L b d hev;obtain⟨v,H1,h1,h2⟩:=h;exact⟨v,H1,.round hok c f L b d rfl hf hev h1,h2⟩);·exact h.elim);·exact plain h);·exact plain h
def pI(P:Program)(ops:Array Oper):List Oper->List Value->Heap->(List Value->Heap->Prop)->Prop| [],l,H,K=>K l H| o::os,l,H,K=>if Region.wanted o (jS ops l)=true then mW P o l H λv H1=>pI P ops os (put l o.dst v) H1 K else pI P ops os (put l o.dst undef) H K
theorem yF{ops:Array Oper}{K:List Value->Heap->Prop}:∀(os:List Oper)(i:Nat),ops.toList.drop i=os->∀(l:List Value)(H:Heap),pI P ops os l H K-> ∃l' H',OpsR P ops (List.range' i os.length) l H l' H'∧K l' H'| [],i,_,l,H,h=>⟨l,H,.nil l H,h⟩| o::os,i,hd,l,H,h=>by(have ho:ops[i]? =some o:=by(have:(ops.toList.drop i)[0]? =some o:=by rw[hd];rfl);rw[eF]at this;simpa using this);(have hd':ops.toList.drop (i+1)=os:=by rw[<-gD,hd];rfl);unfold pI at h;rw[ey,gX];split at h;(·rename_i hw;obtain⟨v,H1,h1,h2⟩:=wW h;obtain⟨l',H',h3,h4⟩:=yF os (i+1) hd' _ _ h2;exact⟨l',H',.step ho hw h1 h3,h4⟩);·rename_i hw;obtain⟨l',H',h3,h4⟩:=yF os (i+1) hd' _ _ h;exact⟨l',H',.past ho (by simpa using hw) h3,h4⟩
theorem a4R{ops:Array Oper}{l:List Value}{K:List Value->Heap->Prop}(h:pI P ops ops.toList l H K):∃l' H',OpsR P ops (List.range ops.size) l H l' H'∧K l' H':=by obtain⟨l',H',h1,h2⟩:=yF ops.toList 0 rfl l H h;refine⟨l',H',?_,h2⟩;rw[fR];simpa using h1
theorem b9g{ops:Array Oper}:∀(is:List Nat)(l:List Value)(H:Heap)(l':List Value)(H':Heap),OpsR P ops is l H l' H'-> ∃(T:Nat->List Value×Heap)(val:Nat->Value),T 0=(l,H)∧T is.length=(l',H')∧∀k i,is[k]? =some i->xI P ops i (T k) (T (k+1)) (val k):=by
 intro is l H l' H' h;(have key:∀{i:Nat}{is:List Nat}{l:List Value}{H:Heap}{l1:List Value}{H1:Heap}{v:Value}{l':List Value}{H':Heap},xI P ops i (l,H) (l1,H1) v-> (∃(T:Nat->List Value×Heap)(val:Nat->Value),T 0=(l1,H1)∧T is.length=(l',H')∧∀k i,is[k]? =some i->xI P ops i (T k) (T (k+1)) (val k))-> ∃(T:Nat->List Value×Heap)(val:Nat->Value),T 0=(l,H)∧T (i::is).length=(l',H')∧∀k j,(i::is)[k]? =some j->xI P ops j (T k) (T (k+1)) (val k):=by intro i is l H l1 H1 v l' H' hst ⟨T,val,h0,h1,h4⟩;refine⟨λk=>match k with|0=>(l,H)|k+1=>T k,λk=>match k with|0=>v|k+1=>val k,rfl,h1,?_⟩;intro k j hj;cases k with| zero=>simp at hj;subst hj;simp only[h0];exact hst| succ k=>exact h4 k j (by simpa using hj));induction h with| nil l H=>exact⟨λ_=>(l,H),λ_=>undef,rfl,rfl,by simp⟩| step ho hw hs rest ih=>exact key ⟨_,ho,rfl,.inl ⟨hw,hs⟩⟩ ih| past ho hw rest ih=>exact key ⟨_,ho,rfl,.inr ⟨hw,rfl,rfl⟩⟩ ih
theorem Sim.cB(lA:P.follows .mixedOrders=true){id:Nat}{ops:Array Oper}(htab:oH P ops=some []){l:List Value}{H:Heap}{l':List Value}{H':Heap}(h:OpsR P ops (List.range ops.size) l H l' H'): Sim P (.region id ops true) l H .normal l' H':=by obtain⟨T,val,h0,h1,h2⟩:=b9g _ _ _ _ _ h;rw[gE]at h1;(have:=Sim.draw lA (id:=id) htab (T:=T) (val:=val) ⟨λk hk=>h2 k k (by rw[List.getElem?_range hk])⟩ λi m o hm=>by cases hm);rw[h0,h1]at this;exact this
def Wp(P:Program)(c:Code)(l:List Value)(H:Heap)(Q:lS)(_k1:Keep c:=⟨⟩)(_k2:Keep Q:=⟨⟩):Prop:=∃e l' H',Sim P c l H e l' H'∧Q e l' H'
theorem Wp.mono{c:Code}{l:List Value}{Q Q':lS}(h:Wp P c l H Q)(hh:∀e l H,Q e l H->Q' e l H):Wp P c l H Q':=by obtain⟨e,l',H',h1,h2⟩:=h;exact⟨e,l',H',h1,hh _ _ _ h2⟩
def c7T(P:Program)(b:Code)(Q:lS):lS| .normal,l,H=>Wp P b l H Q| e,l,H=>Q e l H
def yH(id:Nat)(Q:lS):lS:=λe l H=>Q (e.out id) l H
theorem Wp.skip{l:List Value}{Q:lS}(h:Q .normal l H):Wp P .skip l H Q:=⟨_,_,_,.skip l H,h⟩
theorem Wp.label{t:Nat}{l:List Value}{Q:lS}(h:Q .normal l H):Wp P (.label t) l H Q:=⟨_,_,_,.label t l H,h⟩
theorem Wp.exit{id:Nat}{l:List Value}{Q:lS}(h:Q (.exit id) l H):Wp P (.exit id) l H Q:=⟨_,_,_,.exit id l H,h⟩
theorem Wp.ret{l:List Value}{Q:lS}(h:Q .ret l H):Wp P .ret l H Q:=⟨_,_,_,.ret l H,h⟩
theorem Wp.seq{a b:Code}{l:List Value}{Q:lS}(h:Wp P a l H (c7T P b Q)):Wp P (.seq a b) l H Q:=by obtain⟨e,l1,H1,h1,h2⟩:=h;cases e with| normal=>obtain⟨e,l2,H2,h3,h4⟩:=h2;exact⟨e,l2,H2,.seq h1 h3,h4⟩| exit i=>exact⟨_,_,_,.seq' h1 (by simp),h2⟩| ret=>exact⟨_,_,_,.seq' h1 (by simp),h2⟩
theorem Wp.cond{c:Operand}{x y:Code}{l:List Value}{Q:lS}(t:Bool)(hc:ev l c=.bool t)(hok:jP c=true)(h:Wp P (if t then x else y) l H Q):Wp P (.cond c x y) l H Q:=by obtain⟨e,l2,H2,h3,h4⟩:=h;exact⟨e,l2,H2,.cond hc hok h3,h4⟩
theorem Wp.ite{c:Operand}{x y:Code}{l:List Value}{Q:lS}(p:Prop)[Decidable p](hc:ev l c=.bool (decide p))(hok:jP c=true)(hx:p->Wp P x l H Q)(hy:¬p->Wp P y l H Q):Wp P (.cond c x y) l H Q:=by refine Wp.cond (decide p) hc hok ?_;by_cases h:p;(·(have e:(if decide p=true then x else y)=x:=by simp[h]);rw[e];exact hx h);·(have e:(if decide p=true then x else y)=y:=by simp[h]);rw[e];exact hy h
theorem Wp.block{id:Nat}{b:Code}{l:List Value}{Q:lS}(h:Wp P b l H (yH id Q)):Wp P (.block id b) l H Q:=by obtain⟨e,l2,H2,h3,h4⟩:=h;exact⟨_,l2,H2,.block h3,h4⟩
theorem Wp.loop{c:Code}{Q:lS}(I:Nat->List Value->Heap->Prop)(step:∀n l H,I n l H->Wp P c l H λe l1 H1=>match e with|.normal=>∃m,m<n∧I m l1 H1|e=>Q e l1 H1){l:List Value}(n:Nat)(h:I n l H):Wp P (.loop c) l H Q:=by
 (have key:∀(n:Nat)(l:List Value)(H:Heap),I n l H->∃k e l' H',Rounds P c k l H e l' H'∧Q e l' H':=by intro n;induction n using Nat.strongRecOn with| _ n ih=>intro l H h;obtain⟨e,l1,H1,h1,h2⟩:=step n l H h;cases e with| normal=>obtain⟨m,hm,h3⟩:=h2;obtain⟨k,e,l',H',h4,h5⟩:=ih m hm l1 H1 h3;exact⟨k+1,e,l',H',.more h1 h4,h5⟩| exit i=>exact⟨1,_,_,_,.last h1 (by simp),h2⟩| ret=>exact⟨1,_,_,_,.last h1 (by simp),h2⟩);obtain⟨k,e,l',H',h1,h2⟩:=key n l H h;exact⟨e,l',H',.loop h1,h2⟩
theorem Wp.region{id:Nat}{ops:Array Oper}{l:List Value}{Q:lS}(h:pI P ops ops.toList l H λl H=>Q .normal l H):Wp P (.region id ops false) l H Q:=by obtain⟨l',H',h1,h2⟩:=a4R h;exact⟨_,_,_,.region h1,h2⟩
theorem Wp.draw(lA:P.follows .mixedOrders=true){id:Nat}{ops:Array Oper}{l:List Value}{Q:lS}(htab:oH P ops=some [])(h:pI P ops ops.toList l H λl H=>Q .normal l H):Wp P (.region id ops true) l H Q:=by obtain⟨l',H',h1,h2⟩:=a4R h;exact⟨_,_,_,.cB lA htab h1,h2⟩
theorem CallOk.of_wp{f:FuncId}{fn:Func}{c:Code}{args:List Value}(hf:P.funcs[f]? =some fn)(hb:fn.body=some c)(hn:(fn.name== "runtime.NumGoroutine")=false){Q:Value->Heap->Prop} (h:Wp P c (args++List.replicate (fn.ntmps-args.length) undef) H λe l H1=>(e=.normal∨e=.ret)∧∃v,jD P fn l H1=some v∧Q v H1):∃v H',CallOk P f args H v H'∧Q v H':=by obtain⟨e,l',H',h1,h2,v,h3,h4⟩:=h;exact⟨v,H',.bU hf hb hn h1 h2 h3,h4⟩
theorem oU(l:List Value)(d:Option Tmp)(v:Value)(t:Tmp):get (put l d v) t=if d=some t∧t<l.length then v else get l t:=a8T l d v t
theorem rG{l:List Value}{d:Tmp}{v:Value}(h:d<l.length):get (put l (some d) v) d=v:=by rw[oU,if_pos ⟨rfl,h⟩]
theorem a2M{l:List Value}{d t:Tmp}{v:Value}(h:d≠t):get (put l (some d) v) t=get l t:=by rw[oU,if_neg (λhh=>h (dK hh.1))]
theorem b6A(l:List Value)(v:Value):put l none v=l:=rfl
end
end Go.Ds
namespace Go.Ds
noncomputable section
variable {P:Program} {H:Heap}
def pU(v:Value)(K:Value->Prop)(_k:Keep K:=⟨⟩):Prop:=K v
theorem a9o{v v':Value}{K:Value->Prop}(h:v=v'):pU v K=pU v' K:=by rw[h]
attribute [congr] a9o
theorem c0j(v:Value)(K:Value->Prop):pU v K=K v:=rfl
def kR(r:Option Value)(K:Value->Prop)(_k:Keep K:=⟨⟩):Prop:=match r with|some v=>K v|none=>False
theorem a8P{r r':Option Value}{K:Value->Prop}(h:r=r'):kR r K=kR r' K:=by rw[h]
attribute [congr] a8P
theorem a9I(v:Value)(K:Value->Prop):kR (some v) K=K v:=rfl
theorem a6Q{r r':Option (Value×Heap)}{K:Value->Heap->Prop}(h:r=r'):kU r K=kU r' K:=by rw[h]
attribute [congr] a6Q
def vN(b:Bool)(p:Prop)(_k:Keep p:=⟨⟩):Prop:=b=true∧p
theorem b0F{b b':Bool}{p:Prop}(h:b=b'):vN b p=vN b' p:=by rw[h]
attribute [congr] b0F
theorem b4E(p:Prop):vN true p=p:=by simp[vN]
def kJ(x:Operand)(l:List Value)(K:Value->Prop)(_k:Keep K:=⟨⟩):Prop:=jP x=true∧K (ev l x)
theorem b6r(t:Tmp)(l:List Value)(K:Value->Prop):kJ (.tmp t) l K=pU (get l t) K:=by simp[kJ,jP,ev,pU]
theorem b0G(v:Value)(l:List Value)(K:Value->Prop):kJ (.const v) l K=vN (flat v) (K v):=by simp[kJ,jP,ev,vN]
theorem b2z(f:FuncId)(l:List Value)(K:Value->Prop):kJ (.func f) l K=K (.func (.func f) #[] #[]):=by simp[kJ,jP,ev]
def xL:List Operand->List Value->(List Value->Prop)->Prop| [],_,K=>K []| x::xs,l,K=>kJ x l λv=>xL xs l λvs=>K (v::vs)
theorem zU:∀(xs:List Operand)(l:List Value)(K:List Value->Prop),xL xs l K=(xs.all jP=true∧K (xs.map (ev l)))| [],l,K=>by simp[xL]| x::xs,l,K=>by simp[xL,zU,kJ,and_assoc]
theorem b4y(l:List Value)(K:List Value->Prop):xL [] l K=K []:=rfl
theorem b1c(x:Operand)(xs:List Operand)(l:List Value)(K:List Value->Prop):xL (x::xs) l K=kJ x l λv=>xL xs l λvs=>K (v::vs):=rfl
theorem b8v(d ty pos af g)(x:Operand)(l:List Value)(K:Value->Heap->Prop):mW P ⟨d,.move x,ty,pos,af,g⟩ l H K=kJ x l λv=>K v H:=by simp[mW,kJ,Op.operands]
theorem b0J(d ty pos af g)(x:Operand)(l:List Value)(K:Value->Heap->Prop):mW P ⟨d,.assign x,ty,pos,af,g⟩ l H K=kJ x l λv=>K v H:=by simp[mW,kJ,Op.operands]
def a3F(c a b:Value)(K:Value->Prop)(_k:Keep K:=⟨⟩):Prop:=match c with|.bool t=>K (if t then a else b)|_=>False
theorem a6G{c c' a b:Value}{K:Value->Prop}(h:c=c'):a3F c a b K=a3F c' a b K:=by rw[h]
attribute [congr] a6G
theorem b1a(a b:Value)(K:Value->Prop):a3F (.bool true) a b K=K a:=rfl
theorem a6W(a b:Value)(K:Value->Prop):a3F (.bool false) a b K=K b:=rfl
theorem a7Z(c x y:Bool)(K:Value->Prop):a3F (.bool c) (.bool x) (.bool y) K=K (.bool (if c then x else y)):=by cases c<;>rfl
theorem b7k(d ty pos af g)(c a b:Operand)(l:List Value)(K:Value->Heap->Prop):mW P ⟨d,.pick c a b,ty,pos,af,g⟩ l H K=kJ c l λc=>kJ a l λa=>kJ b l λb=>a3F c a b λv=>K v H:=by simp only[mW,kJ,Op.operands,opD,a3F,gn,je,gz,dN,and_assoc];congr 1;congr 1;congr 1;cases ev l c<;>simp[kU]
theorem nZ(r:Option (Value×Heap))(K:Value->Heap->Prop):kU r K=∃v H1,r=some (v,H1)∧K v H1:=by cases r with| none=>simp[kU]| some r=>obtain⟨a,b⟩:=r;exact propext ⟨λh=>⟨a,b,rfl,h⟩,λ⟨_,_,h,k⟩=>by cases h;exact k⟩
def rD(a:Option Bool)(s:Option Nat)(H:Heap)(v:Value):Option Value:=match v with| .pointer (some ⟨A,i,some e⟩)=>(match a with| some true=>s.bind λn=>(kB H A i e n).map λl=>.agg l.toArray| some false=>(kB H A i e 1).bind λl=>l[0]?| none=>none)| .pointer (some ⟨A,i,none⟩)=>(match jM H A with| some (.cells cs _ false _ 1)=>(match a with| some true=>s.bind λn=>(kB H A i cs.length n).map λl=>.agg l.toArray| some false=>(kB H A i cs.length 1).bind λl=>l[0]?| none=>none)| _=>none)| _=>none
theorem mN(t:TypeId)(v:Value):mS P H t v=rD (kP P t) (jF P t) H v:=rfl
theorem b5a(d ty pos af g)(t:TypeId)(a:Operand)(l:List Value)(K:Value->Heap->Prop):mW P ⟨d,.load t a,ty,pos,af,g⟩ l H K=kJ a l λp=>kR (rD (kP P t) (jF P t) H p) λv=>K v H:=by simp only[mW,kJ,Op.operands,opD,gn,je,gz,mN];cases rD (kP P t) (jF P t) H (ev l a)<;>simp[kU,kR]
def yG(P:Program)(H:Heap)(t:TypeId)(p v:Value)(K:Heap->Prop)(_k:Keep K:=⟨⟩):Prop:=∃H1,qV P H t p v=some H1∧K H1
theorem a5Z{t:TypeId}{p p' v v':Value}{K:Heap->Prop}(h1:p=p')(h2:v=v'):yG P H t p v K=yG P H t p' v' K:=by rw[h1,h2]
attribute [congr] a5Z
theorem b2f(d ty pos af g)(t:TypeId)(a x:Operand)(l:List Value)(K:Value->Heap->Prop):mW P ⟨d,.store t a x,ty,pos,af,g⟩ l H K=kJ a l λp=>kJ x l λv=>yG P H t p v λH1=>K undef H1:=by simp only[mW,kJ,Op.operands,opD,gn,je,gz,dN,and_assoc,yG];cases qV P H t (ev l a) (ev l x)<;>simp[kU]
def a5z(P:Program)(H:Heap)(t:TypeId)(v:Value)(K:Value->Heap->Prop)(_k:Keep K:=⟨⟩):Prop:=∃p H1,yI P H t v=some (p,H1)∧K p H1
theorem a8U{t:TypeId}{v v':Value}{K:Value->Heap->Prop}(h:v=v'):a5z P H t v K=a5z P H t v' K:=by rw[h]
attribute [congr] a8U
theorem a9L(t:TypeId)(v:Value)(K:Value->Heap->Prop):kU (yI P H t v) K=a5z P H t v K:=nZ _ _
def a7O(P:Program)(H:Heap)(t:TypeId)(v:Value)(K:Value->Heap->Prop)(_k:Keep K:=⟨⟩):Prop:=∃p H1,qU P H t v=some (p,H1)∧K p H1
theorem b0s{t:TypeId}{v v':Value}{K:Value->Heap->Prop}(h:v=v'):a7O P H t v K=a7O P H t v' K:=by rw[h]
attribute [congr] b0s
theorem a9G{t:TypeId}(ha:kS P t=none)(z:Value):qU P H t z=yI P H t z:=by unfold qU;split;(·rename_i n e h;simp[kS,h]at ha);·rfl
def wK(P:Program)(H:Heap)(t:TypeId)(z:Option Value)(K:Value->Heap->Prop)(_k:Keep K:=⟨⟩):Prop:=match z with|some z=>jY z=true∧a7O P H t z K|none=>False
theorem a5c{t:TypeId}{z z':Option Value}{K:Value->Heap->Prop}(h:z=z'):wK P H t z K=wK P H t z' K:=by rw[h]
attribute [congr] a5c
theorem a7K{t:TypeId}(z:Value)(K:Value->Heap->Prop)(ha:kS P t=none):wK P H t (some z) K=vN (jY z) (a5z P H t z K):=by simp only[wK,a7O,a9G ha,vN,a5z]
theorem a9s{t:TypeId}(z:Value)(K:Value->Heap->Prop){n:Nat×TypeId}(_ha:kS P t=some n):wK P H t (some z) K=vN (jY z) (a7O P H t z K):=rfl
theorem b2J(d ty pos af g)(t:TypeId)(l:List Value)(K:Value->Heap->Prop):mW P ⟨d,.alloc t,ty,pos,af,g⟩ l H K=wK P H t (jW P t) K:=by simp only[mW,Op.operands,opD,je,true_and,wK];cases jW P t with| none=>simp[kU]| some z=>simp only[dL];by_cases hz:jY z=true;(·simp only[hz,if_true,true_and];exact nZ _ _);·simp[hz,kU]
theorem c0d(d ty pos af g)(t:TypeId)(x:Operand)(l:List Value)(K:Value->Heap->Prop):mW P ⟨d,.box t x,ty,pos,af,g⟩ l H K=kJ x l λv=>a5z P H t v K:=by simp only[mW,kJ,Op.operands,opD,gn,je,gz,a9L]
def uH:List (Nat×Operand)->List Value->(List (Nat×Value)->Prop)->Prop| [],_,K=>K []| (i,x)::xs,l,K=>kJ x l λv=>uH xs l λvs=>K ((i,v)::vs)
theorem a0Y:∀(xs:List (Nat×Operand))(l:List Value)(K:List (Nat×Value)->Prop),uH xs l K=((xs.map (·.2)).all jP=true∧K (xs.map λ(i,x)=>(i,ev l x)))| [],l,K=>by simp[uH]| (i,x)::xs,l,K=>by simp[uH,a0Y,kJ,and_assoc]
theorem b0e(l:List Value)(K:List (Nat×Value)->Prop):uH [] l K=K []:=rfl
theorem a8e(i:Nat)(x:Operand)(xs:List (Nat×Operand))(l:List Value)(K:List (Nat×Value)->Prop):uH ((i,x)::xs) l K=kJ x l λv=>uH xs l λvs=>K ((i,v)::vs):=rfl
def mL(P:Program)(t:TypeId)(ps:List (Nat×Value)):Option Value:=if(jW P t).any jY&&ps.all (λx=>x.2.cells.toList.all oneCell)then(P.built t ps).map λcs=>.agg cs else none
theorem b2M(d ty pos af g)(t:TypeId)(parts:List (Nat×Operand))(l:List Value)(K:Value->Heap->Prop): mW P ⟨d,.build t parts.toArray,ty,pos,af,g⟩ l H K=uH parts l λps=>kR (mL P t ps) λv=>K v H:=by rw[a0Y];simp only[mW,Op.operands,opD,mL];congr 1;split;(·cases P.built t (parts.map λ(i,x)=>(i,ev l x))<;>simp[kU,kR]);·simp[kU,kR]
def a0y(P:Program)(H:Heap)(t:TypeId)(len:Nat)(ps:List (Nat×Value)):Option (Value×Heap):=(jI P t).bind λelem=>(jF P elem).bind λsize=>(jW P elem).bind λz=>if len==0&&ps.isEmpty&&size !=0 then some (.slice (some ⟨H.length,0,some 0⟩) 0 size,tI H elem [])else if jY z&&ps.all (λx=>x.2.cells.toList.all oneCell)&&len*size<=2^24&&len*size !=0&&z.cells.size==size then (Instr.fill (λi=>some (i*size,size)) ((Array.range (len*size)).map (z.cells[·%z.cells.size]!)) ps).map λcs=>(.slice (some ⟨H.length,0,some cs.toList.length⟩) len size,tI H elem cs.toList) else none
def tS(P:Program)(H:Heap)(t:TypeId)(len:Nat)(ps:List (Nat×Value))(K:Value->Heap->Prop)(_k:Keep K:=⟨⟩):Prop:=∃v H1,a0y P H t len ps=some (v,H1)∧K v H1
theorem a2E{t:TypeId}{len:Nat}{ps ps':List (Nat×Value)}{K:Value->Heap->Prop}(h:ps=ps'):tS P H t len ps K=tS P H t len ps' K:=by rw[h]
attribute [congr] a2E
theorem a3q(d ty pos af g)(t:TypeId)(len:Nat)(parts:List (Nat×Operand))(l:List Value)(K:Value->Heap->Prop): mW P ⟨d,.buildSlice t len parts.toArray,ty,pos,af,g⟩ l H K=uH parts l λps=>tS P H t len ps K:=by rw[a0Y];simp only[mW,Op.operands,opD,tS,a0y];rw[<-nZ]
def yT(P:Program)(H:Heap)(t:TypeId)(n c:Value):Option (Value×Heap):=
    (jI P t).bind fun elem=>(jF P elem).bind fun size=>(oY P elem).bind fun bytes=>(jW P elem).bind fun z=>
    match n,c with
    | .int _ a,.int _ b=>
      if jY z&&decide (a≤b)&&0≤a&&b*(bytes+1)≤(qA:Int)&&size !=0&&z.cells.size==size then
       let cs:=if size=1 then List.replicate b.toNat (z.cells[0]!)else(madeCells z.cells (b.toNat*size)).toList
       some (.slice (some ⟨H.length,0,some cs.length⟩) a.toNat size,tI H elem cs)
      else none
    | _,_=>none
def sH(P:Program)(H:Heap)(t:TypeId)(n c:Value)(K:Value->Heap->Prop)(_k:Keep K:=⟨⟩):Prop:=∃v H1,yT P H t n c=some (v,H1)∧K v H1
theorem a0L{t:TypeId}{n n' c c':Value}{K:Value->Heap->Prop}(h:n=n')(h2:c=c'):sH P H t n c K=sH P H t n' c' K:=by rw[h,h2]
attribute [congr] a0L
theorem a4f(d ty pos af g)(t:TypeId)(n c:Operand)(l:List Value)(K:Value->Heap->Prop): mW P ⟨d,.makeSlice t n c,ty,pos,af,g⟩ l H K=kJ n l λn=>kJ c l λc=>sH P H t n c K:=by change ((#[n,c].toList.all jP=true)∧kU (yT P H t (ev l n) (ev l c)) K)=_;rw[nZ];simp only[kJ,sH,gn,je,gz,dN,and_assoc]
def zH(P:Program)(H:Heap)(t:TypeId)(s x:Value)(K:Value->Heap->Prop)(_k:Keep K:=⟨⟩):Prop:=∃v H1,oW P H t s x=some (v,H1)∧K v H1
theorem a4c{t:TypeId}{s s' x x':Value}{K:Value->Heap->Prop}(h:s=s')(h2:x=x'):zH P H t s x K=zH P H t s' x' K:=by rw[h,h2]
attribute [congr] a4c
def mR(P:Program)(t:TypeId):Bool:=((P.underlying t).map qY)==some true
theorem a9B(d ty pos af g)(s x:Operand)(t1 t2:TypeId)(l:List Value)(K:Value->Heap->Prop): mW P ⟨d,.call {callee:=.builtin .append,args:=#[s,x],argTypes:=#[t1,t2]},ty,pos,af,g⟩ l H K=vN (mR P t2) (kJ s l λs=>kJ x l λx=>zH P H t1 s x K):=by simp only[mW,kJ,Op.operands,Call.operands,opD,zH,vN,mR];rw[<-nZ];by_cases h:(((P.underlying t2).map qY)==some true)=true;(·simp[h,and_assoc]);·simp[h,kU]
def a4s(P:Program)(H:Heap)(t:TypeId)(s x:Value)(K:Value->Heap->Prop)(_k:Keep K:=⟨⟩):Prop:=∃v H1,a1A P H t s x=some (v,H1)∧K v H1
theorem a8O{t:TypeId}{s s' x x':Value}{K:Value->Heap->Prop}(h:s=s')(h2:x=x'):a4s P H t s x K=a4s P H t s' x' K:=by rw[h,h2]
attribute [congr] a8O
theorem b7a(d ty pos af g)(s x:Operand)(t1 t2:TypeId)(l:List Value)(K:Value->Heap->Prop): mW P ⟨d,.call {callee:=.builtin .copy,args:=#[s,x],argTypes:=#[t1,t2]},ty,pos,af,g⟩ l H K=kJ s l λs=>kJ x l λx=>a4s P H t1 s x K:=by simp only[mW,kJ,Op.operands,Call.operands,opD,a4s];rw[<-nZ];simp[and_assoc]
def a2o(P:Program)(H:Heap)(t:TypeId)(s:Value)(K:Value->Heap->Prop)(_k:Keep K:=⟨⟩):Prop:=∃v H1,uG P H t s=some (v,H1)∧K v H1
theorem a5H{t:TypeId}{s s':Value}{K:Value->Heap->Prop}(h:s=s'):a2o P H t s K=a2o P H t s' K:=by rw[h]
attribute [congr] a5H
theorem b2u(d ty pos af g)(s:Operand)(t1:TypeId)(l:List Value)(K:Value->Heap->Prop): mW P ⟨d,.call {callee:=.builtin .clear,args:=#[s],argTypes:=#[t1]},ty,pos,af,g⟩ l H K=kJ s l λs=>a2o P H t1 s K:=by simp only[mW,kJ,Op.operands,Call.operands,opD,a2o];rw[<-nZ];simp[]
def a0Q(P:Program)(H:Heap)(t:TypeId)(v:Value):Option Value:=match (P.underlying t),v with| some (.slice _),.slice a n k=>xW H (.slice a n k)| some .string,.string s=>xW H (.string s)| some (.map _ _),.map r=>xW H (.map r)| _,_=>none
theorem c0Q(d ty pos af g)(x:Operand)(t:TypeId)(l:List Value)(K:Value->Heap->Prop): mW P ⟨d,.call {callee:=.builtin .len,args:=#[x],argTypes:=#[t]},ty,pos,af,g⟩ l H K=kJ x l λx=>kR (a0Q P H t x) λv=>K v H:=by
 (have h:opD P ⟨d,.call {callee:=.builtin .len,args:=#[x],argTypes:=#[t]},ty,pos,af,g⟩ l H=(a0Q P H t (ev l x)).map λv=>(v,H):=by simp only[opD,a0Q];simp only[gB,ey,fo,ir,BEq.rfl,jn,if_true];simp only[fh,eR,ft,fV];cases P.underlying t with| none=>rfl| some u=>cases u<;>cases ev l x<;>rfl);simp only[mW,h,kJ,Op.operands,Call.operands];(have h2:kU ((a0Q P H t (ev l x)).map λv=>(v,H)) K=kR (a0Q P H t (ev l x)) λv=>K v H:=by cases a0Q P H t (ev l x)<;>rfl);rw[h2];simp
def lB(v:Value)(size j f:Nat):Value:=match v with| .slice (some ⟨A,i,s⟩) _ _=>.pointer (some ⟨A,i+j*size+f,s⟩)| _=>.pointer none
def a7n(P:Program)(s:TypeId)(f:Nat)(v:Value):Option Value:=match v with| .pointer (some ⟨A,i,some e⟩)=>(pV P s f).bind λfd=>(jF P fd.type).bind λn=>if n==0 then none else some (.pointer (some ⟨A,i+fd.offset,some e⟩))| _=>none
theorem a3N(d ty pos af g)(s:TypeId)(x:Operand)(f:Nat)(l:List Value)(K:Value->Heap->Prop): mW P ⟨d,.fieldAddr s x f,ty,pos,af,g⟩ l H K=kJ x l λx=>kR (a7n P s f x) λv=>K v H:=by(have h:opD P ⟨d,.fieldAddr s x f,ty,pos,af,g⟩ l H=(a7n P s f (ev l x)).map λv=>(v,H):=by simp only[opD,a7n];generalize ev l x=vx;split;(·dsimp only;cases pV P s f with| none=>rfl| some fd=>simp only[dL];cases jF P fd.type with| none=>rfl| some n=>simp only[dL];split<;>rfl);·rename_i hne;split;(·exact(hne _ _ _ rfl).elim);·rfl);(have h2:kU ((a7n P s f (ev l x)).map λv=>(v,H)) K=kR (a7n P s f (ev l x)) λv=>K v H:=by cases a7n P s f (ev l x)<;>rfl);simp only[mW,h,kJ,Op.operands,h2];simp
def a3S(P:Program)(t:TypeId)(v i:Value):Option Value:=match P.underlying t,v,i with| some (.slice elem),.slice (some ⟨A,i,some e⟩) n _,.int _ j=>(jF P elem).bind λsize=>if 0<=j&&j<n then some (.pointer (some ⟨A,i+j.toNat*size,some e⟩))else none| some (.array n elem),.pointer (some ⟨A,i,some e⟩),.int _ j=>(jF P elem).bind λsize=>if 0<=j&&j<n then some (.pointer (some ⟨A,i+j.toNat*size,some e⟩))else none| some (.array n elem),.pointer (some ⟨A,i,none⟩),.int _ j=>(jF P elem).bind λsize=>if 0<=j&&j<n then some (.pointer (some ⟨A,i+j.toNat*size,none⟩))else none| _,_,_=>none
theorem a3K(d ty pos af g)(t:TypeId)(x i:Operand)(l:List Value)(K:Value->Heap->Prop): mW P ⟨d,.indexAddr t x i,ty,pos,af,g⟩ l H K=kJ x l λx=>kJ i l λi=>kR (a3S P t x i) λv=>K v H:=by
 (have h:opD P ⟨d,.indexAddr t x i,ty,pos,af,g⟩ l H=(a3S P t (ev l x) (ev l i)).map λv=>(v,H):=by simp only[opD,a3S];generalize ev l x=vx;generalize ev l i=vi;generalize P.underlying t=u;split;(·dsimp only;cases jF P _ with| none=>rfl| some n=>simp only[dL];split<;>rfl);(·dsimp only;cases jF P _ with| none=>rfl| some n=>simp only[dL];split<;>rfl);(·dsimp only;cases jF P _ with| none=>rfl| some n=>simp only[dL];split<;>rfl);·rename_i h1 h2 h3;split;(·exact(h1 _ _ _ _ _ _ _ _ rfl rfl rfl).elim);(·exact(h2 _ _ _ _ _ _ _ rfl rfl rfl).elim);(·exact(h3 _ _ _ _ _ _ rfl rfl rfl).elim);·rfl);(have h2:kU ((a3S P t (ev l x) (ev l i)).map λv=>(v,H)) K=kR (a3S P t (ev l x) (ev l i)) λv=>K v H:=by cases a3S P t (ev l x) (ev l i)<;>rfl);simp only[mW,h,kJ,Op.operands,h2];simp[and_assoc]
def c5l(P:Program)(o:Oper)(op:BinOp)(l:List Value)(H:Heap)(x y:Value)(K:Value->Heap->Prop)(_k:Keep K:=⟨⟩):Prop:=match x,y with| .int k a,.int k' b=>(match (if k=k' then nX op k a b else none)with|some v=>K v H|none=>kU (opD P o l H) K)| _,_=>kU (opD P o l H) K
theorem b0a{o:Oper}{op:BinOp}{l:List Value}{x x' y y':Value}{K:Value->Heap->Prop}(h:x=x')(h2:y=y'):c5l P o op l H x y K=c5l P o op l H x' y' K:=by rw[h,h2]
attribute [congr] b0a
theorem oG(o o':Oper)(l l':List Value)(H:Heap)(h1:o.op.operands.toList.map (ev l)=o'.op.operands.toList.map (ev l'))(h2:execOp (ev l) o=execOp (ev l') o'): lE P o l H=((lE P o' l' .nil).map (·.1)).map λv=>(v,H):=by(have h3:∀(l:List Value)(xs:List Operand),xs.all (λx=>flat (ev l x))=(xs.map (ev l)).all flat:=λl xs=>by simp[List.all_map,iN]);unfold lE;rw[h3,h1,<-h3,h2];split;(·split;(·split<;>rfl);·rfl);·rfl
def unV(P:Program)(op:UnOp)(t:TypeId)(x:Value):Option Value:=(opD P ⟨none,.unOp op t (.const x),t,"",#[],none⟩ [] .nil).map (·.1)
theorem c2w(d ty pos af g)(op:UnOp)(t:TypeId)(x:Operand)(l:List Value)(K:Value->Heap->Prop): mW P ⟨d,.unOp op t x,ty,pos,af,g⟩ l H K=kJ x l λx=>kR (unV P op t x) λv=>K v H:=by
 (have h:opD P ⟨d,.unOp op t x,ty,pos,af,g⟩ l H=(unV P op t (ev l x)).map λv=>(v,H):=by have hp:=oG (P:=P) ⟨d,.unOp op t x,ty,pos,af,g⟩ ⟨none,.unOp op t (.const (ev l x)),t,"",#[],none⟩ l [] H rfl rfl;simp only[opD,unV,hp];generalize lE P _ _ _=r;have e1:∀v,ev [] (.const v)=v:=λ_=>rfl;simp only[e1];generalize ev l x=vx;split<;>simp);(have h2:kU ((unV P op t (ev l x)).map λv=>(v,H)) K=kR (unV P op t (ev l x)) λv=>K v H:=by cases unV P op t (ev l x)<;>rfl);simp only[mW,h,kJ,Op.operands,h2];simp
theorem c1d(t:TypeId)(b:Bool):unV P .not t (.bool b)=some (.bool (!b)):=by simp[unV,opD,ev]
def a2n(P:Program)(s t:TypeId)(x:Value):Option Value:=(lE P ⟨none,.convert s t (.const x),t,"",#[],none⟩ [] .nil).map (·.1)
def uZ(P:Program)(s t:TypeId)(H:Heap)(x:Value)(K:Value->Heap->Prop)(_k:Keep K:=⟨⟩):Prop:=∃v H1,opD P ⟨none,.convert s t (.const x),t,"",#[],none⟩ [] H=some (v,H1)∧K v H1
theorem a7T{s t:TypeId}{x x':Value}{K:Value->Heap->Prop}(h:x=x'):uZ P s t H x K=uZ P s t H x' K:=by rw[h]
attribute [congr] a7T
theorem a8I(d ty pos af g)(s t:TypeId)(x:Operand)(l:List Value)(K:Value->Heap->Prop): mW P ⟨d,.convert s t x,ty,pos,af,g⟩ l H K=kJ x l λx=>uZ P s t H x K:=by(have h:opD P ⟨d,.convert s t x,ty,pos,af,g⟩ l H=opD P ⟨none,.convert s t (.const (ev l x)),t,"",#[],none⟩ [] H:=by have hp:=oG (P:=P) ⟨d,.convert s t x,ty,pos,af,g⟩ ⟨none,.convert s t (.const (ev l x)),t,"",#[],none⟩ l [] H rfl rfl;have hp2:=oG (P:=P) ⟨none,.convert s t (.const (ev l x)),t,"",#[],none⟩ ⟨none,.convert s t (.const (ev l x)),t,"",#[],none⟩ [] [] H rfl rfl;have e1:∀v,ev [] (.const v)=v:=λ_=>rfl;simp only[opD,e1,hp,<-hp2]);simp only[mW,h,kJ,Op.operands,uZ,nZ];simp
theorem a9R{s t:TypeId}{x:Value}(K:Value->Heap->Prop)(hb:lX P t=false)(hf:flat x=true):uZ P s t H x K=kR (a2n P s t x) λv=>K v H:=by have hp:=oG (P:=P) ⟨none,.convert s t (.const x),t,"",#[],none⟩ ⟨none,.convert s t (.const x),t,"",#[],none⟩ [] [] H rfl rfl;have e1:ev [] (.const x)=x:=rfl;(have h:opD P ⟨none,.convert s t (.const x),t,"",#[],none⟩ [] H=(a2n P s t x).map λv=>(v,H):=by simp only[opD,e1,hf,hb,Bool.not_false,gz,if_true,a2n];exact hp);unfold uZ;rw[h,<-nZ];cases a2n P s t x<;>rfl
theorem b3u{s t:TypeId}(k:IntKind)(a:Int)(K:Value->Heap->Prop)(hb:lX P t=false):uZ P s t H (.int k a) K=kR (a2n P s t (.int k a)) λv=>K v H:=a9R K hb rfl
def uX(v:Value)(i:Nat):Option Value:=match v with|.tuple vs=>vs[i]?|_=>none
theorem a8E(d ty pos af g)(x:Operand)(i:Nat)(l:List Value)(K:Value->Heap->Prop): mW P ⟨d,.extract x i,ty,pos,af,g⟩ l H K=kJ x l λx=>kR (uX x i) λv=>K v H:=by(have h:opD P ⟨d,.extract x i,ty,pos,af,g⟩ l H=(uX (ev l x) i).map λv=>(v,H):=by simp only[opD,uX];generalize ev l x=vx;cases vx<;>rfl);(have h2:kU ((uX (ev l x) i).map λv=>(v,H)) K=kR (uX (ev l x) i) λv=>K v H:=by cases uX (ev l x) i<;>rfl);simp only[mW,h,kJ,Op.operands,h2];simp
theorem b0E(a:Value)(l:List Value):uX (.tuple (a::l).toArray) 0=some a:=by simp[uX]
theorem b2E(a b:Value)(l:List Value):uX (.tuple (a::b::l).toArray) 1=some b:=by simp[uX]
theorem b2V(a b c:Value)(l:List Value):uX (.tuple (a::b::c::l).toArray) 2=some c:=by simp[uX]
def yE(P:Program)(t:TypeId)(v:Value)(f:Nat):Option Value:=(opD P ⟨none,.field t (.const v) f,t,"",#[],none⟩ [] .nil).map (·.1)
theorem b3M(d ty pos af g)(t:TypeId)(x:Operand)(f:Nat)(l:List Value)(K:Value->Heap->Prop): mW P ⟨d,.field t x f,ty,pos,af,g⟩ l H K=kJ x l λx=>kR (yE P t x f) λv=>K v H:=by
 (have h:opD P ⟨d,.field t x f,ty,pos,af,g⟩ l H=(yE P t (ev l x) f).map λv=>(v,H):=by have hp:=oG (P:=P) ⟨d,.field t x f,ty,pos,af,g⟩ ⟨none,.field t (.const (ev l x)) f,t,"",#[],none⟩ l [] H rfl rfl;simp only[opD,yE,hp];generalize lE P _ _ _=r;have e1:∀v,ev [] (.const v)=v:=λ_=>rfl;simp only[e1];generalize ev l x=vx;split;(·cases r<;>rfl);·rename_i hfl;(cases vx<;>try rfl);rename_i cs;dsimp only;cases pV P t f with| none=>rfl| some fd=>simp only[dL];cases kP P fd.type with| none=>rfl| some b=>cases b;(·dsimp only;cases cs[fd.offset]?<;>rfl);·dsimp only;cases jF P fd.type<;>rfl);(have h2:kU ((yE P t (ev l x) f).map λv=>(v,H)) K=kR (yE P t (ev l x) f) λv=>K v H:=by cases yE P t (ev l x) f<;>rfl);simp only[mW,h,kJ,Op.operands,h2];simp
end
end Go.Ds
namespace Go.Ds
noncomputable section
variable {P:Program} {H:Heap}
theorem a8v{f f':Value}{args args':List Value}{K:Value->Heap->Prop}(h1:f=f')(h2:args=args'):zL P f args H K=zL P f' args' H K:=by rw[h1,h2]
attribute [congr] a8v
def yS(P:Program)(k:FuncId)(args:List Value)(H:Heap)(K:Value->Heap->Prop)(_k:Keep K:=⟨⟩):Prop:=∃v H1,rK P k∧CallOk P k args H v H1∧K v H1
theorem a5N{k:FuncId}{args args':List Value}{K:Value->Heap->Prop}(h2:args=args'):yS P k args H K=yS P k args' H K:=by rw[h2]
attribute [congr] a5N
theorem a9S(k:FuncId)(a b:List Value)(args:List Value)(K:Value->Heap->Prop):zL P (.func (.func k) a.toArray b.toArray) args H K=yS P k (a++args++b) H K:=rfl
theorem b7z(d ty pos af g)(f:Operand)(args:List Operand)(ts:Array TypeId)(l:List Value)(K:Value->Heap->Prop): mW P ⟨d,.call {callee:=.value f,args:=args.toArray,argTypes:=ts},ty,pos,af,g⟩ l H K=kJ f l λf=>xL args l λvs=>zL P f vs H K:=by simp only[mW,zU,kJ,Op.operands,Call.operands];simp[and_assoc]
theorem a5g(d ty pos af g)(f:FuncId)(captured:List Operand)(l:List Value)(K:Value->Heap->Prop): mW P ⟨d,.makeFunc (.func f) #[] captured.toArray,ty,pos,af,g⟩ l H K=xL captured l λvs=>vN (vs.all sS) (K (.func (.func f) #[] vs.toArray) H):=by simp only[mW,zU,vN,Op.operands,opD];(have e:(captured.map (ev l)).all sS=captured.all λx=>sS (ev l x):=by simp[List.all_map,iN]);rw[e];by_cases h:(captured.all λx=>sS (ev l x))=true;(·simp[h]);·simp[h,kU]
def zA(ops:Array Oper)(j:Nat):Option Tmp:=(ops[j]?).bind (·.dst)
def tL(v:Value)(b:Bool)(p q:Prop)(_k1:Keep p:=⟨⟩)(_k2:Keep q:=⟨⟩):Prop:=match v with|.bool c=>if c=b then p else q|_=>q
theorem a9x{v v':Value}{b:Bool}{p q:Prop}(h:v=v'):tL v b p q=tL v' b p q:=by rw[h]
attribute [congr] a9x
theorem c0H(p q:Prop):tL (.bool true) true p q=p:=rfl
theorem c1e(p q:Prop):tL (.bool false) false p q=p:=rfl
theorem c0K(p q:Prop):tL (.bool true) false p q=q:=rfl
theorem c1i(p q:Prop):tL (.bool false) true p q=q:=rfl
theorem a8Q(b:Bool)(p q:Prop):tL undef b p q=q:=rfl
theorem kI{c:Prop}[Decidable c]{p q:Prop}(h1:c->p)(h2:¬c->q):tL (.bool (decide c)) true p q:=by by_cases h:c;(·simp only[tL,h,decide_true,if_true];exact h1 h);·simp only[tL,h,decide_false,eH,if_false];exact h2 h
theorem jO{c:Prop}[Decidable c]{p q:Prop}(h1:c->q)(h2:¬c->p):tL (.bool (decide c)) false p q:=by by_cases h:c;(·simp only[tL,h,decide_true,Bool.true_eq_false,if_false];exact h1 h);·simp only[tL,h,decide_false,if_true];exact h2 h
def wL(d:Option Tmp)(l:List Value)(b:Bool)(p q:Prop)(_k1:Keep p:=⟨⟩)(_k2:Keep q:=⟨⟩):Prop:=match d with|some d=>tL (get l d) b p q|none=>q
theorem a6e{d d':Option Tmp}{l:List Value}{b:Bool}{p q:Prop}(h:d=d'):wL d l b p q=wL d' l b p q:=by rw[h]
attribute [congr] a6e
theorem a7t(d:Tmp)(l:List Value)(b:Bool)(p q:Prop):wL (some d) l b p q=tL (get l d) b p q:=rfl
theorem b3q(ops:Array Oper)(l:List Value)(d op ty pos af)(j:Nat)(b:Bool): Region.wanted ⟨d,op,ty,pos,af,some (j,b)⟩ (jS ops l)=(match zA ops j with|some d=>(match get l d with|.bool c=>c==b|_=>false)|none=>false):=by show(jS ops l j==some b)=_;unfold jS zA;cases (ops[j]?).bind (·.dst)with| none=>rfl| some t=>simp only[pQ];rw[dT];cases h:l[t]? with| none=>rfl| some v=>simp only[fV];cases v<;>rfl
theorem uE(ops:Array Oper)(l:List Value)(d op ty pos af)(j:Nat)(b:Bool)(p q:Prop): (if Region.wanted ⟨d,op,ty,pos,af,some (j,b)⟩ (jS ops l)=true then p else q)=wL (zA ops j) l b p q:=by rw[b3q];cases zA ops j with| none=>simp[wL]| some t=>(have key:∀v:Value,(if(match v with|.bool c=>c==b|_=>false)=true then p else q)=tL v b p q:=λv=>by cases v<;>simp[tL]);exact key (get l t)
theorem b7r(ops:Array Oper)(l:List Value)(K:List Value->Heap->Prop):pI P ops [] l H K=K l H:=rfl
theorem b3G(ops:Array Oper)(d op ty pos af)(os:List Oper)(l:List Value)(K:List Value->Heap->Prop): pI P ops (⟨d,op,ty,pos,af,none⟩::os) l H K=mW P ⟨d,op,ty,pos,af,none⟩ l H λv H1=>pI P ops os (put l d v) H1 K:=by rw[pI];simp[Region.wanted]
theorem b0l(ops:Array Oper)(d op ty pos af)(j:Nat)(b:Bool)(os:List Oper)(l:List Value)(K:List Value->Heap->Prop): pI P ops (⟨d,op,ty,pos,af,some (j,b)⟩::os) l H K=wL (zA ops j) l b (mW P ⟨d,op,ty,pos,af,some (j,b)⟩ l H λv H1=>pI P ops os (put l d v) H1 K) (pI P ops os (put l d undef) H K):=by rw[pI,<-uE ops l d op ty pos af]
def nT(P:Program)(ops:Array Oper):List Oper->List (List Value×Heap×Value)->List Value->Heap->(List (List Value×Heap×Value)->List Value->Heap->Prop)->Prop| [],tr,l,H,K=>K tr l H| o::os,tr,l,H,K=>if Region.wanted o (jS ops l)=true then mW P o l H λv H1=>nT P ops os (tr++[(l,H,v)]) (put l o.dst v) H1 K else nT P ops os (tr++[(l,H,undef)]) (put l o.dst undef) H K
theorem b3S(ops:Array Oper)(tr)(l:List Value)(K):nT P ops [] tr l H K=K tr l H:=rfl
theorem a9k(ops:Array Oper)(d op ty pos af)(os:List Oper)(tr)(l:List Value)(K): nT P ops (⟨d,op,ty,pos,af,none⟩::os) tr l H K=mW P ⟨d,op,ty,pos,af,none⟩ l H λv H1=>nT P ops os (tr++[(l,H,v)]) (put l d v) H1 K:=by rw[nT];simp[Region.wanted]
theorem a8b(ops:Array Oper)(d op ty pos af)(j:Nat)(b:Bool)(os:List Oper)(tr)(l:List Value)(K): nT P ops (⟨d,op,ty,pos,af,some (j,b)⟩::os) tr l H K=wL (zA ops j) l b (mW P ⟨d,op,ty,pos,af,some (j,b)⟩ l H λv H1=>nT P ops os (tr++[(l,H,v)]) (put l d v) H1 K) (nT P ops os (tr++[(l,H,undef)]) (put l d undef) H K):=by rw[nT,<-uE ops l d op ty pos af]
theorem vP{ops:Array Oper}{K:List (List Value×Heap×Value)->List Value->Heap->Prop}:∀(os:List Oper)(i:Nat),ops.toList.drop i=os->∀(tr:List (List Value×Heap×Value))(l:List Value)(H:Heap),nT P ops os tr l H K-> ∃(T:Nat->List Value×Heap)(val:Nat->Value)(l':List Value)(H':Heap)(ext:List (List Value×Heap×Value)),T 0=(l,H)∧T os.length=(l',H')∧ext.length=os.length∧(∀k,k<os.length->ext[k]? =some ((T k).1,(T k).2,val k))∧ (∀k,k<os.length->xI P ops (i+k) (T k) (T (k+1)) (val k))∧K (tr++ext) l' H'| [],i,_,tr,l,H,h=>⟨λ_=>(l,H),λ_=>undef,l,H,[],rfl,rfl,rfl,by simp,by simp,by simpa [nT]using h⟩| o::os,i,hd,tr,l,H,h=>by(have ho:ops[i]? =some o:=by(have:(ops.toList.drop i)[0]? =some o:=by rw[hd];rfl);rw[eF]at this;simpa using this);(have hd':ops.toList.drop (i+1)=os:=by rw[<-gD,hd];rfl);(have key:∀(v:Value)(H1:Heap),xI P ops i (l,H) (put l o.dst v,H1) v->nT P ops os (tr++[(l,H,v)]) (put l o.dst v) H1 K-> ∃(T:Nat->List Value×Heap)(val:Nat->Value)(l':List Value)(H':Heap)(ext:List (List Value×Heap×Value)),T 0=(l,H)∧T (o::os).length=(l',H')∧ext.length=(o::os).length∧(∀k,k<(o::os).length->ext[k]? =some ((T k).1,(T k).2,val k))∧ (∀k,k<(o::os).length->xI P ops (i+k) (T k) (T (k+1)) (val k))∧K (tr++ext) l' H':=by intro v H1 hst hop;obtain⟨T,val,l',H',ext,h0,h1,h2,h3,h4,h5⟩:=vP os (i+1) hd' _ _ _ hop;refine⟨λk=>match k with|0=>(l,H)|k+1=>T k,λk=>match k with|0=>v|k+1=>val k,l',H',(l,H,v)::ext,rfl,h1,by simp[h2],?_,?_,by simpa using h5⟩;(·intro k hk;cases k with| zero=>rfl| succ k=>simpa using h3 k (by simpa using hk));·intro k hk;cases k with| zero=>simp only[h0];exact hst| succ k=>have:=h4 k (by simpa using hk);rw[show i+(k+1)=i+1+k from by omega];exact this);unfold nT at h;split at h;(·rename_i hw;obtain⟨v,H1,h1,h2⟩:=wW h;exact key v H1 ⟨o,ho,rfl,.inl ⟨hw,h1⟩⟩ h2);·rename_i hw;exact key undef H ⟨o,ho,rfl,.inr ⟨by simpa using hw,rfl,rfl⟩⟩ h
def b8m(P:Program)(ops:Array Oper)(tr:List (List Value×Heap×Value))(H1:Heap)(i m:Nat):Prop:=match ops[i]?,tr[i]? with| some o,some (l,_,v)=>Region.wanted o (jS ops l)=true->mW P o l (match tr[m]? with|some y=>y.2.1|none=>H1) λv' _=>v'=v| _,_=>False
def a0c(o:Oper):Bool:=match o.op with|.call c=>(match c.callee with|.value _=>false|_=>true)|_=>true
def vR(ops:Array Oper)(tab:List (Nat×Nat)):Bool:=tab.all λx=>match ops[x.1]? with|some o=>a0c o|none=>false
theorem b1J{o:Oper}{l:List Value}{K:Value->Heap->Prop}(hn:a0c o=true)(h:mW P o l H K):∃v H1,opD P o l H=some (v,H1)∧K v H1:=by obtain⟨v,H1,h1,h2⟩:=wW h;refine⟨v,H1,h1.opD λc f hc hf=> ?_,h2⟩;simp[a0c,hc,hf]at hn
theorem Wp.cW(lA:P.follows .mixedOrders=true){id:Nat}{ops:Array Oper}{l:List Value}{Q:lS}(tab:List (Nat×Nat))(htab:oH P ops=some tab)(hn:vR ops tab=true) (h:nT P ops ops.toList [] l H λtr l1 H1=>Q .normal l1 H1∧∀x∈tab,b8m P ops tr H1 x.1 x.2):Wp P (.region id ops true) l H Q:=by
 obtain⟨T,val,l',H',ext,h0,h1,h2,h3,h4,h5,h6⟩:=vP ops.toList 0 rfl [] l H h;(have hlen:ops.toList.length=ops.size:=by simp);rw[hlen]at h1 h2 h3 h4;(have:=Sim.draw lA (id:=id) htab (T:=T) (val:=val) ⟨λk hk=>by simpa using h4 k hk⟩ λi m o hm ho hw=>by have hr:=h6 (i,m) hm;have hi:i<ops.size:=(dQ.1 ho).1;unfold b8m at hr;simp only[gq]at hr;rw[ho,h3 i hi]at hr;have hr:=hr hw;(have hno:a0c o=true:=by unfold vR at hn;have:=dZ.1 hn (i,m) hm;simpa [ho]using this);(have hTm:(match ext[m]? with|some y=>y.2.1|none=>H')=(T m).2∨ops.size<m:=by by_cases hm2:m<ops.size;(·left;rw[h3 m hm2]);·by_cases hm3:m=ops.size;(·left;rw[fx (by omega),hm3,h1]);·right;omega);rcases hTm with hTm|hTm;(·rw[hTm]at hr;obtain⟨v,H2,h7,h8⟩:=b1J hno hr;exact⟨H2,by rw[h7,h8]⟩);·exfalso;obtain⟨fl,D,rfl⟩:=rH htab;have:=a2w hm;omega);rw[h0,h1]at this;exact⟨_,_,_,this,h5⟩
theorem b4Z{c:Code}{l l':List Value}{Q:lS}(h:l=l'):Wp P c l H Q=Wp P c l' H Q:=by rw[h]
attribute [congr] b4Z
theorem a4a(id:Nat)(Q:lS)(l:List Value):yH id Q .normal l H=Q .normal l H:=rfl
theorem b0R(id:Nat)(Q:lS)(l:List Value):yH id Q .ret l H=Q .ret l H:=rfl
theorem a8n(id i:Nat)(Q:lS)(l:List Value):yH id Q (.exit i) l H=if i=id then Q .normal l H else Q (.exit i) l H:=by simp only[yH,Ex.out];split<;>rfl
def xU(I:Nat->List Value->Heap->Prop)(n:Nat)(Q:lS):lS:=λe l1 H1=>match e with|.normal=>∃m,m<n∧I m l1 H1|e=>Q e l1 H1
theorem a3Y(I:Nat->List Value->Heap->Prop)(n:Nat)(Q:lS)(l:List Value):xU I n Q .normal l H=∃m,m<n∧I m l H:=rfl
theorem a7a(I:Nat->List Value->Heap->Prop)(n:Nat)(Q:lS)(i:Nat)(l:List Value):xU I n Q (.exit i) l H=Q (.exit i) l H:=rfl
theorem a9O(I:Nat->List Value->Heap->Prop)(n:Nat)(Q:lS)(l:List Value):xU I n Q .ret l H=Q .ret l H:=rfl
theorem Wp.cut{c:Code}{l:List Value}{Q:lS}(M:lS)(h:Wp P c l H M)(hm:∀e l H,M e l H->Q e l H):Wp P c l H Q:=h.mono hm
theorem b6e(l:List Value)(k t:Nat)(v:Value):get (put l (some k) v) t=if k=t then(if k<l.length then v else get l t)else get l t:=by rw[oU];by_cases h:k=t;(·subst h;simp);·simp[h]
theorem a7G(l:List Value)(k:Nat)(v:Value):(put l (some k) v).length=l.length:=lY l _ v
def oS(v:Value)(p q:Prop)(_k1:Keep p:=⟨⟩)(_k2:Keep q:=⟨⟩):Prop:=match v with|.bool c=>if c=true then p else q|_=>False
theorem a8L{v v':Value}{p q:Prop}(h:v=v'):oS v p q=oS v' p q:=by rw[h]
attribute [congr] a8L
theorem a9l(p q:Prop):oS (.bool true) p q=p:=rfl
theorem a8u(p q:Prop):oS (.bool false) p q=q:=rfl
theorem jB{c:Prop}[Decidable c]{p q:Prop}(h1:c->p)(h2:¬c->q):oS (.bool (decide c)) p q:=by by_cases h:c;(·simp only[oS,h,decide_true,if_true];exact h1 h);·simp only[oS,h,decide_false,eH,if_false];exact h2 h
theorem kN{c:Bool}{p q:Prop}(h1:c=true->p)(h2:c=false->q):oS (.bool c) p q:=by cases c;(·exact h2 rfl);·exact h1 rfl
theorem Wp.bW{t:Tmp}{x y:Code}{l:List Value}{Q:lS}(h:oS (get l t) (Wp P x l H Q) (Wp P y l H Q)):Wp P (.cond (.tmp t) x y) l H Q:=by unfold oS at h;split at h;(·rename_i c hc;refine Wp.cond c hc rfl ?_;cases c;(·simpa using h);·simpa using h);·exact h.elim
theorem Wp.reg{id:Nat}{os:List Oper}{l:List Value}{Q:lS}(h:pI P os.toArray os l H λl H=>Q .normal l H):Wp P (.region id os.toArray false) l H Q:=.region h
theorem Wp.drw(lA:P.follows .mixedOrders=true){id:Nat}{os:List Oper}{l:List Value}{Q:lS}(htab:oH P os.toArray=some [])(h:pI P os.toArray os l H λl H=>Q .normal l H):Wp P (.region id os.toArray true) l H Q:=.draw lA htab h
def a4i(f:Nat->Nat->Prop):List (Nat×Nat)->Prop| []=>True| (i,m)::r=>f i m∧a4i f r
theorem b2a(f:Nat->Nat->Prop):a4i f []=True:=rfl
theorem a9X(f:Nat->Nat->Prop)(i m:Nat)(r:List (Nat×Nat)):a4i f ((i,m)::r)=(f i m∧a4i f r):=rfl
theorem a4X{f:Nat->Nat->Prop}:∀{tab:List (Nat×Nat)},a4i f tab->∀x∈tab,f x.1 x.2| [],_,x,hx=>by cases hx| (i,m)::r,h,x,hx=>by rcases fC.1 hx with rfl|hx;(·exact h.1);·exact a4X h.2 x hx
def trH(y:Option (List Value×Heap×Value))(H1:Heap):Heap:=match y with|some y=>y.2.1|none=>H1
theorem b5F(l:List Value)(H:Heap)(v:Value)(H1:Heap):trH (some (l,H,v)) H1=H:=rfl
theorem b6Y(H1:Heap):trH none H1=H1:=rfl
def rdW(P:Program)(ops:Array Oper)(o:Option Oper)(t:Option (List Value×Heap×Value))(H:Heap):Prop:=match o,t with| some o,some (l,_,v)=>Region.wanted o (jS ops l)=true->mW P o l H λv' _=>v'=v| _,_=>False
theorem b9t(os:List Oper)(tr:List (List Value×Heap×Value))(H1:Heap)(i m:Nat):b8m P os.toArray tr H1 i m=rdW P os.toArray os[i]? tr[i]? (trH tr[m]? H1):=by simp[b8m,rdW,trH]
theorem b5n(ops:Array Oper)(d op ty pos af)(l:List Value)(H':Heap)(v:Value):rdW P ops (some ⟨d,op,ty,pos,af,none⟩) (some (l,H',v)) H=mW P ⟨d,op,ty,pos,af,none⟩ l H λv' _=>v'=v:=by simp[rdW,Region.wanted]
theorem Wp.aT(lA:P.follows .mixedOrders=true){id:Nat}{os:List Oper}{l:List Value}{Q:lS}(tab:List (Nat×Nat))(htab:oH P os.toArray=some tab)(hn:vR os.toArray tab=true) (h:nT P os.toArray os [] l H λtr l1 H1=>Q .normal l1 H1∧a4i (b8m P os.toArray tr H1) tab):Wp P (.region id os.toArray true) l H Q:=by
 refine .cW lA tab htab hn ?_;(have key:∀(os':List Oper)(tr)(l:List Value)(H:Heap)(K K':List (List Value×Heap×Value)->List Value->Heap->Prop),(∀tr l H,K tr l H->K' tr l H)->nT P os.toArray os' tr l H K->nT P os.toArray os' tr l H K':=by intro os';induction os' with| nil=>intro tr l H K K' hk h;exact hk _ _ _ h| cons o os' ih=>intro tr l H K K' hk h;unfold nT at h ⊢;split;(·rename_i hw;rw[if_pos hw]at h;(have mono:∀{K1 K2:Value->Heap->Prop},(∀v H1,K1 v H1->K2 v H1)->mW P o l H K1->mW P o l H K2:=by intro K1 K2 hk12 h1;obtain⟨h2,h3⟩:=h1;refine⟨h2,?_⟩;(have bw:∀r,kU r K1->kU r K2:=λr hr=>by cases r with| none=>exact hr| some r=>exact hk12 _ _ hr);split at h3;(·exact hk12 _ _ h3);(·exact hk12 _ _ h3);(·split at h3;(·unfold zL at h3 ⊢;split at h3;(·obtain⟨v,H1,a,b,c⟩:=h3;exact⟨v,H1,a,b,hk12 _ _ c⟩);(·obtain⟨v,H1,a,b⟩:=h3;exact⟨v,H1,a,hk12 _ _ b⟩);·exact h3);·exact bw _ h3);·exact bw _ h3);exact mono (λv H1 h=>ih _ _ _ _ _ hk h) h);·rename_i hw;rw[if_neg hw]at h;exact ih _ _ _ _ _ hk h)
 exact key _ _ _ _ _ _ (λtr l1 H1 h=>⟨h.1,a4X h.2⟩) h
theorem Wp.bX{c:Code}{Q:lS}(I:Nat->List Value->Heap->Prop){l:List Value}(n:Nat)(h:I n l H)(step:∀n l H,I n l H->Wp P c l H (xU I n Q)):Wp P (.loop c) l H Q:=Wp.loop I step n h
end
end Go.Ds
namespace Go.Ds
noncomputable section
structure Base where
 H:Heap
 X:Nat→Prop
instance:Coe Heap Base:=⟨λH=>⟨H,λ_=>False⟩⟩
variable {P:Program} {H0:Base} {H:Heap}
structure Ob where
 v:Value
 size:Nat
 cs:List Value
def blk:Value->Option Nat| .slice (some a) _ _=>some a.block| .pointer (some a)=>some a.block| .map (some A)=>some A| _=>none
def mcs(es:List MapEntry):List Value:=es.flatMap λe=>[e.key,e.val]
abbrev ptr(A off n:Nat):Value:=.pointer (some ⟨A,off,some n⟩)
def RdAt(H:Heap)(v:Value)(size:Nat)(cs:List Value):Prop:=(v=.slice none 0 0∧cs=[])∨∃A i e row ty rw lo ver n,jM H A=some (.cells row ty rw lo ver)∧lo<=e∧e<=row.length∧i+cs.length<=e∧(row.drop i).take cs.length=cs∧ cs.length=n*size∧v=.slice (some ⟨A,i,some e⟩) n size
def Stamps(es:List MapEntry)(ck:Nat):Prop:=(es.map (·.born)).Pairwise (·<·)∧∀e∈es,e.born<ck
theorem Stamps.nil(ck:Nat):Stamps [] ck:=⟨.nil,by simp⟩
theorem Stamps.push{es:List MapEntry}{ck:Nat}(h:Stamps es ck)(e:MapEntry)(he:e.born=ck):Stamps (es++[e]) (ck+1):=by refine⟨?_,λx hx=> ?_⟩;(·rw[ew,gf];refine⟨h.1,by simp,λa ha b hb=> ?_⟩;obtain⟨x,hx,rfl⟩:=eC.1 ha;simp only[fD,List.map_nil,ee]at hb;have:=h.2 x hx;omega);·rcases eo.1 hx with hx|hx;(·have:=h.2 x hx;omega);·rw[ee.1 hx];omega
theorem Stamps.set{es:List MapEntry}{ck:Nat}(h:Stamps es ck){j:Nat}{e:MapEntry}(hj:es[j]? =some e)(e':MapEntry)(he:e'.born=e.born):Stamps (es.set j e') ck:=by(have hb:(es.set j e').map (·.born)=es.map (·.born):=by rw[gV,he];apply iu;intro i;rw[iw];split;(·rename_i hij;subst hij;obtain⟨hlt,hg⟩:=dW.1 hj;simp[hlt,hg]);·rfl);refine⟨by rw[hb];exact h.1,λx hx=> ?_⟩;have:x.born∈(es.set j e').map (·.born):=eZ hx;rw[hb]at this;obtain⟨y,hy,hxy⟩:=eC.1 this;rw[<-hxy];exact h.2 y hy
theorem Stamps.idx{es:List MapEntry}{ck:Nat}(h:Stamps es ck){j:Nat}{e:MapEntry}(hj:es[j]? =some e):es.findIdx? (λx=>(x.born:Int)==(e.born:Int))=some j:=by obtain⟨hlt,hg⟩:=dW.1 hj;rw[ig];refine⟨hlt,by rw[hg];simp,λi hi=> ?_⟩;have h1:=(fH.1 h.1) i j (by simpa using(by omega:i<es.length)) (by simpa using hlt) hi;simp only[List.getElem_map]at h1;rw[hg]at h1;simp only[beq_iff_eq,Int.natCast_inj];exact Nat.ne_of_lt h1
def OwnAt(P:Program)(H:Heap)(o:Ob):Prop:=if o.size=0 then(∃A ty lo ver,jM H A=some (.cells o.cs ty true lo ver)∧lo<=o.cs.length∧o.v=ptr A 0 o.cs.length)∨∃A es ck ver,jM H A=some (.map es ck ver)∧o.cs=mcs es∧o.v=.map (some A)∧Stamps es ck else(o.v=.slice none 0 0∧o.cs=[])∨∃A i ty lo ver pre n,jM H A=some (.cells (pre++o.cs) ty true lo ver)∧lo<=i+o.cs.length∧pre.length=i∧o.cs.length=n*o.size∧ o.v=.slice (some ⟨A,i,some (i+o.cs.length)⟩) n o.size∧jF P ty=some o.size
structure St(P:Program)(H0:Base)(H:Heap)(os:List Ob):Prop where
 len:H0.H.length≤H.length
 old:∀B,B<H0.H.length→¬H0.X B→jM H B=jM H0.H B
 own:∀o∈os,OwnAt P H o
 new:∀o∈os,∀B,blk o.v=some B→H0.H.length≤B∨H0.X B
 sep:os.Pairwise fun o o'=>∀B,blk o.v=some B→blk o'.v≠some B
theorem St.refl(P:Program)(H:Heap):St P H H []:=⟨dP _,λ_ _ _=>rfl,by simp,by simp,.nil⟩
theorem RdAt.ar{H':Heap}{v:Value}{size:Nat}{cs:List Value}(h:RdAt H v size cs)(hk:∀B,B<H.length->jM H' B=jM H B):RdAt H' v size cs:=by rcases h with h|⟨A,i,e,row,ty,rw,lo,ver,n,h,h2⟩;(·exact .inl h);·exact .inr ⟨A,i,e,row,ty,rw,lo,ver,n,by rw[hk A (jX h),h],h2⟩
theorem St.ar{H0:Heap}{os:List Ob}(h:St P H0 H os):∀B,B<H0.length->jM H B=jM H0 B:=λB hB=>h.old B hB (λh=>h)
theorem St.base{H0:Heap}{os:List Ob}(h:St P H0 H os){v:Value}{size:Nat}{cs:List Value}(hr:RdAt H0 v size cs):RdAt H v size cs:=hr.ar h.ar
theorem OwnAt.lt{o:Ob}(h:OwnAt P H o){B:Nat}(hb:blk o.v=some B):B<H.length:=by unfold OwnAt at h;split at h;(·rcases h with⟨A,ty,lo,ver,h1,_,h3⟩|⟨A,es,ck,ver,h1,_,h3,_⟩;(·rw[h3]at hb;simp[blk]at hb;exact hb▸jX h1);·rw[h3]at hb;simp[blk]at hb;exact hb▸jX h1);·rcases h with⟨h1,_⟩|⟨A,i,ty,lo,ver,pre,n,h1,_,_,_,h5,_⟩;(·rw[h1]at hb;simp[blk]at hb);·rw[h5]at hb;simp[blk]at hb;exact hb▸jX h1
theorem OwnAt.ar{H':Heap}{o:Ob}(h:OwnAt P H o)(hk:∀B,blk o.v=some B->jM H' B=jM H B):OwnAt P H' o:=by unfold OwnAt at h ⊢;split at h;(·rename_i hz;rw[if_pos hz];rcases h with⟨A,ty,lo,ver,h1,h2,h3⟩|⟨A,es,ck,ver,h1,h2,h3⟩;(·exact .inl ⟨A,ty,lo,ver,by rw[hk A (by rw[h3];rfl),h1],h2,h3⟩);·exact .inr ⟨A,es,ck,ver,by rw[hk A (by rw[h3.1];rfl),h1],h2,h3⟩);·rename_i hz;rw[if_neg hz];rcases h with h|⟨A,i,ty,lo,ver,pre,n,h1,h2,h3,h4,h5,h6⟩;(·exact .inl h);·exact .inr ⟨A,i,ty,lo,ver,pre,n,by rw[hk A (by rw[h5];rfl),h1],h2,h3,h4,h5,h6⟩
theorem OwnAt.rd{o:Ob}(h:OwnAt P H o)(hz:o.size≠0):RdAt H o.v o.size o.cs:=by unfold OwnAt at h;rw[if_neg hz]at h;rcases h with h|⟨A,i,ty,lo,ver,pre,n,h1,h2,h3,h4,h5,h6⟩;(·exact .inl h);·refine .inr ⟨A,i,_,_,ty,true,lo,ver,n,h1,h2,by simp[h3],dP _,?_,h4,h5⟩;rw[<-h3];simp
theorem St.rd{os:List Ob}(h:St P H0 H os)(i:Nat){v:Value}{size:Nat}{cs:List Value}(ho:os[i]? =some ⟨v,size+1,cs⟩):RdAt H v (size+1) cs:=(h.own _ (eh ho)).rd (ff _)
def jU(P:Program)(t:TypeId):Option Nat:=(jI P t).bind (jF P)
def jR(P:Program)(s:TypeId)(f:Nat):Option Nat:=(pV P s f).bind λfd=>(jF P fd.type).bind λn=>if n==0 then none else some fd.offset
def a1h(o:Option Nat)(P:Program)(H:Heap)(t:TypeId)(v:Value):Option Value:=match o with| some _=>(match v with|.slice _ n _=>some (.int .i64 n)|_=>none)| none=>a0Q P H t v
theorem b9R(t:TypeId)(v:Value):a0Q P H t v=a1h (jU P t) P H t v:=by unfold a1h;split;(·rename_i n hn;unfold jU jI at hn;unfold a0Q;split at hn;(·rename_i e he;rw[he];cases v<;>simp[xW,goInt]);·cases hn);·rfl
def a1M(o:Option Nat)(P:Program)(t:TypeId)(v i:Value):Option Value:=match o with| some s=>(match v,i with|.slice (some ⟨A,i,some e⟩) n _,.int _ j=>if 0<=j&&j<n then some (ptr A (i+j.toNat*s) e)else none|_,_=>none)| none=>a3S P t v i
theorem b9q(t:TypeId)(v i:Value):a3S P t v i=a1M (jU P t) P t v i:=by unfold a1M;split;(·rename_i n hn;unfold jU jI at hn;unfold a3S;split at hn;(·rename_i e he;simp only[dL]at hn;rw[he];cases v with| slice a m c=>(cases a with| none=>cases i<;>rfl| some a=>obtain⟨A,i',s⟩:=a;cases s with| none=>cases i<;>rfl| some s=>cases i with| int k j=>simp only[hn,dL]| _=>rfl)| _=>cases i<;>rfl);·cases hn);·rfl
def b0I(o:Option Nat)(v:Value):Option Value:=match o,v with| some d,.pointer (some ⟨A,i,some e⟩)=>some (ptr A (i+d) e)| _,_=>none
theorem b9y(s:TypeId)(f:Nat)(v:Value):a7n P s f v=b0I (jR P s f) v:=by unfold a7n jR;split;(·cases pV P s f with| none=>rfl| some fd=>simp only[dL];cases jF P fd.type with| none=>rfl| some n=>simp only[dL];split<;>rfl);·rename_i h;unfold b0I;split;(·exact(h _ _ _ rfl).elim);·rfl
theorem b7D(d A i e:Nat):b0I (some d) (ptr A i e)=some (ptr A (i+d) e):=rfl
theorem RdAt.len{v:Value}{size:Nat}{cs:List Value}(h:RdAt H v (size+1) cs){n:Nat}(hn:cs.length=n*(size+1))(m:Nat)(t:TypeId):a1h (some m) P H t v=some (.int .i64 n):=by have hn':∀m,cs.length=m*(size+1)->m=n:=λm hm=>gF (gI size) (hm.symm.trans hn);rcases h with⟨rfl,rfl⟩|⟨A,i,e,row,ty,rw,lo,ver,m,h1,h2,h3,h4,h5,h6,rfl⟩;(·have:=hn' 0 (by simp);subst this;rfl);·have:=hn' m h6;subst this;rfl
theorem RdAt.idx{v:Value}{size:Nat}{cs:List Value}(h:RdAt H v (size+1) cs){n:Nat}(hn:cs.length=n*(size+1))(t:TypeId)(k:IntKind)(j:Int) (h0:0<=j) (h1:j<n):a1M (some (size+1)) P t v (.int k j)=some (lB v (size+1) j.toNat 0):=by have hn':∀m,cs.length=m*(size+1)->m=n:=λm hm=>gF (gI size) (hm.symm.trans hn);rcases h with⟨rfl,rfl⟩|⟨A,i,e,row,ty,rw,lo,ver,m,h2,h3,h4,h5,h6,h7,rfl⟩;(·have:=hn' 0 (by simp);omega);·have:=hn' m h7;subst this;simp[a1M,h0,h1,lB]
theorem RdAt.ba{v:Value}{size:Nat}{cs:List Value}(h:RdAt H v (size+1) cs)(j:Nat)(hj:j*(size+1)<cs.length)(g d:Nat):b0I (some d) (lB v (size+1) j g)=some (lB v (size+1) j (g+d)):=by rcases h with⟨rfl,rfl⟩|⟨A,i,e,row,ty,rw,lo,ver,n,h1,h2,h3,h4,h5,h6,rfl⟩;(·simp at hj);·simp[b0I,lB,gy]
theorem RdAt.get{v:Value}{size:Nat}{cs:List Value}(h:RdAt H v size cs)(j f m:Nat)(hk:j*size+f+m≤cs.length)(hm:0<m):∃A i e,lB v size j f=ptr A i e∧kB H A i e m=some ((cs.drop (j*size+f)).take m):=by
 rcases h with⟨rfl,rfl⟩|⟨A,i,e,row,ty,rw,lo,ver,n,h1,h2,h3,h4,h5,h6,rfl⟩
 ·simp at hk;omega
 ·refine⟨_,_,_,rfl,?_⟩;simp only[kB,h1];rw[if_pos (by simp;omega)];congr 1
  conv=>rhs;rw[←h5]
  rw[List.drop_take,List.take_take,gD,gT (by omega)];simp[gy]
theorem RdAt.ld{v:Value}{size:Nat}{cs:List Value}(h:RdAt H v size cs)(s:Option Nat)(j f:Nat)(hk:j*size+f<cs.length):rD (some false) s H (lB v size j f)=cs[j*size+f]?:=by obtain⟨A,i,e,h1,h2⟩:=h.get j f 1 hk (by omega);rw[h1];simp only[rD,h2,dL];rw[eX (by omega),eF];simp
theorem RdAt.av{v:Value}{size:Nat}{cs:List Value}(h:RdAt H v size cs)(m j f:Nat)(hk:j*size+f+m<=cs.length)(hm:0<m):rD (some true) (some m) H (lB v size j f)=some (.agg ((cs.drop (j*size+f)).take m).toArray):=by obtain⟨A,i,e,h1,h2⟩:=h.get j f m hk hm;rw[h1];simp only[rD,h2,dL,eA]
def Sl1{α:Type}(H:Heap)(v:Value)(mk:α->Value)(xs:List α):Prop:=RdAt H v 1 (xs.map mk)
section
variable {α:Type} {mk:α→Value} {v:Value} {xs:List α}
theorem Sl1.len(h:Sl1 H v mk xs)(m:Nat)(t:TypeId):a1h (some m) P H t v=some (.int .i64 xs.length):=RdAt.len (size:=0) h (by simp) m t
theorem Sl1.idx(h:Sl1 H v mk xs)(t:TypeId)(k:IntKind)(j:Int)(h0:0<=j)(h1:j<xs.length):a1M (some 1) P t v (.int k j)=some (lB v 1 j.toNat 0):=RdAt.idx (size:=0) h (by simp) t k j h0 h1
theorem Sl1.ld(h:Sl1 H v mk xs)(d:α)(s:Option Nat)(j:Nat)(hj:j<xs.length):rD (some false) s H (lB v 1 j 0)=some (mk (xs.getD j d)):=by rw[RdAt.ld h s j 0 (by simpa using hj)];simp[dT,hj]
end
def Sl2{α:Type}(H:Heap)(v:Value)(f g:α->Value)(xs:List α):Prop:=RdAt H v 2 (xs.flatMap λx=>[f x,g x])
theorem pP{α:Type}(f g:α->Value)(xs:List α):(xs.flatMap λx=>[f x,g x]).length=xs.length*2:=by induction xs with| nil=>rfl| cons x xs ih=>simp[eW,ih];omega
theorem a3C{α:Type}(f g:α->Value):∀(xs:List α)(j:Nat),(xs.flatMap λx=>[f x,g x]).drop (j*2)=(xs.drop j).flatMap λx=>[f x,g x]| [],j=>by simp| x::xs,0=>rfl| x::xs,j+1=>by rw[Nat.succ_mul];simp only[eW,gx,gq,List.drop_succ_cons];exact a3C f g xs j
section
variable {α:Type} {f g:α→Value} {v:Value} {xs:List α}
theorem Sl2.len(h:Sl2 H v f g xs)(m:Nat)(t:TypeId):a1h (some m) P H t v=some (.int .i64 xs.length):=RdAt.len (size:=1) h (pP f g xs) m t
theorem Sl2.idx(h:Sl2 H v f g xs)(t:TypeId)(k:IntKind)(j:Int)(h0:0<=j)(h1:j<xs.length):a1M (some 2) P t v (.int k j)=some (lB v 2 j.toNat 0):=RdAt.idx (size:=1) h (pP f g xs) t k j h0 h1
theorem Sl2.ba(h:Sl2 H v f g xs)(j:Nat)(hj:j<xs.length)(g d:Nat):b0I (some d) (lB v 2 j g)=some (lB v 2 j (g+d)):=RdAt.ba (size:=1) h j (by rw[pP];omega) g d
theorem Sl2.drop(j:Nat)(hj:j<xs.length)(d:α):(xs.flatMap λx=>[f x,g x]).drop (j*2)=f (xs.getD j d)::g (xs.getD j d)::((xs.drop (j+1)).flatMap λx=>[f x,g x]):=by rw[a3C,fI hj];(have e:xs.getD j d=xs[j]:=by simp[dT,hj]);rw[e];rfl
theorem Sl2.ld1(h:Sl2 H v f g xs)(d:α)(s:Option Nat)(j:Nat)(hj:j<xs.length):rD (some false) s H (lB v 2 j 1)=some (g (xs.getD j d)):=by rw[RdAt.ld h s j 1 (by rw[pP];omega)];have:=Sl2.drop (f:=f) (g:=g) j hj d;(have h2:((xs.flatMap λx=>[f x,g x]).drop (j*2))[1]? =some (g (xs.getD j d)):=by rw[this];rfl);rwa [eF]at h2
theorem Sl2.av(h:Sl2 H v f g xs)(d:α)(j:Nat)(hj:j<xs.length):rD (some true) (some 2) H (lB v 2 j 0)=some (.agg #[f (xs.getD j d),g (xs.getD j d)]):=by rw[RdAt.av h 2 j 0 (by rw[pP];omega) (by omega)];have:=Sl2.drop (f:=f) (g:=g) j hj d;rw[Nat.add_zero,this];rfl
end
theorem St.cell{os:List Ob}(hS:St P H0 H os)(i:Nat){A n:Nat}{cs:List Value}(ho:os[i]? =some ⟨ptr A 0 n,0,cs⟩):n=cs.length∧∃ty lo ver,jM H A=some (.cells cs ty true lo ver)∧lo<=cs.length:=by have:=hS.own _ (eh ho);unfold OwnAt at this;rw[if_pos rfl]at this;rcases this with this|⟨_,_,_,_,_,_,h,_⟩;(case inr=>cases h);obtain⟨A',ty,lo,ver,h1,h2,h3⟩:=this;simp only[ptr,Value.pointer.injEq,ef,Addr.mk.injEq,true_and]at h3;obtain⟨rfl,rfl⟩:=h3;exact⟨rfl,ty,lo,ver,h1,h2⟩
theorem St.ld{os:List Ob}(hS:St P H0 H os)(i:Nat){A n:Nat}{cs:List Value}(ho:os[i]? =some ⟨ptr A 0 n,0,cs⟩)(s:Option Nat)(off:Nat):rD (some false) s H (ptr A off n)=cs[off]?:=by obtain⟨rfl,ty,lo,ver,h1,h2⟩:=hS.cell i ho;simp only[rD,kB,h1];by_cases h:off<cs.length;(·rw[if_pos (by simp;omega)];simp only[dL];rw[eX (by omega),eF];simp);·rw[if_neg (by simp;omega),fx (by omega)];rfl
theorem St.av{os:List Ob}(hS:St P H0 H os)(i:Nat){A n:Nat}{cs:List Value}(ho:os[i]? =some ⟨ptr A 0 n,0,cs⟩)(m off:Nat):rD (some true) (some m) H (ptr A off n)=if off+m<=cs.length then some (.agg ((cs.drop off).take m).toArray)else none:=by obtain⟨rfl,ty,lo,ver,h1,h2⟩:=hS.cell i ho;simp only[rD,kB,h1,dL];by_cases h:off+m<=cs.length;(·rw[if_pos (by simp;omega),if_pos h];rfl);·rw[if_neg (by simp;omega),if_neg h];rfl
theorem St.put{H1:Heap}{os:List Ob}(hS:St P H0 H os)(i:Nat){o o':Ob}(ho:os[i]? =some o)(hown:OwnAt P H1 o')(hlen:H.length<=H1.length)(hk:∀B,B<H.length->blk o.v≠some B->jM H1 B=jM H B) (hb:∀B,blk o'.v=some B->blk o.v=some B∨H.length<=B):St P H0 H1 (os.set i o'):=by
 have hi:i<os.length:=(dW.1 ho).1;have hoi:os[i]=o:=(dW.1 ho).2;have hpw:=fH.1 hS.sep;(have hne:∀j(hj:j<os.length),j≠i->∀B,blk os[j].v=some B->blk o.v≠some B:=by intro j hj hji B hB hB2;rcases gY hji with h|h;(·exact hpw j i hj hi h B hB (hoi▸hB2));·exact hpw i j hi hj h B (hoi▸hB2) hB);have ho0:∀B,blk o.v=some B->H0.H.length<=B∨H0.X B:=hS.new o (eh ho);refine⟨ek hS.len hlen,?_,?_,?_,?_⟩;(·intro B hB hX;rw[hk B (ez hB hS.len) (λh=>by rcases ho0 B h with h|h;(·omega);·exact hX h),hS.old B hB hX]);(·intro x hx;rw[eE]at hx;obtain⟨j,hj,rfl⟩:=hx;rw[im]at hj;rw[jl];split;(·exact hown);·rename_i hij;have hox:OwnAt P H os[j]:=hS.own _ (iU hj);exact hox.ar λB hB=>hk B (hox.lt hB) (hne j hj (λh=>hij h.symm) B hB));(·intro x hx B hB;rw[eE]at hx;obtain⟨j,hj,rfl⟩:=hx;rw[im]at hj;rw[jl]at hB;split at hB;(·rcases hb B hB with h|h;(·exact ho0 B h);·exact .inl (ek hS.len h));·exact hS.new _ (iU hj) B hB);·rw[fH];intro j k hj hk' hjk B;rw[im]at hj hk';rw[jl,jl];have hlt:∀j(hj:j<os.length)B,blk os[j].v=some B->B<H.length:=λj hj B hB=>(hS.own _ (iU hj)).lt hB;split;(·rename_i hij;split;(·omega);·intro h1 h2;rcases hb B h1 with h|h;(·exact hne k hk' (by omega) B h2 h);·have:=hlt k hk' B h2;omega);·rename_i hij;split;(·intro h1 h2;rcases hb B h2 with h|h;(·exact hne j hj (by omega) B h1 h);·have:=hlt j hj B h1;omega);·exact hpw j k hj hk' hjk B
theorem St.add{H1:Heap}{os:List Ob}(hS:St P H0 H os){o:Ob}(hown:OwnAt P H1 o)(hlen:H.length<=H1.length)(hk:∀B,B<H.length->jM H1 B=jM H B)(hb:∀B,blk o.v=some B->H.length<=B):St P H0 H1 (os++[o]):=by refine⟨ek hS.len hlen,λB hB hX=>by rw[hk B (ez hB hS.len),hS.old B hB hX],?_,?_,?_⟩;(·intro x hx;rcases eo.1 hx with hx|hx;(·exact(hS.own x hx).ar λB hB=>hk B ((hS.own x hx).lt hB));·obtain rfl:=ee.1 hx;exact hown);(·intro x hx B hB;rcases eo.1 hx with hx|hx;(·exact hS.new x hx B hB);·obtain rfl:=ee.1 hx;exact .inl (ek hS.len (hb B hB)));·rw[gf];refine⟨hS.sep,jc _ _,λx hx y hy B h1 h2=> ?_⟩;obtain rfl:=ee.1 hy;have:=(hS.own x hx).lt h1;have:=hb B h2;omega
theorem St.trans{H1:Heap}{os os1:List Ob}(hS:St P H0 H os)(h1:St P H H1 os1):St P H0 H1 (os++os1):=by refine⟨ek hS.len h1.len,λB hB hX=>by rw[h1.ar B (ez hB hS.len),hS.old B hB hX],?_,?_,?_⟩;(·intro x hx;rcases eo.1 hx with hx|hx;(·exact(hS.own x hx).ar λB hB=>h1.ar B ((hS.own x hx).lt hB));·exact h1.own x hx);(·intro x hx B hB;rcases eo.1 hx with hx|hx;(·exact hS.new x hx B hB);·rcases h1.new x hx B hB with h|h;(·exact .inl (ek hS.len h));·exact h.elim);·rw[gf];refine⟨hS.sep,h1.sep,λx hx y hy B e1 e2=> ?_⟩;have:=(hS.own x hx).lt e1;rcases h1.new y hy B e2 with h|h;(·have h:H.length<=B:=h;omega);·exact h.elim
def pA(os:List Ob):Nat->Prop:=λA=>∃o∈os,blk o.v=some A
theorem St.aP{os:List Ob}(hS:St P H0 H os):St P ⟨H,pA os⟩ H os:=⟨dP _,λ_ _ _=>rfl,hS.own,λo ho B hB=>.inr ⟨o,ho,hB⟩,hS.sep⟩
theorem St.br{H1:Heap}{os os1:List Ob}(hS:St P H0 H os)(h1:St P ⟨H,pA os⟩ H1 os1):St P H0 H1 os1:=by refine⟨ek hS.len h1.len,?_,h1.own,?_,h1.sep⟩;(·intro B hB hX;rw[h1.old B (ez hB hS.len) ?_,hS.old B hB hX];rintro⟨o,ho,hb⟩;rcases hS.new o ho B hb with h|h;(·omega);·exact hX h);·intro o ho B hB;rcases h1.new o ho B hB with h|⟨o',ho',hb⟩;(·exact .inl (ek hS.len h));·exact hS.new o' ho' B hb
theorem St.other{H1:Heap}{os os1:List Ob}(h1:St P ⟨H,pA os⟩ H1 os1){L:Nat}(hL:L<H.length)(hn:∀o∈os,blk o.v≠some L):jM H1 L=jM H L:=h1.old L hL λ⟨o,ho,hb⟩=>hn o ho hb
theorem St.sub{os os':List Ob}(hS:St P H0 H os)(h:os'.Sublist os):St P H0 H os':=⟨hS.len,hS.old,λo ho=>hS.own o (h.subset ho),λo ho=>hS.new o (h.subset ho),hS.sep.sublist h⟩
theorem St.forget{os:List Ob}(hS:St P H0 H os):St P H0 H []:=hS.sub (List.nil_sublist _)
theorem OwnAt.nil(size:Nat):OwnAt P H ⟨.slice none 0 0,size+1,[]⟩:=by unfold OwnAt;rw[if_neg (ff _)];exact .inl ⟨rfl,rfl⟩
theorem St.nil{os:List Ob}(hS:St P H0 H os)(size:Nat):St P H0 H (os++[⟨.slice none 0 0,size+1,[]⟩]):=hS.add (.nil size) (dP _) (λ_ _=>rfl) (λB hB=>by simp[blk]at hB)
end
end Go.Ds
namespace Go.Ds
noncomputable section
variable {P:Program} {H0:Base} {H:Heap} {os:List Ob}
theorem kL:∀(vs cs:List Value)(i:Nat),(jV cs i vs).length=cs.length| [],_,_=>rfl| v::vs,cs,i=>by rw[jV,kL vs,pX,im]
theorem oC:∀(vs pre cs:List Value)(i:Nat),jV (pre++cs) (pre.length+i) vs=pre++jV cs i vs| [],_,_,_=>rfl| v::vs,pre,cs,i=>by rw[jV,jV,pX,pX,gm _ _ (by omega),jd,gy];exact oC vs pre _ _
theorem pJ(cs:List Value)(i:Nat)(v:Value)(vs:List Value):jV cs i (v::vs)=jV (cs.set i v) (i+1) vs:=by rw[jV,pX]
theorem sX(cs:List Value)(i:Nat):jV cs i []=cs:=rfl
theorem oD{A B:Nat}{b:Blk}(h:A≠B):jM (hset H A b) B=jM H B:=kA b h
theorem St.eNew(hS:St P H0 H os){t:TypeId}{v:Value}(n:Nat)(cs:List Value){K:Value->Heap->Prop}(hc:v.cells.toList=cs)(hn:cs.length=n)(h1:cs.all oneCell=true)(hs:jF P t=some n) (h:∀A H1,St P H0 H1 (os++[⟨ptr A 0 n,0,cs⟩])->K (ptr A 0 n) H1):a5z P H t v K:=by subst hn;refine⟨ptr H.length 0 cs.length,H.cons (.cells cs t true cs.length 0),?_,h _ _ (hS.add ?_ ?_ ?_ ?_)⟩;(·simp only[yI,hc,h1,hs,BEq.rfl,jn,if_true,mF]);(·unfold OwnAt;rw[if_pos rfl];exact .inl ⟨_,t,_,0,jJ H _,dP _,rfl⟩);(·simp[pR]);(·exact λB hB=>kG _ hB);·intro B hB;simp[blk]at hB;omega
theorem St.ae(hS:St P H0 H os)(i:Nat){A n:Nat}{cs:List Value}(ho:os[i]? =some ⟨ptr A 0 n,0,cs⟩){off:Nat}{t:TypeId}{v:Value}{K:Heap->Prop}(vs:List Value)(hc:v.cells.toList=vs)(h1:vs.all oneCell=true) (hs:jF P t=some vs.length) (hoff:off+vs.length<=cs.length) (h:∀H1,St P H0 H1 (os.set i ⟨ptr A 0 n,0,jV cs off vs⟩)->K H1):yG P H t (ptr A off n) v K:=by
 obtain⟨rfl,ty,lo,ver,h2,h3⟩:=hS.cell i ho;refine⟨hset H A (.cells (jV cs off vs) ty true cs.length ver),?_,h _ (hS.put i ho ?_ ?_ ?_ ?_)⟩;(·simp only[qV,h2,hc];rw[if_pos ⟨hs,h1,by trivial,hoff,h3⟩]);(·unfold OwnAt;rw[if_pos rfl];refine .inl ⟨A,ty,_,_,jL _ (jX h2),?_,?_⟩;(·simp[kL]);·simp[kL]);(·rw[kF];exact dP _);(·intro B hB hne;refine oD λhh=>hne ?_;simp[blk,hh]);·intro B hB;exact .inl hB
theorem St.cr(hS:St P H0 H os)(i:Nat){s:Value}{size:Nat}{cs:List Value}(ho:os[i]? =some ⟨s,size+1,cs⟩){j f:Nat}{t:TypeId}{v:Value}{K:Heap->Prop}(vs:List Value)(hc:v.cells.toList=vs)(h1:vs.all oneCell=true) (hs:jF P t=some vs.length) (h0:0<vs.length) (hoff:j*(size+1)+f+vs.length<=cs.length) (h:∀H1,St P H0 H1 (os.set i ⟨s,size+1,jV cs (j*(size+1)+f) vs⟩)->K H1):yG P H t (lB s (size+1) j f) v K:=by
 have hown:=hS.own _ (eh ho);unfold OwnAt at hown;rw[if_neg (ff _)]at hown;rcases hown with⟨h2,h3⟩|⟨A,k,ty,lo,ver,pre,n,h2,h3,h4,h5,h6,h7⟩;(·simp only at h3;subst h3;simp only[fo]at hoff;omega);·simp only at h2 h3 h5 h6;refine⟨hset H A (.cells (jV (pre++cs) (k+j*(size+1)+f) vs) ty true (pre++cs).length ver),?_,h _ (hS.put i ho ?_ ?_ ?_ ?_)⟩;(·simp only[qV,lB,h6,h2,hc];rw[if_pos ⟨hs,h1,by simp[h4],by omega,h3⟩]);(·unfold OwnAt;rw[if_neg (ff _)];refine .inr ⟨A,k,ty,(pre++cs).length,ver,pre,n,?_,?_,h4,?_,?_,h7⟩;(·rw[jL _ (jX h2),<-h4,gy,oC]);(·simp[kL,h4]);(·simp only[kL];exact h5);·simp only[kL];exact h6);(·rw[kF];exact dP _);(·intro B hB hne;refine oD λhh=>hne ?_;simp[blk,h6,hh]);·intro B hB;exact .inl hB
def oK(P:Program)(t:TypeId):Option (Nat×Nat):=(jI P t).bind λelem=>(jF P elem).bind λsize=>(oY P elem).bind λbytes=>(jW P elem).bind λz=>if z.cells.size==size then some (size,bytes)else none
theorem RdAt.src{x:Value}{size:Nat}{ys:List Value}(h:RdAt H x (size+1) ys):∃n,ys.length=n*(size+1)∧a0Z H (size+1) x=some (n,ys):=by rcases h with⟨rfl,rfl⟩|⟨A,i,e,row,ty,rw,lo,ver,n,h1,h2,h3,h4,h5,h6,rfl⟩;(·exact⟨0,by simp,rfl⟩);·refine⟨n,h6,?_⟩;simp only[a0Z,kB,h1];rw[<-h6,if_pos (by simp;omega),h5];rfl
theorem St.ak(hS:St P H0 H os)(i:Nat){s:Value}{size:Nat}{cs:List Value}(ho:os[i]? =some ⟨s,size+1,cs⟩){x:Value}{ys:List Value}(hx:RdAt H x (size+1) ys){t:TypeId}{bytes:Nat}{K:Value->Heap->Prop} (ha:oK P t=some (size+1,bytes)) (hroom:(cs.length+ys.length)*(bytes+1)<=17592186044416) (h:∀v H1,St P H0 H1 (os.set i ⟨v,size+1,cs++ys⟩)->K v H1):zH P H t s x K:=by
 unfold oK at ha;cases he:jI P t with| none=>rw[he]at ha;cases ha| some elem=>rw[he]at ha;simp only[dL]at ha;cases hsz:jF P elem with| none=>rw[hsz]at ha;cases ha| some sz=>rw[hsz]at ha;simp only[dL]at ha;cases hby:oY P elem with| none=>rw[hby]at ha;cases ha| some by'=>rw[hby]at ha;simp only[dL]at ha;cases hz:jW P elem with| none=>rw[hz]at ha;cases ha| some z=>rw[hz]at ha;simp only[dL]at ha;split at ha;(case isFalse=>cases ha);rename_i hzs;simp only[ef,iI]at ha;obtain⟨rfl,rfl⟩:=ha;obtain⟨n,hn,hsrc⟩:=hx.src;(have hn':n<=ys.length:=by rw[hn];exact iB n (gI size));have hown:=hS.own _ (eh ho);unfold OwnAt at hown;rw[if_neg (ff _)]at hown;rcases hown with⟨h2,h3⟩|⟨A,k,ty,lo,ver,pre,m,h2,h3,h4,h5,h6,h7⟩;(·simp only at h2 h3;subst h2 h3;by_cases h0:n=0;(·subst h0;have hys:ys=[]:=fQ (by omega);subst hys;refine⟨.slice none 0 0,H,?_,h _ _ ?_⟩;(·simp only[oW,he,hsz,hby,hz,dL,hsrc];simp[hzs,qA]);·obtain⟨hi,hoi⟩:=dW.1 ho;(have e:os.set i ⟨.slice none 0 0,size+1,[]++[]⟩=os:=by rw[eu,<-hoi,iM]);rw[e];exact hS);·refine⟨_,H.cons (.cells ys elem true ys.length 0),?_,h (.slice (some ⟨H.length,0,some ys.length⟩) n (size+1)) _ (hS.put i ho ?_ ?_ ?_ ?_)⟩;(·simp only[oW,he,hsz,hby,hz,dL,hsrc];(have hr:n*(by'+1)<=qA:=by refine ek (eT _ ?_) hroom;omega);simp[hzs,hr,h0,mF]);(·unfold OwnAt;rw[if_neg (ff _)];exact .inr ⟨_,0,elem,_,0,[],n,jJ H _,by simp,rfl,by simpa using hn,by simp,hsz⟩);(·simp[pR]);(·exact λB hB _=>kG _ hB);·intro B hB;simp[blk]at hB;omega);·simp only at h2 h3 h5 h6;refine⟨_,hset H A (.cells (pre++cs++ys) ty true lo (if ty==elem then ver else 2)),?_,h (.slice (some ⟨A,k,some (k+cs.length+ys.length)⟩) (m+n) (size+1)) _ (hS.put i ho ?_ ?_ ?_ ?_)⟩;(·(have hr:(m+n)*(by'+1)<=qA:=by refine ek (eT _ ?_) hroom;(have:m<=cs.length:=by rw[h5];exact iB m (gI size));omega);simp only[oW,he,hsz,hby,hz,dL,hsrc,h6,h2];rw[if_pos];(·simp[a0A]);·(have h3':lo<=k+m*(size+1):=by rw[<-h5];exact h3);simp[hr,hzs,h7,h4,h3',h5]);(·unfold OwnAt;rw[if_neg (ff _)];refine .inr ⟨A,k,ty,lo,(if ty==elem then ver else 2),pre,m+n,?_,?_,h4,?_,?_,h7⟩;(·rw[jL _ (jX h2),gA]);(·simp;omega);(·simp[gj,h5,hn]);·simp[gy]);(·rw[kF];exact dP _);(·intro B hB hne;refine oD λhh=>hne ?_;simp[blk,h6,hh]);·intro B hB;simp[blk]at hB;left;simp[blk,h6,hB]
theorem a4D(off:Nat):∀(vs:List Value)(k:Nat)(a:Array Value),((vs.zipIdx k).foldl (λcs(x:Value×Nat)=>cs.setIfInBounds (off+x.2) x.1) a).toList=jV a.toList (off+k) vs| [],_,_=>rfl| v::vs,k,a=>by rw[List.zipIdx_cons,gR,a4D off vs (k+1),pJ];simp[gy]
theorem pL:∀(vs pre rest:List Value),vs.length<=rest.length->jV (pre++rest) pre.length vs=pre++vs++rest.drop vs.length| [],pre,rest,_=>by simp[jV]| v::vs,pre,[],h=>by simp at h| v::vs,pre,r::rest,h=>by rw[pJ,gm _ _ (dP _),Nat.sub_self,List.set_cons_zero];have:=pL vs (pre++[v]) rest (by simpa using h);simp only[gA,gx,gq,ec,ey,fo,ir]at this;simpa using this
theorem a4I(size:Nat):∀(ps:List (Nat×Value))(k:Nat)(pre rest:List Value),pre.length=k*size->rest.length=ps.length*size->ps.map (·.1)=List.range' k ps.length->(∀p∈ps,p.2.cells.size=size)-> Instr.fill (λi=>some (i*size,size)) (pre++rest).toArray ps=some (pre++ps.flatMap λp=>p.2.cells.toList).toArray| [],k,pre,rest,_,h2,_,_=>by have:rest=[]:=fQ (by simpa using h2);subst this;simp[Instr.fill]| (i,v)::ps,k,pre,rest,h1,h2,h3,h4=>by simp only[fD,ey,gX,il]at h3;obtain⟨rfl,h3⟩:=h3;have hv:v.cells.size=size:=h4 (i,v) (eL ..);(have hrl:v.cells.toList.length<=rest.length:=by rw[h2];simp[hv,gj]);simp only[Instr.fill];rw[if_neg (by simp only[hv,ne_eq,not_true_eq_false,decide_false,Bool.false_or,gB,ec,h1,h2,ey,gj];simp)];(have e:(v.cells.zipIdx.foldl (λcs x=>cs.setIfInBounds (i*size+x.2) x.1) (pre++rest).toArray)=(pre++v.cells.toList++rest.drop v.cells.toList.length).toArray:=by apply Array.toList_inj.1;rw[<-iY,Array.toList_zipIdx,a4D,Nat.add_zero,<-h1,pL _ _ _ hrl]);have e':(v.cells.zipIdx.foldl (λcs(c,j)=>cs.setIfInBounds (i*size+j) c) (pre++rest).toArray)=(pre++v.cells.toList++rest.drop v.cells.toList.length).toArray:=e;rw[e',a4I size ps (i+1) (pre++v.cells.toList) _ (by simp[h1,hv,gj]) (by simp[h2,hv,gj]) h3 (λp hp=>h4 p (fj _ hp))];simp
theorem St.aj(hS:St P H0 H os){t:TypeId}{len:Nat}{ps:List (Nat×Value)}{size bytes:Nat}(cs:List Value){K:Value->Heap->Prop}(ha:oK P t=some (size+1,bytes))(hz:((jI P t).bind (jW P)).any jY=true) (hp:ps.map (·.1)=List.range' 0 ps.length) (hl:len=ps.length) (hsz:∀p∈ps,p.2.cells.size=size+1) (hcs:ps.flatMap (λp=>p.2.cells.toList)=cs) (h1:cs.all oneCell=true) (h0:len*(size+1)<=16777216) (hne:len≠0) (h:∀v H1,St P H0 H1 (os++[⟨v,size+1,cs⟩])->K v H1):tS P H t len ps K:=by
 subst hl;unfold oK at ha;cases he:jI P t with| none=>rw[he]at ha;cases ha| some elem=>rw[he]at ha hz;simp only[dL]at ha hz;cases hsz2:jF P elem with| none=>rw[hsz2]at ha;cases ha| some sz=>rw[hsz2]at ha;simp only[dL]at ha;cases hby:oY P elem with| none=>rw[hby]at ha;cases ha| some by'=>rw[hby]at ha;simp only[dL]at ha;cases hz2:jW P elem with| none=>rw[hz2]at ha;cases ha| some z=>rw[hz2]at ha hz;simp only[dL,Option.any_some]at ha hz;split at ha;(case isFalse=>cases ha);rename_i hzs;simp only[ef,iI]at ha;obtain⟨rfl,rfl⟩:=ha;(have hlen:cs.length=ps.length*(size+1):=by rw[<-hcs,List.length_flatMap];(have:ps.map (λp=>p.2.cells.toList.length)=ps.map (λ_=>size+1):=List.map_congr_left λp hp=>by simpa using hsz p hp);rw[this,List.map_const'];simp);(have hall:ps.all (λx=>x.2.cells.toList.all oneCell)=true:=by rw[<-hcs]at h1;rw[List.all_flatMap]at h1;exact h1);refine⟨.slice (some ⟨H.length,0,some cs.length⟩) ps.length (size+1),H.cons (.cells cs elem true cs.length 0),?_,h _ _ (hS.add ?_ ?_ ?_ ?_)⟩;(·unfold a0y;simp only[he,hsz2,hz2,dL];rw[if_neg (by simp[hne]),if_pos (by simp only[hz,hall,hzs,gz,iA,dN,decide_eq_true_eq,bne_iff_ne,ne_eq];exact⟨h0,Nat.mul_ne_zero hne (ff _)⟩)];have hf:=a4I (size+1) ps 0 [] ((Array.range (ps.length*(size+1))).map (z.cells[·%z.cells.size]!)).toList (by simp) (by simp) hp hsz;simp only[gq,Array.toArray_toList]at hf;rw[hf,hcs];simp[mF]);(·unfold OwnAt;rw[if_neg (ff _)];exact .inr ⟨_,0,elem,_,0,[],ps.length,jJ H _,by simp,rfl,hlen,by simp,hsz2⟩);(·simp[pR]);(·exact λB hB=>kG _ hB);·intro B hB;simp[blk]at hB;omega
def c3D(P:Program)(t:TypeId):Option (Nat×Value):=(jI P t).bind λelem=>(jF P elem).bind λsize=>(oY P elem).bind λbytes=>(jW P elem).bind λz=>if size==1&&z.cells.size==1&&jY z then some (bytes,z.cells[0]!)else none
theorem St.bY(hS:St P H0 H os){t:TypeId}{bytes:Nat}{z:Value}{K:Value->Heap->Prop}(a:Nat)(ha:c3D P t=some (bytes,z))(hroom:a*(bytes+1)<=17592186044416) (h:∀v H1,St P H0 H1 (os++[⟨v,1,List.replicate a z⟩])->K v H1):sH P H t (.int .i64 a) (.int .i64 a) K:=by
 unfold c3D at ha;cases he:jI P t with| none=>rw[he]at ha;cases ha| some elem=>rw[he]at ha;simp only[dL]at ha;cases hsz2:jF P elem with| none=>rw[hsz2]at ha;cases ha| some sz=>rw[hsz2]at ha;simp only[dL]at ha;cases hby:oY P elem with| none=>rw[hby]at ha;cases ha| some by'=>rw[hby]at ha;simp only[dL]at ha;cases hz2:jW P elem with| none=>rw[hz2]at ha;cases ha| some z'=>rw[hz2]at ha;simp only[dL]at ha;split at ha;(case isFalse=>cases ha);rename_i hzs;simp only[dN,beq_iff_eq]at hzs;obtain⟨⟨rfl,hz1⟩,hfl⟩:=hzs;simp only[ef,iI]at ha;obtain⟨rfl,rfl⟩:=ha;refine⟨.slice (some ⟨H.length,0,some a⟩) a 1,H.cons (.cells (List.replicate a z'.cells[0]!) elem true a 0),?_,h _ _ (hS.add ?_ ?_ ?_ ?_)⟩;(·unfold yT;simp only[he,hsz2,hby,hz2,dL];rw[if_pos];(·simp[mF]);·(have:(a:Int)*(by'+1)<=(qA:Int):=by have h3:((a*(by'+1):Nat):Int)<=((17592186044416:Nat):Int):=Int.ofNat_le.2 hroom;simpa [qA]using h3);simp[hfl,hz1,this]);(·unfold OwnAt;rw[if_neg (by simp)];exact .inr ⟨_,0,elem,_,0,[],a,jJ H _,by simp,rfl,by simp,by simp,hsz2⟩);(·simp[pR]);(·exact λB hB=>kG _ hB);·intro B hB;simp[blk]at hB;omega
def Fn(P:Program)(k:FuncId)(args:List Value)(H:Heap)(R:Value->Heap->Prop):Prop:=rK P k∧∃v H1,CallOk P k args H v H1∧R v H1
theorem jH{k:FuncId}{args:List Value}{R K:Value->Heap->Prop}(h:Fn P k args H R)(hk:∀v H1,R v H1->K v H1):yS P k args H K:=by obtain⟨h1,v,H1,h2,h3⟩:=h;exact⟨v,H1,h1,h2,hk v H1 h3⟩
def vH(P:Program)(fn:Func)(R:Value->Heap->Prop):lS:=λe l H=>(e=.normal∨e=.ret)∧kR (jD P fn l H) λv=>R v H
theorem a7H(fn:Func)(R:Value->Heap->Prop)(l:List Value):vH P fn R .normal l H=kR (jD P fn l H) λv=>R v H:=by simp[vH]
theorem b5q(fn:Func)(R:Value->Heap->Prop)(l:List Value):vH P fn R .ret l H=kR (jD P fn l H) λv=>R v H:=by simp[vH]
theorem Fn.of_wp{k:FuncId}{fn:Func}{c:Code}{args:List Value}{R:Value->Heap->Prop}(hf:P.funcs[k]? =some fn)(hb:fn.body=some c)(hn:(fn.name== "runtime.NumGoroutine")=false) (h:∀l,l=args++List.replicate (fn.ntmps-args.length) undef->Wp P c l H (vH P fn R)):Fn P k args H R:=by refine⟨⟨fn,hf,by simp[hb],hn⟩,?_⟩;refine CallOk.of_wp hf hb hn ((h _ rfl).mono ?_);rintro e l H1⟨h1,h2⟩;refine⟨h1,?_⟩;unfold kR at h2;split at h2;(·rename_i v hv;exact⟨v,hv,h2⟩);·exact h2.elim
theorem Fn.mono{k:FuncId}{args:List Value}{R R':Value->Heap->Prop}(h:Fn P k args H R)(hr:∀v H1,R v H1->R' v H1):Fn P k args H R':=by obtain⟨h1,v,H1,h2,h3⟩:=h;exact⟨h1,v,H1,h2,hr _ _ h3⟩
theorem RdAt.cells{v:Value}{size:Nat}{cs:List Value}(h:RdAt H v size cs):v.cells=#[v]∧oneCell v=true∧sS v=true:=by rcases h with⟨rfl,_⟩|⟨A,i,e,row,ty,rw,lo,ver,n,h1,h2,h3,h4,h5,h6,rfl⟩<;>exact⟨rfl,rfl,rfl⟩
def uQ(z:Option Nat)(x:Value)(lo hi:Option Value):Option Value:=z.bind λsize=>match x with| .slice (some ⟨A,i,some e⟩) n c=>(match hi with|some h=>vZ h|none=>some n).bind λh=>(match lo with|some l=>vZ l|none=>some 0).bind λl=>if l<=h&&h<=n&&c==size then some (.slice (some ⟨A,i+l*size,some e⟩) (h-l) size)else none| _=>none
theorem a5b(t:TypeId)(x:Value)(lo hi:Option Value):yP P t x lo hi=uQ (jU P t) x lo hi:=by unfold yP uQ jU;cases jI P t with| none=>rfl| some e=>rfl
def oI(P:Program)(o:Oper)(l:List Value)(H:Heap)(z:Option Nat)(v:Value)(lo hi:Option Value)(K:Value->Heap->Prop)(_k:Keep K:=⟨⟩):Prop:=match z with| none=>kU (opD P o l H) K| some s=>if flat v then kU (opD P o l H) K else kR (uQ (some s) v lo hi) λv=>K v H
theorem a1w{t:TypeId}{s:Nat}(h:jU P t=some s):kS P t=none:=by unfold jU at h;cases he:jI P t with| none=>rw[he]at h;cases h| some e=>simp[kS,kZ he]
theorem b2d(d ty pos af g)(t:TypeId)(x:Operand)(lo hi:Option Operand)(l:List Value)(K:Value->Heap->Prop)(hok:∀a,lo=some a∨hi=some a->jP a=true)(hx:jP x=true) (h:oI P ⟨d,.slice t x lo hi none,ty,pos,af,g⟩ l H (jU P t) (ev l x) (lo.map (ev l)) (hi.map (ev l)) K):mW P ⟨d,.slice t x lo hi none,ty,pos,af,g⟩ l H K:=by
 refine⟨?_,?_⟩;(·simp only[Op.operands];cases lo<;>cases hi<;>simp_all);·show kU _ K;cases hz:jU P t with| none=>rw[hz]at h;exact h| some sz=>have harr:=a1w hz;rw[hz]at h;simp only[oI]at h;rw[<-hz]at h;split at h;(·exact h);·rename_i hf;(have e:opD P ⟨d,.slice t x lo hi none,ty,pos,af,g⟩ l H=(uQ (jU P t) (ev l x) (lo.map (ev l)) (hi.map (ev l))).map λv=>(v,H):=by simp only[opD];rw[if_neg hf,harr,a5b]);rw[e];cases hs:uQ (jU P t) (ev l x) (lo.map (ev l)) (hi.map (ev l))with| none=>rw[hs]at h;exact h.elim| some v=>rw[hs]at h;exact h
theorem uN(d ty pos af g)(t:TypeId)(x:Operand)(lo hi:Option Operand)(l:List Value)(K:Value->Heap->Prop): mW P ⟨d,.slice t x lo hi none,ty,pos,af,g⟩ l H K=(((#[x]++lo.toArray++hi.toArray).toList.all jP=true)∧oI P ⟨d,.slice t x lo hi none,ty,pos,af,g⟩ l H (jU P t) (ev l x) (lo.map (ev l)) (hi.map (ev l)) K):=by
 apply propext;constructor;(·intro h;obtain⟨h1,h2⟩:=h;refine⟨?_,?_⟩;(·cases lo<;>cases hi<;>simpa [Op.operands]using h1);·cases hz:jU P t with| none=>exact h2| some sz=>have harr:=a1w hz;simp only[oI];rw[<-hz];split;(·exact h2);·rename_i hf;(have e:opD P ⟨d,.slice t x lo hi none,ty,pos,af,g⟩ l H=(uQ (jU P t) (ev l x) (lo.map (ev l)) (hi.map (ev l))).map λv=>(v,H):=by simp only[opD];rw[if_neg hf,harr,a5b]);replace h2:kU (opD P ⟨d,.slice t x lo hi none,ty,pos,af,g⟩ l H) K:=h2;rw[e]at h2;cases hs:uQ (jU P t) (ev l x) (lo.map (ev l)) (hi.map (ev l))with| none=>rw[hs]at h2;exact h2.elim| some v=>rw[hs]at h2;exact h2);·rintro⟨h1,h2⟩;refine b2d d ty pos af g t x lo hi l K ?_ ?_ h2;(·intro a ha;cases lo<;>cases hi<;>simp_all;rcases ha with rfl|rfl<;>simp_all);·cases lo<;>cases hi<;>simp_all
theorem b0c(d ty pos af g)(t:TypeId)(x a:Operand)(l:List Value)(K:Value->Heap->Prop): mW P ⟨d,.slice t x (some a) none none,ty,pos,af,g⟩ l H K=kJ x l λv=>kJ a l λa'=>oI P ⟨d,.slice t x (some a) none none,ty,pos,af,g⟩ l H (jU P t) v (some a') none K:=by rw[uN];simp[kJ,and_assoc]
theorem b0V(d ty pos af g)(t:TypeId)(x a:Operand)(l:List Value)(K:Value->Heap->Prop): mW P ⟨d,.slice t x none (some a) none,ty,pos,af,g⟩ l H K=kJ x l λv=>kJ a l λa'=>oI P ⟨d,.slice t x none (some a) none,ty,pos,af,g⟩ l H (jU P t) v none (some a') K:=by rw[uN];simp[kJ,and_assoc]
theorem b0v(d ty pos af g)(t:TypeId)(x a b:Operand)(l:List Value)(K:Value->Heap->Prop): mW P ⟨d,.slice t x (some a) (some b) none,ty,pos,af,g⟩ l H K=kJ x l λv=>kJ a l λa'=>kJ b l λb'=>oI P ⟨d,.slice t x (some a) (some b) none,ty,pos,af,g⟩ l H (jU P t) v (some a') (some b') K:=by rw[uN];simp[kJ,and_assoc]
def qH(v:Value)(size lo k:Nat):Value:=match v with| .slice (some ⟨A,i,s⟩) _ _=>.slice (some ⟨A,i+lo*size,s⟩) k size| v=>v
theorem RdAt.sub{v:Value}{size:Nat}{cs:List Value}(h:RdAt H v size cs)(lo k:Nat)(hk:lo*size+k*size≤cs.length)(h0:cs≠[]):RdAt H (qH v size lo k) size ((cs.drop (lo*size)).take (k*size)):=by
 rcases h with⟨rfl,rfl⟩|⟨A,i,e,row,ty,rw,lo',ver,n,h1,h2,h3,h4,h5,h6,rfl⟩
 ·exact(h0 rfl).elim
 ·refine .inr ⟨A,i+lo*size,e,row,ty,rw,lo',ver,k,h1,h2,h3,?_,?_,?_,rfl⟩
  ·simp;omega
  ·have hl:(List.take (k*size) (List.drop (lo*size) cs)).length=k*size:=by simp;omega
   rw[hl]
   conv=>rhs;rw[←h5]
   rw[List.drop_take,List.take_take,gD,gT (by omega)]
  ·simp;omega
theorem RdAt.bL{v:Value}{size:Nat}{cs:List Value}(h:RdAt H v size cs)(h0:cs≠[]):flat v=false:=by rcases h with⟨rfl,rfl⟩|⟨A,i,e,row,ty,rw,lo',ver,n,h1,h2,h3,h4,h5,h6,rfl⟩;(·exact(h0 rfl).elim);·rfl
theorem RdAt.bh{v:Value}{size:Nat}{cs:List Value}(h:RdAt H v (size+1) cs){n:Nat}(hn:cs.length=n*(size+1))(o:Oper)(l:List Value)(H':Heap)(k:IntKind)(a:Int)(K:Value->Heap->Prop)(h0:0<n)(h1:0<=a)(h2:a<=n): oI P o l H' (some (size+1)) v (some (.int k a)) none K=pU (qH v (size+1) a.toNat (n-a.toNat)) λv=>K v H':=by
 (have hne:cs≠[]:=λe=>by subst e;have hp:=ja h0 (gI size);have hq:0=n*(size+1):=hn;exact absurd (hq▸hp:0<0) (fq _));simp only[oI];rw[h.bL hne];rcases h with⟨rfl,rfl⟩|⟨A,i,e,row,ty,rw,lo',ver,m,h3,h4,h5,h6,h7,h8,rfl⟩;(·exact(hne rfl).elim);·have:m=n:=gF (gI size) (h8.symm.trans hn);subst this;(have h9:a.toNat<=m:=by omega);simp[uQ,vZ,h1,h2,qH,kR,pU]
theorem RdAt.aU{v:Value}{size:Nat}{cs:List Value}(h:RdAt H v (size+1) cs){n:Nat}(hn:cs.length=n*(size+1))(o:Oper)(l:List Value)(H':Heap)(k:IntKind)(a:Int)(K:Value->Heap->Prop)(h0:0<n)(h1:0<=a)(h2:a<=n): oI P o l H' (some (size+1)) v none (some (.int k a)) K=pU (qH v (size+1) 0 a.toNat) λv=>K v H':=by
 (have hne:cs≠[]:=λe=>by subst e;have hp:=ja h0 (gI size);have hq:0=n*(size+1):=hn;exact absurd (hq▸hp:0<0) (fq _));simp only[oI];rw[h.bL hne];rcases h with⟨rfl,rfl⟩|⟨A,i,e,row,ty,rw,lo',ver,m,h3,h4,h5,h6,h7,h8,rfl⟩;(·exact(hne rfl).elim);·have:m=n:=gF (gI size) (h8.symm.trans hn);subst this;(have h9:a.toNat<=m:=by omega);simp[uQ,vZ,h1,h9,qH,kR,pU]
theorem St.bZ(hS:St P H0 H os)(i:Nat){v:Value}{cs:List Value}(ho:os[i]? =some ⟨v,1,cs⟩){x:Value}{ys:List Value}(hx:RdAt H x 1 ys)(lo k:Nat)(hk:lo+k<=cs.length)(h0:0<k)(hy:0<ys.length){t:TypeId}(ht:jU P t=some 1){K:Value->Heap->Prop} (h:∀H1,St P H0 H1 (os.set i ⟨v,1,jV cs lo (ys.take (min ys.length k))⟩)->K (.int .i64 ((min ys.length k:Nat):Int)) H1):a4s P H t (qH v 1 lo k) x K:=by
 have hown:=hS.own _ (eh ho);unfold OwnAt at hown;rw[if_neg (by simp)]at hown;rcases hown with⟨h2,h3⟩|⟨A,j,ty,lo',ver,pre,m,h2,h3,h4,h5,h6,h7⟩;(·simp only at h3;subst h3;simp only[fo]at hk;omega);simp only at h2 h3 h5 h6;subst h6;rcases hx with⟨rfl,rfl⟩|⟨B,i2,e2,row,ty2,rw2,lo2,ver2,n2,g1,g2,g3,g4,g5,g6,rfl⟩;(·simp at hy);(have hn2:n2=ys.length:=by omega);subst hn2;unfold jU at ht;cases he:jI P t with| none=>rw[he]at ht;cases ht| some elem=>rw[he]at ht;simp only[dL]at ht;have hq1:min ys.length k<=ys.length:=Nat.min_le_left _ _;have hq2:min ys.length k<=k:=Nat.min_le_right _ _;(have hq3:0<min ys.length k:=by omega);have hq4:Nat.min ys.length k=min ys.length k:=rfl;revert h;generalize min ys.length k=q at hq1 hq2 hq3 hq4 ⊢;intro h;refine⟨.int .i64 ((q:Nat):Int),hset H A (.cells (jV (pre++cs) (j+lo) (ys.take q)) ty true (pre++cs).length ver),?_,h _ (hS.put i ho ?_ ?_ ?_ ?_)⟩;(·(have hs:b7n H 1 q (.slice (some ⟨B,i2,some e2⟩) ys.length 1)=some (ys.take q):=by(have hc:i2+q*1<=e2:=by omega);simp only[b7n,kB,g1];rw[if_pos hq1,if_pos (by simp[g2,g3];omega)];(have e:ys.take q=((row.drop i2).take ys.length).take q:=by rw[g5]);rw[e,List.take_take,gT hq1,Nat.mul_one]);(have hl:(ys.take q).length=q:=by simp;omega);simp only[a1A,qH,he,ht,dL,a0S,hq4,hs,h2];rw[if_neg (by simp only[beq_iff_eq];omega)];rw[if_pos (by rw[hl];simp[h4,h3];omega)];simp[goInt]);(·unfold OwnAt;rw[if_neg (by simp)];refine .inr ⟨A,j,ty,(pre++cs).length,ver,pre,m,?_,?_,h4,?_,?_,h7⟩;(·rw[jL _ (jX h2),<-h4,oC]);(·simp[kL,h4]);(·simp only[kL];exact h5);·simp only[kL]);(·rw[kF];exact dP _);(·intro B' hB hne;refine oD λhh=>hne ?_;simp[blk,hh]);·intro B' hB;exact .inl hB
def b5E(P:Program)(t:TypeId):Option Nat:=(jI P t).bind λelem=>(jW P elem).bind λz=>if kW z.cells.toList&&z.cells.size !=0 then some z.cells.size else none
theorem a2J(z:Array Value)(n:Nat):(Builtin.zeroCells z n).toList.length=n*z.size:=by simp[Builtin.zeroCells]
theorem a0h(z:Array Value)(n:Nat)(h:kW z.toList=true)(h0:z.size≠0):kW (Builtin.zeroCells z n).toList=true:=by unfold kW at h ⊢;rw[dZ]at h ⊢;intro x hx;simp only[Builtin.zeroCells,iR,Array.toList_range,eC]at hx;obtain⟨i,_,rfl⟩:=hx;have hlt:i%z.size<z.size:=fN _ (iF h0);rw[getElem!_pos z _ hlt];exact h _ (by simp)
theorem St.cM(hS:St P H0 H os)(i:Nat){v:Value}{size:Nat}{cs:List Value}(ho:os[i]? =some ⟨v,size+1,cs⟩)(lo k:Nat)(hk:lo*(size+1)+k*(size+1)<=cs.length)(hne:cs≠[]){t:TypeId}(ht:b5E P t=some (size+1)){K:Value->Heap->Prop} (h:∀l H1,l.length=k*(size+1)->St P H0 H1 (os.set i ⟨v,size+1,jV cs (lo*(size+1)) l⟩)->K (.tuple #[]) H1):a2o P H t (qH v (size+1) lo k) K:=by
 unfold b5E at ht;cases he:jI P t with| none=>rw[he]at ht;cases ht| some elem=>rw[he]at ht;simp only[dL]at ht;cases hz:jW P elem with| none=>rw[hz]at ht;cases ht| some z=>rw[hz]at ht;simp only[dL]at ht;split at ht;(case isFalse=>cases ht);rename_i hc;simp only[dN,bne_iff_ne,ne_eq]at hc;have hzs:=dK ht;have hown:=hS.own _ (eh ho);unfold OwnAt at hown;rw[if_neg (ff _)]at hown;rcases hown with⟨h2,h3⟩|⟨A,j,ty,lo',ver,pre,m,h2,h3,h4,h5,h6,h7⟩;(·exact(hne h3).elim);simp only at h2 h3 h5 h6;subst h6;by_cases hk0:k=0;(·subst hk0;refine⟨.tuple #[],H,?_,h [] H (by simp) ?_⟩;(·simp[uG,qH,he,hz]);·obtain⟨hi,hoi⟩:=dW.1 ho;rw[sX,<-hoi,iM];exact hS);·(have hl:(Builtin.zeroCells z.cells k).toList.length=k*(size+1):=by rw[a2J,hzs]);have hsc:=a0h z.cells k hc.1 hc.2;refine⟨.tuple #[],hset H A (.cells (jV (pre++cs) (j+lo*(size+1)) (Builtin.zeroCells z.cells k).toList) ty true (pre++cs).length ver),?_,h _ _ hl (hS.put i ho ?_ ?_ ?_ ?_)⟩;(·simp only[uG,qH,he,hz,dL,h2];rw[if_neg (by simpa using hk0),if_pos (by rw[hsc,hl];simp[h4,h3];omega)]);(·unfold OwnAt;rw[if_neg (ff _)];refine .inr ⟨A,j,ty,(pre++cs).length,ver,pre,m,?_,?_,h4,?_,?_,h7⟩;(·rw[jL _ (jX h2),<-h4,oC]);(·simp[kL,h4]);(·simp only[kL];exact h5);·simp only[kL]);(·rw[kF];exact dP _);(·intro B' hB hne';refine oD λhh=>hne' ?_;simp[blk,hh]);·intro B' hB;exact .inl hB
end
end Go.Ds
namespace Go.Ds
theorem b8w(k:IntKind)(n:Int):flat (.int k n)=true:=rfl
theorem b4r(b:Bool):flat (.bool b)=true:=rfl
theorem a9V:flat (.slice none 0 0)=true:=rfl
theorem b4o(k:IntKind)(n:Int):jY (.int k n)=true:=rfl
theorem a9y(b:Bool):jY (.bool b)=true:=rfl
theorem b7W(ops:List Oper)(j:Nat):zA ops.toArray j=(ops[j]?).bind (·.dst):=by simp[zA]
theorem b2x(l:List Value):jY (.agg l.toArray)=l.all jN:=by simp[jY,kW]
theorem b6o(l:List Value):flat (.agg l.toArray)=l.all jN:=by simp[flat,jY,kW]
theorem b2I:jY (.slice none 0 0)=true:=rfl
theorem a6b:flat .nilFunc=true:=rfl
theorem a8S(k:IntKind)(n:Int):jN (.int k n)=true:=rfl
theorem a6O(b:Bool):jN (.bool b)=true:=rfl
theorem b0U:jN (.slice none 0 0)=true:=rfl
theorem b7j(A i e:Nat):sS (ptr A i e)=true:=rfl
theorem a7I(k:IntKind)(n:Int):jZ (.int k n)=true:=rfl
theorem a5B(b:Bool):jZ (.bool b)=true:=rfl
theorem a7e:jZ (.slice none 0 0)=true:=rfl
theorem a7P(cs:Array Value):jZ (.agg cs)=true:=rfl
theorem RC: (∀(p:Prop),(True∧p)=p)∧ (∀(p:Prop),(p∧True)=p)∧ (∀{α:Sort 1}{x:Decidable True}(t e:α),(@ite α True x t e)=t)∧ (∀{α:Sort 1}{x:Decidable False}(t e:α),(@ite α False x t e)=e)∧ (∀{x:Decidable True}(t e:Prop),(@ite Prop True x t e)=t)∧ (∀{x:Decidable False}(t e:Prop),(@ite Prop False x t e)=e)∧ (∀(n:Nat),0+n=n)∧ (∀(n:Nat),n*1=n)∧ (∀(n:Nat),(n:Int).toNat=n)∧ (∀(n:Nat),n+0=n)∧ (∀(h:Decidable True), @decide True h=true)∧ (∀(h:Decidable False), @decide False h=false)∧ ((!true)=false)∧ ((!false)=true)∧ (∀{α:Type}(l:List α),[]++l=l)∧ (∀{α:Type}(l:List α),l++[]=l)∧ (∀{α:Type}{a:α}{l m:List α},a::l++m=a::(l++m))∧ (∀{α:Type}{a:α}{l:List α},(a::l)[0]? =some a)∧ (∀{α:Type}{a:α}{i:Nat}{l:List α},(a::l)[i+1]? =l[i]?)∧ (∀{α β:Type}(a:α)(f:α->Option β),(some a).bind f=f a)∧ (∀{α:Type}{x:α}{xs:List α}{d:α},(x::xs).getD 0 d=x)∧ (∀{α:Type}{x:α}{xs:List α}{n:Nat}{d:α},(x::xs).getD (n+1) d=xs.getD n d)∧ (∀{α:Type}{a:α}{l:List α},(a::l).length=l.length+1)∧ (∀{α:Type},([]:List α).length=0)∧ (∀{α:Type}{l:List α},List.drop 0 l=l)∧ (∀{α:Type}{a:α}{l:List α}{i:Nat},List.take (i+1) (a::l)=a::List.take i l)∧ (∀{α:Type}{l:List α},List.take 0 l=[])∧ (∀{α:Type}{a:α}{l:List α}{i:Nat},List.drop (i+1) (a::l)=List.drop i l)∧ (∀{α:Type}{a:α}{l:List α}{f:α->Bool},(a::l).all f=(f a&&l.all f))∧ (∀{α:Type}{f:α->Bool},[].all f=true)∧ (∀(b:Bool),(b&&true)=b)∧ (∀(b:Bool),(true&&b)=b)∧ (∀(b:Bool),(b&&b)=b)∧ (∀(cs:List Value)(i:Nat)(v:Value)(vs:List Value),jV cs i (v::vs)=jV (cs.set i v) (i+1) vs)∧ (∀(cs:List Value)(i:Nat),jV cs i []=cs)∧ (∀{α:Type}{x:α}{xs:List α}{a:α},(x::xs).set 0 a=a::xs)∧ (∀{α:Type}{x:α}{xs:List α}{i:Nat}{a:α},(x::xs).set (i+1) a=x::xs.set i a)∧ ((¬True)=False)∧ ((¬False)=True)∧ (∀{p:Prop}[Decidable p],¬¬p↔p)∧ (∀{n:Nat},((OfNat.ofNat n:Nat):Int)=OfNat.ofNat n):=⟨@true_and, @and_true, @if_true, @if_false, @if_true Prop, @if_false Prop, @Nat.zero_add, @Nat.mul_one, @Int.toNat_natCast, @Nat.add_zero, @decide_true, @decide_false,Bool.not_true,Bool.not_false, @List.nil_append, @List.append_nil, @List.cons_append, @List.getElem?_cons_zero, @List.getElem?_cons_succ, @Option.bind_some, @List.getD_cons_zero, @List.getD_cons_succ, @List.length_cons, @List.length_nil, @List.drop_zero, @List.take_succ_cons, @List.take_zero, @List.drop_succ_cons, @List.all_cons, @List.all_nil, @Bool.and_true, @Bool.true_and, @Bool.and_self, @pJ, @sX, @List.set_cons_zero, @List.set_cons_succ,not_true_eq_false,not_false_eq_true, @Decidable.not_not, @Int.cast_ofNat_Int⟩
end Go.Ds
namespace Go.Ds
open Go.RowKit
section
variable {P:Program} {H:Heap}
theorem CallOk.calls{ρ:Rho}{w:World}{f:FuncId}{args:List Value}{v:Value}{H':Heap}(h:CallOk P f args H v H'){args':Array Value}(hr:HRel P ρ H w)(ha:All2 (V ρ) args args'.toList): Calls P f args' w λe w'=>∃ρ' v',e=.returned v'∧Post P ρ H w ρ' H' w'∧V ρ' v v':=(h 0 ρ w args' hr ha).calls λk=>by intro d h;cases h
def Shut(ρ:Rho)(H:Heap):Prop:=∀b,¬Wr ρ H b
theorem Fn.calls{ρ:Rho}{w:World}{f:FuncId}{args:List Value}{b:Bool}(h:Fn P f args H λv _=>v=.bool b){args':Array Value}(hr:HRel P ρ H w)(hs:Shut ρ H)(ha:All2 (V ρ) args args'.toList): Calls P f args' w λe w'=>e=.returned (.bool b)∧Below w.heap.size w w':=by obtain⟨_,v,H1,h1,rfl⟩:=h;refine(h1.calls hr ha).mono ?_;rintro e w'⟨ρ',v',rfl,hp,hv⟩;refine⟨?_,hp.os,hp.tape.1,hp.output,hp.size,λk hk=>(hp.frame k hk (hs k)).1⟩;rw[hv.ai rfl]
theorem HRel.none(w:World):HRel P (λ_ _=>Option.none) .nil w:=.empty w
theorem Shut.none:Shut (λ_ _=>Option.none) .nil:=λb⟨A,e,p,blk,h,_⟩=>by cases h
end
end Go.Ds
namespace Go.Ds
section
variable {P:Program} {B:Base} {H:Heap}
def FnS(P:Program)(k:FuncId)(args:List Value)(H:Heap)(R:Value->Heap->Prop):Prop:=∃fn c e l1 H1 v,P.funcs[k]? =some fn∧fn.body=some c∧(fn.name== "runtime.NumGoroutine")=false∧Sim P c (args++List.replicate (fn.ntmps-args.length) undef) H e l1 H1∧(e=.normal∨e=.ret)∧jD P fn l1 H1=some v∧R v H1
theorem FnS.of_wp{k:FuncId}{fn:Func}{c:Code}{args:List Value}{R:Value->Heap->Prop}(hf:P.funcs[k]? =some fn)(hb:fn.body=some c)(hn:(fn.name== "runtime.NumGoroutine")=false) (h:∀l,l=args++List.replicate (fn.ntmps-args.length) undef->Wp P c l H (vH P fn R)):FnS P k args H R:=by obtain⟨e,l1,H1,h1,h2,h3⟩:=h _ rfl;unfold kR at h3;split at h3;(·rename_i v hv;exact⟨fn,c,e,l1,H1,v,hf,hb,hn,h1,h2,hv,h3⟩);·exact h3.elim
theorem FnS.fn{k:FuncId}{args:List Value}{R:Value->Heap->Prop}(h:FnS P k args H R):Fn P k args H R:=by obtain⟨fn,c,e,l1,H1,v,hf,hb,hn,h1,h2,h3,h4⟩:=h;exact⟨⟨fn,hf,by simp[hb],hn⟩,v,H1,.bU hf hb hn h1 h2 h3,h4⟩
theorem FnS.mono{k:FuncId}{args:List Value}{R R':Value->Heap->Prop}(h:FnS P k args H R)(hr:∀v H1,R v H1->R' v H1):FnS P k args H R':=by obtain⟨fn,c,e,l1,H1,v,hf,hb,hn,h1,h2,h3,h4⟩:=h;exact⟨fn,c,e,l1,H1,v,hf,hb,hn,h1,h2,h3,hr _ _ h4⟩
def b8k(l:List Value)(ps:Array Tmp)(assign body:Code):Loop:={state:=.ready,pending:=none,fn:=0,tmps:=l.toArray,params:=ps,assign:=assign,body:=body,defers:=0}
def c2n(P:Program)(l:List Value)(L:Nat)(Q:lS):Value->Heap->Prop:=λ_ H2=>∃r,jM H2 L=some (.loop r)∧r.state≠.busy∧ (r.pending=none->Q .normal l (hset H2 L (.loop {r with state:=.exhausted})))∧∀c,r.pending=some c->Wp P c l (hset H2 L (.loop {r with state:=.exhausted})) Q
theorem Wp.range{g:Operand}{ps:Array Tmp}{assign body:Code}{l:List Value}{Q:lS}{k:FuncId}{first captured:List Value}(hgo:jP g=true)(hg:ev l g=.func (.func k) first.toArray captured.toArray) (h:FnS P k (first++[.func (.yield H.length) #[] #[]]++captured) (H.cons (.loop (b8k l ps assign body))) (c2n P l H.length Q)):Wp P (.rangeFunc g ps assign body) l H Q:=by
 classical obtain⟨fn,c,e,l1,H2,v,hf,hb,hn,hs,he,hres,r,hr,hnb,hp⟩:=h;let sl:=(first++[Value.func (.yield H.length) #[] #[]]++captured)++List.replicate (fn.ntmps-(first++[Value.func (.yield H.length) #[] #[]]++captured).length) undef;let H1:=H.cons (.loop (b8k l ps assign body));let ex:Run:=λc' l' H'=>if c'=c∧l'=sl∧H'=H1 then some (e,l1,H2)else none;(have hex:∀c l H e l' H',ex c l H=some (e,l',H')->Sim P c l H e l' H':=by intro c' l' H' e' l2 H3 hh;simp only[ex]at hh;split at hh;(·rename_i h1;obtain⟨rfl,rfl,rfl⟩:=h1;injection hh with hh;injection hh with h1 hh;injection hh with h2 h3;subst h1 h2 h3;exact hs);·cases hh);(have hc:a6l P ex (ev l g) H.length (H.cons (.loop {state:=.ready,pending:=none,fn:=0,tmps:=l.toArray,params:=ps,assign,body,defers:=0}))=some (v,H2):=by unfold a6l;rw[hg];show callF P ex k (first++[Value.func (.yield H.length) #[] #[]]++captured) H1=some (v,H2);unfold callF;rw[hf];(have h1:ex c sl H1=some (e,l1,H2):=by simp[ex]);simp only[hb,hn,eH,if_false];rw[show ex c ((first++[Value.func (.yield H.length) #[] #[]]++captured)++List.replicate (fn.ntmps-(first++[Value.func (.yield H.length) #[] #[]]++captured).length) undef) H1=some (e,l1,H2)from h1];rcases he with rfl|rfl<;>simp[hres]);by_cases hpend:r.pending=none;(·exact⟨.normal,l,_,a7r hex hc hgo hr hnb (λ_=>⟨rfl,rfl,rfl⟩) (λc h=>by rw[hpend]at h;cases h),hp.1 hpend⟩);·obtain⟨c',hc'⟩:=Option.ne_none_iff_exists'.1 hpend;obtain⟨e',l',H',hs',hq⟩:=hp.2 c' hc';exact⟨e',l',H',a7r hex hc hgo hr hnb (λh=>absurd h hpend) (λc h=>by rw[hc']at h;obtain rfl:=dK h;exact hs'),hq⟩
def tG:Ex->Option Code| .normal=>none| .ret=>some .ret| .exit id=>some (.exit id)
theorem a6Y{L:Nat}{args:List Value}{K:Value->Heap->Prop}{r:Loop}(hg:jM H L=some (.loop r))(hn:r.params.size=args.length)(hst:r.state=.ready) (h:Wp P r.assign ((r.params.toList.zip args).foldl (λt(p,v)=>t.set p v) r.tmps.toList) H λe l1 H1=>e=.normal∧∃r1,jM H1 L=some (.loop r1)∧r1.state=.ready∧ Wp P r.body l1 (hset H1 L (.loop {r1 with state:=.busy})) λe _ H2=>∃r2,jM H2 L=some (.loop r2)∧ K (.bool (tG e).isNone) (hset H2 L (.loop {r2 with state:=if(tG e).isNone then .ready else .done,pending:=tG e}))): zL P (.func (.yield L) #[] #[]) args H K:=by
 classical obtain⟨e1,l1,H1,hs1,rfl,r1,hg1,hst1,e2,l2,H2,hs2,r2,hg2,hk⟩:=h;refine⟨_,_,?_,hk⟩;let sl:=(r.params.toList.zip args).foldl (λt(p,v)=>t.set p v) r.tmps.toList;let Hb:=hset H1 L (.loop {r1 with state:=.busy});let ex:Run:=λc' l' H'=>if c'=r.assign∧l'=sl∧H'=H then some (.normal,l1,H1)else if c'=r.body∧l'=l1∧H'=Hb then some (e2,l2,H2)else none;(have hex:∀c l H e l' H',ex c l H=some (e,l',H')->Sim P c l H e l' H':=by intro c' l' H' e' l3 H3 hh;simp only[ex]at hh;split at hh;(·rename_i h1;obtain⟨rfl,rfl,rfl⟩:=h1;injection hh with hh;injection hh with h1 hh;injection hh with h2 h3;subst h1 h2 h3;exact hs1);·split at hh;(·rename_i h1;obtain⟨rfl,rfl,rfl⟩:=h1;injection hh with hh;injection hh with h1 hh;injection hh with h2 h3;subst h1 h2 h3;exact hs2);·cases hh);(have hbH:¬Hb=H:=by intro hh;have h1:jM Hb L=some (.loop {r1 with state:=.busy}):=jL _ (jX hg1);rw[hh,hg]at h1;injection h1 with h1;injection h1 with h1;(have h2:r.state=.busy:=by rw[h1]);rw[hst]at h2;cases h2);(have hc:a3d ex L args H=some (.bool (tG e2).isNone,hset H2 L (.loop {r2 with state:=if(tG e2).isNone then .ready else .done,pending:=tG e2})):=by unfold a3d;rw[hg];simp only;rw[if_pos ⟨hn,hst⟩];(have h1:ex r.assign sl H=some (.normal,l1,H1):=by simp[ex]);(have h2:ex r.body l1 Hb=some (e2,l2,H2):=by simp only[ex];rw[if_neg (λhh=>hbH hh.2.2),if_pos ⟨trivial,trivial,trivial⟩]);rw[show ex r.assign ((r.params.toList.zip args).foldl (λt(p,v)=>t.set p v) r.tmps.toList) H=some (.normal,l1,H1)from h1];simp only[hg1];rw[if_pos hst1];rw[show ex r.body l1 (hset H1 L (.loop {r1 with state:=.busy}))=some (e2,l2,H2)from h2];simp only[hg2];cases e2<;>rfl);exact λρ w p args' k hr hp ha=>b4X hex hc hr hp ha k
structure Lp(P:Program)(B:Base)(L:Nat)(r:Loop)(H:Heap)(os:List Ob):Prop where
 st:St P B H os
 get:jM H L=some (.loop r)
 lo:B.H.length≤L
 ne:∀o∈os,blk o.v≠some L
theorem b2Z{H:Heap}{A:Nat}{b c:Blk}(h:jM H A=some c):jM (hset H A b) A=some b:=jL b (jX h)
theorem Lp.enter{os:List Ob}(hS:St P B H os)(r:Loop):Lp P B H.length r (H.cons (.loop r)) os where
 st:=by
  have h1:St P H (H.cons (.loop r)) []:=⟨by rw[pR];exact Nat.le_succ _,fun B hB _=>kG _ hB,by simp,by simp,.nil⟩;simpa using hS.trans h1
 get:=jJ H _
 lo:=hS.len
 ne o ho hb:=by
  have:=(hS.own o ho).lt hb
  omega
theorem Lp.ext{L:Nat}{r:Loop}{H2:Heap}{os os2:List Ob}(h:Lp P B L r H os)(h2:St P H H2 os2):Lp P B L r H2 (os++os2) where
 st:=h.st.trans h2
 get:=by rw[h2.ar L (jX h.get)];exact h.get
 lo:=h.lo
 ne o ho hb:=by
  rcases eo.1 ho with ho|ho
  ·exact h.ne o ho hb
  ·have hl:=jX h.get;rcases h2.new o ho L hb with h3|h3
   ·have h3:H.length≤L:=h3;omega
   ·exact h3
theorem Lp.sub{L:Nat}{r:Loop}{os os':List Ob}(h:Lp P B L r H os)(hs:os'.Sublist os):Lp P B L r H os':=⟨h.st.sub hs,h.get,h.lo,λo ho=>h.ne o (hs.subset ho)⟩
theorem Lp.set{L:Nat}{r:Loop}{os:List Ob}(h:Lp P B L r H os)(hX:¬B.X L)(r':Loop):Lp P B L r' (hset H L (.loop r')) os where
 st:=by
  refine⟨by rw[kF];exact h.st.len,?_,?_,h.st.new,h.st.sep⟩
  ·intro A hA hXA;rw[kA _ (by have:=h.lo;omega)];exact h.st.old A hA hXA
  ·intro o ho;exact(h.st.own o ho).ar fun A hA=>kA _ (fun hh=>h.ne o ho (by rw[hA,hh]))
 get:=b2Z h.get
 lo:=h.lo
 ne:=h.ne
theorem Lp.body{L:Nat}{r:Loop}{H2:Heap}{os os2:List Ob}(h:Lp P B L r H os)(h2:St P ⟨H,pA os⟩ H2 os2):Lp P B L r H2 os2 where
 st:=h.st.br h2
 get:=by rw[h2.other (jX h.get) h.ne];exact h.get
 lo:=h.lo
 ne o ho hb:=by
  have hl:=jX h.get;rcases h2.new o ho L hb with h3|⟨o',ho',hb'⟩
  ·have h3:H.length≤L:=h3;omega
  ·exact h.ne o' ho' hb'
end
end Go.Ds
namespace Go.Ds
noncomputable section
variable {P:Program} {H:Heap}
def SWr(P:Program):Code->List Value->Heap->lS->Prop| .skip,l,H,Q=>Q .normal l H| .label _,l,H,Q=>Q .normal l H| .exit id,l,H,Q=>Q (.exit id) l H| .ret,l,H,Q=>Q .ret l H| .seq a b,l,H,Q=>SWr P a l H (λe l1 H1=>match e with|.normal=>SWr P b l1 H1 Q|e=>Q e l1 H1)| .block id b,l,H,Q=>SWr P b l H λe l1 H1=>Q (e.out id) l1 H1| .cond (.tmp t) x y,l,H,Q=>oS (get l t) (SWr P x l H Q) (SWr P y l H Q)| .region _ ops false,l,H,Q=>pI P ops ops.toList l H λl H=>Q .normal l H| c,l,H,Q=>Wp P c l H Q
theorem qE{v:Value}{p q p' q':Prop}(h:oS v p q)(h1:p->p')(h2:q->q'):oS v p' q':=by unfold oS at h ⊢;split at h;(·rename_i c;cases c;(·simpa using h2 (by simpa using h));·simpa using h1 (by simpa using h));·exact h.elim
theorem b6G{o:Oper}{l:List Value}{K K':Value->Heap->Prop}(hk:∀v H1,K v H1->K' v H1)(h:mW P o l H K):mW P o l H K':=by obtain⟨h2,h3⟩:=h;refine⟨h2,?_⟩;(have bw:∀r,kU r K->kU r K':=λr hr=>by cases r with| none=>exact hr| some r=>exact hk _ _ hr);split at h3;(·exact hk _ _ h3);(·exact hk _ _ h3);(·split at h3;(·unfold zL at h3 ⊢;split at h3;(·obtain⟨v,H1,a,b,c⟩:=h3;exact⟨v,H1,a,b,hk _ _ c⟩);(·obtain⟨v,H1,a,b⟩:=h3;exact⟨v,H1,a,hk _ _ b⟩);·exact h3);·exact bw _ h3);·exact bw _ h3
theorem a0W{ops:Array Oper}{K K':List Value->Heap->Prop}(hk:∀l H,K l H->K' l H):∀(os:List Oper)(l:List Value)(H:Heap),pI P ops os l H K->pI P ops os l H K'| [],l,H,h=>hk _ _ h| o::os,l,H,h=>by unfold pI at h ⊢;split;(·rename_i hw;rw[if_pos hw]at h;exact b6G (λv H1 h=>a0W hk os _ _ h) h);·rename_i hw;rw[if_neg hw]at h;exact a0W hk os _ _ h
theorem SWr.wp:∀(c:Code){l:List Value}{H:Heap}{Q:lS},SWr P c l H Q->Wp P c l H Q:=by intro c;induction c with| skip=>intro l H Q h;exact .skip h| label t=>intro l H Q h;exact .label h| exit id=>intro l H Q h;exact .exit h| ret=>intro l H Q h;exact .ret h| seq a b iha ihb=>intro l H Q h;refine .seq ((iha h).mono ?_);intro e l1 H1 h1;(cases e with| normal=>exact ihb h1| exit i=>exact h1| ret=>exact h1)| block id b ih=>intro l H Q h;exact .block (ih h)| cond c x y ihx ihy=>intro l H Q h;(cases c with| tmp t=>exact Wp.bW (qE h ihx ihy)| _=>exact h)| region id ops d=>intro l H Q h;(cases d with| true=>exact h| false=>exact .region h)| _=>intro l H Q h;exact h
def SW(P:Program)(c:Code)(l:List Value)(H:Heap)(Q:lS)(_k1:Keep c:=⟨⟩)(_k2:Keep Q:=⟨⟩):Prop:=SWr P c l H Q
theorem SW.wp{c:Code}{l:List Value}{Q:lS}(h:SW P c l H Q):Wp P c l H Q:=SWr.wp c h
theorem b6p{c:Code}{l l':List Value}{Q:lS}(h:l=l'):SW P c l H Q=SW P c l' H Q:=by rw[h]
attribute [congr] b6p
def b8P(P:Program)(b:Code)(Q:lS):lS:=λe l1 H1=>match e with|.normal=>SWr P b l1 H1 Q|e=>Q e l1 H1
theorem a6x(b:Code)(Q:lS)(l:List Value):b8P P b Q .normal l H=SW P b l H Q:=rfl
theorem b3k(b:Code)(Q:lS)(i:Nat)(l:List Value):b8P P b Q (.exit i) l H=Q (.exit i) l H:=rfl
theorem b5L(b:Code)(Q:lS)(l:List Value):b8P P b Q .ret l H=Q .ret l H:=rfl
theorem b9r(l:List Value)(Q:lS):SW P .skip l H Q=Q .normal l H:=rfl
theorem b7h(t:Nat)(l:List Value)(Q:lS):SW P (.label t) l H Q=Q .normal l H:=rfl
theorem b9I(id:Nat)(l:List Value)(Q:lS):SW P (.exit id) l H Q=Q (.exit id) l H:=rfl
theorem c2E(l:List Value)(Q:lS):SW P .ret l H Q=Q .ret l H:=rfl
theorem c2L(a b:Code)(l:List Value)(Q:lS):SW P (.seq a b) l H Q=SW P a l H (b8P P b Q):=rfl
theorem b6t(id:Nat)(b:Code)(l:List Value)(Q:lS):SW P (.block id b) l H Q=SW P b l H (yH id Q):=rfl
theorem b8U(t:Nat)(x y:Code)(l:List Value)(Q:lS):SW P (.cond (.tmp t) x y) l H Q=oS (get l t) (SW P x l H Q) (SW P y l H Q):=rfl
theorem c3h(id:Nat)(os:List Oper)(l:List Value)(Q:lS):SW P (.region id os.toArray false) l H Q=pI P os.toArray os l H λl H=>Q .normal l H:=rfl
theorem c1f(id:Nat)(ops:Array Oper)(l:List Value)(Q:lS):SW P (.region id ops true) l H Q=Wp P (.region id ops true) l H Q:=rfl
theorem c1p(c:Code)(l:List Value)(Q:lS):SW P (.loop c) l H Q=Wp P (.loop c) l H Q:=rfl
theorem b7s(g:Operand)(ps:Array Tmp)(a b:Code)(l:List Value)(Q:lS):SW P (.rangeFunc g ps a b) l H Q=Wp P (.rangeFunc g ps a b) l H Q:=rfl
theorem Wp.al{c:Code}{Q:lS}(I:Nat->List Value->Heap->Prop){l:List Value}(n:Nat)(h:I n l H)(step:∀n l H,I n l H->SW P c l H (xU I n Q)):Wp P (.loop c) l H Q:=Wp.bX I n h λn l H hI=>(step n l H hI).wp
theorem Fn.aX{k:FuncId}{fn:Func}{c:Code}{args:List Value}{R:Value->Heap->Prop}(hf:P.funcs[k]? =some fn)(hb:fn.body=some c)(hn:(fn.name== "runtime.NumGoroutine")=false) (h:∀l,l=args++List.replicate (fn.ntmps-args.length) undef->SW P c l H (vH P fn R)):Fn P k args H R:=Fn.of_wp hf hb hn λl hl=>(h l hl).wp
theorem FnS.aX{k:FuncId}{fn:Func}{c:Code}{args:List Value}{R:Value->Heap->Prop}(hf:P.funcs[k]? =some fn)(hb:fn.body=some c)(hn:(fn.name== "runtime.NumGoroutine")=false) (h:∀l,l=args++List.replicate (fn.ntmps-args.length) undef->SW P c l H (vH P fn R)):FnS P k args H R:=FnS.of_wp hf hb hn λl hl=>(h l hl).wp
theorem Fn.dC{k:FuncId}{fn:Func}{c:Code}{R:Value->Heap->Prop}(hf:P.funcs[k]? =some fn)(hb:fn.body=some c)(hn:(fn.name== "runtime.NumGoroutine")=false){m:Nat}(hm:0+(fn.ntmps-0)=m)(h:∀l,l.length=m->SW P c l H (vH P fn R)):Fn P k [] H R:=Fn.aX hf hb hn λl hl=>h l (by rw[hl,ec,fX];exact hm)
theorem Fn.aN{k:FuncId}{fn:Func}{c:Code}{a0:Value}{R:Value->Heap->Prop}(hf:P.funcs[k]? =some fn)(hb:fn.body=some c)(hn:(fn.name== "runtime.NumGoroutine")=false){m:Nat}(hm:1+(fn.ntmps-1)=m)(h:∀l,l.length=m->get l 0=a0->SW P c l H (vH P fn R)):Fn P k [a0] H R:=Fn.aX hf hb hn λl hl=>h l (by rw[hl,ec,fX];exact hm) (by rw[hl];rfl)
theorem Fn.aF{k:FuncId}{fn:Func}{c:Code}{a0 a1:Value}{R:Value->Heap->Prop}(hf:P.funcs[k]? =some fn)(hb:fn.body=some c)(hn:(fn.name== "runtime.NumGoroutine")=false){m:Nat}(hm:2+(fn.ntmps-2)=m)(h:∀l,l.length=m->get l 0=a0->get l 1=a1->SW P c l H (vH P fn R)):Fn P k [a0,a1] H R:=Fn.aX hf hb hn λl hl=>h l (by rw[hl,ec,fX];exact hm) (by rw[hl];rfl) (by rw[hl];rfl)
theorem Fn.cD{k:FuncId}{fn:Func}{c:Code}{a0 a1 a2:Value}{R:Value->Heap->Prop}(hf:P.funcs[k]? =some fn)(hb:fn.body=some c)(hn:(fn.name== "runtime.NumGoroutine")=false){m:Nat}(hm:3+(fn.ntmps-3)=m)(h:∀l,l.length=m->get l 0=a0->get l 1=a1->get l 2=a2->SW P c l H (vH P fn R)):Fn P k [a0,a1,a2] H R:=Fn.aX hf hb hn λl hl=>h l (by rw[hl,ec,fX];exact hm) (by rw[hl];rfl) (by rw[hl];rfl) (by rw[hl];rfl)
theorem Fn.dD{k:FuncId}{fn:Func}{c:Code}{a0 a1 a2 a3:Value}{R:Value->Heap->Prop}(hf:P.funcs[k]? =some fn)(hb:fn.body=some c)(hn:(fn.name== "runtime.NumGoroutine")=false){m:Nat}(hm:4+(fn.ntmps-4)=m)(h:∀l,l.length=m->get l 0=a0->get l 1=a1->get l 2=a2->get l 3=a3->SW P c l H (vH P fn R)):Fn P k [a0,a1,a2,a3] H R:=Fn.aX hf hb hn λl hl=>h l (by rw[hl,ec,fX];exact hm) (by rw[hl];rfl) (by rw[hl];rfl) (by rw[hl];rfl) (by rw[hl];rfl)
theorem Fn.dE{k:FuncId}{fn:Func}{c:Code}{a0 a1 a2 a3 a4:Value}{R:Value->Heap->Prop}(hf:P.funcs[k]? =some fn)(hb:fn.body=some c)(hn:(fn.name== "runtime.NumGoroutine")=false){m:Nat}(hm:5+(fn.ntmps-5)=m)(h:∀l,l.length=m->get l 0=a0->get l 1=a1->get l 2=a2->get l 3=a3->get l 4=a4->SW P c l H (vH P fn R)):Fn P k [a0,a1,a2,a3,a4] H R:=Fn.aX hf hb hn λl hl=>h l (by rw[hl,ec,fX];exact hm) (by rw[hl];rfl) (by rw[hl];rfl) (by rw[hl];rfl) (by rw[hl];rfl) (by rw[hl];rfl)
theorem Fn.dF{k:FuncId}{fn:Func}{c:Code}{a0 a1 a2 a3 a4 a5:Value}{R:Value->Heap->Prop}(hf:P.funcs[k]? =some fn)(hb:fn.body=some c)(hn:(fn.name== "runtime.NumGoroutine")=false){m:Nat}(hm:6+(fn.ntmps-6)=m)(h:∀l,l.length=m->get l 0=a0->get l 1=a1->get l 2=a2->get l 3=a3->get l 4=a4->get l 5=a5->SW P c l H (vH P fn R)):Fn P k [a0,a1,a2,a3,a4,a5] H R:=Fn.aX hf hb hn λl hl=>h l (by rw[hl,ec,fX];exact hm) (by rw[hl];rfl) (by rw[hl];rfl) (by rw[hl];rfl) (by rw[hl];rfl) (by rw[hl];rfl) (by rw[hl];rfl)
theorem St.cF{B:Base}{os:List Ob}{k:FuncId}{args:List Value}{v:Value}{K:Value->Heap->Prop}(hS:St P B H os)(h:Fn P k args H λr H1=>r=v∧St P H H1 [])(hk:∀H1,St P B H1 os->K v H1):yS P k args H K:=jH h λr H1⟨e,hT⟩=>by subst e;have h1:=hS.trans hT;rw[eu]at h1;exact hk H1 h1
end
end Go.Ds
namespace Go.Ds
noncomputable section
variable {P:Program} {H0:Base} {H:Heap} {α:Type} {n:Nat} {cel:α→List Value} {v:Value} {xs:List α}
def jA[Inhabited α](xs:List α)(j:Nat):α:=xs.getD j default
theorem kC[Inhabited α](xs:List α)(j:Nat)(hj:j<xs.length):jA xs j=xs[j]:=by simp[jA,dT,hj]
theorem jC[Inhabited α]{xs:List α}{j:Nat}(hj:j<xs.length):jA xs j∈xs:=by rw[kC xs j hj];exact iU _
theorem c0G{β:Type}[Inhabited α][Inhabited β](f:α->β){xs:List α}{j:Nat}(hj:j<xs.length):jA (xs.map f) j=f (jA xs j):=by rw[kC _ _ (by simpa using hj),kC _ _ hj];simp
theorem a3L[Inhabited α](xs:List α)(j:Nat)(hj:j<xs.length):xs.take (j+1)=xs.take j++[jA xs j]:=by rw[kC _ _ hj,iy hj]
theorem a0z[Inhabited α](xs:List α)(j:Nat)(hj:j<xs.length):xs.drop j=jA xs j::xs.drop (j+1):=by rw[kC _ _ hj,fI hj]
theorem jE(hc:∀x,(cel x).length=n):∀xs:List α,(xs.flatMap cel).length=xs.length*n| []=>by simp| x::xs=>by simp[eW,hc x,jE hc xs,Nat.succ_mul,Nat.add_comm]
theorem uL(hc:∀x,(cel x).length=n):∀(xs:List α)(j:Nat),(xs.flatMap cel).drop (j*n)=(xs.drop j).flatMap cel| [],j=>by simp| x::xs,0=>by simp| x::xs,j+1=>by rw[eW,List.drop_succ_cons,<-uL hc xs j,Nat.succ_mul,Nat.add_comm,<-gD];congr 1;rw[<-hc x,List.drop_left]
theorem a2V(hc:∀x,(cel x).length=n):∀(xs:List α)(j:Nat),(xs.flatMap cel).take (j*n)=(xs.take j).flatMap cel| [],j=>by simp| x::xs,0=>by simp| x::xs,j+1=>by rw[eW,List.take_succ_cons,eW,<-a2V hc xs j,Nat.succ_mul,Nat.add_comm];have:=List.take_length_add_append (l₁:=cel x) (l₂:=xs.flatMap cel) (j*n);rw[hc x]at this;exact this
theorem a4K[Inhabited α](hc:∀x,(cel x).length=n)(xs:List α)(j f:Nat)(hj:j<xs.length)(hf:f<n):(xs.flatMap cel)[j*n+f]? =(cel (jA xs j))[f]?:=by(have h1:(xs.flatMap cel)[j*n+f]? =((xs.flatMap cel).drop (j*n))[f]?:=by rw[eF]);rw[h1,uL hc,a0z xs j hj,eW,fw (by rw[hc];exact hf)]
theorem a4z[Inhabited α](hc:∀x,(cel x).length=n)(xs:List α)(j f m:Nat)(hj:j<xs.length)(hf:f+m<=n):((xs.flatMap cel).drop (j*n+f)).take m=((cel (jA xs j)).drop f).take m:=by rw[<-gD,uL hc,a0z xs j hj,eW,List.drop_append_of_le_length (by rw[hc];omega),List.take_append_of_le_length (by simp[hc];omega)]
structure Sl(n:Nat)(cel:α→List Value)(H:Heap)(v:Value)(xs:List α):Prop where
 rd:RdAt H v n (xs.flatMap cel)
 hc:∀x,(cel x).length=n
 pos:0<n
theorem Sl.len(h:Sl n cel H v xs)(m:Nat)(t:TypeId):a1h (some m) P H t v=some (.int .i64 xs.length):=by obtain⟨k,rfl⟩:∃k,n=k+1:=⟨n-1,by have:=h.pos;omega⟩;exact h.rd.len (jE h.hc xs) m t
theorem Sl.idx(h:Sl n cel H v xs)(t:TypeId)(k:IntKind)(j:Int)(h0:0<=j)(h1:j<xs.length):a1M (some n) P t v (.int k j)=some (lB v n j.toNat 0):=by obtain⟨k,rfl⟩:∃k,n=k+1:=⟨n-1,by have:=h.pos;omega⟩;exact h.rd.idx (jE h.hc xs) t _ j h0 h1
theorem c3i{j m n:Nat}(hj:j<m)(hn:0<n):j*n<m*n:=Nat.mul_lt_mul_of_pos_right hj hn
theorem xZ{j f m n:Nat}(hj:j<m)(hf:f<=n):j*n+f<=m*n:=by have:=eT n hj;rw[Nat.succ_mul]at this;omega
theorem Sl.ba(h:Sl n cel H v xs)(j:Nat)(hj:j<xs.length)(g d:Nat):b0I (some d) (lB v n j g)=some (lB v n j (g+d)):=by obtain⟨k,rfl⟩:∃k,n=k+1:=⟨n-1,by have:=h.pos;omega⟩;exact h.rd.ba j (by rw[jE h.hc];exact c3i hj (gI _)) g d
theorem Sl.ld[Inhabited α](h:Sl n cel H v xs)(s:Option Nat)(j f:Nat)(hj:j<xs.length)(hf:f<n):rD (some false) s H (lB v n j f)=(cel (jA xs j))[f]?:=by rw[h.rd.ld s j f (by rw[jE h.hc];exact ez (Nat.add_lt_add_left hf _) (xZ hj (dP _))),a4K h.hc xs j f hj hf]
theorem Sl.av[Inhabited α](h:Sl n cel H v xs)(j:Nat)(hj:j<xs.length):rD (some true) (some n) H (lB v n j 0)=some (.agg (cel (jA xs j)).toArray):=by rw[h.rd.av n j 0 (by rw[jE h.hc];exact xZ hj (dP _)) h.pos,a4z h.hc xs j 0 n hj (by omega)];rw[iQ,eJ (by rw[h.hc];exact dP _)]
theorem Sl.cE[Inhabited α](h:Sl n cel H v xs)(m j f:Nat)(hj:j<xs.length)(hf:f+m<=n)(hm:0<m):rD (some true) (some m) H (lB v n j f)=some (.agg (((cel (jA xs j)).drop f).take m).toArray):=by rw[h.rd.av m j f (by rw[jE h.hc,gy];exact xZ hj hf) hm,a4z h.hc xs j f m hj hf]
theorem Sl.cells(h:Sl n cel H v xs):v.cells=#[v]∧oneCell v=true∧sS v=true:=h.rd.cells
theorem St.sl{H0:Heap}{os:List Ob}(hS:St P H0 H os)(h:Sl n cel H0 v xs):Sl n cel H v xs:=⟨hS.base h.rd,h.hc,h.pos⟩
theorem Sl.ar{H':Heap}(h:Sl n cel H v xs)(hk:∀B,B<H.length->jM H' B=jM H B):Sl n cel H' v xs:=⟨h.rd.ar hk,h.hc,h.pos⟩
theorem St.aG{os:List Ob}(hS:St P H0 H os)(i:Nat){m:Nat}(ho:os[i]? =some ⟨v,m+1,xs.flatMap cel⟩)(hc:∀x,(cel x).length=m+1):Sl (m+1) cel H v xs:=⟨hS.rd i ho,hc,gI _⟩
def one(f:α->Value):α->List Value:=λx=>[f x]
theorem uF(f:α->Value)(x:α):(one f x).length=1:=rfl
end
end Go.Ds
namespace Go.Ds
open Go.RowKit
section
variable {P:Program} {ρ:Rho} {H:Heap} {w:World}
structure InW(P:Program)(ρ:Rho)(H:Heap)(w:World):Prop where
 rel:HRel P ρ H w
 shut:Shut ρ H
structure ExtW(ρ:Rho)(H:Heap)(ρ':Rho)(H':Heap):Prop where
 le:ρ.Le ρ'
 len:H.length≤H'.length
 old:∀B,B<H.length→jM H' B=jM H B
theorem ExtW.refl(ρ:Rho)(H:Heap):ExtW ρ H ρ H:=⟨.refl ρ,dP _,λ_ _=>rfl⟩
theorem ExtW.trans{ρ' ρ'':Rho}{H' H'':Heap}(h:ExtW ρ H ρ' H')(k:ExtW ρ' H' ρ'' H''):ExtW ρ H ρ'' H'':=⟨h.le.trans k.le,ek h.len k.len,λB hB=>by rw[k.old B (ez hB h.len),h.old B hB]⟩
theorem InW.none(w:World):InW P (λ_ _=>Option.none) .nil w:=⟨.none w,.none⟩
theorem InW.row(h:InW P ρ H w)(p:Place){cur:Array Value}{t':TypeId}{fr:Nat×Nat}(hb:w.heap[p.b]? =some (.cells cur t' fr)){ty:TypeId}(hty:jF P ty=some p.k)(hsz:cur.size=p.sz)(cs:List Value)(ver:Nat) (hver:ver=1->p.b=H.length∧p.d=0∧(cs≠[]->p.sz=cs.length)) (hfit:(cs.length:Int)+p.d<=p.sz) (hcell:∀i c,i<cs.length->0<=(i:Int)+p.d->cs[i]? =some c->∃c',cur[p.at i]? =some c'∧C1 (ρ.put H.length cs.length p) c c'): InW P (ρ.put H.length cs.length p) (H.cons (.cells cs ty false 0 ver)) w∧ExtW ρ H (ρ.put H.length cs.length p) (H.cons (.cells cs ty false 0 ver)):=by
 (have hno:∀f,ρ H.length f=Option.none:=λf=>by cases hh:ρ H.length f with| none=>rfl| some q=>exact absurd (h.rel.dom _ _ _ hh).1 (fq _));have hle:ρ.Le (ρ.put H.length cs.length p):=.put (hno _);(have hold:∀A f q,(ρ.put H.length cs.length p) A f=some q->(A=H.length∧f=cs.length∧q=p)∨(A<H.length∧ρ A f=some q):=λA f q hq=>by by_cases hh:A=H.length∧f=cs.length;(·obtain⟨rfl,rfl⟩:=hh;rw[Rho.aq]at hq;exact .inl ⟨rfl,rfl,(dK hq).symm⟩);·rw[Rho.aM hh]at hq;exact .inr ⟨(h.rel.dom _ _ _ hq).1,hq⟩);have hgo:∀A,A<H.length->jM (H.cons (.cells cs ty false 0 ver)) A=jM H A:=λA hA=>kG _ hA;(have hnew:∀A b,jM (H.cons (.cells cs ty false 0 ver)) A=some b->(A=H.length∧b=.cells cs ty false 0 ver)∨(A<H.length∧jM H A=some b):=λA b hg=>by have hA:A<(H.cons (.cells cs ty false 0 ver)).length:=jX hg;rw[length_cons]at hA;by_cases he:A=H.length;(·subst he;rw[jJ]at hg;exact .inl ⟨rfl,(dK hg).symm⟩);·rw[hgo A (by omega)]at hg;exact .inr ⟨by omega,hg⟩)
 (have hrw:∀A f q b,(ρ.put H.length cs.length p) A f=some q->jM (H.cons (.cells cs ty false 0 ver)) A=some b->b.wr=true->False:=λA f q b hq hg hw=>by rcases hnew A b hg with⟨rfl,rfl⟩|⟨hA,hg⟩;(·cases hw);·rcases hold A f q hq with⟨rfl,_⟩|⟨_,hq⟩;(·exact absurd hA (fq _));·exact h.shut q.b ⟨A,f,q,b,hq,rfl,hg,hw⟩);refine⟨⟨⟨?_,?_,?_,?_,?_,?_,?_,?_⟩,?_⟩,hle,by rw[length_cons];omega,hgo⟩;(·intro A f q hq;rw[length_cons];rcases hold A f q hq with⟨rfl,rfl,rfl⟩|⟨hA,hq⟩;(·exact⟨by omega,nF hb⟩);·exact⟨by omega,(h.rel.dom _ _ _ hq).2⟩);(·intro A cs' ty' rw' lo ver' hg;rcases hnew A _ hg with⟨rfl,he⟩|⟨hA,hg⟩;(·cases he;refine⟨⟨p,Rho.aq ..⟩,λe q hq=> ?_⟩;rcases hold _ e q hq with⟨_,rfl,rfl⟩|⟨hA,_⟩;(·exact⟨dP _,hty,hfit,cur,t',fr,hb,hsz,(λhh=>by cases hh),λ_=>hcell⟩);·exact absurd hA (fq _));·obtain⟨⟨q,hq⟩,hall⟩:=h.rel.cells _ _ _ _ _ _ hg;refine⟨⟨q,hle _ _ _ hq⟩,λe q hq=> ?_⟩;rcases hold _ e q hq with⟨rfl,_,_⟩|⟨_,hq⟩;(·exact absurd hA (fq _));·exact(hall e q hq).world hle rfl)
 (·intro A es ck ver' hg;rcases hnew A _ hg with⟨rfl,he⟩|⟨hA,hg⟩;(·cases he);·obtain⟨q,es',hq,hw,hall⟩:=h.rel.map _ _ _ _ hg;exact⟨q,es',hle _ _ _ hq,hw,hall.mono λ_ _ x=>x.mono hle⟩);(·intro A r hg;rcases hnew A _ hg with⟨rfl,he⟩|⟨hA,hg⟩;(·cases he);·obtain⟨q,r',hq,hw,hall⟩:=h.rel.loop _ _ hg;exact⟨q,r',hle _ _ _ hq,hw,hall.mono hle⟩);(·intro A f q b hq hg;rcases hnew A b hg with⟨rfl,rfl⟩|⟨hA,hg⟩;(·exact .inl rfl);·rcases hold A f q hq with⟨rfl,_⟩|⟨_,hq⟩;(·exact absurd hA (fq _));·exact h.rel.one _ _ _ _ hq hg);(·intro A f q A2 f2 q2 b hq _ _ hg hw;exact absurd hw λhw=>(hrw A f q b hq hg hw).elim);(·intro A hA;rw[length_cons]at hA;by_cases he:A=H.length;(·subst he;rw[jJ];rfl);·rw[hgo A (by omega)];exact h.rel.full A (by omega));(·intro A cs' ty' lo hg;rcases hnew A _ hg with⟨rfl,he⟩|⟨hA,hg⟩;(·cases he;exact⟨p,Rho.aq ..,hver rfl⟩);·obtain⟨q,h1,h2,h3⟩:=h.rel.glob _ _ _ _ hg;exact⟨q,hle _ _ _ h1,h2,h3⟩)
 ·rintro b⟨A,f,q,blk,hq,_,hg,hw⟩;exact hrw A f q blk hq hg hw
theorem b8E{a:Addr}{i:Nat}{v:Value}(h:w.cell? (a.add i)=some v):∃cur t fr,w.heap[a.block]? =some (.cells cur t fr)∧(i=0->a.spot=Option.none)∧cur[a.off+i]? =some v:=by obtain⟨b,off,spot⟩:=a;(have hb:((⟨b,off,spot⟩:Addr).add i).block=b:=by unfold Addr.add;split<;>rfl);(have ho:((⟨b,off,spot⟩:Addr).add i).off=off+i:=by unfold Addr.add;split<;>simp_all);unfold World.cell? at h;rw[hb,ho]at h;split at h;(·rename_i cur t fr hcur;split at h;(·cases h);·rename_i hn;refine⟨cur,t,fr,hcur,λh0=> ?_,h⟩;subst h0;cases spot with| none=>rfl| some s=>exact absurd rfl hn);·cases h
theorem InW.slice(h:InW P ρ H w){b0:Nat}{cur0:Array Value}{t0:TypeId}{fr0:Nat×Nat}(hb0:w.heap[b0]? =some (.cells cur0 t0 fr0)){ty:TypeId}{size:Nat}(hty:jF P ty=some size)(hs:0<size){a:Addr}{len cap:Nat}(hl:len<=cap) (hall:∀i,i<cap*size->(w.cell? (a.add i)).isSome=true) (cs:List Value) (hcs:cs.length=len*size) (hval:∀i c,cs[i]? =some c->∃c',w.cell? (a.add i)=some c'∧C1 ρ c c'): ∃ρ' H' v,InW P ρ' H' w∧ExtW ρ H ρ' H'∧C1 ρ' v (.slice (some a) len cap)∧RdAt H' v size cs:=by
 have hne:∀(q:Place)f,ρ.Le (ρ.put H.length f q):=λq f=>.put (by cases hh:ρ H.length f with| none=>rfl| some q=>exact absurd (h.rel.dom _ _ _ hh).1 (fq _));by_cases hc:cap=0;(·subst hc;(obtain rfl:len=0:=by omega);(obtain rfl:cs=[]:=by simpa using hcs);obtain⟨h1,h2⟩:=h.row ⟨b0,0,cur0.size,size⟩ hb0 (ty:=ty) hty rfl [] 0 (λhh=>by cases hh) (by simp) (λi c hi=>by simp at hi);refine⟨_,_,.slice (some ⟨H.length,0,some 0⟩) 0 size,h1,h2,.c0 ?_,.inr ⟨_,_,_,_,_,false,0,0,0,jJ H _,dP _,fJ _,by simp,by simp,by simp,rfl⟩⟩;exact C0.slice (p:=⟨b0,0,cur0.size,size⟩) (n:=0) (c':=0) (Rho.aq ..) (by simp) (by simp) ⟨dP _,by simp⟩ (.inr ⟨rfl,rfl⟩));·have hpos:0<cap*size:=ja (by omega) hs;obtain⟨v0,hv0⟩:=fU.1 (hall 0 hpos);obtain⟨cur,t,fr,hcur,hsp,_⟩:=b8E hv0;have hsp:=hsp rfl;obtain⟨b,off,spot⟩:=a;simp only at hsp hcur;subst hsp;(have jM:∀i c',w.cell? ((⟨b,off,Option.none⟩:Addr).add i)=some c'->cur[off+i]? =some c':=λi c' hi=>by obtain⟨cur',_,_,hh,_,hx⟩:=b8E hi;simp only at hh hx;rw[hcur]at hh;cases hh;exact hx);(have hsz:off+cap*size<=cur.size:=by obtain⟨v,hv⟩:=fU.1 (hall (cap*size-1) (by omega));have:=(dQ.1 (jM _ _ hv)).1;omega);have hlc:len*size<=cap*size:=eT _ hl;obtain⟨h1,h2⟩:=h.row ⟨b,off,cur.size,size⟩ hcur (ty:=ty) hty rfl cs 0 (λhh=>by cases hh) (by simp only[hcs];omega) (λi c hi h0 hc=>by obtain⟨c',h3,h4⟩:=hval i c hc;exact⟨c',by have:=jM _ _ h3;rw[show(⟨b,off,cur.size,size⟩:Place).at i=off+i from by simp only[Place.at];omega];exact this,h4.mono (hne _ _)⟩);refine⟨_,_,.slice (some ⟨H.length,0,some cs.length⟩) len size,h1,h2,.c0 ?_,.inr ⟨_,_,_,_,_,false,0,0,len,jJ H _,fJ _,dP _,by omega,by simp,hcs,rfl⟩⟩;exact C0.slice (p:=⟨b,off,cur.size,size⟩) (n:=len) (c':=cap) (Rho.aq ..) (by simp) (by simp only;omega) ⟨hl,by simp only;omega⟩ (.inl ⟨by simp[Place.at],by simp[Place.at];exact hsz⟩)
theorem InW.each{α:Type}[Inhabited α](h:InW P ρ H w){n:Nat}{Q:Nat->Rho->Heap->α->Prop}(hQ:∀i ρ H x ρ' H',Q i ρ H x->ExtW ρ H ρ' H'->Q i ρ' H' x) (hi:∀i,i<n->∀ρ1 H1,InW P ρ1 H1 w->ExtW ρ H ρ1 H1->∃ρ' H' x,InW P ρ' H' w∧ExtW ρ1 H1 ρ' H'∧Q i ρ' H' x):∃ρ' H' xs,InW P ρ' H' w∧ExtW ρ H ρ' H'∧xs.length=n∧∀i,i<n->Q i ρ' H' (jA xs i):=by
 induction n with| zero=>exact⟨ρ,H,[],h,.refl _ _,rfl,λi hi=>absurd hi (eK _)⟩| succ n ih=>obtain⟨ρ1,H1,xs,h1,e1,hl,hq⟩:=ih λi hi'=>hi i (by omega);obtain⟨ρ2,H2,x,h2,e2,hx⟩:=hi n (by omega) ρ1 H1 h1 e1;refine⟨ρ2,H2,xs++[x],h2,e1.trans e2,by simp[hl],λi hin=> ?_⟩;by_cases he:i=n;(·subst he;rw[kC _ _ (by simp;omega),List.getElem_append_right (by omega)];simpa [hl]using hx);·(have:jA (xs++[x]) i=jA xs i:=by rw[kC _ _ (by simp;omega),kC _ _ (by omega),List.getElem_append_left (by omega)]);rw[this];exact hQ _ _ _ _ _ _ (hq i (by omega)) e2
end
end Go.Ds
namespace Go.Ds
noncomputable section
inductive Pth where| z| l (p:Pth)| r (p:Pth)
inductive Fr where| e| n (v:Value) (l r:Fr)
def a6j:Nat->Nat->Pth:=λf=>Nat.rec (motive:=λ_=>Nat->Pth) (λ_=>.z) (λ_ ih k=>Nat.rec (motive:=λ_=>Pth) .z (λk _=>Bool.rec (motive:=λ_=>Pth) (.r (ih (Nat.div k 2))) (.l (ih (Nat.div k 2))) (Nat.beq (Nat.mod k 2) 0)) k) f
def lM(k:Nat):Pth:=a6j k k
def pH(p:Pth):Fr->Value:=Pth.rec (motive:=λ_=>Fr->Value) (λf=>Fr.rec (motive:=λ_=>Value) undef (λv _ _ _ _=>v) f) (λ_ ih f=>Fr.rec (motive:=λ_=>Value) undef (λ_ l _ _ _=>ih l) f) (λ_ ih f=>Fr.rec (motive:=λ_=>Value) undef (λ_ _ r _ _=>ih r) f) p
def qT{α:Type}(v:Value)(p:Pth):Fr->(Fr->α)->α:=Pth.rec (motive:=λ_=>Fr->(Fr->α)->α) (λf K=>Fr.rec (motive:=λ_=>α) (K (.n v .e .e)) (λ_ l r _ _=>K (.n v l r)) f) (λ_ ih f K=>Fr.rec (motive:=λ_=>α) (ih .e λl=>K (.n undef l .e)) (λw l r _ _=>ih l λl=>K (.n w l r)) f) (λ_ ih f K=>Fr.rec (motive:=λ_=>α) (ih .e λr=>K (.n undef .e r)) (λw l r _ _=>ih r λr=>K (.n w l r)) f) p
def mK{α:Type}(p:Pth):(Pth->α)->α:=Pth.rec (motive:=λ_=>(Pth->α)->α) (λK=>K .z) (λ_ ih K=>ih λp=>K (.l p)) (λ_ ih K=>ih λp=>K (.r p)) p
inductive LArg where| t (p:Pth)| c (v:Value)
def nW(f:Fr)(x:LArg):Value:=LArg.rec (motive:=λ_=>Value) (λp=>pH p f) (λv=>v) x
inductive Rs where| no| ok (v:Value) (H:Heap)| th (v:Value) (H:Heap)
def pW{α:Type}(v:Value)(K:Value->α):α:=match v with| .bool b=>K (.bool b)| .int k n=>K (.int k n)| .string s=>K (.string s)| .pointer a=>K (.pointer a)| .slice a n c=>K (.slice a n c)| .map r=>K (.map r)| .func fn a b=>K (.func fn a b)| .agg cs=>K (.agg cs)| .tuple vs=>K (.tuple vs)| v=>K v
inductive LOp where| bad| mv (x:LArg)| pick (c a b:LArg)| bin (g:IntKind->Int->Int->Option Value) (x y:LArg)| not (x:LArg)| ld1 (x:LArg)| ldn (n:Nat) (x:LArg)| st (n:Nat) (x y:LArg)| fa (off:Nat) (x:LArg)| ixs (size:Nat) (x i:LArg)| ixa (n size:Nat) (x i:LArg)| ext (i:Nat) (x:LArg)| f1 (off:Nat) (x:LArg)| fn (off n:Nat) (x:LArg)| len (x:LArg)| slen (x:LArg)| app (elem size bytes:Nat) (x y:LArg)| alloc (t:TypeId) (cs:List Value)| callF (f:FuncId) (p:Pth) (args:List LArg)| callV (g:LArg) (args:List LArg)| gen (o:Oper)
inductive LOps where| nil| cons (d:Option Pth) (o:LOp) (rest:LOps)| gcons (p:Pth) (w:Bool) (d:Option Pth) (o:LOp) (rest:LOps)
inductive LCode where| bad| skip| reg (ops:LOps)| drw (ops:LOps) (tab:List (Nat×Option Nat×Option (Pth×Bool)×LOp))| seq (a b:LCode)| cond (c:LArg) (x y:LCode)| block (id:Nat) (b:LCode)| loop (b:LCode)| exit (id:Nat)| ret| range (g:LArg) (ps:List Pth) (pp:List Pth) (params:Array Tmp) (assign body:Code) (a b:LCode)
inductive LRes where| t (p:Pth)| c1 (p:Pth)| cn (n:Nat) (p:Pth)
structure LFunc where
 ps:List Pth
 body:LCode
 res:List LRes
inductive LT where| e| n (g:Option LFunc) (l r:LT)
def a3c(p:Pth):LT->Option LFunc:=Pth.rec (motive:=λ_=>LT->Option LFunc) (λf=>LT.rec (motive:=λ_=>Option LFunc) none (λv _ _ _ _=>v) f) (λ_ ih f=>LT.rec (motive:=λ_=>Option LFunc) none (λ_ l _ _ _=>ih l) f) (λ_ ih f=>LT.rec (motive:=λ_=>Option LFunc) none (λ_ _ r _ _=>ih r) f) p
def tT{α:Type}(v:LFunc)(p:Pth):LT->(LT->α)->α:=Pth.rec (motive:=λ_=>LT->(LT->α)->α) (λf K=>LT.rec (motive:=λ_=>α) (K (.n (some v) .e .e)) (λ_ l r _ _=>K (.n (some v) l r)) f) (λ_ ih f K=>LT.rec (motive:=λ_=>α) (ih .e λl=>K (.n none l .e)) (λw l r _ _=>ih l λl=>K (.n w l r)) f) (λ_ ih f K=>LT.rec (motive:=λ_=>α) (ih .e λr=>K (.n none .e r)) (λw l r _ _=>ih r λr=>K (.n w l r)) f) p
structure LEnv where
 L:Nat
 ps:List Pth
 pp:List Pth
 a:LCode
 b:LCode
def b9o(P:Program)(o:Oper)(ρ:Operand->Value)(H:Heap):Option (Value×Heap):=if o.op.operands.toList.all (λx=>flat (ρ x))then (match jK P (execOp ρ o)with| some (.value v)=>if flat v then some (v,H)else none| _=>none) else none
def c2l(P:Program)(o:Oper)(ρ:Operand→Value)(H:Heap):Option (Value×Heap):=
 let keep (v:Option Value):Option (Value×Heap):=v.map fun v=>(v,H)
 let plain:Option (Value×Heap):=b9o P o ρ H
 match o.op with
 | .move x|.assign x=>some (ρ x,H)
 | .pick c a b=>match ρ c with|.bool t=>some (if t then ρ a else ρ b,H)|_=>none
 | .alloc t=>(jW P t).bind fun z=>if jY z then qU P H t z else none
 | .box t x=>yI P H t (ρ x)
 | .build t parts=>
   let ps:=parts.toList.map fun(i,x)=>(i,ρ x)
   if(jW P t).any jY&&ps.all (fun x=>x.2.cells.toList.all oneCell)then
    (P.built t ps).map fun cs=>(.agg cs,H)
   else none
 | .buildSlice t len parts=>
   (jI P t).bind fun elem=>(jF P elem).bind fun size=>(jW P elem).bind fun z=>
   let ps:=parts.toList.map fun(i,x)=>(i,ρ x)
   if len==0&&ps.isEmpty&&size !=0 then some (.slice (some ⟨H.length,0,some 0⟩) 0 size,tI H elem [])else
   if jY z&&ps.all (fun x=>x.2.cells.toList.all oneCell)&&len*size≤2^24&&len*size !=0&&z.cells.size==size then
    (Instr.fill (fun i=>some (i*size,size)) ((Array.range (len*size)).map (z.cells[·%z.cells.size]!)) ps).map fun cs=>
      (.slice (some ⟨H.length,0,some cs.toList.length⟩) len size,tI H elem cs.toList)
   else none
 | .makeSlice t n c=>
   (jI P t).bind fun elem=>(jF P elem).bind fun size=>(oY P elem).bind fun bytes=>(jW P elem).bind fun z=>
   match ρ n,ρ c with
   | .int _ a,.int _ b=>
     if jY z&&decide (a≤b)&&0≤a&&b*(bytes+1)≤(qA:Int)&&size !=0&&z.cells.size==size then
      let cs:=if size=1 then List.replicate b.toNat (z.cells[0]!)else(madeCells z.cells (b.toNat*size)).toList
      some (.slice (some ⟨H.length,0,some cs.length⟩) a.toNat size,tI H elem cs)
     else none
   | _,_=>none
 | .load t a=>keep (mS P H t (ρ a))
 | .store t a x=>(qV P H t (ρ a) (ρ x)).map fun H=>(undef,H)
 | .nilCheck x=>match ρ x with
   | .pointer (some a)=>some (.pointer (some a),H)
   | .func (.func f) a b=>some (.func (.func f) a b,H)
   | _=>none
 | .fieldAddr s x f=>match ρ x with
   | .pointer (some ⟨A,i,some e⟩)=>(pV P s f).bind fun fd=>(jF P fd.type).bind fun n=>if n==0 then none else some (.pointer (some ⟨A,i+fd.offset,some e⟩),H)
   | _=>none
 | .indexAddr t x ix=>match P.underlying t,ρ x,ρ ix with
   | some (.slice elem),.slice (some ⟨A,i,some e⟩) n _,.int _ j=>(jF P elem).bind fun size=>
     if 0≤j&&j<n then some (.pointer (some ⟨A,i+j.toNat*size,some e⟩),H)else none
   | some (.array n elem),.pointer (some ⟨A,i,some e⟩),.int _ j=>(jF P elem).bind fun size=>
     if 0≤j&&j<n then some (.pointer (some ⟨A,i+j.toNat*size,some e⟩),H)else none
   | some (.array n elem),.pointer (some ⟨A,i,none⟩),.int _ j=>(jF P elem).bind fun size=>
     if 0≤j&&j<n then some (.pointer (some ⟨A,i+j.toNat*size,none⟩),H)else none
   | _,_,_=>none
 | .slice t x lo hi none=>if flat (ρ x)then plain else match kS P t with
   | some (n,elem)=>keep (a5w P H n elem (ρ x) (lo.map ρ) (hi.map ρ))
   | none=>keep (yP P t (ρ x) (lo.map ρ) (hi.map ρ))
 | .field t x f=>if flat (ρ x)then plain else
   match ρ x with
   | .agg cs=>(pV P t f).bind fun fd=>match kP P fd.type with
     | some true=>(jF P fd.type).map fun n=>(.agg (cs.extract fd.offset (fd.offset+n)),H)
     | some false=>(cs[fd.offset]?).map fun v=>(v,H)
     | none=>none
   | _=>none
 | .extract t i=>match ρ t with
   | .tuple vs=>(vs[i]?).map fun v=>(v,H)
   | _=>none
 | .makeFunc fn first captured=>match fn with
   | .func f=>if(first++captured).toList.all (fun x=>sS (ρ x))then some (.func (.func f) (first.map ρ) (captured.map ρ),H)else none
   | _=>none
 | .binOp op t x y _=>match op,ρ x,ρ y with
   | .eql,.slice (some _) _ _,.slice none 0 0=>if((P.underlying t).map xA)==some true then some (.bool false,H)else none
   | .neq,.slice (some _) _ _,.slice none 0 0=>if((P.underlying t).map xA)==some true then some (.bool true,H)else none
   | op,.int k a,.int k' b=>if k=k' then(match nX op k a b with|some v=>some (v,H)|none=>plain)else plain
   | .eql,.pointer (some _),.pointer none=>if vF P t then some (.bool false,H)else none
   | .neq,.pointer (some _),.pointer none=>if vF P t then some (.bool true,H)else none
   | .eql,.pointer (some ⟨A,i,some e⟩),.pointer (some ⟨A',i',some e'⟩)=>if vF P t&&A==A'&&i==i'&&e==e' then some (.bool true,H)else none
   | .neq,.pointer (some ⟨A,i,some e⟩),.pointer (some ⟨A',i',some e'⟩)=>if vF P t&&A==A'&&i==i'&&e==e' then some (.bool false,H)else none
   | _,_,_=>plain
 | .call c=>match c.callee with
   | .builtin .len=>if c.args.size==1&&c.argTypes.size==1 then
      match (P.underlying (c.argTypes.getD 0 0)),ρ (c.args.getD 0 (.tmp 0))with
      | some (.slice _),.slice a n k=>keep (xW H (.slice a n k))
      | some .string,.string s=>keep (xW H (.string s))
      | some (.map _ _),.map r=>keep (xW H (.map r))
      | _,_=>none
     else none
   | .builtin .append=>if c.args.size==2&&c.argTypes.size==2&&((P.underlying (c.argTypes.getD 1 0)).map qY)==some true then
      oW P H (c.argTypes.getD 0 0) (ρ (c.args.getD 0 (.tmp 0))) (ρ (c.args.getD 1 (.tmp 0)))
     else none
   | .builtin .copy=>if c.args.size==2&&c.argTypes.size==2 then a1A P H (c.argTypes.getD 0 0) (ρ (c.args.getD 0 (.tmp 0))) (ρ (c.args.getD 1 (.tmp 0)))else none
   | .builtin .clear=>if c.args.size==1&&c.argTypes.size==1 then uG P H (c.argTypes.getD 0 0) (ρ (c.args.getD 0 (.tmp 0)))else none
   | .builtin .cap=>plain
   | .builtin .unsafeSliceData=>if c.args.size==1&&c.argTypes.size==1 then match ρ (c.args.getD 0 (.tmp 0))with
      | .slice (some a) n _=>if n==0 then none else some (.pointer (some a),H)
      | _=>none
     else none
   | .builtin .unsafeString=>if c.args.size==2&&c.argTypes.size==2 then wY P H (c.argTypes.getD 0 0) (ρ (c.args.getD 0 (.tmp 0))) (ρ (c.args.getD 1 (.tmp 0)))else none
   | .builtin .max=>plain
   | .builtin .min=>plain
   | _=>none
 | .unOp op _ x=>match op,ρ x with
   | .not,.bool b=>some (.bool (!b),H)
   | _,_=>plain
 | .makeMap t r=>qS P H t (r.map ρ)
 | .lookup t x k c=>keep (qK P H t (ρ x) (ρ k) c)
 | .mapUpdate t m k v=>(a1P P H t (ρ m) (ρ k) (ρ v)).map fun H=>(undef,H)
 | .mapEntry t m k=>sF P H t (ρ m) (ρ k)
 | .entryStore _ m b v=>(rX H (ρ m) (ρ b) (ρ v)).map fun H=>(undef,H)
 | .convert s t x=>if flat (ρ x)&& !(lX P t)then plain else match ρ x with
   | .slice (some ⟨A,i,some e⟩) n _=>if lX P s&&nU P t then keep ((kB H A i e n).bind fun l=>(oO l).map .string)else none
   | .string b=>if lX P t&&nU P s&&b.size≤2^40 then(jI P t).bind fun elem=>some (.slice (some ⟨H.length,0,some b.size⟩) b.size 1,b5N H elem (b.data.toList.map fun c=>.int .u8 c.toNat))else none
   | .pointer (some ⟨A,0,some e⟩)=>if a4N P H s t A e then some (.pointer (some ⟨A,0,some e⟩),H)else none
   | _=>none
 | .index t x i=>if flat (ρ x)then plain else keep (a1Z P t (ρ x) (ρ i))
 | .makeInterface _ _=>plain
 | _=>none
def pG{α:Type}(b:Bool)(no:α)(x:α):α:=Bool.rec (motive:=λ_=>α) no x b
def a7L{α:Type}(cs:List α):Nat->Bool:=List.rec (motive:=λ_=>Nat->Bool) (λe=>Nat.beq e 0) (λ_ _ ih e=>Nat.rec (motive:=λ_=>Bool) true (λm _=>ih m) e) cs
def a4m{α:Type}(cs:List α):Nat->Bool:=List.rec (motive:=λ_=>Nat->Bool) (λe=>Nat.beq e 0) (λ_ _ ih e=>Nat.rec (motive:=λ_=>Bool) false (λm _=>ih m) e) cs
def a1S{α:Type}(cs:List α):Nat->Option α:=List.rec (motive:=λ_=>Nat->Option α) (λ_=>none) (λv _ ih e=>Nat.rec (motive:=λ_=>Option α) (some v) (λm _=>ih m) e) cs
def a2Y{α:Type}(cs:List α):Nat->(List α->Rs)->Rs:=List.rec (motive:=λ_=>Nat->(List α->Rs)->Rs) (λn K=>Nat.rec (motive:=λ_=>Rs) (K []) (λ_ _=>.no) n) (λv _ ih n K=>Nat.rec (motive:=λ_=>Rs) (K []) (λm _=>ih m λl=>K (v::l)) n) cs
def b1q{α:Type}(cs:List α):Nat->List α:=List.rec (motive:=λ_=>Nat->List α) (λ_=>[]) (λv t ih n=>Nat.rec (motive:=λ_=>List α) (v::t) (λm _=>ih m) n) cs
def kIx(k:IntKind):Nat:=IntKind.rec (motive:=λ_=>Nat) 0 1 2 3 4 5 6 7 k
def hMv(x:LArg)(f:Fr)(H:Heap):Rs:=pW (nW f x) λv=>.ok v H
def b5W(c a b:LArg)(f:Fr)(H:Heap):Rs:=match nW f c with| .bool t=>pW (nW f (Bool.rec (motive:=λ_=>LArg) b a t)) λv=>.ok v H| _=>.no
def oV(v:Option Value)(H:Heap):Rs:=Option.rec (motive:=λ_=>Rs) .no (λv=>.th v H) v
def c1C(g:IntKind->Int->Int->Option Value)(k:IntKind)(a:Int)(H:Heap)(y:Value):Rs:=match y with| .int k' b=>pG (Nat.beq (kIx k) (kIx k')) .no (oV (g k a b) H)| _=>.no
def c3a(g:IntKind->Int->Int->Option Value)(x y:LArg)(f:Fr)(H:Heap):Rs:=match nW f x with| .int k a=>c1C g k a H (nW f y)| _=>.no
def c7z(x:LArg)(f:Fr)(H:Heap):Rs:=match nW f x with| .bool b=>.ok (.bool (Bool.rec (motive:=λ_=>Bool) true false b)) H| _=>.no
def c1o(b:Option Blk)(i e:Nat)(H:Heap):Rs:=match b with| some (.cells cs _ _ lo _)=>pG (Nat.ble lo e) .no (pG (a7L cs e) .no (pG (Nat.ble (Nat.succ i) e) .no (Option.rec (motive:=λ_=>Rs) .no (λv=>pW v λv=>.ok v H) (a1S cs i))))| _=>.no
def c3M(b:Option Blk)(i:Nat)(H:Heap):Rs:=match b with| some (.cells cs _ false lo 1)=>pG (a7L cs lo) .no (Option.rec (motive:=λ_=>Rs) .no (λv=>pW v λv=>.ok v H) (a1S cs i))| _=>.no
def b3x(x:LArg)(f:Fr)(H:Heap):Rs:=match nW f x with| .pointer (some ⟨A,i,some e⟩)=>c1o (jM H A) i e H| .pointer (some ⟨A,i,none⟩)=>c3M (jM H A) i H| _=>.no
def c0F(b:Option Blk)(n i e:Nat)(H:Heap):Rs:=match b with| some (.cells cs _ _ lo _)=>pG (Nat.ble lo e) .no (pG (a7L cs e) .no (pG (Nat.ble (Nat.add i n) e) .no (a2Y (b1q cs i) n λl=>.ok (.agg ⟨l⟩) H)))| _=>.no
def b4f(n:Nat)(x:LArg)(f:Fr)(H:Heap):Rs:=match nW f x with| .pointer (some ⟨A,i,some e⟩)=>c0F (jM H A) n i e H| _=>.no
def stB(b:Option Blk)(n A i e:Nat)(vs:List Value)(H:Heap):Rs:=match b with| some (.cells cs ty true lo ver)=>pG (a4m vs n) .no (pG (vs.all oneCell) .no (pG (a4m cs e) .no (pG (Nat.ble (Nat.add i n) e) .no (pG (Nat.ble lo e) .no (.th undef (hset H A (.cells (jV cs i vs) ty true e ver)))))))| _=>.no
def hSt(n:Nat)(x y:LArg)(f:Fr)(H:Heap):Rs:=match nW f x with| .pointer (some ⟨A,i,some e⟩)=>stB (jM H A) n A i e (nW f y).cells.toList H| _=>.no
def hFa(off:Nat)(x:LArg)(f:Fr)(H:Heap):Rs:=match nW f x with| .pointer (some ⟨A,i,some e⟩)=>lC (Nat.add i off) λi=>.ok (.pointer (some ⟨A,i,some e⟩)) H| _=>.no
def ixP(A i e size n:Nat)(H:Heap)(j:Value):Rs:=match j with| .int _ (.ofNat j)=>pG (Nat.blt j n) .no (lC (Nat.add i (Nat.mul j size)) λi=>.ok (.pointer (some ⟨A,i,some e⟩)) H)| _=>.no
def c2X(size:Nat)(x i:LArg)(f:Fr)(H:Heap):Rs:=match nW f x with| .slice (some ⟨A,a,some e⟩) n _=>ixP A a e size n H (nW f i)| _=>.no
def ixG(A i size n:Nat)(H:Heap)(j:Value):Rs:=match j with| .int _ (.ofNat j)=>pG (Nat.blt j n) .no (lC (Nat.add i (Nat.mul j size)) λi=>.ok (.pointer (some ⟨A,i,none⟩)) H)| _=>.no
def c2C(n size:Nat)(x i:LArg)(f:Fr)(H:Heap):Rs:=match nW f x with| .pointer (some ⟨A,a,some e⟩)=>ixP A a e size n H (nW f i)| .pointer (some ⟨A,a,none⟩)=>ixG A a size n H (nW f i)| _=>.no
def okV(v:Option Value)(H:Heap):Rs:=Option.rec (motive:=λ_=>Rs) .no (λv=>pW v λv=>.ok v H) v
def c3A(i:Nat)(x:LArg)(f:Fr)(H:Heap):Rs:=match nW f x with| .tuple ⟨vs⟩=>okV (a1S vs i) H| _=>.no
def hF1(off:Nat)(x:LArg)(f:Fr)(H:Heap):Rs:=match nW f x with| .agg ⟨cs⟩=>okV (a1S cs off) H| _=>.no
def hFn(off n:Nat)(x:LArg)(f:Fr)(H:Heap):Rs:=match nW f x with| .agg ⟨cs⟩=>a2Y (b1q cs off) n λl=>.ok (.agg ⟨l⟩) H| _=>.no
def c3y(x:LArg)(f:Fr)(H:Heap):Rs:=match nW f x with| .slice _ n _=>.th (goInt n) H| _=>.no
def b7U(x:LArg)(f:Fr)(H:Heap):Rs:=match nW f x with| .string s=>.th (goInt s.size) H| _=>.no
def c6m(b:Option Blk)(elem size bytes A i e k:Nat)(n:Nat)(l:List Value)(P:Program)(H:Heap):Rs:=match b with| some (.cells cs ty true lo ver)=>pG (Bool.rec (motive:=λ_=>Bool) (jF P ty==some size) true (Nat.beq ty elem)) .no (pG (a4m cs e) .no (pG (Nat.ble lo e) .no (pG (Nat.beq (Nat.add i (Nat.mul k size)) e) (pG (Nat.beq n 0) (pG (Nat.ble (Nat.add i (Nat.mul (Nat.add k n) size)) e) .no (.th (.slice (some ⟨A,i,some e⟩) (k+n) size) (hset H A (.cells (jV cs (i+k*size) l) ty true e ver)))) .no) (pG (Nat.ble (Nat.mul (Nat.add k n) (Nat.succ bytes)) qA) .no (.th (.slice (some ⟨A,i,some (e+l.length)⟩) (k+n) size) (hset H A (.cells (a6f cs l) ty true lo (Bool.rec (motive:=λ_=>Nat) 2 ver (Nat.beq ty elem)))))))))| _=>.no
def c4B(P:Program)(elem size bytes:Nat)(s:Value)(H:Heap)(n:Nat)(l:List Value):Rs:=match s with| .slice none k c=>pG (Nat.beq k 0) .no (pG (Nat.beq c 0) .no (pG (Nat.ble (Nat.mul n (Nat.succ bytes)) qA) .no (pG (Nat.beq n 0) (.th (.slice (some ⟨H.length,0,some l.length⟩) n size) (tI H elem l)) (.ok (.slice none 0 0) H))))| .slice (some ⟨A,i,some e⟩) k _=>c6m (jM H A) elem size bytes A i e k n l P H| _=>.no
def c2Q(P:Program)(elem size bytes:Nat)(x y:LArg)(f:Fr)(H:Heap):Rs:=match a0Z H size (nW f y)with| some (n,l)=>c4B P elem size bytes (nW f x) H n l| none=>.no
def c3H(t:TypeId)(cs:List Value)(_:Fr)(H:Heap):Rs:=.th (.pointer (some ⟨H.length,0,some cs.length⟩)) (tI H t cs)
def evF(f:Fr):Operand->Value| .tmp t=>pH (lM t) f| .const v=>v| .global g=>.pointer (some ⟨g,0,none⟩)| .func k=>.func (.func k) #[] #[]
def c7O(P:Program)(o:Oper)(f:Fr)(H:Heap):Rs:=match c2l P o (evF f) H with| some (v,H1)=>.th v H1| none=>.no
def a4V{α:Type}(f:Fr)(l:List LArg):(List Value->α)->α:=List.rec (motive:=λ_=>(List Value->α)->α) (λK=>K []) (λx _ ih K=>pW (nW f x) λv=>ih λl=>K (v::l)) l
structure Calls' where
 fn:Pth→FuncId→List Value→Heap→Rs
 rd:Nat→List Value→Heap→Rs
def c2W(C:Calls')(k:FuncId)(p:Pth)(args:List LArg)(f:Fr)(H:Heap):Rs:=a4V f args λl=>C.fn p k l H
def b0X(C:Calls')(l:List Value)(H:Heap)(g:Value):Rs:=match g with| .func (.func k) ⟨a⟩ ⟨b⟩=>lC k λk=>mK (lM k) λp=>C.fn p k (a6f a (a6f l b)) H| .func (.yield L) _ _=>C.rd L l H| _=>.no
def c3v(C:Calls')(g:LArg)(args:List LArg)(f:Fr)(H:Heap):Rs:=a4V f args λl=>b0X C l H (nW f g)
def c7s(_:Fr)(_:Heap):Rs:=.no
def opF(P:Program)(C:Calls')(o:LOp):Fr->Heap->Rs:=LOp.rec (motive:=λ_=>Fr->Heap->Rs) c7s hMv b5W c3a c7z b3x b4f hSt hFa c2X c2C c3A hF1 hFn c3y b7U (c2Q P) c3H (c2W C) (c3v C) (c7O P) o
inductive Rf where| no| ok (f:Fr) (H:Heap)
def vK{α:Type}(d:Option Pth)(v:Value)(f:Fr)(K:Fr->α):α:=Option.rec (motive:=λ_=>α) (K f) (λp=>qT v p f K) d
def b1C{α:Type}(no:α)(d:Option Pth)(f:Fr)(K:Fr->Heap->α)(r:Rs):α:=Rs.rec (motive:=λ_=>α) no (λv H=>vK d v f λf=>K f H) (λv H=>a0e v λv=>pB H λH=>vK d v f λf=>K f H) r
def isB(v:Value)(w:Bool):Bool:=match v with| .bool b=>Bool.rec (motive:=λ_=>Bool) (Bool.rec (motive:=λ_=>Bool) true false w) w b| _=>false
def zS(P:Program)(C:Calls')(ops:LOps):Fr->Heap->Rf:=LOps.rec (motive:=λ_=>Fr->Heap->Rf) (λf H=>.ok f H) (λd o _ ih f H=>b1C .no d f ih (opF P C o f H)) (λp w d o _ ih f H=>pG (isB (pH p f) w) (vK d undef f λf=>ih f H) (b1C .no d f ih (opF P C o f H))) ops
inductive Rt where| no| ok (tr:List (Fr×Heap×Value)) (f:Fr) (H:Heap)
def b1y(tr:List (Fr×Heap×Value))(f0:Fr)(H0:Heap)(d:Option Pth)(K:List (Fr×Heap×Value)->Fr->Heap->Rt)(r:Rs):Rt:=Rs.rec (motive:=λ_=>Rt) .no (λv H=>vK d v f0 λf=>K ((f0,H0,v)::tr) f H) (λv H=>a0e v λv=>pB H λH=>vK d v f0 λf=>K ((f0,H0,v)::tr) f H) r
def tD(P:Program)(C:Calls')(ops:LOps):List (Fr×Heap×Value)->Fr->Heap->Rt:=LOps.rec (motive:=λ_=>List (Fr×Heap×Value)->Fr->Heap->Rt) (λtr f H=>.ok tr f H) (λd o _ ih tr f H=>b1y tr f H d ih (opF P C o f H)) (λp w d o _ ih tr f H=>pG (isB (pH p f) w) (vK d undef f λf1=>ih ((f,H,undef)::tr) f1 H) (b1y tr f H d ih (opF P C o f H))) ops
def b8N(v:Value)(r:Rs):Bool:=Rs.rec (motive:=λ_=>Bool) false (λw _=>veq w v) (λw _=>veq w v) r
def b6l(f:Fr)(g:Option (Pth×Bool)):Bool:=match g with| none=>true| some (p,w)=>isB (pH p f) w
def b6b(P:Program)(C:Calls')(tr:List (Fr×Heap×Value))(H1:Heap)(x:Nat×Option Nat×Option (Pth×Bool)×LOp):Bool:=match a1S tr x.1 with| some (f,_,v)=>pG (b6l f x.2.2.1) true (match x.2.1 with| none=>b8N v (opF P C x.2.2.2 f H1)| some m=>match a1S tr m with| some (_,H,_)=>b8N v (opF P C x.2.2.2 f H)| none=>false)| none=>false
def b5r{α:Type}(p:α->Bool)(l:List α):Bool:=List.rec (motive:=λ_=>Bool) true (λx _ ih=>pG (p x) false ih) l
inductive Rc where| no| ok (e:Ex) (f:Fr) (H:Heap)
def c6f(r:Rf):Rc:=Rf.rec (motive:=λ_=>Rc) .no (λf H=>.ok .normal f H) r
def c1J(P:Program)(C:Calls')(tab:List (Nat×Option Nat×Option (Pth×Bool)×LOp))(r:Rt):Rc:=Rt.rec (motive:=λ_=>Rc) .no (λtr f H=>pG (b5r (b6b P C tr H) tab) .no (.ok .normal f H)) r
def qD{α:Type}(no:α)(l:List Value):List Pth->Fr->(Fr->α)->α:=List.rec (motive:=λ_=>List Pth->Fr->(Fr->α)->α) (λ_ f K=>K f) (λv _ ih ps f K=>List.rec (motive:=λ_=>α) no (λp ps _=>qT v p f λf=>ih ps f K) ps) l
def a4O(H:Heap)(f:Fr)(r:LRes):Rs:=LRes.rec (motive:=λ_=>Rs) (λp=>pW (pH p f) λv=>.ok v H) (λp=>b3x (.t p) f H) (λn p=>b4f n (.t p) f H) r
def b7m(H:Heap)(f:Fr)(l:List LRes):(List Value->Rs)->Rs:=List.rec (motive:=λ_=>(List Value->Rs)->Rs) (λK=>K []) (λr _ ih K=>Rs.rec (motive:=λ_=>Rs) .no (λv _=>ih λl=>K (v::l)) (λ_ _=>.no) (a4O H f r)) l
def noT(v:Value):Bool:=match v with|.tuple _=>false|_=>true
def a6v(l:List LRes)(f:Fr)(H:Heap):Rs:=match l with| [r]=>a4O H f r| l=>b7m H f l λvs=>pG (b5r noT vs) .no (.ok (.tuple ⟨vs⟩) H)
def c3e(l:List LRes)(r:Rc):Rs:=match r with| .ok .normal f H=>a6v l f H| .ok .ret f H=>a6v l f H| _=>.no
abbrev rA:=List LEnv->LCode->Fr->Heap->Rc
def c3Q(P:Program)(k:FuncId)(args:List Value)(H:Heap):Rs:=match rI P k args H with| some (v,H1)=>.th v H1| none=>.no
def oA(T:LT)(ih:rA)(E:List LEnv)(p:Pth)(args:List Value)(H:Heap):Rs:=match a3c p T with| some g=>qD .no args g.ps .e λf=>c3e g.res (ih E g.body f H)| none=>.no
def b7x(P:Program)(T:LT)(ih:rA)(E:List LEnv)(p:Pth)(k:FuncId)(args:List Value)(H:Heap):Rs:=match a3c p T with| some g=>qD .no args g.ps .e λf=>c3e g.res (ih E g.body f H)| none=>c3Q P k args H
def b7R(E:List LEnv)(L:Nat):Option LEnv:=List.rec (motive:=λ_=>Option LEnv) none (λe _ ih=>pG (Nat.beq e.L L) ih (some e)) E
def c1P(e:Ex):Option Code:=match e with|.normal=>none|.ret=>some .ret|.exit id=>some (.exit id)
def a3A(L:Nat)(e:Ex)(H:Heap):Rs:=match jM H L with| some (.loop ⟨_,_,fn,tmps,ps,a,b,d⟩)=>(match c1P e with| none=>.th (.bool true) (hset H L (.loop ⟨.ready,none,fn,tmps,ps,a,b,d⟩))| some c=>.th (.bool false) (hset H L (.loop ⟨.done,some c,fn,tmps,ps,a,b,d⟩)))| _=>.no
def b2H(L:Nat)(r:Rc):Rs:=match r with| .ok e _ H=>a3A L e H| .no=>.no
def a1p(ih:rA)(E:List LEnv)(en:LEnv)(f:Fr)(H:Heap):Rs:=match jM H en.L with| some (.loop ⟨.ready,p,fn,tmps,ps,a,b,d⟩)=>pB (hset H en.L (.loop ⟨.busy,p,fn,tmps,ps,a,b,d⟩)) λH=>b2H en.L (ih E en.b f H)| _=>.no
def uP(ih:rA)(E:List LEnv)(en:LEnv)(r:Rc):Rs:=match r with| .ok .normal f H=>a1p ih E en f H| _=>.no
def a9f(ih:rA)(E:List LEnv)(L:Nat)(args:List Value)(H:Heap):Rs:=match b7R E L with| some en=>(match jM H L with| some (.loop ⟨.ready,_,_,⟨tmps⟩,ps,_,_,_⟩)=>pG (a4m args ps.size) .no (qD .no tmps en.ps .e λf=>qD .no args en.pp f λf=>uP ih E en (ih E en.a f H))| _=>.no)| none=>.no
def a1b(P:Program)(T:LT)(ih:rA)(E:List LEnv):Calls':=⟨b7x P T ih E,a9f ih E⟩
def c7f(_:Fr)(_:Heap):Rc:=.no
def c5w(f:Fr)(H:Heap):Rc:=.ok .normal f H
def c7B(P:Program)(T:LT)(ih:rA)(E:List LEnv)(ops:LOps)(f:Fr)(H:Heap):Rc:=c6f (zS P (a1b P T ih E) ops f H)
def c7m(P:Program)(T:LT)(ih:rA)(E:List LEnv)(ops:LOps)(tab:List (Nat×Option Nat×Option (Pth×Bool)×LOp))(f:Fr)(H:Heap):Rc:=c1J P (a1b P T ih E) tab (tD P (a1b P T ih E) ops [] f H)
def b9G(ih:rA)(E:List LEnv)(b:LCode)(r:Rc):Rc:=match r with| .ok .normal f H=>ih E b f H| r=>r
def c7M(ih:rA)(E:List LEnv)(a b:LCode)(_ _:Fr->Heap->Rc)(f:Fr)(H:Heap):Rc:=b9G ih E b (ih E a f H)
def b6Q(ih:rA)(E:List LEnv)(c:LArg)(x y:LCode)(_ _:Fr->Heap->Rc)(f:Fr)(H:Heap):Rc:=match nW f c with| .bool t=>ih E (Bool.rec (motive:=λ_=>LCode) y x t) f H| _=>.no
def c6N(id:Nat)(r:Rc):Rc:=match r with| .ok (.exit i) f H=>.ok (Bool.rec (motive:=λ_=>Ex) (.exit i) .normal (Nat.beq i id)) f H| r=>r
def c3c(ih:rA)(E:List LEnv)(id:Nat)(b:LCode)(_:Fr->Heap->Rc)(f:Fr)(H:Heap):Rc:=c6N id (ih E b f H)
def c4z(ih:rA)(E:List LEnv)(b:LCode)(_:Fr->Heap->Rc)(f:Fr)(H:Heap):Rc:=b9G ih E (.loop b) (ih E b f H)
def c5Z(id:Nat)(f:Fr)(H:Heap):Rc:=.ok (.exit id) f H
def c8x(f:Fr)(H:Heap):Rc:=.ok .ret f H
def frL{α:Type}(f:Fr)(ps:List Pth):(List Value->α)->α:=List.rec (motive:=λ_=>(List Value->α)->α) (λK=>K []) (λp _ ih K=>pW (pH p f) λv=>ih λl=>K (v::l)) ps
def wJ(L:Nat)(f:Fr)(H:Heap):Rc:=match jM H L with| some (.loop ⟨.ready,none,fn,tmps,ps,a,b,d⟩)=>pB (hset H L (.loop ⟨.exhausted,none,fn,tmps,ps,a,b,d⟩)) λH=>.ok .normal f H| some (.loop ⟨.done,none,fn,tmps,ps,a,b,d⟩)=>pB (hset H L (.loop ⟨.exhausted,none,fn,tmps,ps,a,b,d⟩)) λH=>.ok .normal f H| some (.loop ⟨.done,some .ret,fn,tmps,ps,a,b,d⟩)=>pB (hset H L (.loop ⟨.exhausted,some .ret,fn,tmps,ps,a,b,d⟩)) λH=>.ok .ret f H| some (.loop ⟨.done,some (.exit id),fn,tmps,ps,a,b,d⟩)=>pB (hset H L (.loop ⟨.exhausted,some (.exit id),fn,tmps,ps,a,b,d⟩)) λH=>.ok (.exit id) f H| _=>.no
def b4c(L:Nat)(f:Fr)(r:Rs):Rc:=match r with| .no=>.no| .ok _ H=>wJ L f H| .th _ H=>pB H λH=>wJ L f H
def b1s(T:LT)(ih:rA)(E:List LEnv)(f:Fr)(L:Nat)(k:FuncId)(args:List Value)(H:Heap):Rc:=mK (lM k) λp=>b4c L f (oA T ih E p args H)
def b0C(T:LT)(ih:rA)(E:List LEnv)(g:LArg)(ps pp:List Pth)(params:Array Tmp)(assign body:Code)(a b:LCode)(_ _:Fr->Heap->Rc)(f:Fr)(H:Heap):Rc:=match nW f g with| .func (.func k) ⟨x⟩ ⟨y⟩=>lC H.length λL=>frL f ps λl=>pB (H.cons (.loop ⟨.ready,none,0,⟨l⟩,params,assign,body,0⟩)) λH1=>lC k λk=>b1s T ih (⟨L,ps,pp,a,b⟩::E) f L k (a6f x (.func (.yield L) #[] #[]::y)) H1| _=>.no
def b1O(P:Program)(T:LT)(ih:rA)(E:List LEnv)(c:LCode):Fr->Heap->Rc:=LCode.rec (motive:=λ_=>Fr->Heap->Rc) c7f c5w (c7B P T ih E) (c7m P T ih E) (c7M ih E) (b6Q ih E) (c3c ih E) (c4z ih E) c5Z c8x (b0C T ih E) c
def exF(P:Program)(T:LT)(n:Nat):rA:=Nat.rec (motive:=λ_=>rA) (λ_ _ _ _=>.no) (λ_ ih=>b1O P T ih) n
section
variable {α:Type}
def mT(x:Operand)(K:LArg->α):α:=match x with| .tmp t=>mK (lM t) λp=>K (.t p)| .const v=>K (.c v)| .global g=>K (.c (.pointer (some ⟨g,0,none⟩)))| .func k=>K (.c (.func (.func k) #[] #[]))
def a5I(l:List Operand):(List LArg->α)->α:=List.rec (motive:=λ_=>(List LArg->α)->α) (λK=>K []) (λx _ ih K=>mT x λx=>ih λl=>K (x::l)) l
def a3W(o:Option Nat)(d:α)(K:Nat->α):α:=match o with| some n=>lC n K| none=>d
def c7q(k:IntKind)(a b:Int):Option Value:=some (.int k (xR k (c0T a b)))
def c8t(k:IntKind)(a b:Int):Option Value:=some (.int k (xR k (b9M a b)))
def c5P(a b:Int):Int:=match a,b with| .ofNat a,.ofNat b=>.ofNat (Nat.mul a b)| a,b=>a*b
def c6H(k:IntKind)(a b:Int):Option Value:=some (.int k (xR k (c5P a b)))
def c6n(a b:Int):Int:=match a,b with| .ofNat a,.ofNat b=>.ofNat (Nat.div a b)| a,b=>a.tdiv b
def c4Y(a b:Int):Int:=match a,b with| .ofNat a,.ofNat b=>.ofNat (Nat.mod a b)| a,b=>a.tmod b
def c1j(k:IntKind)(a b:Int):Option Value:=match eqI b 0 with|true=>none|false=>some (.int k (xR k (c6n a b)))
def c0u(k:IntKind)(a b:Int):Option Value:=match eqI b 0 with|true=>none|false=>some (.int k (c4Y a b))
def c7t(_:IntKind)(a b:Int):Option Value:=some (.bool (eqI a b))
def c8v(_:IntKind)(a b:Int):Option Value:=some (.bool (!eqI a b))
def c8i(_:IntKind)(a b:Int):Option Value:=some (.bool (ltI a b))
def c8b(_:IntKind)(a b:Int):Option Value:=some (.bool (!ltI b a))
def c7p(_:IntKind)(a b:Int):Option Value:=some (.bool (ltI b a))
def c7A(_:IntKind)(a b:Int):Option Value:=some (.bool (!ltI a b))
def c1v(op:BinOp):Option (IntKind->Int->Int->Option Value):=match op with| .add=>some c7q| .sub=>some c8t| .mul=>some c6H| .quo=>some c1j| .rem=>some c0u| .eql=>some c7t| .neq=>some c8v| .lss=>some c8i| .leq=>some c8b| .gtr=>some c7p| .geq=>some c7A| _=>none
def c3u(d:Option TypeDesc):Bool:=match d with|some (.int _)=>true|_=>false
def c8D(P:Program)(s:TypeId)(f:Nat)(d:α)(K1:Nat->α)(Kn:Nat->Nat->α):α:=match pV P s f with| some fd=>lC fd.offset (λoff=>match kP P fd.type with| some true=>a3W (jF P fd.type) d λn=>Kn off n| some false=>K1 off| none=>d)| none=>d
def b8b(P:Program)(o:Oper)(c:Call)(K:LOp->α):α:=match c.callee with| .value (.func k)=>mK (lM k) λp=>a5I c.args.toList λl=>K (.callF k p l)| .value g=>mT g λg=>a5I c.args.toList λl=>K (.callV g l)| .builtin .len=>pG (c.args.size==1&&c.argTypes.size==1) (K (.gen o)) (match P.underlying (c.argTypes.getD 0 0)with| some (.slice _)=>mT (c.args.getD 0 (.tmp 0)) λx=>K (.len x)| some .string=>mT (c.args.getD 0 (.tmp 0)) λx=>K (.slen x)| _=>K (.gen o))| .builtin .append=>pG (c.args.size==2&&c.argTypes.size==2&&((P.underlying (c.argTypes.getD 1 0)).map qY)==some true) (K (.gen o)) (match jI P (c.argTypes.getD 0 0)with| some elem=>a3W (jF P elem) (K (.gen o)) (λsize=>a3W (oY P elem) (K (.gen o)) λbytes=>match jW P elem with| some z=>pG (z.cells.size==size&&size !=0) (K (.gen o)) (lC elem λelem=>mT (c.args.getD 0 (.tmp 0)) λx=>mT (c.args.getD 1 (.tmp 0)) λy=>K (.app elem size bytes x y))| none=>K (.gen o))| none=>K (.gen o))| _=>K (.gen o)
def c4Z(P:Program)(o:Oper)(K:LOp->α):α:=match o.op with| .move x=>mT x λx=>K (.mv x)| .assign x=>mT x λx=>K (.mv x)| .pick c a b=>mT c λc=>mT a λa=>mT b λb=>K (.pick c a b)| .binOp op t x y _=>pG (c3u (P.underlying t)) (K (.gen o)) (match c1v op with| some g=>mT x λx=>mT y λy=>K (.bin g x y)| none=>K (.gen o))| .load t x=>(match kP P t with| some true=>a3W (jF P t) (K (.gen o)) λn=>mT x λx=>K (.ldn n x)| some false=>mT x λx=>K (.ld1 x)| none=>K (.gen o))| .store t x y=>a3W (jF P t) (K (.gen o)) λn=>mT x λx=>mT y λy=>K (.st n x y)| .fieldAddr s x f=>(match pV P s f with| some fd=>(match jF P fd.type with| some 0=>K (.gen o)| some _=>lC fd.offset λoff=>mT x λx=>K (.fa off x)| none=>K (.gen o))| none=>K (.gen o))| .indexAddr t x i=>(match P.underlying t with| some (.slice elem)=>a3W (jF P elem) (K (.gen o)) λsize=>mT x λx=>mT i λi=>K (.ixs size x i)| some (.array n elem)=>a3W (jF P elem) (K (.gen o)) λsize=>mT x λx=>mT i λi=>K (.ixa n size x i)| _=>K (.gen o))| .extract t i=>lC i λi=>mT t λt=>K (.ext i t)| .call c=>b8b P o c K| _=>K (.gen o)
def zD(P:Program)(o:Oper)(K:LOp->α):α:=pG (o.op.operands.toList.all jP) (K .bad) (c4Z P o K)
def a8K(k:Nat)(d:Option Tmp)(no:α)(K:Option Pth->α):α:=match d with| none=>K none| some t=>pG (Nat.blt t k) no (mK (lM t) λp=>K (some p))
def vV(P:Program)(k:Nat)(ops:Array Oper)(l:List Oper):(LOps->α)->α->α:=List.rec (motive:=λ_=>(LOps->α)->α->α) (λK _=>K .nil) (λo _ ih K no=>a8K k o.dst no λd=>zD P o λo'=>match o.guard with| none=>ih (λr=>K (.cons d o' r)) no| some (j,w)=>match (ops[j]?).bind (·.dst)with| some t=>pG (Nat.blt t k) no (mK (lM t) λp=>a0O w λw=>ih (λr=>K (.gcons p w d o' r)) no)| none=>no) l
def loG(k:Nat)(ops:Array Oper)(g:Option (Nat×Bool))(no:α)(K:Option (Pth×Bool)->α):α:=match g with| none=>K none| some (j,w)=>match (ops[j]?).bind (·.dst)with| some t=>pG (Nat.blt t k) no (mK (lM t) λp=>a0O w λw=>K (some (p,w)))| none=>no
def vE(P:Program)(k:Nat)(ops:Array Oper)(N:Nat)(tab:List (Nat×Nat)):(List (Nat×Option Nat×Option (Pth×Bool)×LOp)->α)->α->α:=List.rec (motive:=λ_=>(List (Nat×Option Nat×Option (Pth×Bool)×LOp)->α)->α->α) (λK _=>K []) (λx _ ih K no=>match ops[x.1]? with| some o=>loG k ops o.guard no λg=>zD P o λo'=>lC (N-1-x.1) λi=>pG (Nat.blt x.2 N) (ih (λl=>K ((i,none,g,o')::l)) no) (lC (N-1-x.2) λm=>ih (λl=>K ((i,some m,g,o')::l)) no)| none=>no) tab
def b6O(k:Nat):(List Pth->α)->α:=Nat.rec (motive:=λ_=>(List Pth->α)->α) (λK=>K []) (λn ih K=>mK (lM n) λp=>ih λl=>K (p::l)) k
def c3q{β:Type}(l:List β):List β->(List β->α)->α:=List.rec (motive:=λ_=>List β->(List β->α)->α) (λa K=>K a) (λx _ ih a K=>ih (x::a) K) l
def b2T(k:Nat)(K:List Pth->α):α:=b6O k λl=>c3q l [] K
def xX(k:Nat)(l:List Tmp):(List Pth->α)->α->α:=List.rec (motive:=λ_=>(List Pth->α)->α->α) (λK _=>K []) (λt _ ih K no=>pG (Nat.blt t k) no (mK (lM t) λp=>ih (λl=>K (p::l)) no)) l
def oJ(P:Program)(k:Nat)(c:Code):(LCode->α)->α:=Code.rec (motive:=λ_=>(LCode->α)->α) (λK=>K .skip) (λ_ ops d K=>Bool.rec (motive:=λ_=>α) (vV P k ops ops.toList (λl=>K (.reg l)) (K .bad)) (match oH P ops with| some []=>vV P k ops ops.toList (λl=>K (.reg l)) (K .bad)| some tab=>vV P k ops ops.toList (λl=>vE P k ops ops.size tab (λt=>K (.drw l t)) (K .bad)) (K .bad)| none=>K .bad) d) (λ_ _ iha ihb K=>iha λa=>ihb λb=>K (.seq a b)) (λc _ _ ihx ihy K=>pG (jP c) (K .bad) (mT c λc=>ihx λx=>ihy λy=>K (.cond c x y))) (λid _ ih K=>lC id λid=>ih λb=>K (.block id b)) (λ_ ih K=>ih λb=>K (.loop b)) (λg ps assign body iha ihb K=>pG (jP g) (K .bad) (mT g λg'=>b2T k λpp=>xX k ps.toList (λq=>iha λa=>ihb λb=>K (.range g' pp q ps assign body a b)) (K .bad))) (λid K=>lC id λid=>K (.exit id)) (λ_ _ K=>K .bad) (λ_ K=>K .skip) (λ_ K=>K .bad) (λK=>K .ret) (λ_ K=>K .bad) c
def a1H(P:Program)(l:List ResultVar):(List LRes->α)->α->α:=List.rec (motive:=λ_=>(List LRes->α)->α->α) (λK _=>K []) (λr _ ih K no=>match r with| .tmp t=>mK (lM t) λp=>ih (λl=>K (.t p::l)) no| .cell a t=>match kP P t with| some true=>a3W (jF P t) no λn=>mK (lM a) λp=>ih (λl=>K (.cn n p::l)) no| some false=>mK (lM a) λp=>ih (λl=>K (.c1 p::l)) no| none=>no) l
def a3a(P:Program)(f:FuncId)(no:α)(K:LFunc->α):α:=match P.funcs[f]? with| some fn=>(match fn.body with| some c=>pG (fn.name== "runtime.NumGoroutine") (a1H P fn.results.toList (λres=>b2T fn.ntmps λps=>oJ P fn.ntmps c λb=>K ⟨ps,b,res⟩) no) no| none=>no)| none=>no
def vB(P:Program)(fs:List FuncId):LT->(LT->α)->α:=List.rec (motive:=λ_=>LT->(LT->α)->α) (λT K=>K T) (λf _ ih T K=>a3a P f (ih T K) λg=>mK (lM f) λp=>tT g p T λT=>ih T K) fs
end
end
end Go.Ds
namespace Go.Ds
section
variable {α:Type}
theorem wS(f k:Nat):a6j (f+1) (k+1)=if k%2=0 then .l (a6j f (k/2))else .r (a6j f (k/2)):=by show Bool.rec (motive:=λ_=>Pth) (.r (a6j f (k/2))) (.l (a6j f (k/2))) (Nat.beq (k%2) 0)=_;by_cases h:k%2=0;(·rw[if_pos h,h];rfl);·rw[if_neg h];have:Nat.beq (k%2) 0=false:=iq.2 λe=>h (eQ e);rw[this]
theorem a4G(f:Nat):a6j f 0=.z:=by cases f<;>rfl
theorem a3p:∀(f g a b:Nat),a<=f->b<=g->a6j f a=a6j g b->a=b| _,_,0,0,_,_,_=>rfl| 0,_,a+1,_,h,_,_=>by omega| _,0,_,b+1,_,h,_=>by omega| f,g+1,0,b+1,_,_,h=>by rw[a4G,wS]at h;split at h<;>cases h| f+1,g,a+1,0,_,_,h=>by rw[a4G,wS]at h;split at h<;>cases h| f+1,g+1,a+1,b+1,ha,hb,h=>by rw[wS,wS]at h;by_cases h1:a%2=0;(·rw[if_pos h1]at h;by_cases h2:b%2=0;(·rw[if_pos h2]at h;injection h with h;have:=a3p f g (a/2) (b/2) (by omega) (by omega) h;omega);·rw[if_neg h2]at h;cases h);·rw[if_neg h1]at h;by_cases h2:b%2=0;(·rw[if_pos h2]at h;cases h);·rw[if_neg h2]at h;injection h with h;have:=a3p f g (a/2) (b/2) (by omega) (by omega) h;omega
theorem b1U{a b:Nat}(h:lM a=lM b):a=b:=a3p _ _ _ _ (dP _) (dP _) h
theorem mI(p:Pth)(K:Pth->α):mK p K=K p:=by induction p generalizing K with| z=>rfl| l p ih=>exact ih _| r p ih=>exact ih _
theorem oB(v:Value)(K:Value->α):pW v K=K v:=by cases v<;>rfl
theorem uW(v:Value)(p:Pth)(f:Fr)(K:Fr->α):qT v p f K=K (qT v p f λf=>f):=by induction p generalizing f α with| z=>cases f<;>rfl| l p ih=>(cases f with| e=>show qT v p .e (λl=>K (.n undef l .e))=K (qT v p .e λl=>.n undef l .e);rw[ih,ih (K:=λl=>Fr.n undef l .e)]| n w l r=>show qT v p l (λl=>K (.n w l r))=K (qT v p l λl=>.n w l r);rw[ih,ih (K:=λl=>Fr.n w l r)])| r p ih=>cases f with| e=>show qT v p .e (λl=>K (.n undef .e l))=K (qT v p .e λl=>.n undef .e l);rw[ih,ih (K:=λl=>Fr.n undef .e l)]| n w l r=>show qT v p r (λr=>K (.n w l r))=K (qT v p r λr=>.n w l r);rw[ih,ih (K:=λr=>Fr.n w l r)]
theorem vS(p:Pth):pH p .e=undef:=by cases p<;>rfl
theorem b4m(v:Value)(p q:Pth)(f:Fr):(q=p->pH q (qT v p f λf=>f)=v)∧(q≠p->pH q (qT v p f λf=>f)=pH q f):=by
 induction p generalizing f q with| z=>refine⟨λh=> ?_,λh=> ?_⟩;(·subst h;cases f<;>rfl);(·cases q with| z=>exact absurd rfl h| l q=>(cases f with| e=>show pH q .e=undef;exact vS q| n=>rfl)| r q=>cases f with| e=>show pH q .e=undef;exact vS q| n=>rfl)| l p ih=>(have h1:∀f,qT v (.l p) f (λf=>f)=match f with|.e=>.n undef (qT v p .e λf=>f) .e|.n w l r=>.n w (qT v p l λf=>f) r:=λf=>by cases f with| e=>exact uW v p .e λl=>Fr.n undef l .e| n w l r=>exact uW v p l λl=>Fr.n w l r);rw[h1];(cases q with| z=>exact⟨λh=>(nomatch h),λ_=>by cases f<;>rfl⟩| r q=>refine⟨λh=>(nomatch h),λ_=> ?_⟩;(cases f with| e=>show pH q .e=undef;exact vS q| n=>rfl)| l q=>refine⟨λh=> ?_,λh=> ?_⟩;(·injection h with h;cases f with| e=>exact(ih q .e).1 h| n w l r=>exact(ih q l).1 h);·have h:q≠p:=λe=>h (by rw[e]);cases f with| e=>show pH q (qT v p .e λf=>f)=undef;rw[(ih q .e).2 h,vS]| n w l r=>exact(ih q l).2 h)| r p ih=>(have h1:∀f,qT v (.r p) f (λf=>f)=match f with|.e=>.n undef .e (qT v p .e λf=>f)|.n w l r=>.n w l (qT v p r λf=>f):=λf=>by cases f with| e=>exact uW v p .e λl=>Fr.n undef .e l| n w l r=>exact uW v p r λr=>Fr.n w l r);rw[h1];cases q with| z=>exact⟨λh=>(nomatch h),λ_=>by cases f<;>rfl⟩| l q=>refine⟨λh=>(nomatch h),λ_=> ?_⟩;(cases f with| e=>show pH q .e=undef;exact vS q| n=>rfl)| r q=>refine⟨λh=> ?_,λh=> ?_⟩;(·injection h with h;cases f with| e=>exact(ih q .e).1 h| n w l r=>exact(ih q r).1 h);·have h:q≠p:=λe=>h (by rw[e]);cases f with| e=>show pH q (qT v p .e λf=>f)=undef;rw[(ih q .e).2 h,vS]| n w l r=>exact(ih q r).2 h
def FAg(f:Fr)(l:List Value):Prop:=∀t,pH (lM t) f=get l t
def FRel(k:Nat)(f:Fr)(l:List Value):Prop:=l.length=k∧FAg f l
noncomputable def b6M (f:Fr) (t:Tmp) (v:Value):Fr:=qT v (lM t) f λf=>f
theorem a4C(f:Fr)(t u:Tmp)(v:Value):pH (lM u) (b6M f t v)=if u=t then v else pH (lM u) f:=by have h:=b4m v (lM t) (lM u) f;by_cases he:u=t;(·rw[if_pos he];exact h.1 (by rw[he]));·rw[if_neg he];exact h.2 (λe=>he (b1U e))
theorem FRel.put{k:Nat}{f:Fr}{l:List Value}(h:FRel k f l){t:Tmp}(ht:t<k)(v:Value):FRel k (b6M f t v) (Go.Ds.put l (some t) v):=by refine⟨by simp[Go.Ds.put,pX,h.1],λu=> ?_⟩;rw[a4C,oU];by_cases he:u=t;(·subst he;rw[if_pos rfl,if_pos ⟨rfl,by rw[h.1];exact ht⟩]);·rw[if_neg he,if_neg (λhh=>he (dK hh.1).symm)];exact h.2 u
theorem FRel.set{k:Nat}{f:Fr}{l:List Value}(h:FRel k f l){t:Tmp}(ht:t<k)(v:Value):FRel k (b6M f t v) (l.set t v):=by have:=h.put ht v;simpa [Go.Ds.put,pX]using this
def Rs.Is(r:Rs)(v:Value)(H:Heap):Prop:=r=.ok v H∨r=.th v H
theorem Rs.aw{v:Value}{H:Heap}:¬Rs.no.Is v H:=by rintro(h|h)<;>cases h
theorem Rs.aO{v w:Value}{H H1:Heap}(h:(Rs.ok v H).Is w H1):w=v∧H1=H:=by rcases h with h|h;(·injection h with a b;exact⟨a.symm,b.symm⟩);·cases h
theorem Rs.aQ{v w:Value}{H H1:Heap}(h:(Rs.th v H).Is w H1):w=v∧H1=H:=by rcases h with h|h;(·cases h);·injection h with a b;exact⟨a.symm,b.symm⟩
theorem lK(b:Bool)(no x:α):pG b no x=if b=true then x else no:=by cases b<;>rfl
theorem mA{b:Bool}{x:Rs}{v:Value}{H:Heap}(h:(pG b Rs.no x).Is v H):b=true∧x.Is v H:=by cases b with| false=>exact absurd h Rs.aw| true=>exact⟨rfl,h⟩
theorem a0l{β:Type}:∀(cs:List β)(e:Nat),a7L cs e=decide (e<=cs.length)| [],0=>rfl| [],e+1=>by simp;rfl| _::_,0=>rfl| _::cs,e+1=>by show a7L cs e=_;rw[a0l cs e];simp
theorem a0i{β:Type}:∀(cs:List β)(e:Nat),a4m cs e=decide (e=cs.length)| [],0=>rfl| [],e+1=>by simp;rfl| _::_,0=>by simp;rfl| _::cs,e+1=>by show a4m cs e=_;rw[a0i cs e];simp
theorem zQ{β:Type}:∀(cs:List β)(e:Nat),a1S cs e=cs[e]?| [],_=>rfl| _::_,0=>rfl| _::cs,e+1=>by show a1S cs e=_;rw[zQ cs e];simp
theorem a7i{β:Type}:∀(cs:List β)(e:Nat),b1q cs e=cs.drop e| [],e=>by cases e<;>rfl| _::_,0=>rfl| _::cs,e+1=>by show b1q cs e=_;rw[a7i cs e];rfl
theorem a6T{β:Type}:∀{cs:List β}{n:Nat}{K:List β->Rs}{v:Value}{H:Heap},(a2Y cs n K).Is v H->n<=cs.length∧(K (cs.take n)).Is v H| [],0,K,v,H,h=>⟨dP _,h⟩| [],n+1,K,v,H,h=>absurd h Rs.aw| _::_,0,K,v,H,h=>⟨fJ _,h⟩| c::cs,n+1,K,v,H,h=>by have h':(a2Y cs n λl=>K (c::l)).Is v H:=h;obtain⟨h1,h2⟩:=a6T h';exact⟨by simp;omega,h2⟩
theorem c0J{a b:IntKind}(h:Nat.beq (kIx a) (kIx b)=true):a=b:=by cases a<;>cases b<;>first|rfl|(exact absurd h (by decide))
theorem b7f(k:Nat)(K:List Pth->α):b6O k K=K ((List.range k).map lM).reverse:=by induction k generalizing K with| zero=>rfl| succ n ih=>show mK (lM n) (λp=>b6O n λl=>K (p::l))=_;rw[mI,ih,fL];simp
theorem b9d{β:Type}(l:List β):∀(a:List β)(K:List β->α),c3q l a K=K (l.reverse++a):=by induction l with| nil=>intro a K;rfl| cons x l ih=>intro a K;show c3q l (x::a) K=_;rw[ih];simp
theorem b1B(k:Nat)(K:List Pth->α):b2T k K=K ((List.range k).map lM):=by unfold b2T;rw[b7f,b9d];simp
theorem qF(n:Nat)(d:α)(K:Nat->α):a3W (some n) d K=K n:=kY n K
def LK(H H':Heap):Prop:=H.length<=H'.length∧∀A r',A<H.length->jM H' A=some (.loop r')-> ∃r,jM H A=some (.loop r)∧r'.assign=r.assign∧r'.body=r.body∧r'.params=r.params∧r'.tmps=r.tmps
theorem LK.refl(H:Heap):LK H H:=⟨dP _,λ_ r _ h=>⟨r,h,rfl,rfl,rfl,rfl⟩⟩
theorem LK.trans{H H1 H2:Heap}(h:LK H H1)(k:LK H1 H2):LK H H2:=⟨ek h.1 k.1,λA r' hA hr=>by obtain⟨r1,h1,a1,b1,c1,d1⟩:=k.2 A r' (ez hA h.1) hr;obtain⟨r,h2,a2,b2,c2,d2⟩:=h.2 A r1 hA h1;exact⟨r,h2,a1.trans a2,b1.trans b2,c1.trans c2,d1.trans d2⟩⟩
def Blk.cN:Blk->Bool| .loop _=>true| _=>false
theorem LK.hset(H:Heap)(A:Nat){b:Blk}(hb:b.cN=false):LK H (hset H A b):=by refine⟨by rw[kF];exact dP _,λB r' hB h=> ?_⟩;by_cases he:A=B;(·subst he;rw[jL _ hB]at h;injection h with h;subst h;cases hb);·rw[kA _ he]at h;exact⟨r',h,rfl,rfl,rfl,rfl⟩
theorem LK.cons(H:Heap)(b:Blk):LK H (H.cons b):=by refine⟨by rw[length_cons];omega,λB r' hB h=> ?_⟩;rw[kG b hB]at h;exact⟨r',h,rfl,rfl,rfl,rfl⟩
theorem LK.row(H:Heap)(ty:TypeId)(cs:List Value):LK H (tI H ty cs):=by rw[mF];exact .cons _ _
theorem LK.loop{H:Heap}{L:Nat}{r r':Loop}(h:jM H L=some (.loop r))(e:r'.assign=r.assign∧r'.body=r.body∧r'.params=r.params∧r'.tmps=r.tmps):LK H (Go.Ds.hset H L (.loop r')):=by refine⟨by rw[kF];exact dP _,λB r2 hB hg=> ?_⟩;by_cases he:L=B;(·subst he;rw[jL _ hB]at hg;injection hg with hg;injection hg with hg;subst hg;exact⟨r,h,e⟩);·rw[kA _ he]at hg;exact⟨r2,hg,rfl,rfl,rfl,rfl⟩
variable {P:Program}
theorem a8G{H H':Heap}{t:TypeId}{p v:Value}(h:qV P H t p v=some H'):LK H H':=by unfold qV at h;split at h;(·split at h;(·dsimp only at h;split at h;(·injection h with h;subst h;exact .hset _ _ rfl);·cases h);·cases h);·cases h
theorem a4S{H H':Heap}{t:TypeId}{v r:Value}(h:yI P H t v=some (r,H')):LK H H':=by unfold yI at h;dsimp only at h;split at h;(·injection h with h;injection h with _ h;subst h;exact .row _ _ _);·cases h
theorem a5x{H H':Heap}{t:TypeId}{s x r:Value}(h:oW P H t s x=some (r,H')):LK H H':=by unfold oW at h;simp only[dM]at h;obtain⟨elem,_,size,_,bytes,_,z,_,⟨n,l⟩,_,h⟩:=h;(try dsimp only at h);split at h;(·split at h;(·split at h;(·injection h with h;injection h with _ h;subst h;exact .refl _);·injection h with h;injection h with _ h;subst h;exact .row _ _ _);·cases h);(·split at h;(·split at h;(·injection h with h;injection h with _ h;subst h;exact .hset _ _ rfl);·split at h;(·injection h with h;injection h with _ h;subst h;exact .hset _ _ rfl);·cases h);·cases h);·cases h
theorem a7s{H H':Heap}{t:TypeId}{v r:Value}(h:qU P H t v=some (r,H')):LK H H':=by unfold qU at h;split at h;(·dsimp only at h;rename_i n elem _;(have key:∀(b:Bool),(if b=true then some (Value.pointer (some ⟨H.length,0,some v.cells.toList.length⟩),b8G H elem v.cells.toList)else none)=some (r,H')->LK H H':=by intro b h;cases b;(·cases h);·injection h with h;injection h with _ h;subst h;rw[zI];exact .cons _ _);exact key _ h);·exact a4S h
theorem a5v{H H':Heap}{t:TypeId}{x y r:Value}(h:wY P H t x y=some (r,H')):LK H H':=by unfold wY at h;split at h;(·split at h;(·split at h;(·simp only[dS]at h;obtain⟨_,_,h⟩:=h;injection h with _ h;subst h;exact .hset _ _ rfl);·cases h);·cases h);·cases h
theorem a6n{H H':Heap}{k:FuncId}{args:List Value}{r:Value}(h:rI P k args H=some (r,H')):LK H H':=by unfold rI at h;simp only[dM]at h;obtain⟨fn,_,h⟩:=h;split at h;(case isFalse=>cases h);split at h;(·split at h;(·injection h with h;injection h with _ h;subst h;exact .refl _);·cases h);split at h;(·split at h;(·split at h;(·simp only[dM]at h;obtain⟨_,_,h⟩:=h;split at h;(·injection h with h;injection h with _ h;subst h;exact .row _ _ _);·cases h);·cases h);·cases h);split at h;(·split at h;(·split at h;(·split at h;(·injection h with h;injection h with _ h;subst h;exact .refl _);·cases h);·cases h);·cases h);·cases h
theorem a9W{H H':Heap}{t:TypeId}{s x r:Value}(h:a1A P H t s x=some (r,H')):LK H H':=by unfold a1A at h;simp only[dM]at h;obtain⟨elem,_,size,_,m,_,h⟩:=h;(try dsimp only at h);split at h;(·split at h;(·injection h with h;injection h with _ h;subst h;exact .refl _);·cases h);(·split at h;(·injection h with h;injection h with _ h;subst h;exact .refl _);·simp only[dM]at h;obtain⟨l,_,h⟩:=h;split at h;(·split at h;(·injection h with h;injection h with _ h;subst h;exact .hset _ _ rfl);·cases h);·cases h);·cases h
theorem a7W{H H':Heap}{t:TypeId}{x r:Value}(h:uG P H t x=some (r,H')):LK H H':=by unfold uG at h;simp only[dM]at h;obtain⟨elem,_,z,_,h⟩:=h;split at h;(·injection h with h;injection h with _ h;subst h;exact .refl _);(·split at h;(·injection h with h;injection h with _ h;subst h;exact .refl _);·(try dsimp only at h);split at h;(·split at h;(·injection h with h;injection h with _ h;subst h;exact .hset _ _ rfl);·cases h);·cases h);·cases h
theorem b4d{H H':Heap}{t:TypeId}{m k v:Value}(h:a1P P H t m k v=some H'):LK H H':=by unfold a1P at h;simp only[dM]at h;obtain⟨⟨kt,et⟩,_,h⟩:=h;dsimp only at h;split at h;(·split at h;(·split at h;(·simp only[dM]at h;obtain⟨r,_,h⟩:=h;split at h;(·simp only[dM]at h;obtain⟨e,_,h⟩:=h;split at h;(·injection h with h;subst h;exact .hset _ _ rfl);·cases h);·injection h with h;subst h;exact .hset _ _ rfl);·cases h);·cases h);·cases h
theorem a7u{H H':Heap}{t:TypeId}{m k r:Value}(h:sF P H t m k=some (r,H')):LK H H':=by unfold sF at h;simp only[dM]at h;obtain⟨⟨kt,et⟩,_,h⟩:=h;dsimp only at h;split at h;(·split at h;(·split at h;(·simp only[dM]at h;obtain⟨r,_,h⟩:=h;split at h;(·simp only[dM]at h;obtain⟨e,_,h⟩:=h;split at h;(·injection h with h;injection h with _ h;subst h;exact .hset _ _ rfl);·cases h);·simp only[dM]at h;obtain⟨z,_,h⟩:=h;split at h;(·injection h with h;injection h with _ h;subst h;exact .hset _ _ rfl);·cases h);·cases h);·cases h);·cases h
theorem a7y{H H':Heap}{m b v:Value}(h:rX H m b v=some H'):LK H H':=by unfold rX at h;split at h;(·split at h;(·split at h;(·simp only[dM]at h;obtain⟨e,_,h⟩:=h;injection h with h;subst h;exact .hset _ _ rfl);·cases h);·cases h);·cases h
theorem a3R{H H':Heap}{t:TypeId}{o:Option Value}{r:Value}(h:qS P H t o=some (r,H')):LK H H':=by unfold qS at h;simp only[dM]at h;obtain⟨_,_,h⟩:=h;split at h;(·injection h with h;injection h with _ h;subst h;exact .cons _ _);(·injection h with h;injection h with _ h;subst h;exact .cons _ _);·cases h
theorem a7S{H H':Heap}{o:Oper}{l:List Value}{r:Value}(h:lE P o l H=some (r,H')):H'=H:=by unfold lE at h;split at h;(·split at h;(·split at h;(·injection h with h;injection h with _ h;exact h.symm);·cases h);·cases h);·cases h
theorem wM{H H':Heap}{v r:Value}(h:some (v,H)=some (r,H')):LK H H':=by injection h with h;injection h with _ h;subst h;exact .refl _
theorem vL{H H':Heap}{v:Option Value}{r:Value}(h:v.map (λv=>(v,H))=some (r,H')):LK H H':=by cases v with| none=>cases h| some v=>exact wM h
set_option maxHeartbeats 1000000 in
theorem b8D{H H':Heap}{o:Oper}{l:List Value}{r:Value}(h:opD P o l H=some (r,H')):LK H H':=by
 obtain⟨dst,op,type,pos,after,guard⟩:=o;have pl:∀{o:Oper},lE P o l H=some (r,H')→LK H H':=fun h=>by rw[a7S h];exact .refl _
 cases op with
 | alloc t=>
   simp only[opD,dM]at h;obtain⟨z,_,h⟩:=h;split at h
   ·exact a7s h
   ·cases h
 | box t x=>simp only[opD]at h;exact a4S h
 | store t x y=>
   simp only[opD,dS]at h;obtain⟨H1,h,e⟩:=h;injection e with _ e;subst e
   exact a8G h
 | mapUpdate t m x y=>
   simp only[opD,dS]at h;obtain⟨H1,h,e⟩:=h;injection e with _ e;subst e
   exact b4d h
 | mapEntry t m x=>simp only[opD]at h;exact a7u h
 | entryStore t m x y=>
   simp only[opD,dS]at h;obtain⟨H1,h,e⟩:=h;injection e with _ e;subst e
   exact a7y h
 | makeMap t x=>simp only[opD]at h;exact a3R h
 | buildSlice t len parts=>
   simp only[opD,dM]at h;obtain⟨elem,_,size,_,z,_,h⟩:=h;split at h
   ·injection h with h;injection h with _ h;subst h;exact .row _ _ _
   split at h
   ·simp only[dS]at h;obtain⟨cs,_,e⟩:=h;injection e with _ e;subst e
    exact .row _ _ _
   ·cases h
 | makeSlice t n c=>
   simp only[opD,dM]at h;obtain⟨elem,_,size,_,bytes,_,z,_,h⟩:=h;split at h
   ·split at h
    ·injection h with h;injection h with _ h;subst h;exact .row _ _ _
    ·cases h
   ·cases h
 | call c=>
   simp only[opD]at h;split at h
   ·split at h
    ·split at h
     all_goals first|exact vL h|cases h
    ·cases h
   ·split at h
    ·exact a5x h
    ·cases h
   ·split at h
    ·exact a9W h
    ·cases h
   ·split at h
    ·exact a7W h
    ·cases h
   ·exact pl h
   ·split at h
    ·split at h
     ·split at h
      ·cases h
      ·exact wM h
     ·cases h
    ·cases h
   ·split at h
    ·exact a5v h
    ·cases h
   ·exact pl h
   ·exact pl h
   ·cases h
 | convert s t x=>
   simp only[opD]at h;split at h
   ·exact pl h
   ·split at h
    ·split at h
     ·exact vL h
     ·cases h
    ·split at h
     ·simp only[dM]at h;obtain⟨_,_,h⟩:=h;injection h with h;injection h with _ h;subst h
      rw[b1j];exact .cons _ _
     ·cases h
    ·split at h
     ·exact wM h
     ·cases h
    ·cases h
 | slice t x lo hi mx=>
   cases mx with
   | some _=>simp only[opD]at h;cases h
   | none=>
     simp only[opD]at h;split at h
     ·exact pl h
     ·split at h
      ·exact vL h
      ·exact vL h
 | _=>
   simp only[opD]at h
   repeat' first
    | exact LK.refl _
    | exact wM h
    | exact vL h
    | exact pl h
    | (cases h;done)
    | split at h
    | (simp only[dM,dS]at h;obtain⟨_,_,h⟩:=h)
    | (obtain⟨_,_,h⟩:=h)
    | (injection h with h;injection h with _ h;subst h;exact LK.refl _)
    | (injection h with _ h;subst h;exact LK.refl _)
    | (cases h;exact LK.refl _)
end
end Go.Ds
