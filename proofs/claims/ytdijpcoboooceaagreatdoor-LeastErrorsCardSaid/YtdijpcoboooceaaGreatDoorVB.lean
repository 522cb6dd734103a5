/-
  A part of the proof of LeastErrors.
-/
import Derived.Test.YtdijpcoboooceaaGreatDoorVA
import Derived.Below
import Derived.Deep.Slices
set_option linter.unusedVariables false
set_option linter.unusedSimpArgs false
set_option linter.defProp false
set_option linter.unusedSectionVars false
set_option maxRecDepth 100000
set_option maxHeartbeats 2000000
namespace Go.Ds
section
variable {P:Program} {ρ:Rho} {H:Heap} {w:World} {fl:Fl}
theorem HRel.bl(h:HRel P ρ H w)(cs:List Value)(ty:TypeId)(tg:Nat)(p:Place)(hoff:Off ρ p.b)(hlt:p.b<w.heap.size) (hcell:CellsAt P (ρ.put H.length cs.length p) w cs ty true tg cs.length cs.length p): HRel P (ρ.put H.length cs.length p) (H.cons (.cells cs ty true cs.length tg)) w:=by
 have hno:∀f,ρ H.length f=none:=λf=>oX h f;have hle:ρ.Le (ρ.put H.length cs.length p):=.put (hno _);(have hold:∀A f q,(ρ.put H.length cs.length p) A f=some q->(A=H.length∧f=cs.length∧q=p)∨(A<H.length∧ρ A f=some q∧q.b≠p.b):=λA f q hq=>by by_cases hh:A=H.length∧f=cs.length;(·obtain⟨rfl,rfl⟩:=hh;rw[Rho.aq]at hq;exact .inl ⟨rfl,rfl,(dC hq).symm⟩);·rw[Rho.aM hh]at hq;exact .inr ⟨(h.dom _ _ _ hq).1,hq,hoff _ _ _ hq⟩);have hget_old:∀A,A<H.length->kB (H.cons (.cells cs ty true cs.length tg)) A=kB H A:=λA hA=>kU _ hA;refine⟨?_,?_,?_,?_,?_,?_,λA hA=>by by_cases he:A=H.length;(·subst he;rw[jY];rfl);·rw[length_cons]at hA;rw[hget_old A (by omega)];exact h.full A (by omega),λA cs' ty' lo' hg=>by have hA:A<(H.cons (.cells cs ty true cs.length tg)).length:=kV hg;by_cases he:A=H.length;(·subst he;rw[jY]at hg;cases hg);·(have hA':A<H.length:=by simp at hA;omega);rw[hget_old A hA']at hg;obtain⟨q,h1,h2,h3⟩:=h.glob _ _ _ _ hg;exact⟨q,hle _ _ _ h1,h2,h3⟩⟩
 (·intro A f q hq;rcases hold A f q hq with⟨rfl,rfl,rfl⟩|⟨hA,hq',_⟩;(·exact⟨by simp,hlt⟩);·exact⟨by simp;omega,(h.dom _ _ _ hq').2⟩);(·intro A cs' ty' rw' lo' ver' hg;have hA:A<(H.cons (.cells cs ty true cs.length tg)).length:=kV hg;by_cases he:A=H.length;(·subst he;rw[jY]at hg;injection (dC hg)with e1 e2 e3 e4 e5;subst e1 e2 e3 e4 e5;refine⟨⟨p,Rho.aq _ _ _ _⟩,λf q hq=> ?_⟩;rcases hold _ f q hq with⟨_,rfl,rfl⟩|⟨hlt,_,_⟩;(·exact hcell);·exact absurd hlt (ft _));·(have hA':A<H.length:=by simp at hA;omega);rw[hget_old A hA']at hg;obtain⟨⟨q,hq⟩,hall⟩:=h.cells _ _ _ _ _ _ hg;refine⟨⟨q,hle _ _ _ hq⟩,λf q hq=> ?_⟩;rcases hold _ f q hq with⟨rfl,_,_⟩|⟨_,hq',_⟩;(·exact absurd hA' (ft _));·exact(hall f q hq').world hle rfl);(·intro A es ck ver hg;have hA:A<(H.cons (.cells cs ty true cs.length tg)).length:=kV hg;by_cases he:A=H.length;(·subst he;rw[jY]at hg;cases hg);·(have hA':A<H.length:=by simp at hA;omega);rw[hget_old A hA']at hg;obtain⟨q,es',hq,hw,hall⟩:=h.map _ _ _ _ hg;exact⟨q,es',hle _ _ _ hq,hw,hall.mono λ_ _ x=>x.mono hle⟩)
 (·intro A r hg;have hA:A<(H.cons (.cells cs ty true cs.length tg)).length:=kV hg;by_cases he:A=H.length;(·subst he;rw[jY]at hg;cases hg);·(have hA':A<H.length:=by simp at hA;omega);rw[hget_old A hA']at hg;obtain⟨q,r',hq,hw,hall⟩:=h.loop _ _ hg;exact⟨q,r',hle _ _ _ hq,hw,hall.mono hle⟩);(·intro A f q blk' hq hg;rcases hold A f q hq with⟨rfl,rfl,rfl⟩|⟨hA,hq',_⟩;(·rw[jY]at hg;obtain rfl:=dC hg;exact .inl rfl);·rw[hget_old A hA]at hg;exact h.one _ _ _ _ hq' hg);·intro A f q A2 f2 q2 blk' hq hq2 hbb hg hwr;rcases hold A f q hq with⟨rfl,rfl,rfl⟩|⟨hA,hq',hqb⟩;(·rcases hold A2 f2 q2 hq2 with⟨rfl,rfl,rfl⟩|⟨hA2,hq2',hqb2⟩;(·exact⟨rfl,rfl⟩);·exact absurd hbb.symm hqb2);·rcases hold A2 f2 q2 hq2 with⟨rfl,rfl,rfl⟩|⟨hA2,hq2',hqb2⟩;(·exact absurd hbb hqb);·rw[hget_old A hA]at hg;exact h.excl _ _ _ _ _ _ _ hq' hq2' hbb hg hwr
theorem Post.bl{ρ0:Rho}{H0:Heap}{W0:World}(h:Post P ρ0 H0 W0 ρ H w)(cs:List Value)(ty:TypeId)(tg:Nat)(p:Place)(hoff:Off ρ p.b)(hlt:p.b<w.heap.size)(hW:W0.heap.size<=p.b) (hcell:CellsAt P (ρ.put H.length cs.length p) w cs ty true tg cs.length cs.length p): Post P ρ0 H0 W0 (ρ.put H.length cs.length p) (H.cons (.cells cs ty true cs.length tg)) w:=by
 have hle:ρ.Le (ρ.put H.length cs.length p):=.put (oX h.rel _);(have hold:∀A f q,(ρ.put H.length cs.length p) A f=some q->q=p∨(A<H.length∧ρ A f=some q):=λA f q hq=>by by_cases hh:A=H.length∧f=cs.length;(·obtain⟨rfl,rfl⟩:=hh;rw[Rho.aq]at hq;exact .inl (dC hq).symm);·rw[Rho.aM hh]at hq;exact .inr ⟨(h.rel.dom _ _ _ hq).1,hq⟩);refine⟨h.le.trans hle,h.rel.bl cs ty tg p hoff hlt hcell,by have:=h.len;simp;omega,h.size,h.os,h.tape,h.output,λb hb hw=>⟨(h.frame b hb hw).1,?_⟩,h.loops,λb hb hw A f q hq=> ?_⟩;(·rintro⟨A,f,q,blk,hq,rfl,hg,hwr⟩;rcases hold A f q hq with rfl|⟨hA,hq'⟩;(·omega);·rw[kU _ hA]at hg;exact(h.frame _ hb hw).2 ⟨A,f,q,blk,hq',rfl,hg,hwr⟩);·rcases hold A f q hq with rfl|⟨hA,hq'⟩;(·omega);·exact h.img b hb hw _ _ _ hq'
structure PendAt(P:Program)(ρ:Rho)(w:World)(H Hn:Heap)(v v':Value)(b:Nat)(cs:List Value)(cs':Array Value)(ty ty':TypeId)(tg k:Nat):Prop where
 here:w.heap[b]? =some (.cells cs' ty')
 next:Hn=H.cons (.cells cs ty true cs.length tg)
 rel:All2 (C1 ρ) cs cs'.toList
 val:∀ρ1:Rho,ρ1 H.length cs.length=some ⟨b,0,cs.length,k⟩→V ρ1 v v'
 at_:∀(ρ:Rho)(w:World),w.heap[b]? =some (.cells cs' ty')→All2 (C1 ρ) cs cs'.toList→CellsAt P ρ w cs ty true tg cs.length cs.length ⟨b,0,cs.length,k⟩
theorem PendAt.mono{ρ':Rho}{w':World}{H Hn:Heap}{v v':Value}{b:Nat}{cs:List Value}{cs':Array Value}{ty ty':TypeId}{tg k:Nat}(h:PendAt P ρ w H Hn v v' b cs cs' ty ty' tg k)(hle:ρ.Le ρ')(hw:w'.heap[b]? =w.heap[b]?):PendAt P ρ' w' H Hn v v' b cs cs' ty ty' tg k:=⟨by rw[hw];exact h.here,h.next,h.rel.mono λ_ _ h=>h.mono hle,h.val,h.at_⟩
theorem qT{o:Op}(h:kI fl o=true):lD fl o=false:=by cases o<;>first|rfl|(simp[kI]at h;done)|(simp[kI]at h;simp[lD,h])
theorem vM{i:Nat}{o:Op}(h:kI fl o=true):mJ fl i o=some i:=by simp[mJ,h]
theorem tO{i b:Nat}{o:Op}(h:kI fl o=false)(hh:mJ fl i o=some b):fl.base i=some b∧∃t x ix,o=.indexAddr t x ix:=by unfold mJ at hh;rw[h]at hh;simp only[eN,if_false]at hh;split at hh;(·exact⟨hh,_,_,_,rfl⟩);·cases hh
theorem Der.plain{ops:Array Oper}{j i:Nat}{d:Tmp}{o:Op}(h:Der fl ops j d i o):lD fl o=false∧kI fl o=false:=by cases h<;>exact⟨rfl,rfl⟩
theorem Draw.cA{ops:Array Oper}(D:Draw P fl ops){i j:Nat}{o:Oper}(ho:ops[i]? =some o)(hj:fl.base i=some j):j<i∧lD fl o.op=false∧kI fl o.op=false:=by obtain⟨h1,_,_,_,_,_,_,_,_,_,_,_,h2⟩:=D.aE ho hj;exact⟨h1,h2.plain⟩
theorem Draw.aW{ops:Array Oper}(D:Draw P fl ops){i b:Nat}{o:Oper}(ho:ops[i]? =some o)(hh:mJ fl i o.op=some b):b<=i∧∃y,ops[b]? =some y∧kI fl y.op=true:=by cases ha:kI fl o.op with| true=>rw[vM ha]at hh;obtain rfl:=dC hh;exact⟨dJ _,o,ho,ha⟩| false=>obtain⟨h1,_⟩:=tO ha hh;obtain⟨h2,_,_,y,_,_,_,_,h3,_,_,h4,_⟩:=D.aE ho h1;exact⟨by omega,y,h3,h4⟩
theorem b2v{o:Oper}(ho:kI fl o.op=true){l:List Value}{v:Value}{H':Heap}(hd:opD P o l H=some (v,H')):∃blk,H'=H.cons blk:=by
 obtain⟨dst,op,type,pos,after,guard⟩:=o;simp only at ho;cases op with| alloc t=>simp only[opD,dF]at hd;obtain⟨z,hz,hd⟩:=hd;split at hd;(case isFalse=>cases hd);(have newc:a0p P H t z=some (v,H')->∃blk,H'=H.cons blk:=by intro hd;unfold a0p at hd;simp only at hd;split at hd;(case isFalse=>cases hd);injection (dC hd)with e1 e2;exact⟨_,by rw[<-e2,mO]⟩);unfold tL at hd;split at hd;(·rename_i n elem hu;cases hse:jT P elem with| none=>rw[hse]at hd;simp at hd| some k=>rw[hse]at hd;dsimp only at hd;split at hd;(case isFalse=>cases hd);injection (dC hd)with e1 e2;exact⟨_,by rw[<-e2,a3O]⟩);(·exact newc hd)| buildSlice t len parts=>simp only[opD,dF]at hd;obtain⟨elem,he,size,hs,z,hz,hd⟩:=hd;split at hd;(·injection (dC hd)with e1 e2;exact⟨_,by rw[<-e2,mO]⟩);split at hd;(·simp only[dO]at hd;obtain⟨cs,hb,hd⟩:=hd;injection hd with e1 e2;exact⟨_,by rw[<-e2,mO]⟩);(·cases hd)| makeSlice t n c=>simp only[opD,dF]at hd;obtain⟨elem,he,size,hs,bytes,hby,z,hz,hd⟩:=hd;split at hd;(·split at hd;(·injection (dC hd)with e1 e2;exact⟨_,by rw[<-e2,mO]⟩);·cases hd);(·cases hd)| _=>simp[kI]at ho
theorem c5x{o:Oper}{t:TypeId}{len:Nat}{parts:Array (Nat×Operand)}(ho:o.op=.buildSlice t len parts){l:List Value}{v:Value}{H':Heap}(hd:opD P o l H=some (v,H')): ∃(cs:List Value)(elem:TypeId)(size:Nat),H'=H.cons (.cells cs elem true cs.length 0)∧v=.slice (some ⟨H.length,0,some cs.length⟩) len size:=by
 obtain⟨dst,op,type,pos,after,guard⟩:=o;simp only at ho;subst ho;simp only[opD,dF]at hd;obtain⟨elem,he,size,hs,z,hz,hd⟩:=hd;split at hd;(·rename_i hc;simp only[dE,beq_iff_eq]at hc;obtain⟨⟨rfl,_⟩,_⟩:=hc;injection (dC hd)with e1 e2;exact⟨[],elem,size,by rw[<-e2,mO],e1.symm⟩);split at hd;(·simp only[dO]at hd;obtain⟨cs,hb,hd⟩:=hd;injection hd with e1 e2;exact⟨cs.toList,elem,size,by rw[<-e2,mO],e1.symm⟩);·cases hd
theorem b9b{o:Oper}(ho:kI fl o.op=true){l:List Value}{v:Value}{H':Heap}(hd:opD P o l H=some (v,H')){a:Act}(hV:∀x,x∈o.op.operands->V ρ (ev l x) (a.eval x))(w:World): ∃(v':Value)(cs:List Value)(cs':Array Value)(ty ty':TypeId)(tg k:Nat),(execOp a.eval o).run P w=.ok (.value v') (w.alloc (.cells cs' ty'))∧PendAt P ρ (w.alloc (.cells cs' ty')) H H' v v' w.heap.size cs cs' ty ty' tg k:=by
 obtain⟨dst,op,type,pos,after,guard⟩:=o;simp only at ho hV;(have atOf:∀{cs:List Value}{cs':Array Value}{ty ty':TypeId}{tg k b:Nat},jT P ty=some k->(tg=0->ty'=ty)->∀(ρ:Rho)(w:World),w.heap[b]? =some (.cells cs' ty')->All2 (C1 ρ) cs cs'.toList->CellsAt P ρ w cs ty true tg cs.length cs.length ⟨b,0,cs.length,k⟩:=by intro cs cs' ty ty' tg k b hk ht ρ w hb hl;refine⟨dJ _,hk,by simp,cs',ty',(0,0),hb,by simpa using hl.length.symm,λ_=>⟨rfl,Int.le_refl _,ht⟩,λ_ i c hi _ hc=> ?_⟩;obtain⟨c',hc',hr⟩:=hl.get i c hc;exact⟨c',by simpa [Place.at]using hc',hr⟩);cases op with| alloc t=>simp only[opD,dF]at hd;obtain⟨z,hz,hd⟩:=hd;split at hd;(case isFalse=>cases hd);rename_i hf;(have hr2:(Instr.alloc t true (.tuple #[])).run P w=.ok (.pointer (some ⟨w.heap.size,0,none⟩)) (w.alloc (.cells z.cells t)):=by simp only[Instr.alloc,dL,sZ hz,dH];simp[newVar,newRow]);(have hval:∀(k:Nat)(ρ1:Rho),ρ1 H.length z.cells.toList.length=some ⟨w.heap.size,0,z.cells.toList.length,k⟩->V ρ1 (.pointer (some ⟨H.length,0,some z.cells.toList.length⟩)) (.pointer (some ⟨w.heap.size,0,none⟩)):=λk ρ1 h1=>by have:=C0.ptr (ρ:=ρ1) (A:=H.length) (i:=0) (e:=z.cells.toList.length) h1 (by simp);exact .v1 (.c1 (.c0 (by simpa [Place.at]using this))));unfold tL at hd;(have newc:a0p P H t z=some (v,H')->∃k,v=.pointer (some ⟨H.length,0,some z.cells.toList.length⟩)∧z.cells.toList.all oneCell=true∧jT P t=some k∧H'=H.cons (.cells z.cells.toList t true z.cells.toList.length 0):=by intro hd;unfold a0p at hd;simp only at hd;split at hd;(case isFalse=>cases hd);rename_i hcond;simp only[dE,beq_iff_eq]at hcond;injection (dC hd)with e1 e2;exact⟨_,e1.symm,hcond.1,hcond.2,by rw[<-e2,mO]⟩);split at hd;(·rename_i n elem hu;cases hse:jT P elem with| none=>rw[hse]at hd;simp at hd| some k=>rw[hse]at hd;dsimp only at hd;split at hd;(case isFalse=>cases hd);rename_i hcond;simp only[dE,beq_iff_eq]at hcond;obtain⟨⟨hone,hsz⟩,hk⟩:=hcond;injection (dC hd)with e1 e2;subst e1 e2;have hl:All2 (C1 ρ) z.cells.toList z.cells.toList:=(V.v1 (ρ:=ρ) (V1.of_flat hf)).cells hone;exact⟨_,z.cells.toList,z.cells,elem,t,2,k,by simp only[execOp,dL,hr2,dH,dP],lA _ _,by rw[a3O],hl,hval k,atOf hse (by simp)⟩);(·obtain⟨k,rfl,hone,hsz,rfl⟩:=newc hd;have hl:All2 (C1 ρ) z.cells.toList z.cells.toList:=(V.v1 (ρ:=ρ) (V1.of_flat hf)).cells hone;exact⟨_,z.cells.toList,z.cells,t,t,0,k,by simp only[execOp,dL,hr2,dH,dP],lA _ _,rfl,hl,hval k,atOf hsz λ_=>rfl⟩)| buildSlice t len parts=>have hps:b1E ρ (parts.toList.map λ(i,x)=>(i,ev l x)) (parts.toList.map λ(i,x)=>(i,a.eval x)):=a1h parts.toList λx hx=>hV x.2 (by simp only[Op.operands,jK,dS];exact⟨x,hx,rfl⟩);simp only[opD,dF]at hd;obtain⟨elem,he,size,hs,z,hz,hd⟩:=hd;have hst:=lM he;have hval:∀(n len:Nat),len*size=n->∀(ρ1:Rho),ρ1 H.length n=some ⟨w.heap.size,0,n,size⟩->V ρ1 (.slice (some ⟨H.length,0,some n⟩) len size) (.slice (some ⟨w.heap.size,0,none⟩) len len):=λn len hl ρ1 h1=>a6M hl h1;split at hd;(·rename_i hc;simp only[dE,bne_iff_ne,beq_iff_eq,List.isEmpty_iff,List.map_eq_nil_iff]at hc;obtain⟨⟨rfl,hp0⟩,hs0⟩:=hc;injection (dC hd)with e1 e2;subst e1 e2;have hpa:parts=#[]:=jI hp0;subst hpa;(have hrun:(Instr.buildSlice t 0 #[]).run P w=.ok (.slice (some ⟨w.heap.size,0,none⟩) 0 0) (w.alloc (.cells #[] elem)):=by unfold Instr.buildSlice;(have er:(Array.range 0).map (λ_=>(default:Value))=#[]:=by simp[Array.range]);simp[run_underlying hst,lP hs,Instr.fill,newRow,er]);exact⟨.slice (some ⟨w.heap.size,0,none⟩) 0 0,[],#[],elem,elem,0,size,by simp only[execOp,Array.map_empty,dL,hrun,dH,dP],lA _ _,by rw[mO],trivial,λρ1 h1=>hval 0 0 (by simp) ρ1 h1,atOf hs λ_=>rfl⟩);split at hd;(·rename_i hc;simp only[dE,decide_eq_true_eq,bne_iff_ne,beq_iff_eq]at hc;obtain⟨⟨⟨⟨hfz,hall1⟩,hsmall⟩,hpos⟩,hzs⟩:=hc;simp only[dO]at hd;obtain⟨cs,hb,hd⟩:=hd;injection hd with e1 e2;subst e1 e2;obtain⟨i,hi,hisz⟩:=a4t hs;subst hisz;(have hiz:i.zero=some z:=by unfold kN at hz;rw[hi]at hz;exact hz);(have hone:∀x∈(parts.toList.map λ(i,x)=>(i,ev l x)),x.2.cells.toList.all oneCell=true:=by simp only[dQ]at hall1 ⊢;exact hall1);obtain⟨r',hr',hall⟩:=a1P _ _ _ hps hone _ _ _ (a0U hfz _) hb;(have hsz:len*i.size=cs.toList.length:=by have:=a2H _ _ _ _ hb;rw[gO,this];simp);have hsm:¬len*i.size>2^24:=Nat.not_lt.2 hsmall;(have hparts:(parts.map λ(i,x)=>(i,a.eval x)).toList=(parts.toList.map λ(i,x)=>(i,a.eval x)):=by simp);have hrun:=run_buildSlice (P:=P) w t elem len (parts.map λ(i,x)=>(i,a.eval x)) r' i z hst hi hiz hsm hpos (by rw[hparts];exact hr');exact⟨.slice (some ⟨w.heap.size,0,none⟩) len len,cs.toList,r',elem,elem,0,i.size,by simp only[execOp,dL,hrun,dH,dP],lA _ _,by rw[mO],hall,λρ1 h1=>hval _ len hsz ρ1 h1,atOf hs λ_=>rfl⟩);(·cases hd)| makeSlice t n c=>have h1:=(hV n (by simp[Op.operands]));have h2:=(hV c (by simp[Op.operands]));simp only[opD,dF]at hd;obtain⟨elem,he,size,hs,bytes,hby,z,hz,hd⟩:=hd;have hst:=lM he;obtain⟨i,hi,hisz,hiby,hiz⟩:=a5D hs hby hz;subst hisz hiby;split at hd;(·rename_i k1 x k2 y hx hy;rw[hx]at h1;rw[hy]at h2;split at hd;(·rename_i hc;simp only[dE,decide_eq_true_eq,bne_iff_ne,beq_iff_eq]at hc;obtain⟨⟨⟨⟨⟨hfz,hab⟩,h0⟩,hroom⟩,hs0⟩,hzs⟩:=hc;obtain⟨k,rfl⟩:=il h0;obtain⟨m,rfl⟩:=il (Int.le_trans h0 hab);(have hkm:k<=m:=by omega);obtain⟨r1,r2⟩:=a9p hroom;have hrun:=run_make (P:=P) w t elem i z hst hi hiz k1 k2 (k:Int) (m:Int) h0 hab (a2Z r2) (by omega);simp only[fB]at hrun hd;injection (dC hd)with e1 e2;rw[a9l m hzs]at e1 e2;subst e1 e2;(have hlen:(madeCells z.cells (m*i.size)).toList.length=m*i.size:=by simp[madeCells]);have hmul:k*i.size<=m*i.size:=eO _ hkm;refine⟨.slice (some ⟨w.heap.size,0,none⟩) k m,(madeCells z.cells (m*i.size)).toList,madeCells z.cells (m*i.size),elem,elem,0,i.size,by simp only[execOp,h1.aH,h2.aH,dL,hrun,dH,dP],lA _ _,by rw[mO],a0U hfz _,λρ1 h1=> ?_,atOf hs λ_=>rfl⟩;have:=C0.slice (ρ:=ρ1) (A:=H.length) (i:=0) (e:=(madeCells z.cells (m*i.size)).toList.length) (n:=k) (c':=m) (p:=⟨w.heap.size,0,(madeCells z.cells (m*i.size)).toList.length,i.size⟩) (a:=⟨w.heap.size,0,none⟩) h1 (by simp) (by simp only[hlen];omega) ⟨hkm,by simp only[hlen];omega⟩ (.inl ⟨by simp[Place.at],by simp only[hlen];simp[Place.at]⟩);exact .v1 (.c1 (.c0 this)));·cases hd);(·cases hd)| _=>simp[kI]at ho
theorem b3z(l:List Value)(d:Option Tmp)(v:Value)(t:Tmp):ev (put l d v) (.tmp t)=if d=some t∧t<l.length then v else ev l (.tmp t):=by cases d with| none=>simp[put]| some k=>simp only[ev,qS,put,pG,dG,ik,eu];by_cases hk:k=t;(·subst hk;by_cases hl:k<l.length;(·simp[hl]);·simp[hl]);·simp[hk]
theorem nZ(a:Act)(d:Option Tmp)(v:Value)(t:Tmp):(a.put d v).eval (.tmp t)=if d=some t∧t<a.tmps.size then v else a.eval (.tmp t):=by cases d with| none=>simp[Act.put]| some k=>simp only[Act.put,Act.eval,eu];by_cases hk:k=t;(·subst hk;by_cases hl:k<a.tmps.size;(·simp[hl]);·simp[hl]);·simp[hk]
theorem wA(l:List Value)(d:Option Tmp)(v:Value):(put l d v).length=l.length:=by cases d<;>simp[put,pG]
theorem b0Y(a:Act)(d:Option Tmp)(v:Value):(a.put d v).tmps.size=a.tmps.size:=by cases d<;>simp[Act.put]
theorem StepR.plain{o:Oper}{l:List Value}{v:Value}{H':Heap}(h:StepR P o l H v H')(hm:lD fl o.op=false):Go.Ds.opD P o l H=some (v,H'):=by refine h.opD λc f hc hf=> ?_;simp[lD,hc,hf]at hm
structure Text(P:Program)(ops:Array Oper)(T:Nat->List Value×Heap)(val:Nat->Value):Prop where step:∀k,k<ops.size->zY P ops k (T k) (T (k+1)) (val k)
section
variable {ops:Array Oper} {T:Nat→List Value×Heap} {val:Nat→Value}
theorem Text.length(X:Text P ops T val):∀k,k<=ops.size->(T k).1.length=(T 0).1.length| 0,_=>rfl| k+1,hk=>by obtain⟨o,_,h,_⟩:=X.step k (by omega);rw[h,wA,X.length k (by omega)]
theorem Text.at(X:Text P ops T val){k:Nat}{o:Oper}(ho:ops[k]? =some o):(T (k+1)).1=put (T k).1 o.dst (val k)∧ ((Region.wanted o (kO ops (T k).1)=true∧StepR P o (T k).1 (T k).2 (val k) (T (k+1)).2)∨(Region.wanted o (kO ops (T k).1)=false∧val k=undef∧(T (k+1)).2=(T k).2)):=by obtain⟨o',ho',h⟩:=X.step k (dM.1 ho).1;rw[ho]at ho';obtain rfl:=dC ho';exact h
theorem Text.old(X:Text P ops T val){t:Tmp}:∀k,k<=ops.size->(∀i o,i<k->ops[i]? =some o->o.dst≠some t)->ev (T k).1 (.tmp t)=ev (T 0).1 (.tmp t)| 0,_,_=>rfl| k+1,hk,h=>by obtain⟨o,ho,h1,_⟩:=X.step k (by omega);rw[h1,b3z,if_neg (λhh=>h k o (by omega) ho hh.1),X.old k (by omega) λi o' hi=>h i o' (by omega)]
theorem Text.new(X:Text P ops T val)(D:Draw P fl ops){i:Nat}{o:Oper}(ho:ops[i]? =some o){t:Tmp}(hd:o.dst=some t)(ht:t<(T 0).1.length):∀k,i<k->k<=ops.size->ev (T k).1 (.tmp t)=val i| 0,h,_=>absurd h (eh _)| k+1,hk,hn=>by obtain⟨o',ho',h1,_⟩:=X.step k (by omega);rw[h1,b3z];by_cases hik:i=k;(·subst hik;rw[ho]at ho';obtain rfl:=dC ho';rw[if_pos ⟨hd,by rw[X.length _ (by omega)];exact ht⟩]);·rw[if_neg λhh=>D.ne (by omega) ho ho' hd hh.1];exact X.new D ho hd ht k (by omega) (by omega)
theorem Text.still(X:Text P ops T val)(D:Draw P fl ops){k:Nat}{o:Oper}(ho:ops[k]? =some o)(hm:lD fl o.op=false)(ha:kI fl o.op=false):(T (k+1)).2=(T k).2:=by rcases(X.at ho).2 with⟨_,h⟩|⟨_,_,h⟩;(·have hd:=h.plain hm;cases hr:qA o.op with| true=>exact a2y (D.conv _ _ ho) hr hd| false=>exact(b1R .nil (D.conv _ _ ho) hm ha hr hd).1);·exact h
theorem Text.bF(X:Text P ops T val)(D:Draw P fl ops){i:Nat}:∀k,i<=k->k<=ops.size->(∀j o,i<=j->j<k->ops[j]? =some o->lD fl o.op=false∧kI fl o.op=false)->(T k).2=(T i).2| 0,h,_,_=>by rw[Nat.le_zero.1 h]| k+1,h,hk,hh=>by by_cases he:i=k+1;(·rw[he]);·obtain⟨o,ho,_⟩:=X.step k (by omega);have:=hh k o (by omega) (by omega) ho;rw[X.still D ho this.1 this.2,X.bF D k (by omega) (by omega) λj o h1 h2=>hh j o h1 (by omega)]
theorem Text.row(X:Text P ops T val)(D:Draw P fl ops){j A:Nat}(hA:A<(T j).2.length):∀k,j<=k->k<=ops.size->(∀i o,j<=i->i<k->ops[i]? =some o->lD fl o.op=false)->kB (T k).2 A=kB (T j).2 A∧A<(T k).2.length| 0,h,_,_=>by rw[<-Nat.le_zero.1 h];exact⟨rfl,hA⟩| k+1,h,hk,hh=>by by_cases he:j=k+1;(·rw[<-he];exact⟨rfl,hA⟩);·obtain⟨o,ho,_⟩:=X.step k (by omega);have hm:=hh k o (by omega) (by omega) ho;obtain⟨h1,h2⟩:=X.row D hA k (by omega) (by omega) λi o h1 h2=>hh i o h1 (by omega);cases ha:kI fl o.op with| false=>rw[X.still D ho hm ha];exact⟨h1,h2⟩| true=>rcases(X.at ho).2 with⟨_,h3⟩|⟨_,_,h3⟩;(·obtain⟨blk,h4⟩:=b2v ha (h3.plain hm);rw[h4,kU _ h2];exact⟨h1,by rw[length_cons];omega⟩);·rw[h3];exact⟨h1,h2⟩
structure Inv(P:Program)(fl:Fl)(ops:Array Oper)(T:Nat→List Value×Heap)(val:Nat→Value)(ρ0:Rho)(W0:World)(ds:List Deferred)(S:Nat→Prop)(pl:Nat→Nat)(m:Nat)(ρ:Rho)(a:Act)(w:World):Prop where
 le:m≤ops.size
 post:Post P ρ0 (T 0).2 W0 ρ (T m).2 w
 closed:b3N ops S
 mains:∀i o,ops[i]? =some o→lD fl o.op=true→(S i↔i<m)
 allocs:∀i o,ops[i]? =some o→kI fl o.op=true→i<m→S i
 pend:∀i o,ops[i]? =some o→kI fl o.op=true→m≤i→S i→W0.heap.size≤pl i∧pl i<w.heap.size∧Off ρ (pl i)∧
  ∃(v':Value)(cs:List Value)(cs':Array Value)(ty ty':TypeId)(tg k:Nat),PendAt P ρ w (T i).2 (T (i+1)).2 (val i) v' (pl i) cs cs' ty ty' tg k∧∀d,o.dst=some d→d<(T 0).1.length→a.eval (.tmp d)=v'
 apart:∀i j x y,ops[i]? =some x→ops[j]? =some y→kI fl x.op=true→kI fl y.op=true→m≤i→m≤j→S i→S j→pl i=pl j→i=j
 size:a.tmps.size=(T 0).1.length
 old:∀t,(∀i o,S i→ops[i]? =some o→o.dst≠some t)→V ρ (ev (T 0).1 (.tmp t)) (a.eval (.tmp t))
 new:∀i o t,S i→ops[i]? =some o→o.dst=some t→t<(T 0).1.length→(∀b,mJ fl i o.op=some b→b<m)→V ρ (val i) (a.eval (.tmp t))
 der:∀(i j:Nat)(o b:Oper)(t d:Tmp),S i→ops[i]? =some o→kI fl o.op=false→mJ fl i o.op=some j→m≤j→o.dst=some t→t<(T 0).1.length→ops[j]? =some b→b.dst=some d→
  ∀ρ1:Rho,(d<(T 0).1.length→V ρ1 (val j) (a.eval (.tmp d)))→V ρ1 (val i) (a.eval (.tmp t))
 defers:a.defers=ds
variable {ρ0:Rho} {W0:World} {ds:List Deferred} {S:Nat→Prop} {pl:Nat→Nat} {m:Nat} {a:Act}
theorem a8Y{l:List Value}{t:Tmp}(h:l.length<=t):ev l (.tmp t)=undef:=by simp[ev,qS,dG,ff h]
theorem a4H{a:Act}{t:Tmp}(h:a.tmps.size<=t):a.eval (.tmp t)=undef:=by simp[Act.eval,h]
theorem Inv.looks(I:Inv P fl ops T val ρ0 W0 ds S pl m ρ a w)(X:Text P ops T val)(D:Draw P fl ops){i:Nat}{o:Oper}(ho:ops[i]? =some o)(hS:¬S i)(hr:∀e∈o.after,Region.binds .any e=true->S e.on)(hm:lD fl o.op=true->m=i)(hj:∀j,fl.base i=some j->j<m) {t:Tmp} (ht:t∈o.looksAt ops):V ρ (ev (T i).1 (.tmp t)) (a.eval (.tmp t)):=by
 have hi:i<ops.size:=(dM.1 ho).1;by_cases hl:(T 0).1.length<=t;(·rw[a8Y (by rw[X.length i (by omega)];exact hl),a4H (by rw[I.size];exact hl)];exact .undef);have hl:t<(T 0).1.length:=jh hl;by_cases hk:∃k x,k<i∧ops[k]? =some x∧x.dst=some t;(·obtain⟨k,x,hki,hx,hd⟩:=hk;have hSk:S k:=D.bef I.closed i o ho hr k (D.raw hki hx ho hd ht);rw[X.new D hx hd hl i hki (by omega)];refine I.new k x t hSk hx hd hl λb hb=> ?_;rcases D.fresh hki hx ho hd hb ht with h|h;(·have:=(D.aW hx hb).1;have:=hm h;omega);·exact hj b h);·rw[X.old i (by omega) λk x hki hx hd=>hk ⟨k,x,hki,hx,hd⟩];refine I.old t λk x hSk hx hd=> ?_;rcases iG k i with h|h|h;(·exact hk ⟨k,x,h,hx,hd⟩);(·exact hS (h▸hSk));·exact hS (D.bef I.closed k x hx (λe he hb=>I.closed k x hSk hx e he hb) i (D.dr h ho hx hd ht))
theorem Inv.operands(I:Inv P fl ops T val ρ0 W0 ds S pl m ρ a w)(X:Text P ops T val)(D:Draw P fl ops){i:Nat}{o:Oper}(ho:ops[i]? =some o)(hS:¬S i)(hr:∀e∈o.after,Region.binds .any e=true->S e.on)(hm:lD fl o.op=true->m=i)(hj:∀j,fl.base i=some j->j<m): ∀x,x∈o.op.operands->kH x=true->V ρ (ev (T i).1 x) (a.eval x):=λx hx hok=>by cases x with| tmp t=>exact I.looks X D ho hS hr hm hj (by unfold Oper.looksAt;simp only[ez,gB];exact .inl ⟨.tmp t,by simpa using hx,rfl⟩)| const v=>exact .of_flat hok| global g=>exact .v1 (.c1 (.c0 (.glob g 0)))| func f=>exact .v1 (.c1 (.fn trivial trivial))
theorem b3B{l:List Value}{a:Act}{ops:Array Oper}{j:Nat}(h:∀d,((ops[j]?).bind (·.dst))=some d->V ρ (ev l (.tmp d)) (a.eval (.tmp d))):yielded ops a.tmps j=kO ops l j:=by
 unfold yielded kO;cases hd:(ops[j]?).bind (·.dst)with| none=>rfl| some d=>have hv:=h d hd;simp only[ev,qS,Act.eval,dG]at hv;simp only[dD];cases h1:l[d]? with| none=>rw[h1,Option.getD_none]at hv;have:=hv.ai rfl;(cases h2:a.tmps[d]? with| none=>rfl| some v'=>(have:v'=undef:=by simpa [h2]using this);subst this;rfl)| some v=>rw[h1,ga]at hv;cases h2:a.tmps[d]? with| none=>(cases v with| bool b=>have:=hv.aG;simp[h2]at this;cases this| _=>rfl)| some v'=>(have hv:V ρ v v':=by simpa [h2]using hv);cases v' with| bool b=>rw[hv.of_bool]| _=>cases v with| bool b=>have:=hv.aG;cases this| _=>rfl
theorem Inv.wanted(I:Inv P fl ops T val ρ0 W0 ds S pl m ρ a w)(X:Text P ops T val)(D:Draw P fl ops){i:Nat}{o:Oper}(ho:ops[i]? =some o)(hS:¬S i)(hr:∀e∈o.after,Region.binds .any e=true->S e.on)(hm:lD fl o.op=true->m=i)(hj:∀j,fl.base i=some j->j<m): Region.wanted o (yielded ops a.tmps)=Region.wanted o (kO ops (T i).1):=by unfold Region.wanted;cases hg:o.guard with| none=>rfl| some g=>simp only;rw[b3B (l:=(T i).1) λd hd=>I.looks X D ho hS hr hm hj (by unfold Oper.looksAt;simp only[hg,ez];exact .inr (by rw[hd];simp))]
theorem a6a{b:Nat}(h:Off ρ b):¬Wr ρ H b:=by rintro⟨A,e,p,blk,hp,hb,_⟩;exact h _ _ _ hp hb
theorem Inv.skip(I:Inv P fl ops T val ρ0 W0 ds S pl m ρ a w)(X:Text P ops T val)(D:Draw P fl ops){o:Oper}(ho:ops[m]? =some o)(hm:lD fl o.op=false)(ha:kI fl o.op=false):Inv P fl ops T val ρ0 W0 ds S pl (m+1) ρ a w:=by
 have hlt:m<ops.size:=(dM.1 ho).1;(have hno:∀i x,ops[i]? =some x->(lD fl x.op=true∨kI fl x.op=true)->i≠m:=λi x hx he hi=>by subst hi;rw[ho]at hx;obtain rfl:=dC hx;rcases he with he|he;(·rw[hm]at he;cases he);·rw[ha]at he;cases he);refine⟨hlt,by rw[X.still D ho hm ha];exact I.post,I.closed,λi x hx hmx=>(I.mains i x hx hmx).trans ?_,λi x hx hax hi=> ?_,λi x hx hax hi=>I.pend i x hx hax (by omega),λi j x y hx hy h1 h2 h3 h4=>I.apart i j x y hx hy h1 h2 (by omega) (by omega),I.size,I.old,λi x t hS hx hd hl hal=>I.new i x t hS hx hd hl λb hb=> ?_,λi j x y t d hS hx hna hh hj=>I.der i j x y t d hS hx hna hh (by omega),I.defers⟩;(·have:=hno i x hx (.inl hmx);omega);(·have:=hno i x hx (.inr hax);exact I.allocs i x hx hax (by omega));·obtain⟨_,y,hy,hay⟩:=D.aW hx hb;have:=hno b y hy (.inr hay);have:=hal b hb;omega
theorem Inv.bl(I:Inv P fl ops T val ρ0 W0 ds S pl m ρ a w)(D:Draw P fl ops){o:Oper}(ho:ops[m]? =some o)(ha:kI fl o.op=true)(hS:S m):∃ρ',Inv P fl ops T val ρ0 W0 ds S pl (m+1) ρ' a w:=by
 have hlt:m<ops.size:=(dM.1 ho).1;obtain⟨h1,h2,h3,v',cs,cs',ty,ty',tg,k,hpa,h8⟩:=I.pend m o ho ha (dJ _) hS;have hle:ρ.Le (ρ.put (T m).2.length cs.length ⟨pl m,0,cs.length,k⟩):=.put (oX I.post.rel _);have hpost:=I.post.bl cs ty tg ⟨pl m,0,cs.length,k⟩ h3 h2 h1 (hpa.at_ _ w hpa.here (hpa.rel.mono λ_ _ h=>h.mono hle));rw[<-hpa.next]at hpost;have hmain:lD fl o.op=false:=qT ha;refine⟨_,hlt,hpost,I.closed,λi x hx hmx=>(I.mains i x hx hmx).trans ?_,λi x hx hax hi=> ?_,λi x hx hax hi hSi=> ?_,λi j x y hx hy h1 h2 h3 h4=>I.apart i j x y hx hy h1 h2 (by omega) (by omega),I.size,λt ht=>(I.old t ht).mono hle,λi x t hSi hx hd hl hal=> ?_,λi j x y t d hS hx hna hh hj=>I.der i j x y t d hS hx hna hh (by omega),I.defers⟩;(·(have:i≠m:=λhi=>by subst hi;rw[ho]at hx;obtain rfl:=dC hx;rw[hmain]at hmx;cases hmx);omega);(·by_cases hi2:i=m;(·rw[hi2];exact hS);·exact I.allocs i x hx hax (by omega));(·obtain⟨k1,k2,k3,v1,c1,c2,t1,t2,g1,kk,k4,k5⟩:=I.pend i x hx hax (by omega) hSi;refine⟨k1,k2,λA e p hp=> ?_,v1,c1,c2,t1,t2,g1,kk,k4.mono hle rfl,k5⟩;by_cases hh:A=(T m).2.length∧e=cs.length;(·obtain⟨rfl,rfl⟩:=hh;rw[Rho.aq]at hp;obtain rfl:=dC hp;intro hpl;have:=I.apart m i o x ho hx ha hax (dJ _) (by omega) hS hSi hpl;omega);·rw[Rho.aM hh]at hp;exact k3 _ _ _ hp)
 ·by_cases hi:i=m;(·subst hi;rw[ho]at hx;obtain rfl:=dC hx;rw[h8 t hd hl];exact hpa.val _ (Rho.aq _ _ _ _));·by_cases hb:mJ fl i x.op=some m;(·(have hna:kI fl x.op=false:=by cases h:kI fl x.op with| false=>rfl| true=>rw[vM h]at hb;exact absurd (dC hb) hi);obtain⟨_,_,_,y,d,_,_,_,hy,hyd,_⟩:=D.aE hx (tO hna hb).1;rw[ho]at hy;obtain rfl:=dC hy;exact I.der i m x o t d hSi hx hna hb (dJ _) hd hl ho hyd _ λhdl=>by rw[h8 d hyd hdl];exact hpa.val _ (Rho.aq _ _ _ _));·exact(I.new i x t hSi hx hd hl λb h=>by have:=hal b h;have:b≠m:=λe=>hb (e▸h);omega).mono hle
theorem Inv.cJ(X:Text P ops T val)(D:Draw P fl ops):∀(n m:Nat)(ρ:Rho),Inv P fl ops T val ρ0 W0 ds S pl m ρ a w->m+n<=ops.size->(∀k x,m<=k->k<m+n->ops[k]? =some x->lD fl x.op=false∧(kI fl x.op=true->S k))->∃ρ',Inv P fl ops T val ρ0 W0 ds S pl (m+n) ρ' a w| 0,m,ρ,I,_,_=>⟨ρ,I⟩| n+1,m,ρ,I,hn,hh=>by have ho:ops[m]? =some (ops[m]'(by omega)):=dM.2 ⟨by omega,rfl⟩;obtain⟨h1,h2⟩:=hh m _ (dJ _) (by omega) ho;(have step:∃ρ',Inv P fl ops T val ρ0 W0 ds S pl (m+1) ρ' a w:=by cases ha:kI fl (ops[m]'(by omega)).op with| true=>exact I.bl D ho ha (h2 ha)| false=>exact⟨ρ,I.skip X D ho h1 ha⟩);obtain⟨ρ1,I1⟩:=step;obtain⟨ρ2,I2⟩:=Inv.cJ X D n (m+1) ρ1 I1 (by omega) λk x h3 h4=>hh k x (by omega) (by omega);exact⟨ρ2,by rw[show m+(n+1)=m+1+n by omega];exact I2⟩
theorem Inv.next(I:Inv P fl ops T val ρ0 W0 ds S pl m ρ a w)(X:Text P ops T val)(D:Draw P fl ops){i:Nat}{o:Oper}(ho:ops[i]? =some o)(hS:¬S i)(hr:∀e∈o.after,Region.binds .any e=true->S e.on)(hna:kI fl o.op=false) {m':Nat} (hm':(lD fl o.op=true∧m=i∧m'=i+1)∨(lD fl o.op=false∧m'=m)) {ρ':Rho} {v':Value} {w':World} (hp:Post P ρ (T m).2 w ρ' (T m').2 w') (hv:(∀b,mJ fl i o.op=some b->b<m')->V ρ' (val i) v') (hdr:∀(j:Nat)(b:Oper)(d:Tmp),mJ fl i o.op=some j->m'<=j->ops[j]? =some b->b.dst=some d->∀ρ1:Rho,(d<(T 0).1.length->V ρ1 (val j) (a.eval (.tmp d)))->V ρ1 (val i) v'): Inv P fl ops T val ρ0 W0 ds (λk=>S k∨k=i) pl m' ρ' (a.put o.dst v') w':=by
 have hi:i<ops.size:=(dM.1 ho).1;(have hmm:m<=m':=by rcases hm' with⟨_,rfl,rfl⟩|⟨_,rfl⟩<;>omega);(have hne:∀k x,ops[k]? =some x->k≠i->∀d,x.dst=some d->o.dst≠some d:=λk x hx hki d hd hod=>by rcases gU hki with h|h;(·exact D.ne h hx ho hd hod);·exact D.ne h ho hx hod hd);(have hnot:∀k x,ops[k]? =some x->kI fl x.op=true->k≠i:=λk x hx hax hki=>by subst hki;rw[ho]at hx;obtain rfl:=dC hx;rw[hna]at hax;cases hax);refine⟨?_,I.post.trans hp,?_,λk x hx hmx=> ?_,λk x hx hax hk=> ?_,λk x hx hax hk hSk=> ?_,λk j x y hx hy h1 h2 h3 h4 h5 h6=> ?_,by rw[b0Y];exact I.size,λt ht=> ?_,λk x t hSk hx hd hl hal=> ?_,λk j x y t d hSk hx hka hh hj htd htl hy hyd ρ1 hV=> ?_,by rw[nK];exact I.defers⟩;(·rcases hm' with⟨_,rfl,rfl⟩|⟨_,rfl⟩;(·exact hi);·exact I.le);(·intro j x hj hx e he hb;rcases hj with hj|rfl;(·exact .inl (I.closed j x hj hx e he hb));·rw[ho]at hx;obtain rfl:=dC hx;exact .inl (hr e he hb));(·rcases hm' with⟨h1,rfl,rfl⟩|⟨h1,rfl⟩;(·rw[I.mains k x hx hmx];omega);·rw[I.mains k x hx hmx];(have:k≠i:=λhki=>by subst hki;rw[ho]at hx;obtain rfl:=dC hx;rw[h1]at hmx;cases hmx);omega)
 (·have hki:=hnot k x hx hax;refine .inl (I.allocs k x hx hax ?_);rcases hm' with⟨_,rfl,rfl⟩|⟨_,rfl⟩<;>omega);(·have hki:=hnot k x hx hax;obtain⟨k1,k2,k3,v1,c1,c2,t1,t2,g1,kk,k4,k6⟩:=I.pend k x hx hax (by omega) (hSk.resolve_right hki);refine⟨k1,dZ k2 hp.size,hp.img _ k2 k3,v1,c1,c2,t1,t2,g1,kk,k4.mono hp.le (hp.frame _ k2 (a6a k3)).1,λd hd hl=> ?_⟩;rw[nZ,if_neg λhh=>hne k x hx hki d hd hh.1];exact k6 d hd hl);(·exact I.apart k j x y hx hy h1 h2 (by omega) (by omega) (h5.resolve_right (hnot k x hx h1)) (h6.resolve_right (hnot j y hy h2)));(·rw[nZ,if_neg λhh=>ht i o (.inr rfl) ho hh.1];exact(I.old t λk x hk=>ht k x (.inl hk)).mono hp.le);(·by_cases hki:k=i;(·subst hki;rw[ho]at hx;obtain rfl:=dC hx;rw[nZ,if_pos ⟨hd,by rw[I.size];exact hl⟩];exact hv hal);·rw[nZ,if_neg λhh=>hne k x hx hki t hd hh.1];refine(I.new k x t (hSk.resolve_right hki) hx hd hl λb h=> ?_).mono hp.le;have h1:=hal b h;obtain⟨_,y,hy,hay⟩:=D.aW hx h;have:=hnot b y hy hay;rcases hm' with⟨_,rfl,rfl⟩|⟨_,rfl⟩<;>omega)
 ·have hji:=hnot j y hy (by obtain⟨_,y',hy',hay⟩:=D.aW hx hh;rw[hy]at hy';obtain rfl:=dC hy';exact hay);(have hV':d<(T 0).1.length->V ρ1 (val j) (a.eval (.tmp d)):=λhdl=>by have:=hV hdl;rw[nZ,if_neg λhh=>hne j y hy hji d hyd hh.1]at this;exact this);by_cases hki:k=i;(·subst hki;rw[ho]at hx;obtain rfl:=dC hx;rw[nZ,if_pos ⟨htd,by rw[I.size];exact htl⟩];exact hdr j y d hh hj hy hyd ρ1 hV');·rw[nZ,if_neg λhh=>hne k x hx hki t htd hh.1];exact I.der k j x y t d (hSk.resolve_right hki) hx hka hh (by omega) htd htl hy hyd ρ1 hV'
theorem Draw.lit(D:Draw P fl ops)(hc:b3N ops S){i j:Nat}{o:Oper}(ho:ops[i]? =some o)(hr:∀e∈o.after,Region.binds .any e=true->S e.on)(hj:fl.base i=some j):S j:=by
 have one:∀(i:Nat)(o b:Oper)(d:Tmp),j<i->ops[i]? =some o->ops[j]? =some b->b.dst=some d->(∀e∈o.after,Region.binds .any e=true->S e.on)->.tmp d∈o.op.operands->S j:=λi o b d hji ho hb hd hr hx=>D.bef hc i o ho hr j (D.raw hji hb ho hd (by unfold Oper.looksAt;simp only[ez,gB];exact .inl ⟨.tmp d,by simpa using hx,rfl⟩));obtain⟨h1,_,_,b,d,_,_,_,hb,hd,_,_,hD⟩:=D.aE ho hj;obtain⟨dst,op,type,pos,after,guard⟩:=o;simp only at hD hr;cases hD with| addr t ix=>exact one i _ b d h1 ho hb hd hr (by simp[Op.operands])| conv s t=>exact one i _ b d h1 ho hb hd hr (by simp[Op.operands])| load t x k y t' x' ix' g1 g2 g3 g4 g5 g6=>have hSk:S k:=D.bef hc i _ ho hr k (D.raw g2 g3 ho g6 (by unfold Oper.looksAt;simp only[ez,gB];exact .inl ⟨.tmp x,by simp[Op.operands],rfl⟩));obtain⟨_,_,_,b',d',_,_,_,hb',hd',_,_,hD'⟩:=D.aE g3 g4;rw[hb]at hb';obtain rfl:=dC hb';rw[hd]at hd';obtain rfl:=dC hd';obtain⟨dst2,op2,type2,pos2,after2,guard2⟩:=y;simp only at g5 hD';subst g5;cases hD';exact one k _ b d g1 g3 hb hd (λe he hb=>hc k _ hSk g3 e he hb) (by simp[Op.operands])
theorem Inv.lits(I:Inv P fl ops T val ρ0 W0 ds S pl m ρ a w)(_X:Text P ops T val)(D:Draw P fl ops){i j:Nat}{o:Oper}(ho:ops[i]? =some o)(hS:S i)(hj:fl.base i=some j):S j:=D.lit I.closed ho (λe he hb=>I.closed i o hS ho e he hb) hj
theorem Inv.early(I:Inv P fl ops T val ρ0 W0 ds S pl m ρ a w)(X:Text P ops T val)(D:Draw P fl ops){i:Nat}{o:Oper}(ho:ops[i]? =some o)(hS:¬S i)(hr:∀e∈o.after,Region.binds .any e=true->S e.on)(hal:kI fl o.op=true): ∃(v':Value)(w':World),(execOp a.eval o).run P w=.ok (.value v') w'∧Inv P fl ops T val ρ0 W0 ds (λk=>S k∨k=i) (λk=>if k=i then w.heap.size else pl k) m ρ (a.put o.dst v') w':=by
 have hi:i<ops.size:=(dM.1 ho).1;have hmi:m<=i:=ji λh=>hS (I.allocs i o ho hal h);(have hw:Region.wanted o (kO ops (T i).1)=true:=by unfold Region.wanted;rw[D.guard i o ho hal]);(have hst:StepR P o (T i).1 (T i).2 (val i) (T (i+1)).2:=by rcases(X.at ho).2 with⟨_,h⟩|⟨h,_⟩;(·exact h);·rw[hw]at h;cases h);have hnm:=qT hal;(have hok:∀x,x∈o.op.operands->kH x=true:=λx hx=>by have:=hst.ok;rw[dQ]at this;exact this x (by simpa using hx));obtain⟨v',cs,cs',ty,ty',tg,kk,h1,h2⟩:=b9b hal (hst.plain hnm) (λx hx=>I.operands X D ho hS hr (λh=>by rw[hnm]at h;cases h) (λj hj=>by have:=(D.cA ho hj).2.2;rw[hal]at this;cases this) x hx (hok x hx)) w;refine⟨_,_,h1,?_⟩;have hp:=Post.bh I.post.rel (.cells cs' ty');(have hne:∀k x,ops[k]? =some x->k≠i->∀d,x.dst=some d->o.dst≠some d:=λk x hx hki d hd hod=>by rcases gU hki with h|h;(·exact D.ne h hx ho hd hod);·exact D.ne h ho hx hod hd);(have hoff:Off ρ w.heap.size:=λA e p hq=>by have:=(I.post.rel.dom _ _ _ hq).2;omega)
 refine⟨I.le,I.post.trans hp,?_,λk x hx hmx=> ?_,λk x hx hax hk=>.inl (I.allocs k x hx hax hk),λk x hx hax hk hSk=> ?_,λk j x y hx hy g1 g2 g3 g4 g5 g6 g7=> ?_,by rw[b0Y];exact I.size,λt' ht=> ?_,λk x t' hSk hx hd hl hal'=> ?_,λk j x y t d hSk hx hka hh hj htd htl hy hyd ρ1 hV=> ?_,by rw[nK];exact I.defers⟩;(·intro j x hj hx e he hb;rcases hj with hj|rfl;(·exact .inl (I.closed j x hj hx e he hb));·rw[ho]at hx;obtain rfl:=dC hx;exact .inl (hr e he hb));(·(have:k≠i:=λhki=>by subst hki;rw[ho]at hx;obtain rfl:=dC hx;rw[hnm]at hmx;cases hmx);rw[<-I.mains k x hx hmx];simp[this]);(·by_cases hki:k=i;(·subst hki;rw[ho]at hx;obtain rfl:=dC hx;simp only[if_true];refine⟨I.post.size,by simp,hoff,v',cs,cs',ty,ty',tg,kk,h2,λd hd hl=> ?_⟩;rw[nZ,if_pos ⟨hd,by rw[I.size];exact hl⟩]);·simp only[hki,if_false];obtain⟨k1,k2,k3,v1,c1,c2,t1,t2,g1,kk1,k4,k6⟩:=I.pend k x hx hax hk (hSk.resolve_right hki);refine⟨k1,by simp;omega,k3,v1,c1,c2,t1,t2,g1,kk1,k4.mono (λ_ _ _ h=>h) (kZ k2),λd hd hl=> ?_⟩;rw[nZ,if_neg λhh=>hne k x hx hki d hd hh.1];exact k6 d hd hl)
 (·(have lt:∀k x,ops[k]? =some x->kI fl x.op=true->m<=k->S k->pl k<w.heap.size:=λk x hx ha hk hSk=>by exact(I.pend k x hx ha hk hSk).2.1);by_cases hki:k=i;(·by_cases hji:j=i;(·rw[hki,hji]);·simp only[hki,hji,if_true,if_false]at g7;have:=lt j y hy g2 g4 (g6.resolve_right hji);omega);·by_cases hji:j=i;(·simp only[hki,hji,if_true,if_false]at g7;have:=lt k x hx g1 g3 (g5.resolve_right hki);omega);·simp only[hki,hji,if_false]at g7;exact I.apart k j x y hx hy g1 g2 g3 g4 (g5.resolve_right hki) (g6.resolve_right hji) g7);(·rw[nZ,if_neg λhh=>ht i o (.inr rfl) ho hh.1];exact I.old t' λk x hk=>ht k x (.inl hk));(·(have hki:k≠i:=λhki=>by subst hki;rw[ho]at hx;obtain rfl:=dC hx;have:=hal' _ (vM hal);omega);rw[nZ,if_neg λhh=>hne k x hx hki t' hd hh.1];exact I.new k x t' (hSk.resolve_right hki) hx hd hl hal');·(have hki:k≠i:=λhki=>by subst hki;rw[ho]at hx;obtain rfl:=dC hx;rw[hal]at hka;cases hka);rw[nZ,if_neg λhh=>hne k x hx hki t htd hh.1];refine I.der k j x y t d (hSk.resolve_right hki) hx hka hh hj htd htl hy hyd ρ1 λhdl=> ?_;have h9:=hV hdl;by_cases hji:j=i;(·subst hji;exfalso;have hb:=(tO hka hh).1;obtain⟨g1,_,_,b',d',_,_,_,g2,g3,_,_,g4⟩:=D.aE hx hb;have hSk':=hSk.resolve_right hki;exact hS (I.lits X D hx hSk' hb));·rw[nZ,if_neg λhh=>hne j y hy hji d hyd hh.1]at h9;exact h9
end
end
section
variable {P:Program} {ρ:Rho} {H:Heap} {w:World} {fl:Fl} {ops:Array Oper} {T:Nat→List Value×Heap} {val:Nat→Value}
variable {ρ0:Rho} {W0:World} {ds:List Deferred} {S:Nat→Prop} {pl:Nat→Nat} {m:Nat} {a:Act}
theorem Inv.aE(I:Inv P fl ops T val ρ0 W0 ds S pl m ρ a w)(X:Text P ops T val)(D:Draw P fl ops){i j:Nat}{o:Oper}(ho:ops[i]? =some o)(hS:¬S i)(hr:∀e∈o.after,Region.binds .any e=true->S e.on)(hj:fl.base i=some j)(hmj:m<=j): ∃v',(execOp a.eval o).run P w=.ok (.value v') w∧Inv P fl ops T val ρ0 W0 ds (λk=>S k∨k=i) pl m ρ (a.put o.dst v') w:=by
 have hin:i<ops.size:=(dM.1 ho).1;have hSj:=D.lit I.closed ho hr hj;obtain⟨hji,hg,hnm,b,d,bt,blen,bparts,hb,hbd,hbo,hba,hD⟩:=D.aE ho hj;obtain⟨hmi,hai⟩:=hD.plain;obtain⟨q1,q2,q3,v0,cs,cs',ty,ty',tg,k,hpa,hslot⟩:=I.pend j b hb hba hmj hSj;(have hwj:Region.wanted b (kO ops (T j).1)=true:=by unfold Region.wanted;rw[D.guard j b hb hba]);(have hopj:opD P b (T j).1 (T j).2=some (val j,(T (j+1)).2):=by rcases(X.at hb).2 with⟨_,h⟩|⟨h,_⟩;(·exact h.plain (qT hba));·rw[hwj]at h;cases h);obtain⟨cs0,elem,size,hcons,hvj⟩:=c5x hbo hopj;(have hrowj:kB (T (j+1)).2 (T j).2.length=some (.cells cs ty true cs.length tg):=by rw[hpa.next,jY]);(have hcs:cs0=cs:=by rw[hcons,jY]at hrowj;injection (dC hrowj));subst hcs;have hA:(T j).2.length<(T (j+1)).2.length:=kV hrowj;(have hrowi:kB (T i).2 (T j).2.length=some (.cells cs0 ty true cs0.length tg):=by rw[(X.row D hA i (by omega) (by omega) λq x h1 h2 hx=>hnm q x (by omega) h2 hx).1];exact hrowj)
 (have hrow:a9Y P ρ (T i).2 w (T j).2.length cs0.length ⟨pl j,0,cs0.length,k⟩:=by intro cs2 ty2 rw2 lo2 ver2 hg2;rw[hrowi]at hg2;injection (dC hg2)with e1 e2 e3 e4 e5;subst e1 e2 e3 e4 e5;exact hpa.at_ ρ w hpa.here hpa.rel);let ρj:Rho:=Rho.put (λ_ _=>none) (T j).2.length cs0.length ⟨pl j,0,cs0.length,k⟩;have hput:ρj (T j).2.length cs0.length=some ⟨pl j,0,cs0.length,k⟩:=Rho.aq _ _ _ _;(have hdj:d<(T 0).1.length->V ρj (val j) (a.eval (.tmp d)):=λhdl=>by rw[hslot d hbd hdl];exact hpa.val _ hput);(have looks:∀t,t∈o.looksAt ops->∃ρ',V ρ' (ev (T i).1 (.tmp t)) (a.eval (.tmp t)):=by intro t ht;by_cases hl:(T 0).1.length<=t;(·rw[a8Y (by rw[X.length i (by omega)];exact hl),a4H (by rw[I.size];exact hl)];exact⟨ρ,.undef⟩);have hl:t<(T 0).1.length:=jh hl;by_cases hk:∃q x,q<i∧ops[q]? =some x∧x.dst=some t;(·obtain⟨q,x,hqi,hx,hd⟩:=hk;have hSq:S q:=D.bef I.closed i o ho hr q (D.raw hqi hx ho hd ht);rw[X.new D hx hd hl i hqi (by omega)];cases hh:mJ fl q x.op with| none=>exact⟨ρ,I.new q x t hSq hx hd hl λc hc=>by rw[hh]at hc;cases hc⟩| some c=>by_cases hcm:c<m;(·exact⟨ρ,I.new q x t hSq hx hd hl λc' hc=>by rw[hh]at hc;obtain rfl:=dC hc;exact hcm⟩);·refine⟨ρj,?_⟩;rcases D.fresh hqi hx ho hd hh ht with h|h;(·rw[hmi]at h;cases h);·rw[hj]at h;obtain rfl:=dC h;cases hax:kI fl x.op with| true=>rw[vM hax]at hh;obtain rfl:=dC hh;rw[hb]at hx;obtain rfl:=dC hx;rw[hbd]at hd;obtain rfl:=dC hd;exact hdj hl| false=>exact I.der q _ x b t d hSq hx hax hh hmj hd hl hb hbd _ hdj);·rw[X.old i (by omega) λq x hqi hx hd=>hk ⟨q,x,hqi,hx,hd⟩];refine⟨ρ,I.old t λq x hSq hx hd=> ?_⟩;rcases iG q i with h|h|h;(·exact hk ⟨q,x,h,hx,hd⟩);(·exact hS (h▸hSq));·exact hS (D.bef I.closed q x hx (λe he hb=>I.closed q x hSq hx e he hb) i (D.dr h ho hx hd ht)))
 (have hwi:Region.wanted o (kO ops (T i).1)=true:=by unfold Region.wanted;rw[hg]);(have hst:StepR P o (T i).1 (T i).2 (val i) (T (i+1)).2:=by rcases(X.at ho).2 with⟨_,h⟩|⟨h,_⟩;(·exact h);·rw[hwi]at h;cases h);have hop:=hst.plain hmi;(have hoks:∀x,x∈o.op.operands->kH x=true:=λx hx=>by have:=hst.ok;rw[dQ]at this;exact this x (by simpa using hx));(have hV:∀x,x∈o.op.operands->∃ρ',V ρ' (ev (T i).1 x) (a.eval x):=λx hx=>by have hok:=hoks x hx;cases x with| tmp t=>exact looks t (by unfold Oper.looksAt;simp only[ez,gB];exact .inl ⟨.tmp t,by simpa using hx,rfl⟩)| const v=>exact⟨ρ,.of_flat hok⟩| global g=>exact⟨ρ,.v1 (.c1 (.c0 (.glob g 0)))⟩| func f=>exact⟨ρ,.v1 (.c1 (.fn trivial trivial))⟩);have hdi:d<(T 0).1.length∨(T 0).1.length<=d:=jj _ _;have evd:d<(T 0).1.length->∀q,j<q->q<=ops.size->ev (T q).1 (.tmp d)=val j:=λhdl q h1 h2=>X.new D hb hbd hdl q h1 h2;have evn:(T 0).1.length<=d->∀q,q<=ops.size->ev (T q).1 (.tmp d)=undef:=λhdl q h1=>a8Y (by rw[X.length q h1];exact hdl)
 (have fin:∀{v':Value},(execOp a.eval o).run P w=.ok (.value v') w->((∀c,mJ fl i o.op=some c->c<m)->V ρ (val i) v')->(mJ fl i o.op=some j->∀ρ1:Rho,(d<(T 0).1.length->V ρ1 (val j) (a.eval (.tmp d)))->V ρ1 (val i) v')-> ∃v',(execOp a.eval o).run P w=.ok (.value v') w∧Inv P fl ops T val ρ0 W0 ds (λk=>S k∨k=i) pl m ρ (a.put o.dst v') w:=by intro v' h1 h2 h3;refine⟨v',h1,I.next X D ho hS hr hai (.inr ⟨hmi,rfl⟩) (.refl I.post.rel) h2 λj' b' d' hh _ hb' hd' ρ1 hV1=> ?_⟩;have:=(tO hai hh).1;rw[hj]at this;obtain rfl:=dC this;rw[hb]at hb';obtain rfl:=dC hb';rw[hbd]at hd';obtain rfl:=dC hd';exact h3 hh ρ1 hV1);obtain⟨dst,op,type,pos,after,guard⟩:=o;simp only at hD hV;cases hD with| addr t ix=>obtain⟨ρi,hVi⟩:=hV ix (by simp[Op.operands]);simp only[opD]at hop;(have hdl:d<(T 0).1.length:=by rcases hdi with h|h;(·exact h);·rw[evn h i (by omega)]at hop;simp[undef]at hop);have hVx:=hdj hdl;rw[evd hdl i hji (by omega),hvj]at hop;rw[hvj]at hVx;split at hop;(·rename_i elem' A i' e n c jk jx hu hx hi;injection hx with hx1 hx2 hx3;injection (dC hx1)with hx4 hx5 hx6;obtain rfl:=hx4;obtain rfl:=hx5;obtain rfl:=dC hx6;obtain rfl:=hx2;obtain rfl:=hx3;simp only[dF]at hop;obtain⟨sz,hs,hop⟩:=hop;split at hop;(case isFalse=>cases hop);rename_i hc;simp only[dE,decide_eq_true_eq]at hc;injection (dC hop)with e1 e2;rw[hi]at hVi;obtain⟨p,c',ad,hp,h0,hin',hnc,ha,hck,hbv⟩:=hVx.az;(obtain⟨ha,hsz⟩:ad=⟨p.b,p.at 0,none⟩∧p.at 0+c'*p.k<=p.sz:=by rcases ha with ha|ha;(·exact ha);·omega);subst ha;(have hrun:(Instr.indexAt t (a.eval (.tmp d)) (a.eval ix)).run P w=.ok (.pointer (some ⟨p.b,p.at 0+jx.toNat*sz,none⟩)) w:=by unfold Instr.indexAt;simp only[hbv,hVi.aH,asIntOf,dL,dP,dH,run_underlying hu];simp[hc,pR,lP hs]);refine fin (v':=.pointer (some ⟨p.b,p.at 0+jx.toNat*sz,none⟩)) (by simp only[execOp,dL,hrun,dH,dP]) (λh=> ?_) λ_ ρ1 h1=> ?_;(·have:=h j (by simp[mJ,kI,hj]);omega);·have h2:=h1 hdl;rw[hvj]at h2;obtain⟨p2,c2,ad2,hp2,h02,_,hnc2,ha2,_,hbv2⟩:=h2.az;(obtain⟨ha2,_⟩:ad2=⟨p2.b,p2.at 0,none⟩∧p2.at 0+c2*p2.k<=p2.sz:=by rcases ha2 with ha2|ha2;(·exact ha2);·omega);subst ha2;rw[hbv]at hbv2;injection hbv2 with g1 g2 g3;injection (dC g1)with g4 g5 g6;rw[<-e1,g4,g5,<-xT h02];exact .v1 (.c1 (.c0 (.ptr hp2 (by have:0<=jx.toNat*sz:=fb _;omega)))));(·rename_i hx _;cases hx);(·rename_i hx _;cases hx);(·cases hop)| conv s t=>have hcv:=D.conv _ _ ho;simp only[wF,dE,eF]at hcv;simp only[opD,hcv.1,Bool.not_false,gj]at hop;rcases hdi with hdl|hdl;(·have hVx:=hdj hdl;rw[evd hdl i hji (by omega),hvj]at hop;rw[hvj]at hVx;have hfl:flat (.slice (some ⟨(T j).2.length,0,some cs0.length⟩) blen size)=false:=rfl;rw[hfl]at hop;simp only[eN,if_false]at hop;split at hop;(case isFalse=>cases hop);rename_i hc;simp only[dE]at hc;cases hca:(kT (T i).2 (T j).2.length 0 cs0.length blen).bind λl=>(oH l).map Value.string with| none=>rw[hca]at hop;cases hop| some v2=>rw[hca]at hop;injection (dC hop)with e1 e2;simp only[dF,dO]at hca;obtain⟨lx,hc1,bx,hc2,hc3⟩:=hca;obtain⟨p,c',ad,hp,h0,_,_,ha,_,hbv⟩:=hVx.az;rw[hput]at hp;obtain rfl:=dC hp;have hrun:=uD hrow h0 hc.1 hc.2 hc1 hc2 ha;rw[<-hbv]at hrun;refine fin (v':=.string bx) (by simp only[execOp,dL,hrun,dH,dP]) (λ_=> ?_) λh=> ?_;(·rw[<-e1,<-hc3];exact .of_flat rfl);·simp[mJ,kI]at h);(·have e1:=evn hdl i (by omega);have e2:a.eval (.tmp d)=undef:=a4H (by rw[I.size];exact hdl);rw[e1]at hop;have hfu:flat undef=true:=rfl;rw[if_pos hfu]at hop;unfold mE at hop;split at hop;(case isFalse=>cases hop);cases h2:kC P (execOp (ev (T i).1) ⟨dst,.convert s t (.tmp d),type,pos,after,guard⟩)with| none=>rw[h2]at hop;cases hop| some nx=>rw[h2]at hop;cases nx with| value v2=>simp only at hop;split at hop;(case isFalse=>cases hop);rename_i hf2;injection (dC hop)with g1 g2;have hrun:=mM _ h2 w;(have heq:execOp (ev (T i).1) ⟨dst,.convert s t (.tmp d),type,pos,after,guard⟩=execOp a.eval ⟨dst,.convert s t (.tmp d),type,pos,after,guard⟩:=by simp only[execOp,e1,e2]);rw[heq]at hrun;refine fin hrun (λ_=> ?_) λh=> ?_;(·rw[<-g1];exact .of_flat hf2);(·simp[mJ,kI]at h)| _=>cases hop)| load t x k' y t' x' ix' g1 g2 g3 g4 g5 g6=>simp only[opD]at hop;cases hlo:mU P (T i).2 t (ev (T i).1 (.tmp x))with| none=>rw[hlo]at hop;cases hop| some r=>rw[hlo]at hop;injection (dC hop)with e1 e2;(have hxl:x<(T 0).1.length:=by refine jh λh=> ?_;rw[a8Y (by rw[X.length i (by omega)];exact h)]at hlo;simp[mU,undef]at hlo);rw[X.new D g3 g6 hxl i g2 (by omega)]at hlo;obtain⟨_,hgk,_,b',d',_,_,_,hb',hd',_,_,hD'⟩:=D.aE g3 g4;rw[hb]at hb';obtain rfl:=dC hb';rw[hbd]at hd';obtain rfl:=dC hd';have hyp:=hD'.plain;(have hwk:Region.wanted y (kO ops (T k').1)=true:=by unfold Region.wanted;rw[hgk]);(have hopk:opD P y (T k').1 (T k').2=some (val k',(T (k'+1)).2):=by rcases(X.at g3).2 with⟨_,h⟩|⟨h,_⟩;(·exact h.plain hyp.1);·rw[hwk]at h;cases h);have hSk:S k':=D.bef I.closed i _ ho hr k' (D.raw g2 g3 ho g6 (by unfold Oper.looksAt;simp only[ez,gB];exact .inl ⟨.tmp x,by simp[Op.operands],rfl⟩));(have hheld:mJ fl k' y.op=some j:=by rw[g5];simp[mJ,kI,g4]);have hVk:V ρj (val k') (a.eval (.tmp x)):=I.der k' j y b x d hSk g3 hyp.2 hheld hmj g6 hxl hb hbd _ hdj;obtain⟨dst2,op2,type2,pos2,after2,guard2⟩:=y;simp only at g5 hD';subst g5;cases hD';simp only[opD]at hopk;(have hdl:d<(T 0).1.length:=by rcases hdi with h|h;(·exact h);·rw[evn h k' (by omega)]at hopk;simp[undef]at hopk);rw[evd hdl k' g1 (by omega),hvj]at hopk;split at hopk;(·rename_i elem' A i' e n c jk jx hu hx hi;injection hx with hx1 hx2 hx3;injection (dC hx1)with hx4 hx5 hx6;obtain rfl:=hx4;obtain rfl:=hx5;obtain rfl:=dC hx6;simp only[dF]at hopk;obtain⟨sz,hs,hopk⟩:=hopk;split at hopk;(case isFalse=>cases hopk);injection (dC hopk)with f1 f2;rw[<-f1]at hlo hVk;obtain⟨p,hp,h0,hbv⟩:=hVk.aI;rw[hput]at hp;obtain rfl:=dC hp;simp only[mU]at hlo;obtain⟨r',hr1,hr2⟩:=b0n hrow h0 hlo;rw[<-hbv]at hr1;refine fin (v':=r') (by simp only[execOp,dL,hr1,dH,dP]) (λ_=> ?_) λh=> ?_;(·rw[<-e1];exact hr2);·simp[mJ,kI]at h);(·rename_i hx _;cases hx);(·rename_i hx _;cases hx);·cases hopk
theorem Inv.done(I:Inv P fl ops T val ρ0 W0 ds S pl m ρ a w)(X:Text P ops T val)(D:Draw P fl ops)(hall:∀i,i<ops.size->S i): ∃ρ',Post P ρ0 (T 0).2 W0 ρ' (T ops.size).2 w∧All2 (V ρ') (T ops.size).1 a.tmps.toList∧a.defers=ds:=by
 have hle:=I.le;(obtain⟨ρ',I'⟩:=Inv.cJ X D (ops.size-m) m ρ I (by omega) λk x h1 h2 hx=>by have hk:S k:=hall k (by omega);refine⟨?_,λ_=>hk⟩;cases hm:lD fl x.op with| false=>rfl| true=>have:=(I.mains k x hx hm).1 hk;omega);rw[show m+(ops.size-m)=ops.size by omega]at I';refine⟨ρ',I'.post,All2.bp (by rw[X.length _ (dJ _)];simpa using I'.size.symm) λt v h1=> ?_,I'.defers⟩;(have ht:t<(T 0).1.length:=by rw[<-X.length _ (dJ _)];exact(dK.1 h1).1);(have e1:ev (T ops.size).1 (.tmp t)=v:=by simp[ev,qS,dG,h1]);(have ht2:t<a.tmps.size:=by rw[I'.size];exact ht);refine⟨a.tmps[t],by simp[ht2],?_⟩;(have e2:a.eval (.tmp t)=a.tmps[t]:=by simp[Act.eval,ht2]);rw[<-e1,<-e2];by_cases hk:∃k x,k<ops.size∧ops[k]? =some x∧x.dst=some t;(·obtain⟨k,x,hkn,hx,hd⟩:=hk;rw[X.new D hx hd ht _ hkn (dJ _)];exact I'.new k x t (hall k hkn) hx hd ht λb hb=>by have:=(D.aW hx hb).1;omega);·rw[X.old _ (dJ _) λk x hkn hx hd=>hk ⟨k,x,hkn,hx,hd⟩];exact I'.old t λk x hS hx hd=>hk ⟨k,x,(dM.1 hx).1,hx,hd⟩
theorem rV{listed:Array Bool}(hsz:listed.size=ops.size){i:Nat}(h:i∈Region.ready .any ops listed): ∃o,ops[i]? =some o∧¬listed.getD i false=true∧∀e∈o.after,Region.binds .any e=true->listed.getD e.on false=true:=by unfold Region.ready at h;rw[fR]at h;obtain⟨hi,h⟩:=h;have hi:i<ops.size:=ec.1 hi;have ho:ops[i]? =some ops[i]:=dM.2 ⟨hi,rfl⟩;rw[ho,dE]at h;refine⟨ops[i],ho,?_,?_⟩;(·have h1:=h.1;rw[fh,fW (by omega)]at h1 ⊢;simpa using h1);·have h2:=h.2;simp only[eG,ga,Array.all_eq_true_iff_forall_mem,fi,eF]at h2;intro e he hb;rcases h2 e he with h|h;(·rw[hb]at h;cases h);·exact h
theorem a2q{listed:Array Bool}(hsz:listed.size=ops.size){i:Nat}{o:Oper}(ho:ops[i]? =some o)(hn:¬listed.getD i false=true)(hr:∀e∈o.after,Region.binds .any e=true->listed.getD e.on false=true):i∈Region.ready .any ops listed:=by have hi:i<ops.size:=(dM.1 ho).1;unfold Region.ready;rw[fR];refine⟨ec.2 hi,?_⟩;rw[ho,dE];constructor;(·rw[fh,fW (by omega)]at hn ⊢;simpa using hn);·simp only[eG,ga,Array.all_eq_true_iff_forall_mem,fi,eF];intro e he;cases hb:Region.binds .any e with| false=>exact .inl rfl| true=>exact .inr (hr e he hb)
theorem b8c{listed:Array Bool}(hsz:listed.size=ops.size)(h:∀i,i<ops.size->listed.getD i false=true):Region.ready .any ops listed=[]:=by cases hr:Region.ready .any ops listed with| nil=>rfl| cons i r=>obtain⟨o,ho,hn,_⟩:=rV hsz (i:=i) (by rw[hr];simp);exact absurd (h i (dM.1 ho).1) hn
theorem a2S(D:Draw P fl ops){listed:Array Bool}(hsz:listed.size=ops.size)(h:Region.ready .any ops listed=[]):∀i,i<ops.size->listed.getD i false=true:=by intro i;induction i using Nat.strongRecOn with| _ i ih=>intro hi;have ho:ops[i]? =some ops[i]:=dM.2 ⟨hi,rfl⟩;refine eW λhn=> ?_;(have:=a2q hsz ho hn λe he hb=>by have:=D.back i _ e ho he hb;exact ih e.on this (by omega));rw[h]at this;cases this
theorem wG{listed:Array Bool}{i:Nat}(hi:i<listed.size)(j:Nat):(listed.setIfInBounds i true).getD j false=true↔(listed.getD j false=true∨j=i):=by rw[fh,fh,Array.getElem?_setIfInBounds];by_cases h:i=j;(·subst h;simp[hi]);·simp[h,fM h]
theorem Inv.congr{S':Nat->Prop}(h:∀j,S' j↔S j)(I:Inv P fl ops T val ρ0 W0 ds S pl m ρ a w):Inv P fl ops T val ρ0 W0 ds S' pl m ρ a w:=by have:S'=S:=funext λj=>propext (h j);rw[this];exact I
theorem c4G{o:Oper}{i:Nat}(h:(o,i)∈ops.toList.zipIdx):ops[i]? =some o:=by rw[iZ]at h;simpa using h
theorem b7i{j:Nat}{x:Oper}(hx:ops[j]? =some x)(hm:lD fl x.op=true):j∈a1K fl ops:=by unfold a1K;rw[gB];exact⟨(x,j),pA hx,by simp[hm]⟩
theorem a6N{j:Nat}(h:j∈a1K fl ops):∃x,ops[j]? =some x∧lD fl x.op=true:=by unfold a1K at h;rw[gB]at h;obtain⟨⟨x,j'⟩,h1,h2⟩:=h;simp only at h2;split at h2;(·rename_i hm;obtain rfl:=dC h2;exact⟨x,c4G h1,hm⟩);·cases h2
theorem b0l{j:Nat}{x:Oper}(hx:ops[j]? =some x)(hm:lD fl x.op=true∨kI fl x.op=true):j∈a2o fl ops:=by unfold a2o;rw[gB];exact⟨(x,j),pA hx,by rcases hm with hm|hm<;>simp[hm]⟩
theorem c0s{i m:Nat}{o:Oper}(ho:ops[i]? =some o)(hr:qA o.op=true)(hm:m=0∨∃j x,m=j+1∧ops[j]? =some x∧lD fl x.op=true) (hlo:∀j x,ops[j]? =some x->lD fl x.op=true->(bef ops i j=true->j<m)∧(bef ops j i=true->m<=j)) (hbs:∀j,fl.base i=some j->j<m): (i,m)∈oN fl ops∨∀j x,ops[j]? =some x->min m i<=j->j<max m i->lD fl x.op=false∧kI fl x.op=false:=by
 by_cases h:∃j x,ops[j]? =some x∧(lD fl x.op=true∨kI fl x.op=true)∧min m i<=j∧j<max m i;(·obtain⟨j,x,hx,he,h1,h2⟩:=h;refine .inl ?_;unfold oN;rw[fx];refine⟨(o,i),pA ho,?_⟩;simp only[hr,if_true];rw[dS];refine⟨m,?_,rfl⟩;rw[fR];refine⟨?_,?_⟩;(·rcases hm with rfl|⟨j,x,rfl,hx,hmx⟩;(·simp);·exact ew _ (dS.2 ⟨j,b7i hx hmx,rfl⟩));·rw[dE,dE];refine⟨⟨?_,?_⟩,?_⟩;(·rw[dQ];intro j hj;obtain⟨x,hx,hmx⟩:=a6N hj;obtain⟨g1,g2⟩:=hlo j x hx hmx;unfold bef at g1 g2;rw[dE];constructor;(·cases hb:((a5Z [] ops.toList).getD i 0).testBit j with| false=>rfl| true=>simpa using g1 hb);·cases hb:((a5Z [] ops.toList).getD j 0).testBit i with| false=>rfl| true=>simpa using g2 hb);(·rw[jg];exact⟨j,b0l hx he,by rw[dE];exact⟨decide_eq_true h1,decide_eq_true h2⟩⟩);·split;(·rename_i j hj;exact decide_eq_true (hbs j hj));·rfl);·refine .inr λj x hx h1 h2=> ?_;constructor;(·cases hm:lD fl x.op with| false=>rfl| true=>exact absurd ⟨j,x,hx,.inl hm,h1,h2⟩ h);·cases hm:kI fl x.op with| false=>rfl| true=>exact absurd ⟨j,x,hx,.inr hm,h1,h2⟩ h
theorem a4m{i m:Nat}(h:(i,m)∈oN fl ops):m<=ops.size:=by unfold oN at h;rw[fx]at h;obtain⟨⟨x,j⟩,_,h⟩:=h;simp only at h;split at h;(·rw[dS]at h;obtain⟨m',h,he⟩:=h;injection he with h1 h2;subst h1 h2;rw[fR]at h;rcases ed.1 h.1 with h|h;(·omega);·rw[dS]at h;obtain⟨q,hq,rfl⟩:=h;obtain⟨x,hx,_⟩:=a6N hq;exact(dM.1 hx).1);·cases h
theorem c9F(X:Text P ops T val)(D:Draw P fl ops) (hread:∀i m o,(i,m)∈oN fl ops->ops[i]? =some o->Region.wanted o (kO ops (T i).1)=true->∃H2,opD P o (T i).1 (T m).2=some (val i,H2)) (ro:Option Nat) (k:Nat) {Q:Exit->Act->World->Prop} (hQ:∀ρ' a' w',Post P ρ0 (T 0).2 W0 ρ' (T ops.size).2 w'->All2 (V ρ') (T ops.size).1 a'.tmps.toList->a'.defers=ds->Q .normal a' w'): ∀(fuel:Nat)(listed:Array Bool)(U:List Nat),listed.size=ops.size->(∀i,i<ops.size->¬listed.getD i false=true->i∈U)->U.length<=fuel-> ∀(pl:Nat->Nat)(m:Nat)(ρ:Rho)(a:Act)(w:World),Inv P fl ops T val ρ0 W0 ds (λj=>listed.getD j false=true) pl m ρ a w->(m=0∨∃j o,m=j+1∧ops[j]? =some o∧lD fl o.op=true)-> wpAnyIn (fe ro) k P .any ops Q fuel listed a w:=by
 (have fin:∀{listed:Array Bool}{pl:Nat->Nat}{m:Nat}{ρ:Rho}{a:Act}{w:World},(∀i,i<ops.size->listed.getD i false=true)->Inv P fl ops T val ρ0 W0 ds (λj=>listed.getD j false=true) pl m ρ a w->Q .normal a w:=by intro listed pl m ρ a w hall I;obtain⟨ρ',h1,h2,h3⟩:=I.done X D hall;exact hQ ρ' a w h1 h2 h3);intro fuel;induction fuel with| zero=>intro listed U hsz hU hlen pl m ρ a w I hm;(have hall:∀i,i<ops.size->listed.getD i false=true:=λi hi=>eW λhn=>by have:=hU i hi hn;have h0:U=[]:=fu (by omega);rw[h0]at this;cases this);exact⟨b8c hsz hall,fin hall I⟩| succ fuel ih=>intro listed U hsz hU hlen pl m ρ a w I hm;refine⟨λh=>fin (a2S D hsz h) I,λi hi=> ?_⟩;obtain⟨o,ho,hn,hr⟩:=rV hsz hi;have hin:i<ops.size:=(dM.1 ho).1;have hiU:i∈U:=hU i hin hn;(have on:∀(pl:Nat->Nat)(m:Nat)(ρ:Rho)(a:Act)(w:World),Inv P fl ops T val ρ0 W0 ds (λj=>listed.getD j false=true∨j=i) pl m ρ a w->(m=0∨∃j o,m=j+1∧ops[j]? =some o∧lD fl o.op=true)-> wpAnyIn (fe ro) k P .any ops Q fuel (listed.setIfInBounds i true) a w:=by intro pl m ρ a w I hm;refine ih (listed.setIfInBounds i true) (U.erase i) (by simp[hsz]) ?_ (by have h1:=List.length_erase_of_mem hiU;have h2:=List.length_pos_of_mem hiU;omega) pl m ρ a w (I.congr λj=>wG (by omega) j) hm;intro j hj hnj;have hnj':=mt (wG (by omega) j).2 hnj;have hji:j≠i:=λh=>hnj' (.inr h);exact(List.mem_erase_of_ne hji).2 (hU j hj λh=>hnj' (.inl h)));unfold wpOpIn;rw[ho];simp only;cases hma:lD fl o.op with| true=>have hmi:m<=i:=ji λh=>hn ((I.mains i o ho hma).2 h);(obtain⟨ρ1,I1⟩:=Inv.cJ X D (i-m) m ρ I (by omega) λj x h1 h2 hx=>by(have hji:j<i:=by omega);refine⟨?_,λhal=>D.bef I.closed i o ho hr j (D.main hji hx ho (.inr hal) hma)⟩;cases hmx:lD fl x.op with| false=>rfl| true=>have:=(I.mains j x hx hmx).1 (D.bef I.closed i o ho hr j (D.main hji hx ho (.inl hmx) hma));omega);rw[show m+(i-m)=i by omega]at I1;(have hna:kI fl o.op=false:=by cases h:kI fl o.op with| false=>rfl| true=>rw[qT h]at hma;cases hma);have hbm:∀j,fl.base i=some j->j<i:=λj hj=>(D.cA ho hj).1;rw[I1.wanted X D ho hn hr (λ_=>rfl) hbm];(have nod:∀{v':Value}(j:Nat)(b:Oper)(d:Tmp),mJ fl i o.op=some j->i+1<=j->ops[j]? =some b->b.dst=some d->∀ρ1:Rho,(d<(T 0).1.length->V ρ1 (val j) (a.eval (.tmp d)))->V ρ1 (val i) v':=λj b d hh hij=>by have:=(D.aW ho hh).1;omega);rcases(X.at ho).2 with⟨hw,hst⟩|⟨hw,hv,hT⟩;(·rw[hw,if_pos rfl];refine hst.sound I1.post.rel (I1.operands X D ho hn hr (λ_=>rfl) hbm) ro k λρ2 v2 w2 hp2 hv2=> ?_;exact on _ _ _ _ _ (I1.next X D ho hn hr hna (.inl ⟨hma,rfl,rfl⟩) hp2 (λ_=>hv2) nod) (.inr ⟨i,o,rfl,ho,hma⟩));(·rw[hw,if_neg (by simp)];refine⟨λ_ _=>trivial,?_⟩;refine on _ _ _ _ _ (I1.next X D ho hn hr hna (.inl ⟨hma,rfl,rfl⟩) (by rw[hT];exact .refl I1.post.rel) (λ_=>by rw[hv];exact .undef) nod) (.inr ⟨i,o,rfl,ho,hma⟩))| false=>by_cases hder:∃j,fl.base i=some j∧m<=j;(·obtain⟨j,hj,hmj⟩:=hder;obtain⟨v',hrun,I'⟩:=I.aE X D ho hn hr hj hmj;have hg:=(D.aE ho hj).2.1;(have hw:Region.wanted o (yielded ops a.tmps)=true:=by unfold Region.wanted;rw[hg]);rw[hw,if_pos rfl];refine⟨λ_ _=>trivial,?_⟩;(have hdef:∀c,o.op≠.defer c:=λc hc=>by obtain⟨_,_,_,_,_,_,_,_,_,_,_,_,hD⟩:=D.aE ho hj;rw[hc]at hD;cases hD);rw[iM _ _ _ hdef,hrun];exact on _ _ _ _ _ I' hm);have hbm:∀j,fl.base i=some j->j<m:=λj hj=>jh λh=>hder ⟨j,hj,h⟩;rw[I.wanted X D ho hn hr (λh=>by rw[hma]at h;cases h) hbm];cases hal:kI fl o.op with| true=>(have hw:Region.wanted o (kO ops (T i).1)=true:=by unfold Region.wanted;rw[D.guard i o ho hal]);rw[hw,if_pos rfl];obtain⟨v',w',hrun,I'⟩:=I.early X D ho hn hr hal;refine⟨λ_ _=>trivial,?_⟩;(have hdef:∀c,o.op≠.defer c:=λc hc=>by rw[hc]at hal;cases hal);rw[iM _ _ _ hdef,hrun];exact on _ _ _ _ _ I' hm| false=>have hops:=I.operands X D ho hn hr (λh=>by rw[hma]at h;cases h) hbm;(have nod:∀{v':Value}(j:Nat)(b:Oper)(d:Tmp),mJ fl i o.op=some j->m<=j->ops[j]? =some b->b.dst=some d->∀ρ1:Rho,(d<(T 0).1.length->V ρ1 (val j) (a.eval (.tmp d)))->V ρ1 (val i) v':=λj b d hh hij=>by have:=hbm j (tO hal hh).1;omega);rcases(X.at ho).2 with⟨hw,hst⟩|⟨hw,hv,hT⟩;(·rw[hw,if_pos rfl];have hop:=hst.plain hma;(have hopm:opD P o (T i).1 (T m).2=some (val i,(T m).2):=by cases hrd:qA o.op with| false=>exact(b1R (T m).2 (D.conv _ _ ho) hma hal hrd hop).2| true=>have hlo:∀j x,ops[j]? =some x->lD fl x.op=true->(bef ops i j=true->j<m)∧(bef ops j i=true->m<=j):=λj x hx hmx=>⟨λhb=>(I.mains j x hx hmx).1 (D.bef I.closed i o ho hr j hb),λhb=>ji λhlt=>by have hSj:=(I.mains j x hx hmx).2 hlt;exact hn (D.bef I.closed j x hx (λe he hb'=>I.closed j x hSj hx e he hb') i hb)⟩;rcases c0s ho hrd hm hlo hbm with hmem|hno;(·obtain⟨H2,hH2⟩:=hread i m o hmem ho hw;rw[hH2,a2y (D.conv _ _ ho) hrd hH2]);·(have hTT:(T m).2=(T i).2:=by rcases Nat.le_total m i with h|h;(·exact(X.bF D i h (by omega) λj x h1 h2 hx=>hno j x hx (by omega) (by omega)).symm);·exact X.bF D m h I.le λj x h1 h2 hx=>hno j x hx (by omega) (by omega));rw[hTT];have:=a2y (D.conv _ _ ho) hrd hop;rw[hop,this]);refine(StepR.op hst.ok hopm).sound I.post.rel hops ro k λρ2 v2 w2 hp2 hv2=> ?_;exact on _ _ _ _ _ (I.next X D ho hn hr hal (.inr ⟨hma,rfl⟩) hp2 (λ_=>hv2) nod) hm);·rw[hw,if_neg (by simp)];refine⟨λ_ _=>trivial,?_⟩;exact on _ _ _ _ _ (I.next X D ho hn hr hal (.inr ⟨hma,rfl⟩) (.refl I.post.rel) (λ_=>by rw[hv];exact .undef) nod) hm
end
section
variable {P:Program} {ρ:Rho} {H:Heap} {w:World}
theorem a8L{B:Nat}{id:Nat}{e:Ex}{l':List Value}{H':Heap}{e2:Ex}(he:e2=(match e with|.exit i=>if i=id then .normal else .exit i|e=>e)){e':Exit}{a':Act}{w':World} (h:QD P ρ H w B e l' H' e' a' w'):Exit.inBlock id (QD P ρ H w B e2 l' H') e' a' w':=by obtain⟨h1,h2⟩:=h;subst h1;cases e with| normal=>simp only at he;subst he;exact⟨rfl,h2⟩| ret=>simp only at he;subst he;exact⟨rfl,h2⟩| exit i=>simp only[Ex.cz,Exit.inBlock]at he ⊢;by_cases hi:i=id;(·rw[if_pos hi]at he;subst he;rw[if_pos hi];exact⟨rfl,h2⟩);·rw[if_neg hi]at he;subst he;rw[if_neg hi];exact⟨rfl,h2⟩
theorem a7J{B:Nat}{e:Ex}{l':List Value}{H':Heap}(hne:e≠.normal){next:Act->World->Prop}{e':Exit}{a':Act}{w':World} (h:QD P ρ H w B e l' H' e' a' w'):Exit.then next (QD P ρ H w B e l' H') e' a' w':=by have h1:=h.1;cases e with| normal=>exact absurd rfl hne| exit id=>subst h1;exact h| ret=>subst h1;exact h
theorem c4p(h:HRel P ρ H w)(e:Nat)(p:Place):ρ.Le (ρ.put H.length e p):=.put (oX h e)
theorem b1v{ex:Run}(hex:∀c l H e l' H',ex c l H=some (e,l',H')->Sim P c l H e l' H'){g:Operand}{ps:Array Tmp}{assign body:Code}{l:List Value}{v:Value}{H2:Heap} (hc:a7T P ex (ev l g) H.length (H.cons (.loop {state:=.ready,pending:=none,fn:=0,tmps:=l.toArray,params:=ps,assign,body,defers:=0}))=some (v,H2)) (hgo:kH g=true) {r:Loop} (hg:kB H2 H.length=some (.loop r)) (hnb:r.state≠.busy) {e:Ex} {l':List Value} {H':Heap} (hnext0:r.pending=none->e=.normal∧l'=l∧H'=hset H2 H.length (.loop {r with state:=.exhausted})) (hnext1:∀c,r.pending=some c->Sim P c l (hset H2 H.length (.loop {r with state:=.exhausted})) e l' H'):Sim P (.rangeFunc g ps assign body) l H e l' H':=by
 intro ro k B ρ w a hr hE hl hM hB;refine wpIn_rangeFunc ?_;intro fn _;(obtain⟨lc,mark,w1,df,henter,hpost0,hmark,hlc,hw1⟩:∃(lc:Nat)(mark:List Deferred)(w1:World)(df:Nat),(Instr.enterLoop fn a.tmps ps assign body ro).run P w=.ok (lc,mark) w1∧ Post P ρ H w (ρ.put H.length 0 ⟨lc,0,0,0⟩) (H.cons (.loop {state:=.ready,pending:=none,fn:=0,tmps:=l.toArray,params:=ps,assign,body,defers:=0})) w1∧ Marks B w1 (mark++a.defers)∧w.heap.size<=lc∧w1.heap[lc]? =some (.loop {state:=.ready,pending:=none,fn:=fn,tmps:=a.tmps,params:=ps,assign,body,defers:=df}):=by(have hloop:∀(ρ:Rho)(w:World),HRel P ρ H w->All2 (V ρ) l a.tmps.toList->∀df:Nat,Post P ρ H w (ρ.put H.length 0 ⟨w.heap.size,0,0,0⟩) (H.cons (.loop {state:=.ready,pending:=none,fn:=0,tmps:=l.toArray,params:=ps,assign,body,defers:=0})) (w.alloc (.loop {state:=.ready,pending:=none,fn:=fn,tmps:=a.tmps,params:=ps,assign,body,defers:=df})):=λρ w hr hE df=>by refine Post.new hr _ _ 0 ⟨w.heap.size,0,0,0⟩ rfl (λ_ _ _ _ _ e=>by cases e) (λ_ _ _ e=>by cases e) (λr e=> ?_);injection e with e;subst e;refine⟨rfl,_,rfl,rfl,rfl,?_,rfl,rfl,rfl⟩;simpa using hE.mono λ_ _ h=>h.mono (c4p hr _ _));cases ro with| none=>have hp1:=Post.bh hr (.deferred (some []));have hp2:=hloop ρ (w.alloc (.deferred (some []))) hp1.rel hE w.heap.size;rw[World.size_alloc]at hp2;refine⟨w.heap.size+1,[{target:=.collected w.heap.size,args:=#[]}],_,w.heap.size,run_enterLoop_outer fn a.tmps ps assign body,hp1.trans hp2,?_,by omega,?_⟩;(·obtain⟨rs,h1,h2,h3⟩:=hM.post hr (hp1.trans hp2);refine⟨w.heap.size::rs,by simp[h1],ju.2 ⟨λhmem=> ?_,h2⟩,λq hq=> ?_⟩;(·obtain⟨rs0,k1,k2,k3⟩:=hM;(have e:rs0=rs:=by have:=k1.symm.trans h1;(have inj:∀(x y:List Nat),x.map Target.collected=y.map Target.collected->x=y:=by intro x;induction x with| nil=>intro y h;(cases y with|nil=>rfl|cons=>simp at h)| cons a x ih=>intro y h;cases y with|nil=>simp at h|cons b y=>simp at h;rw[h.1,ih y h.2]);exact inj _ _ this);subst e;have:=oF (k3 _ hmem).2;omega);·rcases ed.1 hq with rfl|hq;(·refine⟨hB,?_⟩;rw[kZ (by simp)];exact lA w _);·exact h3 q hq);(·have:=lA (w.alloc (.deferred (some []))) (.loop {state:=.ready,pending:=none,fn:=fn,tmps:=a.tmps,params:=ps,assign,body,defers:=w.heap.size});rwa [World.size_alloc]at this)| some l0=>obtain⟨r0,hr0⟩:=hl l0 rfl;have hp2:=hloop ρ w hr hE r0.defers;refine⟨w.heap.size,[],_,r0.defers,?_,hp2,by simpa using hM.post hr hp2,dJ _,lA w _⟩;unfold Instr.enterLoop;simp only[dL,run_getLoop hr0,run_newObj_alloc,dH,dP])
 unfold a7T at hc;split at hc;(·rename_i f first captured hev;have hgv:=vC hE hgo;rw[hev]at hgv;obtain⟨first',captured',hfe,hfa,hfc⟩:=hgv.bg;obtain⟨fnc,hfn,hbody,hname⟩:=c1Z hc;have hLp:(ρ.put H.length 0 ⟨lc,0,0,0⟩) H.length 0=some ⟨lc,0,0,0⟩:=Rho.aq _ _ _ _;refine⟨lc,mark,w1,{target:=.fn (.func f) captured',args:=first'++#[Value.func (.yield lc) #[] #[]]},w1,f,first'++#[Value.func (.yield lc) #[] #[]]++captured',w1,henter,?_,λ_ _=>trivial,?_,a1r ro,?_⟩;(·simp only[resolve,hfe,Deferred.ofValue,dP];simp[Act.eval]);(·simp only[invoke];exact vQ hfn hbody hname _ w1);·(have hargs:All2 (V (ρ.put H.length 0 ⟨lc,0,0,0⟩)) (first.toList++[Value.func (.yield H.length) #[] #[]]++captured.toList) (first'++#[Value.func (.yield lc) #[] #[]]++captured').toList:=by simp only[gP];exact((((hfa.mono λ_ _ h=>h.mono hpost0.le).aO).append (show All2 (V _) [Value.func (.yield H.length) #[] #[]] [Value.func (.yield lc) #[] #[]]from⟨.v1 (.c1 (C1.yld hLp)),trivial⟩)).append (hfc.mono λ_ _ h=>h.mono hpost0.le).aO));have hcall:=b1W hex hc (k-1) _ w1 _ hpost0.rel hargs;have hci:CallsIn (fe ro) (k-1) P f (first'++#[Value.func (.yield lc) #[] #[]]++captured') w1 λe w'=>∃ρ' v',e=.returned v'∧Post P (ρ.put H.length 0 ⟨lc,0,0,0⟩) _ w1 ρ' H2 w'∧V ρ' v v':=hcall;refine hci.mono ?_;rintro e2 w2⟨ρ2,v2,rfl,hp2,_⟩;obtain⟨r',hw2,hrel⟩:=a3H hp2.rel hg (hp2.le _ _ _ hLp);have hp3:=Post.bq (r:={r with state:=.exhausted}) (r':={r' with state:=.exhausted}) hp2.rel hg (hp2.le _ _ _ hLp) hw2 ⟨rfl,hrel.pending,hrel.tmps,hrel.params,hrel.assign,hrel.body⟩;have hend:=run_endLoop (P:=P) hw2 (by rw[hrel.state];exact hnb);revert hp3 hend;generalize w2.putObj lc (.loop {r' with state:=.exhausted})=w3;intro hp3 hend;have hall:=hpost0.trans (hp2.trans hp3);have hM3:Marks B _ (mark++a.defers):=hmark.post hpost0.rel (hp2.trans hp3);have hE3:=hE.mono λ_ _ h=>h.mono hall.le;refine⟨r'.pending,w3,hend,?_⟩;rw[hrel.pending];cases hpend:r.pending with| none=>obtain⟨rfl,rfl,rfl⟩:=hnext0 hpend;exact⟨rfl,ρ2,hall,hE3,hM3⟩| some c=>refine wpIn_mono (hnext1 c hpend ro k B ρ2 _ {a with defers:=mark++a.defers} hp3.rel hE3 (hl.post hall) hM3 (ey hB hall.size)) ?_;intro e5 a5 w5 hq;exact hq.trans hall)
 ·cases hc
end
section
variable {P:Program} {ρ:Rho} {H:Heap} {w:World}
theorem Sim.skip(l:List Value)(H:Heap):Sim P .skip l H .normal l H:=λro k B ρ w a hr hE hl hM hB=>wpIn_skip ⟨rfl,ρ,.refl hr,hE,hM⟩
theorem Sim.label(t:Nat)(l:List Value)(H:Heap):Sim P (.label t) l H .normal l H:=λro k B ρ w a hr hE hl hM hB=>wpIn_label ⟨rfl,ρ,.refl hr,hE,hM⟩
theorem Sim.exit(id:Nat)(l:List Value)(H:Heap):Sim P (.exit id) l H (.exit id) l H:=λro k B ρ w a hr hE hl hM hB=>wpIn_exit ⟨rfl,ρ,.refl hr,hE,hM⟩
theorem Sim.ret(l:List Value)(H:Heap):Sim P .ret l H .ret l H:=λro k B ρ w a hr hE hl hM hB=>wpIn_ret ⟨rfl,ρ,.refl hr,hE,hM⟩
theorem Sim.seq{a b:Code}{l:List Value}{H:Heap}{l1:List Value}{H1:Heap}{e:Ex}{l2:List Value}{H2:Heap}(h1:Sim P a l H .normal l1 H1)(h2:Sim P b l1 H1 e l2 H2):Sim P (.seq a b) l H e l2 H2:=λro k B ρ w a hr hE hl hM hB=>wpIn_seq (QD.cR h1 h2 hr hE hl hM hB)
theorem Sim.seq'{a b:Code}{l:List Value}{H:Heap}{e:Ex}{l2:List Value}{H2:Heap}(h1:Sim P a l H e l2 H2)(hne:e≠.normal):Sim P (.seq a b) l H e l2 H2:=λro k B ρ w a hr hE hl hM hB=>wpIn_seq (wpIn_mono (h1 ro k B ρ w a hr hE hl hM hB) λe' a' w' hq=>a7J hne hq)
theorem Sim.cond{c:Operand}{t:Bool}{x y:Code}{l:List Value}{H:Heap}{e:Ex}{l2:List Value}{H2:Heap}(hc:ev l c=.bool t)(hok:kH c=true)(h:Sim P (if t then x else y) l H e l2 H2):Sim P (.cond c x y) l H e l2 H2:=λro k B ρ w a hr hE hl hM hB=>by have hv:=vC hE hok;rw[hc]at hv;exact wpIn_cond hv.aG (h ro k B ρ w a hr hE hl hM hB)
def Ex.out(id:Nat):Ex->Ex| .exit i=>if i=id then .normal else .exit i| e=>e
theorem Sim.block{id:Nat}{b:Code}{l:List Value}{H:Heap}{e:Ex}{l2:List Value}{H2:Heap}(h:Sim P b l H e l2 H2):Sim P (.block id b) l H (e.out id) l2 H2:=λro k B ρ w a hr hE hl hM hB=>wpIn_block (wpIn_mono (h ro k B ρ w a hr hE hl hM hB) λe' a' w' hq=>a8L (by cases e<;>rfl) hq)
theorem zU{F:Fence}{k:Nat}{c:Code}{Q Q':Exit->Act->World->Prop}(h:∀e a w,Q e a w->Q' e a w):∀(m:Nat)(a:Act)(w:World),Code.roundsIn F k P c Q m a w->Code.roundsIn F k P c Q' m a w| 0,_,_,hh=>hh| m+1,a,w,hh=>by rw[roundsIn_succ]at hh ⊢;refine wpIn_mono hh ?_;intro e3 a3 w3 hq;cases e3<;>first|exact zU h m _ _ hq|exact h _ _ _ hq
inductive Rounds(P:Program)(c:Code):Nat->List Value->Heap->Ex->List Value->Heap->Prop where| last {l:List Value} {H:Heap} {e:Ex} {l':List Value} {H':Heap} (h:Sim P c l H e l' H') (hne:e≠.normal):Rounds P c 1 l H e l' H'| more {n:Nat} {l:List Value} {H:Heap} {l1:List Value} {H1:Heap} {e:Ex} {l':List Value} {H':Heap} (h:Sim P c l H .normal l1 H1) (hh:Rounds P c n l1 H1 e l' H'):Rounds P c (n+1) l H e l' H'
theorem Rounds.sound{c:Code}{n:Nat}{l:List Value}{H:Heap}{e:Ex}{l':List Value}{H':Heap}(h:Rounds P c n l H e l' H'): ∀(ro:Option Nat)(k B:Nat)(ρ:Rho)(w:World)(a:Act),HRel P ρ H w->All2 (V ρ) l a.tmps.toList->LoopAt ro w->Marks B w a.defers->B<=w.heap.size->Code.roundsIn (fe ro) k P c (QD P ρ H w B e l' H') n a w:=by induction h with| last h hne=>intro ro k B ρ w a hr hE hl hM hB;rw[roundsIn_succ];exact wpIn_mono (h ro k B ρ w a hr hE hl hM hB) λe' a' w' hq=>a7J hne hq| more h hh ih=>intro ro k B ρ w a hr hE hl hM hB;rw[roundsIn_succ];refine wpIn_mono (h ro k B ρ w a hr hE hl hM hB) ?_;rintro e' a' w'⟨he,ρ',hp,hE',hM'⟩;subst he;exact zU (λ_ _ _ hq=>hq.trans hp) _ _ _ (ih ro k B ρ' w' a' hp.rel hE' (hl.post hp) hM' (ey hB hp.size))
theorem Sim.loop{c:Code}{n:Nat}{l:List Value}{H:Heap}{e:Ex}{l':List Value}{H':Heap}(h:Rounds P c n l H e l' H'):Sim P (.loop c) l H e l' H':=λro k B ρ w a hr hE hl hM hB=>wpIn_loop_rounds n (h.sound ro k B ρ w a hr hE hl hM hB)
theorem Sim.region{id:Nat}{ops:Array Oper}{l:List Value}{H:Heap}{l':List Value}{H':Heap}(h:OpsR P ops (List.range ops.size) l H l' H'):Sim P (.region id ops false) l H .normal l' H':=λro k B ρ w a hr hE hl hM hB=>wpIn_region (h.sound ro k ρ w a hr hE (by rintro a' w'⟨ρ',hp,hE',hd⟩;exact⟨rfl,ρ',hp,hE',by rw[hd];exact hM.post hr hp⟩))
theorem a7z{fl:Fl}{ops:Array Oper}(D:Draw P fl ops){T:Nat->List Value×Heap}{val:Nat->Value}(X:Text P ops T val) (hread:∀i m o,(i,m)∈oN fl ops->ops[i]? =some o->Region.wanted o (kO ops (T i).1)=true->∃H2,opD P o (T i).1 (T m).2=some (val i,H2)) (ro:Option Nat) (k B:Nat) {ρ:Rho} {w:World} {a:Act} (hr:HRel P ρ (T 0).2 w) (hE:All2 (V ρ) (T 0).1 a.tmps.toList) (hM:Marks B w a.defers): wpAnyIn (fe ro) k P .any ops (QD P ρ (T 0).2 w B .normal (T ops.size).1 (T ops.size).2) ops.size (Array.replicate ops.size false) a {w with drawn:=w.drawn+1}:=by
 have hdrew:Post P ρ (T 0).2 w ρ (T 0).2 {w with drawn:=w.drawn+1}:=Post.drew hr;refine c9F (ρ0:=ρ) (W0:=w) (ds:=a.defers) X D hread ro k ?_ ops.size _ (List.range ops.size) (by simp) (λi hi _=>ec.2 hi) (by simp) (λ_=>0) 0 ρ a _ ?_ (.inl rfl);(·intro ρ' a' w' h1 h2 h3;exact⟨rfl,ρ',h1,h2,by rw[h3];exact hM.post hr h1⟩);·(have hfalse:∀j,¬(Array.replicate ops.size false).getD j false=true:=λj=>by rw[fh,Array.getElem?_replicate];split<;>simp);exact⟨fb _,hdrew,λj _ hj=>absurd hj (hfalse j),λi o ho hm=>⟨λh=>absurd h (hfalse i),λh=>absurd h (eh _)⟩,λi o ho ha hi=>absurd hi (eh _),λi o ho ha hi hS=>absurd hS (hfalse i),λi j x y hx hy h1 h2 h3 h4 h5=>absurd h5 (hfalse i),by simpa using hE.length.symm,λt _=>a5A hE t,λi o t hS=>absurd hS (hfalse i),λi _ _ _ _ _ hS=>absurd hS (hfalse i),rfl⟩
theorem Sim.draw(lZ:P.follows .mixedOrders=true){id:Nat}{ops:Array Oper}{tab:List (Nat×Nat)}(htab:pJ P ops=some tab){T:Nat->List Value×Heap}{val:Nat->Value}(X:Text P ops T val) (hread:∀i m o,(i,m)∈tab->ops[i]? =some o->Region.wanted o (kO ops (T i).1)=true->∃H2,opD P o (T i).1 (T m).2=some (val i,H2)): Sim P (.region id ops true) (T 0).1 (T 0).2 .normal (T ops.size).1 (T ops.size).2:=by intro ro k B ρ w a hr hE hl hM hB;obtain⟨fl,D,rfl⟩:=sT htab;exact wpIn_region_any lZ (a7z D X hread ro k B hr hE hM)
theorem CallOk.bU{f:FuncId}{fn:Func}{c:Code}{args:List Value}{e:Ex}{l1:List Value}{H1:Heap}{v:Value}(hf:P.funcs[f]? =some fn)(hb:fn.body=some c)(hn:(fn.name== "runtime.NumGoroutine")=false) (hs:Sim P c (args++List.replicate (fn.ntmps-args.length) undef) H e l1 H1) (he:e=.normal∨e=.ret) (hres:jS P fn l1 H1=some v):CallOk P f args H v H1:=by
 classical let ex:Run:=λc' l' H'=>if c'=c∧l'=args++List.replicate (fn.ntmps-args.length) undef∧H'=H then some (e,l1,H1)else none;(have hex:∀c l H e l' H',ex c l H=some (e,l',H')->Sim P c l H e l' H':=by intro c' l' H' e' l2 H2 h;simp only[ex]at h;split at h;(·rename_i hh;obtain⟨rfl,rfl,rfl⟩:=hh;injection h with h;injection h with h1 h;injection h with h2 h3;subst h1 h2 h3;exact hs);·cases h);refine b1W hex ?_;unfold callF;(have h1:ex c (args++List.replicate (fn.ntmps-args.length) undef) H=some (e,l1,H1):=by simp[ex]);rw[hf];simp only[hb,hn,eN,if_false,h1];rcases he with rfl|rfl<;>simp[hres]
theorem HRel.empty(w:World):HRel P (fun _ _=>none) .nil w where
 dom _ _ _ h:=by cases h
 cells _ _ _ _ _ _ h:=by rw[zD (fb _)]at h;cases h
 map _ _ _ _ h:=by rw[zD (fb _)]at h;cases h
 loop _ _ h:=by rw[zD (fb _)]at h;cases h
 one _ _ _ _ h:=by cases h
 excl _ _ _ _ _ _ _ h:=by cases h
 full _ h:=absurd h (eh _)
 glob _ _ _ _ h:=by rw[zD (fb _)]at h;cases h
theorem CallOk.closed{f:FuncId}{v:Value}(hv:flat v=true){H1:Heap}(h:CallOk P f [] .nil v H1)(H:Heap):CallOk P f [] H v H:=by
 intro k ρ w args' hr ha;(have ha':All2 (V (λ_ _=>none)) [] args'.toList:=by cases hh:args'.toList with| nil=>trivial| cons x xs=>rw[hh]at ha;exact ha.elim);refine(h k (λ_ _=>none) w args' (.empty w) ha').mono ?_;rintro e w'⟨ρ',v',rfl,hp,hv'⟩;have hframe:∀b,b<w.heap.size->w'.heap[b]? =w.heap[b]?:=λb hb=>(hp.frame b hb (by rintro⟨A,e,p,blk,hq,_⟩;cases hq)).1;refine⟨ρ,v',rfl,?_,?_⟩;(·exact{le:=.refl ρ,rel:=hr.other hp.size λA e p hq=>hframe _ (hr.dom _ _ _ hq).2,len:=dJ _,size:=hp.size,os:=hp.os,tape:=hp.tape,output:=hp.output,frame:=λb hb hw=>⟨hframe b hb,hw⟩,loops:=λb r h=>⟨r,by rw[hframe b (oF h),h]⟩,img:=λ_ _ h=>h});·rw[hv'.ai hv];exact .of_flat hv
structure Glob(G H:Heap):Prop where
 len:G.length≤H.length
 same:∀A,A<G.length→kB H A=kB G A
 glob:∀A b,kB G A=some b→∃cs ty lo,b=.cells cs ty false lo 1∧lX cs=true
theorem Glob.rel{G:Heap}(hG:Glob G H)(h:HRel P ρ H w):HRel P (λA e=>if A<G.length then ρ A e else none) G w:=by
 have hcells:=hG.glob;(have hcut:∀{A e p},(if A<G.length then ρ A e else none)=some p->A<G.length∧ρ A e=some p:=λ{A e p}hh=>by by_cases hA:A<G.length;(·rw[if_pos hA]at hh;exact⟨hA,hh⟩);·rw[if_neg hA]at hh;cases hh);refine⟨?_,?_,?_,?_,?_,?_,?_,?_⟩;(·intro A e p hp;obtain⟨hA,hp⟩:=hcut hp;exact⟨hA,(h.dom _ _ _ hp).2⟩);(·intro A cs ty rw lo ver hg;have hA:=kV hg;(have hg':kB H A=some (.cells cs ty rw lo ver):=by rw[hG.same A hA,hg]);obtain⟨⟨p,hp⟩,hall⟩:=h.cells _ _ _ _ _ _ hg';refine⟨⟨p,by simp only[if_pos hA,hp]⟩,λe q hq=> ?_⟩;have hc:=hall e q (hcut hq).2;obtain⟨cs',ty',lo',hb,hsc⟩:=hcells A _ hg;injection hb with hb;subst hb;obtain⟨h1,h2,h3,cur,ty2,fr,h4,h5,h6,h7⟩:=hc;refine⟨h1,h2,h3,cur,ty2,fr,h4,h5,h6,λhlo i c hi h0 hci=> ?_⟩;obtain⟨c',a,b⟩:=h7 hlo i c hi h0 hci;(have hs:kG c=true:=by simp only[lX,dQ]at hsc;exact hsc c (ef hci));exact⟨c',a,by rw[b.aC hs];exact .aF hs⟩);(·intro A es ck ver hg;obtain⟨cs',ty',lo',hb,_⟩:=hcells A _ hg;cases hb)
 (·intro A r hg;obtain⟨cs',ty',lo',hb,_⟩:=hcells A _ hg;cases hb);(·intro A e p blk hp hg;obtain⟨hA,hp⟩:=hcut hp;exact h.one _ _ _ _ hp (by rw[hG.same A hA,hg]));(·intro A e p A2 e2 p2 blk hp hp2 hb hg hwr;obtain⟨cs',ty',lo',rfl,_⟩:=hcells A _ hg;cases hwr);(·intro A hA;have:=h.full A (dZ hA hG.len);rw[hG.same A hA]at this;exact this);·intro A cs ty lo hg;have hA:=kV hg;obtain⟨q,h1,h2,h3⟩:=h.glob A cs ty lo (by rw[hG.same A hA,hg]);exact⟨q,by simp only[if_pos hA,h1],h2,h3⟩
theorem CallOk.bV{f:FuncId}{v:Value}{args:List Value}(hfa:∀x∈args,flat x=true)(hv:flat v=true){G H H1:Heap}(h:CallOk P f args G v H1)(hG:Glob G H):CallOk P f args H v H:=by
 intro k ρ w args' hr ha;(have hfl:∀(l l':List Value)(ρ':Rho),(∀x∈l,flat x=true)->All2 (V ρ) l l'->All2 (V ρ') l l':=by intro l;induction l with| nil=>intro l' ρ' _ hh;(cases l' with|nil=>trivial|cons x xs=>exact hh.elim)| cons y ys ih=>intro l' ρ' hy hh;cases l' with| nil=>exact hh.elim| cons x xs=>refine⟨?_,ih xs ρ' (λz hz=>hy z (by simp[hz])) hh.2⟩;rw[hh.1.ai (hy y (by simp))];exact .of_flat (hy y (by simp)));have ha':All2 (V (λA e=>if A<G.length then ρ A e else none)) args args'.toList:=hfl _ _ _ hfa ha;refine(h k _ w args' (hG.rel hr) ha').mono ?_;rintro e w'⟨ρ',v',rfl,hp,hv'⟩;have hframe:∀b,b<w.heap.size->w'.heap[b]? =w.heap[b]?:=λb hb=>(hp.frame b hb (by rintro⟨A,e,p,blk,hq,_,hg,hw⟩;obtain⟨cs,ty,lo,rfl,_⟩:=hG.glob A _ hg;cases hw)).1;refine⟨ρ,v',rfl,?_,?_⟩;(·exact{le:=.refl ρ,rel:=hr.other hp.size λA e p hq=>hframe _ (hr.dom _ _ _ hq).2,len:=dJ _,size:=hp.size,os:=hp.os,tape:=hp.tape,output:=hp.output,frame:=λb hb hw=>⟨hframe b hb,hw⟩,loops:=λb r h=>⟨r,by rw[hframe b (oF h),h]⟩,img:=λ_ _ h=>h})
 ·rw[hv'.ai hv];exact .of_flat hv
end
section
variable {P:Program} {ρ:Rho} {H:Heap} {w:World}
abbrev mS:=Ex->List Value->Heap->Prop
structure Keep{α:Sort _}(a:α):Type where
def lN(r:Option (Value×Heap))(K:Value->Heap->Prop)(_k:Keep K:=⟨⟩):Prop:=match r with| some (v,H1)=>K v H1| none=>False
@[simp] theorem b3U(v:Value)(H1:Heap)(K:Value->Heap->Prop):lN (some (v,H1)) K=K v H1:=rfl
def vI(P:Program)(f:Value)(args:List Value)(H:Heap)(K:Value->Heap->Prop)(_k:Keep K:=⟨⟩):Prop:=match f with| .func (.func k) first captured=>∃v H1,qU P k∧CallOk P k (first.toList++args++captured.toList) H v H1∧K v H1| .func (.yield L) _ _=>∃v H1,a0L P L args H v H1∧K v H1| _=>False
def nS(P:Program)(o:Oper)(l:List Value)(H:Heap)(K:Value->Heap->Prop):Prop:=o.op.operands.toList.all kH=true∧ match o.op with| .move x=>K (ev l x) H| .assign x=>K (ev l x) H| .call c=>(match c.callee with| .value f=>vI P (ev l f) (c.args.toList.map (ev l)) H K| _=>lN (opD P o l H) K)| _=>lN (opD P o l H) K
theorem yW{o:Oper}{l:List Value}{K:Value->Heap->Prop}(h:nS P o l H K):∃v H1,StepR P o l H v H1∧K v H1:=by
 obtain⟨dst,op,type,pos,after,guard⟩:=o;obtain⟨hok,h⟩:=h;(have plain:lN (opD P ⟨dst,op,type,pos,after,guard⟩ l H) K->∃v H1,StepR P ⟨dst,op,type,pos,after,guard⟩ l H v H1∧K v H1:=λh=>by unfold lN at h;split at h;(·rename_i v H1 h1;exact⟨v,H1,.op hok h1,h⟩);·exact h.elim);simp only at h;split at h;(·exact⟨_,_,.op hok rfl,h⟩);(·exact⟨_,_,.op hok rfl,h⟩);(·rename_i c;split at h;(·rename_i f hf;unfold vI at h;split at h;(·rename_i k first captured hev;obtain⟨v,H1,h1,h2,h3⟩:=h;exact⟨v,H1,.call hok c f k first captured rfl hf hev h1 h2,h3⟩);(·rename_i L b d hev;obtain⟨v,H1,h1,h2⟩:=h;exact⟨v,H1,.round hok c f L b d rfl hf hev h1,h2⟩);·exact h.elim);·exact plain h);·exact plain h
def qJ(P:Program)(ops:Array Oper):List Oper->List Value->Heap->(List Value->Heap->Prop)->Prop| [],l,H,K=>K l H| o::os,l,H,K=>if Region.wanted o (kO ops l)=true then nS P o l H λv H1=>qJ P ops os (put l o.dst v) H1 K else qJ P ops os (put l o.dst undef) H K
theorem a0m{ops:Array Oper}{K:List Value->Heap->Prop}:∀(os:List Oper)(i:Nat),ops.toList.drop i=os->∀(l:List Value)(H:Heap),qJ P ops os l H K-> ∃l' H',OpsR P ops (List.range' i os.length) l H l' H'∧K l' H'| [],i,_,l,H,h=>⟨l,H,.nil l H,h⟩| o::os,i,hd,l,H,h=>by(have ho:ops[i]? =some o:=by(have:(ops.toList.drop i)[0]? =some o:=by rw[hd];rfl);rw[eH]at this;simpa using this);(have hd':ops.toList.drop (i+1)=os:=by rw[<-gI,hd];rfl);unfold qJ at h;rw[dV,gV];split at h;(·rename_i hw;obtain⟨v,H1,h1,h2⟩:=yW h;obtain⟨l',H',h3,h4⟩:=a0m os (i+1) hd' _ _ h2;exact⟨l',H',.step ho hw h1 h3,h4⟩);·rename_i hw;obtain⟨l',H',h3,h4⟩:=a0m os (i+1) hd' _ _ h;exact⟨l',H',.past ho (by simpa using hw) h3,h4⟩
theorem a7f{ops:Array Oper}{l:List Value}{K:List Value->Heap->Prop}(h:qJ P ops ops.toList l H K):∃l' H',OpsR P ops (List.range ops.size) l H l' H'∧K l' H':=by obtain⟨l',H',h1,h2⟩:=a0m ops.toList 0 rfl l H h;refine⟨l',H',?_,h2⟩;rw[fG];simpa using h1
theorem c4D{ops:Array Oper}:∀(is:List Nat)(l:List Value)(H:Heap)(l':List Value)(H':Heap),OpsR P ops is l H l' H'-> ∃(T:Nat->List Value×Heap)(val:Nat->Value),T 0=(l,H)∧T is.length=(l',H')∧∀k i,is[k]? =some i->zY P ops i (T k) (T (k+1)) (val k):=by
 intro is l H l' H' h;(have key:∀{i:Nat}{is:List Nat}{l:List Value}{H:Heap}{l1:List Value}{H1:Heap}{v:Value}{l':List Value}{H':Heap},zY P ops i (l,H) (l1,H1) v-> (∃(T:Nat->List Value×Heap)(val:Nat->Value),T 0=(l1,H1)∧T is.length=(l',H')∧∀k i,is[k]? =some i->zY P ops i (T k) (T (k+1)) (val k))-> ∃(T:Nat->List Value×Heap)(val:Nat->Value),T 0=(l,H)∧T (i::is).length=(l',H')∧∀k j,(i::is)[k]? =some j->zY P ops j (T k) (T (k+1)) (val k):=by intro i is l H l1 H1 v l' H' hst ⟨T,val,h0,h1,h4⟩;refine⟨λk=>match k with|0=>(l,H)|k+1=>T k,λk=>match k with|0=>v|k+1=>val k,rfl,h1,?_⟩;intro k j hj;cases k with| zero=>simp at hj;subst hj;simp only[h0];exact hst| succ k=>exact h4 k j (by simpa using hj));induction h with| nil l H=>exact⟨λ_=>(l,H),λ_=>undef,rfl,rfl,by simp⟩| step ho hw hs rest ih=>exact key ⟨_,ho,rfl,.inl ⟨hw,hs⟩⟩ ih| past ho hw rest ih=>exact key ⟨_,ho,rfl,.inr ⟨hw,rfl,rfl⟩⟩ ih
theorem Sim.cB(lZ:P.follows .mixedOrders=true){id:Nat}{ops:Array Oper}(htab:pJ P ops=some []){l:List Value}{H:Heap}{l':List Value}{H':Heap}(h:OpsR P ops (List.range ops.size) l H l' H'): Sim P (.region id ops true) l H .normal l' H':=by obtain⟨T,val,h0,h1,h2⟩:=c4D _ _ _ _ _ h;rw[iH]at h1;(have:=Sim.draw lZ (id:=id) htab (T:=T) (val:=val) ⟨λk hk=>h2 k k (by rw[jr hk])⟩ λi m o hm=>by cases hm);rw[h0,h1]at this;exact this
def Wp(P:Program)(c:Code)(l:List Value)(H:Heap)(Q:mS)(_k1:Keep c:=⟨⟩)(_k2:Keep Q:=⟨⟩):Prop:=∃e l' H',Sim P c l H e l' H'∧Q e l' H'
theorem Wp.mono{c:Code}{l:List Value}{Q Q':mS}(h:Wp P c l H Q)(hh:∀e l H,Q e l H->Q' e l H):Wp P c l H Q':=by obtain⟨e,l',H',h1,h2⟩:=h;exact⟨e,l',H',h1,hh _ _ _ h2⟩
def d3T(P:Program)(b:Code)(Q:mS):mS| .normal,l,H=>Wp P b l H Q| e,l,H=>Q e l H
def a0B(id:Nat)(Q:mS):mS:=λe l H=>Q (e.out id) l H
theorem Wp.skip{l:List Value}{Q:mS}(h:Q .normal l H):Wp P .skip l H Q:=⟨_,_,_,.skip l H,h⟩
theorem Wp.label{t:Nat}{l:List Value}{Q:mS}(h:Q .normal l H):Wp P (.label t) l H Q:=⟨_,_,_,.label t l H,h⟩
theorem Wp.exit{id:Nat}{l:List Value}{Q:mS}(h:Q (.exit id) l H):Wp P (.exit id) l H Q:=⟨_,_,_,.exit id l H,h⟩
theorem Wp.ret{l:List Value}{Q:mS}(h:Q .ret l H):Wp P .ret l H Q:=⟨_,_,_,.ret l H,h⟩
theorem Wp.seq{a b:Code}{l:List Value}{Q:mS}(h:Wp P a l H (d3T P b Q)):Wp P (.seq a b) l H Q:=by obtain⟨e,l1,H1,h1,h2⟩:=h;cases e with| normal=>obtain⟨e,l2,H2,h3,h4⟩:=h2;exact⟨e,l2,H2,.seq h1 h3,h4⟩| exit i=>exact⟨_,_,_,.seq' h1 (by simp),h2⟩| ret=>exact⟨_,_,_,.seq' h1 (by simp),h2⟩
theorem Wp.cond{c:Operand}{x y:Code}{l:List Value}{Q:mS}(t:Bool)(hc:ev l c=.bool t)(hok:kH c=true)(h:Wp P (if t then x else y) l H Q):Wp P (.cond c x y) l H Q:=by obtain⟨e,l2,H2,h3,h4⟩:=h;exact⟨e,l2,H2,.cond hc hok h3,h4⟩
theorem Wp.ite{c:Operand}{x y:Code}{l:List Value}{Q:mS}(p:Prop)[Decidable p](hc:ev l c=.bool (decide p))(hok:kH c=true)(hx:p->Wp P x l H Q)(hy:¬p->Wp P y l H Q):Wp P (.cond c x y) l H Q:=by refine Wp.cond (decide p) hc hok ?_;by_cases h:p;(·(have e:(if decide p=true then x else y)=x:=by simp[h]);rw[e];exact hx h);·(have e:(if decide p=true then x else y)=y:=by simp[h]);rw[e];exact hy h
theorem Wp.block{id:Nat}{b:Code}{l:List Value}{Q:mS}(h:Wp P b l H (a0B id Q)):Wp P (.block id b) l H Q:=by obtain⟨e,l2,H2,h3,h4⟩:=h;exact⟨_,l2,H2,.block h3,h4⟩
theorem Wp.loop{c:Code}{Q:mS}(I:Nat->List Value->Heap->Prop)(step:∀n l H,I n l H->Wp P c l H λe l1 H1=>match e with|.normal=>∃m,m<n∧I m l1 H1|e=>Q e l1 H1){l:List Value}(n:Nat)(h:I n l H):Wp P (.loop c) l H Q:=by
 (have key:∀(n:Nat)(l:List Value)(H:Heap),I n l H->∃k e l' H',Rounds P c k l H e l' H'∧Q e l' H':=by intro n;induction n using Nat.strongRecOn with| _ n ih=>intro l H h;obtain⟨e,l1,H1,h1,h2⟩:=step n l H h;cases e with| normal=>obtain⟨m,hm,h3⟩:=h2;obtain⟨k,e,l',H',h4,h5⟩:=ih m hm l1 H1 h3;exact⟨k+1,e,l',H',.more h1 h4,h5⟩| exit i=>exact⟨1,_,_,_,.last h1 (by simp),h2⟩| ret=>exact⟨1,_,_,_,.last h1 (by simp),h2⟩);obtain⟨k,e,l',H',h1,h2⟩:=key n l H h;exact⟨e,l',H',.loop h1,h2⟩
theorem Wp.region{id:Nat}{ops:Array Oper}{l:List Value}{Q:mS}(h:qJ P ops ops.toList l H λl H=>Q .normal l H):Wp P (.region id ops false) l H Q:=by obtain⟨l',H',h1,h2⟩:=a7f h;exact⟨_,_,_,.region h1,h2⟩
theorem Wp.draw(lZ:P.follows .mixedOrders=true){id:Nat}{ops:Array Oper}{l:List Value}{Q:mS}(htab:pJ P ops=some [])(h:qJ P ops ops.toList l H λl H=>Q .normal l H):Wp P (.region id ops true) l H Q:=by obtain⟨l',H',h1,h2⟩:=a7f h;exact⟨_,_,_,.cB lZ htab h1,h2⟩
theorem CallOk.of_wp{f:FuncId}{fn:Func}{c:Code}{args:List Value}(hf:P.funcs[f]? =some fn)(hb:fn.body=some c)(hn:(fn.name== "runtime.NumGoroutine")=false){Q:Value->Heap->Prop} (h:Wp P c (args++List.replicate (fn.ntmps-args.length) undef) H λe l H1=>(e=.normal∨e=.ret)∧∃v,jS P fn l H1=some v∧Q v H1):∃v H',CallOk P f args H v H'∧Q v H':=by obtain⟨e,l',H',h1,h2,v,h3,h4⟩:=h;exact⟨v,H',.bU hf hb hn h1 h2 h3,h4⟩
theorem a3A(l:List Value)(d:Option Tmp)(v:Value)(t:Tmp):get (put l d v) t=if d=some t∧t<l.length then v else get l t:=b3z l d v t
theorem sO{l:List Value}{d:Tmp}{v:Value}(h:d<l.length):get (put l (some d) v) d=v:=by rw[a3A,if_pos ⟨rfl,h⟩]
theorem a5y{l:List Value}{d t:Tmp}{v:Value}(h:d≠t):get (put l (some d) v) t=get l t:=by rw[a3A,if_neg (λhh=>h (dC hh.1))]
theorem c0d(l:List Value)(v:Value):put l none v=l:=rfl
end
end Go.Ds
namespace Go.Ds
noncomputable section
variable {P:Program} {H:Heap}
def qN(v:Value)(K:Value->Prop)(_k:Keep K:=⟨⟩):Prop:=K v
theorem b4e{v v':Value}{K:Value->Prop}(h:v=v'):qN v K=qN v' K:=by rw[h]
attribute [congr] b4e
theorem c4X(v:Value)(K:Value->Prop):qN v K=K v:=rfl
def lK(r:Option Value)(K:Value->Prop)(_k:Keep K:=⟨⟩):Prop:=match r with|some v=>K v|none=>False
theorem a9z{r r':Option Value}{K:Value->Prop}(h:r=r'):lK r K=lK r' K:=by rw[h]
attribute [congr] a9z
theorem b2G(v:Value)(K:Value->Prop):lK (some v) K=K v:=rfl
theorem b1X{r r':Option (Value×Heap)}{K:Value->Heap->Prop}(h:r=r'):lN r K=lN r' K:=by rw[h]
attribute [congr] b1X
def yK(b:Bool)(p:Prop)(_k:Keep p:=⟨⟩):Prop:=b=true∧p
theorem b4t{b b':Bool}{p:Prop}(h:b=b'):yK b p=yK b' p:=by rw[h]
attribute [congr] b4t
theorem b7n(p:Prop):yK true p=p:=by simp[yK]
def kY(x:Operand)(l:List Value)(K:Value->Prop)(_k:Keep K:=⟨⟩):Prop:=kH x=true∧K (ev l x)
theorem c0U(t:Tmp)(l:List Value)(K:Value->Prop):kY (.tmp t) l K=qN (get l t) K:=by simp[kY,kH,ev,qN]
theorem b3G(v:Value)(l:List Value)(K:Value->Prop):kY (.const v) l K=yK (flat v) (K v):=by simp[kY,kH,ev,yK]
theorem b6q(f:FuncId)(l:List Value)(K:Value->Prop):kY (.func f) l K=K (.func (.func f) #[] #[]):=by simp[kY,kH,ev]
def zT:List Operand->List Value->(List Value->Prop)->Prop| [],_,K=>K []| x::xs,l,K=>kY x l λv=>zT xs l λvs=>K (v::vs)
theorem a0Z:∀(xs:List Operand)(l:List Value)(K:List Value->Prop),zT xs l K=(xs.all kH=true∧K (xs.map (ev l)))| [],l,K=>by simp[zT]| x::xs,l,K=>by simp[zT,a0Z,kY,and_assoc]
theorem b6s(l:List Value)(K:List Value->Prop):zT [] l K=K []:=rfl
theorem b2R(x:Operand)(xs:List Operand)(l:List Value)(K:List Value->Prop):zT (x::xs) l K=kY x l λv=>zT xs l λvs=>K (v::vs):=rfl
theorem c3g(d ty pos af g)(x:Operand)(l:List Value)(K:Value->Heap->Prop):nS P ⟨d,.move x,ty,pos,af,g⟩ l H K=kY x l λv=>K v H:=by simp[nS,kY,Op.operands]
theorem b4y(d ty pos af g)(x:Operand)(l:List Value)(K:Value->Heap->Prop):nS P ⟨d,.assign x,ty,pos,af,g⟩ l H K=kY x l λv=>K v H:=by simp[nS,kY,Op.operands]
def a5b(c a b:Value)(K:Value->Prop)(_k:Keep K:=⟨⟩):Prop:=match c with|.bool t=>K (if t then a else b)|_=>False
theorem b2h{c c' a b:Value}{K:Value->Prop}(h:c=c'):a5b c a b K=a5b c' a b K:=by rw[h]
attribute [congr] b2h
theorem b4C(a b:Value)(K:Value->Prop):a5b (.bool true) a b K=K a:=rfl
theorem a9A(a b:Value)(K:Value->Prop):a5b (.bool false) a b K=K b:=rfl
theorem a9N(c x y:Bool)(K:Value->Prop):a5b (.bool c) (.bool x) (.bool y) K=K (.bool (if c then x else y)):=by cases c<;>rfl
theorem c2k(d ty pos af g)(c a b:Operand)(l:List Value)(K:Value->Heap->Prop):nS P ⟨d,.pick c a b,ty,pos,af,g⟩ l H K=kY c l λc=>kY a l λa=>kY b l λb=>a5b c a b λv=>K v H:=by simp only[nS,kY,Op.operands,opD,a5b,gu,jC,gj,dE,and_assoc];congr 1;congr 1;congr 1;cases ev l c<;>simp[lN]
theorem oU(r:Option (Value×Heap))(K:Value->Heap->Prop):lN r K=∃v H1,r=some (v,H1)∧K v H1:=by cases r with| none=>simp[lN]| some r=>obtain⟨a,b⟩:=r;exact propext ⟨λh=>⟨a,b,rfl,h⟩,λ⟨_,_,h,k⟩=>by cases h;exact k⟩
def pL(a:Option Bool)(s:Option Nat)(H:Heap)(v:Value):Option Value:=match v with| .pointer (some ⟨A,i,some e⟩)=>(match a with| some true=>s.bind λn=>(kT H A i e n).map λl=>.agg l.toArray| some false=>(kT H A i e 1).bind λl=>l[0]?| none=>none)| .pointer (some ⟨A,i,none⟩)=>(match kB H A with| some (.cells cs _ false _ 1)=>(match a with| some true=>s.bind λn=>(kT H A i cs.length n).map λl=>.agg l.toArray| some false=>(kT H A i cs.length 1).bind λl=>l[0]?| none=>none)| _=>none)| _=>none
theorem lY(t:TypeId)(v:Value):mU P H t v=pL (lE P t) (jT P t) H v:=rfl
theorem c3K(d ty pos af g)(t:TypeId)(a:Operand)(l:List Value)(K:Value->Heap->Prop):nS P ⟨d,.load t a,ty,pos,af,g⟩ l H K=kY a l λp=>lK (pL (lE P t) (jT P t) H p) λv=>K v H:=by simp only[nS,kY,Op.operands,opD,gu,jC,gj,lY];cases pL (lE P t) (jT P t) H (ev l a)<;>simp[lN,lK]
def a1T(P:Program)(H:Heap)(t:TypeId)(p v:Value)(K:Heap->Prop)(_k:Keep K:=⟨⟩):Prop:=∃H1,tJ P H t p v=some H1∧K H1
theorem a8p{t:TypeId}{p p' v v':Value}{K:Heap->Prop}(h1:p=p')(h2:v=v'):a1T P H t p v K=a1T P H t p' v' K:=by rw[h1,h2]
attribute [congr] a8p
theorem b7t(d ty pos af g)(t:TypeId)(a x:Operand)(l:List Value)(K:Value->Heap->Prop):nS P ⟨d,.store t a x,ty,pos,af,g⟩ l H K=kY a l λp=>kY x l λv=>a1T P H t p v λH1=>K undef H1:=by simp only[nS,kY,Op.operands,opD,gu,jC,gj,dE,and_assoc,a1T];cases tJ P H t (ev l a) (ev l x)<;>simp[lN]
def a8e(P:Program)(H:Heap)(t:TypeId)(v:Value)(K:Value->Heap->Prop)(_k:Keep K:=⟨⟩):Prop:=∃p H1,a0p P H t v=some (p,H1)∧K p H1
theorem b3F{t:TypeId}{v v':Value}{K:Value->Heap->Prop}(h:v=v'):a8e P H t v K=a8e P H t v' K:=by rw[h]
attribute [congr] b3F
theorem b3X(t:TypeId)(v:Value)(K:Value->Heap->Prop):lN (a0p P H t v) K=a8e P H t v K:=oU _ _
def b2O(P:Program)(H:Heap)(t:TypeId)(v:Value)(K:Value->Heap->Prop)(_k:Keep K:=⟨⟩):Prop:=∃p H1,tL P H t v=some (p,H1)∧K p H1
theorem b4Q{t:TypeId}{v v':Value}{K:Value->Heap->Prop}(h:v=v'):b2O P H t v K=b2O P H t v' K:=by rw[h]
attribute [congr] b4Q
theorem b2Q{t:TypeId}(ha:lG P t=none)(z:Value):tL P H t z=a0p P H t z:=by unfold tL;split;(·rename_i n e h;simp[lG,h]at ha);·rfl
def yC(P:Program)(H:Heap)(t:TypeId)(z:Option Value)(K:Value->Heap->Prop)(_k:Keep K:=⟨⟩):Prop:=match z with|some z=>kR z=true∧b2O P H t z K|none=>False
theorem a7Y{t:TypeId}{z z':Option Value}{K:Value->Heap->Prop}(h:z=z'):yC P H t z K=yC P H t z' K:=by rw[h]
attribute [congr] a7Y
theorem b0c{t:TypeId}(z:Value)(K:Value->Heap->Prop)(ha:lG P t=none):yC P H t (some z) K=yK (kR z) (a8e P H t z K):=by simp only[yC,b2O,b2Q ha,yK,a8e]
theorem b4I{t:TypeId}(z:Value)(K:Value->Heap->Prop){n:Nat×TypeId}(_ha:lG P t=some n):yC P H t (some z) K=yK (kR z) (b2O P H t z K):=rfl
theorem b6O(d ty pos af g)(t:TypeId)(l:List Value)(K:Value->Heap->Prop):nS P ⟨d,.alloc t,ty,pos,af,g⟩ l H K=yC P H t (kN P t) K:=by simp only[nS,Op.operands,opD,jC,true_and,yC];cases kN P t with| none=>simp[lN]| some z=>simp only[dD];by_cases hz:kR z=true;(·simp only[hz,if_true,true_and];exact oU _ _);·simp[hz,lN]
theorem c5N(d ty pos af g)(t:TypeId)(x:Operand)(l:List Value)(K:Value->Heap->Prop):nS P ⟨d,.box t x,ty,pos,af,g⟩ l H K=kY x l λv=>a8e P H t v K:=by simp only[nS,kY,Op.operands,opD,gu,jC,gj,b3X]
def vU:List (Nat×Operand)->List Value->(List (Nat×Value)->Prop)->Prop| [],_,K=>K []| (i,x)::xs,l,K=>kY x l λv=>vU xs l λvs=>K ((i,v)::vs)
theorem a2I:∀(xs:List (Nat×Operand))(l:List Value)(K:List (Nat×Value)->Prop),vU xs l K=((xs.map (·.2)).all kH=true∧K (xs.map λ(i,x)=>(i,ev l x)))| [],l,K=>by simp[vU]| (i,x)::xs,l,K=>by simp[vU,a2I,kY,and_assoc]
theorem b4r(l:List Value)(K:List (Nat×Value)->Prop):vU [] l K=K []:=rfl
theorem a9T(i:Nat)(x:Operand)(xs:List (Nat×Operand))(l:List Value)(K:List (Nat×Value)->Prop):vU ((i,x)::xs) l K=kY x l λv=>vU xs l λvs=>K ((i,v)::vs):=rfl
def lT(P:Program)(t:TypeId)(ps:List (Nat×Value)):Option Value:=if(kN P t).any kR&&ps.all (λx=>x.2.cells.toList.all oneCell)then(P.built t ps).map λcs=>.agg cs else none
theorem b6R(d ty pos af g)(t:TypeId)(parts:List (Nat×Operand))(l:List Value)(K:Value->Heap->Prop): nS P ⟨d,.build t parts.toArray,ty,pos,af,g⟩ l H K=vU parts l λps=>lK (lT P t ps) λv=>K v H:=by rw[a2I];simp only[nS,Op.operands,opD,lT];congr 1;split;(·cases P.built t (parts.map λ(i,x)=>(i,ev l x))<;>simp[lN,lK]);·simp[lN,lK]
def a1C(P:Program)(H:Heap)(t:TypeId)(len:Nat)(ps:List (Nat×Value)):Option (Value×Heap):=(jX P t).bind λelem=>(jT P elem).bind λsize=>(kN P elem).bind λz=>if len==0&&ps.isEmpty&&size !=0 then some (.slice (some ⟨H.length,0,some 0⟩) 0 size,uI H elem [])else if kR z&&ps.all (λx=>x.2.cells.toList.all oneCell)&&len*size<=2^24&&len*size !=0&&z.cells.size==size then (Instr.fill (λi=>some (i*size,size)) ((Array.range (len*size)).map (z.cells[·%z.cells.size]!)) ps).map λcs=>(.slice (some ⟨H.length,0,some cs.toList.length⟩) len size,uI H elem cs.toList) else none
def vK(P:Program)(H:Heap)(t:TypeId)(len:Nat)(ps:List (Nat×Value))(K:Value->Heap->Prop)(_k:Keep K:=⟨⟩):Prop:=∃v H1,a1C P H t len ps=some (v,H1)∧K v H1
theorem a4B{t:TypeId}{len:Nat}{ps ps':List (Nat×Value)}{K:Value->Heap->Prop}(h:ps=ps'):vK P H t len ps K=vK P H t len ps' K:=by rw[h]
attribute [congr] a4B
theorem a5a(d ty pos af g)(t:TypeId)(len:Nat)(parts:List (Nat×Operand))(l:List Value)(K:Value->Heap->Prop): nS P ⟨d,.buildSlice t len parts.toArray,ty,pos,af,g⟩ l H K=vU parts l λps=>vK P H t len ps K:=by rw[a2I];simp only[nS,Op.operands,opD,vK,a1C];rw[<-oU]
def wM(P:Program)(H:Heap)(t:TypeId)(n c:Value):Option (Value×Heap):=
    (jX P t).bind fun elem=>(jT P elem).bind fun size=>(oW P elem).bind fun bytes=>(kN P elem).bind fun z=>
    match n,c with
    | .int _ a,.int _ b=>
      if kR z&&decide (a≤b)&&0≤a&&b*(bytes+1)≤(qI:Int)&&size !=0&&z.cells.size==size then
       let cs:=if size=1 then List.replicate b.toNat (z.cells[0]!)else(madeCells z.cells (b.toNat*size)).toList
       some (.slice (some ⟨H.length,0,some cs.length⟩) a.toNat size,uI H elem cs)
      else none
    | _,_=>none
def rQ(P:Program)(H:Heap)(t:TypeId)(n c:Value)(K:Value->Heap->Prop)(_k:Keep K:=⟨⟩):Prop:=∃v H1,wM P H t n c=some (v,H1)∧K v H1
theorem a2T{t:TypeId}{n n' c c':Value}{K:Value->Heap->Prop}(h:n=n')(h2:c=c'):rQ P H t n c K=rQ P H t n' c' K:=by rw[h,h2]
attribute [congr] a2T
theorem a6p(d ty pos af g)(t:TypeId)(n c:Operand)(l:List Value)(K:Value->Heap->Prop): nS P ⟨d,.makeSlice t n c,ty,pos,af,g⟩ l H K=kY n l λn=>kY c l λc=>rQ P H t n c K:=by change ((#[n,c].toList.all kH=true)∧lN (wM P H t (ev l n) (ev l c)) K)=_;rw[oU];simp only[kY,rQ,gu,jC,gj,dE,and_assoc]
def a0K(P:Program)(H:Heap)(t:TypeId)(s x:Value)(K:Value->Heap->Prop)(_k:Keep K:=⟨⟩):Prop:=∃v H1,pV P H t s x=some (v,H1)∧K v H1
theorem a6g{t:TypeId}{s s' x x':Value}{K:Value->Heap->Prop}(h:s=s')(h2:x=x'):a0K P H t s x K=a0K P H t s' x' K:=by rw[h,h2]
attribute [congr] a6g
def mI(P:Program)(t:TypeId):Bool:=((P.underlying t).map sJ)==some true
theorem b4x(d ty pos af g)(s x:Operand)(t1 t2:TypeId)(l:List Value)(K:Value->Heap->Prop): nS P ⟨d,.call {callee:=.builtin .append,args:=#[s,x],argTypes:=#[t1,t2]},ty,pos,af,g⟩ l H K=yK (mI P t2) (kY s l λs=>kY x l λx=>a0K P H t1 s x K):=by simp only[nS,kY,Op.operands,Call.operands,opD,a0K,yK,mI];rw[<-oU];by_cases h:(((P.underlying t2).map sJ)==some true)=true;(·simp[h,and_assoc]);·simp[h,lN]
def b5J(P:Program)(H:Heap)(t:TypeId)(s x:Value)(K:Value->Heap->Prop)(_k:Keep K:=⟨⟩):Prop:=∃v H1,a5m P H t s x=some (v,H1)∧K v H1
theorem b1Q{t:TypeId}{s s' x x':Value}{K:Value->Heap->Prop}(h:s=s')(h2:x=x'):b5J P H t s x K=b5J P H t s' x' K:=by rw[h,h2]
attribute [congr] b1Q
theorem b9A(d ty pos af g)(s x:Operand)(t1 t2:TypeId)(l:List Value)(K:Value->Heap->Prop): nS P ⟨d,.call {callee:=.builtin .copy,args:=#[s,x],argTypes:=#[t1,t2]},ty,pos,af,g⟩ l H K=kY s l λs=>kY x l λx=>b5J P H t1 s x K:=by simp only[nS,kY,Op.operands,Call.operands,opD,b5J];rw[<-oU];simp[and_assoc]
def a5p(P:Program)(H:Heap)(t:TypeId)(s:Value)(K:Value->Heap->Prop)(_k:Keep K:=⟨⟩):Prop:=∃v H1,wN P H t s=some (v,H1)∧K v H1
theorem a8V{t:TypeId}{s s':Value}{K:Value->Heap->Prop}(h:s=s'):a5p P H t s K=a5p P H t s' K:=by rw[h]
attribute [congr] a8V
theorem b6p(d ty pos af g)(s:Operand)(t1:TypeId)(l:List Value)(K:Value->Heap->Prop): nS P ⟨d,.call {callee:=.builtin .clear,args:=#[s],argTypes:=#[t1]},ty,pos,af,g⟩ l H K=kY s l λs=>a5p P H t1 s K:=by simp only[nS,kY,Op.operands,Call.operands,opD,a5p];rw[<-oU];simp[]
def a2Q(P:Program)(H:Heap)(t:TypeId)(v:Value):Option Value:=match (P.underlying t),v with| some (.slice _),.slice a n k=>a0D H (.slice a n k)| some .string,.string s=>a0D H (.string s)| some (.map _ _),.map r=>a0D H (.map r)| _,_=>none
theorem c4W(d ty pos af g)(x:Operand)(t:TypeId)(l:List Value)(K:Value->Heap->Prop): nS P ⟨d,.call {callee:=.builtin .len,args:=#[x],argTypes:=#[t]},ty,pos,af,g⟩ l H K=kY x l λx=>lK (a2Q P H t x) λv=>K v H:=by
 (have h:opD P ⟨d,.call {callee:=.builtin .len,args:=#[x],argTypes:=#[t]},ty,pos,af,g⟩ l H=(a2Q P H t (ev l x)).map λv=>(v,H):=by simp only[opD,a2Q];simp only[gb,dV,eo,fN,BEq.rfl,jO,if_true];simp only[fh,eU,eZ,ga];cases P.underlying t with| none=>rfl| some u=>cases u<;>cases ev l x<;>rfl);simp only[nS,h,kY,Op.operands,Call.operands];(have h2:lN ((a2Q P H t (ev l x)).map λv=>(v,H)) K=lK (a2Q P H t (ev l x)) λv=>K v H:=by cases a2Q P H t (ev l x)<;>rfl);rw[h2];simp
def mH(v:Value)(size j f:Nat):Value:=match v with| .slice (some ⟨A,i,s⟩) _ _=>.pointer (some ⟨A,i+j*size+f,s⟩)| _=>.pointer none
def a9M(P:Program)(s:TypeId)(f:Nat)(v:Value):Option Value:=match v with| .pointer (some ⟨A,i,some e⟩)=>(qQ P s f).bind λfd=>(jT P fd.type).bind λn=>if n==0 then none else some (.pointer (some ⟨A,i+fd.offset,some e⟩))| _=>none
theorem a6c(d ty pos af g)(s:TypeId)(x:Operand)(f:Nat)(l:List Value)(K:Value->Heap->Prop): nS P ⟨d,.fieldAddr s x f,ty,pos,af,g⟩ l H K=kY x l λx=>lK (a9M P s f x) λv=>K v H:=by(have h:opD P ⟨d,.fieldAddr s x f,ty,pos,af,g⟩ l H=(a9M P s f (ev l x)).map λv=>(v,H):=by simp only[opD,a9M];generalize ev l x=vx;split;(·dsimp only;cases qQ P s f with| none=>rfl| some fd=>simp only[dD];cases jT P fd.type with| none=>rfl| some n=>simp only[dD];split<;>rfl);·rename_i hne;split;(·exact(hne _ _ _ rfl).elim);·rfl);(have h2:lN ((a9M P s f (ev l x)).map λv=>(v,H)) K=lK (a9M P s f (ev l x)) λv=>K v H:=by cases a9M P s f (ev l x)<;>rfl);simp only[nS,h,kY,Op.operands,h2];simp
def a4J(P:Program)(t:TypeId)(v i:Value):Option Value:=match P.underlying t,v,i with| some (.slice elem),.slice (some ⟨A,i,some e⟩) n _,.int _ j=>(jT P elem).bind λsize=>if 0<=j&&j<n then some (.pointer (some ⟨A,i+j.toNat*size,some e⟩))else none| some (.array n elem),.pointer (some ⟨A,i,some e⟩),.int _ j=>(jT P elem).bind λsize=>if 0<=j&&j<n then some (.pointer (some ⟨A,i+j.toNat*size,some e⟩))else none| some (.array n elem),.pointer (some ⟨A,i,none⟩),.int _ j=>(jT P elem).bind λsize=>if 0<=j&&j<n then some (.pointer (some ⟨A,i+j.toNat*size,none⟩))else none| _,_,_=>none
theorem a5P(d ty pos af g)(t:TypeId)(x i:Operand)(l:List Value)(K:Value->Heap->Prop): nS P ⟨d,.indexAddr t x i,ty,pos,af,g⟩ l H K=kY x l λx=>kY i l λi=>lK (a4J P t x i) λv=>K v H:=by
 (have h:opD P ⟨d,.indexAddr t x i,ty,pos,af,g⟩ l H=(a4J P t (ev l x) (ev l i)).map λv=>(v,H):=by simp only[opD,a4J];generalize ev l x=vx;generalize ev l i=vi;generalize P.underlying t=u;split;(·dsimp only;cases jT P _ with| none=>rfl| some n=>simp only[dD];split<;>rfl);(·dsimp only;cases jT P _ with| none=>rfl| some n=>simp only[dD];split<;>rfl);(·dsimp only;cases jT P _ with| none=>rfl| some n=>simp only[dD];split<;>rfl);·rename_i h1 h2 h3;split;(·exact(h1 _ _ _ _ _ _ _ _ rfl rfl rfl).elim);(·exact(h2 _ _ _ _ _ _ _ rfl rfl rfl).elim);(·exact(h3 _ _ _ _ _ _ rfl rfl rfl).elim);·rfl);(have h2:lN ((a4J P t (ev l x) (ev l i)).map λv=>(v,H)) K=lK (a4J P t (ev l x) (ev l i)) λv=>K v H:=by cases a4J P t (ev l x) (ev l i)<;>rfl);simp only[nS,h,kY,Op.operands,h2];simp[and_assoc]
def d2b(P:Program)(o:Oper)(op:BinOp)(l:List Value)(H:Heap)(x y:Value)(K:Value->Heap->Prop)(_k:Keep K:=⟨⟩):Prop:=match x,y with| .int k a,.int k' b=>(match (if k=k' then oR op k a b else none)with|some v=>K v H|none=>lN (opD P o l H) K)| _,_=>lN (opD P o l H) K
theorem b2N{o:Oper}{op:BinOp}{l:List Value}{x x' y y':Value}{K:Value->Heap->Prop}(h:x=x')(h2:y=y'):d2b P o op l H x y K=d2b P o op l H x' y' K:=by rw[h,h2]
attribute [congr] b2N
theorem pF(o o':Oper)(l l':List Value)(H:Heap)(h1:o.op.operands.toList.map (ev l)=o'.op.operands.toList.map (ev l'))(h2:execOp (ev l) o=execOp (ev l') o'): mE P o l H=((mE P o' l' .nil).map (·.1)).map λv=>(v,H):=by(have h3:∀(l:List Value)(xs:List Operand),xs.all (λx=>flat (ev l x))=(xs.map (ev l)).all flat:=λl xs=>by simp[List.all_map,gJ]);unfold mE;rw[h3,h1,<-h3,h2];split;(·split;(·split<;>rfl);·rfl);·rfl
def unV(P:Program)(op:UnOp)(t:TypeId)(x:Value):Option Value:=(opD P ⟨none,.unOp op t (.const x),t,"",#[],none⟩ [] .nil).map (·.1)
theorem c9E(d ty pos af g)(op:UnOp)(t:TypeId)(x:Operand)(l:List Value)(K:Value->Heap->Prop): nS P ⟨d,.unOp op t x,ty,pos,af,g⟩ l H K=kY x l λx=>lK (unV P op t x) λv=>K v H:=by
 (have h:opD P ⟨d,.unOp op t x,ty,pos,af,g⟩ l H=(unV P op t (ev l x)).map λv=>(v,H):=by have hp:=pF (P:=P) ⟨d,.unOp op t x,ty,pos,af,g⟩ ⟨none,.unOp op t (.const (ev l x)),t,"",#[],none⟩ l [] H rfl rfl;simp only[opD,unV,hp];generalize mE P _ _ _=r;have e1:∀v,ev [] (.const v)=v:=λ_=>rfl;simp only[e1];generalize ev l x=vx;split<;>simp);(have h2:lN ((unV P op t (ev l x)).map λv=>(v,H)) K=lK (unV P op t (ev l x)) λv=>K v H:=by cases unV P op t (ev l x)<;>rfl);simp only[nS,h,kY,Op.operands,h2];simp
theorem c6q(t:TypeId)(b:Bool):unV P .not t (.bool b)=some (.bool (!b)):=by simp[unV,opD,ev]
def a4i(P:Program)(s t:TypeId)(x:Value):Option Value:=(mE P ⟨none,.convert s t (.const x),t,"",#[],none⟩ [] .nil).map (·.1)
def uC(P:Program)(s t:TypeId)(H:Heap)(x:Value)(K:Value->Heap->Prop)(_k:Keep K:=⟨⟩):Prop:=∃v H1,opD P ⟨none,.convert s t (.const x),t,"",#[],none⟩ [] H=some (v,H1)∧K v H1
theorem a9F{s t:TypeId}{x x':Value}{K:Value->Heap->Prop}(h:x=x'):uC P s t H x K=uC P s t H x' K:=by rw[h]
attribute [congr] a9F
theorem b1S(d ty pos af g)(s t:TypeId)(x:Operand)(l:List Value)(K:Value->Heap->Prop): nS P ⟨d,.convert s t x,ty,pos,af,g⟩ l H K=kY x l λx=>uC P s t H x K:=by(have h:opD P ⟨d,.convert s t x,ty,pos,af,g⟩ l H=opD P ⟨none,.convert s t (.const (ev l x)),t,"",#[],none⟩ [] H:=by have hp:=pF (P:=P) ⟨d,.convert s t x,ty,pos,af,g⟩ ⟨none,.convert s t (.const (ev l x)),t,"",#[],none⟩ l [] H rfl rfl;have hp2:=pF (P:=P) ⟨none,.convert s t (.const (ev l x)),t,"",#[],none⟩ ⟨none,.convert s t (.const (ev l x)),t,"",#[],none⟩ [] [] H rfl rfl;have e1:∀v,ev [] (.const v)=v:=λ_=>rfl;simp only[opD,e1,hp,<-hp2]);simp only[nS,h,kY,Op.operands,uC,oU];simp
theorem b3b{s t:TypeId}{x:Value}(K:Value->Heap->Prop)(hb:mP P t=false)(hf:flat x=true):uC P s t H x K=lK (a4i P s t x) λv=>K v H:=by have hp:=pF (P:=P) ⟨none,.convert s t (.const x),t,"",#[],none⟩ ⟨none,.convert s t (.const x),t,"",#[],none⟩ [] [] H rfl rfl;have e1:ev [] (.const x)=x:=rfl;(have h:opD P ⟨none,.convert s t (.const x),t,"",#[],none⟩ [] H=(a4i P s t x).map λv=>(v,H):=by simp only[opD,e1,hf,hb,Bool.not_false,gj,if_true,a4i];exact hp);unfold uC;rw[h,<-oU];cases a4i P s t x<;>rfl
theorem b8X{s t:TypeId}(k:IntKind)(a:Int)(K:Value->Heap->Prop)(hb:mP P t=false):uC P s t H (.int k a) K=lK (a4i P s t (.int k a)) λv=>K v H:=b3b K hb rfl
def wW(v:Value)(i:Nat):Option Value:=match v with|.tuple vs=>vs[i]?|_=>none
theorem b2d(d ty pos af g)(x:Operand)(i:Nat)(l:List Value)(K:Value->Heap->Prop): nS P ⟨d,.extract x i,ty,pos,af,g⟩ l H K=kY x l λx=>lK (wW x i) λv=>K v H:=by(have h:opD P ⟨d,.extract x i,ty,pos,af,g⟩ l H=(wW (ev l x) i).map λv=>(v,H):=by simp only[opD,wW];generalize ev l x=vx;cases vx<;>rfl);(have h2:lN ((wW (ev l x) i).map λv=>(v,H)) K=lK (wW (ev l x) i) λv=>K v H:=by cases wW (ev l x) i<;>rfl);simp only[nS,h,kY,Op.operands,h2];simp
theorem b4R(a:Value)(l:List Value):wW (.tuple (a::l).toArray) 0=some a:=by simp[wW]
theorem b7f(a b:Value)(l:List Value):wW (.tuple (a::b::l).toArray) 1=some b:=by simp[wW]
theorem b8F(a b c:Value)(l:List Value):wW (.tuple (a::b::c::l).toArray) 2=some c:=by simp[wW]
def a0z(P:Program)(t:TypeId)(v:Value)(f:Nat):Option Value:=(opD P ⟨none,.field t (.const v) f,t,"",#[],none⟩ [] .nil).map (·.1)
theorem b6W(d ty pos af g)(t:TypeId)(x:Operand)(f:Nat)(l:List Value)(K:Value->Heap->Prop): nS P ⟨d,.field t x f,ty,pos,af,g⟩ l H K=kY x l λx=>lK (a0z P t x f) λv=>K v H:=by
 (have h:opD P ⟨d,.field t x f,ty,pos,af,g⟩ l H=(a0z P t (ev l x) f).map λv=>(v,H):=by have hp:=pF (P:=P) ⟨d,.field t x f,ty,pos,af,g⟩ ⟨none,.field t (.const (ev l x)) f,t,"",#[],none⟩ l [] H rfl rfl;simp only[opD,a0z,hp];generalize mE P _ _ _=r;have e1:∀v,ev [] (.const v)=v:=λ_=>rfl;simp only[e1];generalize ev l x=vx;split;(·cases r<;>rfl);·rename_i hfl;(cases vx<;>try rfl);rename_i cs;dsimp only;cases qQ P t f with| none=>rfl| some fd=>simp only[dD];cases lE P fd.type with| none=>rfl| some b=>cases b;(·dsimp only;cases cs[fd.offset]?<;>rfl);·dsimp only;cases jT P fd.type<;>rfl);(have h2:lN ((a0z P t (ev l x) f).map λv=>(v,H)) K=lK (a0z P t (ev l x) f) λv=>K v H:=by cases a0z P t (ev l x) f<;>rfl);simp only[nS,h,kY,Op.operands,h2];simp
end
end Go.Ds
namespace Go.Ds
noncomputable section
variable {P:Program} {H:Heap}
theorem b1m{f f':Value}{args args':List Value}{K:Value->Heap->Prop}(h1:f=f')(h2:args=args'):vI P f args H K=vI P f' args' H K:=by rw[h1,h2]
attribute [congr] b1m
def wH(P:Program)(k:FuncId)(args:List Value)(H:Heap)(K:Value->Heap->Prop)(_k:Keep K:=⟨⟩):Prop:=∃v H1,qU P k∧CallOk P k args H v H1∧K v H1
theorem a9b{k:FuncId}{args args':List Value}{K:Value->Heap->Prop}(h2:args=args'):wH P k args H K=wH P k args' H K:=by rw[h2]
attribute [congr] a9b
theorem b4A(k:FuncId)(a b:List Value)(args:List Value)(K:Value->Heap->Prop):vI P (.func (.func k) a.toArray b.toArray) args H K=wH P k (a++args++b) H K:=rfl
theorem c3l(d ty pos af g)(f:Operand)(args:List Operand)(ts:Array TypeId)(l:List Value)(K:Value->Heap->Prop): nS P ⟨d,.call {callee:=.value f,args:=args.toArray,argTypes:=ts},ty,pos,af,g⟩ l H K=kY f l λf=>zT args l λvs=>vI P f vs H K:=by simp only[nS,a0Z,kY,Op.operands,Call.operands];simp[and_assoc]
theorem a7W(d ty pos af g)(f:FuncId)(captured:List Operand)(l:List Value)(K:Value->Heap->Prop): nS P ⟨d,.makeFunc (.func f) #[] captured.toArray,ty,pos,af,g⟩ l H K=zT captured l λvs=>yK (vs.all rF) (K (.func (.func f) #[] vs.toArray) H):=by simp only[nS,a0Z,yK,Op.operands,opD];(have e:(captured.map (ev l)).all rF=captured.all λx=>rF (ev l x):=by simp[List.all_map,gJ]);rw[e];by_cases h:(captured.all λx=>rF (ev l x))=true;(·simp[h]);·simp[h,lN]
def a1B(ops:Array Oper)(j:Nat):Option Tmp:=(ops[j]?).bind (·.dst)
def uT(v:Value)(b:Bool)(p q:Prop)(_k1:Keep p:=⟨⟩)(_k2:Keep q:=⟨⟩):Prop:=match v with|.bool c=>if c=b then p else q|_=>q
theorem b3f{v v':Value}{b:Bool}{p q:Prop}(h:v=v'):uT v b p q=uT v' b p q:=by rw[h]
attribute [congr] b3f
theorem c6B(p q:Prop):uT (.bool true) true p q=p:=rfl
theorem c4J(p q:Prop):uT (.bool false) false p q=p:=rfl
theorem c5Y(p q:Prop):uT (.bool true) false p q=q:=rfl
theorem c6r(p q:Prop):uT (.bool false) true p q=q:=rfl
theorem b3q(b:Bool)(p q:Prop):uT undef b p q=q:=rfl
theorem lJ{c:Prop}[Decidable c]{p q:Prop}(h1:c->p)(h2:¬c->q):uT (.bool (decide c)) true p q:=by by_cases h:c;(·simp only[uT,h,decide_true,if_true];exact h1 h);·simp only[uT,h,decide_false,eN,if_false];exact h2 h
theorem kA{c:Prop}[Decidable c]{p q:Prop}(h1:c->q)(h2:¬c->p):uT (.bool (decide c)) false p q:=by by_cases h:c;(·simp only[uT,h,decide_true,Bool.true_eq_false,if_false];exact h1 h);·simp only[uT,h,decide_false,if_true];exact h2 h
def xP(d:Option Tmp)(l:List Value)(b:Bool)(p q:Prop)(_k1:Keep p:=⟨⟩)(_k2:Keep q:=⟨⟩):Prop:=match d with|some d=>uT (get l d) b p q|none=>q
theorem a8K{d d':Option Tmp}{l:List Value}{b:Bool}{p q:Prop}(h:d=d'):xP d l b p q=xP d' l b p q:=by rw[h]
attribute [congr] a8K
theorem b0y(d:Tmp)(l:List Value)(b:Bool)(p q:Prop):xP (some d) l b p q=uT (get l d) b p q:=rfl
theorem b9a(ops:Array Oper)(l:List Value)(d op ty pos af)(j:Nat)(b:Bool): Region.wanted ⟨d,op,ty,pos,af,some (j,b)⟩ (kO ops l)=(match a1B ops j with|some d=>(match get l d with|.bool c=>c==b|_=>false)|none=>false):=by show(kO ops l j==some b)=_;unfold kO a1B;cases (ops[j]?).bind (·.dst)with| none=>rfl| some t=>simp only[qS];rw[dG];cases h:l[t]? with| none=>rfl| some v=>simp only[ga];cases v<;>rfl
theorem wJ(ops:Array Oper)(l:List Value)(d op ty pos af)(j:Nat)(b:Bool)(p q:Prop): (if Region.wanted ⟨d,op,ty,pos,af,some (j,b)⟩ (kO ops l)=true then p else q)=xP (a1B ops j) l b p q:=by rw[b9a];cases a1B ops j with| none=>simp[xP]| some t=>(have key:∀v:Value,(if(match v with|.bool c=>c==b|_=>false)=true then p else q)=uT v b p q:=λv=>by cases v<;>simp[uT]);exact key (get l t)
theorem c0N(ops:Array Oper)(l:List Value)(K:List Value->Heap->Prop):qJ P ops [] l H K=K l H:=rfl
theorem b8Y(ops:Array Oper)(d op ty pos af)(os:List Oper)(l:List Value)(K:List Value->Heap->Prop): qJ P ops (⟨d,op,ty,pos,af,none⟩::os) l H K=nS P ⟨d,op,ty,pos,af,none⟩ l H λv H1=>qJ P ops os (put l d v) H1 K:=by rw[qJ];simp[Region.wanted]
theorem b2P(ops:Array Oper)(d op ty pos af)(j:Nat)(b:Bool)(os:List Oper)(l:List Value)(K:List Value->Heap->Prop): qJ P ops (⟨d,op,ty,pos,af,some (j,b)⟩::os) l H K=xP (a1B ops j) l b (nS P ⟨d,op,ty,pos,af,some (j,b)⟩ l H λv H1=>qJ P ops os (put l d v) H1 K) (qJ P ops os (put l d undef) H K):=by rw[qJ,<-wJ ops l d op ty pos af]
def oP(P:Program)(ops:Array Oper):List Oper->List (List Value×Heap×Value)->List Value->Heap->(List (List Value×Heap×Value)->List Value->Heap->Prop)->Prop| [],tr,l,H,K=>K tr l H| o::os,tr,l,H,K=>if Region.wanted o (kO ops l)=true then nS P o l H λv H1=>oP P ops os (tr++[(l,H,v)]) (put l o.dst v) H1 K else oP P ops os (tr++[(l,H,undef)]) (put l o.dst undef) H K
theorem b8Z(ops:Array Oper)(tr)(l:List Value)(K):oP P ops [] tr l H K=K tr l H:=rfl
theorem b2S(ops:Array Oper)(d op ty pos af)(os:List Oper)(tr)(l:List Value)(K): oP P ops (⟨d,op,ty,pos,af,none⟩::os) tr l H K=nS P ⟨d,op,ty,pos,af,none⟩ l H λv H1=>oP P ops os (tr++[(l,H,v)]) (put l d v) H1 K:=by rw[oP];simp[Region.wanted]
theorem b0M(ops:Array Oper)(d op ty pos af)(j:Nat)(b:Bool)(os:List Oper)(tr)(l:List Value)(K): oP P ops (⟨d,op,ty,pos,af,some (j,b)⟩::os) tr l H K=xP (a1B ops j) l b (nS P ⟨d,op,ty,pos,af,some (j,b)⟩ l H λv H1=>oP P ops os (tr++[(l,H,v)]) (put l d v) H1 K) (oP P ops os (tr++[(l,H,undef)]) (put l d undef) H K):=by rw[oP,<-wJ ops l d op ty pos af]
theorem xN{ops:Array Oper}{K:List (List Value×Heap×Value)->List Value->Heap->Prop}:∀(os:List Oper)(i:Nat),ops.toList.drop i=os->∀(tr:List (List Value×Heap×Value))(l:List Value)(H:Heap),oP P ops os tr l H K-> ∃(T:Nat->List Value×Heap)(val:Nat->Value)(l':List Value)(H':Heap)(ext:List (List Value×Heap×Value)),T 0=(l,H)∧T os.length=(l',H')∧ext.length=os.length∧(∀k,k<os.length->ext[k]? =some ((T k).1,(T k).2,val k))∧ (∀k,k<os.length->zY P ops (i+k) (T k) (T (k+1)) (val k))∧K (tr++ext) l' H'| [],i,_,tr,l,H,h=>⟨λ_=>(l,H),λ_=>undef,l,H,[],rfl,rfl,rfl,by simp,by simp,by simpa [oP]using h⟩| o::os,i,hd,tr,l,H,h=>by(have ho:ops[i]? =some o:=by(have:(ops.toList.drop i)[0]? =some o:=by rw[hd];rfl);rw[eH]at this;simpa using this);(have hd':ops.toList.drop (i+1)=os:=by rw[<-gI,hd];rfl);(have key:∀(v:Value)(H1:Heap),zY P ops i (l,H) (put l o.dst v,H1) v->oP P ops os (tr++[(l,H,v)]) (put l o.dst v) H1 K-> ∃(T:Nat->List Value×Heap)(val:Nat->Value)(l':List Value)(H':Heap)(ext:List (List Value×Heap×Value)),T 0=(l,H)∧T (o::os).length=(l',H')∧ext.length=(o::os).length∧(∀k,k<(o::os).length->ext[k]? =some ((T k).1,(T k).2,val k))∧ (∀k,k<(o::os).length->zY P ops (i+k) (T k) (T (k+1)) (val k))∧K (tr++ext) l' H':=by intro v H1 hst hop;obtain⟨T,val,l',H',ext,h0,h1,h2,h3,h4,h5⟩:=xN os (i+1) hd' _ _ _ hop;refine⟨λk=>match k with|0=>(l,H)|k+1=>T k,λk=>match k with|0=>v|k+1=>val k,l',H',(l,H,v)::ext,rfl,h1,by simp[h2],?_,?_,by simpa using h5⟩;(·intro k hk;cases k with| zero=>rfl| succ k=>simpa using h3 k (by simpa using hk));·intro k hk;cases k with| zero=>simp only[h0];exact hst| succ k=>have:=h4 k (by simpa using hk);rw[show i+(k+1)=i+1+k from by omega];exact this);unfold oP at h;split at h;(·rename_i hw;obtain⟨v,H1,h1,h2⟩:=yW h;exact key v H1 ⟨o,ho,rfl,.inl ⟨hw,h1⟩⟩ h2);·rename_i hw;exact key undef H ⟨o,ho,rfl,.inr ⟨by simpa using hw,rfl,rfl⟩⟩ h
def c3U(P:Program)(ops:Array Oper)(tr:List (List Value×Heap×Value))(H1:Heap)(i m:Nat):Prop:=match ops[i]?,tr[i]? with| some o,some (l,_,v)=>Region.wanted o (kO ops l)=true->nS P o l (match tr[m]? with|some y=>y.2.1|none=>H1) λv' _=>v'=v| _,_=>False
def a1H(o:Oper):Bool:=match o.op with|.call c=>(match c.callee with|.value _=>false|_=>true)|_=>true
def yB(ops:Array Oper)(tab:List (Nat×Nat)):Bool:=tab.all λx=>match ops[x.1]? with|some o=>a1H o|none=>false
theorem b5V{o:Oper}{l:List Value}{K:Value->Heap->Prop}(hn:a1H o=true)(h:nS P o l H K):∃v H1,opD P o l H=some (v,H1)∧K v H1:=by obtain⟨v,H1,h1,h2⟩:=yW h;refine⟨v,H1,h1.opD λc f hc hf=> ?_,h2⟩;simp[a1H,hc,hf]at hn
theorem Wp.cS(lZ:P.follows .mixedOrders=true){id:Nat}{ops:Array Oper}{l:List Value}{Q:mS}(tab:List (Nat×Nat))(htab:pJ P ops=some tab)(hn:yB ops tab=true) (h:oP P ops ops.toList [] l H λtr l1 H1=>Q .normal l1 H1∧∀x∈tab,c3U P ops tr H1 x.1 x.2):Wp P (.region id ops true) l H Q:=by
 obtain⟨T,val,l',H',ext,h0,h1,h2,h3,h4,h5,h6⟩:=xN ops.toList 0 rfl [] l H h;(have hlen:ops.toList.length=ops.size:=by simp);rw[hlen]at h1 h2 h3 h4;(have:=Sim.draw lZ (id:=id) htab (T:=T) (val:=val) ⟨λk hk=>by simpa using h4 k hk⟩ λi m o hm ho hw=>by have hr:=h6 (i,m) hm;have hi:i<ops.size:=(dM.1 ho).1;unfold c3U at hr;simp only[fQ]at hr;rw[ho,h3 i hi]at hr;have hr:=hr hw;(have hno:a1H o=true:=by unfold yB at hn;have:=dQ.1 hn (i,m) hm;simpa [ho]using this);(have hTm:(match ext[m]? with|some y=>y.2.1|none=>H')=(T m).2∨ops.size<m:=by by_cases hm2:m<ops.size;(·left;rw[h3 m hm2]);·by_cases hm3:m=ops.size;(·left;rw[ff (by omega),hm3,h1]);·right;omega);rcases hTm with hTm|hTm;(·rw[hTm]at hr;obtain⟨v,H2,h7,h8⟩:=b5V hno hr;exact⟨H2,by rw[h7,h8]⟩);·exfalso;obtain⟨fl,D,rfl⟩:=sT htab;have:=a4m hm;omega);rw[h0,h1]at this;exact⟨_,_,_,this,h5⟩
theorem c2o{c:Code}{l l':List Value}{Q:mS}(h:l=l'):Wp P c l H Q=Wp P c l' H Q:=by rw[h]
attribute [congr] c2o
theorem a5V(id:Nat)(Q:mS)(l:List Value):a0B id Q .normal l H=Q .normal l H:=rfl
theorem b3v(id:Nat)(Q:mS)(l:List Value):a0B id Q .ret l H=Q .ret l H:=rfl
theorem a9J(id i:Nat)(Q:mS)(l:List Value):a0B id Q (.exit i) l H=if i=id then Q .normal l H else Q (.exit i) l H:=by simp only[a0B,Ex.out];split<;>rfl
def a0t(I:Nat->List Value->Heap->Prop)(n:Nat)(Q:mS):mS:=λe l1 H1=>match e with|.normal=>∃m,m<n∧I m l1 H1|e=>Q e l1 H1
theorem a5X(I:Nat->List Value->Heap->Prop)(n:Nat)(Q:mS)(l:List Value):a0t I n Q .normal l H=∃m,m<n∧I m l H:=rfl
theorem b0h(I:Nat->List Value->Heap->Prop)(n:Nat)(Q:mS)(i:Nat)(l:List Value):a0t I n Q (.exit i) l H=Q (.exit i) l H:=rfl
theorem b2H(I:Nat->List Value->Heap->Prop)(n:Nat)(Q:mS)(l:List Value):a0t I n Q .ret l H=Q .ret l H:=rfl
theorem Wp.cut{c:Code}{l:List Value}{Q:mS}(M:mS)(h:Wp P c l H M)(hm:∀e l H,M e l H->Q e l H):Wp P c l H Q:=h.mono hm
theorem c2l(l:List Value)(k t:Nat)(v:Value):get (put l (some k) v) t=if k=t then(if k<l.length then v else get l t)else get l t:=by rw[a3A];by_cases h:k=t;(·subst h;simp);·simp[h]
theorem b0s(l:List Value)(k:Nat)(v:Value):(put l (some k) v).length=l.length:=wA l _ v
def pQ(v:Value)(p q:Prop)(_k1:Keep p:=⟨⟩)(_k2:Keep q:=⟨⟩):Prop:=match v with|.bool c=>if c=true then p else q|_=>False
theorem b1L{v v':Value}{p q:Prop}(h:v=v'):pQ v p q=pQ v' p q:=by rw[h]
attribute [congr] b1L
theorem b3r(p q:Prop):pQ (.bool true) p q=p:=rfl
theorem b2m(p q:Prop):pQ (.bool false) p q=q:=rfl
theorem jQ{c:Prop}[Decidable c]{p q:Prop}(h1:c->p)(h2:¬c->q):pQ (.bool (decide c)) p q:=by by_cases h:c;(·simp only[pQ,h,decide_true,if_true];exact h1 h);·simp only[pQ,h,decide_false,eN,if_false];exact h2 h
theorem lI{c:Bool}{p q:Prop}(h1:c=true->p)(h2:c=false->q):pQ (.bool c) p q:=by cases c;(·exact h2 rfl);·exact h1 rfl
theorem Wp.bW{t:Tmp}{x y:Code}{l:List Value}{Q:mS}(h:pQ (get l t) (Wp P x l H Q) (Wp P y l H Q)):Wp P (.cond (.tmp t) x y) l H Q:=by unfold pQ at h;split at h;(·rename_i c hc;refine Wp.cond c hc rfl ?_;cases c;(·simpa using h);·simpa using h);·exact h.elim
theorem Wp.reg{id:Nat}{os:List Oper}{l:List Value}{Q:mS}(h:qJ P os.toArray os l H λl H=>Q .normal l H):Wp P (.region id os.toArray false) l H Q:=.region h
theorem Wp.drw(lZ:P.follows .mixedOrders=true){id:Nat}{os:List Oper}{l:List Value}{Q:mS}(htab:pJ P os.toArray=some [])(h:qJ P os.toArray os l H λl H=>Q .normal l H):Wp P (.region id os.toArray true) l H Q:=.draw lZ htab h
def a7D(f:Nat->Nat->Prop):List (Nat×Nat)->Prop| []=>True| (i,m)::r=>f i m∧a7D f r
theorem b7z(f:Nat->Nat->Prop):a7D f []=True:=rfl
theorem b3x(f:Nat->Nat->Prop)(i m:Nat)(r:List (Nat×Nat)):a7D f ((i,m)::r)=(f i m∧a7D f r):=rfl
theorem a7j{f:Nat->Nat->Prop}:∀{tab:List (Nat×Nat)},a7D f tab->∀x∈tab,f x.1 x.2| [],_,x,hx=>by cases hx| (i,m)::r,h,x,hx=>by rcases ed.1 hx with rfl|hx;(·exact h.1);·exact a7j h.2 x hx
def trH(y:Option (List Value×Heap×Value))(H1:Heap):Heap:=match y with|some y=>y.2.1|none=>H1
theorem c1o(l:List Value)(H:Heap)(v:Value)(H1:Heap):trH (some (l,H,v)) H1=H:=rfl
theorem b9M(H1:Heap):trH none H1=H1:=rfl
def rdW(P:Program)(ops:Array Oper)(o:Option Oper)(t:Option (List Value×Heap×Value))(H:Heap):Prop:=match o,t with| some o,some (l,_,v)=>Region.wanted o (kO ops l)=true->nS P o l H λv' _=>v'=v| _,_=>False
theorem c5k(os:List Oper)(tr:List (List Value×Heap×Value))(H1:Heap)(i m:Nat):c3U P os.toArray tr H1 i m=rdW P os.toArray os[i]? tr[i]? (trH tr[m]? H1):=by simp[c3U,rdW,trH]
theorem c0J(ops:Array Oper)(d op ty pos af)(l:List Value)(H':Heap)(v:Value):rdW P ops (some ⟨d,op,ty,pos,af,none⟩) (some (l,H',v)) H=nS P ⟨d,op,ty,pos,af,none⟩ l H λv' _=>v'=v:=by simp[rdW,Region.wanted]
theorem Wp.aT(lZ:P.follows .mixedOrders=true){id:Nat}{os:List Oper}{l:List Value}{Q:mS}(tab:List (Nat×Nat))(htab:pJ P os.toArray=some tab)(hn:yB os.toArray tab=true) (h:oP P os.toArray os [] l H λtr l1 H1=>Q .normal l1 H1∧a7D (c3U P os.toArray tr H1) tab):Wp P (.region id os.toArray true) l H Q:=by
 refine .cS lZ tab htab hn ?_;(have key:∀(os':List Oper)(tr)(l:List Value)(H:Heap)(K K':List (List Value×Heap×Value)->List Value->Heap->Prop),(∀tr l H,K tr l H->K' tr l H)->oP P os.toArray os' tr l H K->oP P os.toArray os' tr l H K':=by intro os';induction os' with| nil=>intro tr l H K K' hk h;exact hk _ _ _ h| cons o os' ih=>intro tr l H K K' hk h;unfold oP at h ⊢;split;(·rename_i hw;rw[if_pos hw]at h;(have mono:∀{K1 K2:Value->Heap->Prop},(∀v H1,K1 v H1->K2 v H1)->nS P o l H K1->nS P o l H K2:=by intro K1 K2 hk12 h1;obtain⟨h2,h3⟩:=h1;refine⟨h2,?_⟩;(have bw:∀r,lN r K1->lN r K2:=λr hr=>by cases r with| none=>exact hr| some r=>exact hk12 _ _ hr);split at h3;(·exact hk12 _ _ h3);(·exact hk12 _ _ h3);(·split at h3;(·unfold vI at h3 ⊢;split at h3;(·obtain⟨v,H1,a,b,c⟩:=h3;exact⟨v,H1,a,b,hk12 _ _ c⟩);(·obtain⟨v,H1,a,b⟩:=h3;exact⟨v,H1,a,hk12 _ _ b⟩);·exact h3);·exact bw _ h3);·exact bw _ h3);exact mono (λv H1 h=>ih _ _ _ _ _ hk h) h);·rename_i hw;rw[if_neg hw]at h;exact ih _ _ _ _ _ hk h)
 exact key _ _ _ _ _ _ (λtr l1 H1 h=>⟨h.1,a7j h.2⟩) h
theorem Wp.bX{c:Code}{Q:mS}(I:Nat->List Value->Heap->Prop){l:List Value}(n:Nat)(h:I n l H)(step:∀n l H,I n l H->Wp P c l H (a0t I n Q)):Wp P (.loop c) l H Q:=Wp.loop I step n h
end
end Go.Ds
namespace Go.Ds
noncomputable section
structure Base where
 H:Heap
 X:Nat→Prop
instance:Coe Heap Base:=⟨λH=>⟨H,λ_=>False⟩⟩
variable {P:Program} {H0:Base} {H:Heap}
structure Ob where
 v:Value
 size:Nat
 cs:List Value
def blk:Value->Option Nat| .slice (some a) _ _=>some a.block| .pointer (some a)=>some a.block| .map (some A)=>some A| _=>none
def mcs(es:List MapEntry):List Value:=es.flatMap λe=>[e.key,e.val]
abbrev ptr(A off n:Nat):Value:=.pointer (some ⟨A,off,some n⟩)
def RdAt(H:Heap)(v:Value)(size:Nat)(cs:List Value):Prop:=(v=.slice none 0 0∧cs=[])∨∃A i e row ty rw lo ver n,kB H A=some (.cells row ty rw lo ver)∧lo<=e∧e<=row.length∧i+cs.length<=e∧(row.drop i).take cs.length=cs∧ cs.length=n*size∧v=.slice (some ⟨A,i,some e⟩) n size
def Stamps(es:List MapEntry)(ck:Nat):Prop:=(es.map (·.born)).Pairwise (·<·)∧∀e∈es,e.born<ck
theorem Stamps.nil(ck:Nat):Stamps [] ck:=⟨.nil,by simp⟩
theorem Stamps.push{es:List MapEntry}{ck:Nat}(h:Stamps es ck)(e:MapEntry)(he:e.born=ck):Stamps (es++[e]) (ck+1):=by refine⟨?_,λx hx=> ?_⟩;(·rw[dY,fw];refine⟨h.1,by simp,λa ha b hb=> ?_⟩;obtain⟨x,hx,rfl⟩:=dS.1 ha;simp only[eL,iV,dX]at hb;have:=h.2 x hx;omega);·rcases ez.1 hx with hx|hx;(·have:=h.2 x hx;omega);·rw[dX.1 hx];omega
theorem Stamps.set{es:List MapEntry}{ck:Nat}(h:Stamps es ck){j:Nat}{e:MapEntry}(hj:es[j]? =some e)(e':MapEntry)(he:e'.born=e.born):Stamps (es.set j e') ck:=by(have hb:(es.set j e').map (·.born)=es.map (·.born):=by rw[ib,he];apply iF;intro i;rw[ik];split;(·rename_i hij;subst hij;obtain⟨hlt,hg⟩:=dK.1 hj;simp[hlt,hg]);·rfl);refine⟨by rw[hb];exact h.1,λx hx=> ?_⟩;have:x.born∈(es.set j e').map (·.born):=eM hx;rw[hb]at this;obtain⟨y,hy,hxy⟩:=dS.1 this;rw[<-hxy];exact h.2 y hy
theorem Stamps.idx{es:List MapEntry}{ck:Nat}(h:Stamps es ck){j:Nat}{e:MapEntry}(hj:es[j]? =some e):es.findIdx? (λx=>(x.born:Int)==(e.born:Int))=some j:=by obtain⟨hlt,hg⟩:=dK.1 hj;rw[fE];refine⟨hlt,by rw[hg];simp,λi hi=> ?_⟩;have h1:=(eX.1 h.1) i j (by simpa using(by omega:i<es.length)) (by simpa using hlt) hi;simp only[jL]at h1;rw[hg]at h1;simp only[beq_iff_eq,Int.natCast_inj];exact Nat.ne_of_lt h1
def OwnAt(P:Program)(H:Heap)(o:Ob):Prop:=if o.size=0 then(∃A ty lo ver,kB H A=some (.cells o.cs ty true lo ver)∧lo<=o.cs.length∧o.v=ptr A 0 o.cs.length)∨∃A es ck ver,kB H A=some (.map es ck ver)∧o.cs=mcs es∧o.v=.map (some A)∧Stamps es ck else(o.v=.slice none 0 0∧o.cs=[])∨∃A i ty lo ver pre n,kB H A=some (.cells (pre++o.cs) ty true lo ver)∧lo<=i+o.cs.length∧pre.length=i∧o.cs.length=n*o.size∧ o.v=.slice (some ⟨A,i,some (i+o.cs.length)⟩) n o.size∧jT P ty=some o.size
structure St(P:Program)(H0:Base)(H:Heap)(os:List Ob):Prop where
 len:H0.H.length≤H.length
 old:∀B,B<H0.H.length→¬H0.X B→kB H B=kB H0.H B
 own:∀o∈os,OwnAt P H o
 new:∀o∈os,∀B,blk o.v=some B→H0.H.length≤B∨H0.X B
 sep:os.Pairwise fun o o'=>∀B,blk o.v=some B→blk o'.v≠some B
theorem St.refl(P:Program)(H:Heap):St P H H []:=⟨dJ _,λ_ _ _=>rfl,by simp,by simp,.nil⟩
theorem RdAt.ag{H':Heap}{v:Value}{size:Nat}{cs:List Value}(h:RdAt H v size cs)(hk:∀B,B<H.length->kB H' B=kB H B):RdAt H' v size cs:=by rcases h with h|⟨A,i,e,row,ty,rw,lo,ver,n,h,h2⟩;(·exact .inl h);·exact .inr ⟨A,i,e,row,ty,rw,lo,ver,n,by rw[hk A (kV h),h],h2⟩
theorem St.ag{H0:Heap}{os:List Ob}(h:St P H0 H os):∀B,B<H0.length->kB H B=kB H0 B:=λB hB=>h.old B hB (λh=>h)
theorem St.base{H0:Heap}{os:List Ob}(h:St P H0 H os){v:Value}{size:Nat}{cs:List Value}(hr:RdAt H0 v size cs):RdAt H v size cs:=hr.ag h.ag
theorem OwnAt.lt{o:Ob}(h:OwnAt P H o){B:Nat}(hb:blk o.v=some B):B<H.length:=by unfold OwnAt at h;split at h;(·rcases h with⟨A,ty,lo,ver,h1,_,h3⟩|⟨A,es,ck,ver,h1,_,h3,_⟩;(·rw[h3]at hb;simp[blk]at hb;exact hb▸kV h1);·rw[h3]at hb;simp[blk]at hb;exact hb▸kV h1);·rcases h with⟨h1,_⟩|⟨A,i,ty,lo,ver,pre,n,h1,_,_,_,h5,_⟩;(·rw[h1]at hb;simp[blk]at hb);·rw[h5]at hb;simp[blk]at hb;exact hb▸kV h1
theorem OwnAt.ag{H':Heap}{o:Ob}(h:OwnAt P H o)(hk:∀B,blk o.v=some B->kB H' B=kB H B):OwnAt P H' o:=by unfold OwnAt at h ⊢;split at h;(·rename_i hz;rw[if_pos hz];rcases h with⟨A,ty,lo,ver,h1,h2,h3⟩|⟨A,es,ck,ver,h1,h2,h3⟩;(·exact .inl ⟨A,ty,lo,ver,by rw[hk A (by rw[h3];rfl),h1],h2,h3⟩);·exact .inr ⟨A,es,ck,ver,by rw[hk A (by rw[h3.1];rfl),h1],h2,h3⟩);·rename_i hz;rw[if_neg hz];rcases h with h|⟨A,i,ty,lo,ver,pre,n,h1,h2,h3,h4,h5,h6⟩;(·exact .inl h);·exact .inr ⟨A,i,ty,lo,ver,pre,n,by rw[hk A (by rw[h5];rfl),h1],h2,h3,h4,h5,h6⟩
theorem OwnAt.rd{o:Ob}(h:OwnAt P H o)(hz:o.size≠0):RdAt H o.v o.size o.cs:=by unfold OwnAt at h;rw[if_neg hz]at h;rcases h with h|⟨A,i,ty,lo,ver,pre,n,h1,h2,h3,h4,h5,h6⟩;(·exact .inl h);·refine .inr ⟨A,i,_,_,ty,true,lo,ver,n,h1,h2,by simp[h3],dJ _,?_,h4,h5⟩;rw[<-h3];simp
theorem St.rd{os:List Ob}(h:St P H0 H os)(i:Nat){v:Value}{size:Nat}{cs:List Value}(ho:os[i]? =some ⟨v,size+1,cs⟩):RdAt H v (size+1) cs:=(h.own _ (ef ho)).rd (fV _)
def kJ(P:Program)(t:TypeId):Option Nat:=(jX P t).bind (jT P)
def kD(P:Program)(s:TypeId)(f:Nat):Option Nat:=(qQ P s f).bind λfd=>(jT P fd.type).bind λn=>if n==0 then none else some fd.offset
def b0i(o:Option Nat)(P:Program)(H:Heap)(t:TypeId)(v:Value):Option Value:=match o with| some _=>(match v with|.slice _ n _=>some (.int .i64 n)|_=>none)| none=>a2Q P H t v
theorem c5S(t:TypeId)(v:Value):a2Q P H t v=b0i (kJ P t) P H t v:=by unfold b0i;split;(·rename_i n hn;unfold kJ jX at hn;unfold a2Q;split at hn;(·rename_i e he;rw[he];cases v<;>simp[a0D,goInt]);·cases hn);·rfl
def zK(o:Option Nat)(P:Program)(t:TypeId)(v i:Value):Option Value:=match o with| some s=>(match v,i with|.slice (some ⟨A,i,some e⟩) n _,.int _ j=>if 0<=j&&j<n then some (ptr A (i+j.toNat*s) e)else none|_,_=>none)| none=>a4J P t v i
theorem c6x(t:TypeId)(v i:Value):a4J P t v i=zK (kJ P t) P t v i:=by unfold zK;split;(·rename_i n hn;unfold kJ jX at hn;unfold a4J;split at hn;(·rename_i e he;simp only[dD]at hn;rw[he];cases v with| slice a m c=>(cases a with| none=>cases i<;>rfl| some a=>obtain⟨A,i',s⟩:=a;cases s with| none=>cases i<;>rfl| some s=>cases i with| int k j=>simp only[hn,dD]| _=>rfl)| _=>cases i<;>rfl);·cases hn);·rfl
def b2r(o:Option Nat)(v:Value):Option Value:=match o,v with| some d,.pointer (some ⟨A,i,some e⟩)=>some (ptr A (i+d) e)| _,_=>none
theorem c5L(s:TypeId)(f:Nat)(v:Value):a9M P s f v=b2r (kD P s f) v:=by unfold a9M kD;split;(·cases qQ P s f with| none=>rfl| some fd=>simp only[dD];cases jT P fd.type with| none=>rfl| some n=>simp only[dD];split<;>rfl);·rename_i h;unfold b2r;split;(·exact(h _ _ _ rfl).elim);·rfl
theorem c3h(d A i e:Nat):b2r (some d) (ptr A i e)=some (ptr A (i+d) e):=rfl
theorem RdAt.len{v:Value}{size:Nat}{cs:List Value}(h:RdAt H v (size+1) cs){n:Nat}(hn:cs.length=n*(size+1))(m:Nat)(t:TypeId):b0i (some m) P H t v=some (.int .i64 n):=by have hn':∀m,cs.length=m*(size+1)->m=n:=λm hm=>gh (gz size) (hm.symm.trans hn);rcases h with⟨rfl,rfl⟩|⟨A,i,e,row,ty,rw,lo,ver,m,h1,h2,h3,h4,h5,h6,rfl⟩;(·have:=hn' 0 (by simp);subst this;rfl);·have:=hn' m h6;subst this;rfl
theorem RdAt.idx{v:Value}{size:Nat}{cs:List Value}(h:RdAt H v (size+1) cs){n:Nat}(hn:cs.length=n*(size+1))(t:TypeId)(k:IntKind)(j:Int) (h0:0<=j) (h1:j<n):zK (some (size+1)) P t v (.int k j)=some (mH v (size+1) j.toNat 0):=by have hn':∀m,cs.length=m*(size+1)->m=n:=λm hm=>gh (gz size) (hm.symm.trans hn);rcases h with⟨rfl,rfl⟩|⟨A,i,e,row,ty,rw,lo,ver,m,h2,h3,h4,h5,h6,h7,rfl⟩;(·have:=hn' 0 (by simp);omega);·have:=hn' m h7;subst this;simp[zK,h0,h1,mH]
theorem RdAt.bm{v:Value}{size:Nat}{cs:List Value}(h:RdAt H v (size+1) cs)(j:Nat)(hj:j*(size+1)<cs.length)(g d:Nat):b2r (some d) (mH v (size+1) j g)=some (mH v (size+1) j (g+d)):=by rcases h with⟨rfl,rfl⟩|⟨A,i,e,row,ty,rw,lo,ver,n,h1,h2,h3,h4,h5,h6,rfl⟩;(·simp at hj);·simp[b2r,mH,ir]
theorem RdAt.get{v:Value}{size:Nat}{cs:List Value}(h:RdAt H v size cs)(j f m:Nat)(hk:j*size+f+m≤cs.length)(hm:0<m):∃A i e,mH v size j f=ptr A i e∧kT H A i e m=some ((cs.drop (j*size+f)).take m):=by
 rcases h with⟨rfl,rfl⟩|⟨A,i,e,row,ty,rw,lo,ver,n,h1,h2,h3,h4,h5,h6,rfl⟩
 ·simp at hk;omega
 ·refine⟨_,_,_,rfl,?_⟩;simp only[kT,h1];rw[if_pos (by simp;omega)];congr 1
  conv=>rhs;rw[←h5]
  rw[List.drop_take,List.take_take,gI,gQ (by omega)];simp[ir]
theorem RdAt.ld{v:Value}{size:Nat}{cs:List Value}(h:RdAt H v size cs)(s:Option Nat)(j f:Nat)(hk:j*size+f<cs.length):pL (some false) s H (mH v size j f)=cs[j*size+f]?:=by obtain⟨A,i,e,h1,h2⟩:=h.get j f 1 hk (by omega);rw[h1];simp only[pL,h2,dD];rw[eP (by omega),eH];simp
theorem RdAt.aj{v:Value}{size:Nat}{cs:List Value}(h:RdAt H v size cs)(m j f:Nat)(hk:j*size+f+m<=cs.length)(hm:0<m):pL (some true) (some m) H (mH v size j f)=some (.agg ((cs.drop (j*size+f)).take m).toArray):=by obtain⟨A,i,e,h1,h2⟩:=h.get j f m hk hm;rw[h1];simp only[pL,h2,dD,eG]
def Sl1{α:Type}(H:Heap)(v:Value)(mk:α->Value)(xs:List α):Prop:=RdAt H v 1 (xs.map mk)
section
variable {α:Type} {mk:α→Value} {v:Value} {xs:List α}
theorem Sl1.len(h:Sl1 H v mk xs)(m:Nat)(t:TypeId):b0i (some m) P H t v=some (.int .i64 xs.length):=RdAt.len (size:=0) h (by simp) m t
theorem Sl1.idx(h:Sl1 H v mk xs)(t:TypeId)(k:IntKind)(j:Int)(h0:0<=j)(h1:j<xs.length):zK (some 1) P t v (.int k j)=some (mH v 1 j.toNat 0):=RdAt.idx (size:=0) h (by simp) t k j h0 h1
theorem Sl1.ld(h:Sl1 H v mk xs)(d:α)(s:Option Nat)(j:Nat)(hj:j<xs.length):pL (some false) s H (mH v 1 j 0)=some (mk (xs.getD j d)):=by rw[RdAt.ld h s j 0 (by simpa using hj)];simp[dG,hj]
end
def Sl2{α:Type}(H:Heap)(v:Value)(f g:α->Value)(xs:List α):Prop:=RdAt H v 2 (xs.flatMap λx=>[f x,g x])
theorem qV{α:Type}(f g:α->Value)(xs:List α):(xs.flatMap λx=>[f x,g x]).length=xs.length*2:=by induction xs with| nil=>rfl| cons x xs ih=>simp[ek,ih];omega
theorem a5z{α:Type}(f g:α->Value):∀(xs:List α)(j:Nat),(xs.flatMap λx=>[f x,g x]).drop (j*2)=(xs.drop j).flatMap λx=>[f x,g x]| [],j=>by simp| x::xs,0=>rfl| x::xs,j+1=>by rw[gK];simp only[ek,gm,fQ,js];exact a5z f g xs j
section
variable {α:Type} {f g:α→Value} {v:Value} {xs:List α}
theorem Sl2.len(h:Sl2 H v f g xs)(m:Nat)(t:TypeId):b0i (some m) P H t v=some (.int .i64 xs.length):=RdAt.len (size:=1) h (qV f g xs) m t
theorem Sl2.idx(h:Sl2 H v f g xs)(t:TypeId)(k:IntKind)(j:Int)(h0:0<=j)(h1:j<xs.length):zK (some 2) P t v (.int k j)=some (mH v 2 j.toNat 0):=RdAt.idx (size:=1) h (qV f g xs) t k j h0 h1
theorem Sl2.bm(h:Sl2 H v f g xs)(j:Nat)(hj:j<xs.length)(g d:Nat):b2r (some d) (mH v 2 j g)=some (mH v 2 j (g+d)):=RdAt.bm (size:=1) h j (by rw[qV];omega) g d
theorem Sl2.drop(j:Nat)(hj:j<xs.length)(d:α):(xs.flatMap λx=>[f x,g x]).drop (j*2)=f (xs.getD j d)::g (xs.getD j d)::((xs.drop (j+1)).flatMap λx=>[f x,g x]):=by rw[a5z,gn hj];(have e:xs.getD j d=xs[j]:=by simp[dG,hj]);rw[e];rfl
theorem Sl2.ld1(h:Sl2 H v f g xs)(d:α)(s:Option Nat)(j:Nat)(hj:j<xs.length):pL (some false) s H (mH v 2 j 1)=some (g (xs.getD j d)):=by rw[RdAt.ld h s j 1 (by rw[qV];omega)];have:=Sl2.drop (f:=f) (g:=g) j hj d;(have h2:((xs.flatMap λx=>[f x,g x]).drop (j*2))[1]? =some (g (xs.getD j d)):=by rw[this];rfl);rwa [eH]at h2
theorem Sl2.aj(h:Sl2 H v f g xs)(d:α)(j:Nat)(hj:j<xs.length):pL (some true) (some 2) H (mH v 2 j 0)=some (.agg #[f (xs.getD j d),g (xs.getD j d)]):=by rw[RdAt.aj h 2 j 0 (by rw[qV];omega) (by omega)];have:=Sl2.drop (f:=f) (g:=g) j hj d;rw[iS,this];rfl
end
theorem St.cell{os:List Ob}(hS:St P H0 H os)(i:Nat){A n:Nat}{cs:List Value}(ho:os[i]? =some ⟨ptr A 0 n,0,cs⟩):n=cs.length∧∃ty lo ver,kB H A=some (.cells cs ty true lo ver)∧lo<=cs.length:=by have:=hS.own _ (ef ho);unfold OwnAt at this;rw[if_pos rfl]at this;rcases this with this|⟨_,_,_,_,_,_,h,_⟩;(case inr=>cases h);obtain⟨A',ty,lo,ver,h1,h2,h3⟩:=this;simp only[ptr,Value.pointer.injEq,eu,Addr.mk.injEq,true_and]at h3;obtain⟨rfl,rfl⟩:=h3;exact⟨rfl,ty,lo,ver,h1,h2⟩
theorem St.ld{os:List Ob}(hS:St P H0 H os)(i:Nat){A n:Nat}{cs:List Value}(ho:os[i]? =some ⟨ptr A 0 n,0,cs⟩)(s:Option Nat)(off:Nat):pL (some false) s H (ptr A off n)=cs[off]?:=by obtain⟨rfl,ty,lo,ver,h1,h2⟩:=hS.cell i ho;simp only[pL,kT,h1];by_cases h:off<cs.length;(·rw[if_pos (by simp;omega)];simp only[dD];rw[eP (by omega),eH];simp);·rw[if_neg (by simp;omega),ff (by omega)];rfl
theorem St.aj{os:List Ob}(hS:St P H0 H os)(i:Nat){A n:Nat}{cs:List Value}(ho:os[i]? =some ⟨ptr A 0 n,0,cs⟩)(m off:Nat):pL (some true) (some m) H (ptr A off n)=if off+m<=cs.length then some (.agg ((cs.drop off).take m).toArray)else none:=by obtain⟨rfl,ty,lo,ver,h1,h2⟩:=hS.cell i ho;simp only[pL,kT,h1,dD];by_cases h:off+m<=cs.length;(·rw[if_pos (by simp;omega),if_pos h];rfl);·rw[if_neg (by simp;omega),if_neg h];rfl
theorem St.put{H1:Heap}{os:List Ob}(hS:St P H0 H os)(i:Nat){o o':Ob}(ho:os[i]? =some o)(hown:OwnAt P H1 o')(hlen:H.length<=H1.length)(hk:∀B,B<H.length->blk o.v≠some B->kB H1 B=kB H B) (hb:∀B,blk o'.v=some B->blk o.v=some B∨H.length<=B):St P H0 H1 (os.set i o'):=by
 have hi:i<os.length:=(dK.1 ho).1;have hoi:os[i]=o:=(dK.1 ho).2;have hpw:=eX.1 hS.sep;(have hne:∀j(hj:j<os.length),j≠i->∀B,blk os[j].v=some B->blk o.v≠some B:=by intro j hj hji B hB hB2;rcases gU hji with h|h;(·exact hpw j i hj hi h B hB (hoi▸hB2));·exact hpw i j hi hj h B (hoi▸hB2) hB);have ho0:∀B,blk o.v=some B->H0.H.length<=B∨H0.X B:=hS.new o (ef ho);refine⟨ey hS.len hlen,?_,?_,?_,?_⟩;(·intro B hB hX;rw[hk B (dZ hB hS.len) (λh=>by rcases ho0 B h with h|h;(·omega);·exact hX h),hS.old B hB hX]);(·intro x hx;rw[eE]at hx;obtain⟨j,hj,rfl⟩:=hx;rw[gR]at hj;rw[jM];split;(·exact hown);·rename_i hij;have hox:OwnAt P H os[j]:=hS.own _ (gD hj);exact hox.ag λB hB=>hk B (hox.lt hB) (hne j hj (λh=>hij h.symm) B hB));(·intro x hx B hB;rw[eE]at hx;obtain⟨j,hj,rfl⟩:=hx;rw[gR]at hj;rw[jM]at hB;split at hB;(·rcases hb B hB with h|h;(·exact ho0 B h);·exact .inl (ey hS.len h));·exact hS.new _ (gD hj) B hB);·rw[eX];intro j k hj hk' hjk B;rw[gR]at hj hk';rw[jM,jM];have hlt:∀j(hj:j<os.length)B,blk os[j].v=some B->B<H.length:=λj hj B hB=>(hS.own _ (gD hj)).lt hB;split;(·rename_i hij;split;(·omega);·intro h1 h2;rcases hb B h1 with h|h;(·exact hne k hk' (by omega) B h2 h);·have:=hlt k hk' B h2;omega);·rename_i hij;split;(·intro h1 h2;rcases hb B h2 with h|h;(·exact hne j hj (by omega) B h1 h);·have:=hlt j hj B h1;omega);·exact hpw j k hj hk' hjk B
theorem St.add{H1:Heap}{os:List Ob}(hS:St P H0 H os){o:Ob}(hown:OwnAt P H1 o)(hlen:H.length<=H1.length)(hk:∀B,B<H.length->kB H1 B=kB H B)(hb:∀B,blk o.v=some B->H.length<=B):St P H0 H1 (os++[o]):=by refine⟨ey hS.len hlen,λB hB hX=>by rw[hk B (dZ hB hS.len),hS.old B hB hX],?_,?_,?_⟩;(·intro x hx;rcases ez.1 hx with hx|hx;(·exact(hS.own x hx).ag λB hB=>hk B ((hS.own x hx).lt hB));·obtain rfl:=dX.1 hx;exact hown);(·intro x hx B hB;rcases ez.1 hx with hx|hx;(·exact hS.new x hx B hB);·obtain rfl:=dX.1 hx;exact .inl (ey hS.len (hb B hB)));·rw[fw];refine⟨hS.sep,jz _ _,λx hx y hy B h1 h2=> ?_⟩;obtain rfl:=dX.1 hy;have:=(hS.own x hx).lt h1;have:=hb B h2;omega
theorem St.trans{H1:Heap}{os os1:List Ob}(hS:St P H0 H os)(h1:St P H H1 os1):St P H0 H1 (os++os1):=by refine⟨ey hS.len h1.len,λB hB hX=>by rw[h1.ag B (dZ hB hS.len),hS.old B hB hX],?_,?_,?_⟩;(·intro x hx;rcases ez.1 hx with hx|hx;(·exact(hS.own x hx).ag λB hB=>h1.ag B ((hS.own x hx).lt hB));·exact h1.own x hx);(·intro x hx B hB;rcases ez.1 hx with hx|hx;(·exact hS.new x hx B hB);·rcases h1.new x hx B hB with h|h;(·exact .inl (ey hS.len h));·exact h.elim);·rw[fw];refine⟨hS.sep,h1.sep,λx hx y hy B e1 e2=> ?_⟩;have:=(hS.own x hx).lt e1;rcases h1.new y hy B e2 with h|h;(·have h:H.length<=B:=h;omega);·exact h.elim
def rA(os:List Ob):Nat->Prop:=λA=>∃o∈os,blk o.v=some A
theorem St.aN{os:List Ob}(hS:St P H0 H os):St P ⟨H,rA os⟩ H os:=⟨dJ _,λ_ _ _=>rfl,hS.own,λo ho B hB=>.inr ⟨o,ho,hB⟩,hS.sep⟩
theorem St.bG{H1:Heap}{os os1:List Ob}(hS:St P H0 H os)(h1:St P ⟨H,rA os⟩ H1 os1):St P H0 H1 os1:=by refine⟨ey hS.len h1.len,?_,h1.own,?_,h1.sep⟩;(·intro B hB hX;rw[h1.old B (dZ hB hS.len) ?_,hS.old B hB hX];rintro⟨o,ho,hb⟩;rcases hS.new o ho B hb with h|h;(·omega);·exact hX h);·intro o ho B hB;rcases h1.new o ho B hB with h|⟨o',ho',hb⟩;(·exact .inl (ey hS.len h));·exact hS.new o' ho' B hb
theorem St.other{H1:Heap}{os os1:List Ob}(h1:St P ⟨H,rA os⟩ H1 os1){L:Nat}(hL:L<H.length)(hn:∀o∈os,blk o.v≠some L):kB H1 L=kB H L:=h1.old L hL λ⟨o,ho,hb⟩=>hn o ho hb
theorem St.sub{os os':List Ob}(hS:St P H0 H os)(h:os'.Sublist os):St P H0 H os':=⟨hS.len,hS.old,λo ho=>hS.own o (h.subset ho),λo ho=>hS.new o (h.subset ho),hS.sep.sublist h⟩
theorem St.forget{os:List Ob}(hS:St P H0 H os):St P H0 H []:=hS.sub (List.nil_sublist _)
theorem OwnAt.nil(size:Nat):OwnAt P H ⟨.slice none 0 0,size+1,[]⟩:=by unfold OwnAt;rw[if_neg (fV _)];exact .inl ⟨rfl,rfl⟩
theorem St.nil{os:List Ob}(hS:St P H0 H os)(size:Nat):St P H0 H (os++[⟨.slice none 0 0,size+1,[]⟩]):=hS.add (.nil size) (dJ _) (λ_ _=>rfl) (λB hB=>by simp[blk]at hB)
end
end Go.Ds
namespace Go.Ds
noncomputable section
variable {P:Program} {H0:Base} {H:Heap} {os:List Ob}
theorem mL:∀(vs cs:List Value)(i:Nat),(kQ cs i vs).length=cs.length| [],_,_=>rfl| v::vs,cs,i=>by rw[kQ,mL vs,pG,gR]
theorem qW:∀(vs pre cs:List Value)(i:Nat),kQ (pre++cs) (pre.length+i) vs=pre++kQ cs i vs| [],_,_,_=>rfl| v::vs,pre,cs,i=>by rw[kQ,kQ,pG,pG,fL _ _ (by omega),gg,ir];exact qW vs pre _ _
theorem lB(cs:List Value)(i:Nat)(v:Value)(vs:List Value):kQ cs i (v::vs)=kQ (cs.set i v) (i+1) vs:=by rw[kQ,pG]
theorem oB(cs:List Value)(i:Nat):kQ cs i []=cs:=rfl
theorem rC{A B:Nat}{b:Blk}(h:A≠B):kB (hset H A b) B=kB H B:=kS b h
theorem St.eNew(hS:St P H0 H os){t:TypeId}{v:Value}(n:Nat)(cs:List Value){K:Value->Heap->Prop}(hc:v.cells.toList=cs)(hn:cs.length=n)(h1:cs.all oneCell=true)(hs:jT P t=some n) (h:∀A H1,St P H0 H1 (os++[⟨ptr A 0 n,0,cs⟩])->K (ptr A 0 n) H1):a8e P H t v K:=by subst hn;refine⟨ptr H.length 0 cs.length,H.cons (.cells cs t true cs.length 0),?_,h _ _ (hS.add ?_ ?_ ?_ ?_)⟩;(·simp only[a0p,hc,h1,hs,BEq.rfl,jO,if_true,mO]);(·unfold OwnAt;rw[if_pos rfl];exact .inl ⟨_,t,_,0,jY H _,dJ _,rfl⟩);(·simp[qR]);(·exact λB hB=>kU _ hB);·intro B hB;simp[blk]at hB;omega
theorem St.ab(hS:St P H0 H os)(i:Nat){A n:Nat}{cs:List Value}(ho:os[i]? =some ⟨ptr A 0 n,0,cs⟩){off:Nat}{t:TypeId}{v:Value}{K:Heap->Prop}(vs:List Value)(hc:v.cells.toList=vs)(h1:vs.all oneCell=true) (hs:jT P t=some vs.length) (hoff:off+vs.length<=cs.length) (h:∀H1,St P H0 H1 (os.set i ⟨ptr A 0 n,0,kQ cs off vs⟩)->K H1):a1T P H t (ptr A off n) v K:=by
 obtain⟨rfl,ty,lo,ver,h2,h3⟩:=hS.cell i ho;refine⟨hset H A (.cells (kQ cs off vs) ty true cs.length ver),?_,h _ (hS.put i ho ?_ ?_ ?_ ?_)⟩;(·simp only[tJ,h2,hc];rw[if_pos ⟨hs,h1,by trivial,hoff,h3⟩]);(·unfold OwnAt;rw[if_pos rfl];refine .inl ⟨A,ty,_,_,kF _ (kV h2),?_,?_⟩;(·simp[mL]);·simp[mL]);(·rw[lC];exact dJ _);(·intro B hB hne;refine rC λhh=>hne ?_;simp[blk,hh]);·intro B hB;exact .inl hB
theorem St.aD(hS:St P H0 H os)(i:Nat){s:Value}{size:Nat}{cs:List Value}(ho:os[i]? =some ⟨s,size+1,cs⟩){j f:Nat}{t:TypeId}{v:Value}{K:Heap->Prop}(vs:List Value)(hc:v.cells.toList=vs)(h1:vs.all oneCell=true) (hs:jT P t=some vs.length) (h0:0<vs.length) (hoff:j*(size+1)+f+vs.length<=cs.length) (h:∀H1,St P H0 H1 (os.set i ⟨s,size+1,kQ cs (j*(size+1)+f) vs⟩)->K H1):a1T P H t (mH s (size+1) j f) v K:=by
 have hown:=hS.own _ (ef ho);unfold OwnAt at hown;rw[if_neg (fV _)]at hown;rcases hown with⟨h2,h3⟩|⟨A,k,ty,lo,ver,pre,n,h2,h3,h4,h5,h6,h7⟩;(·simp only at h3;subst h3;simp only[eo]at hoff;omega);·simp only at h2 h3 h5 h6;refine⟨hset H A (.cells (kQ (pre++cs) (k+j*(size+1)+f) vs) ty true (pre++cs).length ver),?_,h _ (hS.put i ho ?_ ?_ ?_ ?_)⟩;(·simp only[tJ,mH,h6,h2,hc];rw[if_pos ⟨hs,h1,by simp[h4],by omega,h3⟩]);(·unfold OwnAt;rw[if_neg (fV _)];refine .inr ⟨A,k,ty,(pre++cs).length,ver,pre,n,?_,?_,h4,?_,?_,h7⟩;(·rw[kF _ (kV h2),<-h4,ir,qW]);(·simp[mL,h4]);(·simp only[mL];exact h5);·simp only[mL];exact h6);(·rw[lC];exact dJ _);(·intro B hB hne;refine rC λhh=>hne ?_;simp[blk,h6,hh]);·intro B hB;exact .inl hB
def oD(P:Program)(t:TypeId):Option (Nat×Nat):=(jX P t).bind λelem=>(jT P elem).bind λsize=>(oW P elem).bind λbytes=>(kN P elem).bind λz=>if z.cells.size==size then some (size,bytes)else none
theorem RdAt.src{x:Value}{size:Nat}{ys:List Value}(h:RdAt H x (size+1) ys):∃n,ys.length=n*(size+1)∧a2v H (size+1) x=some (n,ys):=by rcases h with⟨rfl,rfl⟩|⟨A,i,e,row,ty,rw,lo,ver,n,h1,h2,h3,h4,h5,h6,rfl⟩;(·exact⟨0,by simp,rfl⟩);·refine⟨n,h6,?_⟩;simp only[a2v,kT,h1];rw[<-h6,if_pos (by simp;omega),h5];rfl
theorem St.ar(hS:St P H0 H os)(i:Nat){s:Value}{size:Nat}{cs:List Value}(ho:os[i]? =some ⟨s,size+1,cs⟩){x:Value}{ys:List Value}(hx:RdAt H x (size+1) ys){t:TypeId}{bytes:Nat}{K:Value->Heap->Prop} (ha:oD P t=some (size+1,bytes)) (hroom:(cs.length+ys.length)*(bytes+1)<=17592186044416) (h:∀v H1,St P H0 H1 (os.set i ⟨v,size+1,cs++ys⟩)->K v H1):a0K P H t s x K:=by
 unfold oD at ha;cases he:jX P t with| none=>rw[he]at ha;cases ha| some elem=>rw[he]at ha;simp only[dD]at ha;cases hsz:jT P elem with| none=>rw[hsz]at ha;cases ha| some sz=>rw[hsz]at ha;simp only[dD]at ha;cases hby:oW P elem with| none=>rw[hby]at ha;cases ha| some by'=>rw[hby]at ha;simp only[dD]at ha;cases hz:kN P elem with| none=>rw[hz]at ha;cases ha| some z=>rw[hz]at ha;simp only[dD]at ha;split at ha;(case isFalse=>cases ha);rename_i hzs;simp only[eu,jc]at ha;obtain⟨rfl,rfl⟩:=ha;obtain⟨n,hn,hsrc⟩:=hx.src;(have hn':n<=ys.length:=by rw[hn];exact iO n (gz size));have hown:=hS.own _ (ef ho);unfold OwnAt at hown;rw[if_neg (fV _)]at hown;rcases hown with⟨h2,h3⟩|⟨A,k,ty,lo,ver,pre,m,h2,h3,h4,h5,h6,h7⟩;(·simp only at h2 h3;subst h2 h3;by_cases h0:n=0;(·subst h0;have hys:ys=[]:=fu (by omega);subst hys;refine⟨.slice none 0 0,H,?_,h _ _ ?_⟩;(·simp only[pV,he,hsz,hby,hz,dD,hsrc];simp[hzs,qI]);·obtain⟨hi,hoi⟩:=dK.1 ho;(have e:os.set i ⟨.slice none 0 0,size+1,[]++[]⟩=os:=by rw[ee,<-hoi,iC]);rw[e];exact hS);·refine⟨_,H.cons (.cells ys elem true ys.length 0),?_,h (.slice (some ⟨H.length,0,some ys.length⟩) n (size+1)) _ (hS.put i ho ?_ ?_ ?_ ?_)⟩;(·simp only[pV,he,hsz,hby,hz,dD,hsrc];(have hr:n*(by'+1)<=qI:=by refine ey (eO _ ?_) hroom;omega);simp[hzs,hr,h0,mO]);(·unfold OwnAt;rw[if_neg (fV _)];exact .inr ⟨_,0,elem,_,0,[],n,jY H _,by simp,rfl,by simpa using hn,by simp,hsz⟩);(·simp[qR]);(·exact λB hB _=>kU _ hB);·intro B hB;simp[blk]at hB;omega);·simp only at h2 h3 h5 h6;refine⟨_,hset H A (.cells (pre++cs++ys) ty true lo (if ty==elem then ver else 2)),?_,h (.slice (some ⟨A,k,some (k+cs.length+ys.length)⟩) (m+n) (size+1)) _ (hS.put i ho ?_ ?_ ?_ ?_)⟩;(·(have hr:(m+n)*(by'+1)<=qI:=by refine ey (eO _ ?_) hroom;(have:m<=cs.length:=by rw[h5];exact iO m (gz size));omega);simp only[pV,he,hsz,hby,hz,dD,hsrc,h6,h2];rw[if_pos];(·simp[a1n]);·(have h3':lo<=k+m*(size+1):=by rw[<-h5];exact h3);simp[hr,hzs,h7,h4,h3',h5]);(·unfold OwnAt;rw[if_neg (fV _)];refine .inr ⟨A,k,ty,lo,(if ty==elem then ver else 2),pre,m+n,?_,?_,h4,?_,?_,h7⟩;(·rw[kF _ (kV h2),fp]);(·simp;omega);(·simp[gC,h5,hn]);·simp[ir]);(·rw[lC];exact dJ _);(·intro B hB hne;refine rC λhh=>hne ?_;simp[blk,h6,hh]);·intro B hB;simp[blk]at hB;left;simp[blk,h6,hB]
theorem a7r(off:Nat):∀(vs:List Value)(k:Nat)(a:Array Value),((vs.zipIdx k).foldl (λcs(x:Value×Nat)=>cs.setIfInBounds (off+x.2) x.1) a).toList=kQ a.toList (off+k) vs| [],_,_=>rfl| v::vs,k,a=>by rw[List.zipIdx_cons,fP,a7r off vs (k+1),lB];simp[ir]
theorem pI:∀(vs pre rest:List Value),vs.length<=rest.length->kQ (pre++rest) pre.length vs=pre++vs++rest.drop vs.length| [],pre,rest,_=>by simp[kQ]| v::vs,pre,[],h=>by simp at h| v::vs,pre,r::rest,h=>by rw[lB,fL _ _ (dJ _),jD,iz];have:=pI vs (pre++[v]) rest (by simpa using h);simp only[fp,gm,fQ,dN,dV,eo,fN]at this;simpa using this
theorem a6R(size:Nat):∀(ps:List (Nat×Value))(k:Nat)(pre rest:List Value),pre.length=k*size->rest.length=ps.length*size->ps.map (·.1)=List.range' k ps.length->(∀p∈ps,p.2.cells.size=size)-> Instr.fill (λi=>some (i*size,size)) (pre++rest).toArray ps=some (pre++ps.flatMap λp=>p.2.cells.toList).toArray| [],k,pre,rest,_,h2,_,_=>by have:rest=[]:=fu (by simpa using h2);subst this;simp[Instr.fill]| (i,v)::ps,k,pre,rest,h1,h2,h3,h4=>by simp only[eL,dV,gV,gy]at h3;obtain⟨rfl,h3⟩:=h3;have hv:v.cells.size=size:=h4 (i,v) (dT ..);(have hrl:v.cells.toList.length<=rest.length:=by rw[h2];simp[hv,gC]);simp only[Instr.fill];rw[if_neg (by simp only[hv,ne_eq,not_true_eq_false,decide_false,Bool.false_or,gb,dN,h1,h2,dV,gC];simp)];(have e:(v.cells.zipIdx.foldl (λcs x=>cs.setIfInBounds (i*size+x.2) x.1) (pre++rest).toArray)=(pre++v.cells.toList++rest.drop v.cells.toList.length).toArray:=by apply Array.toList_inj.1;rw[<-jv,Array.toList_zipIdx,a7r,iS,<-h1,pI _ _ _ hrl]);have e':(v.cells.zipIdx.foldl (λcs(c,j)=>cs.setIfInBounds (i*size+j) c) (pre++rest).toArray)=(pre++v.cells.toList++rest.drop v.cells.toList.length).toArray:=e;rw[e',a6R size ps (i+1) (pre++v.cells.toList) _ (by simp[h1,hv,gC]) (by simp[h2,hv,gC]) h3 (λp hp=>h4 p (ew _ hp))];simp
theorem St.ak(hS:St P H0 H os){t:TypeId}{len:Nat}{ps:List (Nat×Value)}{size bytes:Nat}(cs:List Value){K:Value->Heap->Prop}(ha:oD P t=some (size+1,bytes))(hz:((jX P t).bind (kN P)).any kR=true) (hp:ps.map (·.1)=List.range' 0 ps.length) (hl:len=ps.length) (hsz:∀p∈ps,p.2.cells.size=size+1) (hcs:ps.flatMap (λp=>p.2.cells.toList)=cs) (h1:cs.all oneCell=true) (h0:len*(size+1)<=16777216) (hne:len≠0) (h:∀v H1,St P H0 H1 (os++[⟨v,size+1,cs⟩])->K v H1):vK P H t len ps K:=by
 subst hl;unfold oD at ha;cases he:jX P t with| none=>rw[he]at ha;cases ha| some elem=>rw[he]at ha hz;simp only[dD]at ha hz;cases hsz2:jT P elem with| none=>rw[hsz2]at ha;cases ha| some sz=>rw[hsz2]at ha;simp only[dD]at ha;cases hby:oW P elem with| none=>rw[hby]at ha;cases ha| some by'=>rw[hby]at ha;simp only[dD]at ha;cases hz2:kN P elem with| none=>rw[hz2]at ha;cases ha| some z=>rw[hz2]at ha hz;simp only[dD,Option.any_some]at ha hz;split at ha;(case isFalse=>cases ha);rename_i hzs;simp only[eu,jc]at ha;obtain⟨rfl,rfl⟩:=ha;(have hlen:cs.length=ps.length*(size+1):=by rw[<-hcs,List.length_flatMap];(have:ps.map (λp=>p.2.cells.toList.length)=ps.map (λ_=>size+1):=iN λp hp=>by simpa using hsz p hp);rw[this,List.map_const'];simp);(have hall:ps.all (λx=>x.2.cells.toList.all oneCell)=true:=by rw[<-hcs]at h1;rw[List.all_flatMap]at h1;exact h1);refine⟨.slice (some ⟨H.length,0,some cs.length⟩) ps.length (size+1),H.cons (.cells cs elem true cs.length 0),?_,h _ _ (hS.add ?_ ?_ ?_ ?_)⟩;(·unfold a1C;simp only[he,hsz2,hz2,dD];rw[if_neg (by simp[hne]),if_pos (by simp only[hz,hall,hzs,gj,gk,dE,decide_eq_true_eq,bne_iff_ne,ne_eq];exact⟨h0,Nat.mul_ne_zero hne (fV _)⟩)];have hf:=a6R (size+1) ps 0 [] ((Array.range (ps.length*(size+1))).map (z.cells[·%z.cells.size]!)).toList (by simp) (by simp) hp hsz;simp only[fQ,Array.toArray_toList]at hf;rw[hf,hcs];simp[mO]);(·unfold OwnAt;rw[if_neg (fV _)];exact .inr ⟨_,0,elem,_,0,[],ps.length,jY H _,by simp,rfl,hlen,by simp,hsz2⟩);(·simp[qR]);(·exact λB hB=>kU _ hB);·intro B hB;simp[blk]at hB;omega
def c5u(P:Program)(t:TypeId):Option (Nat×Value):=(jX P t).bind λelem=>(jT P elem).bind λsize=>(oW P elem).bind λbytes=>(kN P elem).bind λz=>if size==1&&z.cells.size==1&&kR z then some (bytes,z.cells[0]!)else none
theorem St.bY(hS:St P H0 H os){t:TypeId}{bytes:Nat}{z:Value}{K:Value->Heap->Prop}(a:Nat)(ha:c5u P t=some (bytes,z))(hroom:a*(bytes+1)<=17592186044416) (h:∀v H1,St P H0 H1 (os++[⟨v,1,List.replicate a z⟩])->K v H1):rQ P H t (.int .i64 a) (.int .i64 a) K:=by
 unfold c5u at ha;cases he:jX P t with| none=>rw[he]at ha;cases ha| some elem=>rw[he]at ha;simp only[dD]at ha;cases hsz2:jT P elem with| none=>rw[hsz2]at ha;cases ha| some sz=>rw[hsz2]at ha;simp only[dD]at ha;cases hby:oW P elem with| none=>rw[hby]at ha;cases ha| some by'=>rw[hby]at ha;simp only[dD]at ha;cases hz2:kN P elem with| none=>rw[hz2]at ha;cases ha| some z'=>rw[hz2]at ha;simp only[dD]at ha;split at ha;(case isFalse=>cases ha);rename_i hzs;simp only[dE,beq_iff_eq]at hzs;obtain⟨⟨rfl,hz1⟩,hfl⟩:=hzs;simp only[eu,jc]at ha;obtain⟨rfl,rfl⟩:=ha;refine⟨.slice (some ⟨H.length,0,some a⟩) a 1,H.cons (.cells (List.replicate a z'.cells[0]!) elem true a 0),?_,h _ _ (hS.add ?_ ?_ ?_ ?_)⟩;(·unfold wM;simp only[he,hsz2,hby,hz2,dD];rw[if_pos];(·simp[mO]);·(have:(a:Int)*(by'+1)<=(qI:Int):=by have h3:((a*(by'+1):Nat):Int)<=((17592186044416:Nat):Int):=Int.ofNat_le.2 hroom;simpa [qI]using h3);simp[hfl,hz1,this]);(·unfold OwnAt;rw[if_neg (by simp)];exact .inr ⟨_,0,elem,_,0,[],a,jY H _,by simp,rfl,by simp,by simp,hsz2⟩);(·simp[qR]);(·exact λB hB=>kU _ hB);·intro B hB;simp[blk]at hB;omega
def Fn(P:Program)(k:FuncId)(args:List Value)(H:Heap)(R:Value->Heap->Prop):Prop:=qU P k∧∃v H1,CallOk P k args H v H1∧R v H1
theorem jW{k:FuncId}{args:List Value}{R K:Value->Heap->Prop}(h:Fn P k args H R)(hk:∀v H1,R v H1->K v H1):wH P k args H K:=by obtain⟨h1,v,H1,h2,h3⟩:=h;exact⟨v,H1,h1,h2,hk v H1 h3⟩
def xR(P:Program)(fn:Func)(R:Value->Heap->Prop):mS:=λe l H=>(e=.normal∨e=.ret)∧lK (jS P fn l H) λv=>R v H
theorem a9m(fn:Func)(R:Value->Heap->Prop)(l:List Value):xR P fn R .normal l H=lK (jS P fn l H) λv=>R v H:=by simp[xR]
theorem c0b(fn:Func)(R:Value->Heap->Prop)(l:List Value):xR P fn R .ret l H=lK (jS P fn l H) λv=>R v H:=by simp[xR]
theorem Fn.of_wp{k:FuncId}{fn:Func}{c:Code}{args:List Value}{R:Value->Heap->Prop}(hf:P.funcs[k]? =some fn)(hb:fn.body=some c)(hn:(fn.name== "runtime.NumGoroutine")=false) (h:∀l,l=args++List.replicate (fn.ntmps-args.length) undef->Wp P c l H (xR P fn R)):Fn P k args H R:=by refine⟨⟨fn,hf,by simp[hb],hn⟩,?_⟩;refine CallOk.of_wp hf hb hn ((h _ rfl).mono ?_);rintro e l H1⟨h1,h2⟩;refine⟨h1,?_⟩;unfold lK at h2;split at h2;(·rename_i v hv;exact⟨v,hv,h2⟩);·exact h2.elim
theorem Fn.mono{k:FuncId}{args:List Value}{R R':Value->Heap->Prop}(h:Fn P k args H R)(hr:∀v H1,R v H1->R' v H1):Fn P k args H R':=by obtain⟨h1,v,H1,h2,h3⟩:=h;exact⟨h1,v,H1,h2,hr _ _ h3⟩
theorem RdAt.cells{v:Value}{size:Nat}{cs:List Value}(h:RdAt H v size cs):v.cells=#[v]∧oneCell v=true∧rF v=true:=by rcases h with⟨rfl,_⟩|⟨A,i,e,row,ty,rw,lo,ver,n,h1,h2,h3,h4,h5,h6,rfl⟩<;>exact⟨rfl,rfl,rfl⟩
theorem b3H{f:Value}{args:List Value}{K K':Value->Heap->Prop}(h:vI P f args H K)(hk:∀v H1,K v H1->K' v H1):vI P f args H K':=by unfold vI at h ⊢;split at h;(·obtain⟨v,H1,h1,h2,h3⟩:=h;exact⟨v,H1,h1,h2,hk _ _ h3⟩);(·obtain⟨v,H1,h1,h2⟩:=h;exact⟨v,H1,h1,hk _ _ h2⟩);·exact h.elim
def wB(z:Option Nat)(x:Value)(lo hi:Option Value):Option Value:=z.bind λsize=>match x with| .slice (some ⟨A,i,some e⟩) n c=>(match hi with|some h=>yH h|none=>some n).bind λh=>(match lo with|some l=>yH l|none=>some 0).bind λl=>if l<=h&&h<=n&&c==size then some (.slice (some ⟨A,i+l*size,some e⟩) (h-l) size)else none| _=>none
theorem a7n(t:TypeId)(x:Value)(lo hi:Option Value):a0g P t x lo hi=wB (kJ P t) x lo hi:=by unfold a0g wB kJ;cases jX P t with| none=>rfl| some e=>rfl
def rX(P:Program)(o:Oper)(l:List Value)(H:Heap)(z:Option Nat)(v:Value)(lo hi:Option Value)(K:Value->Heap->Prop)(_k:Keep K:=⟨⟩):Prop:=match z with| none=>lN (opD P o l H) K| some s=>if flat v then lN (opD P o l H) K else lK (wB (some s) v lo hi) λv=>K v H
theorem a3b{t:TypeId}{s:Nat}(h:kJ P t=some s):lG P t=none:=by unfold kJ at h;cases he:jX P t with| none=>rw[he]at h;cases h| some e=>simp[lG,lM he]
theorem b8M(d ty pos af g)(t:TypeId)(x:Operand)(lo hi:Option Operand)(l:List Value)(K:Value->Heap->Prop)(hok:∀a,lo=some a∨hi=some a->kH a=true)(hx:kH x=true) (h:rX P ⟨d,.slice t x lo hi none,ty,pos,af,g⟩ l H (kJ P t) (ev l x) (lo.map (ev l)) (hi.map (ev l)) K):nS P ⟨d,.slice t x lo hi none,ty,pos,af,g⟩ l H K:=by
 refine⟨?_,?_⟩;(·simp only[Op.operands];cases lo<;>cases hi<;>simp_all);·show lN _ K;cases hz:kJ P t with| none=>rw[hz]at h;exact h| some sz=>have harr:=a3b hz;rw[hz]at h;simp only[rX]at h;rw[<-hz]at h;split at h;(·exact h);·rename_i hf;(have e:opD P ⟨d,.slice t x lo hi none,ty,pos,af,g⟩ l H=(wB (kJ P t) (ev l x) (lo.map (ev l)) (hi.map (ev l))).map λv=>(v,H):=by simp only[opD];rw[if_neg hf,harr,a7n]);rw[e];cases hs:wB (kJ P t) (ev l x) (lo.map (ev l)) (hi.map (ev l))with| none=>rw[hs]at h;exact h.elim| some v=>rw[hs]at h;exact h
theorem wK(d ty pos af g)(t:TypeId)(x:Operand)(lo hi:Option Operand)(l:List Value)(K:Value->Heap->Prop): nS P ⟨d,.slice t x lo hi none,ty,pos,af,g⟩ l H K=(((#[x]++lo.toArray++hi.toArray).toList.all kH=true)∧rX P ⟨d,.slice t x lo hi none,ty,pos,af,g⟩ l H (kJ P t) (ev l x) (lo.map (ev l)) (hi.map (ev l)) K):=by
 apply propext;constructor;(·intro h;obtain⟨h1,h2⟩:=h;refine⟨?_,?_⟩;(·cases lo<;>cases hi<;>simpa [Op.operands]using h1);·cases hz:kJ P t with| none=>exact h2| some sz=>have harr:=a3b hz;simp only[rX];rw[<-hz];split;(·exact h2);·rename_i hf;(have e:opD P ⟨d,.slice t x lo hi none,ty,pos,af,g⟩ l H=(wB (kJ P t) (ev l x) (lo.map (ev l)) (hi.map (ev l))).map λv=>(v,H):=by simp only[opD];rw[if_neg hf,harr,a7n]);replace h2:lN (opD P ⟨d,.slice t x lo hi none,ty,pos,af,g⟩ l H) K:=h2;rw[e]at h2;cases hs:wB (kJ P t) (ev l x) (lo.map (ev l)) (hi.map (ev l))with| none=>rw[hs]at h2;exact h2.elim| some v=>rw[hs]at h2;exact h2);·rintro⟨h1,h2⟩;refine b8M d ty pos af g t x lo hi l K ?_ ?_ h2;(·intro a ha;cases lo<;>cases hi<;>simp_all;rcases ha with rfl|rfl<;>simp_all);·cases lo<;>cases hi<;>simp_all
theorem b4K(d ty pos af g)(t:TypeId)(x a:Operand)(l:List Value)(K:Value->Heap->Prop): nS P ⟨d,.slice t x (some a) none none,ty,pos,af,g⟩ l H K=kY x l λv=>kY a l λa'=>rX P ⟨d,.slice t x (some a) none none,ty,pos,af,g⟩ l H (kJ P t) v (some a') none K:=by rw[wK];simp[kY,and_assoc]
theorem b4T(d ty pos af g)(t:TypeId)(x a:Operand)(l:List Value)(K:Value->Heap->Prop): nS P ⟨d,.slice t x none (some a) none,ty,pos,af,g⟩ l H K=kY x l λv=>kY a l λa'=>rX P ⟨d,.slice t x none (some a) none,ty,pos,af,g⟩ l H (kJ P t) v none (some a') K:=by rw[wK];simp[kY,and_assoc]
theorem b3t(d ty pos af g)(t:TypeId)(x a b:Operand)(l:List Value)(K:Value->Heap->Prop): nS P ⟨d,.slice t x (some a) (some b) none,ty,pos,af,g⟩ l H K=kY x l λv=>kY a l λa'=>kY b l λb'=>rX P ⟨d,.slice t x (some a) (some b) none,ty,pos,af,g⟩ l H (kJ P t) v (some a') (some b') K:=by rw[wK];simp[kY,and_assoc]
def rL(v:Value)(size lo k:Nat):Value:=match v with| .slice (some ⟨A,i,s⟩) _ _=>.slice (some ⟨A,i+lo*size,s⟩) k size| v=>v
theorem RdAt.sub{v:Value}{size:Nat}{cs:List Value}(h:RdAt H v size cs)(lo k:Nat)(hk:lo*size+k*size≤cs.length)(h0:cs≠[]):RdAt H (rL v size lo k) size ((cs.drop (lo*size)).take (k*size)):=by
 rcases h with⟨rfl,rfl⟩|⟨A,i,e,row,ty,rw,lo',ver,n,h1,h2,h3,h4,h5,h6,rfl⟩
 ·exact(h0 rfl).elim
 ·refine .inr ⟨A,i+lo*size,e,row,ty,rw,lo',ver,k,h1,h2,h3,?_,?_,?_,rfl⟩
  ·simp;omega
  ·have hl:(List.take (k*size) (List.drop (lo*size) cs)).length=k*size:=by simp;omega
   rw[hl]
   conv=>rhs;rw[←h5]
   rw[List.drop_take,List.take_take,gI,gQ (by omega)]
  ·simp;omega
theorem RdAt.bJ{v:Value}{size:Nat}{cs:List Value}(h:RdAt H v size cs)(h0:cs≠[]):flat v=false:=by rcases h with⟨rfl,rfl⟩|⟨A,i,e,row,ty,rw,lo',ver,n,h1,h2,h3,h4,h5,h6,rfl⟩;(·exact(h0 rfl).elim);·rfl
theorem RdAt.ba{v:Value}{size:Nat}{cs:List Value}(h:RdAt H v (size+1) cs){n:Nat}(hn:cs.length=n*(size+1))(o:Oper)(l:List Value)(H':Heap)(k:IntKind)(a:Int)(K:Value->Heap->Prop)(h0:0<n)(h1:0<=a)(h2:a<=n): rX P o l H' (some (size+1)) v (some (.int k a)) none K=qN (rL v (size+1) a.toNat (n-a.toNat)) λv=>K v H':=by
 (have hne:cs≠[]:=λe=>by subst e;have hp:=jP h0 (gz size);have hq:0=n*(size+1):=hn;exact absurd (hq▸hp:0<0) (ft _));simp only[rX];rw[h.bJ hne];rcases h with⟨rfl,rfl⟩|⟨A,i,e,row,ty,rw,lo',ver,m,h3,h4,h5,h6,h7,h8,rfl⟩;(·exact(hne rfl).elim);·have:m=n:=gh (gz size) (h8.symm.trans hn);subst this;(have h9:a.toNat<=m:=by omega);simp[wB,yH,h1,h2,rL,lK,qN]
theorem RdAt.aY{v:Value}{size:Nat}{cs:List Value}(h:RdAt H v (size+1) cs){n:Nat}(hn:cs.length=n*(size+1))(o:Oper)(l:List Value)(H':Heap)(k:IntKind)(a:Int)(K:Value->Heap->Prop)(h0:0<n)(h1:0<=a)(h2:a<=n): rX P o l H' (some (size+1)) v none (some (.int k a)) K=qN (rL v (size+1) 0 a.toNat) λv=>K v H':=by
 (have hne:cs≠[]:=λe=>by subst e;have hp:=jP h0 (gz size);have hq:0=n*(size+1):=hn;exact absurd (hq▸hp:0<0) (ft _));simp only[rX];rw[h.bJ hne];rcases h with⟨rfl,rfl⟩|⟨A,i,e,row,ty,rw,lo',ver,m,h3,h4,h5,h6,h7,h8,rfl⟩;(·exact(hne rfl).elim);·have:m=n:=gh (gz size) (h8.symm.trans hn);subst this;(have h9:a.toNat<=m:=by omega);simp[wB,yH,h1,h9,rL,lK,qN]
def b6l(P:Program)(t:TypeId):Option Nat:=(jX P t).bind λelem=>(kN P elem).bind λz=>if lX z.cells.toList&&z.cells.size !=0 then some z.cells.size else none
theorem a4d(z:Array Value)(n:Nat):(Builtin.zeroCells z n).toList.length=n*z.size:=by simp[Builtin.zeroCells]
theorem a0R(z:Array Value)(n:Nat)(h:lX z.toList=true)(h0:z.size≠0):lX (Builtin.zeroCells z n).toList=true:=by unfold lX at h ⊢;rw[dQ]at h ⊢;intro x hx;simp only[Builtin.zeroCells,jf,Array.toList_range,dS]at hx;obtain⟨i,_,rfl⟩:=hx;have hlt:i%z.size<z.size:=fz _ (iT h0);rw[getElem!_pos z _ hlt];exact h _ (by simp)
theorem St.bZ(hS:St P H0 H os)(i:Nat){v:Value}{size:Nat}{cs:List Value}(ho:os[i]? =some ⟨v,size+1,cs⟩)(lo k:Nat)(hk:lo*(size+1)+k*(size+1)<=cs.length)(hne:cs≠[]){t:TypeId}(ht:b6l P t=some (size+1)){K:Value->Heap->Prop} (h:∀l H1,l.length=k*(size+1)->St P H0 H1 (os.set i ⟨v,size+1,kQ cs (lo*(size+1)) l⟩)->K (.tuple #[]) H1):a5p P H t (rL v (size+1) lo k) K:=by
 unfold b6l at ht;cases he:jX P t with| none=>rw[he]at ht;cases ht| some elem=>rw[he]at ht;simp only[dD]at ht;cases hz:kN P elem with| none=>rw[hz]at ht;cases ht| some z=>rw[hz]at ht;simp only[dD]at ht;split at ht;(case isFalse=>cases ht);rename_i hc;simp only[dE,bne_iff_ne,ne_eq]at hc;have hzs:=dC ht;have hown:=hS.own _ (ef ho);unfold OwnAt at hown;rw[if_neg (fV _)]at hown;rcases hown with⟨h2,h3⟩|⟨A,j,ty,lo',ver,pre,m,h2,h3,h4,h5,h6,h7⟩;(·exact(hne h3).elim);simp only at h2 h3 h5 h6;subst h6;by_cases hk0:k=0;(·subst hk0;refine⟨.tuple #[],H,?_,h [] H (by simp) ?_⟩;(·simp[wN,rL,he,hz]);·obtain⟨hi,hoi⟩:=dK.1 ho;rw[oB,<-hoi,iC];exact hS);·(have hl:(Builtin.zeroCells z.cells k).toList.length=k*(size+1):=by rw[a4d,hzs]);have hsc:=a0R z.cells k hc.1 hc.2;refine⟨.tuple #[],hset H A (.cells (kQ (pre++cs) (j+lo*(size+1)) (Builtin.zeroCells z.cells k).toList) ty true (pre++cs).length ver),?_,h _ _ hl (hS.put i ho ?_ ?_ ?_ ?_)⟩;(·simp only[wN,rL,he,hz,dD,h2];rw[if_neg (by simpa using hk0),if_pos (by rw[hsc,hl];simp[h4,h3];omega)]);(·unfold OwnAt;rw[if_neg (fV _)];refine .inr ⟨A,j,ty,(pre++cs).length,ver,pre,m,?_,?_,h4,?_,?_,h7⟩;(·rw[kF _ (kV h2),<-h4,qW]);(·simp[mL,h4]);(·simp only[mL];exact h5);·simp only[mL]);(·rw[lC];exact dJ _);(·intro B' hB hne';refine rC λhh=>hne' ?_;simp[blk,hh]);·intro B' hB;exact .inl hB
end
end Go.Ds
namespace Go.Ds
theorem c0R(k:IntKind)(n:Int):flat (.int k n)=true:=rfl
theorem b6B(b:Bool):flat (.bool b)=true:=rfl
theorem b3c:flat (.slice none 0 0)=true:=rfl
theorem b7E(k:IntKind)(n:Int):kR (.int k n)=true:=rfl
theorem b4l(b:Bool):kR (.bool b)=true:=rfl
theorem c2F(ops:List Oper)(j:Nat):a1B ops.toArray j=(ops[j]?).bind (·.dst):=by simp[a1B]
theorem b7A(l:List Value):kR (.agg l.toArray)=l.all kG:=by simp[kR,lX]
theorem c2N(l:List Value):flat (.agg l.toArray)=l.all kG:=by simp[flat,kR,lX]
theorem b6H:kR (.slice none 0 0)=true:=rfl
theorem a8k:flat .nilFunc=true:=rfl
theorem b3w(k:IntKind)(n:Int):kG (.int k n)=true:=rfl
theorem a9C(b:Bool):kG (.bool b)=true:=rfl
theorem b3R:kG (.slice none 0 0)=true:=rfl
theorem c3u(A i e:Nat):rF (ptr A i e)=true:=rfl
theorem b0L(k:IntKind)(n:Int):kL (.int k n)=true:=rfl
theorem a8u(b:Bool):kL (.bool b)=true:=rfl
theorem b2g:kL (.slice none 0 0)=true:=rfl
theorem b0N(cs:Array Value):kL (.agg cs)=true:=rfl
theorem RC: (∀(p:Prop),(True∧p)=p)∧ (∀(p:Prop),(p∧True)=p)∧ (∀{α:Sort 1}{x:Decidable True}(t e:α),(@ite α True x t e)=t)∧ (∀{α:Sort 1}{x:Decidable False}(t e:α),(@ite α False x t e)=e)∧ (∀{x:Decidable True}(t e:Prop),(@ite Prop True x t e)=t)∧ (∀{x:Decidable False}(t e:Prop),(@ite Prop False x t e)=e)∧ (∀(n:Nat),0+n=n)∧ (∀(n:Nat),n*1=n)∧ (∀(n:Nat),(n:Int).toNat=n)∧ (∀(n:Nat),n+0=n)∧ (∀(h:Decidable True), @decide True h=true)∧ (∀(h:Decidable False), @decide False h=false)∧ ((!true)=false)∧ ((!false)=true)∧ (∀{α:Type}(l:List α),[]++l=l)∧ (∀{α:Type}(l:List α),l++[]=l)∧ (∀{α:Type}{a:α}{l m:List α},a::l++m=a::(l++m))∧ (∀{α:Type}{a:α}{l:List α},(a::l)[0]? =some a)∧ (∀{α:Type}{a:α}{i:Nat}{l:List α},(a::l)[i+1]? =l[i]?)∧ (∀{α β:Type}(a:α)(f:α->Option β),(some a).bind f=f a)∧ (∀{α:Type}{x:α}{xs:List α}{d:α},(x::xs).getD 0 d=x)∧ (∀{α:Type}{x:α}{xs:List α}{n:Nat}{d:α},(x::xs).getD (n+1) d=xs.getD n d)∧ (∀{α:Type}{a:α}{l:List α},(a::l).length=l.length+1)∧ (∀{α:Type},([]:List α).length=0)∧ (∀{α:Type}{l:List α},List.drop 0 l=l)∧ (∀{α:Type}{a:α}{l:List α}{i:Nat},List.take (i+1) (a::l)=a::List.take i l)∧ (∀{α:Type}{l:List α},List.take 0 l=[])∧ (∀{α:Type}{a:α}{l:List α}{i:Nat},List.drop (i+1) (a::l)=List.drop i l)∧ (∀{α:Type}{a:α}{l:List α}{f:α->Bool},(a::l).all f=(f a&&l.all f))∧ (∀{α:Type}{f:α->Bool},[].all f=true)∧ (∀(b:Bool),(b&&true)=b)∧ (∀(b:Bool),(true&&b)=b)∧ (∀(b:Bool),(b&&b)=b)∧ (∀(cs:List Value)(i:Nat)(v:Value)(vs:List Value),kQ cs i (v::vs)=kQ (cs.set i v) (i+1) vs)∧ (∀(cs:List Value)(i:Nat),kQ cs i []=cs)∧ (∀{α:Type}{x:α}{xs:List α}{a:α},(x::xs).set 0 a=a::xs)∧ (∀{α:Type}{x:α}{xs:List α}{i:Nat}{a:α},(x::xs).set (i+1) a=x::xs.set i a)∧ ((¬True)=False)∧ ((¬False)=True)∧ (∀{p:Prop}[Decidable p],¬¬p↔p)∧ (∀{n:Nat},((OfNat.ofNat n:Nat):Int)=OfNat.ofNat n):=⟨@true_and, @and_true, @if_true, @if_false, @if_true Prop, @if_false Prop, @Nat.zero_add, @Nat.mul_one, @Int.toNat_natCast, @Nat.add_zero, @decide_true, @decide_false,Bool.not_true,Bool.not_false, @List.nil_append, @List.append_nil, @List.cons_append, @List.getElem?_cons_zero, @List.getElem?_cons_succ, @Option.bind_some, @List.getD_cons_zero, @List.getD_cons_succ, @List.length_cons, @List.length_nil, @List.drop_zero, @List.take_succ_cons, @List.take_zero, @List.drop_succ_cons, @List.all_cons, @List.all_nil, @Bool.and_true, @Bool.true_and, @Bool.and_self, @lB, @oB, @List.set_cons_zero, @List.set_cons_succ,not_true_eq_false,not_false_eq_true, @Decidable.not_not, @Int.cast_ofNat_Int⟩
end Go.Ds
namespace Go.Ds
open Go.RowKit
section
variable {P:Program} {H:Heap}
theorem CallOk.calls{ρ:Rho}{w:World}{f:FuncId}{args:List Value}{v:Value}{H':Heap}(h:CallOk P f args H v H'){args':Array Value}(hr:HRel P ρ H w)(ha:All2 (V ρ) args args'.toList): Calls P f args' w λe w'=>∃ρ' v',e=.returned v'∧Post P ρ H w ρ' H' w'∧V ρ' v v':=(h 0 ρ w args' hr ha).calls λk=>by intro d h;cases h
def Shut(ρ:Rho)(H:Heap):Prop:=∀b,¬Wr ρ H b
theorem Fn.calls{ρ:Rho}{w:World}{f:FuncId}{args:List Value}{b:Bool}(h:Fn P f args H λv _=>v=.bool b){args':Array Value}(hr:HRel P ρ H w)(hs:Shut ρ H)(ha:All2 (V ρ) args args'.toList): Calls P f args' w λe w'=>e=.returned (.bool b)∧Below w.heap.size w w':=by obtain⟨_,v,H1,h1,rfl⟩:=h;refine(h1.calls hr ha).mono ?_;rintro e w'⟨ρ',v',rfl,hp,hv⟩;refine⟨?_,hp.os,hp.tape.1,hp.output,hp.size,λk hk=>(hp.frame k hk (hs k)).1⟩;rw[hv.ai rfl]
theorem HRel.none(w:World):HRel P (λ_ _=>Option.none) .nil w:=.empty w
theorem Shut.none:Shut (λ_ _=>Option.none) .nil:=λb⟨A,e,p,blk,h,_⟩=>by cases h
end
end Go.Ds
namespace Go.Ds
section
variable {P:Program} {B:Base} {H:Heap}
def FnS(P:Program)(k:FuncId)(args:List Value)(H:Heap)(R:Value->Heap->Prop):Prop:=∃fn c e l1 H1 v,P.funcs[k]? =some fn∧fn.body=some c∧(fn.name== "runtime.NumGoroutine")=false∧Sim P c (args++List.replicate (fn.ntmps-args.length) undef) H e l1 H1∧(e=.normal∨e=.ret)∧jS P fn l1 H1=some v∧R v H1
theorem FnS.of_wp{k:FuncId}{fn:Func}{c:Code}{args:List Value}{R:Value->Heap->Prop}(hf:P.funcs[k]? =some fn)(hb:fn.body=some c)(hn:(fn.name== "runtime.NumGoroutine")=false) (h:∀l,l=args++List.replicate (fn.ntmps-args.length) undef->Wp P c l H (xR P fn R)):FnS P k args H R:=by obtain⟨e,l1,H1,h1,h2,h3⟩:=h _ rfl;unfold lK at h3;split at h3;(·rename_i v hv;exact⟨fn,c,e,l1,H1,v,hf,hb,hn,h1,h2,hv,h3⟩);·exact h3.elim
theorem FnS.fn{k:FuncId}{args:List Value}{R:Value->Heap->Prop}(h:FnS P k args H R):Fn P k args H R:=by obtain⟨fn,c,e,l1,H1,v,hf,hb,hn,h1,h2,h3,h4⟩:=h;exact⟨⟨fn,hf,by simp[hb],hn⟩,v,H1,.bU hf hb hn h1 h2 h3,h4⟩
theorem FnS.mono{k:FuncId}{args:List Value}{R R':Value->Heap->Prop}(h:FnS P k args H R)(hr:∀v H1,R v H1->R' v H1):FnS P k args H R':=by obtain⟨fn,c,e,l1,H1,v,hf,hb,hn,h1,h2,h3,h4⟩:=h;exact⟨fn,c,e,l1,H1,v,hf,hb,hn,h1,h2,h3,hr _ _ h4⟩
def b6c(l:List Value)(ps:Array Tmp)(assign body:Code):Loop:={state:=.ready,pending:=none,fn:=0,tmps:=l.toArray,params:=ps,assign:=assign,body:=body,defers:=0}
def c1D(P:Program)(l:List Value)(L:Nat)(Q:mS):Value->Heap->Prop:=λ_ H2=>∃r,kB H2 L=some (.loop r)∧r.state≠.busy∧ (r.pending=none->Q .normal l (hset H2 L (.loop {r with state:=.exhausted})))∧∀c,r.pending=some c->Wp P c l (hset H2 L (.loop {r with state:=.exhausted})) Q
theorem Wp.range{g:Operand}{ps:Array Tmp}{assign body:Code}{l:List Value}{Q:mS}{k:FuncId}{first captured:List Value}(hgo:kH g=true)(hg:ev l g=.func (.func k) first.toArray captured.toArray) (h:FnS P k (first++[.func (.yield H.length) #[] #[]]++captured) (H.cons (.loop (b6c l ps assign body))) (c1D P l H.length Q)):Wp P (.rangeFunc g ps assign body) l H Q:=by
 classical obtain⟨fn,c,e,l1,H2,v,hf,hb,hn,hs,he,hres,r,hr,hnb,hp⟩:=h;let sl:=(first++[Value.func (.yield H.length) #[] #[]]++captured)++List.replicate (fn.ntmps-(first++[Value.func (.yield H.length) #[] #[]]++captured).length) undef;let H1:=H.cons (.loop (b6c l ps assign body));let ex:Run:=λc' l' H'=>if c'=c∧l'=sl∧H'=H1 then some (e,l1,H2)else none;(have hex:∀c l H e l' H',ex c l H=some (e,l',H')->Sim P c l H e l' H':=by intro c' l' H' e' l2 H3 hh;simp only[ex]at hh;split at hh;(·rename_i h1;obtain⟨rfl,rfl,rfl⟩:=h1;injection hh with hh;injection hh with h1 hh;injection hh with h2 h3;subst h1 h2 h3;exact hs);·cases hh);(have hc:a7T P ex (ev l g) H.length (H.cons (.loop {state:=.ready,pending:=none,fn:=0,tmps:=l.toArray,params:=ps,assign,body,defers:=0}))=some (v,H2):=by unfold a7T;rw[hg];show callF P ex k (first++[Value.func (.yield H.length) #[] #[]]++captured) H1=some (v,H2);unfold callF;rw[hf];(have h1:ex c sl H1=some (e,l1,H2):=by simp[ex]);simp only[hb,hn,eN,if_false];rw[show ex c ((first++[Value.func (.yield H.length) #[] #[]]++captured)++List.replicate (fn.ntmps-(first++[Value.func (.yield H.length) #[] #[]]++captured).length) undef) H1=some (e,l1,H2)from h1];rcases he with rfl|rfl<;>simp[hres]);by_cases hpend:r.pending=none;(·exact⟨.normal,l,_,b1v hex hc hgo hr hnb (λ_=>⟨rfl,rfl,rfl⟩) (λc h=>by rw[hpend]at h;cases h),hp.1 hpend⟩);·obtain⟨c',hc'⟩:=Option.ne_none_iff_exists'.1 hpend;obtain⟨e',l',H',hs',hq⟩:=hp.2 c' hc';exact⟨e',l',H',b1v hex hc hgo hr hnb (λh=>absurd h hpend) (λc h=>by rw[hc']at h;obtain rfl:=dC h;exact hs'),hq⟩
def uK:Ex->Option Code| .normal=>none| .ret=>some .ret| .exit id=>some (.exit id)
theorem a3k{L:Nat}{args:List Value}{K:Value->Heap->Prop}{r:Loop}(hg:kB H L=some (.loop r))(hn:r.params.size=args.length)(hst:r.state=.ready) (h:Wp P r.assign ((r.params.toList.zip args).foldl (λt(p,v)=>t.set p v) r.tmps.toList) H λe l1 H1=>e=.normal∧∃r1,kB H1 L=some (.loop r1)∧r1.state=.ready∧ Wp P r.body l1 (hset H1 L (.loop {r1 with state:=.busy})) λe _ H2=>∃r2,kB H2 L=some (.loop r2)∧ K (.bool (uK e).isNone) (hset H2 L (.loop {r2 with state:=if(uK e).isNone then .ready else .done,pending:=uK e}))): vI P (.func (.yield L) #[] #[]) args H K:=by
 classical obtain⟨e1,l1,H1,hs1,rfl,r1,hg1,hst1,e2,l2,H2,hs2,r2,hg2,hk⟩:=h;refine⟨_,_,?_,hk⟩;let sl:=(r.params.toList.zip args).foldl (λt(p,v)=>t.set p v) r.tmps.toList;let Hb:=hset H1 L (.loop {r1 with state:=.busy});let ex:Run:=λc' l' H'=>if c'=r.assign∧l'=sl∧H'=H then some (.normal,l1,H1)else if c'=r.body∧l'=l1∧H'=Hb then some (e2,l2,H2)else none;(have hex:∀c l H e l' H',ex c l H=some (e,l',H')->Sim P c l H e l' H':=by intro c' l' H' e' l3 H3 hh;simp only[ex]at hh;split at hh;(·rename_i h1;obtain⟨rfl,rfl,rfl⟩:=h1;injection hh with hh;injection hh with h1 hh;injection hh with h2 h3;subst h1 h2 h3;exact hs1);·split at hh;(·rename_i h1;obtain⟨rfl,rfl,rfl⟩:=h1;injection hh with hh;injection hh with h1 hh;injection hh with h2 h3;subst h1 h2 h3;exact hs2);·cases hh);(have hbH:¬Hb=H:=by intro hh;have h1:kB Hb L=some (.loop {r1 with state:=.busy}):=kF _ (kV hg1);rw[hh,hg]at h1;injection h1 with h1;injection h1 with h1;(have h2:r.state=.busy:=by rw[h1]);rw[hst]at h2;cases h2);(have hc:a3S ex L args H=some (.bool (uK e2).isNone,hset H2 L (.loop {r2 with state:=if(uK e2).isNone then .ready else .done,pending:=uK e2})):=by unfold a3S;rw[hg];simp only;rw[if_pos ⟨hn,hst⟩];(have h1:ex r.assign sl H=some (.normal,l1,H1):=by simp[ex]);(have h2:ex r.body l1 Hb=some (e2,l2,H2):=by simp only[ex];rw[if_neg (λhh=>hbH hh.2.2),if_pos ⟨trivial,trivial,trivial⟩]);rw[show ex r.assign ((r.params.toList.zip args).foldl (λt(p,v)=>t.set p v) r.tmps.toList) H=some (.normal,l1,H1)from h1];simp only[hg1];rw[if_pos hst1];rw[show ex r.body l1 (hset H1 L (.loop {r1 with state:=.busy}))=some (e2,l2,H2)from h2];simp only[hg2];cases e2<;>rfl);exact λρ w p args' k hr hp ha=>c1f hex hc hr hp ha k
structure Lp(P:Program)(B:Base)(L:Nat)(r:Loop)(H:Heap)(os:List Ob):Prop where
 st:St P B H os
 get:kB H L=some (.loop r)
 lo:B.H.length≤L
 ne:∀o∈os,blk o.v≠some L
theorem b6F{H:Heap}{A:Nat}{b c:Blk}(h:kB H A=some c):kB (hset H A b) A=some b:=kF b (kV h)
theorem Lp.enter{os:List Ob}(hS:St P B H os)(r:Loop):Lp P B H.length r (H.cons (.loop r)) os where
 st:=by
  have h1:St P H (H.cons (.loop r)) []:=⟨by rw[qR];exact Nat.le_succ _,fun B hB _=>kU _ hB,by simp,by simp,.nil⟩;simpa using hS.trans h1
 get:=jY H _
 lo:=hS.len
 ne o ho hb:=by
  have:=(hS.own o ho).lt hb
  omega
theorem Lp.ext{L:Nat}{r:Loop}{H2:Heap}{os os2:List Ob}(h:Lp P B L r H os)(h2:St P H H2 os2):Lp P B L r H2 (os++os2) where
 st:=h.st.trans h2
 get:=by rw[h2.ag L (kV h.get)];exact h.get
 lo:=h.lo
 ne o ho hb:=by
  rcases ez.1 ho with ho|ho
  ·exact h.ne o ho hb
  ·have hl:=kV h.get;rcases h2.new o ho L hb with h3|h3
   ·have h3:H.length≤L:=h3;omega
   ·exact h3
theorem Lp.sub{L:Nat}{r:Loop}{os os':List Ob}(h:Lp P B L r H os)(hs:os'.Sublist os):Lp P B L r H os':=⟨h.st.sub hs,h.get,h.lo,λo ho=>h.ne o (hs.subset ho)⟩
theorem Lp.set{L:Nat}{r:Loop}{os:List Ob}(h:Lp P B L r H os)(hX:¬B.X L)(r':Loop):Lp P B L r' (hset H L (.loop r')) os where
 st:=by
  refine⟨by rw[lC];exact h.st.len,?_,?_,h.st.new,h.st.sep⟩
  ·intro A hA hXA;rw[kS _ (by have:=h.lo;omega)];exact h.st.old A hA hXA
  ·intro o ho;exact(h.st.own o ho).ag fun A hA=>kS _ (fun hh=>h.ne o ho (by rw[hA,hh]))
 get:=b6F h.get
 lo:=h.lo
 ne:=h.ne
theorem Lp.body{L:Nat}{r:Loop}{H2:Heap}{os os2:List Ob}(h:Lp P B L r H os)(h2:St P ⟨H,rA os⟩ H2 os2):Lp P B L r H2 os2 where
 st:=h.st.bG h2
 get:=by rw[h2.other (kV h.get) h.ne];exact h.get
 lo:=h.lo
 ne o ho hb:=by
  have hl:=kV h.get;rcases h2.new o ho L hb with h3|⟨o',ho',hb'⟩
  ·have h3:H.length≤L:=h3;omega
  ·exact h.ne o' ho' hb'
end
end Go.Ds
namespace Go.Ds
noncomputable section
variable {P:Program} {H:Heap}
def SWr(P:Program):Code->List Value->Heap->mS->Prop| .skip,l,H,Q=>Q .normal l H| .label _,l,H,Q=>Q .normal l H| .exit id,l,H,Q=>Q (.exit id) l H| .ret,l,H,Q=>Q .ret l H| .seq a b,l,H,Q=>SWr P a l H (λe l1 H1=>match e with|.normal=>SWr P b l1 H1 Q|e=>Q e l1 H1)| .block id b,l,H,Q=>SWr P b l H λe l1 H1=>Q (e.out id) l1 H1| .cond (.tmp t) x y,l,H,Q=>pQ (get l t) (SWr P x l H Q) (SWr P y l H Q)| .region _ ops false,l,H,Q=>qJ P ops ops.toList l H λl H=>Q .normal l H| c,l,H,Q=>Wp P c l H Q
theorem rM{v:Value}{p q p' q':Prop}(h:pQ v p q)(h1:p->p')(h2:q->q'):pQ v p' q':=by unfold pQ at h ⊢;split at h;(·rename_i c;cases c;(·simpa using h2 (by simpa using h));·simpa using h1 (by simpa using h));·exact h.elim
theorem c3n{o:Oper}{l:List Value}{K K':Value->Heap->Prop}(hk:∀v H1,K v H1->K' v H1)(h:nS P o l H K):nS P o l H K':=by obtain⟨h2,h3⟩:=h;refine⟨h2,?_⟩;(have bw:∀r,lN r K->lN r K':=λr hr=>by cases r with| none=>exact hr| some r=>exact hk _ _ hr);split at h3;(·exact hk _ _ h3);(·exact hk _ _ h3);(·split at h3;(·unfold vI at h3 ⊢;split at h3;(·obtain⟨v,H1,a,b,c⟩:=h3;exact⟨v,H1,a,b,hk _ _ c⟩);(·obtain⟨v,H1,a,b⟩:=h3;exact⟨v,H1,a,hk _ _ b⟩);·exact h3);·exact bw _ h3);·exact bw _ h3
theorem a2i{ops:Array Oper}{K K':List Value->Heap->Prop}(hk:∀l H,K l H->K' l H):∀(os:List Oper)(l:List Value)(H:Heap),qJ P ops os l H K->qJ P ops os l H K'| [],l,H,h=>hk _ _ h| o::os,l,H,h=>by unfold qJ at h ⊢;split;(·rename_i hw;rw[if_pos hw]at h;exact c3n (λv H1 h=>a2i hk os _ _ h) h);·rename_i hw;rw[if_neg hw]at h;exact a2i hk os _ _ h
theorem SWr.wp:∀(c:Code){l:List Value}{H:Heap}{Q:mS},SWr P c l H Q->Wp P c l H Q:=by intro c;induction c with| skip=>intro l H Q h;exact .skip h| label t=>intro l H Q h;exact .label h| exit id=>intro l H Q h;exact .exit h| ret=>intro l H Q h;exact .ret h| seq a b iha ihb=>intro l H Q h;refine .seq ((iha h).mono ?_);intro e l1 H1 h1;(cases e with| normal=>exact ihb h1| exit i=>exact h1| ret=>exact h1)| block id b ih=>intro l H Q h;exact .block (ih h)| cond c x y ihx ihy=>intro l H Q h;(cases c with| tmp t=>exact Wp.bW (rM h ihx ihy)| _=>exact h)| region id ops d=>intro l H Q h;(cases d with| true=>exact h| false=>exact .region h)| _=>intro l H Q h;exact h
def SW(P:Program)(c:Code)(l:List Value)(H:Heap)(Q:mS)(_k1:Keep c:=⟨⟩)(_k2:Keep Q:=⟨⟩):Prop:=SWr P c l H Q
theorem SW.wp{c:Code}{l:List Value}{Q:mS}(h:SW P c l H Q):Wp P c l H Q:=SWr.wp c h
theorem c0H{c:Code}{l l':List Value}{Q:mS}(h:l=l'):SW P c l H Q=SW P c l' H Q:=by rw[h]
attribute [congr] c0H
def c6C(P:Program)(b:Code)(Q:mS):mS:=λe l1 H1=>match e with|.normal=>SWr P b l1 H1 Q|e=>Q e l1 H1
theorem b0Z(b:Code)(Q:mS)(l:List Value):c6C P b Q .normal l H=SW P b l H Q:=rfl
theorem b7m(b:Code)(Q:mS)(i:Nat)(l:List Value):c6C P b Q (.exit i) l H=Q (.exit i) l H:=rfl
theorem c0c(b:Code)(Q:mS)(l:List Value):c6C P b Q .ret l H=Q .ret l H:=rfl
theorem c6M(l:List Value)(Q:mS):SW P .skip l H Q=Q .normal l H:=rfl
theorem c2a(t:Nat)(l:List Value)(Q:mS):SW P (.label t) l H Q=Q .normal l H:=rfl
theorem c4Z(id:Nat)(l:List Value)(Q:mS):SW P (.exit id) l H Q=Q (.exit id) l H:=rfl
theorem c8k(l:List Value)(Q:mS):SW P .ret l H Q=Q .ret l H:=rfl
theorem c9y(a b:Code)(l:List Value)(Q:mS):SW P (.seq a b) l H Q=SW P a l H (c6C P b Q):=rfl
theorem c3H(id:Nat)(b:Code)(l:List Value)(Q:mS):SW P (.block id b) l H Q=SW P b l H (a0B id Q):=rfl
theorem c6A(t:Nat)(x y:Code)(l:List Value)(Q:mS):SW P (.cond (.tmp t) x y) l H Q=pQ (get l t) (SW P x l H Q) (SW P y l H Q):=rfl
theorem d0r(id:Nat)(os:List Oper)(l:List Value)(Q:mS):SW P (.region id os.toArray false) l H Q=qJ P os.toArray os l H λl H=>Q .normal l H:=rfl
theorem c5J(id:Nat)(ops:Array Oper)(l:List Value)(Q:mS):SW P (.region id ops true) l H Q=Wp P (.region id ops true) l H Q:=rfl
theorem c6h(c:Code)(l:List Value)(Q:mS):SW P (.loop c) l H Q=Wp P (.loop c) l H Q:=rfl
theorem b9V(g:Operand)(ps:Array Tmp)(a b:Code)(l:List Value)(Q:mS):SW P (.rangeFunc g ps a b) l H Q=Wp P (.rangeFunc g ps a b) l H Q:=rfl
theorem Wp.al{c:Code}{Q:mS}(I:Nat->List Value->Heap->Prop){l:List Value}(n:Nat)(h:I n l H)(step:∀n l H,I n l H->SW P c l H (a0t I n Q)):Wp P (.loop c) l H Q:=Wp.bX I n h λn l H hI=>(step n l H hI).wp
theorem Fn.aX{k:FuncId}{fn:Func}{c:Code}{args:List Value}{R:Value->Heap->Prop}(hf:P.funcs[k]? =some fn)(hb:fn.body=some c)(hn:(fn.name== "runtime.NumGoroutine")=false) (h:∀l,l=args++List.replicate (fn.ntmps-args.length) undef->SW P c l H (xR P fn R)):Fn P k args H R:=Fn.of_wp hf hb hn λl hl=>(h l hl).wp
theorem FnS.aX{k:FuncId}{fn:Func}{c:Code}{args:List Value}{R:Value->Heap->Prop}(hf:P.funcs[k]? =some fn)(hb:fn.body=some c)(hn:(fn.name== "runtime.NumGoroutine")=false) (h:∀l,l=args++List.replicate (fn.ntmps-args.length) undef->SW P c l H (xR P fn R)):FnS P k args H R:=FnS.of_wp hf hb hn λl hl=>(h l hl).wp
theorem Fn.du{k:FuncId}{fn:Func}{c:Code}{R:Value->Heap->Prop}(hf:P.funcs[k]? =some fn)(hb:fn.body=some c)(hn:(fn.name== "runtime.NumGoroutine")=false){m:Nat}(hm:0+(fn.ntmps-0)=m)(h:∀l,l.length=m->SW P c l H (xR P fn R)):Fn P k [] H R:=Fn.aX hf hb hn λl hl=>h l (by rw[hl,dN,fo];exact hm)
theorem Fn.aS{k:FuncId}{fn:Func}{c:Code}{a0:Value}{R:Value->Heap->Prop}(hf:P.funcs[k]? =some fn)(hb:fn.body=some c)(hn:(fn.name== "runtime.NumGoroutine")=false){m:Nat}(hm:1+(fn.ntmps-1)=m)(h:∀l,l.length=m->get l 0=a0->SW P c l H (xR P fn R)):Fn P k [a0] H R:=Fn.aX hf hb hn λl hl=>h l (by rw[hl,dN,fo];exact hm) (by rw[hl];rfl)
theorem Fn.aJ{k:FuncId}{fn:Func}{c:Code}{a0 a1:Value}{R:Value->Heap->Prop}(hf:P.funcs[k]? =some fn)(hb:fn.body=some c)(hn:(fn.name== "runtime.NumGoroutine")=false){m:Nat}(hm:2+(fn.ntmps-2)=m)(h:∀l,l.length=m->get l 0=a0->get l 1=a1->SW P c l H (xR P fn R)):Fn P k [a0,a1] H R:=Fn.aX hf hb hn λl hl=>h l (by rw[hl,dN,fo];exact hm) (by rw[hl];rfl) (by rw[hl];rfl)
theorem Fn.bz{k:FuncId}{fn:Func}{c:Code}{a0 a1 a2:Value}{R:Value->Heap->Prop}(hf:P.funcs[k]? =some fn)(hb:fn.body=some c)(hn:(fn.name== "runtime.NumGoroutine")=false){m:Nat}(hm:3+(fn.ntmps-3)=m)(h:∀l,l.length=m->get l 0=a0->get l 1=a1->get l 2=a2->SW P c l H (xR P fn R)):Fn P k [a0,a1,a2] H R:=Fn.aX hf hb hn λl hl=>h l (by rw[hl,dN,fo];exact hm) (by rw[hl];rfl) (by rw[hl];rfl) (by rw[hl];rfl)
theorem Fn.de{k:FuncId}{fn:Func}{c:Code}{a0 a1 a2 a3:Value}{R:Value->Heap->Prop}(hf:P.funcs[k]? =some fn)(hb:fn.body=some c)(hn:(fn.name== "runtime.NumGoroutine")=false){m:Nat}(hm:4+(fn.ntmps-4)=m)(h:∀l,l.length=m->get l 0=a0->get l 1=a1->get l 2=a2->get l 3=a3->SW P c l H (xR P fn R)):Fn P k [a0,a1,a2,a3] H R:=Fn.aX hf hb hn λl hl=>h l (by rw[hl,dN,fo];exact hm) (by rw[hl];rfl) (by rw[hl];rfl) (by rw[hl];rfl) (by rw[hl];rfl)
theorem Fn.dz{k:FuncId}{fn:Func}{c:Code}{a0 a1 a2 a3 a4:Value}{R:Value->Heap->Prop}(hf:P.funcs[k]? =some fn)(hb:fn.body=some c)(hn:(fn.name== "runtime.NumGoroutine")=false){m:Nat}(hm:5+(fn.ntmps-5)=m)(h:∀l,l.length=m->get l 0=a0->get l 1=a1->get l 2=a2->get l 3=a3->get l 4=a4->SW P c l H (xR P fn R)):Fn P k [a0,a1,a2,a3,a4] H R:=Fn.aX hf hb hn λl hl=>h l (by rw[hl,dN,fo];exact hm) (by rw[hl];rfl) (by rw[hl];rfl) (by rw[hl];rfl) (by rw[hl];rfl) (by rw[hl];rfl)
theorem Fn.dw{k:FuncId}{fn:Func}{c:Code}{a0 a1 a2 a3 a4 a5:Value}{R:Value->Heap->Prop}(hf:P.funcs[k]? =some fn)(hb:fn.body=some c)(hn:(fn.name== "runtime.NumGoroutine")=false){m:Nat}(hm:6+(fn.ntmps-6)=m)(h:∀l,l.length=m->get l 0=a0->get l 1=a1->get l 2=a2->get l 3=a3->get l 4=a4->get l 5=a5->SW P c l H (xR P fn R)):Fn P k [a0,a1,a2,a3,a4,a5] H R:=Fn.aX hf hb hn λl hl=>h l (by rw[hl,dN,fo];exact hm) (by rw[hl];rfl) (by rw[hl];rfl) (by rw[hl];rfl) (by rw[hl];rfl) (by rw[hl];rfl) (by rw[hl];rfl)
theorem St.cF{B:Base}{os:List Ob}{k:FuncId}{args:List Value}{v:Value}{K:Value->Heap->Prop}(hS:St P B H os)(h:Fn P k args H λr H1=>r=v∧St P H H1 [])(hk:∀H1,St P B H1 os->K v H1):wH P k args H K:=jW h λr H1⟨e,hT⟩=>by subst e;have h1:=hS.trans hT;rw[ee]at h1;exact hk H1 h1
end
end Go.Ds
namespace Go.Ds
noncomputable section
variable {P:Program} {H0:Base} {H:Heap} {α:Type} {n:Nat} {cel:α→List Value} {v:Value} {xs:List α}
def jR[Inhabited α](xs:List α)(j:Nat):α:=xs.getD j default
theorem kX[Inhabited α](xs:List α)(j:Nat)(hj:j<xs.length):jR xs j=xs[j]:=by simp[jR,dG,hj]
theorem jU[Inhabited α]{xs:List α}{j:Nat}(hj:j<xs.length):jR xs j∈xs:=by rw[kX xs j hj];exact gD _
theorem tW{β:Type}[Inhabited α][Inhabited β](f:α->β){xs:List α}{j:Nat}(hj:j<xs.length):jR (xs.map f) j=f (jR xs j):=by rw[kX _ _ (by simpa using hj),kX _ _ hj];simp
theorem a5Y[Inhabited α](xs:List α)(j:Nat)(hj:j<xs.length):xs.take (j+1)=xs.take j++[jR xs j]:=by rw[kX _ _ hj,List.take_succ_eq_append_getElem hj]
theorem sE[Inhabited α](xs:List α)(j:Nat)(hj:j<xs.length):xs.drop j=jR xs j::xs.drop (j+1):=by rw[kX _ _ hj,gn hj]
theorem jV(hc:∀x,(cel x).length=n):∀xs:List α,(xs.flatMap cel).length=xs.length*n| []=>by simp| x::xs=>by simp[ek,hc x,jV hc xs,gK,jE]
theorem vV(hc:∀x,(cel x).length=n):∀(xs:List α)(j:Nat),(xs.flatMap cel).drop (j*n)=(xs.drop j).flatMap cel| [],j=>by simp| x::xs,0=>by simp| x::xs,j+1=>by rw[ek,js,<-vV hc xs j,gK,jE,<-gI];congr 1;rw[<-hc x,List.drop_left]
theorem a5k(hc:∀x,(cel x).length=n):∀(xs:List α)(j:Nat),(xs.flatMap cel).take (j*n)=(xs.take j).flatMap cel| [],j=>by simp| x::xs,0=>by simp| x::xs,j+1=>by rw[ek,List.take_succ_cons,ek,<-a5k hc xs j,gK,jE];have:=List.take_length_add_append (l₁:=cel x) (l₂:=xs.flatMap cel) (j*n);rw[hc x]at this;exact this
theorem a6E[Inhabited α](hc:∀x,(cel x).length=n)(xs:List α)(j f:Nat)(hj:j<xs.length)(hf:f<n):(xs.flatMap cel)[j*n+f]? =(cel (jR xs j))[f]?:=by(have h1:(xs.flatMap cel)[j*n+f]? =((xs.flatMap cel).drop (j*n))[f]?:=by rw[eH]);rw[h1,vV hc,sE xs j hj,ek,eS (by rw[hc];exact hf)]
theorem a7h[Inhabited α](hc:∀x,(cel x).length=n)(xs:List α)(j f m:Nat)(hj:j<xs.length)(hf:f+m<=n):((xs.flatMap cel).drop (j*n+f)).take m=((cel (jR xs j)).drop f).take m:=by rw[<-gI,vV hc,sE xs j hj,ek,List.drop_append_of_le_length (by rw[hc];omega),List.take_append_of_le_length (by simp[hc];omega)]
theorem sX[Inhabited α](hc:∀x,(cel x).length=n):∀(xs:List α)(j f:Nat)(vs:List Value)(y:α),j<xs.length->f+vs.length<=n->cel y=kQ (cel (jR xs j)) f vs->kQ (xs.flatMap cel) (j*n+f) vs=(xs.set j y).flatMap cel| [],j,f,vs,y,hj,_,_=>by simp at hj| x::xs,0,f,vs,y,_,hf,hy=>by(have key:∀(vs:List Value)(l m:List Value)(f:Nat),f+vs.length<=l.length->kQ (l++m) f vs=kQ l f vs++m:=by intro vs;induction vs with| nil=>intro l m f _;rfl| cons w vs ih=>intro l m f h;simp only[dV]at h;rw[lB,lB,List.set_append_left _ _ (by omega),ih _ _ _ (by simp;omega)]);simp only[ek,iz,Nat.zero_mul,fN];rw[key _ _ _ _ (by rw[hc];exact hf),hy];rfl| x::xs,j+1,f,vs,y,hj,hf,hy=>by simp only[ek,List.set_cons_succ];(have e:(j+1)*n+f=(cel x).length+(j*n+f):=by rw[hc,gK];omega);rw[e,qW,sX hc xs j f vs y (by simpa using hj) hf hy]
structure Sl(n:Nat)(cel:α→List Value)(H:Heap)(v:Value)(xs:List α):Prop where
 rd:RdAt H v n (xs.flatMap cel)
 hc:∀x,(cel x).length=n
 pos:0<n
theorem Sl.len(h:Sl n cel H v xs)(m:Nat)(t:TypeId):b0i (some m) P H t v=some (.int .i64 xs.length):=by obtain⟨k,rfl⟩:∃k,n=k+1:=⟨n-1,by have:=h.pos;omega⟩;exact h.rd.len (jV h.hc xs) m t
theorem Sl.idx(h:Sl n cel H v xs)(t:TypeId)(k:IntKind)(j:Int)(h0:0<=j)(h1:j<xs.length):zK (some n) P t v (.int k j)=some (mH v n j.toNat 0):=by obtain⟨k,rfl⟩:∃k,n=k+1:=⟨n-1,by have:=h.pos;omega⟩;exact h.rd.idx (jV h.hc xs) t _ j h0 h1
theorem c9O{j m n:Nat}(hj:j<m)(hn:0<n):j*n<m*n:=Nat.mul_lt_mul_of_pos_right hj hn
theorem a0C{j f m n:Nat}(hj:j<m)(hf:f<=n):j*n+f<=m*n:=by have:=eO n hj;rw[gK]at this;omega
theorem Sl.bm(h:Sl n cel H v xs)(j:Nat)(hj:j<xs.length)(g d:Nat):b2r (some d) (mH v n j g)=some (mH v n j (g+d)):=by obtain⟨k,rfl⟩:∃k,n=k+1:=⟨n-1,by have:=h.pos;omega⟩;exact h.rd.bm j (by rw[jV h.hc];exact c9O hj (gz _)) g d
theorem Sl.ld[Inhabited α](h:Sl n cel H v xs)(s:Option Nat)(j f:Nat)(hj:j<xs.length)(hf:f<n):pL (some false) s H (mH v n j f)=(cel (jR xs j))[f]?:=by rw[h.rd.ld s j f (by rw[jV h.hc];exact dZ (Nat.add_lt_add_left hf _) (a0C hj (dJ _))),a6E h.hc xs j f hj hf]
theorem Sl.aj[Inhabited α](h:Sl n cel H v xs)(j:Nat)(hj:j<xs.length):pL (some true) (some n) H (mH v n j 0)=some (.agg (cel (jR xs j)).toArray):=by rw[h.rd.aj n j 0 (by rw[jV h.hc];exact a0C hj (dJ _)) h.pos,a7h h.hc xs j 0 n hj (by omega)];rw[List.drop_zero,List.take_of_length_le (by rw[h.hc];exact dJ _)]
theorem Sl.dg[Inhabited α](h:Sl n cel H v xs)(m j f:Nat)(hj:j<xs.length)(hf:f+m<=n)(hm:0<m):pL (some true) (some m) H (mH v n j f)=some (.agg (((cel (jR xs j)).drop f).take m).toArray):=by rw[h.rd.aj m j f (by rw[jV h.hc,ir];exact a0C hj hf) hm,a7h h.hc xs j f m hj hf]
theorem Sl.cells(h:Sl n cel H v xs):v.cells=#[v]∧oneCell v=true∧rF v=true:=h.rd.cells
theorem St.sl{H0:Heap}{os:List Ob}(hS:St P H0 H os)(h:Sl n cel H0 v xs):Sl n cel H v xs:=⟨hS.base h.rd,h.hc,h.pos⟩
theorem Sl.ag{H':Heap}(h:Sl n cel H v xs)(hk:∀B,B<H.length->kB H' B=kB H B):Sl n cel H' v xs:=⟨h.rd.ag hk,h.hc,h.pos⟩
theorem St.av{os:List Ob}(hS:St P H0 H os)(i:Nat){m:Nat}(ho:os[i]? =some ⟨v,m+1,xs.flatMap cel⟩)(hc:∀x,(cel x).length=m+1):Sl (m+1) cel H v xs:=⟨hS.rd i ho,hc,gz _⟩
def one(f:α->Value):α->List Value:=λx=>[f x]
theorem lF(f:α->Value)(x:α):(one f x).length=1:=rfl
end
end Go.Ds
namespace Go.Ds
open Go.RowKit
section
variable {P:Program} {ρ:Rho} {H:Heap} {w:World}
structure InW(P:Program)(ρ:Rho)(H:Heap)(w:World):Prop where
 rel:HRel P ρ H w
 shut:Shut ρ H
structure ExtW(ρ:Rho)(H:Heap)(ρ':Rho)(H':Heap):Prop where
 le:ρ.Le ρ'
 len:H.length≤H'.length
 old:∀B,B<H.length→kB H' B=kB H B
theorem ExtW.refl(ρ:Rho)(H:Heap):ExtW ρ H ρ H:=⟨.refl ρ,dJ _,λ_ _=>rfl⟩
theorem ExtW.trans{ρ' ρ'':Rho}{H' H'':Heap}(h:ExtW ρ H ρ' H')(k:ExtW ρ' H' ρ'' H''):ExtW ρ H ρ'' H'':=⟨h.le.trans k.le,ey h.len k.len,λB hB=>by rw[k.old B (dZ hB h.len),h.old B hB]⟩
theorem InW.none(w:World):InW P (λ_ _=>Option.none) .nil w:=⟨.none w,.none⟩
theorem InW.row(h:InW P ρ H w)(p:Place){cur:Array Value}{t':TypeId}{fr:Nat×Nat}(hb:w.heap[p.b]? =some (.cells cur t' fr)){ty:TypeId}(hty:jT P ty=some p.k)(hsz:cur.size=p.sz)(cs:List Value)(ver:Nat) (hver:ver=1->p.b=H.length∧p.d=0∧(cs≠[]->p.sz=cs.length)) (hfit:(cs.length:Int)+p.d<=p.sz) (hcell:∀i c,i<cs.length->0<=(i:Int)+p.d->cs[i]? =some c->∃c',cur[p.at i]? =some c'∧C1 (ρ.put H.length cs.length p) c c'): InW P (ρ.put H.length cs.length p) (H.cons (.cells cs ty false 0 ver)) w∧ExtW ρ H (ρ.put H.length cs.length p) (H.cons (.cells cs ty false 0 ver)):=by
 (have hno:∀f,ρ H.length f=Option.none:=λf=>by cases hh:ρ H.length f with| none=>rfl| some q=>exact absurd (h.rel.dom _ _ _ hh).1 (ft _));have hle:ρ.Le (ρ.put H.length cs.length p):=.put (hno _);(have hold:∀A f q,(ρ.put H.length cs.length p) A f=some q->(A=H.length∧f=cs.length∧q=p)∨(A<H.length∧ρ A f=some q):=λA f q hq=>by by_cases hh:A=H.length∧f=cs.length;(·obtain⟨rfl,rfl⟩:=hh;rw[Rho.aq]at hq;exact .inl ⟨rfl,rfl,(dC hq).symm⟩);·rw[Rho.aM hh]at hq;exact .inr ⟨(h.rel.dom _ _ _ hq).1,hq⟩);have hgo:∀A,A<H.length->kB (H.cons (.cells cs ty false 0 ver)) A=kB H A:=λA hA=>kU _ hA;(have hnew:∀A b,kB (H.cons (.cells cs ty false 0 ver)) A=some b->(A=H.length∧b=.cells cs ty false 0 ver)∨(A<H.length∧kB H A=some b):=λA b hg=>by have hA:A<(H.cons (.cells cs ty false 0 ver)).length:=kV hg;rw[length_cons]at hA;by_cases he:A=H.length;(·subst he;rw[jY]at hg;exact .inl ⟨rfl,(dC hg).symm⟩);·rw[hgo A (by omega)]at hg;exact .inr ⟨by omega,hg⟩)
 (have hrw:∀A f q b,(ρ.put H.length cs.length p) A f=some q->kB (H.cons (.cells cs ty false 0 ver)) A=some b->b.wr=true->False:=λA f q b hq hg hw=>by rcases hnew A b hg with⟨rfl,rfl⟩|⟨hA,hg⟩;(·cases hw);·rcases hold A f q hq with⟨rfl,_⟩|⟨_,hq⟩;(·exact absurd hA (ft _));·exact h.shut q.b ⟨A,f,q,b,hq,rfl,hg,hw⟩);refine⟨⟨⟨?_,?_,?_,?_,?_,?_,?_,?_⟩,?_⟩,hle,by rw[length_cons];omega,hgo⟩;(·intro A f q hq;rw[length_cons];rcases hold A f q hq with⟨rfl,rfl,rfl⟩|⟨hA,hq⟩;(·exact⟨by omega,oF hb⟩);·exact⟨by omega,(h.rel.dom _ _ _ hq).2⟩);(·intro A cs' ty' rw' lo ver' hg;rcases hnew A _ hg with⟨rfl,he⟩|⟨hA,hg⟩;(·cases he;refine⟨⟨p,Rho.aq ..⟩,λe q hq=> ?_⟩;rcases hold _ e q hq with⟨_,rfl,rfl⟩|⟨hA,_⟩;(·exact⟨dJ _,hty,hfit,cur,t',fr,hb,hsz,(λhh=>by cases hh),λ_=>hcell⟩);·exact absurd hA (ft _));·obtain⟨⟨q,hq⟩,hall⟩:=h.rel.cells _ _ _ _ _ _ hg;refine⟨⟨q,hle _ _ _ hq⟩,λe q hq=> ?_⟩;rcases hold _ e q hq with⟨rfl,_,_⟩|⟨_,hq⟩;(·exact absurd hA (ft _));·exact(hall e q hq).world hle rfl)
 (·intro A es ck ver' hg;rcases hnew A _ hg with⟨rfl,he⟩|⟨hA,hg⟩;(·cases he);·obtain⟨q,es',hq,hw,hall⟩:=h.rel.map _ _ _ _ hg;exact⟨q,es',hle _ _ _ hq,hw,hall.mono λ_ _ x=>x.mono hle⟩);(·intro A r hg;rcases hnew A _ hg with⟨rfl,he⟩|⟨hA,hg⟩;(·cases he);·obtain⟨q,r',hq,hw,hall⟩:=h.rel.loop _ _ hg;exact⟨q,r',hle _ _ _ hq,hw,hall.mono hle⟩);(·intro A f q b hq hg;rcases hnew A b hg with⟨rfl,rfl⟩|⟨hA,hg⟩;(·exact .inl rfl);·rcases hold A f q hq with⟨rfl,_⟩|⟨_,hq⟩;(·exact absurd hA (ft _));·exact h.rel.one _ _ _ _ hq hg);(·intro A f q A2 f2 q2 b hq _ _ hg hw;exact absurd hw λhw=>(hrw A f q b hq hg hw).elim);(·intro A hA;rw[length_cons]at hA;by_cases he:A=H.length;(·subst he;rw[jY];rfl);·rw[hgo A (by omega)];exact h.rel.full A (by omega));(·intro A cs' ty' lo hg;rcases hnew A _ hg with⟨rfl,he⟩|⟨hA,hg⟩;(·cases he;exact⟨p,Rho.aq ..,hver rfl⟩);·obtain⟨q,h1,h2,h3⟩:=h.rel.glob _ _ _ _ hg;exact⟨q,hle _ _ _ h1,h2,h3⟩)
 ·rintro b⟨A,f,q,blk,hq,_,hg,hw⟩;exact hrw A f q blk hq hg hw
theorem c1k{a:Addr}{i:Nat}{v:Value}(h:w.cell? (a.add i)=some v):∃cur t fr,w.heap[a.block]? =some (.cells cur t fr)∧(i=0->a.spot=Option.none)∧cur[a.off+i]? =some v:=by obtain⟨b,off,spot⟩:=a;(have hb:((⟨b,off,spot⟩:Addr).add i).block=b:=by unfold Addr.add;split<;>rfl);(have ho:((⟨b,off,spot⟩:Addr).add i).off=off+i:=by unfold Addr.add;split<;>simp_all);unfold World.cell? at h;rw[hb,ho]at h;split at h;(·rename_i cur t fr hcur;split at h;(·cases h);·rename_i hn;refine⟨cur,t,fr,hcur,λh0=> ?_,h⟩;subst h0;cases spot with| none=>rfl| some s=>exact absurd rfl hn);·cases h
theorem InW.slice(h:InW P ρ H w){b0:Nat}{cur0:Array Value}{t0:TypeId}{fr0:Nat×Nat}(hb0:w.heap[b0]? =some (.cells cur0 t0 fr0)){ty:TypeId}{size:Nat}(hty:jT P ty=some size)(hs:0<size){a:Addr}{len cap:Nat}(hl:len<=cap) (hall:∀i,i<cap*size->(w.cell? (a.add i)).isSome=true) (cs:List Value) (hcs:cs.length=len*size) (hval:∀i c,cs[i]? =some c->∃c',w.cell? (a.add i)=some c'∧C1 ρ c c'): ∃ρ' H' v,InW P ρ' H' w∧ExtW ρ H ρ' H'∧C1 ρ' v (.slice (some a) len cap)∧RdAt H' v size cs:=by
 have hne:∀(q:Place)f,ρ.Le (ρ.put H.length f q):=λq f=>.put (by cases hh:ρ H.length f with| none=>rfl| some q=>exact absurd (h.rel.dom _ _ _ hh).1 (ft _));by_cases hc:cap=0;(·subst hc;(obtain rfl:len=0:=by omega);(obtain rfl:cs=[]:=by simpa using hcs);obtain⟨h1,h2⟩:=h.row ⟨b0,0,cur0.size,size⟩ hb0 (ty:=ty) hty rfl [] 0 (λhh=>by cases hh) (by simp) (λi c hi=>by simp at hi);refine⟨_,_,.slice (some ⟨H.length,0,some 0⟩) 0 size,h1,h2,.c0 ?_,.inr ⟨_,_,_,_,_,false,0,0,0,jY H _,dJ _,fb _,by simp,by simp,by simp,rfl⟩⟩;exact C0.slice (p:=⟨b0,0,cur0.size,size⟩) (n:=0) (c':=0) (Rho.aq ..) (by simp) (by simp) ⟨dJ _,by simp⟩ (.inr ⟨rfl,rfl⟩));·have hpos:0<cap*size:=jP (by omega) hs;obtain⟨v0,hv0⟩:=fZ.1 (hall 0 hpos);obtain⟨cur,t,fr,hcur,hsp,_⟩:=c1k hv0;have hsp:=hsp rfl;obtain⟨b,off,spot⟩:=a;simp only at hsp hcur;subst hsp;(have kB:∀i c',w.cell? ((⟨b,off,Option.none⟩:Addr).add i)=some c'->cur[off+i]? =some c':=λi c' hi=>by obtain⟨cur',_,_,hh,_,hx⟩:=c1k hi;simp only at hh hx;rw[hcur]at hh;cases hh;exact hx);(have hsz:off+cap*size<=cur.size:=by obtain⟨v,hv⟩:=fZ.1 (hall (cap*size-1) (by omega));have:=(dM.1 (kB _ _ hv)).1;omega);have hlc:len*size<=cap*size:=eO _ hl;obtain⟨h1,h2⟩:=h.row ⟨b,off,cur.size,size⟩ hcur (ty:=ty) hty rfl cs 0 (λhh=>by cases hh) (by simp only[hcs];omega) (λi c hi h0 hc=>by obtain⟨c',h3,h4⟩:=hval i c hc;exact⟨c',by have:=kB _ _ h3;rw[show(⟨b,off,cur.size,size⟩:Place).at i=off+i from by simp only[Place.at];omega];exact this,h4.mono (hne _ _)⟩);refine⟨_,_,.slice (some ⟨H.length,0,some cs.length⟩) len size,h1,h2,.c0 ?_,.inr ⟨_,_,_,_,_,false,0,0,len,jY H _,fb _,dJ _,by omega,by simp,hcs,rfl⟩⟩;exact C0.slice (p:=⟨b,off,cur.size,size⟩) (n:=len) (c':=cap) (Rho.aq ..) (by simp) (by simp only;omega) ⟨hl,by simp only;omega⟩ (.inl ⟨by simp[Place.at],by simp[Place.at];exact hsz⟩)
theorem InW.each{α:Type}[Inhabited α](h:InW P ρ H w){n:Nat}{Q:Nat->Rho->Heap->α->Prop}(hQ:∀i ρ H x ρ' H',Q i ρ H x->ExtW ρ H ρ' H'->Q i ρ' H' x) (hi:∀i,i<n->∀ρ1 H1,InW P ρ1 H1 w->ExtW ρ H ρ1 H1->∃ρ' H' x,InW P ρ' H' w∧ExtW ρ1 H1 ρ' H'∧Q i ρ' H' x):∃ρ' H' xs,InW P ρ' H' w∧ExtW ρ H ρ' H'∧xs.length=n∧∀i,i<n->Q i ρ' H' (jR xs i):=by
 induction n with| zero=>exact⟨ρ,H,[],h,.refl _ _,rfl,λi hi=>absurd hi (eh _)⟩| succ n ih=>obtain⟨ρ1,H1,xs,h1,e1,hl,hq⟩:=ih λi hi'=>hi i (by omega);obtain⟨ρ2,H2,x,h2,e2,hx⟩:=hi n (by omega) ρ1 H1 h1 e1;refine⟨ρ2,H2,xs++[x],h2,e1.trans e2,by simp[hl],λi hin=> ?_⟩;by_cases he:i=n;(·subst he;rw[kX _ _ (by simp;omega),List.getElem_append_right (by omega)];simpa [hl]using hx);·(have:jR (xs++[x]) i=jR xs i:=by rw[kX _ _ (by simp;omega),kX _ _ (by omega),List.getElem_append_left (by omega)]);rw[this];exact hQ _ _ _ _ _ _ (hq i (by omega)) e2
end
end Go.Ds
namespace Go.Ds
noncomputable section
inductive Pth where| z| l (p:Pth)| r (p:Pth)
inductive Fr where| e| n (v:Value) (l r:Fr)
def a8A:Nat->Nat->Pth:=λf=>Nat.rec (motive:=λ_=>Nat->Pth) (λ_=>.z) (λ_ ih k=>Nat.rec (motive:=λ_=>Pth) .z (λk _=>Bool.rec (motive:=λ_=>Pth) (.r (ih (Nat.div k 2))) (.l (ih (Nat.div k 2))) (Nat.beq (Nat.mod k 2) 0)) k) f
def mN(k:Nat):Pth:=a8A k k
def qL(p:Pth):Fr->Value:=Pth.rec (motive:=λ_=>Fr->Value) (λf=>Fr.rec (motive:=λ_=>Value) undef (λv _ _ _ _=>v) f) (λ_ ih f=>Fr.rec (motive:=λ_=>Value) undef (λ_ l _ _ _=>ih l) f) (λ_ ih f=>Fr.rec (motive:=λ_=>Value) undef (λ_ _ r _ _=>ih r) f) p
def sH{α:Type}(v:Value)(p:Pth):Fr->(Fr->α)->α:=Pth.rec (motive:=λ_=>Fr->(Fr->α)->α) (λf K=>Fr.rec (motive:=λ_=>α) (K (.n v .e .e)) (λ_ l r _ _=>K (.n v l r)) f) (λ_ ih f K=>Fr.rec (motive:=λ_=>α) (ih .e λl=>K (.n undef l .e)) (λw l r _ _=>ih l λl=>K (.n w l r)) f) (λ_ ih f K=>Fr.rec (motive:=λ_=>α) (ih .e λr=>K (.n undef .e r)) (λw l r _ _=>ih r λr=>K (.n w l r)) f) p
def nN{α:Type}(p:Pth):(Pth->α)->α:=Pth.rec (motive:=λ_=>(Pth->α)->α) (λK=>K .z) (λ_ ih K=>ih λp=>K (.l p)) (λ_ ih K=>ih λp=>K (.r p)) p
inductive LArg where| t (p:Pth)| c (v:Value)
def oS(f:Fr)(x:LArg):Value:=LArg.rec (motive:=λ_=>Value) (λp=>qL p f) (λv=>v) x
inductive Rs where| no| ok (v:Value) (H:Heap)| th (v:Value) (H:Heap)
def qO{α:Type}(v:Value)(K:Value->α):α:=match v with| .bool b=>K (.bool b)| .int k n=>K (.int k n)| .string s=>K (.string s)| .pointer a=>K (.pointer a)| .slice a n c=>K (.slice a n c)| .map r=>K (.map r)| .func fn a b=>K (.func fn a b)| .agg cs=>K (.agg cs)| .tuple vs=>K (.tuple vs)| v=>K v
inductive LOp where| bad| mv (x:LArg)| pick (c a b:LArg)| bin (g:IntKind->Int->Int->Option Value) (x y:LArg)| not (x:LArg)| ld1 (x:LArg)| ldn (n:Nat) (x:LArg)| st (n:Nat) (x y:LArg)| fa (off:Nat) (x:LArg)| ixs (size:Nat) (x i:LArg)| ixa (n size:Nat) (x i:LArg)| ext (i:Nat) (x:LArg)| f1 (off:Nat) (x:LArg)| fn (off n:Nat) (x:LArg)| len (x:LArg)| slen (x:LArg)| app (elem size bytes:Nat) (x y:LArg)| alloc (t:TypeId) (cs:List Value)| callF (f:FuncId) (p:Pth) (args:List LArg)| callV (g:LArg) (args:List LArg)| gen (o:Oper)
inductive LOps where| nil| cons (d:Option Pth) (o:LOp) (rest:LOps)| gcons (p:Pth) (w:Bool) (d:Option Pth) (o:LOp) (rest:LOps)
inductive LCode where| bad| skip| reg (ops:LOps)| drw (ops:LOps) (tab:List (Nat×Option Nat×Option (Pth×Bool)×LOp))| seq (a b:LCode)| cond (c:LArg) (x y:LCode)| block (id:Nat) (b:LCode)| loop (b:LCode)| exit (id:Nat)| ret| range (g:LArg) (ps:List Pth) (pp:List Pth) (params:Array Tmp) (assign body:Code) (a b:LCode)
inductive LRes where| t (p:Pth)| c1 (p:Pth)| cn (n:Nat) (p:Pth)
structure LFunc where
 ps:List Pth
 body:LCode
 res:List LRes
inductive LT where| e| n (g:Option LFunc) (l r:LT)
def a3R(p:Pth):LT->Option LFunc:=Pth.rec (motive:=λ_=>LT->Option LFunc) (λf=>LT.rec (motive:=λ_=>Option LFunc) none (λv _ _ _ _=>v) f) (λ_ ih f=>LT.rec (motive:=λ_=>Option LFunc) none (λ_ l _ _ _=>ih l) f) (λ_ ih f=>LT.rec (motive:=λ_=>Option LFunc) none (λ_ _ r _ _=>ih r) f) p
def vB{α:Type}(v:LFunc)(p:Pth):LT->(LT->α)->α:=Pth.rec (motive:=λ_=>LT->(LT->α)->α) (λf K=>LT.rec (motive:=λ_=>α) (K (.n (some v) .e .e)) (λ_ l r _ _=>K (.n (some v) l r)) f) (λ_ ih f K=>LT.rec (motive:=λ_=>α) (ih .e λl=>K (.n none l .e)) (λw l r _ _=>ih l λl=>K (.n w l r)) f) (λ_ ih f K=>LT.rec (motive:=λ_=>α) (ih .e λr=>K (.n none .e r)) (λw l r _ _=>ih r λr=>K (.n w l r)) f) p
structure LEnv where
 L:Nat
 ps:List Pth
 pp:List Pth
 a:LCode
 b:LCode
def c6E(P:Program)(o:Oper)(ρ:Operand->Value)(H:Heap):Option (Value×Heap):=if o.op.operands.toList.all (λx=>flat (ρ x))then (match kC P (execOp ρ o)with| some (.value v)=>if flat v then some (v,H)else none| _=>none) else none
def c8W(P:Program)(o:Oper)(ρ:Operand→Value)(H:Heap):Option (Value×Heap):=
 let keep (v:Option Value):Option (Value×Heap):=v.map fun v=>(v,H)
 let plain:Option (Value×Heap):=c6E P o ρ H
 match o.op with
 | .move x|.assign x=>some (ρ x,H)
 | .pick c a b=>match ρ c with|.bool t=>some (if t then ρ a else ρ b,H)|_=>none
 | .alloc t=>(kN P t).bind fun z=>if kR z then tL P H t z else none
 | .box t x=>a0p P H t (ρ x)
 | .build t parts=>
   let ps:=parts.toList.map fun(i,x)=>(i,ρ x)
   if(kN P t).any kR&&ps.all (fun x=>x.2.cells.toList.all oneCell)then
    (P.built t ps).map fun cs=>(.agg cs,H)
   else none
 | .buildSlice t len parts=>
   (jX P t).bind fun elem=>(jT P elem).bind fun size=>(kN P elem).bind fun z=>
   let ps:=parts.toList.map fun(i,x)=>(i,ρ x)
   if len==0&&ps.isEmpty&&size !=0 then some (.slice (some ⟨H.length,0,some 0⟩) 0 size,uI H elem [])else
   if kR z&&ps.all (fun x=>x.2.cells.toList.all oneCell)&&len*size≤2^24&&len*size !=0&&z.cells.size==size then
    (Instr.fill (fun i=>some (i*size,size)) ((Array.range (len*size)).map (z.cells[·%z.cells.size]!)) ps).map fun cs=>
      (.slice (some ⟨H.length,0,some cs.toList.length⟩) len size,uI H elem cs.toList)
   else none
 | .makeSlice t n c=>
   (jX P t).bind fun elem=>(jT P elem).bind fun size=>(oW P elem).bind fun bytes=>(kN P elem).bind fun z=>
   match ρ n,ρ c with
   | .int _ a,.int _ b=>
     if kR z&&decide (a≤b)&&0≤a&&b*(bytes+1)≤(qI:Int)&&size !=0&&z.cells.size==size then
      let cs:=if size=1 then List.replicate b.toNat (z.cells[0]!)else(madeCells z.cells (b.toNat*size)).toList
      some (.slice (some ⟨H.length,0,some cs.length⟩) a.toNat size,uI H elem cs)
     else none
   | _,_=>none
 | .load t a=>keep (mU P H t (ρ a))
 | .store t a x=>(tJ P H t (ρ a) (ρ x)).map fun H=>(undef,H)
 | .nilCheck x=>match ρ x with
   | .pointer (some a)=>some (.pointer (some a),H)
   | .func (.func f) a b=>some (.func (.func f) a b,H)
   | _=>none
 | .fieldAddr s x f=>match ρ x with
   | .pointer (some ⟨A,i,some e⟩)=>(qQ P s f).bind fun fd=>(jT P fd.type).bind fun n=>if n==0 then none else some (.pointer (some ⟨A,i+fd.offset,some e⟩),H)
   | _=>none
 | .indexAddr t x ix=>match P.underlying t,ρ x,ρ ix with
   | some (.slice elem),.slice (some ⟨A,i,some e⟩) n _,.int _ j=>(jT P elem).bind fun size=>
     if 0≤j&&j<n then some (.pointer (some ⟨A,i+j.toNat*size,some e⟩),H)else none
   | some (.array n elem),.pointer (some ⟨A,i,some e⟩),.int _ j=>(jT P elem).bind fun size=>
     if 0≤j&&j<n then some (.pointer (some ⟨A,i+j.toNat*size,some e⟩),H)else none
   | some (.array n elem),.pointer (some ⟨A,i,none⟩),.int _ j=>(jT P elem).bind fun size=>
     if 0≤j&&j<n then some (.pointer (some ⟨A,i+j.toNat*size,none⟩),H)else none
   | _,_,_=>none
 | .slice t x lo hi none=>if flat (ρ x)then plain else match lG P t with
   | some (n,elem)=>keep (a8H P H n elem (ρ x) (lo.map ρ) (hi.map ρ))
   | none=>keep (a0g P t (ρ x) (lo.map ρ) (hi.map ρ))
 | .field t x f=>if flat (ρ x)then plain else
   match ρ x with
   | .agg cs=>(qQ P t f).bind fun fd=>match lE P fd.type with
     | some true=>(jT P fd.type).map fun n=>(.agg (cs.extract fd.offset (fd.offset+n)),H)
     | some false=>(cs[fd.offset]?).map fun v=>(v,H)
     | none=>none
   | _=>none
 | .extract t i=>match ρ t with
   | .tuple vs=>(vs[i]?).map fun v=>(v,H)
   | _=>none
 | .makeFunc fn first captured=>match fn with
   | .func f=>if(first++captured).toList.all (fun x=>rF (ρ x))then some (.func (.func f) (first.map ρ) (captured.map ρ),H)else none
   | _=>none
 | .binOp op t x y _=>match op,ρ x,ρ y with
   | .eql,.slice (some _) _ _,.slice none 0 0=>if((P.underlying t).map yU)==some true then some (.bool false,H)else none
   | .neq,.slice (some _) _ _,.slice none 0 0=>if((P.underlying t).map yU)==some true then some (.bool true,H)else none
   | op,.int k a,.int k' b=>if k=k' then(match oR op k a b with|some v=>some (v,H)|none=>plain)else plain
   | .eql,.pointer (some _),.pointer none=>if xC P t then some (.bool false,H)else none
   | .neq,.pointer (some _),.pointer none=>if xC P t then some (.bool true,H)else none
   | .eql,.pointer (some ⟨A,i,some e⟩),.pointer (some ⟨A',i',some e'⟩)=>if xC P t&&A==A'&&i==i'&&e==e' then some (.bool true,H)else none
   | .neq,.pointer (some ⟨A,i,some e⟩),.pointer (some ⟨A',i',some e'⟩)=>if xC P t&&A==A'&&i==i'&&e==e' then some (.bool false,H)else none
   | _,_,_=>plain
 | .call c=>match c.callee with
   | .builtin .len=>if c.args.size==1&&c.argTypes.size==1 then
      match (P.underlying (c.argTypes.getD 0 0)),ρ (c.args.getD 0 (.tmp 0))with
      | some (.slice _),.slice a n k=>keep (a0D H (.slice a n k))
      | some .string,.string s=>keep (a0D H (.string s))
      | some (.map _ _),.map r=>keep (a0D H (.map r))
      | _,_=>none
     else none
   | .builtin .append=>if c.args.size==2&&c.argTypes.size==2&&((P.underlying (c.argTypes.getD 1 0)).map sJ)==some true then
      pV P H (c.argTypes.getD 0 0) (ρ (c.args.getD 0 (.tmp 0))) (ρ (c.args.getD 1 (.tmp 0)))
     else none
   | .builtin .copy=>if c.args.size==2&&c.argTypes.size==2 then a5m P H (c.argTypes.getD 0 0) (ρ (c.args.getD 0 (.tmp 0))) (ρ (c.args.getD 1 (.tmp 0)))else none
   | .builtin .clear=>if c.args.size==1&&c.argTypes.size==1 then wN P H (c.argTypes.getD 0 0) (ρ (c.args.getD 0 (.tmp 0)))else none
   | .builtin .cap=>plain
   | .builtin .unsafeSliceData=>if c.args.size==1&&c.argTypes.size==1 then match ρ (c.args.getD 0 (.tmp 0))with
      | .slice (some a) n _=>if n==0 then none else some (.pointer (some a),H)
      | _=>none
     else none
   | .builtin .unsafeString=>if c.args.size==2&&c.argTypes.size==2 then yZ P H (c.argTypes.getD 0 0) (ρ (c.args.getD 0 (.tmp 0))) (ρ (c.args.getD 1 (.tmp 0)))else none
   | .builtin .max=>plain
   | .builtin .min=>plain
   | _=>none
 | .unOp op _ x=>match op,ρ x with
   | .not,.bool b=>some (.bool (!b),H)
   | _,_=>plain
 | .makeMap t r=>sG P H t (r.map ρ)
 | .lookup t x k c=>keep (sA P H t (ρ x) (ρ k) c)
 | .mapUpdate t m k v|.insert t m k v=>(a0w P H t (ρ m) (ρ k) (ρ v)).map fun H=>(undef,H)
 | .mapEntry t m k=>tI P H t (ρ m) (ρ k)
 | .entryStore _ m b v=>(tH H (ρ m) (ρ b) (ρ v)).map fun H=>(undef,H)
 | .convert s t x=>if flat (ρ x)&& !(mP P t)then plain else match ρ x with
   | .slice (some ⟨A,i,some e⟩) n _=>if mP P s&&qH P t then keep ((kT H A i e n).bind fun l=>(oH l).map .string)else none
   | .string b=>if mP P t&&qH P s&&b.size≤2^40 then(jX P t).bind fun elem=>some (.slice (some ⟨H.length,0,some b.size⟩) b.size 1,c2g H elem (b.data.toList.map fun c=>.int .u8 c.toNat))else none
   | .pointer (some ⟨A,0,some e⟩)=>if a7e P H s t A e then some (.pointer (some ⟨A,0,some e⟩),H)else none
   | _=>none
 | .index t x i=>if flat (ρ x)then plain else keep (a3I P t (ρ x) (ρ i))
 | .makeInterface _ _=>plain
 | _=>none
def qF{α:Type}(b:Bool)(no:α)(x:α):α:=Bool.rec (motive:=λ_=>α) no x b
def b0T{α:Type}(cs:List α):Nat->Bool:=List.rec (motive:=λ_=>Nat->Bool) (λe=>Nat.beq e 0) (λ_ _ ih e=>Nat.rec (motive:=λ_=>Bool) true (λm _=>ih m) e) cs
def a6Q{α:Type}(cs:List α):Nat->Bool:=List.rec (motive:=λ_=>Nat->Bool) (λe=>Nat.beq e 0) (λ_ _ ih e=>Nat.rec (motive:=λ_=>Bool) false (λm _=>ih m) e) cs
def a3u{α:Type}(cs:List α):Nat->Option α:=List.rec (motive:=λ_=>Nat->Option α) (λ_=>none) (λv _ ih e=>Nat.rec (motive:=λ_=>Option α) (some v) (λm _=>ih m) e) cs
def a5u{α:Type}(cs:List α):Nat->(List α->Rs)->Rs:=List.rec (motive:=λ_=>Nat->(List α->Rs)->Rs) (λn K=>Nat.rec (motive:=λ_=>Rs) (K []) (λ_ _=>.no) n) (λv _ ih n K=>Nat.rec (motive:=λ_=>Rs) (K []) (λm _=>ih m λl=>K (v::l)) n) cs
def b5F{α:Type}(cs:List α):Nat->List α:=List.rec (motive:=λ_=>Nat->List α) (λ_=>[]) (λv t ih n=>Nat.rec (motive:=λ_=>List α) (v::t) (λm _=>ih m) n) cs
def kIx(k:IntKind):Nat:=IntKind.rec (motive:=λ_=>Nat) 0 1 2 3 4 5 6 7 k
def hMv(x:LArg)(f:Fr)(H:Heap):Rs:=qO (oS f x) λv=>.ok v H
def c1r(c a b:LArg)(f:Fr)(H:Heap):Rs:=match oS f c with| .bool t=>qO (oS f (Bool.rec (motive:=λ_=>LArg) b a t)) λv=>.ok v H| _=>.no
def oV(v:Option Value)(H:Heap):Rs:=Option.rec (motive:=λ_=>Rs) .no (λv=>.th v H) v
def c7g(g:IntKind->Int->Int->Option Value)(k:IntKind)(a:Int)(H:Heap)(y:Value):Rs:=match y with| .int k' b=>qF (Nat.beq (kIx k) (kIx k')) .no (oV (g k a b) H)| _=>.no
def d0d(g:IntKind->Int->Int->Option Value)(x y:LArg)(f:Fr)(H:Heap):Rs:=match oS f x with| .int k a=>c7g g k a H (oS f y)| _=>.no
def d4f(x:LArg)(f:Fr)(H:Heap):Rs:=match oS f x with| .bool b=>.ok (.bool (Bool.rec (motive:=λ_=>Bool) true false b)) H| _=>.no
def c4k(b:Option Blk)(i e:Nat)(H:Heap):Rs:=match b with| some (.cells cs _ _ lo _)=>qF (Nat.ble lo e) .no (qF (b0T cs e) .no (qF (Nat.ble (Nat.succ i) e) .no (Option.rec (motive:=λ_=>Rs) .no (λv=>qO v λv=>.ok v H) (a3u cs i))))| _=>.no
def c9q(b:Option Blk)(i:Nat)(H:Heap):Rs:=match b with| some (.cells cs _ false lo 1)=>qF (b0T cs lo) .no (Option.rec (motive:=λ_=>Rs) .no (λv=>qO v λv=>.ok v H) (a3u cs i))| _=>.no
def b8k(x:LArg)(f:Fr)(H:Heap):Rs:=match oS f x with| .pointer (some ⟨A,i,some e⟩)=>c4k (kB H A) i e H| .pointer (some ⟨A,i,none⟩)=>c9q (kB H A) i H| _=>.no
def c4A(b:Option Blk)(n i e:Nat)(H:Heap):Rs:=match b with| some (.cells cs _ _ lo _)=>qF (Nat.ble lo e) .no (qF (b0T cs e) .no (qF (Nat.ble (Nat.add i n) e) .no (a5u (b5F cs i) n λl=>.ok (.agg ⟨l⟩) H)))| _=>.no
def b8C(n:Nat)(x:LArg)(f:Fr)(H:Heap):Rs:=match oS f x with| .pointer (some ⟨A,i,some e⟩)=>c4A (kB H A) n i e H| _=>.no
def stB(b:Option Blk)(n A i e:Nat)(vs:List Value)(H:Heap):Rs:=match b with| some (.cells cs ty true lo ver)=>qF (a6Q vs n) .no (qF (vs.all oneCell) .no (qF (a6Q cs e) .no (qF (Nat.ble (Nat.add i n) e) .no (qF (Nat.ble lo e) .no (.th undef (hset H A (.cells (kQ cs i vs) ty true e ver)))))))| _=>.no
def hSt(n:Nat)(x y:LArg)(f:Fr)(H:Heap):Rs:=match oS f x with| .pointer (some ⟨A,i,some e⟩)=>stB (kB H A) n A i e (oS f y).cells.toList H| _=>.no
def hFa(off:Nat)(x:LArg)(f:Fr)(H:Heap):Rs:=match oS f x with| .pointer (some ⟨A,i,some e⟩)=>lV (Nat.add i off) λi=>.ok (.pointer (some ⟨A,i,some e⟩)) H| _=>.no
def ixP(A i e size n:Nat)(H:Heap)(j:Value):Rs:=match j with| .int _ (.ofNat j)=>qF (Nat.blt j n) .no (lV (Nat.add i (Nat.mul j size)) λi=>.ok (.pointer (some ⟨A,i,some e⟩)) H)| _=>.no
def d0p(size:Nat)(x i:LArg)(f:Fr)(H:Heap):Rs:=match oS f x with| .slice (some ⟨A,a,some e⟩) n _=>ixP A a e size n H (oS f i)| _=>.no
def ixG(A i size n:Nat)(H:Heap)(j:Value):Rs:=match j with| .int _ (.ofNat j)=>qF (Nat.blt j n) .no (lV (Nat.add i (Nat.mul j size)) λi=>.ok (.pointer (some ⟨A,i,none⟩)) H)| _=>.no
def c9x(n size:Nat)(x i:LArg)(f:Fr)(H:Heap):Rs:=match oS f x with| .pointer (some ⟨A,a,some e⟩)=>ixP A a e size n H (oS f i)| .pointer (some ⟨A,a,none⟩)=>ixG A a size n H (oS f i)| _=>.no
def okV(v:Option Value)(H:Heap):Rs:=Option.rec (motive:=λ_=>Rs) .no (λv=>qO v λv=>.ok v H) v
def d0s(i:Nat)(x:LArg)(f:Fr)(H:Heap):Rs:=match oS f x with| .tuple ⟨vs⟩=>okV (a3u vs i) H| _=>.no
def hF1(off:Nat)(x:LArg)(f:Fr)(H:Heap):Rs:=match oS f x with| .agg ⟨cs⟩=>okV (a3u cs off) H| _=>.no
def hFn(off n:Nat)(x:LArg)(f:Fr)(H:Heap):Rs:=match oS f x with| .agg ⟨cs⟩=>a5u (b5F cs off) n λl=>.ok (.agg ⟨l⟩) H| _=>.no
def c8N(x:LArg)(f:Fr)(H:Heap):Rs:=match oS f x with| .slice _ n _=>.th (goInt n) H| _=>.no
def b9N(x:LArg)(f:Fr)(H:Heap):Rs:=match oS f x with| .string s=>.th (goInt s.size) H| _=>.no
def d2Q(b:Option Blk)(elem size bytes A i e k:Nat)(n:Nat)(l:List Value)(P:Program)(H:Heap):Rs:=match b with| some (.cells cs ty true lo ver)=>qF (Bool.rec (motive:=λ_=>Bool) (jT P ty==some size) true (Nat.beq ty elem)) .no (qF (a6Q cs e) .no (qF (Nat.ble lo e) .no (qF (Nat.beq (Nat.add i (Nat.mul k size)) e) (qF (Nat.beq n 0) (qF (Nat.ble (Nat.add i (Nat.mul (Nat.add k n) size)) e) .no (.th (.slice (some ⟨A,i,some e⟩) (k+n) size) (hset H A (.cells (kQ cs (i+k*size) l) ty true e ver)))) .no) (qF (Nat.ble (Nat.mul (Nat.add k n) (Nat.succ bytes)) qI) .no (.th (.slice (some ⟨A,i,some (e+l.length)⟩) (k+n) size) (hset H A (.cells (a7Z cs l) ty true lo (Bool.rec (motive:=λ_=>Nat) 2 ver (Nat.beq ty elem)))))))))| _=>.no
def d0O(P:Program)(elem size bytes:Nat)(s:Value)(H:Heap)(n:Nat)(l:List Value):Rs:=match s with| .slice none k c=>qF (Nat.beq k 0) .no (qF (Nat.beq c 0) .no (qF (Nat.ble (Nat.mul n (Nat.succ bytes)) qI) .no (qF (Nat.beq n 0) (.th (.slice (some ⟨H.length,0,some l.length⟩) n size) (uI H elem l)) (.ok (.slice none 0 0) H))))| .slice (some ⟨A,i,some e⟩) k _=>d2Q (kB H A) elem size bytes A i e k n l P H| _=>.no
def c8V(P:Program)(elem size bytes:Nat)(x y:LArg)(f:Fr)(H:Heap):Rs:=match a2v H size (oS f y)with| some (n,l)=>d0O P elem size bytes (oS f x) H n l| none=>.no
def c8g(t:TypeId)(cs:List Value)(_:Fr)(H:Heap):Rs:=.th (.pointer (some ⟨H.length,0,some cs.length⟩)) (uI H t cs)
def evF(f:Fr):Operand->Value| .tmp t=>qL (mN t) f| .const v=>v| .global g=>.pointer (some ⟨g,0,none⟩)| .func k=>.func (.func k) #[] #[]
def d4o(P:Program)(o:Oper)(f:Fr)(H:Heap):Rs:=match c8W P o (evF f) H with| some (v,H1)=>.th v H1| none=>.no
def a6s{α:Type}(f:Fr)(l:List LArg):(List Value->α)->α:=List.rec (motive:=λ_=>(List Value->α)->α) (λK=>K []) (λx _ ih K=>qO (oS f x) λv=>ih λl=>K (v::l)) l
structure Calls' where
 fn:Pth→FuncId→List Value→Heap→Rs
 rd:Nat→List Value→Heap→Rs
def c9h(C:Calls')(k:FuncId)(p:Pth)(args:List LArg)(f:Fr)(H:Heap):Rs:=a6s f args λl=>C.fn p k l H
def b4j(C:Calls')(l:List Value)(H:Heap)(g:Value):Rs:=match g with| .func (.func k) ⟨a⟩ ⟨b⟩=>lV k λk=>nN (mN k) λp=>C.fn p k (a7Z a (a7Z l b)) H| .func (.yield L) _ _=>C.rd L l H| _=>.no
def c9Z(C:Calls')(g:LArg)(args:List LArg)(f:Fr)(H:Heap):Rs:=a6s f args λl=>b4j C l H (oS f g)
def d3B(_:Fr)(_:Heap):Rs:=.no
def opF(P:Program)(C:Calls')(o:LOp):Fr->Heap->Rs:=LOp.rec (motive:=λ_=>Fr->Heap->Rs) d3B hMv c1r d0d d4f b8k b8C hSt hFa d0p c9x d0s hF1 hFn c8N b9N (c8V P) c8g (c9h C) (c9Z C) (d4o P) o
inductive Rf where| no| ok (f:Fr) (H:Heap)
def xK{α:Type}(d:Option Pth)(v:Value)(f:Fr)(K:Fr->α):α:=Option.rec (motive:=λ_=>α) (K f) (λp=>sH v p f K) d
def b5B{α:Type}(no:α)(d:Option Pth)(f:Fr)(K:Fr->Heap->α)(r:Rs):α:=Rs.rec (motive:=λ_=>α) no (λv H=>xK d v f λf=>K f H) (λv H=>a1N v λv=>pX H λH=>xK d v f λf=>K f H) r
def isB(v:Value)(w:Bool):Bool:=match v with| .bool b=>Bool.rec (motive:=λ_=>Bool) (Bool.rec (motive:=λ_=>Bool) true false w) w b| _=>false
def a0G(P:Program)(C:Calls')(ops:LOps):Fr->Heap->Rf:=LOps.rec (motive:=λ_=>Fr->Heap->Rf) (λf H=>.ok f H) (λd o _ ih f H=>b5B .no d f ih (opF P C o f H)) (λp w d o _ ih f H=>qF (isB (qL p f) w) (xK d undef f λf=>ih f H) (b5B .no d f ih (opF P C o f H))) ops
inductive Rt where| no| ok (tr:List (Fr×Heap×Value)) (f:Fr) (H:Heap)
def b6m(tr:List (Fr×Heap×Value))(f0:Fr)(H0:Heap)(d:Option Pth)(K:List (Fr×Heap×Value)->Fr->Heap->Rt)(r:Rs):Rt:=Rs.rec (motive:=λ_=>Rt) .no (λv H=>xK d v f0 λf=>K ((f0,H0,v)::tr) f H) (λv H=>a1N v λv=>pX H λH=>xK d v f0 λf=>K ((f0,H0,v)::tr) f H) r
def uE(P:Program)(C:Calls')(ops:LOps):List (Fr×Heap×Value)->Fr->Heap->Rt:=LOps.rec (motive:=λ_=>List (Fr×Heap×Value)->Fr->Heap->Rt) (λtr f H=>.ok tr f H) (λd o _ ih tr f H=>b6m tr f H d ih (opF P C o f H)) (λp w d o _ ih tr f H=>qF (isB (qL p f) w) (xK d undef f λf1=>ih ((f,H,undef)::tr) f1 H) (b6m tr f H d ih (opF P C o f H))) ops
def c4i(v:Value)(r:Rs):Bool:=Rs.rec (motive:=λ_=>Bool) false (λw _=>veq w v) (λw _=>veq w v) r
def c0L(f:Fr)(g:Option (Pth×Bool)):Bool:=match g with| none=>true| some (p,w)=>isB (qL p f) w
def c2Q(P:Program)(C:Calls')(tr:List (Fr×Heap×Value))(H1:Heap)(x:Nat×Option Nat×Option (Pth×Bool)×LOp):Bool:=match a3u tr x.1 with| some (f,_,v)=>qF (c0L f x.2.2.1) true (match x.2.1 with| none=>c4i v (opF P C x.2.2.2 f H1)| some m=>match a3u tr m with| some (_,H,_)=>c4i v (opF P C x.2.2.2 f H)| none=>false)| none=>false
def c3d{α:Type}(p:α->Bool)(l:List α):Bool:=List.rec (motive:=λ_=>Bool) true (λx _ ih=>qF (p x) false ih) l
inductive Rc where| no| ok (e:Ex) (f:Fr) (H:Heap)
def d3n(r:Rf):Rc:=Rf.rec (motive:=λ_=>Rc) .no (λf H=>.ok .normal f H) r
def c7p(P:Program)(C:Calls')(tab:List (Nat×Option Nat×Option (Pth×Bool)×LOp))(r:Rt):Rc:=Rt.rec (motive:=λ_=>Rc) .no (λtr f H=>qF (c3d (c2Q P C tr H) tab) .no (.ok .normal f H)) r
def rW{α:Type}(no:α)(l:List Value):List Pth->Fr->(Fr->α)->α:=List.rec (motive:=λ_=>List Pth->Fr->(Fr->α)->α) (λ_ f K=>K f) (λv _ ih ps f K=>List.rec (motive:=λ_=>α) no (λp ps _=>sH v p f λf=>ih ps f K) ps) l
def a6u(H:Heap)(f:Fr)(r:LRes):Rs:=LRes.rec (motive:=λ_=>Rs) (λp=>qO (qL p f) λv=>.ok v H) (λp=>b8k (.t p) f H) (λn p=>b8C n (.t p) f H) r
def c1v(H:Heap)(f:Fr)(l:List LRes):(List Value->Rs)->Rs:=List.rec (motive:=λ_=>(List Value->Rs)->Rs) (λK=>K []) (λr _ ih K=>Rs.rec (motive:=λ_=>Rs) .no (λv _=>ih λl=>K (v::l)) (λ_ _=>.no) (a6u H f r)) l
def noT(v:Value):Bool:=match v with|.tuple _=>false|_=>true
def b1e(l:List LRes)(f:Fr)(H:Heap):Rs:=match l with| [r]=>a6u H f r| l=>c1v H f l λvs=>qF (c3d noT vs) .no (.ok (.tuple ⟨vs⟩) H)
def c9t(l:List LRes)(r:Rc):Rs:=match r with| .ok .normal f H=>b1e l f H| .ok .ret f H=>b1e l f H| _=>.no
abbrev sS:=List LEnv->LCode->Fr->Heap->Rc
def d0j(P:Program)(k:FuncId)(args:List Value)(H:Heap):Rs:=match sQ P k args H with| some (v,H1)=>.th v H1| none=>.no
def rD(T:LT)(ih:sS)(E:List LEnv)(p:Pth)(args:List Value)(H:Heap):Rs:=match a3R p T with| some g=>rW .no args g.ps .e λf=>c9t g.res (ih E g.body f H)| none=>.no
def c2Z(P:Program)(T:LT)(ih:sS)(E:List LEnv)(p:Pth)(k:FuncId)(args:List Value)(H:Heap):Rs:=match a3R p T with| some g=>rW .no args g.ps .e λf=>c9t g.res (ih E g.body f H)| none=>d0j P k args H
def c2R(E:List LEnv)(L:Nat):Option LEnv:=List.rec (motive:=λ_=>Option LEnv) none (λe _ ih=>qF (Nat.beq e.L L) ih (some e)) E
def c7I(e:Ex):Option Code:=match e with|.normal=>none|.ret=>some .ret|.exit id=>some (.exit id)
def a4R(L:Nat)(e:Ex)(H:Heap):Rs:=match kB H L with| some (.loop ⟨_,_,fn,tmps,ps,a,b,d⟩)=>(match c7I e with| none=>.th (.bool true) (hset H L (.loop ⟨.ready,none,fn,tmps,ps,a,b,d⟩))| some c=>.th (.bool false) (hset H L (.loop ⟨.done,some c,fn,tmps,ps,a,b,d⟩)))| _=>.no
def b8D(L:Nat)(r:Rc):Rs:=match r with| .ok e _ H=>a4R L e H| .no=>.no
def a2P(ih:sS)(E:List LEnv)(en:LEnv)(f:Fr)(H:Heap):Rs:=match kB H en.L with| some (.loop ⟨.ready,p,fn,tmps,ps,a,b,d⟩)=>pX (hset H en.L (.loop ⟨.busy,p,fn,tmps,ps,a,b,d⟩)) λH=>b8D en.L (ih E en.b f H)| _=>.no
def vT(ih:sS)(E:List LEnv)(en:LEnv)(r:Rc):Rs:=match r with| .ok .normal f H=>a2P ih E en f H| _=>.no
def b4u(ih:sS)(E:List LEnv)(L:Nat)(args:List Value)(H:Heap):Rs:=match c2R E L with| some en=>(match kB H L with| some (.loop ⟨.ready,_,_,⟨tmps⟩,ps,_,_,_⟩)=>qF (a6Q args ps.size) .no (rW .no tmps en.ps .e λf=>rW .no args en.pp f λf=>vT ih E en (ih E en.a f H))| _=>.no)| none=>.no
def a2K(P:Program)(T:LT)(ih:sS)(E:List LEnv):Calls':=⟨c2Z P T ih E,b4u ih E⟩
def d4g(_:Fr)(_:Heap):Rc:=.no
def d1I(f:Fr)(H:Heap):Rc:=.ok .normal f H
def d4v(P:Program)(T:LT)(ih:sS)(E:List LEnv)(ops:LOps)(f:Fr)(H:Heap):Rc:=d3n (a0G P (a2K P T ih E) ops f H)
def d4R(P:Program)(T:LT)(ih:sS)(E:List LEnv)(ops:LOps)(tab:List (Nat×Option Nat×Option (Pth×Bool)×LOp))(f:Fr)(H:Heap):Rc:=c7p P (a2K P T ih E) tab (uE P (a2K P T ih E) ops [] f H)
def c5T(ih:sS)(E:List LEnv)(b:LCode)(r:Rc):Rc:=match r with| .ok .normal f H=>ih E b f H| r=>r
def d4s(ih:sS)(E:List LEnv)(a b:LCode)(_ _:Fr->Heap->Rc)(f:Fr)(H:Heap):Rc:=c5T ih E b (ih E a f H)
def c0i(ih:sS)(E:List LEnv)(c:LArg)(x y:LCode)(_ _:Fr->Heap->Rc)(f:Fr)(H:Heap):Rc:=match oS f c with| .bool t=>ih E (Bool.rec (motive:=λ_=>LCode) y x t) f H| _=>.no
def d1Z(id:Nat)(r:Rc):Rc:=match r with| .ok (.exit i) f H=>.ok (Bool.rec (motive:=λ_=>Ex) (.exit i) .normal (Nat.beq i id)) f H| r=>r
def c8Q(ih:sS)(E:List LEnv)(id:Nat)(b:LCode)(_:Fr->Heap->Rc)(f:Fr)(H:Heap):Rc:=d1Z id (ih E b f H)
def d2G(ih:sS)(E:List LEnv)(b:LCode)(_:Fr->Heap->Rc)(f:Fr)(H:Heap):Rc:=c5T ih E (.loop b) (ih E b f H)
def d2Z(id:Nat)(f:Fr)(H:Heap):Rc:=.ok (.exit id) f H
def d4E(f:Fr)(H:Heap):Rc:=.ok .ret f H
def frL{α:Type}(f:Fr)(ps:List Pth):(List Value->α)->α:=List.rec (motive:=λ_=>(List Value->α)->α) (λK=>K []) (λp _ ih K=>qO (qL p f) λv=>ih λl=>K (v::l)) ps
def xJ(L:Nat)(f:Fr)(H:Heap):Rc:=match kB H L with| some (.loop ⟨.ready,none,fn,tmps,ps,a,b,d⟩)=>pX (hset H L (.loop ⟨.exhausted,none,fn,tmps,ps,a,b,d⟩)) λH=>.ok .normal f H| some (.loop ⟨.done,none,fn,tmps,ps,a,b,d⟩)=>pX (hset H L (.loop ⟨.exhausted,none,fn,tmps,ps,a,b,d⟩)) λH=>.ok .normal f H| some (.loop ⟨.done,some .ret,fn,tmps,ps,a,b,d⟩)=>pX (hset H L (.loop ⟨.exhausted,some .ret,fn,tmps,ps,a,b,d⟩)) λH=>.ok .ret f H| some (.loop ⟨.done,some (.exit id),fn,tmps,ps,a,b,d⟩)=>pX (hset H L (.loop ⟨.exhausted,some (.exit id),fn,tmps,ps,a,b,d⟩)) λH=>.ok (.exit id) f H| _=>.no
def b8v(L:Nat)(f:Fr)(r:Rs):Rc:=match r with| .no=>.no| .ok _ H=>xJ L f H| .th _ H=>pX H λH=>xJ L f H
def b5H(T:LT)(ih:sS)(E:List LEnv)(f:Fr)(L:Nat)(k:FuncId)(args:List Value)(H:Heap):Rc:=nN (mN k) λp=>b8v L f (rD T ih E p args H)
def b3m(T:LT)(ih:sS)(E:List LEnv)(g:LArg)(ps pp:List Pth)(params:Array Tmp)(assign body:Code)(a b:LCode)(_ _:Fr->Heap->Rc)(f:Fr)(H:Heap):Rc:=match oS f g with| .func (.func k) ⟨x⟩ ⟨y⟩=>lV H.length λL=>frL f ps λl=>pX (H.cons (.loop ⟨.ready,none,0,⟨l⟩,params,assign,body,0⟩)) λH1=>lV k λk=>b5H T ih (⟨L,ps,pp,a,b⟩::E) f L k (a7Z x (.func (.yield L) #[] #[]::y)) H1| _=>.no
def b5U(P:Program)(T:LT)(ih:sS)(E:List LEnv)(c:LCode):Fr->Heap->Rc:=LCode.rec (motive:=λ_=>Fr->Heap->Rc) d4g d1I (d4v P T ih E) (d4R P T ih E) (d4s ih E) (c0i ih E) (c8Q ih E) (d2G ih E) d2Z d4E (b3m T ih E) c
def exF(P:Program)(T:LT)(n:Nat):sS:=Nat.rec (motive:=λ_=>sS) (λ_ _ _ _=>.no) (λ_ ih=>b5U P T ih) n
section
variable {α:Type}
def nQ(x:Operand)(K:LArg->α):α:=match x with| .tmp t=>nN (mN t) λp=>K (.t p)| .const v=>K (.c v)| .global g=>K (.c (.pointer (some ⟨g,0,none⟩)))| .func k=>K (.c (.func (.func k) #[] #[]))
def a8s(l:List Operand):(List LArg->α)->α:=List.rec (motive:=λ_=>(List LArg->α)->α) (λK=>K []) (λx _ ih K=>nQ x λx=>ih λl=>K (x::l)) l
def a5T(o:Option Nat)(d:α)(K:Nat->α):α:=match o with| some n=>lV n K| none=>d
def d4C(k:IntKind)(a b:Int):Option Value:=some (.int k (a0c k (c5e a b)))
def d4y(k:IntKind)(a b:Int):Option Value:=some (.int k (a0c k (c6p a b)))
def d2g(a b:Int):Int:=match a,b with| .ofNat a,.ofNat b=>.ofNat (Nat.mul a b)| a,b=>a*b
def d0W(k:IntKind)(a b:Int):Option Value:=some (.int k (a0c k (d2g a b)))
def d1x(a b:Int):Int:=match a,b with| .ofNat a,.ofNat b=>.ofNat (Nat.div a b)| a,b=>a.tdiv b
def d0X(a b:Int):Int:=match a,b with| .ofNat a,.ofNat b=>.ofNat (Nat.mod a b)| a,b=>a.tmod b
def c5A(k:IntKind)(a b:Int):Option Value:=match eqI b 0 with|true=>none|false=>some (.int k (a0c k (d1x a b)))
def c4g(k:IntKind)(a b:Int):Option Value:=match eqI b 0 with|true=>none|false=>some (.int k (d0X a b))
def d4n(_:IntKind)(a b:Int):Option Value:=some (.bool (eqI a b))
def d4k(_:IntKind)(a b:Int):Option Value:=some (.bool (!eqI a b))
def d3Q(_:IntKind)(a b:Int):Option Value:=some (.bool (ltI a b))
def d4t(_:IntKind)(a b:Int):Option Value:=some (.bool (!ltI b a))
def d4a(_:IntKind)(a b:Int):Option Value:=some (.bool (ltI b a))
def d3W(_:IntKind)(a b:Int):Option Value:=some (.bool (!ltI a b))
def c5I(op:BinOp):Option (IntKind->Int->Int->Option Value):=match op with| .add=>some d4C| .sub=>some d4y| .mul=>some d0W| .quo=>some c5A| .rem=>some c4g| .eql=>some d4n| .neq=>some d4k| .lss=>some d3Q| .leq=>some d4t| .gtr=>some d4a| .geq=>some d3W| _=>none
def c9V(d:Option TypeDesc):Bool:=match d with|some (.int _)=>true|_=>false
def d5c(P:Program)(s:TypeId)(f:Nat)(d:α)(K1:Nat->α)(Kn:Nat->Nat->α):α:=match qQ P s f with| some fd=>lV fd.offset (λoff=>match lE P fd.type with| some true=>a5T (jT P fd.type) d λn=>Kn off n| some false=>K1 off| none=>d)| none=>d
def c2z(P:Program)(o:Oper)(c:Call)(K:LOp->α):α:=match c.callee with| .value (.func k)=>nN (mN k) λp=>a8s c.args.toList λl=>K (.callF k p l)| .value g=>nQ g λg=>a8s c.args.toList λl=>K (.callV g l)| .builtin .len=>qF (c.args.size==1&&c.argTypes.size==1) (K (.gen o)) (match P.underlying (c.argTypes.getD 0 0)with| some (.slice _)=>nQ (c.args.getD 0 (.tmp 0)) λx=>K (.len x)| some .string=>nQ (c.args.getD 0 (.tmp 0)) λx=>K (.slen x)| _=>K (.gen o))| .builtin .append=>qF (c.args.size==2&&c.argTypes.size==2&&((P.underlying (c.argTypes.getD 1 0)).map sJ)==some true) (K (.gen o)) (match jX P (c.argTypes.getD 0 0)with| some elem=>a5T (jT P elem) (K (.gen o)) (λsize=>a5T (oW P elem) (K (.gen o)) λbytes=>match kN P elem with| some z=>qF (z.cells.size==size&&size !=0) (K (.gen o)) (lV elem λelem=>nQ (c.args.getD 0 (.tmp 0)) λx=>nQ (c.args.getD 1 (.tmp 0)) λy=>K (.app elem size bytes x y))| none=>K (.gen o))| none=>K (.gen o))| _=>K (.gen o)
def d0L(P:Program)(o:Oper)(K:LOp->α):α:=match o.op with| .move x=>nQ x λx=>K (.mv x)| .assign x=>nQ x λx=>K (.mv x)| .pick c a b=>nQ c λc=>nQ a λa=>nQ b λb=>K (.pick c a b)| .binOp op t x y _=>qF (c9V (P.underlying t)) (K (.gen o)) (match c5I op with| some g=>nQ x λx=>nQ y λy=>K (.bin g x y)| none=>K (.gen o))| .load t x=>(match lE P t with| some true=>a5T (jT P t) (K (.gen o)) λn=>nQ x λx=>K (.ldn n x)| some false=>nQ x λx=>K (.ld1 x)| none=>K (.gen o))| .store t x y=>a5T (jT P t) (K (.gen o)) λn=>nQ x λx=>nQ y λy=>K (.st n x y)| .fieldAddr s x f=>(match qQ P s f with| some fd=>(match jT P fd.type with| some 0=>K (.gen o)| some _=>lV fd.offset λoff=>nQ x λx=>K (.fa off x)| none=>K (.gen o))| none=>K (.gen o))| .indexAddr t x i=>(match P.underlying t with| some (.slice elem)=>a5T (jT P elem) (K (.gen o)) λsize=>nQ x λx=>nQ i λi=>K (.ixs size x i)| some (.array n elem)=>a5T (jT P elem) (K (.gen o)) λsize=>nQ x λx=>nQ i λi=>K (.ixa n size x i)| _=>K (.gen o))| .extract t i=>lV i λi=>nQ t λt=>K (.ext i t)| .call c=>c2z P o c K| _=>K (.gen o)
def a1l(P:Program)(o:Oper)(K:LOp->α):α:=qF (o.op.operands.toList.all kH) (K .bad) (d0L P o K)
def b0d(k:Nat)(d:Option Tmp)(no:α)(K:Option Pth->α):α:=match d with| none=>K none| some t=>qF (Nat.blt t k) no (nN (mN t) λp=>K (some p))
def xL(P:Program)(k:Nat)(ops:Array Oper)(l:List Oper):(LOps->α)->α->α:=List.rec (motive:=λ_=>(LOps->α)->α->α) (λK _=>K .nil) (λo _ ih K no=>b0d k o.dst no λd=>a1l P o λo'=>match o.guard with| none=>ih (λr=>K (.cons d o' r)) no| some (j,w)=>match (ops[j]?).bind (·.dst)with| some t=>qF (Nat.blt t k) no (nN (mN t) λp=>a2C w λw=>ih (λr=>K (.gcons p w d o' r)) no)| none=>no) l
def loG(k:Nat)(ops:Array Oper)(g:Option (Nat×Bool))(no:α)(K:Option (Pth×Bool)->α):α:=match g with| none=>K none| some (j,w)=>match (ops[j]?).bind (·.dst)with| some t=>qF (Nat.blt t k) no (nN (mN t) λp=>a2C w λw=>K (some (p,w)))| none=>no
def xB(P:Program)(k:Nat)(ops:Array Oper)(N:Nat)(tab:List (Nat×Nat)):(List (Nat×Option Nat×Option (Pth×Bool)×LOp)->α)->α->α:=List.rec (motive:=λ_=>(List (Nat×Option Nat×Option (Pth×Bool)×LOp)->α)->α->α) (λK _=>K []) (λx _ ih K no=>match ops[x.1]? with| some o=>loG k ops o.guard no λg=>a1l P o λo'=>lV (N-1-x.1) λi=>qF (Nat.blt x.2 N) (ih (λl=>K ((i,none,g,o')::l)) no) (lV (N-1-x.2) λm=>ih (λl=>K ((i,some m,g,o')::l)) no)| none=>no) tab
def c3R(k:Nat):(List Pth->α)->α:=Nat.rec (motive:=λ_=>(List Pth->α)->α) (λK=>K []) (λn ih K=>nN (mN n) λp=>ih λl=>K (p::l)) k
def c8p{β:Type}(l:List β):List β->(List β->α)->α:=List.rec (motive:=λ_=>List β->(List β->α)->α) (λa K=>K a) (λx _ ih a K=>ih (x::a) K) l
def b7T(k:Nat)(K:List Pth->α):α:=c3R k λl=>c8p l [] K
def a0o(k:Nat)(l:List Tmp):(List Pth->α)->α->α:=List.rec (motive:=λ_=>(List Pth->α)->α->α) (λK _=>K []) (λt _ ih K no=>qF (Nat.blt t k) no (nN (mN t) λp=>ih (λl=>K (p::l)) no)) l
def pN(P:Program)(k:Nat)(c:Code):(LCode->α)->α:=Code.rec (motive:=λ_=>(LCode->α)->α) (λK=>K .skip) (λ_ ops d K=>Bool.rec (motive:=λ_=>α) (xL P k ops ops.toList (λl=>K (.reg l)) (K .bad)) (match pJ P ops with| some []=>xL P k ops ops.toList (λl=>K (.reg l)) (K .bad)| some tab=>xL P k ops ops.toList (λl=>xB P k ops ops.size tab (λt=>K (.drw l t)) (K .bad)) (K .bad)| none=>K .bad) d) (λ_ _ iha ihb K=>iha λa=>ihb λb=>K (.seq a b)) (λc _ _ ihx ihy K=>qF (kH c) (K .bad) (nQ c λc=>ihx λx=>ihy λy=>K (.cond c x y))) (λid _ ih K=>lV id λid=>ih λb=>K (.block id b)) (λ_ ih K=>ih λb=>K (.loop b)) (λg ps assign body iha ihb K=>qF (kH g) (K .bad) (nQ g λg'=>b7T k λpp=>a0o k ps.toList (λq=>iha λa=>ihb λb=>K (.range g' pp q ps assign body a b)) (K .bad))) (λid K=>lV id λid=>K (.exit id)) (λ_ _ K=>K .bad) (λ_ K=>K .skip) (λ_ K=>K .bad) (λK=>K .ret) (λ_ K=>K .bad) c
def a3o(P:Program)(l:List ResultVar):(List LRes->α)->α->α:=List.rec (motive:=λ_=>(List LRes->α)->α->α) (λK _=>K []) (λr _ ih K no=>match r with| .tmp t=>nN (mN t) λp=>ih (λl=>K (.t p::l)) no| .cell a t=>match lE P t with| some true=>a5T (jT P t) no λn=>nN (mN a) λp=>ih (λl=>K (.cn n p::l)) no| some false=>nN (mN a) λp=>ih (λl=>K (.c1 p::l)) no| none=>no) l
def a5M(P:Program)(f:FuncId)(no:α)(K:LFunc->α):α:=match P.funcs[f]? with| some fn=>(match fn.body with| some c=>qF (fn.name== "runtime.NumGoroutine") (a3o P fn.results.toList (λres=>b7T fn.ntmps λps=>pN P fn.ntmps c λb=>K ⟨ps,b,res⟩) no) no| none=>no)| none=>no
def xU(P:Program)(fs:List FuncId):LT->(LT->α)->α:=List.rec (motive:=λ_=>LT->(LT->α)->α) (λT K=>K T) (λf _ ih T K=>a5M P f (ih T K) λg=>nN (mN f) λp=>vB g p T λT=>ih T K) fs
end
end
end Go.Ds
namespace Go.Ds
section
variable {α:Type}
theorem yX(f k:Nat):a8A (f+1) (k+1)=if k%2=0 then .l (a8A f (k/2))else .r (a8A f (k/2)):=by show Bool.rec (motive:=λ_=>Pth) (.r (a8A f (k/2))) (.l (a8A f (k/2))) (Nat.beq (k%2) 0)=_;by_cases h:k%2=0;(·rw[if_pos h,h];rfl);·rw[if_neg h];have:Nat.beq (k%2) 0=false:=iE.2 λe=>h (eT e);rw[this]
theorem a7s(f:Nat):a8A f 0=.z:=by cases f<;>rfl
theorem a3W:∀(f g a b:Nat),a<=f->b<=g->a8A f a=a8A g b->a=b| _,_,0,0,_,_,_=>rfl| 0,_,a+1,_,h,_,_=>by omega| _,0,_,b+1,_,h,_=>by omega| f,g+1,0,b+1,_,_,h=>by rw[a7s,yX]at h;split at h<;>cases h| f+1,g,a+1,0,_,_,h=>by rw[a7s,yX]at h;split at h<;>cases h| f+1,g+1,a+1,b+1,ha,hb,h=>by rw[yX,yX]at h;by_cases h1:a%2=0;(·rw[if_pos h1]at h;by_cases h2:b%2=0;(·rw[if_pos h2]at h;injection h with h;have:=a3W f g (a/2) (b/2) (by omega) (by omega) h;omega);·rw[if_neg h2]at h;cases h);·rw[if_neg h1]at h;by_cases h2:b%2=0;(·rw[if_pos h2]at h;cases h);·rw[if_neg h2]at h;injection h with h;have:=a3W f g (a/2) (b/2) (by omega) (by omega) h;omega
theorem b5f{a b:Nat}(h:mN a=mN b):a=b:=a3W _ _ _ _ (dJ _) (dJ _) h
theorem nJ(p:Pth)(K:Pth->α):nN p K=K p:=by induction p generalizing K with| z=>rfl| l p ih=>exact ih _| r p ih=>exact ih _
theorem pD(v:Value)(K:Value->α):qO v K=K v:=by cases v<;>rfl
theorem wC(v:Value)(p:Pth)(f:Fr)(K:Fr->α):sH v p f K=K (sH v p f λf=>f):=by induction p generalizing f α with| z=>cases f<;>rfl| l p ih=>(cases f with| e=>show sH v p .e (λl=>K (.n undef l .e))=K (sH v p .e λl=>.n undef l .e);rw[ih,ih (K:=λl=>Fr.n undef l .e)]| n w l r=>show sH v p l (λl=>K (.n w l r))=K (sH v p l λl=>.n w l r);rw[ih,ih (K:=λl=>Fr.n w l r)])| r p ih=>cases f with| e=>show sH v p .e (λl=>K (.n undef .e l))=K (sH v p .e λl=>.n undef .e l);rw[ih,ih (K:=λl=>Fr.n undef .e l)]| n w l r=>show sH v p r (λr=>K (.n w l r))=K (sH v p r λr=>.n w l r);rw[ih,ih (K:=λr=>Fr.n w l r)]
theorem yL(p:Pth):qL p .e=undef:=by cases p<;>rfl
theorem b7o(v:Value)(p q:Pth)(f:Fr):(q=p->qL q (sH v p f λf=>f)=v)∧(q≠p->qL q (sH v p f λf=>f)=qL q f):=by
 induction p generalizing f q with| z=>refine⟨λh=> ?_,λh=> ?_⟩;(·subst h;cases f<;>rfl);(·cases q with| z=>exact absurd rfl h| l q=>(cases f with| e=>show qL q .e=undef;exact yL q| n=>rfl)| r q=>cases f with| e=>show qL q .e=undef;exact yL q| n=>rfl)| l p ih=>(have h1:∀f,sH v (.l p) f (λf=>f)=match f with|.e=>.n undef (sH v p .e λf=>f) .e|.n w l r=>.n w (sH v p l λf=>f) r:=λf=>by cases f with| e=>exact wC v p .e λl=>Fr.n undef l .e| n w l r=>exact wC v p l λl=>Fr.n w l r);rw[h1];(cases q with| z=>exact⟨λh=>(nomatch h),λ_=>by cases f<;>rfl⟩| r q=>refine⟨λh=>(nomatch h),λ_=> ?_⟩;(cases f with| e=>show qL q .e=undef;exact yL q| n=>rfl)| l q=>refine⟨λh=> ?_,λh=> ?_⟩;(·injection h with h;cases f with| e=>exact(ih q .e).1 h| n w l r=>exact(ih q l).1 h);·have h:q≠p:=λe=>h (by rw[e]);cases f with| e=>show qL q (sH v p .e λf=>f)=undef;rw[(ih q .e).2 h,yL]| n w l r=>exact(ih q l).2 h)| r p ih=>(have h1:∀f,sH v (.r p) f (λf=>f)=match f with|.e=>.n undef .e (sH v p .e λf=>f)|.n w l r=>.n w l (sH v p r λf=>f):=λf=>by cases f with| e=>exact wC v p .e λl=>Fr.n undef .e l| n w l r=>exact wC v p r λr=>Fr.n w l r);rw[h1];cases q with| z=>exact⟨λh=>(nomatch h),λ_=>by cases f<;>rfl⟩| l q=>refine⟨λh=>(nomatch h),λ_=> ?_⟩;(cases f with| e=>show qL q .e=undef;exact yL q| n=>rfl)| r q=>refine⟨λh=> ?_,λh=> ?_⟩;(·injection h with h;cases f with| e=>exact(ih q .e).1 h| n w l r=>exact(ih q r).1 h);·have h:q≠p:=λe=>h (by rw[e]);cases f with| e=>show qL q (sH v p .e λf=>f)=undef;rw[(ih q .e).2 h,yL]| n w l r=>exact(ih q r).2 h
def FAg(f:Fr)(l:List Value):Prop:=∀t,qL (mN t) f=get l t
def FRel(k:Nat)(f:Fr)(l:List Value):Prop:=l.length=k∧FAg f l
noncomputable def c2W (f:Fr) (t:Tmp) (v:Value):Fr:=sH v (mN t) f λf=>f
theorem a6K(f:Fr)(t u:Tmp)(v:Value):qL (mN u) (c2W f t v)=if u=t then v else qL (mN u) f:=by have h:=b7o v (mN t) (mN u) f;by_cases he:u=t;(·rw[if_pos he];exact h.1 (by rw[he]));·rw[if_neg he];exact h.2 (λe=>he (b5f e))
theorem FRel.put{k:Nat}{f:Fr}{l:List Value}(h:FRel k f l){t:Tmp}(ht:t<k)(v:Value):FRel k (c2W f t v) (Go.Ds.put l (some t) v):=by refine⟨by simp[Go.Ds.put,pG,h.1],λu=> ?_⟩;rw[a6K,a3A];by_cases he:u=t;(·subst he;rw[if_pos rfl,if_pos ⟨rfl,by rw[h.1];exact ht⟩]);·rw[if_neg he,if_neg (λhh=>he (dC hh.1).symm)];exact h.2 u
theorem FRel.set{k:Nat}{f:Fr}{l:List Value}(h:FRel k f l){t:Tmp}(ht:t<k)(v:Value):FRel k (c2W f t v) (l.set t v):=by have:=h.put ht v;simpa [Go.Ds.put,pG]using this
def Rs.Is(r:Rs)(v:Value)(H:Heap):Prop:=r=.ok v H∨r=.th v H
theorem Rs.ay{v:Value}{H:Heap}:¬Rs.no.Is v H:=by rintro(h|h)<;>cases h
theorem Rs.aR{v w:Value}{H H1:Heap}(h:(Rs.ok v H).Is w H1):w=v∧H1=H:=by rcases h with h|h;(·injection h with a b;exact⟨a.symm,b.symm⟩);·cases h
theorem Rs.aU{v w:Value}{H H1:Heap}(h:(Rs.th v H).Is w H1):w=v∧H1=H:=by rcases h with h|h;(·cases h);·injection h with a b;exact⟨a.symm,b.symm⟩
theorem mK(b:Bool)(no x:α):qF b no x=if b=true then x else no:=by cases b<;>rfl
theorem nD{b:Bool}{x:Rs}{v:Value}{H:Heap}(h:(qF b Rs.no x).Is v H):b=true∧x.Is v H:=by cases b with| false=>exact absurd h Rs.ay| true=>exact⟨rfl,h⟩
theorem a1c{β:Type}:∀(cs:List β)(e:Nat),b0T cs e=decide (e<=cs.length)| [],0=>rfl| [],e+1=>by simp;rfl| _::_,0=>rfl| _::cs,e+1=>by show b0T cs e=_;rw[a1c cs e];simp
theorem a1A{β:Type}:∀(cs:List β)(e:Nat),a6Q cs e=decide (e=cs.length)| [],0=>rfl| [],e+1=>by simp;rfl| _::_,0=>by simp;rfl| _::cs,e+1=>by show a6Q cs e=_;rw[a1A cs e];simp
theorem a1E{β:Type}:∀(cs:List β)(e:Nat),a3u cs e=cs[e]?| [],_=>rfl| _::_,0=>rfl| _::cs,e+1=>by show a3u cs e=_;rw[a1E cs e];simp
theorem a9n{β:Type}:∀(cs:List β)(e:Nat),b5F cs e=cs.drop e| [],e=>by cases e<;>rfl| _::_,0=>rfl| _::cs,e+1=>by show b5F cs e=_;rw[a9n cs e];rfl
theorem b1C{β:Type}:∀{cs:List β}{n:Nat}{K:List β->Rs}{v:Value}{H:Heap},(a5u cs n K).Is v H->n<=cs.length∧(K (cs.take n)).Is v H| [],0,K,v,H,h=>⟨dJ _,h⟩| [],n+1,K,v,H,h=>absurd h Rs.ay| _::_,0,K,v,H,h=>⟨fb _,h⟩| c::cs,n+1,K,v,H,h=>by have h':(a5u cs n λl=>K (c::l)).Is v H:=h;obtain⟨h1,h2⟩:=b1C h';exact⟨by simp;omega,h2⟩
theorem c6e{a b:IntKind}(h:Nat.beq (kIx a) (kIx b)=true):a=b:=by cases a<;>cases b<;>first|rfl|(exact absurd h (by decide))
theorem c3x(k:Nat)(K:List Pth->α):c3R k K=K ((List.range k).map mN).reverse:=by induction k generalizing K with| zero=>rfl| succ n ih=>show nN (mN n) (λp=>c3R n λl=>K (p::l))=_;rw[nJ,ih,fj];simp
theorem c4B{β:Type}(l:List β):∀(a:List β)(K:List β->α),c8p l a K=K (l.reverse++a):=by induction l with| nil=>intro a K;rfl| cons x l ih=>intro a K;show c8p l (x::a) K=_;rw[ih];simp
theorem b4W(k:Nat)(K:List Pth->α):b7T k K=K ((List.range k).map mN):=by unfold b7T;rw[c3x,c4B];simp
theorem rS(n:Nat)(d:α)(K:Nat->α):a5T (some n) d K=K n:=lR n K
def LK(H H':Heap):Prop:=H.length<=H'.length∧∀A r',A<H.length->kB H' A=some (.loop r')-> ∃r,kB H A=some (.loop r)∧r'.assign=r.assign∧r'.body=r.body∧r'.params=r.params∧r'.tmps=r.tmps
theorem LK.refl(H:Heap):LK H H:=⟨dJ _,λ_ r _ h=>⟨r,h,rfl,rfl,rfl,rfl⟩⟩
theorem LK.trans{H H1 H2:Heap}(h:LK H H1)(k:LK H1 H2):LK H H2:=⟨ey h.1 k.1,λA r' hA hr=>by obtain⟨r1,h1,a1,b1,c1,d1⟩:=k.2 A r' (dZ hA h.1) hr;obtain⟨r,h2,a2,b2,c2,d2⟩:=h.2 A r1 hA h1;exact⟨r,h2,a1.trans a2,b1.trans b2,c1.trans c2,d1.trans d2⟩⟩
def Blk.cK:Blk->Bool| .loop _=>true| _=>false
theorem LK.hset(H:Heap)(A:Nat){b:Blk}(hb:b.cK=false):LK H (hset H A b):=by refine⟨by rw[lC];exact dJ _,λB r' hB h=> ?_⟩;by_cases he:A=B;(·subst he;rw[kF _ hB]at h;injection h with h;subst h;cases hb);·rw[kS _ he]at h;exact⟨r',h,rfl,rfl,rfl,rfl⟩
theorem LK.cons(H:Heap)(b:Blk):LK H (H.cons b):=by refine⟨by rw[length_cons];omega,λB r' hB h=> ?_⟩;rw[kU b hB]at h;exact⟨r',h,rfl,rfl,rfl,rfl⟩
theorem LK.row(H:Heap)(ty:TypeId)(cs:List Value):LK H (uI H ty cs):=by rw[mO];exact .cons _ _
theorem LK.loop{H:Heap}{L:Nat}{r r':Loop}(h:kB H L=some (.loop r))(e:r'.assign=r.assign∧r'.body=r.body∧r'.params=r.params∧r'.tmps=r.tmps):LK H (Go.Ds.hset H L (.loop r')):=by refine⟨by rw[lC];exact dJ _,λB r2 hB hg=> ?_⟩;by_cases he:L=B;(·subst he;rw[kF _ hB]at hg;injection hg with hg;injection hg with hg;subst hg;exact⟨r,h,e⟩);·rw[kS _ he]at hg;exact⟨r2,hg,rfl,rfl,rfl,rfl⟩
variable {P:Program}
theorem b2l{H H':Heap}{t:TypeId}{p v:Value}(h:tJ P H t p v=some H'):LK H H':=by unfold tJ at h;split at h;(·split at h;(·dsimp only at h;split at h;(·injection h with h;subst h;exact .hset _ _ rfl);·cases h);·cases h);·cases h
theorem a7m{H H':Heap}{t:TypeId}{v r:Value}(h:a0p P H t v=some (r,H')):LK H H':=by unfold a0p at h;dsimp only at h;split at h;(·injection h with h;injection h with _ h;subst h;exact .row _ _ _);·cases h
theorem a8c{H H':Heap}{t:TypeId}{s x r:Value}(h:pV P H t s x=some (r,H')):LK H H':=by unfold pV at h;simp only[dF]at h;obtain⟨elem,_,size,_,bytes,_,z,_,⟨n,l⟩,_,h⟩:=h;(try dsimp only at h);split at h;(·split at h;(·split at h;(·injection h with h;injection h with _ h;subst h;exact .refl _);·injection h with h;injection h with _ h;subst h;exact .row _ _ _);·cases h);(·split at h;(·split at h;(·injection h with h;injection h with _ h;subst h;exact .hset _ _ rfl);·split at h;(·injection h with h;injection h with _ h;subst h;exact .hset _ _ rfl);·cases h);·cases h);·cases h
theorem a9G{H H':Heap}{t:TypeId}{v r:Value}(h:tL P H t v=some (r,H')):LK H H':=by unfold tL at h;split at h;(·dsimp only at h;rename_i n elem _;(have key:∀(b:Bool),(if b=true then some (Value.pointer (some ⟨H.length,0,some v.cells.toList.length⟩),c2S H elem v.cells.toList)else none)=some (r,H')->LK H H':=by intro b h;cases b;(·cases h);·injection h with h;injection h with _ h;subst h;rw[a3O];exact .cons _ _);exact key _ h);·exact a7m h
theorem a8G{H H':Heap}{t:TypeId}{x y r:Value}(h:yZ P H t x y=some (r,H')):LK H H':=by unfold yZ at h;split at h;(·split at h;(·split at h;(·simp only[dO]at h;obtain⟨_,_,h⟩:=h;injection h with _ h;subst h;exact .hset _ _ rfl);·cases h);·cases h);·cases h
theorem a8v{H H':Heap}{k:FuncId}{args:List Value}{r:Value}(h:sQ P k args H=some (r,H')):LK H H':=by unfold sQ at h;simp only[dF]at h;obtain⟨fn,_,h⟩:=h;split at h;(case isFalse=>cases h);split at h;(·split at h;(·injection h with h;injection h with _ h;subst h;exact .refl _);·cases h);split at h;(·split at h;(·split at h;(·simp only[dF]at h;obtain⟨_,_,h⟩:=h;split at h;(·injection h with h;injection h with _ h;subst h;exact .row _ _ _);·cases h);·cases h);·cases h);split at h;(·split at h;(·split at h;(·split at h;(·injection h with h;injection h with _ h;subst h;exact .refl _);·cases h);·cases h);·cases h);·cases h
theorem b3Z{H H':Heap}{t:TypeId}{s x r:Value}(h:a5m P H t s x=some (r,H')):LK H H':=by unfold a5m at h;simp only[dF]at h;obtain⟨elem,_,size,_,m,_,h⟩:=h;(try dsimp only at h);split at h;(·split at h;(·injection h with h;injection h with _ h;subst h;exact .refl _);·cases h);(·split at h;(·injection h with h;injection h with _ h;subst h;exact .refl _);·simp only[dF]at h;obtain⟨l,_,h⟩:=h;split at h;(·split at h;(·injection h with h;injection h with _ h;subst h;exact .hset _ _ rfl);·cases h);·cases h);·cases h
theorem b0g{H H':Heap}{t:TypeId}{x r:Value}(h:wN P H t x=some (r,H')):LK H H':=by unfold wN at h;simp only[dF]at h;obtain⟨elem,_,z,_,h⟩:=h;split at h;(·injection h with h;injection h with _ h;subst h;exact .refl _);(·split at h;(·injection h with h;injection h with _ h;subst h;exact .refl _);·(try dsimp only at h);split at h;(·split at h;(·injection h with h;injection h with _ h;subst h;exact .hset _ _ rfl);·cases h);·cases h);·cases h
theorem a7B{H H':Heap}{t:TypeId}{m k v:Value}(h:a0w P H t m k v=some H'):LK H H':=by unfold a0w at h;simp only[dF]at h;obtain⟨⟨kt,et⟩,_,h⟩:=h;dsimp only at h;split at h;(·split at h;(·split at h;(·simp only[dF]at h;obtain⟨r,_,h⟩:=h;split at h;(·simp only[dF]at h;obtain⟨e,_,h⟩:=h;split at h;(·injection h with h;subst h;exact .hset _ _ rfl);·cases h);·injection h with h;subst h;exact .hset _ _ rfl);·cases h);·cases h);·cases h
theorem b0W{H H':Heap}{t:TypeId}{m k r:Value}(h:tI P H t m k=some (r,H')):LK H H':=by unfold tI at h;simp only[dF]at h;obtain⟨⟨kt,et⟩,_,h⟩:=h;dsimp only at h;split at h;(·split at h;(·split at h;(·simp only[dF]at h;obtain⟨r,_,h⟩:=h;split at h;(·simp only[dF]at h;obtain⟨e,_,h⟩:=h;split at h;(·injection h with h;injection h with _ h;subst h;exact .hset _ _ rfl);·cases h);·simp only[dF]at h;obtain⟨z,_,h⟩:=h;split at h;(·injection h with h;injection h with _ h;subst h;exact .hset _ _ rfl);·cases h);·cases h);·cases h);·cases h
theorem b0X{H H':Heap}{m b v:Value}(h:tH H m b v=some H'):LK H H':=by unfold tH at h;split at h;(·split at h;(·split at h;(·simp only[dF]at h;obtain⟨e,_,h⟩:=h;injection h with h;subst h;exact .hset _ _ rfl);·cases h);·cases h);·cases h
theorem a6o{H H':Heap}{t:TypeId}{o:Option Value}{r:Value}(h:sG P H t o=some (r,H')):LK H H':=by unfold sG at h;simp only[dF]at h;obtain⟨_,_,h⟩:=h;split at h;(·injection h with h;injection h with _ h;subst h;exact .cons _ _);(·injection h with h;injection h with _ h;subst h;exact .cons _ _);·cases h
theorem b2c{H H':Heap}{o:Oper}{l:List Value}{r:Value}(h:mE P o l H=some (r,H')):H'=H:=by unfold mE at h;split at h;(·split at h;(·split at h;(·injection h with h;injection h with _ h;exact h.symm);·cases h);·cases h);·cases h
theorem yV{H H':Heap}{v r:Value}(h:some (v,H)=some (r,H')):LK H H':=by injection h with h;injection h with _ h;subst h;exact .refl _
theorem yA{H H':Heap}{v:Option Value}{r:Value}(h:v.map (λv=>(v,H))=some (r,H')):LK H H':=by cases v with| none=>cases h| some v=>exact yV h
set_option maxHeartbeats 1000000 in
theorem c1Q{H H':Heap}{o:Oper}{l:List Value}{r:Value}(h:opD P o l H=some (r,H')):LK H H':=by
 obtain⟨dst,op,type,pos,after,guard⟩:=o;have pl:∀{o:Oper},mE P o l H=some (r,H')→LK H H':=fun h=>by rw[b2c h];exact .refl _
 cases op with
 | alloc t=>
   simp only[opD,dF]at h;obtain⟨z,_,h⟩:=h;split at h
   ·exact a9G h
   ·cases h
 | box t x=>simp only[opD]at h;exact a7m h
 | store t x y=>
   simp only[opD,dO]at h;obtain⟨H1,h,e⟩:=h;injection e with _ e;subst e
   exact b2l h
 | mapUpdate t m x y=>
   simp only[opD,dO]at h;obtain⟨H1,h,e⟩:=h;injection e with _ e;subst e
   exact a7B h
 | insert t m x y=>
   simp only[opD,dO]at h;obtain⟨H1,h,e⟩:=h;injection e with _ e;subst e
   exact a7B h
 | mapEntry t m x=>simp only[opD]at h;exact b0W h
 | entryStore t m x y=>
   simp only[opD,dO]at h;obtain⟨H1,h,e⟩:=h;injection e with _ e;subst e
   exact b0X h
 | makeMap t x=>simp only[opD]at h;exact a6o h
 | buildSlice t len parts=>
   simp only[opD,dF]at h;obtain⟨elem,_,size,_,z,_,h⟩:=h;split at h
   ·injection h with h;injection h with _ h;subst h;exact .row _ _ _
   split at h
   ·simp only[dO]at h;obtain⟨cs,_,e⟩:=h;injection e with _ e;subst e
    exact .row _ _ _
   ·cases h
 | makeSlice t n c=>
   simp only[opD,dF]at h;obtain⟨elem,_,size,_,bytes,_,z,_,h⟩:=h;split at h
   ·split at h
    ·injection h with h;injection h with _ h;subst h;exact .row _ _ _
    ·cases h
   ·cases h
 | call c=>
   simp only[opD]at h;split at h
   ·split at h
    ·split at h
     all_goals first|exact yA h|cases h
    ·cases h
   ·split at h
    ·exact a8c h
    ·cases h
   ·split at h
    ·exact b3Z h
    ·cases h
   ·split at h
    ·exact b0g h
    ·cases h
   ·exact pl h
   ·split at h
    ·split at h
     ·split at h
      ·cases h
      ·exact yV h
     ·cases h
    ·cases h
   ·split at h
    ·exact a8G h
    ·cases h
   ·exact pl h
   ·exact pl h
   ·cases h
 | convert s t x=>
   simp only[opD]at h;split at h
   ·exact pl h
   ·split at h
    ·split at h
     ·exact yA h
     ·cases h
    ·split at h
     ·simp only[dF]at h;obtain⟨_,_,h⟩:=h;injection h with h;injection h with _ h;subst h
      rw[b5r];exact .cons _ _
     ·cases h
    ·split at h
     ·exact yV h
     ·cases h
    ·cases h
 | slice t x lo hi mx=>
   cases mx with
   | some _=>simp only[opD]at h;cases h
   | none=>
     simp only[opD]at h;split at h
     ·exact pl h
     ·split at h
      ·exact yA h
      ·exact yA h
 | _=>
   simp only[opD]at h
   repeat' first
    | exact LK.refl _
    | exact yV h
    | exact yA h
    | exact pl h
    | (cases h;done)
    | split at h
    | (simp only[dF,dO]at h;obtain⟨_,_,h⟩:=h)
    | (obtain⟨_,_,h⟩:=h)
    | (injection h with h;injection h with _ h;subst h;exact LK.refl _)
    | (injection h with _ h;subst h;exact LK.refl _)
    | (cases h;exact LK.refl _)
end
end Go.Ds
