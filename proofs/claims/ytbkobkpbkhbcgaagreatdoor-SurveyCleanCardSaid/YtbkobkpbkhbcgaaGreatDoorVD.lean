/-
  A part of the proof of SurveyClean.
-/
import Derived.Test.YtbkobkpbkhbcgaaGreatDoorVC
import Derived.Test.YtbkobkpbkhbcgaaGreatDoorVB
import Derived.Shelf.SlSortCmp.NoneTotal
import Derived.Shelf.SlGeneric
import Derived.Shelf.SlLaysF0
import Derived.Test.YtbkobkpbkhbcgaaGreatDoorProg
set_option linter.unusedVariables false
set_option linter.unusedSimpArgs false
set_option linter.defProp false
set_option linter.unusedSectionVars false
set_option maxRecDepth 100000
set_option maxHeartbeats 2000000
namespace Go.Ds
open Go.Proofs Go.Proofs.Tryz
variable {H:Heap}
structure RPl where
 tone:Nat
 feet:Nat
 first:Int
 pipes:Nat
 w0:Nat
 w1:Nat
 w2:Nat
 w3:Nat
 w4:Nat
 deriving Inhabited
def RPl.cells(p:RPl):List Value:=[.int .u8 p.tone,.int .u8 p.feet,.int .i8 p.first,.int .u8 p.pipes,.int .u8 p.w0,.int .u8 p.w1,.int .u8 p.w2,.int .u8 p.w3,.int .u8 p.w4]
def RPl.Ok(p:RPl):Prop:=p.tone<256∧p.feet<256∧-128<=p.first∧p.first<128∧p.pipes<256∧p.w0<256∧p.w1<256∧p.w2<256∧p.w3<256∧p.w4<256
def RPl.wind(p:RPl)(j:Nat):Nat:=jA [p.w0,p.w1,p.w2,p.w3,p.w4] (j%5)
theorem RPl.Ok.wind{p:RPl}(hp:p.Ok)(j:Nat):p.wind j<256:=by obtain⟨_,_,_,_,_,h0,h1,h2,h3,h4⟩:=hp;(have:j%5=0∨j%5=1∨j%5=2∨j%5=3∨j%5=4:=by omega);unfold RPl.wind;rcases this with e|e|e|e|e<;>rw[e]<;>assumption
def vG:List ByteArray:=[⟨#[79,112,101,110]⟩,⟨#[70,108,117,116,101]⟩,⟨#[82,101,101,100]⟩]
theorem b3k(p:RPl)(hp:p.Ok)(i:Nat)(hi:i<10):Fn prog 34 [.agg #[.int .u8 p.tone,.int .u8 p.feet,.int .i8 p.first,.int .u8 p.pipes,.int .u8 p.w0,.int .u8 p.w1,.int .u8 p.w2,.int .u8 p.w3,.int .u8 p.w4],I i] H λr H'=>∃wv,r=.agg #[.string ⟨#[82,UInt8.ofNat (48+i)]⟩,.string (jA vG (p.tone%3)),I (jA mM (p.feet%16)).1,I (jA mM (p.feet%16)).2,I p.first,wv]∧ St prog H H' [⟨wv,1,(List.range (1+p.pipes%25)).map λj=>I (p.wind j)⟩]:=by
 have hwb:=λj=>hp.wind j;obtain⟨h1,h2,h3,h4,h5,_⟩:=hp;refine .aE func34 rfl (by kernel_rfl) (m:=48) rfl λl hn g0 g1=> ?_;have hm:(i:Int).tmod 10=i:=((fq i 10).symm).trans (by rw[Nat.mod_eq_of_lt hi]);have ht:(p.tone:Int).tmod 3=((p.tone%3:Nat):Int):=(fq p.tone 3).symm;have ht3:p.tone%3<3:=fV _ (by decide);have htl:vG.length=3:=rfl;simp only[↓RA,RB,g0];refine(sR H).eNew 9 [(.int .u8 p.tone),(.int .u8 p.feet),(.int .i8 p.first),(.int .u8 p.pipes),(.int .u8 p.w0),(.int .u8 p.w1),(.int .u8 p.w2),(.int .u8 p.w3),(.int .u8 p.w4)] rfl rfl rfl b8t λA1 H1 hS1=> ?_;simp only[RT]at hS1;simp only[↓RA,RZ];refine hS1.eNew 6 [(.string ⟨#[]⟩),(.string ⟨#[]⟩),I 0,I 0,I 0,(.slice none 0 0)] rfl rfl rfl vH λA2 H2 hS2=> ?_;simp only[RT]at hS2;simp only[↓RA];refine Wp.cW lC [13,14,15,16,17,18,0,1,2,3,4,5,6,7,8,9,10,11,12,19,20,21] [6,7,8,9,10,11,12,13,14,15,16,17,18,0,1,2,3,4,5,19,20,21] ⟨true,[],[(11,10),(17,13),(18,13)]⟩ [(4,0),(5,0),(9,0),(15,0),(15,3)] (by kernel_rfl) (by kernel_rfl) (by kernel_rfl) ?_
 simp only[↓RA,RZ,simprocAttr,hn,hS2.ld 0 rfl];refine hS2.cF (a7G p.feet) λH3 hS3=> ?_;simp(disch:=omega) only[↓RA,RZ,simprocAttr,hn,g1,hS3.ld 0 rfl,hm];refine hS3.ab [_] a1I a1M rfl rfl (by simp[Value.cells]) rfl rfl (by decide) (by decide) λw1 H4 hS4=> ?_;simp only[RT]at hS4;simp(disch:=omega) only[↓RA,RB,simprocAttr,hn,pK (hS4.rd 2 rfl) lH.1 lH.2.1 lH.2.2,oG];refine hS4.ab [(.string ⟨#[79,112,101,110]⟩),(.string ⟨#[70,108,117,116,101]⟩),(.string ⟨#[82,101,101,100]⟩)] c4k c5w rfl rfl (by simp[Value.cells]) rfl rfl (by decide) (by decide) λw2 H5 hS5=> ?_;simp only[RT]at hS5;simp(disch:=omega) only[↓RA,RZ,simprocAttr,hn,hS5.ld 0 rfl,ht];have hR:St prog H H5 [⟨ptr A1 0 9,0,_⟩,⟨ptr A2 0 6,0,_⟩,⟨w1,1,_⟩,⟨w2,1,vG.flatMap (one Value.string)⟩]:=hS5;simp(disch:=omega) only[↓RA,RZ,simprocAttr,hn,(hR.ar 3 rfl (uO _)).idx,(hR.ar 3 rfl (uO _)).ld,one,a6d];refine hR.eNew 6 [(.string ⟨#[]⟩),(.string ⟨#[]⟩),I 0,I 0,I 0,(.slice none 0 0)] rfl rfl rfl vH λA3 H6 hS6=> ?_
 simp only[RT]at hS6;simp only[↓RA,RB,simprocAttr,hn];refine hS6.aa 4 rfl [(.string ⟨#[82,UInt8.ofNat (48+(i:Int)).toNat]⟩),(.string (jA vG (p.tone%3:Nat))),I (jA mM (p.feet%16)).1,I (jA mM (p.feet%16)).2,_,(.slice none 0 0)] rfl rfl vH (by simp) λH7 hS7=> ?_;simp only[RT]at hS7;simp(disch:=omega) only[↓RA,RZ,simprocAttr,hn,hS2.ld 0 rfl,hS3.ld 0 rfl];have hN:St prog H H7 [⟨ptr A1 0 9,0,_⟩,⟨ptr A2 0 6,0,_⟩,⟨ptr A3 0 6,0,[.string ⟨#[82,UInt8.ofNat (48+(i:Int)).toNat]⟩,.string (jA vG (p.tone%3)),I (jA mM (p.feet%16)).1,I (jA mM (p.feet%16)).2,I p.first,.slice none 0 0]⟩,⟨.slice none 0 0,1,[]⟩]:=(hS7.nil 0).pick [0,1,4,5] (by decide) rfl;refine Wp.aj (λn l H'=>l.length=48∧get l 2=(ptr A1 0 9)∧get l 4=(ptr A2 0 6)∧get l 5=(ptr A3 0 6)∧∃(j:Nat)(wv:Value),(n+j=1+p.pipes%25)∧get l 6=I j∧St prog H H' [⟨ptr A1 0 9,0,[(.int .u8 p.tone),(.int .u8 p.feet),(.int .i8 p.first),(.int .u8 p.pipes),(.int .u8 p.w0),(.int .u8 p.w1),(.int .u8 p.w2),(.int .u8 p.w3),(.int .u8 p.w4)]⟩,⟨ptr A2 0 6,0,[(.string ⟨#[]⟩),(.string ⟨#[]⟩),I 0,I 0,I 0,(.slice none 0 0)]⟩,⟨ptr A3 0 6,0,[.string ⟨#[82,UInt8.ofNat (48+(i:Int)).toNat]⟩,.string (jA vG (p.tone%3)),I (jA mM (p.feet%16)).1,I (jA mM (p.feet%16)).2,I p.first,wv]⟩,⟨wv,1,(List.range j).map λq=>I (p.wind q)⟩]) (1+p.pipes%25) ?_ ?_
 (·simp only[RB,RC,simprocAttr,hn];exact⟨0,_,by omega,rfl,hN⟩);rintro n l H8⟨hn,g2,g4,g5,j,wv,hj,g6,hS8⟩;have hpp:(p.pipes:Int).tmod 25=((p.pipes%25:Nat):Int):=(fq p.pipes 25).symm;have hj5:(j:Int).tmod 5=((j%5:Nat):Int):=(fq j 5).symm;(have hw:(p.cells)[4+j%5]? =some (.int .u8 (p.wind j)):=by(have:j%5=0∨j%5=1∨j%5=2∨j%5=3∨j%5=4:=by omega);unfold RPl.wind;rcases this with e|e|e|e|e<;>rw[e]<;>rfl);simp only[RPl.cells]at hw;have hwj:=hwb j;simp(disch:=omega) only[↓RA,RZ,simprocAttr,hn,g2,g6,hS8.ld 0 rfl,hpp];refine jB (λq=> ?_) (λq=> ?_);(·simp only[↓RA,RC,q];refine Wp.aP lC [(1,9)] (by kernel_rfl) (by kernel_rfl) ?_;simp(disch:=omega) only[↓RA,RZ,simprocAttr,hn,g2,g5,g6,hS8.ld 2 rfl,hS8.ld 0 rfl,hw,hj5];refine hS8.ab [_] mU rF rfl rfl (by simp[Value.cells]) rfl rfl (by decide) (by decide) λw3 H9 hS9=> ?_;simp only[RT]at hS9;simp only[↓RA,RZ,simprocAttr,hn];refine hS9.ai 3 rfl (hS9.rd 4 rfl) mU (by first|(simp;done)|(simp;omega)) λw4 H10 hS10=> ?_;simp only[RT]at hS10;simp only[↓RA,RZ,simprocAttr,hn,g5];refine hS10.aa 2 rfl [w4] (by rw[(hS10.rd 3 rfl).cells.1]) (by simp[(hS10.rd 3 rfl).cells.2.1]) a6Y (by simp) λH11 hS11=> ?_;simp only[RT]at hS11;simp(disch:=omega) only[↓RA,RZ,simprocAttr,hn,g2,g4,g5,g6,hS9.ld 2 rfl];refine⟨n-1,by omega,j+1,w4,by omega,rfl,?_⟩;rw[fE,ec];exact hS11.pick [0,1,2,3] (by decide) rfl)
 simp only[↓RA,RZ,simprocAttr,hn,g4,g5,hS8.aq 2 rfl,q];refine hS8.aa 1 rfl [(.string ⟨#[82,UInt8.ofNat (48+(i:Int)).toNat]⟩),(.string (jA vG (p.tone%3))),I (jA mM (p.feet%16)).1,I (jA mM (p.feet%16)).2,I p.first,wv] rfl (by simp[OC,(hS8.rd 3 rfl).cells.2.1]) vH (by simp) λH12 hS12=> ?_;simp only[RT]at hS12;simp only[↓RA,RZ,simprocAttr,g4,c7t,hS12.aq 1 rfl,q];(have hjj:j=1+p.pipes%25:=by omega);subst hjj;(have he:(48+(i:Int)).toNat=48+i:=by omega);exact⟨wv,by rw[he],hS12.pick [3] (by decide) rfl⟩
end Go.Ds
namespace Go.Ds
open Go.Proofs
variable {P:Program} {H:Heap} {α:Type} {n:Nat} {cel:α→List Value} {v:Value} {xs:List α} {X Y:Nat→Prop}
theorem RdAt.lt{size:Nat}{cs:List Value}(h:RdAt H v size cs){B:Nat}(hb:blk v=some B):B<H.length:=by rcases h with⟨h1,_⟩|⟨A,i,e,row,ty,rw,lo,ver,n,h,_,_,_,_,_,h7⟩;(·rw[h1]at hb;simp[blk]at hb);·rw[h7]at hb;simp[blk]at hb;exact hb▸jZ h
theorem RdAt.cX{H':Heap}{size:Nat}{cs:List Value}(h:RdAt H v size cs)(hk:∀B,blk v=some B->jO H' B=jO H B):RdAt H' v size cs:=by rcases h with h|⟨A,i,e,row,ty,rw,lo,ver,n,h,h2,h3,h4,h5,h6,h7⟩;(·exact .inl h);·exact .inr ⟨A,i,e,row,ty,rw,lo,ver,n,by rw[hk A (by rw[h7];rfl),h],h2,h3,h4,h5,h6,h7⟩
theorem St.az{B0:Base}{os:List Ob}(hS:St P B0 H os):∃B:Base,B=⟨H,pF os⟩∧St P B H os:=⟨_,rfl,hS.aN⟩
theorem St.ag{B0 B:Base}{H1:Heap}{os os1:List Ob}(hS:St P B0 H os)(hB:B=⟨H,pF os⟩)(h1:St P B H1 os1):St P B0 H1 os1:=by subst hB;exact hS.bq h1
def Slx(n:Nat)(cel:α->List Value)(H:Heap)(X:Nat->Prop)(v:Value)(xs:List α):Prop:=Sl n cel H v xs∧∀B,blk v=some B->X B
def Kept(H:Heap)(X:Nat->Prop)(H':Heap)(Y:Nat->Prop):Prop:=∀B,X B->B<H.length->jO H' B=jO H B∧Y B
theorem Slx.step{H':Heap}(h:Slx n cel H X v xs)(hk:Kept H X H' Y):Slx n cel H' Y v xs:=⟨⟨h.1.rd.cX λB hb=>(hk B (h.2 B hb) (h.1.rd.lt hb)).1,h.1.hc,h.1.pos⟩,λB hb=>(hk B (h.2 B hb) (h.1.rd.lt hb)).2⟩
def nb(vs:List Value):Nat->Prop:=λB=>∀v∈vs,blk v≠some B
theorem a5X(os:List Ob)(B:Nat):nb (os.map (·.v)) B↔¬pF os B:=by unfold nb pF;constructor;(·rintro h⟨o,ho,hb⟩;exact h o.v (eX ho) hb);·intro h v hv hb;obtain⟨o,ho,rfl⟩:=eh.1 hv;exact h ⟨o,ho,hb⟩
theorem St.kept{B:Base}{H':Heap}{os os':List Ob}(hS:St P B H' os')(hB:B=⟨H,pF os⟩):Kept H (nb (os.map (·.v))) H' (nb (os'.map (·.v))):=by subst hB;intro B hX hB;rw[a5X]at hX ⊢;exact⟨hS.old B hB hX,λ⟨o,ho,hb⟩=>by rcases hS.new o ho B hb with h|h;(·have h:H.length<=B:=h;omega);·exact hX h⟩
theorem St.bJ{H0:Base}{H':Heap}{os:List Ob}(hS:St P H0 H os):Kept H' (λB=>H.length<=B) H' (nb (os.map (·.v))):=by intro B hX hB;rw[a5X];exact⟨rfl,λ⟨o,ho,hb⟩=>by have:=(hS.own o ho).lt hb;omega⟩
theorem Kept.trans{H' H'':Heap}{X Y Z:Nat->Prop}(h:Kept H X H' Y)(h':Kept H' Y H'' Z)(hl:H.length<=H'.length):Kept H X H'' Z:=λB hX hB=>by obtain⟨e,hY⟩:=h B hX hB;obtain⟨e',hZ⟩:=h' B hY (ee hB hl);exact⟨e'.trans e,hZ⟩
theorem Slx.any(h:Slx n cel H X v xs):Slx n cel H (λ_=>True) v xs:=⟨h.1,λ_ _=>trivial⟩
theorem St.dc{H0:Base}{os os':List Ob}(hS:St P H0 H os)(i:Nat){m:Nat}(ho:os[i]? =some ⟨v,m+1,xs.flatMap cel⟩)(hc:∀x,(cel x).length=m+1)(idx:List Nat)(hi:i∉idx)(h:idx.map (os[·]?)=os'.map some): Slx (m+1) cel H (nb (os'.map (·.v))) v xs:=by
 refine⟨hS.ar i ho hc,λB hb=> ?_⟩;rw[a5X];rintro⟨o,hmem,hob⟩;(have:some o∈idx.map (os[·]?):=by rw[h];exact eX hmem);obtain⟨j,hj,hj2⟩:=eh.1 this;have hne:i≠j:=λe=>hi (e▸hj);have hpw:=fy.1 hS.sep;obtain⟨hi1,ei⟩:=dP.1 ho;obtain⟨hj1,ej⟩:=dP.1 hj2;rcases gU hne with hh|hh;(·have:=hpw i j hi1 hj1 hh B (by rw[ei];exact hb);rw[ej]at this;exact this hob);·have:=hpw j i hj1 hi1 hh B (by rw[ej];exact hob);rw[ei]at this;exact this hb
theorem St.bO{H0:Heap}{os:List Ob}(hS:St P H0 H os)(i:Nat){m:Nat}(ho:os[i]? =some ⟨v,m+1,xs.flatMap cel⟩)(hc:∀x,(cel x).length=m+1):Slx (m+1) cel H (λB=>H0.length<=B) v xs:=⟨hS.ar i ho hc,λB hb=>by rcases hS.new _ (ek ho) B hb with h|h;(·exact h);·exact h.elim⟩
def Seg.Ix(H:Heap)(X:Nat->Prop)(s:Seg):Prop:=Slx 2 Drw.cells H X s.dv s.draws∧s.draws.length<1000000000
def Stp.Ix(H:Heap)(X:Nat->Prop)(s:Stp):Prop:=Slx 3 Seg.cells H X s.gv s.segs∧(∀g∈s.segs,g.Ix H X)∧s.segs.length<1000000000
def Dvn.Ix(H:Heap)(X:Nat->Prop)(d:Dvn):Prop:=Slx 4 Stp.cells H X d.sv d.stops∧(∀s∈d.stops,s.Ix H X)∧d.stops.length<1000000000
def Rk.Ix(H:Heap)(X:Nat->Prop)(r:Rk):Prop:=Slx 1 (one I) H X r.wv r.wind∧r.wind.length<1000000000
section
variable {H':Heap}
theorem Seg.Ix.step{s:Seg}(h:s.Ix H X)(hk:Kept H X H' Y):s.Ix H' Y:=⟨h.1.step hk,h.2⟩
theorem Stp.Ix.step{s:Stp}(h:s.Ix H X)(hk:Kept H X H' Y):s.Ix H' Y:=⟨h.1.step hk,λg hg=>(h.2.1 g hg).step hk,h.2.2⟩
theorem Dvn.Ix.step{d:Dvn}(h:d.Ix H X)(hk:Kept H X H' Y):d.Ix H' Y:=⟨h.1.step hk,λg hg=>(h.2.1 g hg).step hk,h.2.2⟩
theorem Rk.Ix.step{r:Rk}(h:r.Ix H X)(hk:Kept H X H' Y):r.Ix H' Y:=⟨h.1.step hk,h.2⟩
theorem Seg.Ix.in{s:Seg}(h:s.Ix H X):s.In H:=⟨h.1.1,h.2⟩
theorem Stp.Ix.in{s:Stp}(h:s.Ix H X):s.In H:=⟨h.1.1,λg hg=>(h.2.1 g hg).in,h.2.2⟩
theorem Dvn.Ix.in{d:Dvn}(h:d.Ix H X):d.In H:=⟨h.1.1,λg hg=>(h.2.1 g hg).in,h.2.2⟩
theorem Rk.Ix.in{r:Rk}(h:r.Ix H X):r.In H:=⟨h.1.1,h.2⟩
end
theorem uA{α:Type}(f:α->Value)(l:List α):l.flatMap (one f)=l.map f:=by induction l with| nil=>rfl| cons a l ih=>rw[eJ,ih];rfl
end Go.Ds
namespace Go.Ds
open Go.Proofs
theorem a9s(m:Nat)(n s:Int)(h0:0<=n)(h1:n<m)(h2: -127<=s)(h3:s<=127):lP m [⟨n,s⟩]=0:=by rw[lP,if_neg (by simp)];refine mF _ _ λj hj=> ?_;(have hj0:j=0:=by simpa using hj);subst hj0;have e:jA ([⟨n,s⟩]:List Drw) 0=⟨n,s⟩:=rfl;unfold lI;rw[e,if_neg (by simp only;omega),if_neg (by simp only;omega),if_neg (by simp)]
theorem c2R(m:Nat)(n s t:Int)(h0:0<=n)(h1:n<m)(h2: -127<=s)(h3:s<=127)(h4: -127<=t)(h5:t<=127)(hne:s≠t):lP m [⟨n,s⟩,⟨n,t⟩]=0:=by rw[lP,if_neg (by simp)];refine mF _ _ λj hj=> ?_;(have hj0:j=0∨j=1:=by(have:j<2:=by simpa using hj);omega);rcases hj0 with rfl|rfl;(·have e:jA ([⟨n,s⟩,⟨n,t⟩]:List Drw) 0=⟨n,s⟩:=rfl;unfold lI;rw[e,if_neg (by simp only;omega),if_neg (by simp only;omega),if_neg (by simp)]);·have e:jA ([⟨n,s⟩,⟨n,t⟩]:List Drw) 1=⟨n,t⟩:=rfl;unfold lI;rw[e,if_neg (by simp only;omega),if_neg (by simp only;omega),if_neg (by simp[fT hne])]
theorem a8Q(lo hi a b:Int)(m:Nat)(dv:Value)(ds:List Drw)(h1:lo<=a)(h2:a<=b)(h3:b<=hi)(hd:lP m ds=0):mX (lT lo hi m [⟨a,b,dv,ds⟩]) 1=0:=by refine mF _ _ λj hj=> ?_;(have hj0:j=0:=by omega);subst hj0;have e:jA ([⟨a,b,dv,ds⟩]:List Seg) 0=⟨a,b,dv,ds⟩:=rfl;unfold lT;rw[e,if_neg (by simp only;omega),if_neg (by simp only;omega)];exact hd
theorem c2e(lo hi c:Int)(m:Nat)(dv dv':Value)(ds ds':List Drw)(h1:lo<c)(h2:c<=hi)(hd:lP m ds=0)(hd':lP m ds'=0):mX (lT lo hi m [⟨lo,c-1,dv,ds⟩,⟨c,hi,dv',ds'⟩]) 2=0:=by refine mF _ _ λj hj=> ?_;have e0:jA ([⟨lo,c-1,dv,ds⟩,⟨c,hi,dv',ds'⟩]:List Seg) 0=⟨lo,c-1,dv,ds⟩:=rfl;have e1:jA ([⟨lo,c-1,dv,ds⟩,⟨c,hi,dv',ds'⟩]:List Seg) 1=⟨c,hi,dv',ds'⟩:=rfl;(have hj0:j=0∨j=1:=by omega);rcases hj0 with rfl|rfl;(·unfold lT;rw[e0,if_neg (by simp only;omega),if_neg (by simp only;omega)];exact hd);·unfold lT;rw[e1,show(1:Nat)-1=0 from rfl,e0,if_neg (by simp only;omega),if_neg (by simp only;omega)];exact hd'
def nm(c:UInt8)(i:Nat):ByteArray:=⟨#[c,UInt8.ofNat (48+i)]⟩
theorem a6b{c:UInt8}{i j:Nat}(hi:i<10)(hj:j<10)(h:nm c i=nm c j):i=j:=by unfold nm at h;have h2:(#[c,UInt8.ofNat (48+i)]:Array UInt8)=#[c,UInt8.ofNat (48+j)]:=congrArg ByteArray.data h;(have h3:UInt8.ofNat (48+i)=UInt8.ofNat (48+j):=by simpa using h2);have h4:=congrArg UInt8.toNat h3;simp only[fL]at h4;omega
theorem a2l{c:UInt8}(hc:c=82∨c=68∨c=83∨c=67){i:Nat}(hi:i<10):lS (nm c i)=true:=by(have h:i=0∨i=1∨i=2∨i=3∨i=4∨i=5∨i=6∨i=7∨i=8∨i=9:=by omega);rcases hc with rfl|rfl|rfl|rfl<;>rcases h with rfl|rfl|rfl|rfl|rfl|rfl|rfl|rfl|rfl|rfl<;>decide
structure StpOk(m:Nat)(lo hi:Int)(i:Nat)(s:Stp):Prop where
 name:s.name=nm 83 i
 feet:(s.num,s.den)∈lG
 pos:0<s.segs.length
 len:s.segs.length≤2
 segs:mX (lT lo hi m s.segs) s.segs.length=0
theorem b5V{p:Int×Int}(h:p∈lG):oX p.1 p.2=0:=by(have:lG.all (λp=>decide (oX p.1 p.2=0))=true:=by decide);exact of_decide_eq_true (dS.1 this p h)
theorem b6j{p:Int×Int}(h:p∈mM):oX p.1 p.2=0:=by(have:mM.all (λp=>decide (oX p.1 p.2=0))=true:=by decide);exact of_decide_eq_true (dS.1 this p h)
theorem StpOk.stopE{rs:List Rk}{lo hi:Int}{i:Nat}{s:Stp}(h:StpOk rs.length lo hi i s)(hi10:i<10)(hp:uK rs lo hi=0):stopE rs lo hi s=0:=by unfold Go.Ds.stopE;rw[if_neg (by rw[hp];simp),if_neg (by rw[h.name,a2l (by simp) hi10];simp),if_neg (by rw[b5V h.feet];simp),if_neg (by have:=h.pos;omega),if_neg (by have:=h.len;omega)];exact h.segs
structure RkOk(i:Nat)(r:Rk):Prop where
 name:r.name=nm 82 i
 tone:r.tone∈vG
 feet:(r.num,r.den)∈mM
 first: -128≤r.first∧r.first<128
 pos:0<r.wind.length
 len:r.wind.length≤25
 wind:∀x∈r.wind,0≤x∧x<256
theorem b6e{s:ByteArray}(h:s∈vG):lS s=true:=by(have:vG.all (λs=>lS s)=true:=by decide);exact dS.1 this s h
theorem RkOk.rankE{i:Nat}{r:Rk}(h:RkOk i r)(hi:i<10):rankE r=0:=by have hf:=h.first;have hp:=h.pos;have hl:=h.len;(have hw:a1h r.wind=0:=by unfold a1h;rw[if_neg];intro hh;rw[gR]at hh;obtain⟨x,hx,hp⟩:=hh;have:=h.wind x hx;simp only[fo,decide_eq_true_eq]at hp;omega);unfold Go.Ds.rankE;rw[if_neg (by rw[h.name,a2l (by simp) hi,b6e h.tone];simp),if_neg (by rw[b6j h.feet];simp),if_neg (by omega),if_neg (by omega),if_neg (by omega),hw]
theorem a3b{lo hi:Int}(h0:0<=lo)(h1:lo<=hi)(h2:hi<=127):tY lo hi=0:=by unfold tY;rw[if_neg (by omega),if_neg (by omega)]
theorem c2A{rs:List Rk}{lo hi:Int}(hl:rs.length<=3)(hr:∀j,j<rs.length->RkOk j (jA rs j))(h0:0<=lo)(h1:lo<=hi)(h2:hi<=127):uK rs lo hi=0:=by have e:=mF (λj=>Go.Ds.rankE (jA rs j)) rs.length λj hj=>(hr j hj).rankE (by omega);unfold uK;rw[if_neg (by omega),if_neg (by rw[e];simp)];exact a3b h0 h1 h2
structure DvOk(m i:Nat)(d:Dvn):Prop where
 name:d.name=nm 68 i
 lo:36≤d.lo
 le:d.lo≤d.hi
 hi:d.hi≤60
 wide:d.hi≤d.lo+8
 len:d.stops.length≤3
 stops:∀k,k<d.stops.length→StpOk m d.lo d.hi k (jA d.stops k)
structure CpOk(n i:Nat)(c:Cpl):Prop where
 name:c.name=nm 67 i
 src:0≤c.src∧c.src<n
 dst:0≤c.dst∧c.dst<n
 shift: -24≤c.shift∧c.shift≤24
 ne:¬(c.src=c.dst∧c.shift=0)
def b5c:ByteArray:=⟨#[79,114,103,97,110]⟩
structure OrgOk(o:Org):Prop where
 name:o.name=b5c
 rpos:0<o.ranks.length
 rlen:o.ranks.length≤3
 ranks:∀j,j<o.ranks.length→RkOk j (jA o.ranks j)
 dpos:0<o.dvs.length
 dlen:o.dvs.length≤3
 dvs:∀j,j<o.dvs.length→DvOk o.ranks.length j (jA o.dvs j)
 clen:o.cpls.length≤3
 cpls:∀j,j<o.cpls.length→CpOk o.dvs.length j (jA o.cpls j)
theorem b4n:lS b5c=true:=by decide
theorem DvOk.divE{rs:List Rk}{i:Nat}{d:Dvn}(h:DvOk rs.length i d)(hl:rs.length<=3)(hr:∀j,j<rs.length->RkOk j (jA rs j)):divE rs d=0:=by have h1:=h.lo;have h2:=h.le;have h3:=h.hi;have h4:=h.len;unfold Go.Ds.divE;rw[if_neg (by rw[a3b (by omega) h2 (by omega)];simp),if_neg (by omega)];refine mF _ _ λj hj=> ?_;have hs:=h.stops j hj;unfold pR;rw[if_neg (by rw[hs.stopE (by omega) (c2A hl hr (by omega) h2 (by omega))];simp),if_neg];rintro⟨q,hq,e⟩;rw[hs.name,(h.stops q (by omega)).name]at e;have:=a6b (by omega) (by omega) e;omega
theorem OrgOk.organE{o:Org}(h:OrgOk o):organE o=0:=by
 have h1:=h.rpos;have h2:=h.rlen;have h3:=h.dpos;have h4:=h.dlen;have h5:=h.clen;(have e1:mX (pH o.ranks) o.ranks.length=0:=mF _ _ λj hj=>by unfold pH;rw[if_neg (by rw[(h.ranks j hj).rankE (by omega)];simp),if_neg];rintro⟨q,hq,e⟩;rw[(h.ranks j hj).name,(h.ranks q (by omega)).name]at e;have:=a6b (by omega) (by omega) e;omega);(have e2:mX (uD o.ranks o.dvs) o.dvs.length=0:=mF _ _ λj hj=>by unfold uD;rw[if_neg (by rw[(h.dvs j hj).name,a2l (by simp) (by omega)];simp),if_neg];(·exact(h.dvs j hj).divE h2 h.ranks);rintro⟨q,hq,e⟩;rw[(h.dvs j hj).name,(h.dvs q (by omega)).name]at e;have:=a6b (by omega) (by omega) e;omega);(have e3:tR (kps o.dvs) o.cpls=0:=by(have hk:(kps o.dvs).length=o.dvs.length:=by simp[kps]);unfold tR;rw[if_neg (by omega),if_neg];(·refine mF _ _ λj hj=> ?_;have hc:=h.cpls j hj;have c1:=hc.src;have c2:=hc.dst;have c3:=hc.shift;unfold nZ;simp only;rw[if_neg (by rw[hc.name,a2l (by simp) (by omega)];simp),if_neg,if_neg (by rw[hk];omega),if_neg (by omega),if_neg hc.ne];rintro⟨q,hq,e⟩;rw[hc.name,(h.cpls q (by omega)).name]at e;have:=a6b (by omega) (by omega) e;omega);·rintro⟨k,hk,hne⟩;unfold kps at hk;obtain⟨d,hd,rfl⟩:=eh.1 hk;obtain⟨j,hj,rfl⟩:=ey.1 hd;have hd:=h.dvs j hj;rw[kE o.dvs j hj]at hd;have h1:=hd.lo;have h2:=hd.le;have h3:=hd.hi;exact hne (a3b (by omega) h2 (by omega)))
 unfold Go.Ds.organE;rw[if_neg (by rw[h.name,b4n];simp),if_neg (by omega),if_neg (by rw[e1];simp),if_neg (by omega),if_neg (by omega),if_neg (by rw[e2];simp)];exact e3
def kN(x:Int×Int):List Value:=[I x.1,I x.2]
def pr(l:List (Int×Int)):List Value:=l.flatMap kN
theorem a2u(x:Int×Int):(kN x).length=2:=rfl
theorem kD(l:List (Int×Int)):(pr l).length=l.length*2:=jE a2u l
def le2(x y:Int×Int):Bool:=decide (x.1<y.1)||(decide (x.1=y.1)&&decide (x.2<=y.2))
theorem tD(x y:Int×Int):le2 x y=true↔x.1<y.1∨(x.1=y.1∧x.2<=y.2):=by unfold le2;simp only[fo,dF,decide_eq_true_eq]
def srt(es:List (Int×Int)):List (Int×Int):=es.mergeSort le2
theorem sL(es:List (Int×Int)):(srt es).Perm es:=List.mergeSort_perm _ _
theorem a2v(es:List (Int×Int)):(srt es).length=es.length:=(sL es).length_eq
theorem a9K(es:List (Int×Int)):(srt es).Pairwise λa b=>le2 a b=true:=by unfold srt;refine List.pairwise_mergeSort ?_ ?_ _;(·intro a b c h1 h2;rw[tD]at*;omega);·intro a b;rw[fo,tD,tD];omega
def cf2(x y:Int×Int):Int:=if x.1<y.1 then -1 else if y.1<x.1 then 1 else if x.2<y.2 then -1 else if y.2<x.2 then 1 else 0
def ddN{α:Type}[Inhabited α][DecidableEq α](es:List α)(m:Nat):List α:=((List.range m).filter λi=>decide (i=0∨jA es i≠jA es (i-1))).map λi=>jA es i
def dd{α:Type}[Inhabited α][DecidableEq α](es:List α):List α:=ddN es es.length
section
variable {α:Type} [Inhabited α] [DecidableEq α]
theorem zX(es:List α)(m:Nat):ddN es (m+1)=ddN es m++(if m=0∨jA es m≠jA es (m-1)then[jA es m]else[]):=by unfold ddN;rw[fE,fx,ec];congr 1;by_cases h:m=0∨jA es m≠jA es (m-1);(·rw[if_pos h];simp only[jc,List.filter_nil,decide_eq_true h,if_true,fi,List.map_nil]);·rw[if_neg h];simp only[jc,List.filter_nil,decide_eq_false h,eu,if_false,List.map_nil]
theorem c2x(es:List α)(m:Nat):(ddN es m).length<=m:=by unfold ddN;rw[fS];refine dW (ed _ _) ?_;simp
theorem xX(es:List α)(m:Nat)(h:m<es.length):es.take (m+1)=es.take m++[jA es m]:=by rw[kE es m h,il h]
theorem a2i(es:List α):∀m,m<=es.length->(∀j,0<j->j<m->jA es j≠jA es (j-1))->ddN es m=es.take m| 0,_,_=>by simp[ddN]| m+1,hm,h=>by have ih:=a2i es m (by omega) λj h1 h2=>h j h1 (by omega);rw[zX,ih,xX es m (by omega),if_pos];by_cases h0:m=0;(·exact .inl h0);·exact .inr (h m (by omega) (by omega))
end
theorem b5M{v:Value}{n lo k b:Nat}(h:blk (mC v n lo k)=some b):blk v=some b:=by unfold mC at h;split at h<;>exact h
theorem rW(a b:List (Int×Int)):pr (a++b)=pr a++pr b:=dQ
structure Reg where
 stops:List Nat
 cpl:Nat
 off:Nat
 deriving Inhabited,DecidableEq
def u64(n:Nat):Value:=.int .u64 n
def Reg.cells(r:Reg)(sv:Value):List Value:=[sv,u64 r.cpl,u64 r.off]
def Reg.Ok(r:Reg):Prop:=r.stops.length<1000000000∧(∀x∈r.stops,x<18446744073709551616)∧r.cpl<18446744073709551616∧r.off<18446744073709551616
def Reg.In(H:Heap)(r:Reg)(sv:Value):Prop:=Sl 1 (one u64) H sv r.stops∧r.Ok
theorem Reg.In.al{P:Program}{H H0:Heap}{os:List Ob}{r:Reg}{sv:Value}(h:r.In H0 sv)(hS:St P H0 H os):r.In H sv:=⟨hS.sl h.1,h.2⟩
abbrev Ct:=Int×Int
abbrev sQ(n:Int):Int:=IntKind.wrap .i64 n
def b9b(o:Org)(c:Ct):Bool:=decide (0<=c.1)&&decide (c.1<o.dvs.length)&&decide ((jA o.dvs c.1.toNat).lo<=c.2)&&decide (c.2<=(jA o.dvs c.1.toNat).hi)
def Que(o:Org)(q:List Ct):Prop:=q.Nodup∧∀c∈q,b9b o c=true
theorem Que.nil(o:Org):Que o []:=⟨.nil,by simp⟩
theorem a8o:∀(N:Nat)(l:List Nat),l.Nodup->(∀i∈l,i<N)->l.length<=N| 0,l,hn,h=>by(cases l with| nil=>simp| cons a l=>exact absurd (h a (by simp)) (eL _))| N+1,l,hn,h=>by(have h1:(l.erase N).length<=N:=by refine a8o N _ (hn.erase N) λi hi=> ?_;have h2:=(List.Nodup.mem_erase_iff hn).1 hi;have:=h i h2.2;omega);rw[List.length_erase]at h1;split at h1<;>omega
theorem oK{f:Nat->Int}{n:Nat}(h:mX f n=0):∀j,j<n->f j=0:=by intro j hj;unfold mX at h;cases hf:(List.range n).find? (λj=>decide (f j≠0))with| some i=>rw[hf]at h;have:=iP hf;simp only[decide_eq_true_eq]at this;exact absurd h this| none=>rw[iw]at hf;have:=hf j (ez.2 hj);simpa using this
structure Org.Fine(o:Org):Prop where
 dpos:0<o.dvs.length
 dlen:o.dvs.length≤8
 rlen:o.ranks.length≤60
 keys:∀j,j<o.dvs.length→0≤(jA o.dvs j).lo∧(jA o.dvs j).lo≤(jA o.dvs j).hi∧(jA o.dvs j).hi≤127
 stops:∀j,j<o.dvs.length→(jA o.dvs j).stops.length≤60
 clen:o.cpls.length≤40
 draws:∀j,j<o.dvs.length→∀s∈(jA o.dvs j).stops,∀g∈s.segs,g.draws.length≤8
theorem Org.aZ{o:Org}(h:organE o=0):o.Fine:=by
 unfold organE at h;split at h;(·omega);split at h;(·omega);rename_i _ h2;split at h;(·rename_i hh;exact absurd h hh);split at h;(·omega);rename_i h4;split at h;(·omega);rename_i h5;split at h;(·rename_i hh;exact absurd h hh);rename_i h6;have h6:=eQ.1 h6;(have hd:∀j,j<o.dvs.length->(0<=(jA o.dvs j).lo∧(jA o.dvs j).lo<=(jA o.dvs j).hi∧(jA o.dvs j).hi<=127)∧(jA o.dvs j).stops.length<=60∧∀s∈(jA o.dvs j).stops,∀g∈s.segs,g.draws.length<=8:=by intro j hj;have e:=oK h6 j hj;unfold uD at e;split at e;(·omega);split at e;(·omega);unfold divE at e;split at e;(·rename_i hh;exact absurd e hh);rename_i hc;have hc:=eQ.1 hc;split at e;(·omega);unfold tY at hc;split at hc;(·omega);split at hc;(·omega);refine⟨by omega,by omega,λs hs g hg=> ?_⟩;obtain⟨k,hk,rfl⟩:=ey.1 hs;obtain⟨i,hi,rfl⟩:=ey.1 hg;have e2:=oK e k hk;unfold pR at e2;rw[kE _ k hk]at e2;split at e2;(·rename_i hh;exact absurd e2 hh);rename_i e3;have e3:=eQ.1 e3;unfold stopE at e3;split at e3;(·rename_i hh;exact absurd e3 hh);split at e3;(·omega);split at e3;(·rename_i hh;exact absurd e3 hh);split at e3;(·omega);split at e3;(·omega);have e4:=oK e3 i hi;unfold lT at e4;rw[kE _ i hi]at e4;split at e4;(·omega);split at e4;(·omega);unfold lP at e4;split at e4;(·omega);omega)
 refine⟨by omega,by omega,by omega,λj hj=>(hd j hj).1,λj hj=>(hd j hj).2.1,?_,λj hj=>(hd j hj).2.2⟩;unfold tR at h;split at h<;>omega
theorem b8K(o:Org)(c:Ct):b9b o c=true↔0<=c.1∧c.1<o.dvs.length∧(jA o.dvs c.1.toNat).lo<=c.2∧c.2<=(jA o.dvs c.1.toNat).hi:=by unfold b9b;simp only[dF,decide_eq_true_eq,and_assoc]
theorem a3D{o:Org}(ho:o.Fine){c:Ct}(h:b9b o c=true):0<=c.1∧c.1<8∧0<=c.2∧c.2<=127:=by have h:=(b8K o c).1 h;have hk:=ho.keys c.1.toNat (by omega);have:=ho.dlen;omega
theorem Que.len{o:Org}{q:List Ct}(h:Que o q)(ho:o.Fine):q.length<=1024:=by have h1:=a8o 1024 (q.map λc=>c.1.toNat*128+c.2.toNat) ?_ ?_;(·simpa using h1);(·unfold List.Nodup;rw[List.pairwise_map];refine List.Pairwise.imp_of_mem (λ{a b}ha hb hne e=>hne ?_) h.1;have h1:=a3D ho (h.2 a ha);have h2:=a3D ho (h.2 b hb);apply Prod.ext<;>omega);·intro i hi;obtain⟨c,hc,rfl⟩:=eh.1 hi;have h1:=a3D ho (h.2 c hc);omega
def lX(rs:List Rk)(d:Drw)(key:Int):Ct:=if d.rank<0∨rs.length<=d.rank then(0,0)else(d.rank,sQ (sQ (key+d.shift)-(jA rs d.rank.toNat).first))
def nA(rs:List Rk)(d:Drw)(key:Int):Bool:= !decide (d.rank<0∨rs.length<=d.rank)&&decide (0<=(lX rs d key).2)&&decide ((lX rs d key).2<(jA rs d.rank.toNat).wind.length)
def rE(s:Stp)(key:Int)(j:Nat):Bool:=decide ((jA s.segs j).lo<=key)&&decide (key<=(jA s.segs j).hi)
def segK(s:Stp)(key:Int):List Drw:=if oZ (rE s key) s.segs.length<0 then[]else(jA s.segs (oZ (rE s key) s.segs.length).toNat).draws
def lR(rs:List Rk)(s:Stp)(key:Int):List Ct:=dd (srt (((segK s key).filter λd=>nA rs d key).map λd=>lX rs d key))
end Go.Ds
namespace Go.Ds
open Go.Proofs
variable {H:Heap}
theorem b6V(n:Nat)(h:n<18446744073709551616):(BitVec.ofInt (IntKind.bits .u64) (n:Int)).toNat=n:=by show(BitVec.ofInt 64 (n:Int)).toNat=n;rw[BitVec.ofInt_natCast,BitVec.toNat_ofNat];exact Nat.mod_eq_of_lt (by simpa using h)
end Go.Ds
namespace Go.Ds
open Go.Proofs Go.Proofs.Tryz
variable {H:Heap}
theorem RdAt.sub_self{v:Value}{size n:Nat}{cs:List Value}(h:RdAt H v (size+1) cs)(hn:cs.length=n*(size+1)):mC v (size+1) 0 n=v:=by rcases h with⟨rfl,_⟩|⟨A,i,e,row,ty,rw,lo,ver,m,_,_,_,_,_,h6,rfl⟩;(·rfl);·have:m=n:=gx (gK size) (h6.symm.trans hn);subst this;simp[mC]
theorem b5d{v:Value}{xs:List (Int×Int)}{rest:List Value}(h:RdAt H v 2 (pr xs++rest)):RdAt H (mC v 2 0 xs.length) 2 (pr xs):=by by_cases h0:pr xs++rest=[];(·(have hx:xs.length=0:=by have:=congrArg List.length h0;rw[dU,kD,eD]at this;omega);have e:=RdAt.sub_self (size:=1) (n:=0) h (by rw[h0];rfl);obtain rfl:=eR.1 hx;show RdAt H (mC v 2 0 0) 2 [];rw[show mC v 2 0 0=v from e];rwa [h0]at h);·have h5:=RdAt.sub h 0 xs.length (by rw[dU,kD];omega) h0;rw[Nat.zero_mul,iH,show xs.length*2=(pr xs).length from(kD xs).symm,List.take_left' rfl]at h5;exact h5
theorem c6o:b5Q prog 35=some (1+1):=by kernel_rfl
theorem a6n{B:Base}{v:Value}{es:List (Int×Int)}(hS:St prog B H [⟨v,2,pr es⟩])(hl:es.length<100000000000): Fn prog 91 [v] H λr H'=>∃rest:List Value,r=mC v 2 0 (dd es).length∧St prog B H' [⟨v,2,pr (dd es)++rest⟩]:=by
 refine .aI func91 rfl (by kernel_rfl) (m:=61) rfl λl hn g0=> ?_;simp only[↓RA,RZ,simprocAttr,hn,g0,(hS.ar 0 rfl (λ_=>rfl)).len];refine jB (λh=> ?_) (λh=> ?_);(·(have hd:=a2i es es.length (dH _) λj h1 h2=>by omega);rw[fH]at hd;simp only[↓RA,RZ,simprocAttr,hn,g0,c3D,h];exact⟨[],by unfold dd;rw[hd];exact(RdAt.sub_self (size:=1) (hS.rd 0 rfl) (kD es)).symm,by unfold dd;rw[hd,dY];exact hS⟩);simp only[↓RA,RZ,h];refine Wp.aj (λn l H'=>l.length=61∧get l 0=v∧∃(k:Nat),(0<k∧n+k=es.length∧∀j,0<j->j<k->jA es j≠jA es (j-1))∧get l 3=I k∧St prog B H' [⟨v,2,pr es⟩]) (es.length-1) ?_ ?_;(·simp only[RB,RC,simprocAttr,hn,g0];exact⟨1,⟨by omega,by omega,λj h1 h2=>by omega⟩,rfl,hS⟩);rintro n l H1⟨hn,g0,k,⟨hk0,hk,hdis⟩,g3,hS1⟩;simp only[↓RA,RZ,simprocAttr,hn,g0,g3,(hS1.ar 0 rfl (λ_=>rfl)).len];refine jB (λh2=> ?_) (λh2=> ?_);(·(have hkl:k<es.length:=by omega);(have hpre:(k:Int)-1=((k-1:Nat):Int):=by omega);simp only[↓RA,RC,h2];refine Wp.drw lC (by kernel_rfl) ?_;simp(disch:=omega) only[↓RA,RZ,simprocAttr,hn,g0,g3,(hS1.ar 0 rfl (λ_=>rfl)).idx,(hS1.ar 0 rfl (λ_=>rfl)).aq,kN,hpre];refine jB (λh3=> ?_) (λh3=> ?_);(·have h3:jA es k=jA es (k-1):=Prod.ext h3.1 h3.2;have hlen:(pr es).length=es.length*(1+1):=kD es;(have hpos:0<es.length:=by omega);have hdk:=a2i es k (by omega) hdis;(have hdk1:ddN es (k+1)=es.take k:=by rw[zX,hdk,if_neg (by rintro(h4|h4);omega;exact h4 h3),dY]);(have hrow:St prog B H1 [⟨v,2,pr (ddN es (k+1)++es.drop k)⟩]:=by rw[hdk1,List.take_append_drop];exact hS1);(have hdl:(ddN es (k+1)).length=k:=by rw[hdk1,fA];omega);simp(disch:=omega) only[↓RA,RZ,simprocAttr,hn,g0,g3,(hS1.ar 0 rfl (λ_=>rfl)).ba,h3];refine Wp.aj (λn l H'=>l.length=61∧get l 0=v∧∃k2:Nat,(0<k2∧n+k+k2=es.length∧(ddN es (k+k2)).length<k+k2)∧get l 3=I (ddN es (k+k2)).length∧get l 4=mC v 2 k (es.length-k)∧get l 5=I k2∧St prog B H' [⟨v,2,pr (ddN es (k+k2)++es.drop (ddN es (k+k2)).length)⟩]) (es.length-k-1) ?_ ?_;(·simp only[RB,RC,simprocAttr,hn,g0,g3];refine⟨1,⟨by omega,by omega,by omega⟩,by rw[hdl],by congr 1;omega,rfl,?_⟩;rw[hdl];exact hrow);clear hrow hdk hdk1 hdl hdis;rintro n l H9⟨hn,g0,k2,⟨hk20,hk2,hlt⟩,g3,g4,g5,hS9⟩;have hsucc:=zX es (k+k2);generalize hD:ddN es (k+k2)=D at g3 hlt hS9 hsucc;(have hrl:(D++es.drop D.length).length=es.length:=by rw[dU,gT];omega);have hv:Sl 2 kN H9 v (D++es.drop D.length):=hS9.ar 0 rfl a2u;(have hat:∀j,D.length<=j->jA (D++es.drop D.length) j=jA es j:=λj hj=>by unfold jA;rw[dL,eZ hj,eo,dL];congr 2;omega);have hsub:Sl 2 kN H9 (mC v 2 k ((D++es.drop D.length).length-k)) ((D++es.drop D.length).drop k):=hv.cq k (by omega) (by omega);rw[hrl]at hsub;(have hsl:((D++es.drop D.length).drop k).length=es.length-k:=by rw[gT,hrl]);(have hsat:∀j,D.length<=k+j->jA ((D++es.drop D.length).drop k) j=jA es (k+j):=λj hj=>by rw[<-hat (k+j) hj];unfold jA;rw[dL,eo,dL]);(have hbd:((es.length-k:Nat):Int)=(es.length:Int)-k:=by omega);simp only[↓RA,RZ,simprocAttr,hn,g4,g5,hsub.len,hsl,hbd];refine jB (λh4=> ?_) (λh4=> ?_);(·(have hj:k+k2<es.length:=by omega);(have hpre2:(k2:Int)-1=((k2-1:Nat):Int):=by omega);have e1:=hsat k2 (by omega);have e2:=hsat (k2-1) (by omega);rw[show k+(k2-1)=k+k2-1 from by omega]at e2;simp only[↓RA,RC,h4];refine Wp.drw lC (by kernel_rfl) ?_;simp(disch:=omega) only[↓RA,RZ,simprocAttr,hn,g4,g5,hsub.idx,hsub.aq,kN,hpre2,e1,e2];refine jB (λh5=> ?_) (λh5=> ?_);(·have hne:jA es (k+k2)≠jA es (k+k2-1):=λe=>h5 (by rw[e];exact⟨rfl,rfl⟩);rw[if_pos (.inr hne)]at hsucc;simp(disch:=omega) only[↓RA,RZ,simprocAttr,hn,g0,g3,g4,g5,hsub.idx,hsub.aq,kN,e1,h5];simp(disch:=omega) only[↓RA,RZ,simprocAttr,hn,(hS9.ar 0 rfl (λ_=>rfl)).idx,h5];refine hS9.aT 0 rfl [I (jA es (k+k2)).1,I (jA es (k+k2)).2] rfl rfl qE (by simp) (by rw[kD,hrl];simp;omega) λH2 hS2=> ?_;simp only[RT]at hS2;simp(disch:=omega) only[↓RA,RZ,simprocAttr,hn,g0,g3,g4,g5,h5];refine⟨n-1,by omega,k2+1,?_⟩;rw[show k+(k2+1)=k+k2+1 from by omega,hsucc];refine⟨⟨by omega,by omega,by simp;omega⟩,by simp,by simp,?_⟩;(have e3:pr (D++[jA es (k+k2)]++es.drop (D++[jA es (k+k2)]).length)=((pr (D++es.drop D.length)).set (D.length*2) (I (jA es (k+k2)).1)).set (D.length*2+1) (I (jA es (k+k2)).2):=by(have hx:es.drop D.length=jA es D.length::es.drop (D.length+1):=by rw[kE es _ (by omega)];exact fz (by omega));rw[hx,dU,gD,rW,rW,rW];have e4:pr (jA es D.length::es.drop (D.length+1))=I (jA es D.length).1::I (jA es D.length).2::pr (es.drop (D.length+1)):=rfl;have e5:pr [jA es (k+k2)]=[I (jA es (k+k2)).1,I (jA es (k+k2)).2]:=rfl;have e6:(pr D).length=D.length*2:=kD D;rw[e4,e5,gC _ _ (by omega),gC _ _ (by omega),e6,Nat.sub_self,iU];simp);rw[e3];exact hS2);(have heq:jA es (k+k2)=jA es (k+k2-1):=by have h6:=eQ.1 h5;exact Prod.ext h6.1 h6.2);rw[if_neg (by rintro(h6|h6);omega;exact h6 heq),dY]at hsucc;simp(disch:=omega) only[↓RA,RZ,simprocAttr,hn,g0,g3,g4,g5,h5];refine⟨n-1,by omega,k2+1,?_⟩;rw[show k+(k2+1)=k+k2+1 from by omega,hsucc];exact⟨⟨by omega,by omega,by omega⟩,rfl,by simp,hS9⟩);(have hke:k+k2=es.length:=by omega);rw[hke]at hD;(have hcl:(pr (D++es.drop D.length)).length=es.length*(1+1):=by rw[kD,hrl]);(have hDn:D.length<=es.length:=by omega);simp(disch:=omega) only[↓RA,RZ,simprocAttr,hn,g0,g3,(hS9.ar 0 rfl (λ_=>rfl)).ba,h4];rw[show(((D++es.drop D.length).length:Int)-D.length).toNat=es.length-D.length from by rw[hrl];omega];refine hS9.cJ (size:=1) 0 rfl D.length (es.length-D.length) (by rw[hcl];omega) (by intro e;(have h2:(pr (D++es.drop D.length)).length=0:=by rw[e];rfl);rw[kD,hrl]at h2;omega) c6o λz H3 hz hSc=> ?_;simp only[RT]at hSc;(have e3:jW (pr (D++es.drop D.length)) (D.length*2) z=pr D++z:=by rw[rW,show D.length*2=(pr D).length from(kD D).symm,pT z (pr D) (pr (es.drop D.length)) (by rw[kD,gT];omega)];rw[List.drop_of_length_le (by rw[kD,gT];omega),dY]);rw[show D.length*(1+1)=D.length*2 from rfl,e3]at hSc;have hw:RdAt H3 v (1+1) (pr D++z):=hSc.rd 0 rfl;(have hwl:(pr D++z).length=es.length*(1+1):=by rw[dU,kD,hz];omega);simp(disch:=omega) only[↓RA,RZ,simprocAttr,hn,g0,g3,hw.aQ hwl,c3D,h4];exact⟨z,by unfold dd;rw[hD],by unfold dd;rw[hD];exact hSc⟩);have hne:jA es k≠jA es (k-1):=λe=>h3 (by rw[e];exact⟨rfl,rfl⟩);simp(disch:=omega) only[↓RA,RZ,simprocAttr,hn,g0,g3,h3];refine⟨n-1,by omega,k+1,⟨by omega,by omega,λj h4 h5=> ?_⟩,by simp,hS1⟩;by_cases e:j=k;(·rw[e];exact hne);·exact hdis j h4 (by omega))
 (have hke:k=es.length:=by omega);have hd:=a2i es es.length (dH _) (hke▸hdis);rw[fH]at hd;simp only[↓RA,RZ,simprocAttr,hn,g0,c3D,h2];exact⟨[],by unfold dd;rw[hd];exact(RdAt.sub_self (size:=1) (hS.rd 0 rfl) (kD es)).symm,by unfold dd;rw[hd,dY];exact hS1⟩
theorem a6X{B:Base}{v:Value}{es:List (Int×Int)}(hS:St prog B H [⟨v,2,pr es⟩])(hl:es.length<100000000000): Fn prog 91 [v] H λr H'=>∃rest:List Value,(∀b,blk r=some b->blk v=some b)∧(∀H2,RdAt H2 v 2 (pr (dd es)++rest)->RdAt H2 r 2 (pr (dd es)))∧St prog B H' [⟨v,2,pr (dd es)++rest⟩]:=(a6n hS hl).mono λ_ _⟨rest,e,h⟩=>⟨rest,λ_ h=>b5M (e▸h),λ_ h=>e▸b5d h,h⟩
theorem a7R(a:Int):Fn prog 109 [I a] H λr H'=>r=.bool false∧St prog H H' []:=by refine .aI func109 rfl (by kernel_rfl) (m:=6) rfl λl hn g0=> ?_;simp only[↓RA,RZ,simprocAttr,hn,g0,c4y];exact .refl _ _
def a2w(a b:Int):Int:=if a<b then -1 else if b<a then 1 else 0
theorem b1p(a b:Int):Fn prog 90 [I a,I b] H λr H'=>r=I (a2w a b)∧St prog H H' []:=by refine .aE func90 rfl (by kernel_rfl) (m:=20) rfl λl hn g0 g1=> ?_;simp only[↓RA,RZ,simprocAttr,hn,g0];refine(sR H).cF (a7R _) λH1 hS1=> ?_;simp only[↓RA,RZ,simprocAttr,hn,g1];refine hS1.cF (a7R _) λH2 hS2=> ?_;simp only[↓RA,RB,simprocAttr,hn,g0,g1];refine jB (λh=> ?_) (λh=> ?_);(·simp only[↓RA,RZ,simprocAttr,hn,c3U,h];exact⟨by simp[a2w,h],hS2⟩);simp only[↓RA,RZ,simprocAttr,hn,g0,g1,h];refine jB (λh2=> ?_) (λh2=> ?_);(·simp only[↓RA,RZ,simprocAttr,hn,c3U,h,h2];exact⟨by simp[a2w,h,h2],hS2⟩);simp only[↓RA,RZ,simprocAttr,hn,c3U,h,h2];exact⟨by simp[a2w,h,h2],hS2⟩
def orI:List Int->Int| []=>0| a::l=>if a=0 then orI l else a
theorem a3L(xs:List Int):∀i,i<=xs.length->(∀j,j<i->jA xs j=0)->orI xs=orI (xs.drop i)| 0,_,_=>rfl| i+1,hi,h=>by rw[a3L xs i (by omega) (λj hj=>h j (by omega)),a0w xs i (by omega),orI,if_pos (h i (by omega))]
theorem c6H(v:Value)(xs:List Int)(hv:Sl 1 (one I) H v xs)(hl:xs.length<1000000):Fn prog 89 [v] H λr H'=>r=I (orI xs)∧St prog H H' []:=by
 refine .aI func89 rfl (by kernel_rfl) (m:=18) rfl λl hn g0=> ?_;simp only[↓RA,RZ,simprocAttr,hn,g0,((sR H).sl hv).len];refine Wp.aj (λn l H'=>l.length=18∧get l 3=I 0∧get l 6=v∧get l 7=I xs.length∧∃(i:Nat),(n+i=xs.length∧∀j,j<i->jA xs j=0)∧get l 8=I i∧St prog H H' []) xs.length ?_ ?_;(·simp only[RB,RC,simprocAttr,hn];exact⟨0,⟨by omega,by simp⟩,rfl,(sR H)⟩);rintro n l H1⟨hn,g3,g6,g7,i,⟨hi,h0⟩,g8,hS1⟩;simp only[↓RA,RB,simprocAttr,hn,g7,g8];refine jB (λh=> ?_) (λh=> ?_);(·simp(disch:=omega) only[↓RA,RZ,simprocAttr,hn,g3,g6,g8,(hS1.sl hv).idx,(hS1.sl hv).ld,one,h];refine jB (λh2=> ?_) (λh2=> ?_);(·simp only[↓RA,RZ,simprocAttr,hn,c4p,h,h2];refine⟨?_,hS1⟩;rw[a3L xs i (by omega) h0,a0w xs i (by omega),orI,if_neg h2]);simp(disch:=omega) only[↓RA,RZ,simprocAttr,hn,g3,g6,g7,g8,h,h2];exact⟨n-1,by omega,i+1,⟨by omega,λj hj=>by by_cases e:j=i;(· subst e;exact eQ.1 h2);exact h0 j (by omega)⟩,by simp,hS1⟩)
 simp only[↓RA,RZ,simprocAttr,hn,g3,c4p,h];refine⟨?_,hS1⟩;rw[a3L xs i (by omega) h0,List.drop_eq_nil_of_le (by omega),orI]
theorem c3i(x y:Int×Int):orI [a2w x.1 y.1,a2w x.2 y.2]=cf2 x y:=by unfold cf2 a2w orI orI orI;split;(·simp);·split;(·simp);·simp;intro h;exact h.symm
theorem b9z(x y:Int×Int):Fn prog 88 [.agg #[I x.1,I x.2],.agg #[I y.1,I y.2]] H λr H'=>r=I (cf2 x y)∧St prog H H' []:=by
 refine .aE func88 rfl (by kernel_rfl) (m:=17) rfl λl hn g0 g1=> ?_;simp only[↓RA,RB,g0];refine(sR H).eNew 2 [I x.1,I x.2] rfl rfl rfl qE λA1 H1 hS1=> ?_;simp only[RT]at hS1;simp only[↓RA,RB,simprocAttr,g1];refine hS1.eNew 2 [I y.1,I y.2] rfl rfl rfl qE λA2 H2 hS2=> ?_;simp only[RT]at hS2;simp only[↓RA,RB];refine Wp.aP lC [(6,0),(8,0)] (by kernel_rfl) (by kernel_rfl) ?_;simp only[↓RA,RZ,simprocAttr,hn,hS2.ld 0 rfl,hS2.ld 1 rfl];refine hS2.cF (b1p x.1 y.1) λH3 hS3=> ?_;simp only[↓RA,RZ,simprocAttr,hn,hS3.ld 0 rfl,hS3.ld 1 rfl];refine hS3.cF (b1p x.2 y.2) λH4 hS4=> ?_;simp only[↓RA,RB,simprocAttr,hn];refine hS4.ab [I (a2w x.1 y.1),I (a2w x.2 y.2)] mU rF rfl rfl (by simp[Value.cells]) rfl rfl (by decide) (by decide) λw1 H5 hS5=> ?_;simp only[RT]at hS5;simp only[↓RA,RZ,simprocAttr,hn];refine hS5.cF (c6H w1 [a2w x.1 y.1,a2w x.2 y.2] (hS5.ar 2 rfl (uO _)) (by simp)) λH6 hS6=> ?_;simp only[↓RA,RZ,simprocAttr,hn,hS2.ld 0 rfl,hS2.ld 1 rfl,c7o]
 exact⟨by rw[c3i],hS6.forget⟩
end Go.Ds
namespace Go.Ds
open Go.Proofs
open Go.Shelf Go.RowKit Go.Lib Go.Sort
theorem lt2(x y:Int×Int):ltOf cf2 x y=decide (x.1<y.1∨(x.1=y.1∧x.2<y.2)):=by unfold ltOf cf2;congr 1;apply propext;split;(·omega);·split;(·omega);·split;(·omega);·split<;>omega
theorem c7O:SWO (ltOf cf2) where
 irrefl x:=by rw[lt2];simp
 trans x y z h1 h2:=by rw[lt2]at*;simp at*;omega
 ntrans x y z h1 h2:=by rw[lt2]at*;simp at*;omega
theorem c7B(x y:Int×Int)(h1:ltOf cf2 x y=false)(h2:ltOf cf2 y x=false):x=y:=by rw[lt2]at*;simp at h1 h2;apply Prod.ext<;>omega
theorem c2Q:(λx y=> !(ltOf cf2) y x)=le2:=by funext x y;rw[lt2];by_cases h:le2 x y=true;(·rw[h];rw[tD]at h;rw[eH,decide_eq_false_iff_not];omega);·rw[gE]at h;rw[h];rw[<-gE,tD]at h;rw[Bool.not_eq_false',decide_eq_true_eq];omega
def b0u(P:Program)(K kc:FuncId)(sm:Int×Int->Prop):Prop:=∀(blk off cap:Nat)(d:Array (Int×Int))(w:World),(∀x∈d.toList,sm x)->HoldsK kN 2 w blk off d->blk<w.heap.size->d.size<4611686018427387904-> Calls P K #[.slice (some ⟨blk,off,none⟩) d.size cap,.func (.func kc) #[] #[]] w λe w'=>e=.returned (.tuple #[])∧∃n os,w'=sortWorldK kN 2 w blk off n (d.toList.mergeSort le2).toArray os
def a6O(P:Program)(K:FuncId):Prop:=∀(p:Option Addr)(cap:Nat)(fv:Value)(w:World),Calls P K #[.slice p 0 cap,fv] w λe w'=>e=.returned (.tuple #[])∧w'=w
theorem b6C{P:Program}{kc:FuncId}{α:Type}[Inhabited α](val:α->Int×Int)(cf:α->α->Int)(hf:∀x y,Fn P kc [.agg #[I (val x).1,I (val x).2],.agg #[I (val y).1,I (val y).2]] .nil λr H'=>r=I (cf x y)∧St P (.nil:Heap) H' [])(blk off size:Nat)(w:World):CmpLays P kc #[] (λx=>kN (val x)) 2 cf blk off size w:=by
 intro m os dk hdk x y;generalize sortWorldK (λx=>kN (val x)) 2 w blk off m dk os=W;obtain⟨_,v,H1,h1,hr,_⟩:=hf x y;have ha:All2 (V (λ_ _=>none)) [.agg #[I (val x).1,I (val x).2],.agg #[I (val y).1,I (val y).2]] (#[.agg #[I (val x).1,I (val x).2],.agg #[I (val y).1,I (val y).2]]:Array Value).toList:=⟨.of_flat rfl,.of_flat rfl,trivial⟩;have hc:=CallOk.calls (f:=kc) h1 (HRel.none W) ha;have hargs:(#[.agg (kN (val x)).toArray,.agg (kN (val y)).toArray]++#[]:Array Value)=#[.agg #[I (val x).1,I (val x).2],.agg #[I (val y).1,I (val y).2]]:=rfl;rw[hargs];refine hc.mono ?_;rintro e w'⟨ρ',v',rfl,hp,hv⟩;subst hr;have hfr:∀b,b<W.heap.size->w'.heap[b]? =W.heap[b]?:=λb hb=>(hp.frame b hb (by rintro⟨A,e,p,blk,hq,_⟩;cases hq)).1;refine⟨by rw[hv.ae rfl],w'.drawn-W.drawn,w'.heap.extract W.heap.size w'.heap.size,?_⟩;have h1:=hp.os;have h2:=hp.tape;have h3:=hp.output;have h4:=hp.size;clear hp hv;obtain⟨wh,wt,wd,wo,wu⟩:=W
 obtain⟨ah,at',ad,ao,au⟩:=w';simp only at h1 h2 h3 h4 hfr;simp only[grow,World.drewN,World.mk.injEq];refine⟨?_,h2.1,by omega,h1,h3⟩;apply iR;intro i;rw[Array.getElem?_append];split;(·exact hfr i (by assumption));·rw[Array.getElem?_extract];split;(·congr 1;omega);·rw[Array.getElem?_eq_none (by omega)]
theorem b6f{P:Program}{kc:FuncId}(hf:∀x y,Fn P kc [.agg #[I x.1,I x.2],.agg #[I y.1,I y.2]] .nil λr H'=>r=I (cf2 x y)∧St P (.nil:Heap) H' [])(blk off size:Nat)(w:World):CmpLays P kc #[] kN 2 cf2 blk off size w:=b6C (λx=>x) cf2 hf blk off size w
section
variable {P:Program} {H:Heap} {ρ ρ':Rho} {H':Heap} {w w1 w2:World}
theorem Post.dg(h:Post P ρ H w ρ' H' w1)(hsz:w1.heap.size≤w2.heap.size)(hb:∀b,b<w1.heap.size→w2.heap[b]? =w1.heap[b]?)(h1:w2.os=w1.os)(h2:w2.tape=w1.tape∧w1.drawn≤w2.drawn)(h3:w2.output=w1.output):Post P ρ H w ρ' H' w2 where
 le:=h.le
 rel:=h.rel.other hsz fun A e p hp=>hb _ (h.rel.dom _ _ _ hp).2
 len:=h.len
 size:=dW h.size hsz
 os:=h1.trans h.os
 tape:=⟨h2.1.trans h.tape.1,dW h.tape.2 h2.2⟩
 output:=h3.trans h.output
 frame b hlt hw:=by
  obtain⟨e,hw'⟩:=h.frame b hlt hw;exact⟨(hb b (ee hlt h.size)).trans e,hw'⟩
 loops b r hr:=by
  obtain⟨r',hr'⟩:=h.loops b r hr;exact⟨r',by rw[hb b (nN hr')];exact hr'⟩
 img:=h.img
theorem c1K:∀(l:List (Int×Int))(j:Nat),j<l.length*2->(kN (l.toArray[j/2]!))[j%2]! =(pr l).getD j undef:=by intro l;induction l with| nil=>intro j hj;simp at hj| cons x l ih=>intro j hj;have e:pr (x::l)=I x.1::I x.2::pr l:=rfl;rw[e];match j with| 0=>rfl| 1=>rfl| j+2=>(have h1:(j+2)/2=j/2+1:=by omega);(have h2:(j+2)%2=j%2:=by omega);have:=ih j (by simp at hj;omega);rw[h1,h2];simp only[List.getD_cons_succ];rw[<-this];congr 2;simp only[List.getElem!_toArray];simp
end
theorem V.func0{ρ:Rho}{k:FuncId}{v':Value}(h:V ρ (.func (.func k) #[] #[]) v'):v'=.func (.func k) #[] #[]:=by cases h with| v1 h=>cases h with| c1 h=>cases h with| c0 h=>(cases h with| flat h=>rfl)| fn ha hb=>rename_i a' b';(have e1:a'=#[]:=by obtain⟨l⟩:=a';cases l with| nil=>rfl| cons=>exact ha.elim);(have e2:b'=#[]:=by obtain⟨l⟩:=b';cases l with| nil=>rfl| cons=>exact hb.elim);rw[e1,e2]
theorem b0h(es:List (Int×Int)):kW (pr es)=true:=by unfold kW;rw[dS];intro c hc;obtain⟨x,_,hx⟩:=gi.1 hc;simp only[kN,fh,ff,or_false]at hx;rcases hx with rfl|rfl<;>rfl
set_option maxRecDepth 10000 in
theorem c0H{P:Program}{K kc:FuncId}{sm:Int×Int→Prop}(hso:b0u P K kc sm){H:Heap}{A i lo ver n:Nat}{ty:TypeId}{pre:List Value}{es:List (Int×Int)}(hg:jO H A=some (.cells (pre++pr es) ty true lo ver))(hlo:lo≤i+(pr es).length)(hpre:pre.length=i)
 (hn:(pr es).length=n*2) (hty:jF P ty=some 2) (hl:es.length<100000000000) (h0:es≠[]) (hsm:∀x∈es,sm x):
 CallOk P K [.slice (some ⟨A,i,some (i+(pr es).length)⟩) n 2,.func (.func kc) #[] #[]] H (.tuple #[]) (hset H A (.cells (jW (pre++pr es) i (pr (srt es))) ty true (pre++pr es).length ver)):=by
 intro k ρ w args' hr ha;obtain⟨l⟩:=args'
 match l,ha with
 | [x,f],⟨hx,hf,_⟩=>
   obtain rfl:=V.func0 hf;have hlen:(pre++pr es).length=i+(pr es).length:=by rw[dU,hpre]
   obtain⟨p,c',a,hp,h0',hin,hnc,hac,hpk,rfl⟩:=hx.aw;rw[kD]at hn;have hne:0<es.length:=gP.2 h0;have hnn:n=es.length:=by omega
   subst hnn;have ha':a=⟨p.b,p.at i,none⟩:=by
    rcases hac with h|h
    ·exact h.1
    ·omega
   subst ha';have hp2:ρ A (pre++pr es).length=some p:=by rw[hlen];exact hp
   obtain⟨_,_,hfit,cur,ty',fr,hw,hsz,hfr,hcell⟩:=(hr.cells _ _ _ _ _ _ hg).2 _ _ hp2;obtain⟨rfl,hd0,_⟩:=hfr rfl
   let d:Array (Int×Int):=es.toArray
   have hds:d.size=es.length:=by simp[d]
   have hfl:=fun j hj=>c1K es j (by simpa using hj);have hH:Go.Sort.HoldsK kN 2 w p.b (p.at i) d:=by
    intro j hj;rw[Go.Sort.size_flatK,hds]at hj;constructor
    ·have hc:(pre++pr es)[i+j]? =some ((pr es).getD j undef):=by
      rw[eZ (by omega),hpre,iU,dL,dO (by rw[kD];omega)];rfl
     obtain⟨c2,hc2,hrel⟩:=hcell (by rw[hlen];exact hlo) (i+j) _ (by rw[hlen,kD];omega) (by omega) hc;have hsc:jM ((pr es).getD j undef)=true:=by
      have:=b0h es
      unfold kW at this;rw[dS]at this;apply this;rw[dL,dO (by rw[kD];omega)];exact iL _
     have:=hrel.ay hsc
     subst this;have hat:p.at (i+j)=p.at i+j:=by unfold Place.at;omega
     rw[hat]at hc2;simp only[World.cell?,hw];rw[Go.Sort.get_flatK _ _ _ _ (by rw[hds];exact hj),hfl j hj];exact hc2
    ·simp only[World.frozen?,hw];simp
   have hcon:=hso p.b (p.at i) c' d w (by simpa [d]using hsm) hH (hr.dom _ _ _ hp).2 (by rw[hds];omega);rw[hds]at hcon;obtain⟨w1,hrun,hpost⟩:=vU hr hg hp2 h0' (.aH (b0h (srt es))) (by rw[hlen,kD,kD,(sL es).length_eq];omega) (by rw[hlen];exact hlo);have hcsz:p.at i+(pr (srt es)).length≤cur.size:=by
    rw[kD,(sL es).length_eq,hsz];unfold Place.at
    rw[hlen,kD]at hfit;omega
   have hst:=run_storeCells_at (P:=P) p.b (p.at i) ty' (pr (srt es)) 0 cur w hw (by simpa using hcsz) (All2.aH (ρ:=ρ) (b0h (srt es))).aW;rw[hst]at hrun;injection hrun with _ hw1
   subst hw1;refine callsIn_wide.2 (hcon.mono ?_);rintro e w'⟨rfl,m,os,rfl⟩;refine⟨ρ,_,rfl,?_,.tuple trivial⟩;have hsl:(srt es).length=es.length:=(sL es).length_eq;have hml:((d.toList.mergeSort le2)).length=es.length:=by simp[d]
   have hfs:∀j,j<es.length*2→(Go.Sort.flatK kN 2 (d.toList.mergeSort le2).toArray)[j]! =(pr (srt es)).getD j undef:=fun j hj=>by
    rw[Go.Sort.get_flatK _ _ _ _ (by simpa [d]using hj)];exact c1K (d.toList.mergeSort le2) j (by rw[hml];exact hj)
   have hFs:(Go.Sort.flatK kN 2 (d.toList.mergeSort le2).toArray).size=es.length*2:=by simp[d]
   unfold sortWorldK Go.Sort.putRowK;generalize Go.Sort.flatK kN 2 (d.toList.mergeSort le2).toArray=F at hfs hFs ⊢;have hlt:=nN hw;have hh:∀b,b<w.heap.size→(Go.Sort.grow (Go.Sort.putRow id (Go.Sort.ahead w m) p.b (p.at i) F) os).heap[b]? =(Go.Sort.putRow id (Go.Sort.ahead w m) p.b (p.at i) F).heap[b]?:=fun b hb=>by
    have:b<(Go.Sort.putRow id (Go.Sort.ahead w m) p.b (p.at i) F).heap.size:=by simpa [Go.Sort.putRow,Go.Sort.mapBlock,Go.Sort.ahead]using hb
    unfold Go.Sort.grow;exact fQ this
   refine hpost.dg ?_ ?_ rfl ⟨rfl,Nat.le_add_right _ _⟩ rfl
   ·simp[Go.Sort.grow,Go.Sort.putRow,Go.Sort.mapBlock,Go.Sort.ahead]
   ·intro b hbs;rw[setRow_size]at hbs;rw[hh b hbs]
    by_cases e:b=p.b
    ·subst e;rw[setRow_heap w p.b cur _ ty' (0,0) hw];have e2:(Go.Sort.putRow id (Go.Sort.ahead w m) p.b (p.at i) F).heap[p.b]? =some (.cells (Go.Sort.putCells id (p.at i) F cur) ty' (0,0)):=by
      simp[Go.Sort.putRow,Go.Sort.mapBlock,Go.Sort.ahead,iC,hw,Go.Sort.onCells]
     rw[e2];congr 2;apply iR;intro j;have hseg:=a6l cur.toList (pr (srt es)) (p.at i) j (by simpa using hcsz);have e3:((List.take (p.at i+0) cur.toList++pr (srt es)++List.drop (p.at i+0+(pr (srt es)).length) cur.toList).toArray)[j]? =(List.take (p.at i) cur.toList++pr (srt es)++List.drop (p.at i+(pr (srt es)).length) cur.toList)[j]?:=by simp
     rw[e3,hseg];simp only[Go.Sort.putCells,Array.getElem?_mapIdx,iB];rw[kD,hsl]at hcsz ⊢
     by_cases h1:p.at i≤j∧j<p.at i+es.length*2
     ·rw[if_pos h1];have hjc:j<cur.size:=by omega
      rw[fU hjc];simp only[ef];rw[if_pos (by rw[hFs];exact h1),hfs _ (by omega),dL,dO (by rw[kD,hsl];omega)];rfl
     ·rw[if_neg h1];cases hc:cur[j]? with
      | none=>simp
      | some c=>
        simp only[ef];rw[if_neg (by rw[hFs];exact h1)]
    ·rw[setRow_other _ _ _ _ e];simp[Go.Sort.putRow,Go.Sort.mapBlock,Go.Sort.ahead,iC,fT e]
theorem b8L{P:Program}{K kc:FuncId}{sm:Int×Int->Prop}(hso:b0u P K kc sm)(hno:a6O P K)(hent0:rM P K){H:Heap}{H0:Base}{os:List Ob}(hS:St P H0 H os)(i:Nat){v:Value}{es:List (Int×Int)}(ho:os[i]? =some ⟨v,2,pr es⟩)(hl:es.length<100000000000)(hsm:∀x∈es,sm x){Q:Value->Heap->Prop} (h:∀H1,St P H0 H1 (os.set i ⟨v,2,pr (srt es)⟩)->Q (.tuple #[]) H1):yT P K [v,.func (.func kc) #[] #[]] H Q:=by
 have hent:rM P K:=hent0;by_cases h0:es=[];(·subst h0;refine⟨.tuple #[],H,hent,?_,h H ?_⟩;(·intro k ρ w args' hr ha;obtain⟨l⟩:=args';match l,ha with| [x,f],⟨hx,hf,_⟩=>obtain rfl:=V.func0 hf;have hown:=hS.own _ (ek ho);unfold OwnAt at hown;rw[if_neg (by simp)]at hown;(have hx0:∃p cap,x=.slice p 0 cap:=by rcases hown with⟨h2,_⟩|⟨A,j,ty,lo',ver,pre,m,h2,h3,h4,h5,h6,h7⟩;(·simp only at h2;subst h2;rcases hx.ax with⟨_,_,_,rfl⟩|⟨A,j,e,p,c',a,hh,_⟩;(·exact⟨_,_,rfl⟩);·cases hh);·simp only at h5 h6;subst h6;(have hm:m=0:=by have:(pr []).length=0:=rfl;omega);subst hm;obtain⟨p,c',a,_,_,_,_,_,_,rfl⟩:=hx.aw;exact⟨_,_,rfl⟩);obtain⟨p,cap,rfl⟩:=hx0;refine callsIn_wide.2 ((hno p cap _ w).mono ?_);rintro e w'⟨rfl,rfl⟩;exact⟨ρ,_,rfl,.refl hr,.tuple trivial⟩);·obtain⟨hi,hoi⟩:=dP.1 ho;have e:srt []=[]:=List.Perm.eq_nil (sL []);rw[e,<-hoi,iD];exact hS);·have hown:=hS.own _ (ek ho);unfold OwnAt at hown;rw[if_neg (by simp)]at hown;have hne:0<es.length:=gP.2 h0;rcases hown with⟨_,h3⟩|⟨A,j,ty,lo',ver,pre,m,h2,h3,h4,h5,h6,h7⟩;(·simp only at h3;have:=congrArg List.length h3;rw[kD,eD]at this;omega);·simp only at h2 h3 h5 h6;(have hsl:(pr (srt es)).length=(pr es).length:=by rw[kD,kD,(sL es).length_eq]);have hcall:=c0H hso h2 h3 h4 h5 h7 hl h0 hsm;rw[<-h6]at hcall;refine⟨_,_,hent,hcall,h _ (hS.put i ho ?_ ?_ ?_ ?_)⟩;(·unfold OwnAt;rw[if_neg (by simp)];refine .inr ⟨A,j,ty,(pre++pr es).length,ver,pre,m,?_,?_,h4,?_,?_,h7⟩;(·rw[jL _ (jZ h2)];have:=pT (pr (srt es)) pre (pr es) (by rw[hsl];exact dH _);rw[h4]at this;rw[this,hsl,List.drop_length,dY]);(·simp only[dU,h4,hsl];exact dH _);(·simp only[hsl];exact h5);·simp only[hsl];exact h6);(·rw[kG];exact dH _);(·intro B' hB hne';refine oU λhh=>hne' ?_;simp[blk,h6,hh]);·intro B' hB;exact .inl hB
end Go.Ds
namespace Go.Proofs
open Go.Shelf
def Tryz.bE:Go.Shelf.Ren:=⟨λ|6=>87|15=>108|14=>107|28=>140|29=>141|20=>132|21=>133|22=>134|23=>135|24=>136|25=>137|26=>138|27=>139|46=>160|47=>161|48=>162|49=>163|50=>164|57=>176|n=>n,λ|22=>35|24=>46|25=>176|3=>3|39=>124|0=>0|53=>188|55=>48|4=>4|46=>222|45=>221|50=>207|5=>5|9=>9|66=>249|70=>253|76=>262|77=>263|n=>n,λ|n=>n⟩
theorem Tryz.bY:Go.Proofs.SlLaysF0.n6 Tryz.prog Tryz.bE:={mixed:=by kernel_rfl,f6:=⟨Tryz.f87.name,by decide,Tryz.func87.trans (congrArg some (by kernel_rfl))⟩,f14:=⟨Tryz.f107.name,by decide,Tryz.func107.trans (congrArg some (by kernel_rfl))⟩,f15:=Tryz.func108.trans (congrArg some (by kernel_rfl)),f20:=⟨Tryz.f132.name,by decide,Tryz.func132.trans (congrArg some (by kernel_rfl))⟩,f21:=⟨Tryz.f133.name,by decide,Tryz.func133.trans (congrArg some (by kernel_rfl))⟩,f22:=⟨Tryz.f134.name,by decide,Tryz.func134.trans (congrArg some (by kernel_rfl))⟩,f23:=⟨Tryz.f135.name,by decide,Tryz.func135.trans (congrArg some (by kernel_rfl))⟩,f24:=⟨Tryz.f136.name,by decide,Tryz.func136.trans (congrArg some (by kernel_rfl))⟩,f25:=⟨Tryz.f137.name,by decide,Tryz.func137.trans (congrArg some (by kernel_rfl))⟩,f26:=⟨Tryz.f138.name,by decide,Tryz.func138.trans (congrArg some (by kernel_rfl))⟩,f27:=⟨Tryz.f139.name,by decide,Tryz.func139.trans (congrArg some (by kernel_rfl))⟩,f28:=Tryz.func140.trans (congrArg some (by kernel_rfl)),f29:=Tryz.func141.trans (congrArg some (by kernel_rfl)),f46:=⟨Tryz.f160.name,by decide,Tryz.func160.trans (congrArg some (by kernel_rfl))⟩,f47:=Tryz.func161.trans (congrArg some (by kernel_rfl)),f48:=Tryz.func162.trans (congrArg some (by kernel_rfl)),f49:=⟨Tryz.f163.name,by decide,Tryz.func163.trans (congrArg some (by kernel_rfl))⟩,f50:=⟨Tryz.f164.name,by decide,Tryz.func164.trans (congrArg some (by kernel_rfl))⟩,f57:=⟨Tryz.f176.name,by decide,Tryz.func176.trans (congrArg some (by kernel_rfl))⟩,t0:=Tryz.underlying0,a0:=Tryz.isAgg0,z0:=Tryz.sizeOf0,v0:=Tryz.zeroValue0,t3:=Tryz.underlying3,a3:=Tryz.isAgg3,z3:=Tryz.sizeOf3,v3:=Tryz.zeroValue3,t4:=Tryz.underlying4,a4:=Tryz.isAgg4,z4:=Tryz.sizeOf4,v4:=Tryz.zeroValue4,t5:=Tryz.underlying5,a5:=Tryz.isAgg5,z5:=Tryz.sizeOf5,v5:=Tryz.zeroValue5,t9:=Tryz.underlying9,a9:=Tryz.isAgg9,z9:=Tryz.sizeOf9,v9:=Tryz.zeroValue9,t22:=Tryz.underlying35,a22:=Tryz.isAgg35,z22:=Tryz.sizeOf35,v22:=Tryz.zeroValue35,t25:=Tryz.underlying176,a25:=Tryz.isAgg176,z25:=Tryz.sizeOf176,v25:=Tryz.zeroValue176,t39:=Tryz.underlying124,a39:=Tryz.isAgg124,z39:=Tryz.sizeOf124,v39:=Tryz.zeroValue124,t45:=Tryz.underlying221,a45:=Tryz.isAgg221,z45:=Tryz.sizeOf221,v45:=Tryz.zeroValue221,t46:=Tryz.underlying222,a46:=Tryz.isAgg222,z46:=Tryz.sizeOf222,v46:=Tryz.zeroValue222,t50:=Tryz.underlying207,a50:=Tryz.isAgg207,z50:=Tryz.sizeOf207,v50:=Tryz.zeroValue207,t53:=Tryz.underlying188,a53:=Tryz.isAgg188,z53:=Tryz.sizeOf188,v53:=Tryz.zeroValue188,t55:=Tryz.underlying48,a55:=Tryz.isAgg48,z55:=Tryz.sizeOf48,v55:=Tryz.zeroValue48,t66:=Tryz.underlying249,a66:=Tryz.isAgg249,z66:=Tryz.sizeOf249,v66:=Tryz.zeroValue249,t70:=Tryz.underlying253,a70:=Tryz.isAgg253,z70:=Tryz.sizeOf253,v70:=Tryz.zeroValue253,t76:=Tryz.underlying262,a76:=Tryz.isAgg262,z76:=Tryz.sizeOf262,v76:=Tryz.zeroValue262,t77:=Tryz.underlying263,a77:=Tryz.isAgg263,z77:=Tryz.sizeOf263,v77:=Tryz.zeroValue263}
end Go.Proofs
namespace Go.Ds
open Go.Proofs Go.Proofs.Tryz Go.Shelf Go.RowKit Go.Lib Go.Sort
theorem b5O(x:Int×Int):∀v∈kN x,v.oneCell'=true:=by intro v hv;simp[kN]at hv;rcases hv with rfl|rfl<;>rfl
theorem c8p(kc:FuncId)(eg:∀args w,(callFunc kc args).run prog w=.ok (.enter kc args) w)(hf:∀x y,Fn prog kc [.agg #[I x.1,I x.2],.agg #[I y.1,I y.2]] .nil λr H'=>r=I (cf2 x y)∧St prog (.nil:Heap) H' []):b0u prog 87 kc (λ_=>True):=λblk off cap d w _ hH hblk hsz=>by have h:=AnyQ.slices_SortFunc_total Tryz.bY 2 Tryz.isAgg46 Tryz.sizeOf46 kN (λ_=>rfl) b5O cf2 c7O kc #[] blk off cap d w eg (b6f hf blk off d.size w) hH hblk hsz c7B;rw[c2Q]at h;exact h
theorem c7T:a6O prog 87:=λp cap fv w=>AnyF.slices_SortFunc_none {Tryz.bY with} p cap fv w
def c3N(K kc:FuncId):Prop:=∀{H:Heap}{B:Base}{os:List Ob}(hS:St prog B H os)(i:Nat){v:Value}{es:List (Int×Int)}(ho:os[i]? =some ⟨v,2,pr es⟩)(hl:es.length<100000000000){Q:Value->Heap->Prop} (h:∀H1,St prog B H1 (os.set i ⟨v,2,pr (srt es)⟩)->Q (.tuple #[]) H1),yT prog K [v,.func (.func kc) #[] #[]] H Q
theorem c8s:rM prog 87:=⟨Tryz.f87,func87,by kernel_rfl,by kernel_rfl⟩
theorem c5F:c3N 87 88:=λhS i _ _ ho hl _ h=>b8L (c8p 88 (enters_of func88 (by kernel_rfl) rfl) λx y=>b9z x y) c7T c8s hS i ho hl (λ_ _=>trivial) h
end Go.Ds
namespace Go.Ds
open Go.Proofs Go.Proofs.Tryz
variable {H:Heap}
theorem zG{p:Nat->Bool}{n j:Nat}(h:oZ p n=(j:Int)):j<n:=by unfold oZ at h;split at h;(·rename_i q hq;have:=ez.1 (gZ hq);omega);·omega
theorem c0Y(g:Seg)(hg:g.In H)(key:Int)(A:Nat)(hA:Var H A 1 [I key]):Fn prog 86 [.agg #[I g.lo,I g.hi,g.dv],ptr A 0 1] H λr H'=>r=.bool (decide (g.lo<=key)&&decide (key<=g.hi))∧St prog H H' []:=by
 refine .aE func86 rfl (by kernel_rfl) (m:=14) rfl λl hn g0 g1=> ?_;simp only[↓RA,RB,g0];refine(sR H).eNew 3 [I g.lo,I g.hi,g.dv] rfl rfl (by simp[OC,((sR H).sl hg.1).cells.2.1]) a1R λA1 H1 hS1=> ?_;simp only[RT]at hS1;simp only[↓RA,RZ,simprocAttr,hn,g1,hS1.ld 0 rfl,(hS1.va hA).ld];refine kJ (λh1=> ?_) (λh1=> ?_);(·simp only[↓RA,RZ,simprocAttr,hn,g1,(hS1.va hA).ld,hS1.ld 0 rfl,c4S,h1];first|exact hS1.forget|exact⟨by simp[h1],hS1.forget⟩);simp only[↓RA,RZ,simprocAttr,hn,c4S,h1];first|exact hS1.forget|exact⟨by simp[],hS1.forget⟩
theorem b1L(v:Value)(xs:List Seg)(hv:Sl 3 Seg.cells H v xs)(hl:xs.length<1000000000)(k:FuncId)(caps:List Value)(p:Nat->Bool) (hf:∀j H1,j<xs.length->St prog H H1 []->Fn prog k (.agg #[I (jA xs j).lo,I (jA xs j).hi,(jA xs j).dv]::caps) H1 λr H2=>r=.bool (p j)∧St prog H1 H2 []): Fn prog 79 [v,.func (.func k) #[] caps.toArray] H λr H'=>r=I (oZ p xs.length)∧St prog H H' []:=by
 refine .aE func79 rfl (by kernel_rfl) (m:=19) rfl λl hn g0 g1=> ?_;simp only[↓RA,RZ,simprocAttr,hn,g0,((sR H).sl hv).len];refine Wp.aj (λn l H'=>l.length=19∧get l 0=v∧get l 1=.func (.func k) #[] caps.toArray∧get l 7=I xs.length∧∃(j:Nat),(n+j=xs.length∧∀q,q<j->p q=false)∧get l 8=I j∧St prog H H' []) xs.length ?_ ?_;(·simp only[RB,RC,simprocAttr,hn,g0,g1];exact⟨0,⟨by omega,λq hq=>absurd hq (eL _)⟩,rfl,(sR H)⟩);rintro n l H1⟨hn,g0,g1,g7,j,⟨hi,h0⟩,g8,hS1⟩;simp only[↓RA,RB,simprocAttr,hn,g7,g8];refine jB (λh=> ?_) (λh=> ?_);(·simp(disch:=omega) only[↓RA,RZ,simprocAttr,hn,g0,g1,g8,(hS1.sl hv).idx,(hS1.sl hv).aq,Seg.cells,h];refine hS1.cF (hf j _ (by omega) hS1) λH2 hS2=> ?_;simp only[↓RA,RZ,simprocAttr,hn,h];refine kM (λhp=> ?_) (λhp=> ?_);(·simp only[↓RA,RZ,simprocAttr,hn,c5b,h,hp];exact⟨by rw[xF p xs.length j (by omega) hp h0],hS2⟩);simp(disch:=omega) only[↓RA,RZ,simprocAttr,hn,g0,g1,g7,g8,h,hp];exact⟨n-1,by omega,j+1,⟨by omega,λq hq=>by rcases dT.1 hq with e|e;(· exact h0 q e);(· rw[e];exact hp)⟩,by simp,hS2⟩)
 simp only[↓RA,RZ,simprocAttr,hn,c5b,h];exact⟨by rw[wT p xs.length λq hq=>h0 q (by omega)],hS1⟩
theorem a2C{H0:Heap}{os0:List Ob}(hS0:St prog H0 H os0)(s:Stp)(hs0:s.In H0)(key:Int):Fn prog 64 [.agg #[.string s.name,I s.num,I s.den,s.gv],I key] H λr H'=>∃g:Seg,r=.agg #[I g.lo,I g.hi,g.dv]∧g.In H0∧g.draws=segK s key∧St prog H H' []:=by
 have hs:=hs0.al hS0;have hl:=hs.2.2;refine .aE func64 rfl (by kernel_rfl) (m:=18) rfl λl hn g0 g1=> ?_;simp only[↓RA,RB,g0];refine(sR H).eNew 4 [(.string s.name),I s.num,I s.den,s.gv] rfl rfl (by simp[OC,((sR H).sl hs.1).cells.2.1]) oR λA1 H1 hS1=> ?_;simp only[RT]at hS1;simp only[↓RA,RB,simprocAttr,g1];refine hS1.eNew 1 [I key] rfl rfl rfl tS3 λA2 H2 hS2=> ?_;simp only[RT]at hS2;simp only[↓RA,RZ];refine hS2.eNew 3 [I 0,I 0,(.slice none 0 0)] rfl rfl rfl a1R λA3 H3 hS3=> ?_;simp only[RT]at hS3;simp only[↓RA,RZ,simprocAttr,hn,hS3.ld 0 rfl];have hA:=hS3.var 1 rfl;have hSc:=hS3;refine hS3.cF (b1L s.gv s.segs (hS3.sl hs.1) hs.2.2 86 [ptr A2 0 1] (rE s key) (λj H1 hj hS'=>c0Y _ ((hs.2.1 _ (jD hj)).al (hSc.trans hS')) key A2 (hA.al hS'.al))) λH4 hS4=> ?_;simp only[↓RA,RB,simprocAttr,hn];refine jB (λh=> ?_) (λh=> ?_);(·simp only[↓RA,RZ,simprocAttr,hn,c6J,h];refine hS4.aa 2 rfl [I 0,I 0,(.slice none 0 0)] rfl rfl a1R (by simp) λH5 hS5=> ?_;simp only[RT]at hS5;simp only[↓RA,RZ,simprocAttr,hn,c6G,hS5.aq 2 rfl,h];exact⟨⟨0,0,.slice none 0 0,[]⟩,rfl,⟨⟨.inl ⟨rfl,rfl⟩,λ_=>rfl,by decide⟩,by simp⟩,by rw[segK,if_pos h],hS5.forget⟩)
 obtain⟨j,hj⟩:∃j:Nat,oZ (rE s key) s.segs.length=j:=⟨(oZ (rE s key) s.segs.length).toNat,by omega⟩;have hjl:j<s.segs.length:=zG hj;simp(disch:=omega) only[↓RA,RZ,simprocAttr,hn,hS4.ld 0 rfl,(hS4.sl hs.1).idx,(hS4.sl hs.1).aq,Seg.cells,hj];refine hS4.aa 2 rfl [I (jA s.segs j).lo,I (jA s.segs j).hi,(jA s.segs j).dv] rfl (by simp[OC,(hS4.sl (hs.2.1 (jA s.segs j) (jD (by omega))).1).cells.2.1]) a1R (by simp) λH6 hS6=> ?_;simp only[RT]at hS6;simp only[↓RA,RZ,simprocAttr,hn,c6G,hS6.aq 2 rfl,hj];exact⟨jA s.segs j,rfl,hs0.2.1 _ (jD hjl),by rw[segK,if_neg h,hj];rfl,hS6.forget⟩
theorem c0i(rv:Value)(rks:List Rk)(hr:Sl 6 Rk.cells H rv rks)(hrk:∀r∈rks,r.In H)(hl:rks.length<1000000000)(d:Drw)(key:Int): Fn prog 65 [rv,.agg #[I d.rank,I d.shift],I key] H λr H'=>r=.tuple #[.agg #[I (lX rks d key).1,I (lX rks d key).2],.bool (nA rks d key)]∧St prog H H' []:=by
 refine .cz func65 rfl (by kernel_rfl) (m:=48) rfl λl hn g0 g1 g2=> ?_;simp only[↓RA,RB,g1];refine(sR H).eNew 2 [I d.rank,I d.shift] rfl rfl rfl a1a λA1 H1 hS1=> ?_;simp only[RT]at hS1;simp only[↓RA,RZ];refine hS1.eNew 2 [I 0,I 0] rfl rfl rfl qE λA2 H2 hS2=> ?_;simp only[RT]at hS2;simp only[↓RA,RZ,simprocAttr,hn,hS2.ld 0 rfl];refine jN (λh1=> ?_) (λh1=> ?_);(·simp only[↓RA,RZ,simprocAttr,hn,c1X,h1];refine hS2.aa 1 rfl [I 0,I 0] rfl rfl qE (by simp) λH3 hS3=> ?_;simp only[RT]at hS3;simp only[↓RA,RZ,simprocAttr,hn,c0Z,hS3.aq 1 rfl,h1];exact⟨by rw[lX,nA,if_pos (by omega),decide_eq_true (by omega)];rfl,hS3.forget⟩);simp only[↓RA,RZ,simprocAttr,hn,g0,hS2.ld 0 rfl,(hS2.sl hr).len,h1];refine jB (λh2=> ?_) (λh2=> ?_);(·simp only[↓RA,RZ,simprocAttr,hn,c1X,h1,h2];refine hS2.aa 1 rfl [I 0,I 0] rfl rfl qE (by simp) λH4 hS4=> ?_;simp only[RT]at hS4;simp only[↓RA,RZ,simprocAttr,hn,c0Z,hS4.aq 1 rfl,h1,h2];exact⟨by rw[lX,nA,if_pos (by omega),decide_eq_true (by omega)];rfl,hS4.forget⟩)
 obtain⟨j,hj⟩:∃j:Nat,d.rank=j:=⟨d.rank.toNat,by omega⟩;(have hjl:j<rks.length:=by omega);(have hp:lX rks d key=((j:Int),sQ (sQ (key+d.shift)-(jA rks j).first)):=by rw[lX,if_neg (by omega),hj];rfl);(have hh:nA rks d key=(decide (0<=sQ (sQ (key+d.shift)-(jA rks j).first))&&decide (sQ (sQ (key+d.shift)-(jA rks j).first)<(jA rks j).wind.length)):=by rw[nA,hp,decide_eq_false (by omega),hj];rfl);rw[hp,hh];have hw:=(hrk _ (jD hjl)).2;simp only[↓RA,hj];refine Wp.drw lC (by kernel_rfl) ?_;simp only[↓RA,RZ,simprocAttr,hn,g2];simp(disch:=omega) only[↓RA,RZ,simprocAttr,hn,g0,hS2.ld 0 rfl,(hS2.sl hr).idx,(hS2.sl hr).aU,(hS2.sl hr).ld,Rk.cells,hj];refine Wp.aP lC [(10,18),(13,18),(14,18)] (by kernel_rfl) (by kernel_rfl) ?_;simp only[↓RA,RZ,simprocAttr,hn,hS2.ld 0 rfl,a0p,hj];refine kJ (λh3=> ?_) (λh3=> ?_);(·skip;simp(disch:=omega) only[↓RA,RZ,simprocAttr,hn,g0,hS2.ld 0 rfl,(hS2.sl hr).idx,(hS2.sl hr).aU,(hS2.sl hr).ld,Rk.cells,(hS2.sl (hrk (jA rks j) (jD (by omega))).1).len,hj,h3];refine hS2.aa 1 rfl [I j,_] rfl rfl qE (by simp) λH5 hS5=> ?_;simp only[RT]at hS5;simp(disch:=omega) only[↓RA,RZ,simprocAttr,hn,hS5.ld 0 rfl,Rk.cells,(hS5.sl hr).ld,(hS5.sl (hrk (jA rks j) (jD (by omega))).1).len,c0Z,hS5.aq 1 rfl,hj,h3];exact hS5.forget)
 simp only[↓RA,RZ,simprocAttr,hn,h3];refine hS2.aa 1 rfl [I j,_] rfl rfl qE (by simp) λH6 hS6=> ?_;simp only[RT]at hS6;simp only[↓RA,RZ,simprocAttr,hn,c0Z,hS6.aq 1 rfl,h3];first|exact hS6.forget|exact⟨by rw[fG],hS6.forget⟩
theorem b4F{B:Base}{v:Value}{es:List (Int×Int)}(hS:St prog B H [⟨v,2,pr es⟩])(hl:es.length<1000000): Fn prog 66 [v] H λr H'=>∃rest:List Value,(∀b,blk r=some b->blk v=some b)∧(∀H2,RdAt H2 v 2 (pr (dd (srt es))++rest)->RdAt H2 r 2 (pr (dd (srt es))))∧St prog B H' [⟨v,2,pr (dd (srt es))++rest⟩]:=by
 refine .aI func66 rfl (by kernel_rfl) (m:=7) rfl λl hn g0=> ?_;simp only[↓RA,RZ,simprocAttr,hn,g0];refine c5F hS 0 rfl (Nat.lt_trans hl (by decide)) λH1 hS1=> ?_;simp only[List.set_cons_zero]at hS1;simp only[↓RA,RZ,simprocAttr,hn,g0];refine jG (a6X hS1 (by rw[a2v];exact Nat.lt_trans hl (by decide))) ?_;rintro r H2⟨rest,hb,hrd,hS2⟩;have hrc:=(hrd H2 (hS2.rd 0 rfl)).cells;simp only[↓RA,RB,simprocAttr,hn,c7f];exact⟨rest,hb,hrd,hS2⟩
theorem b1s{a b:Int}{v:Value}{α:Type}{n:Nat}{cel:α->List Value}{xs:List α}(h:Sl n cel H v xs):yK prog 68 (.agg #[I a,I b,v]) 2=some v:=by rcases h.rd with⟨rfl,_⟩|⟨A,i,e,row,ty,rw,lo,ver,n,_,_,_,_,_,_,rfl⟩<;>kernel_rfl
theorem a8E(rv:Value)(rks:List Rk)(hr:Sl 6 Rk.cells H rv rks)(hrk:∀r∈rks,r.In H)(hl:rks.length<1000000000)(s:Stp)(hs:s.In H)(hs2:∀g∈s.segs,g.draws.length<=8)(key:Int): Fn prog 42 [rv,.agg #[.string s.name,I s.num,I s.den,s.gv],I key] H λr H'=>Slx 2 kN H' (λB=>H.length<=B) r (lR rks s key)∧St prog H H' []:=by
 refine .cz func42 rfl (by kernel_rfl) (m:=36) rfl λl hn g0 g1 g2=> ?_;simp only[↓RA,RB,g1];refine(sR H).eNew 4 [(.string s.name),I s.num,I s.den,s.gv] rfl rfl (by simp[OC,((sR H).sl hs.1).cells.2.1]) oR λA1 H1 hS1=> ?_;simp only[RT]at hS1;simp only[↓RA,RZ,simprocAttr,hn,g2,hS1.aq 0 rfl];refine jG (a2C hS1 s hs key) ?_;rintro r H2⟨g,rfl,hgi,hgd,hT1⟩;have hS2:=hS1.trans hT1;simp only[RT]at hS2;have hgl:=hgi.2;(have hg8:g.draws.length<=8:=by rw[hgd];unfold segK;split;(·simp);·rename_i h;exact hs2 _ (jD (zG (p:=rE s key) (n:=s.segs.length) (by omega))));simp only[↓RA,RZ,simprocAttr,hn,b1s (hS2.sl hgi.1),(hS2.sl hgi.1).len];have hS3:=hS2.nil 1;simp only[RT]at hS3;refine Wp.aj (λn l H'=>l.length=36∧get l 0=rv∧get l 2=I key∧get l 6=(.slice none 0 0)∧get l 15=g.dv∧get l 16=I g.draws.length∧∃(i:Nat)(ov:Value),(n+i=g.draws.length)∧get l 17=I i∧get l 7=ov∧St prog H H' [⟨ptr A1 0 4,0,[(.string s.name),I s.num,I s.den,s.gv]⟩,⟨ov,2,pr (((g.draws.take i).filter λd=>nA rks d key).map λd=>lX rks d key)⟩]) g.draws.length ?_ ?_
 (·simp only[RB,RC,simprocAttr,hn,g0,g2];exact⟨0,_,by omega,rfl,rfl,hS3⟩);rintro n l H3⟨hn,g0,g2,g6,g15,g16,i,ov,hi,g17,g7,hS4⟩;simp only[↓RA,RB,simprocAttr,hn,g16,g17];refine jB (λq1=> ?_) (λq1=> ?_);(·simp(disch:=omega) only[↓RA,RZ,simprocAttr,hn,g15,g17,(hS4.sl hgi.1).idx,(hS4.sl hgi.1).aq,Drw.cells,q1];refine hS4.eNew 2 [I 0,I 0] rfl rfl rfl a1a λA2 H4 hS5=> ?_;simp only[RT]at hS5;simp only[↓RA,RZ,simprocAttr,hn,q1];refine hS5.aa 2 rfl [I (jA g.draws i).rank,I (jA g.draws i).shift] rfl rfl a1a (by simp) λH5 hS6=> ?_;simp only[RT]at hS6;simp only[↓RA,RZ,simprocAttr,hn,g0,g2,hS6.aq 2 rfl,q1];refine hS6.cF (c0i rv rks (hS6.sl hr) (λr hr'=>(hrk r hr').al hS6) hl (jA g.draws i) key) λH6 hS7=> ?_;have htk:=xX g.draws i (by omega);(have hfl:((g.draws.take i).filter λd=>nA rks d key).length<=i:=by refine dW (ed _ _) ?_;simp;omega);simp only[↓RA,RZ,simprocAttr,hn,q1];refine hS7.eNew 2 [I 0,I 0] rfl rfl rfl qE λA3 H7 hS8=> ?_;simp only[RT]at hS8;simp only[↓RA,RZ,simprocAttr,hn,q1];refine hS8.aa 3 rfl [I (lX rks (jA g.draws i) key).1,I (lX rks (jA g.draws i) key).2] rfl rfl qE (by simp) λH8 hS9=> ?_;simp only[RT]at hS9;simp only[↓RA,RZ,simprocAttr,hn,q1];refine kM (λq2=> ?_) (λq2=> ?_);(·skip;simp only[↓RA,RZ,simprocAttr,hn,g7,hS9.aq 3 rfl,q1,q2];refine hS9.ab [I (lX rks (jA g.draws i) key).1,I (lX rks (jA g.draws i) key).2] a3f b2Q rfl rfl (by simp[Value.cells]) rfl rfl (by decide) (by decide) λw1 H9 hS10=> ?_;simp only[RT]at hS10;simp only[↓RA,RZ,simprocAttr,hn,q1,q2];refine hS10.ai 1 rfl (hS10.rd 4 rfl) a3f (by rw[kD];simp;omega) λw2 H10 hS11=> ?_;simp only[RT]at hS11;simp(disch:=omega) only[↓RA,RZ,simprocAttr,hn,g0,g2,g6,g15,g16,g17,q1,q2];refine⟨n-1,by omega,i+1,w2,by omega,by simp,rfl,?_⟩;rw[htk,fx,ec,rW];(have e:([jA g.draws i].filter λd=>nA rks d key)=[jA g.draws i]:=by simp[q2]);rw[e];exact hS11.pick [0,1] (by decide) rfl);simp(disch:=omega) only[↓RA,RZ,simprocAttr,hn,g0,g2,g6,g15,g16,g17,g7,q1,q2];refine⟨n-1,by omega,i+1,ov,by omega,by simp,rfl,?_⟩;rw[htk,fx,ec,rW];(have e:([jA g.draws i].filter λd=>nA rks d key)=[]:=by simp[q2]);rw[e];simp only[pr,List.map_nil,List.flatMap_nil,dY];exact hS9.pick [0,1] (by decide) rfl)
 simp only[↓RA,RZ,simprocAttr,hn,g7,q1];(have hii:i=g.draws.length:=by omega);subst hii;(have hfl:((g.draws.filter λd=>nA rks d key).map λd=>lX rks d key).length<=8:=by rw[fS];exact dW (ed _ _) hg8);rw[fH]at hS4;have hM1:=hS4.pick (os':=[⟨ov,2,_⟩]) [1] (by decide) rfl;have hR1:=hS4.pick (os':=[⟨ov,2,_⟩,⟨ptr A1 0 4,0,_⟩]) [1,0] (by decide) rfl;refine jG (b4F (es:=(g.draws.filter λd=>nA rks d key).map λd=>lX rks d key) hM1.aN (by omega)) ?_;rintro r H11⟨rest,hb,hrd,hT3⟩;have hS12:=hR1.frame hT3;simp only[RT]at hS12;have hrr:=hrd _ (hS12.rd 0 rfl);have hrc:=hrr.cells;simp only[↓RA,RZ,simprocAttr,hn,c7Y,q1];refine⟨⟨⟨?_,a2u,by decide⟩,λb h=> ?_⟩,hS12.forget⟩;(·unfold lR;rw[<-hgd];exact hrr);·rcases hS12.new _ (eE ..) b (hb b h)with h|h;(·exact h);·exact h.elim
end Go.Ds
namespace Go.Ds
open Go.Proofs
variable {H:Heap}
theorem a9Z:jY (.map none)=true:=rfl
theorem c4v{α:Type}[Inhabited α][DecidableEq α](l:List α):(dd l).length<=l.length:=c2x l l.length
theorem a4z(rs:List Rk)(s:Stp)(key:Int)(h:∀g∈s.segs,g.draws.length<=8):(lR rs s key).length<=8:=by unfold lR;refine dW (c4v _) ?_;rw[a2v,fS];refine dW (ed _ _) ?_;unfold segK;split;(·simp);·exact h _ (jD (zG (p:=rE s key) (n:=s.segs.length) (by omega)))
end Go.Ds
namespace Go.Ds
open Go.Proofs
structure Ctl where
 kind:Int
 dv:Int
 ix:Int
 deriving Inhabited,DecidableEq
def Ctl.cells(c:Ctl):List Value:=[I c.kind,I c.dv,I c.ix]
end Go.Ds
namespace Go.Ds
open Go.Proofs
variable {H:Heap}
theorem Lp.left{P:Program}{B:Base}{L:Nat}{r:Loop}{ls rest:List Ob}(h:Lp P B L r H (ls++rest)):Lp P B L r H ls:=h.sub (fZ _ _)
theorem OwnAt.var{P:Program}{A n:Nat}{cs:List Value}(h:OwnAt P H ⟨ptr A 0 n,0,cs⟩):Var H A n cs:=by unfold OwnAt at h;rw[if_pos rfl]at h;rcases h with⟨A',ty,lo,ver,h1,h2,h3⟩|⟨A',es,ck,ver,_,_,h3,_⟩;(·simp only[ptr,Value.pointer.injEq,dV,Addr.mk.injEq]at h3;obtain⟨rfl,_,hn⟩:=h3;exact⟨hn,ty,true,lo,ver,h1,h2⟩);·cases h3
structure Pv where
 v:Value
 l:List Ct
 deriving Inhabited
def Pv.cells(p:Pv):List Value:=[p.v]
def Pv.Ix(H:Heap)(X:Nat->Prop)(p:Pv):Prop:=Slx 2 kN H X p.v p.l
theorem Pv.Ix.step{H':Heap}{X Y:Nat->Prop}{p:Pv}(h:p.Ix H X)(hk:Kept H X H' Y):p.Ix H' Y:=Slx.step h hk
theorem Kept.and{H':Heap}{X Y:Nat->Prop}(Q:Nat->Prop)(h:Kept H X H' Y):Kept H (λB=>Q B∧X B) H' (λB=>Q B∧Y B):=λB hX hB=>⟨(h B hX.2 hB).1,hX.1,(h B hX.2 hB).2⟩
theorem Fn.tr{P:Program}{k:FuncId}{args:List Value}{R:Value->Heap->Prop}(h:Fn P k args H R):Fn P k args H λv H'=>True∧R v H':=by simpa using h
theorem St.cr{P:Program}{H0:Base}{os:List Ob}(hS:St P H0 H os){t:TypeId}{size bytes:Nat}{K:Value->Heap->Prop}(ha:nV P t=some (size+1,bytes))(h:∀v H1,St P H0 H1 (os++[⟨v,size+1,[]⟩])->K v H1):tU P H t 0 [] K:=by
 unfold nV at ha;cases he:jI P t with| none=>rw[he]at ha;cases ha| some elem=>rw[he]at ha;simp only[dD]at ha;cases hsz2:jF P elem with| none=>rw[hsz2]at ha;cases ha| some sz=>rw[hsz2]at ha;simp only[dD]at ha;cases hby:oP P elem with| none=>rw[hby]at ha;cases ha| some by'=>rw[hby]at ha;simp only[dD]at ha;cases hz2:jX P elem with| none=>rw[hz2]at ha;cases ha| some z=>rw[hz2]at ha;simp only[dD]at ha;split at ha;(case isFalse=>cases ha);simp only[dV,iz]at ha;obtain⟨rfl,rfl⟩:=ha;refine⟨.slice (some ⟨H.length,0,some 0⟩) 0 (size+1),tF H elem [],?_,h _ _ (hS.add ?_ ?_ ?_ ?_)⟩;(·unfold a0u;simp only[he,hsz2,hz2,dD];rw[if_pos (by simp)]);(·rw[mL];unfold OwnAt;rw[if_neg (ft _)];exact .inr ⟨_,0,elem,_,0,[],0,jJ H _,by simp,rfl,by simp,by simp,hsz2⟩);(·rw[mL];simp[pZ]);(·rw[mL];exact λB hB=>kF _ hB);·intro B hB;simp[blk]at hB;omega
theorem c5n(i:Nat)(hi:i<64):IntKind.wrap .u64 (1*2^min i (IntKind.bits .u64))=((2^i:Nat):Int):=by have e:IntKind.bits .u64=64:=rfl;rw[e,gO (by omega),Int.one_mul];(have h1:((2^i:Nat):Int)=2^i:=by simp);rw[<-h1];have h2:2^i<=2^63:=fc (by decide) (by omega);have h5:((2^i:Nat):Int)<=((2^63:Nat):Int):=Int.ofNat_le.2 h2;exact a0a _ (Int.natCast_nonneg _) (Int.lt_of_le_of_lt h5 (by decide))
end Go.Ds
namespace Go.Ds
open Go.Proofs Go.Proofs.Tryz
variable {H:Heap}
theorem a9n{α:Type}[Inhabited α]{xs ys:List α}(hl:xs.length=ys.length)(h:∀j,j<xs.length->jA xs j=jA ys j):xs=ys:=by apply List.ext_getElem hl;intro j h1 h2;have:=h j h1;rwa [kE xs j h1,kE ys j h2]at this
theorem b6B(v w:Value)(xs ys:List Ct)(hv:Sl 2 kN H v xs)(hw:Sl 2 kN H w ys)(hl:xs.length<1000000000)(hl2:ys.length<1000000000): Fn prog 28 [v,w] H λr H'=>r=.bool (decide (xs=ys))∧St prog H H' []:=by
 refine .aE func28 rfl (by kernel_rfl) (m:=26) rfl λl hn g0 g1=> ?_;simp only[↓RA,RZ,simprocAttr,hn,g0,g1,((sR H).sl hv).len,((sR H).sl hw).len];refine jB (λh1=> ?_) (λh1=> ?_);(·simp only[↓RA,RZ,simprocAttr,hn,c3W,h1];exact⟨by rw[decide_eq_false];intro e;rw[e]at h1;exact h1 rfl,(sR H)⟩);simp only[↓RA,RZ,simprocAttr,hn,g0,((sR H).sl hv).len,h1];refine Wp.aj (λn l H'=>l.length=26∧get l 0=v∧get l 1=w∧get l 12=I xs.length∧∃(j:Nat),(n+j=xs.length∧∀q,q<j->jA xs q=jA ys q)∧get l 13=I j∧St prog H H' []) xs.length ?_ ?_;(·simp only[RB,RC,simprocAttr,hn,g0,g1];exact⟨0,⟨by omega,λq hq=>absurd hq (eL _)⟩,rfl,(sR H)⟩);rintro n l H1⟨hn,g0,g1,g12,j,⟨hj,hz⟩,g13,hS1⟩;simp only[↓RA,RB,simprocAttr,hn,g12,g13];refine jB (λq1=> ?_) (λq1=> ?_);(·simp only[↓RA,RZ,simprocAttr,hn,g13,q1];refine Wp.drw lC (by kernel_rfl) ?_;simp(disch:=omega) only[↓RA,RZ,simprocAttr,hn,g0,g1,(hS1.sl hv).idx,(hS1.sl hv).aq,kN,(hS1.sl hw).idx,(hS1.sl hw).aq];refine jB (λq2=> ?_) (λq2=> ?_);(·simp only[↓RA,RZ,simprocAttr,hn,c3W,q2];refine⟨?_,hS1⟩;rw[decide_eq_false];intro e;rw[e]at q2;exact q2 ⟨rfl,rfl⟩);have q3:=eQ.1 q2;simp(disch:=omega) only[↓RA,RZ,simprocAttr,hn,g0,g1,g12,g13,q2];exact⟨n-1,by omega,j+1,⟨by omega,λq hq=>by rcases dT.1 hq with e|e;(· exact hz q e);(· rw[e];exact Prod.ext q3.1 q3.2)⟩,by simp,hS1⟩)
 simp only[↓RA,RZ,simprocAttr,hn,c3W,q1];exact⟨by rw[decide_eq_true];exact a9n (by omega) λq hq=>hz q (by omega),hS1⟩
def Pv.In(H:Heap)(p:Pv):Prop:=Sl 2 kN H p.v p.l
end Go.Ds
namespace Go.Ds
open Go.Proofs
variable {H:Heap}
end Go.Ds
