/-
  A part of the proof of SoundSpeaks.
-/
import Derived.Test.YtkklaffajfjopaaGreatDoorVC
import Derived.Test.YtkklaffajfjopaaGreatDoorVB
import Derived.Shelf.SlSortCmp.NoneTotal
import Derived.Shelf.SlGeneric
import Derived.Shelf.SlLaysF0
import Derived.Test.YtkklaffajfjopaaGreatDoorProg
set_option linter.unusedVariables false
set_option linter.unusedSimpArgs false
set_option linter.defProp false
set_option linter.unusedSectionVars false
namespace Go.Ds
open Go.Proofs Go.Proofs.Tryz
variable {H:Heap}
set_option maxRecDepth 10000
structure RPl where
 tone:Nat
 feet:Nat
 first:Int
 pipes:Nat
 w0:Nat
 w1:Nat
 w2:Nat
 w3:Nat
 w4:Nat
 deriving Inhabited
def RPl.cells(p:RPl):List Value:=[.int .u8 p.tone,.int .u8 p.feet,.int .i8 p.first,.int .u8 p.pipes,.int .u8 p.w0,.int .u8 p.w1,.int .u8 p.w2,.int .u8 p.w3,.int .u8 p.w4]
def RPl.Ok(p:RPl):Prop:=p.tone<256∧p.feet<256∧-128≤p.first∧p.first<128∧p.pipes<256∧p.w0<256∧p.w1<256∧p.w2<256∧p.w3<256∧p.w4<256
def RPl.wind(p:RPl)(j:Nat):Nat:=iB [p.w0,p.w1,p.w2,p.w3,p.w4] (j%5)
theorem RPl.Ok.wind{p:RPl}(hp:p.Ok)(j:Nat):p.wind j<256:=by
 obtain⟨_,_,_,_,_,h0,h1,h2,h3,h4⟩:=hp
 have:j%5=0∨j%5=1∨j%5=2∨j%5=3∨j%5=4:=by omega
 unfold RPl.wind
 rcases this with e|e|e|e|e<;>rw[e]<;>assumption
def tP:List ByteArray:=[⟨#[79,112,101,110]⟩,⟨#[70,108,117,116,101]⟩,⟨#[82,101,101,100]⟩]
theorem b4c(p:RPl)(hp:p.Ok)(i:Nat)(hi:i<10):Fn prog 34 [.agg #[.int .u8 p.tone,.int .u8 p.feet,.int .i8 p.first,.int .u8 p.pipes,.int .u8 p.w0,.int .u8 p.w1,.int .u8 p.w2,.int .u8 p.w3,.int .u8 p.w4],I i] H fun r H'=>
 ∃wv,r=.agg #[.string ⟨#[82,UInt8.ofNat (48+i)]⟩,.string (iB tP (p.tone%3)),I (iB lA (p.feet%16)).1,I (iB lA (p.feet%16)).2,I p.first,wv]∧
  St prog H H' [⟨wv,1,(List.range (1+p.pipes%25)).map fun j=>I (p.wind j)⟩]:=by
 have hwb:=fun j=>hp.wind j
 obtain⟨h1,h2,h3,h4,h5,_⟩:=hp
 refine .aF func34 rfl (by kernel_rfl) (m:=48) rfl fun l hn g0 g1=> ?_
 have hm:(i:Int).tmod 10=i:=((eh i 10).symm).trans (by rw[gx hi])
 have ht:(p.tone:Int).tmod 3=((p.tone%3:Nat):Int):=(eh p.tone 3).symm
 have ht3:p.tone%3<3:=eM _ (by decide)
 have htl:tP.length=3:=rfl
 simp(disch:=omega) only[↓RA,RB,simprocAttr,g0]
 refine(sR H).eNew 9 [(.int .u8 p.tone),(.int .u8 p.feet),(.int .i8 p.first),(.int .u8 p.pipes),(.int .u8 p.w0),(.int .u8 p.w1),(.int .u8 p.w2),(.int .u8 p.w3),(.int .u8 p.w4)] rfl rfl rfl b5E fun A1 H1 hS1=> ?_
 simp only[RT]at hS1
 simp(disch:=omega) only[↓RA,RZ,simprocAttr]
 refine hS1.eNew 6 [(.string ⟨#[]⟩),(.string ⟨#[]⟩),I 0,I 0,I 0,(.slice none 0 0)] rfl rfl rfl tX fun A2 H2 hS2=> ?_
 simp only[RT]at hS2
 simp(disch:=omega) only[↓RA,simprocAttr]
 refine Wp.cb jW [13,14,15,16,17,18,0,1,2,3,4,5,6,7,8,9,10,11,12,19,20,21] [6,7,8,9,10,11,12,13,14,15,16,17,18,0,1,2,3,4,5,19,20,21] ⟨true,[],[(11,10),(17,13),(18,13)]⟩ [(4,0),(5,0),(9,0),(15,0),(15,3)] (by kernel_rfl) (by kernel_rfl) (by kernel_rfl) ?_
 simp(disch:=omega) only[↓RA,RZ,simprocAttr,hn,hS2.ld 0 rfl]
 refine hS2.cF (a7x p.feet) fun H3 hS3=> ?_
 simp(disch:=omega) only[↓RA,RZ,simprocAttr,hn,g1,hS3.ld 0 rfl,hm]
 refine hS3.ag [_] b1K b1z rfl rfl (by simp[Value.cells]) rfl rfl (by decide) (by decide) fun w1 H4 hS4=> ?_
 simp only[RT]at hS4
 simp(disch:=omega) only[↓RA,RB,simprocAttr,hn,vP (hS4.rd 2 rfl) nM.1 nM.2.1 nM.2.2,sY]
 refine hS4.ag [(.string ⟨#[79,112,101,110]⟩),(.string ⟨#[70,108,117,116,101]⟩),(.string ⟨#[82,101,101,100]⟩)] c4X c4a rfl rfl (by simp[Value.cells]) rfl rfl (by decide) (by decide) fun w2 H5 hS5=> ?_
 simp only[RT]at hS5
 simp(disch:=omega) only[↓RA,RZ,simprocAttr,hn,hS5.ld 0 rfl,ht]
 have hR:St prog H H5 [⟨ptr A1 0 9,0,_⟩,⟨ptr A2 0 6,0,_⟩,⟨w1,1,_⟩,⟨w2,1,tP.flatMap (one Value.string)⟩]:=hS5
 simp(disch:=omega) only[↓RA,RZ,simprocAttr,hn,(hR.av 3 rfl (tF _)).idx,(hR.av 3 rfl (tF _)).ld,one,a5q]
 refine hR.eNew 6 [(.string ⟨#[]⟩),(.string ⟨#[]⟩),I 0,I 0,I 0,(.slice none 0 0)] rfl rfl rfl tX fun A3 H6 hS6=> ?_
 simp only[RT]at hS6
 simp(disch:=omega) only[↓RA,RB,simprocAttr,hn]
 refine hS6.aa 4 rfl [(.string ⟨#[82,UInt8.ofNat (48+(i:Int)).toNat]⟩),(.string (iB tP (p.tone%3:Nat))),I (iB lA (p.feet%16)).1,I (iB lA (p.feet%16)).2,_,(.slice none 0 0)] rfl rfl tX (by simp) fun H7 hS7=> ?_
 simp only[RT]at hS7
 simp(disch:=omega) only[↓RA,RZ,simprocAttr,hn,hS2.ld 0 rfl,hS3.ld 0 rfl]
 have hN:St prog H H7 [⟨ptr A1 0 9,0,_⟩,⟨ptr A2 0 6,0,_⟩,⟨ptr A3 0 6,0,[.string ⟨#[82,UInt8.ofNat (48+(i:Int)).toNat]⟩,.string (iB tP (p.tone%3)),I (iB lA (p.feet%16)).1,I (iB lA (p.feet%16)).2,I p.first,.slice none 0 0]⟩,⟨.slice none 0 0,1,[]⟩]:=(hS7.nil 0).pick [0,1,4,5] (by decide) rfl
 refine Wp.aj (fun n l H'=>l.length=48∧get l 2=(ptr A1 0 9)∧get l 4=(ptr A2 0 6)∧get l 5=(ptr A3 0 6)∧∃(j:Nat)(wv:Value),(n+j=1+p.pipes%25)∧get l 6=I j∧St prog H H' [⟨ptr A1 0 9,0,[(.int .u8 p.tone),(.int .u8 p.feet),(.int .i8 p.first),(.int .u8 p.pipes),(.int .u8 p.w0),(.int .u8 p.w1),(.int .u8 p.w2),(.int .u8 p.w3),(.int .u8 p.w4)]⟩,⟨ptr A2 0 6,0,[(.string ⟨#[]⟩),(.string ⟨#[]⟩),I 0,I 0,I 0,(.slice none 0 0)]⟩,⟨ptr A3 0 6,0,[.string ⟨#[82,UInt8.ofNat (48+(i:Int)).toNat]⟩,.string (iB tP (p.tone%3)),I (iB lA (p.feet%16)).1,I (iB lA (p.feet%16)).2,I p.first,wv]⟩,⟨wv,1,(List.range j).map fun q=>I (p.wind q)⟩]) (1+p.pipes%25) ?_ ?_
 ·simp(disch:=omega) only[RB,RC,simprocAttr,hn]
  exact⟨0,_,by omega,rfl,hN⟩
 rintro n l H8⟨hn,g2,g4,g5,j,wv,hj,g6,hS8⟩
 have hpp:(p.pipes:Int).tmod 25=((p.pipes%25:Nat):Int):=(eh p.pipes 25).symm
 have hj5:(j:Int).tmod 5=((j%5:Nat):Int):=(eh j 5).symm
 have hw:(p.cells)[4+j%5]? =some (.int .u8 (p.wind j)):=by
  have:j%5=0∨j%5=1∨j%5=2∨j%5=3∨j%5=4:=by omega
  unfold RPl.wind
  rcases this with e|e|e|e|e<;>rw[e]<;>rfl
 simp only[RPl.cells]at hw
 have hwj:=hwb j
 simp(disch:=omega) only[↓RA,RZ,simprocAttr,hn,g2,g6,hS8.ld 0 rfl,hpp]
 refine iA (fun q=> ?_) (fun q=> ?_)
 ·simp(disch:=omega) only[↓RA,RC,simprocAttr,q]
  refine Wp.aQ jW [(1,9)] (by kernel_rfl) (by kernel_rfl) ?_
  simp(disch:=omega) only[↓RA,RZ,simprocAttr,hn,g2,g5,g6,hS8.ld 2 rfl,hS8.ld 0 rfl,hw,hj5]
  refine hS8.ag [_] a2u a7y rfl rfl (by simp[Value.cells]) rfl rfl (by decide) (by decide) fun w3 H9 hS9=> ?_
  simp only[RT]at hS9
  simp(disch:=omega) only[↓RA,RZ,simprocAttr,hn]
  refine hS9.aq 3 rfl (hS9.rd 4 rfl) a2u (by first|(simp;done)|(simp;omega)) fun w4 H10 hS10=> ?_
  simp only[RT]at hS10
  simp(disch:=omega) only[↓RA,RZ,simprocAttr,hn,g5]
  refine hS10.aa 2 rfl [w4] (by rw[(hS10.rd 3 rfl).cells.1]) (by simp[(hS10.rd 3 rfl).cells.2.1]) c0K (by simp) fun H11 hS11=> ?_
  simp only[RT]at hS11
  simp(disch:=omega) only[↓RA,RZ,simprocAttr,hn,g2,g4,g5,g6,hS9.ld 2 rfl]
  refine⟨n-1,by omega,j+1,w4,by omega,rfl,?_⟩
  rw[dZ,dM]
  exact hS11.pick [0,1,2,3] (by decide) rfl
 simp(disch:=omega) only[↓RA,RZ,simprocAttr,hn,g4,g5,hS8.ai 2 rfl,q]
 refine hS8.aa 1 rfl [(.string ⟨#[82,UInt8.ofNat (48+(i:Int)).toNat]⟩),(.string (iB tP (p.tone%3))),I (iB lA (p.feet%16)).1,I (iB lA (p.feet%16)).2,I p.first,wv] rfl (by simp[OC,(hS8.rd 3 rfl).cells.2.1]) tX (by simp) fun H12 hS12=> ?_
 simp only[RT]at hS12
 simp(disch:=omega) only[↓RA,RZ,simprocAttr,g4,c7M,hS12.ai 1 rfl,q]
 have hjj:j=1+p.pipes%25:=by omega
 subst hjj
 have he:(48+(i:Int)).toNat=48+i:=by omega
 exact⟨wv,by rw[he],hS12.pick [3] (by decide) rfl⟩
end Go.Ds
namespace Go.Ds
open Go.Proofs
variable {P:Program} {H:Heap} {α:Type} {n:Nat} {cel:α→List Value} {v:Value} {xs:List α} {X Y:Nat→Prop}
theorem RdAt.lt{size:Nat}{cs:List Value}(h:RdAt H v size cs){B:Nat}(hb:kI v=some B):B<H.length:=by
 rcases h with⟨h1,_⟩|⟨A,i,e,row,ty,rw,lo,ver,n,h,_,_,_,_,_,h7⟩
 ·rw[h1]at hb;simp[kI]at hb
 ·rw[h7]at hb
  simp[kI]at hb
  exact hb▸jK h
theorem RdAt.cA{H':Heap}{size:Nat}{cs:List Value}(h:RdAt H v size cs)(hk:∀B,kI v=some B→iR H' B=iR H B):RdAt H' v size cs:=by
 rcases h with h|⟨A,i,e,row,ty,rw,lo,ver,n,h,h2,h3,h4,h5,h6,h7⟩
 ·exact .inl h
 ·exact .inr ⟨A,i,e,row,ty,rw,lo,ver,n,by rw[hk A (by rw[h7];rfl),h],h2,h3,h4,h5,h6,h7⟩
theorem St.aB{B0:Base}{os:List Ob}(hS:St P B0 H os):∃B:Base,B=⟨H,rT os⟩∧St P B H os:=⟨_,rfl,hS.ay⟩
theorem St.ab{B0 B:Base}{H1:Heap}{os os1:List Ob}(hS:St P B0 H os)(hB:B=⟨H,rT os⟩)(h1:St P B H1 os1):St P B0 H1 os1:=by
 subst hB
 exact hS.bu h1
def Slx(n:Nat)(cel:α→List Value)(H:Heap)(X:Nat→Prop)(v:Value)(xs:List α):Prop:=Sl n cel H v xs∧∀B,kI v=some B→X B
def Kept(H:Heap)(X:Nat→Prop)(H':Heap)(Y:Nat→Prop):Prop:=∀B,X B→B<H.length→iR H' B=iR H B∧Y B
theorem Slx.step{H':Heap}(h:Slx n cel H X v xs)(hk:Kept H X H' Y):Slx n cel H' Y v xs:=
 ⟨⟨h.1.rd.cA fun B hb=>(hk B (h.2 B hb) (h.1.rd.lt hb)).1,h.1.hc,h.1.pos⟩,fun B hb=>(hk B (h.2 B hb) (h.1.rd.lt hb)).2⟩
def nb(vs:List Value):Nat→Prop:=fun B=>∀v∈vs,kI v≠some B
theorem a9u(os:List Ob)(B:Nat):nb (os.map (·.v)) B↔¬rT os B:=by
 unfold nb rT
 constructor
 ·rintro h⟨o,ho,hb⟩
  exact h o.v (fK ho) hb
 ·intro h v hv hb
  obtain⟨o,ho,rfl⟩:=dr.1 hv
  exact h ⟨o,ho,hb⟩
theorem St.kept{B:Base}{H':Heap}{os os':List Ob}(hS:St P B H' os')(hB:B=⟨H,rT os⟩):Kept H (nb (os.map (·.v))) H' (nb (os'.map (·.v))):=by
 subst hB
 intro B hX hB
 rw[a9u]at hX ⊢
 exact⟨hS.old B hB hX,fun⟨o,ho,hb⟩=>by
  rcases hS.new o ho B hb with h|h
  ·have h:H.length≤B:=h
   omega
  ·exact hX h⟩
theorem St.aW{H0:Base}{H':Heap}{os:List Ob}(hS:St P H0 H os):Kept H' (fun B=>H.length≤B) H' (nb (os.map (·.v))):=by
 intro B hX hB
 rw[a9u]
 exact⟨rfl,fun⟨o,ho,hb⟩=>by
  have:=(hS.own o ho).lt hb
  omega⟩
theorem Kept.trans{H' H'':Heap}{X Y Z:Nat→Prop}(h:Kept H X H' Y)(h':Kept H' Y H'' Z)(hl:H.length≤H'.length):Kept H X H'' Z:=
 fun B hX hB=>by
  obtain⟨e,hY⟩:=h B hX hB
  obtain⟨e',hZ⟩:=h' B hY (dF hB hl)
  exact⟨e'.trans e,hZ⟩
theorem Slx.any(h:Slx n cel H X v xs):Slx n cel H (fun _=>True) v xs:=⟨h.1,fun _ _=>trivial⟩
theorem St.cO{H0:Base}{os os':List Ob}(hS:St P H0 H os)(i:Nat){m:Nat}(ho:os[i]? =some ⟨v,m+1,xs.flatMap cel⟩)(hc:∀x,(cel x).length=m+1)(idx:List Nat)(hi:i∉idx)(h:idx.map (os[·]?)=os'.map some):
 Slx (m+1) cel H (nb (os'.map (·.v))) v xs:=by
 refine⟨hS.av i ho hc,fun B hb=> ?_⟩
 rw[a9u]
 rintro⟨o,hmem,hob⟩
 have:some o∈idx.map (os[·]?):=by rw[h];exact fK hmem
 obtain⟨j,hj,hj2⟩:=dr.1 this
 have hne:i≠j:=fun e=>hi (e▸hj)
 have hpw:=eG.1 hS.sep
 obtain⟨hi1,ei⟩:=dp.1 ho
 obtain⟨hj1,ej⟩:=dp.1 hj2
 rcases fL hne with hh|hh
 ·have:=hpw i j hi1 hj1 hh B (by rw[ei];exact hb)
  rw[ej]at this
  exact this hob
 ·have:=hpw j i hj1 hi1 hh B (by rw[ej];exact hob)
  rw[ei]at this
  exact this hb
theorem St.cB{H0:Heap}{os:List Ob}(hS:St P H0 H os)(i:Nat){m:Nat}(ho:os[i]? =some ⟨v,m+1,xs.flatMap cel⟩)(hc:∀x,(cel x).length=m+1):Slx (m+1) cel H (fun B=>H0.length≤B) v xs:=
 ⟨hS.av i ho hc,fun B hb=>by
  rcases hS.new _ (dJ ho) B hb with h|h
  ·exact h
  ·exact h.elim⟩
def Seg.Ix(H:Heap)(X:Nat→Prop)(s:Seg):Prop:=Slx 2 Drw.cells H X s.dv s.draws∧s.draws.length<1000000000
def Stp.Ix(H:Heap)(X:Nat→Prop)(s:Stp):Prop:=Slx 3 Seg.cells H X s.gv s.segs∧(∀g∈s.segs,g.Ix H X)∧s.segs.length<1000000000
def Dvn.Ix(H:Heap)(X:Nat→Prop)(d:Dvn):Prop:=Slx 4 Stp.cells H X d.sv d.stops∧(∀s∈d.stops,s.Ix H X)∧d.stops.length<1000000000
def Rk.Ix(H:Heap)(X:Nat→Prop)(r:Rk):Prop:=Slx 1 (one I) H X r.wv r.wind∧r.wind.length<1000000000
section
variable {H':Heap}
theorem Seg.Ix.step{s:Seg}(h:s.Ix H X)(hk:Kept H X H' Y):s.Ix H' Y:=⟨h.1.step hk,h.2⟩
theorem Stp.Ix.step{s:Stp}(h:s.Ix H X)(hk:Kept H X H' Y):s.Ix H' Y:=⟨h.1.step hk,fun g hg=>(h.2.1 g hg).step hk,h.2.2⟩
theorem Dvn.Ix.step{d:Dvn}(h:d.Ix H X)(hk:Kept H X H' Y):d.Ix H' Y:=⟨h.1.step hk,fun g hg=>(h.2.1 g hg).step hk,h.2.2⟩
theorem Rk.Ix.step{r:Rk}(h:r.Ix H X)(hk:Kept H X H' Y):r.Ix H' Y:=⟨h.1.step hk,h.2⟩
theorem Seg.Ix.in{s:Seg}(h:s.Ix H X):s.In H:=⟨h.1.1,h.2⟩
theorem Stp.Ix.in{s:Stp}(h:s.Ix H X):s.In H:=⟨h.1.1,fun g hg=>(h.2.1 g hg).in,h.2.2⟩
theorem Dvn.Ix.in{d:Dvn}(h:d.Ix H X):d.In H:=⟨h.1.1,fun g hg=>(h.2.1 g hg).in,h.2.2⟩
theorem Rk.Ix.in{r:Rk}(h:r.Ix H X):r.In H:=⟨h.1.1,h.2⟩
end
theorem yC{α:Type}(f:α→Value)(l:List α):l.flatMap (one f)=l.map f:=by
 induction l with
 | nil=>rfl
 | cons a l ih=>rw[du,ih];rfl
end Go.Ds
namespace Go.Ds
open Go.Proofs
theorem b0H(m:Nat)(n s:Int)(h0:0≤n)(h1:n<m)(h2: -127≤s)(h3:s≤127):kT m [⟨n,s⟩]=0:=by
 rw[kT,if_neg (by simp)]
 refine kS _ _ fun j hj=> ?_
 have hj0:j=0:=by simpa using hj
 subst hj0
 have e:iB ([⟨n,s⟩]:List Drw) 0=⟨n,s⟩:=rfl
 unfold kL
 rw[e,if_neg (by simp only;omega),if_neg (by simp only;omega),if_neg (by simp)]
theorem c2e(m:Nat)(n s t:Int)(h0:0≤n)(h1:n<m)(h2: -127≤s)(h3:s≤127)(h4: -127≤t)(h5:t≤127)(hne:s≠t):kT m [⟨n,s⟩,⟨n,t⟩]=0:=by
 rw[kT,if_neg (by simp)]
 refine kS _ _ fun j hj=> ?_
 have hj0:j=0∨j=1:=by
  have:j<2:=by simpa using hj
  omega
 rcases hj0 with rfl|rfl
 ·have e:iB ([⟨n,s⟩,⟨n,t⟩]:List Drw) 0=⟨n,s⟩:=rfl
  unfold kL
  rw[e,if_neg (by simp only;omega),if_neg (by simp only;omega),if_neg (by simp)]
 ·have e:iB ([⟨n,s⟩,⟨n,t⟩]:List Drw) 1=⟨n,t⟩:=rfl
  unfold kL
  rw[e,if_neg (by simp only;omega),if_neg (by simp only;omega),if_neg (by simp[eY hne])]
theorem a8e(lo hi a b:Int)(m:Nat)(dv:Value)(ds:List Drw)(h1:lo≤a)(h2:a≤b)(h3:b≤hi)(hd:kT m ds=0):lO (kW lo hi m [⟨a,b,dv,ds⟩]) 1=0:=by
 refine kS _ _ fun j hj=> ?_
 have hj0:j=0:=by omega
 subst hj0
 have e:iB ([⟨a,b,dv,ds⟩]:List Seg) 0=⟨a,b,dv,ds⟩:=rfl
 unfold kW
 rw[e,if_neg (by simp only;omega),if_neg (by simp only;omega)]
 exact hd
theorem c1n(lo hi c:Int)(m:Nat)(dv dv':Value)(ds ds':List Drw)(h1:lo<c)(h2:c≤hi)(hd:kT m ds=0)(hd':kT m ds'=0):lO (kW lo hi m [⟨lo,c-1,dv,ds⟩,⟨c,hi,dv',ds'⟩]) 2=0:=by
 refine kS _ _ fun j hj=> ?_
 have e0:iB ([⟨lo,c-1,dv,ds⟩,⟨c,hi,dv',ds'⟩]:List Seg) 0=⟨lo,c-1,dv,ds⟩:=rfl
 have e1:iB ([⟨lo,c-1,dv,ds⟩,⟨c,hi,dv',ds'⟩]:List Seg) 1=⟨c,hi,dv',ds'⟩:=rfl
 have hj0:j=0∨j=1:=by omega
 rcases hj0 with rfl|rfl
 ·unfold kW
  rw[e0,if_neg (by simp only;omega),if_neg (by simp only;omega)]
  exact hd
 ·unfold kW
  rw[e1,show(1:Nat)-1=0 from rfl,e0,if_neg (by simp only;omega),if_neg (by simp only;omega)]
  exact hd'
def nm(c:UInt8)(i:Nat):ByteArray:=⟨#[c,UInt8.ofNat (48+i)]⟩
theorem a5D{c:UInt8}{i j:Nat}(hi:i<10)(hj:j<10)(h:nm c i=nm c j):i=j:=by
 unfold nm at h
 have h2:(#[c,UInt8.ofNat (48+i)]:Array UInt8)=#[c,UInt8.ofNat (48+j)]:=congrArg ByteArray.data h
 have h3:UInt8.ofNat (48+i)=UInt8.ofNat (48+j):=by simpa using h2
 have h4:=congrArg UInt8.toNat h3
 simp only[UInt8.toNat_ofNat']at h4
 omega
theorem a1B{c:UInt8}(hc:c=82∨c=68∨c=83∨c=67){i:Nat}(hi:i<10):kV (nm c i)=true:=by
 have h:i=0∨i=1∨i=2∨i=3∨i=4∨i=5∨i=6∨i=7∨i=8∨i=9:=by omega
 rcases hc with rfl|rfl|rfl|rfl<;>rcases h with rfl|rfl|rfl|rfl|rfl|rfl|rfl|rfl|rfl|rfl<;>decide
structure StpOk(m:Nat)(lo hi:Int)(i:Nat)(s:Stp):Prop where
 name:s.name=nm 83 i
 feet:(s.num,s.den)∈kY
 pos:0<s.segs.length
 len:s.segs.length≤2
 segs:lO (kW lo hi m s.segs) s.segs.length=0
theorem b5N{p:Int×Int}(h:p∈kY):mR p.1 p.2=0:=by
 have:kY.all (fun p=>decide (mR p.1 p.2=0))=true:=by decide
 exact of_decide_eq_true (dj.1 this p h)
theorem b8a{p:Int×Int}(h:p∈lA):mR p.1 p.2=0:=by
 have:lA.all (fun p=>decide (mR p.1 p.2=0))=true:=by decide
 exact of_decide_eq_true (dj.1 this p h)
theorem StpOk.stopE{rs:List Rk}{lo hi:Int}{i:Nat}{s:Stp}(h:StpOk rs.length lo hi i s)(hi10:i<10)(hp:sX rs lo hi=0):stopE rs lo hi s=0:=by
 unfold Go.Ds.stopE
 rw[if_neg (by rw[hp];simp),if_neg (by rw[h.name,a1B (by simp) hi10];simp),if_neg (by rw[b5N h.feet];simp),if_neg (by have:=h.pos;omega),if_neg (by have:=h.len;omega)]
 exact h.segs
structure RkOk(i:Nat)(r:Rk):Prop where
 name:r.name=nm 82 i
 tone:r.tone∈tP
 feet:(r.num,r.den)∈lA
 first: -128≤r.first∧r.first<128
 pos:0<r.wind.length
 len:r.wind.length≤25
 wind:∀x∈r.wind,0≤x∧x<256
theorem b6F{s:ByteArray}(h:s∈tP):kV s=true:=by
 have:tP.all (fun s=>kV s)=true:=by decide
 exact dj.1 this s h
theorem RkOk.rankE{i:Nat}{r:Rk}(h:RkOk i r)(hi:i<10):rankE r=0:=by
 have hf:=h.first
 have hp:=h.pos
 have hl:=h.len
 have hw:a0D r.wind=0:=by
  unfold a0D
  rw[if_neg]
  intro hh
  rw[gy]at hh
  obtain⟨x,hx,hp⟩:=hh
  have:=h.wind x hx
  simp only[eu,decide_eq_true_eq]at hp
  omega
 unfold Go.Ds.rankE
 rw[if_neg (by rw[h.name,a1B (by simp) hi,b6F h.tone];simp),if_neg (by rw[b8a h.feet];simp),if_neg (by omega),if_neg (by omega),if_neg (by omega),hw]
theorem a2t{lo hi:Int}(h0:0≤lo)(h1:lo≤hi)(h2:hi≤127):qT lo hi=0:=by
 unfold qT
 rw[if_neg (by omega),if_neg (by omega)]
theorem c2p{rs:List Rk}{lo hi:Int}(hl:rs.length≤3)(hr:∀j,j<rs.length→RkOk j (iB rs j))(h0:0≤lo)(h1:lo≤hi)(h2:hi≤127):sX rs lo hi=0:=by
 have e:=kS (fun j=>Go.Ds.rankE (iB rs j)) rs.length fun j hj=>(hr j hj).rankE (by omega)
 unfold sX
 rw[if_neg (by omega),if_neg (by rw[e];simp)]
 exact a2t h0 h1 h2
structure DvOk(m i:Nat)(d:Dvn):Prop where
 name:d.name=nm 68 i
 lo:36≤d.lo
 le:d.lo≤d.hi
 hi:d.hi≤60
 wide:d.hi≤d.lo+8
 len:d.stops.length≤3
 stops:∀k,k<d.stops.length→StpOk m d.lo d.hi k (iB d.stops k)
structure CpOk(n i:Nat)(c:Cpl):Prop where
 name:c.name=nm 67 i
 src:0≤c.src∧c.src<n
 dst:0≤c.dst∧c.dst<n
 shift: -24≤c.shift∧c.shift≤24
 ne:¬(c.src=c.dst∧c.shift=0)
def b5P:ByteArray:=⟨#[79,114,103,97,110]⟩
structure OrgOk(o:Org):Prop where
 name:o.name=b5P
 rpos:0<o.ranks.length
 rlen:o.ranks.length≤3
 ranks:∀j,j<o.ranks.length→RkOk j (iB o.ranks j)
 dpos:0<o.dvs.length
 dlen:o.dvs.length≤3
 dvs:∀j,j<o.dvs.length→DvOk o.ranks.length j (iB o.dvs j)
 clen:o.cpls.length≤3
 cpls:∀j,j<o.cpls.length→CpOk o.dvs.length j (iB o.cpls j)
theorem b3m:kV b5P=true:=by decide
theorem DvOk.divE{rs:List Rk}{i:Nat}{d:Dvn}(h:DvOk rs.length i d)(hl:rs.length≤3)(hr:∀j,j<rs.length→RkOk j (iB rs j)):divE rs d=0:=by
 have h1:=h.lo
 have h2:=h.le
 have h3:=h.hi
 have h4:=h.len
 unfold Go.Ds.divE
 rw[if_neg (by rw[a2t (by omega) h2 (by omega)];simp),if_neg (by omega)]
 refine kS _ _ fun j hj=> ?_
 have hs:=h.stops j hj
 unfold oO
 rw[if_neg (by rw[hs.stopE (by omega) (c2p hl hr (by omega) h2 (by omega))];simp),if_neg]
 rintro⟨q,hq,e⟩
 rw[hs.name,(h.stops q (by omega)).name]at e
 have:=a5D (by omega) (by omega) e
 omega
theorem OrgOk.organE{o:Org}(h:OrgOk o):organE o=0:=by
 have h1:=h.rpos
 have h2:=h.rlen
 have h3:=h.dpos
 have h4:=h.dlen
 have h5:=h.clen
 have e1:lO (nT o.ranks) o.ranks.length=0:=kS _ _ fun j hj=>by
  unfold nT
  rw[if_neg (by rw[(h.ranks j hj).rankE (by omega)];simp),if_neg]
  rintro⟨q,hq,e⟩
  rw[(h.ranks j hj).name,(h.ranks q (by omega)).name]at e
  have:=a5D (by omega) (by omega) e
  omega
 have e2:lO (sW o.ranks o.dvs) o.dvs.length=0:=kS _ _ fun j hj=>by
  unfold sW
  rw[if_neg (by rw[(h.dvs j hj).name,a1B (by simp) (by omega)];simp),if_neg]
  ·exact(h.dvs j hj).divE h2 h.ranks
  rintro⟨q,hq,e⟩
  rw[(h.dvs j hj).name,(h.dvs q (by omega)).name]at e
  have:=a5D (by omega) (by omega) e
  omega
 have e3:tQ (kps o.dvs) o.cpls=0:=by
  have hk:(kps o.dvs).length=o.dvs.length:=by simp[kps]
  unfold tQ
  rw[if_neg (by omega),if_neg]
  ·refine kS _ _ fun j hj=> ?_
   have hc:=h.cpls j hj
   have c1:=hc.src
   have c2:=hc.dst
   have c3:=hc.shift
   unfold mP
   simp only
   rw[if_neg (by rw[hc.name,a1B (by simp) (by omega)];simp),if_neg,if_neg (by rw[hk];omega),if_neg (by omega),if_neg hc.ne]
   rintro⟨q,hq,e⟩
   rw[hc.name,(h.cpls q (by omega)).name]at e
   have:=a5D (by omega) (by omega) e
   omega
  ·rintro⟨k,hk,hne⟩
   unfold kps at hk
   obtain⟨d,hd,rfl⟩:=dr.1 hk
   obtain⟨j,hj,rfl⟩:=dO.1 hd
   have hd:=h.dvs j hj
   rw[kC o.dvs j hj]at hd
   have h1:=hd.lo
   have h2:=hd.le
   have h3:=hd.hi
   exact hne (a2t (by omega) h2 (by omega))
 unfold Go.Ds.organE
 rw[if_neg (by rw[h.name,b3m];simp),if_neg (by omega),if_neg (by rw[e1];simp),if_neg (by omega),if_neg (by omega),if_neg (by rw[e2];simp)]
 exact e3
def jV(x:Int×Int):List Value:=[I x.1,I x.2]
def pr(l:List (Int×Int)):List Value:=l.flatMap jV
theorem kF(x:Int×Int):(jV x).length=2:=rfl
theorem iI(l:List (Int×Int)):(pr l).length=l.length*2:=iL kF l
def le2(x y:Int×Int):Bool:=decide (x.1<y.1)||(decide (x.1=y.1)&&decide (x.2≤y.2))
theorem nO(x y:Int×Int):le2 x y=true↔x.1<y.1∨(x.1=y.1∧x.2≤y.2):=by
 unfold le2
 simp only[eu,cU,decide_eq_true_eq]
def oS(es:List (Int×Int)):List (Int×Int):=es.mergeSort le2
theorem mU(es:List (Int×Int)):(oS es).Perm es:=List.mergeSort_perm _ _
theorem mM(es:List (Int×Int)):(oS es).length=es.length:=(mU es).length_eq
theorem tB(es:List (Int×Int)):(oS es).Pairwise fun a b=>le2 a b=true:=by
 unfold oS
 refine List.pairwise_mergeSort ?_ ?_ _
 ·intro a b c h1 h2
  rw[nO]at*
  omega
 ·intro a b
  rw[eu,nO,nO]
  omega
def cf2(x y:Int×Int):Int:=if x.1<y.1 then -1 else if y.1<x.1 then 1 else if x.2<y.2 then -1 else if y.2<x.2 then 1 else 0
def yW{α:Type}[Inhabited α][DecidableEq α](es:List α)(m:Nat):List α:=((List.range m).filter fun i=>decide (i=0∨iB es i≠iB es (i-1))).map fun i=>iB es i
def dd{α:Type}[Inhabited α][DecidableEq α](es:List α):List α:=yW es es.length
section
variable {α:Type} [Inhabited α] [DecidableEq α]
theorem rV(es:List α)(m:Nat):yW es (m+1)=yW es m++(if m=0∨iB es m≠iB es (m-1)then[iB es m]else[]):=by
 unfold yW
 rw[dZ,eN,dM]
 congr 1
 by_cases h:m=0∨iB es m≠iB es (m-1)
 ·rw[if_pos h]
  simp only[List.filter_cons,List.filter_nil,decide_eq_true h,if_true,ek,gi]
 ·rw[if_neg h]
  simp only[List.filter_cons,List.filter_nil,decide_eq_false h,dT,if_false,gi]
theorem c3O(es:List α)(m:Nat):(yW es m).length≤m:=by
 unfold yW
 rw[dK]
 refine dy (ee _ _) ?_
 simp
theorem lI(es:List α)(m:Nat)(h:m<es.length):es.take (m+1)=es.take m++[iB es m]:=by
 rw[kC es m h,List.take_succ_eq_append_getElem h]
theorem tI(es:List α):∀m,m≤es.length→(∀j,0<j→j<m→iB es j≠iB es (j-1))→yW es m=es.take m
 | 0,_,_=>by simp[yW]
 | m+1,hm,h=>by
   have ih:=tI es m (by omega) fun j h1 h2=>h j h1 (by omega)
   rw[rV,ih,lI es m (by omega),if_pos]
   by_cases h0:m=0
   ·exact .inl h0
   ·exact .inr (h m (by omega) (by omega))
end
theorem a3i{v:Value}{n lo k b:Nat}(h:kI (nA v n lo k)=some b):kI v=some b:=by
 unfold nA at h
 split at h<;>exact h
theorem jL(a b:List (Int×Int)):pr (a++b)=pr a++pr b:=dz
structure Reg where
 stops:List Nat
 cpl:Nat
 off:Nat
 deriving Inhabited,DecidableEq
def u64(n:Nat):Value:=.int .u64 n
def Reg.cells(r:Reg)(sv:Value):List Value:=[sv,u64 r.cpl,u64 r.off]
def Reg.Ok(r:Reg):Prop:=r.stops.length<1000000000∧(∀x∈r.stops,x<18446744073709551616)∧r.cpl<18446744073709551616∧r.off<18446744073709551616
def Reg.In(H:Heap)(r:Reg)(sv:Value):Prop:=Sl 1 (one u64) H sv r.stops∧r.Ok
theorem Reg.In.ak{P:Program}{H H0:Heap}{os:List Ob}{r:Reg}{sv:Value}(h:r.In H0 sv)(hS:St P H0 H os):r.In H sv:=⟨hS.sl h.1,h.2⟩
abbrev Ct:=Int×Int
abbrev oQ(n:Int):Int:=IntKind.wrap .i64 n
def nD(o:Org)(c:Ct):Bool:=decide (0≤c.1)&&decide (c.1<o.dvs.length)&&decide ((iB o.dvs c.1.toNat).lo≤c.2)&&decide (c.2≤(iB o.dvs c.1.toNat).hi)
def a2i(o:Org)(c:Ct):Int:=if c.1<0∨o.dvs.length≤c.1 then 10 else if c.2<(iB o.dvs c.1.toNat).lo∨(iB o.dvs c.1.toNat).hi<c.2 then 23 else 0
theorem yG(o:Org)(c:Ct):a2i o c=0↔nD o c=true:=by
 unfold a2i nD
 by_cases h1:c.1<0∨o.dvs.length≤c.1
 ·rw[if_pos h1]
  simp
  omega
 ·rw[if_neg h1]
  by_cases h2:c.2<(iB o.dvs c.1.toNat).lo∨(iB o.dvs c.1.toNat).hi<c.2
  ·rw[if_pos h2]
   simp
   omega
  ·rw[if_neg h2]
   simp
   omega
def to1(x:Cpl)(c:Ct):Ct:=(x.dst,oQ (c.2+x.shift))
def tG(cp:Nat)(thr:Bool)(c:Ct)(x:Cpl)(i:Nat):Bool:=cp.testBit i&&decide (x.src=c.1)&&(!thr||x.thr)
def step1(o:Org)(cp:Nat)(thr:Bool)(c:Ct)(q:List Ct)(i:Nat):List Ct:=
 if tG cp thr c (iB o.cpls i) i&&nD o (to1 (iB o.cpls i) c)&& !decide (to1 (iB o.cpls i) c∈q)then q++[to1 (iB o.cpls i) c]else q
def stepN(o:Org)(cp:Nat)(thr:Bool)(c:Ct)(q:List Ct)(n:Nat):List Ct:=(List.range n).foldl (step1 o cp thr c) q
def stepF(o:Org)(cp:Nat)(thr:Bool)(c:Ct)(q:List Ct):List Ct:=stepN o cp thr c q o.cpls.length
theorem lS(o:Org)(cp:Nat)(thr:Bool)(c:Ct)(q:List Ct)(n:Nat):stepN o cp thr c q (n+1)=step1 o cp thr c (stepN o cp thr c q n) n:=by
 unfold stepN
 rw[dZ,gu]
 rfl
def Que(o:Org)(q:List Ct):Prop:=q.Nodup∧∀c∈q,nD o c=true
theorem Que.nil(o:Org):Que o []:=⟨.nil,by simp⟩
theorem Que.step1{o:Org}{q:List Ct}(h:Que o q)(cp:Nat)(thr:Bool)(c:Ct)(i:Nat):Que o (step1 o cp thr c q i):=by
 unfold Go.Ds.step1
 split
 ·rename_i hh
  simp only[cU,dw,decide_eq_false_iff_not]at hh
  refine⟨?_,?_⟩
  ·rw[List.nodup_append]
   exact⟨h.1,by simp,fun a ha b hb e=>hh.2 (by simp at hb;rw[←hb,←e];exact ha)⟩
  ·intro x hx
   rcases dE.1 hx with hx|hx
   ·exact h.2 x hx
   ·simp at hx
    rw[hx]
    exact hh.1.2
 ·exact h
theorem Que.stepN{o:Org}{q:List Ct}(h:Que o q)(cp:Nat)(thr:Bool)(c:Ct):∀n,Que o (stepN o cp thr c q n)
 | 0=>h
 | n+1=>by rw[lS];exact(h.stepN cp thr c n).step1 cp thr c n
theorem Que.stepF{o:Org}{q:List Ct}(h:Que o q)(cp:Nat)(thr:Bool)(c:Ct):Que o (stepF o cp thr c q):=h.stepN cp thr c _
theorem a2Q:∀(N:Nat)(l:List Nat),l.Nodup→(∀i∈l,i<N)→l.length≤N
 | 0,l,hn,h=>by
   cases l with
   | nil=>simp
   | cons a l=>exact absurd (h a (by simp)) (dL _)
 | N+1,l,hn,h=>by
   have h1:(l.erase N).length≤N:=by
    refine a2Q N _ (hn.erase N) fun i hi=> ?_
    have h2:=(List.Nodup.mem_erase_iff hn).1 hi
    have:=h i h2.2
    omega
   rw[List.length_erase]at h1
   split at h1<;>omega
theorem nY{f:Nat→Int}{n:Nat}(h:lO f n=0):∀j,j<n→f j=0:=by
 intro j hj
 unfold lO at h
 cases hf:(List.range n).find? (fun j=>decide (f j≠0))with
 | some i=>
   rw[hf]at h
   have:=List.find?_some hf
   simp only[decide_eq_true_eq]at this
   exact absurd h this
 | none=>
   rw[gj]at hf
   have:=hf j (dq.2 hj)
   simpa using this
structure Org.Fine(o:Org):Prop where
 dpos:0<o.dvs.length
 dlen:o.dvs.length≤8
 rlen:o.ranks.length≤60
 keys:∀j,j<o.dvs.length→0≤(iB o.dvs j).lo∧(iB o.dvs j).lo≤(iB o.dvs j).hi∧(iB o.dvs j).hi≤127
 stops:∀j,j<o.dvs.length→(iB o.dvs j).stops.length≤60
 clen:o.cpls.length≤40
 draws:∀j,j<o.dvs.length→∀s∈(iB o.dvs j).stops,∀g∈s.segs,g.draws.length≤8
theorem Org.ba{o:Org}(h:organE o=0):o.Fine:=by
 unfold organE at h
 split at h
 ·omega
 split at h
 ·omega
 rename_i _ h2
 split at h
 ·rename_i hh;exact absurd h hh
 split at h
 ·omega
 rename_i h4
 split at h
 ·omega
 rename_i h5
 split at h
 ·rename_i hh;exact absurd h hh
 rename_i h6
 have h6:=dx.1 h6
 have hd:∀j,j<o.dvs.length→(0≤(iB o.dvs j).lo∧(iB o.dvs j).lo≤(iB o.dvs j).hi∧(iB o.dvs j).hi≤127)∧(iB o.dvs j).stops.length≤60∧∀s∈(iB o.dvs j).stops,∀g∈s.segs,g.draws.length≤8:=by
  intro j hj
  have e:=nY h6 j hj
  unfold sW at e
  split at e
  ·omega
  split at e
  ·omega
  unfold divE at e
  split at e
  ·rename_i hh;exact absurd e hh
  rename_i hc
  have hc:=dx.1 hc
  split at e
  ·omega
  unfold qT at hc
  split at hc
  ·omega
  split at hc
  ·omega
  refine⟨by omega,by omega,fun s hs g hg=> ?_⟩
  obtain⟨k,hk,rfl⟩:=dO.1 hs
  obtain⟨i,hi,rfl⟩:=dO.1 hg
  have e2:=nY e k hk
  unfold oO at e2
  rw[kC _ k hk]at e2
  split at e2
  ·rename_i hh;exact absurd e2 hh
  rename_i e3
  have e3:=dx.1 e3
  unfold stopE at e3
  split at e3
  ·rename_i hh;exact absurd e3 hh
  split at e3
  ·omega
  split at e3
  ·rename_i hh;exact absurd e3 hh
  split at e3
  ·omega
  split at e3
  ·omega
  have e4:=nY e3 i hi
  unfold kW at e4
  rw[kC _ i hi]at e4
  split at e4
  ·omega
  split at e4
  ·omega
  unfold kT at e4
  split at e4
  ·omega
  omega
 refine⟨by omega,by omega,by omega,fun j hj=>(hd j hj).1,fun j hj=>(hd j hj).2.1,?_,fun j hj=>(hd j hj).2.2⟩
 unfold tQ at h
 split at h<;>omega
theorem mE(o:Org)(c:Ct):nD o c=true↔0≤c.1∧c.1<o.dvs.length∧(iB o.dvs c.1.toNat).lo≤c.2∧c.2≤(iB o.dvs c.1.toNat).hi:=by
 unfold nD
 simp only[cU,decide_eq_true_eq,and_assoc]
theorem yJ{o:Org}(ho:o.Fine){c:Ct}(h:nD o c=true):0≤c.1∧c.1<8∧0≤c.2∧c.2≤127:=by
 have h:=(mE o c).1 h
 have hk:=ho.keys c.1.toNat (by omega)
 have:=ho.dlen
 omega
theorem Que.len{o:Org}{q:List Ct}(h:Que o q)(ho:o.Fine):q.length≤1024:=by
 have h1:=a2Q 1024 (q.map fun c=>c.1.toNat*128+c.2.toNat) ?_ ?_
 ·simpa using h1
 ·unfold List.Nodup
  rw[fT]
  refine List.Pairwise.imp_of_mem (fun{a b}ha hb hne e=>hne ?_) h.1
  have h1:=yJ ho (h.2 a ha)
  have h2:=yJ ho (h.2 b hb)
  apply fN<;>omega
 ·intro i hi
  obtain⟨c,hc,rfl⟩:=dr.1 hi
  have h1:=yJ ho (h.2 c hc)
  omega
def bfs(o:Org)(cp:Nat):Nat→Nat→List Ct→List Ct
 | 0,_,q=>q
 | n+1,i,q=>if i<q.length then bfs o cp n (i+1) (stepF o cp true (iB q i) q)else q
def kK(o:Org)(cp:Nat)(l:List Ct):List Ct:=l.foldl (fun q c=>stepF o cp false c q) []
def kG(o:Org)(r:Reg)(l:List Ct):List Ct:=dd (oS (l.filter (fun c=> !r.off.testBit c.1.toNat)++bfs o r.cpl 1100 0 (kK o r.cpl l)))
def mG(rs:List Rk)(d:Drw)(key:Int):Ct:=if d.rank<0∨rs.length≤d.rank then(0,0)else(d.rank,oQ (oQ (key+d.shift)-(iB rs d.rank.toNat).first))
def qW(rs:List Rk)(d:Drw)(key:Int):Bool:= !decide (d.rank<0∨rs.length≤d.rank)&&decide (0≤(mG rs d key).2)&&decide ((mG rs d key).2<(iB rs d.rank.toNat).wind.length)
def uK(s:Stp)(key:Int)(j:Nat):Bool:=decide ((iB s.segs j).lo≤key)&&decide (key≤(iB s.segs j).hi)
def a6k(s:Stp)(key:Int):List Drw:=if pD (uK s key) s.segs.length<0 then[]else(iB s.segs (pD (uK s key) s.segs.length).toNat).draws
def pT(rs:List Rk)(s:Stp)(key:Int):List Ct:=dd (oS (((a6k s key).filter fun d=>qW rs d key).map fun d=>mG rs d key))
def mS(o:Org)(r:Reg)(c:Ct):List Ct:=(List.range (iB o.dvs c.1.toNat).stops.length).flatMap fun i=>if(iB r.stops c.1.toNat).testBit i then pT o.ranks (iB (iB o.dvs c.1.toNat).stops i) c.2 else[]
def wV(o:Org)(r:Reg)(l:List Ct):List Ct:=dd (oS (l.flatMap (mS o r)))
def jP(o:Org)(r:Reg)(l:List Ct):List Ct:=wV o r (kG o r l)
end Go.Ds
namespace Go.Ds
open Go.Proofs Go.Proofs.Tryz
variable {H:Heap}
theorem a1i(a b:Nat)(h:a<18446744073709551616):((a:Nat):Int).fdiv (2^min b (IntKind.bits .u64))=((a>>>b:Nat):Int):=by
 have e:IntKind.bits .u64=64:=rfl
 rw[e]
 have h1:((a:Nat):Int).fdiv (2^min b 64)=((a/2^min b 64:Nat):Int):=by
  rw[gw _ (by exact Int.le_of_lt (Int.pow_pos (by decide)))]
  simp
 rw[h1,eL]
 by_cases hb:b≤64
 ·rw[fQ hb]
 ·rw[Nat.min_eq_right (by omega)]
  have h2:a/2^64=0:=gC (by simpa using h)
  have h3:a/2^b=0:=gC (dF (by simpa using h) (fi (by decide) (show 64≤b by omega)))
  rw[h2,h3]
theorem zR(n:Nat)(h:n<18446744073709551616):IntKind.wrap .u64 ((BitVec.ofInt (IntKind.bits .u64) (n:Int)&&&BitVec.ofInt (IntKind.bits .u64) 1).toNat:Int)=((n%2:Nat):Int):=by
 have e:(BitVec.ofInt (IntKind.bits .u64) (n:Int)&&&BitVec.ofInt (IntKind.bits .u64) 1).toNat=n%2:=by
  show(BitVec.ofInt 64 (n:Int)&&&BitVec.ofInt 64 1).toNat=n%2
  rw[gD]
  have h1:(BitVec.ofInt 64 (n:Int)).toNat=n:=by
   rw[fU,BitVec.toNat_ofNat]
   exact gx (by simpa using h)
  have h2:(BitVec.ofInt 64 1).toNat=1:=rfl
  rw[h1,h2,Nat.and_one_is_mod]
 rw[e]
 have:n%2<2:=eM _ (by decide)
 have hh:n%2=0∨n%2=1:=by omega
 rcases hh with h|h<;>rw[h]<;>rfl
theorem tb(a i:Nat):a.testBit i=decide (a>>>i%2=1):=by
 rw[Nat.testBit_eq_decide_div_mod_eq,eL]
theorem sQ{a:Nat}(b:Nat)(h:a<18446744073709551616):a>>>b<18446744073709551616:=by
 rw[eL]
 exact Nat.lt_of_le_of_lt (Nat.div_le_self _ _) h
theorem a2g(o:Org)(ho:o.In H)(c:Ct):Fn prog 114 [.agg #[.string o.name,o.rv,o.dv,o.cv],.agg #[I c.1,I c.2]] H fun r H'=>r=I (a2i o c)∧St prog H H' []:=by
 have hl:=ho.2.2.2.2.2.2.1
 refine .aF func114 rfl (by kernel_rfl) (m:=36) rfl fun l hn g0 g1=> ?_
 simp(disch:=omega) only[↓RA,RB,simprocAttr,g0]
 refine(sR H).eNew 4 [(.string o.name),o.rv,o.dv,o.cv] rfl rfl (by simp[OC,((sR H).sl ho.1).cells.2.1,((sR H).sl ho.2.2.1).cells.2.1,((sR H).sl ho.2.2.2.2.1).cells.2.1]) mX fun A1 H1 hS1=> ?_
 simp only[RT]at hS1
 simp(disch:=omega) only[↓RA,RB,simprocAttr,g1]
 refine hS1.eNew 2 [I c.1,I c.2] rfl rfl rfl nU fun A2 H2 hS2=> ?_
 simp only[RT]at hS2
 simp(disch:=omega) only[↓RA,RZ,simprocAttr,hn,hS2.ld 1 rfl]
 refine iN (fun h1=> ?_) (fun h1=> ?_)
 ·simp(disch:=omega) only[↓RA,RZ,simprocAttr,hn,a8b,h1]
  exact⟨by rw[a2i,if_pos (by omega)],hS2.forget⟩
 simp(disch:=omega) only[↓RA,RZ,simprocAttr,hn,hS2.ld 1 rfl,hS2.ld 0 rfl,(hS2.sl ho.2.2.1).len,h1]
 refine iA (fun h2=> ?_) (fun h2=> ?_)
 ·simp(disch:=omega) only[↓RA,RZ,simprocAttr,hn,a8b,h1,h2]
  exact⟨by rw[a2i,if_pos (by omega)],hS2.forget⟩
 obtain⟨j,hj⟩:∃j:Nat,c.1=j:=⟨c.1.toNat,by omega⟩
 have hc:a2i o c=if c.2<(iB o.dvs j).lo∨(iB o.dvs j).hi<c.2 then 23 else 0:=by
  rw[a2i,if_neg (by omega),hj]
  rfl
 rw[hj]at h1 h2
 simp(disch:=omega) only[↓RA,RZ,simprocAttr,hn,hS2.ld 0 rfl,h1,h2,hj]
 simp(disch:=omega) only[↓RA,RZ,simprocAttr,hn,hS2.ld 1 rfl,(hS2.sl ho.2.2.1).idx,(hS2.sl ho.2.2.1).bb,(hS2.sl ho.2.2.1).cE 2,Dvn.cells,h1,h2,hj]
 refine hS2.eNew 2 [I 0,I 0] rfl rfl rfl a1h fun A3 H3 hS3=> ?_
 simp only[RT]at hS3
 simp(disch:=omega) only[↓RA,RZ,simprocAttr,hn,h1,h2,hj]
 refine hS3.aa 2 rfl [I (iB o.dvs j).lo,I (iB o.dvs j).hi] rfl rfl a1h (by simp) fun H4 hS4=> ?_
 simp only[RT]at hS4
 simp(disch:=omega) only[↓RA,RZ,simprocAttr,hn,hS4.ld 1 rfl,hS4.ld 2 rfl,h1,h2,hj]
 refine iN (fun h3=> ?_) (fun h3=> ?_)
 ·simp(disch:=omega) only[↓RA,RZ,simprocAttr,hn,a8b,h1,h2,hj,h3]
  exact⟨by rw[hc,if_pos (by omega)],hS4.forget⟩
 simp(disch:=omega) only[↓RA,RZ,simprocAttr,hn,hS4.ld 1 rfl,hS4.ld 2 rfl,h1,h2,hj,h3]
 refine iA (fun h4=> ?_) (fun h4=> ?_)
 ·simp(disch:=omega) only[↓RA,RZ,simprocAttr,hn,a8b,h1,h2,hj,h3,h4]
  exact⟨by rw[hc,if_pos (by omega)],hS4.forget⟩
 simp(disch:=omega) only[↓RA,RZ,simprocAttr,hn,a8b,h1,h2,hj,h3,h4]
 exact⟨by rw[hc,if_neg (by omega)],hS4.forget⟩
def rB(o:Org)(r:Reg):Int:=if organE o≠0 then organE o else if r.stops.length≠o.dvs.length then 5 else if ∃j,j<o.dvs.length∧iB r.stops j>>>(iB o.dvs j).stops.length≠0 then 3 else if r.cpl>>>o.cpls.length≠0∨r.off>>>o.dvs.length≠0 then 3 else 0
theorem c2t(o:Org)(ho:o.In H)(r:Reg)(sv:Value)(hr:r.In H sv):Fn prog 74 [.agg #[.string o.name,o.rv,o.dv,o.cv],.agg #[sv,.int .u64 r.cpl,.int .u64 r.off]] H fun v H'=>v=I (rB o r)∧St prog H H' []:=by
 have hl:=ho.2.2.2.2.2.2.1
 have hlc:=ho.2.2.2.2.2.2.2
 obtain⟨hr1,hr2,hr3,hr4,hr5⟩:=hr
 refine .aF func74 rfl (by kernel_rfl) (m:=55) rfl fun l hn g0 g1=> ?_
 simp(disch:=omega) only[↓RA,RB,simprocAttr,g0]
 refine(sR H).eNew 4 [(.string o.name),o.rv,o.dv,o.cv] rfl rfl (by simp[OC,((sR H).sl ho.1).cells.2.1,((sR H).sl ho.2.2.1).cells.2.1,((sR H).sl ho.2.2.2.2.1).cells.2.1]) mX fun A1 H1 hS1=> ?_
 simp only[RT]at hS1
 simp(disch:=omega) only[↓RA,RB,simprocAttr,g1]
 refine hS1.eNew 3 [sv,(.int .u64 r.cpl),(.int .u64 r.off)] rfl rfl (by simp[OC,(hS1.sl hr1).cells.2.1]) qV fun A2 H2 hS2=> ?_
 simp only[RT]at hS2
 simp(disch:=omega) only[↓RA,RZ,simprocAttr,hn,hS2.ai 0 rfl]
 refine hS2.cF (a2V o (ho.ak hS2)) fun H3 hS3=> ?_
 simp(disch:=omega) only[↓RA,RB,simprocAttr,hn]
 refine iA (fun h1=> ?_) (fun h1=> ?_)
 ·simp(disch:=omega) only[↓RA,RZ,simprocAttr,hn,b4R,h1]
  exact⟨by rw[rB,if_pos h1],hS3.forget⟩
 simp(disch:=omega) only[↓RA,RZ,simprocAttr,hn,hS3.ld 1 rfl,(hS3.sl hr1).len,hS3.ld 0 rfl,(hS3.sl ho.2.2.1).len,h1]
 refine iA (fun h2=> ?_) (fun h2=> ?_)
 ·simp(disch:=omega) only[↓RA,RZ,simprocAttr,hn,b4R,h1,h2]
  exact⟨by rw[rB,if_neg h1,if_pos (by omega)],hS3.forget⟩
 simp(disch:=omega) only[↓RA,RZ,simprocAttr,hn,hS3.ld 0 rfl,(hS3.sl ho.2.2.1).len,h1,h2]
 have hE:rB o r=if ∃j,j<o.dvs.length∧iB r.stops j>>>(iB o.dvs j).stops.length≠0 then 3 else if r.cpl>>>o.cpls.length≠0∨r.off>>>o.dvs.length≠0 then 3 else 0:=by rw[rB,if_neg h1,if_neg (by omega)]
 refine Wp.aj (fun n l H'=>l.length=55∧get l 2=(ptr A1 0 4)∧get l 3=(ptr A2 0 3)∧get l 21=o.dv∧get l 22=I o.dvs.length∧∃(j:Nat),(n+j=o.dvs.length∧∀q,q<j→iB r.stops q>>>(iB o.dvs q).stops.length=0)∧get l 23=I j∧St prog H H' [⟨ptr A1 0 4,0,[(.string o.name),o.rv,o.dv,o.cv]⟩,⟨ptr A2 0 3,0,[sv,(.int .u64 r.cpl),(.int .u64 r.off)]⟩]) o.dvs.length ?_ ?_
 ·simp(disch:=omega) only[RB,RC,simprocAttr,hn]
  exact⟨0,⟨by omega,fun q hq=>absurd hq (dL _)⟩,rfl,hS3⟩
 rintro n l H4⟨hn,g2,g3,g21,g22,j,⟨hj,hz⟩,g23,hS4⟩
 have e1:=a1i r.cpl o.cpls.length hr4
 have e2:=a1i r.off o.dvs.length hr5
 simp(disch:=omega) only[↓RA,RB,simprocAttr,hn,g22,g23]
 refine iA (fun q1=> ?_) (fun q1=> ?_)
 ·have hst:=(ho.2.2.2.1 _ (iD (xs:=o.dvs) (j:=j) (by omega))).2.2
  have e3:=a1i (iB r.stops j) (iB o.dvs j).stops.length (hr3 _ (iD (by omega)))
  simp(disch:=omega) only[↓RA,RZ,simprocAttr,hn,g21,g23,(hS4.sl ho.2.2.1).idx,(hS4.sl ho.2.2.1).ai,Dvn.cells,q1]
  refine hS4.eNew 5 [(.string ⟨#[]⟩),(.bool false),I 0,I 0,(.slice none 0 0)] rfl rfl rfl a1g fun A3 H5 hS5=> ?_
  simp only[RT]at hS5
  simp(disch:=omega) only[↓RA,RZ,simprocAttr,hn,q1]
  refine hS5.aa 2 rfl [(.string (iB o.dvs j).name),(.bool (iB o.dvs j).pedal),I (iB o.dvs j).lo,I (iB o.dvs j).hi,(iB o.dvs j).sv] rfl (by simp[OC,(hS5.sl (ho.2.2.2.1 (iB o.dvs j) (iD (by omega))).1).cells.2.1]) a1g (by simp) fun H6 hS6=> ?_
  simp only[RT]at hS6
  simp(disch:=omega) only[↓RA,RZ,simprocAttr,q1]
  refine Wp.drw jW (by kernel_rfl) ?_
  simp(disch:=omega) only[↓RA,RZ,simprocAttr,hn,g3,hS6.ld 1 rfl,(hS6.sl hr1).idx,(hS6.sl hr1).ld,one,u64,hS6.ld 2 rfl,(hS6.sl (ho.2.2.2.1 (iB o.dvs j) (iD (by omega))).1).len,e3]
  refine iA (fun q2=> ?_) (fun q2=> ?_)
  ·simp(disch:=omega) only[↓RA,RZ,simprocAttr,hn,b4R,q2]
   exact⟨by rw[hE,if_pos ⟨j,by omega,by omega⟩],hS6.forget⟩
  simp(disch:=omega) only[↓RA,RZ,simprocAttr,hn,g2,g3,g21,g22,g23,q2]
  exact⟨n-1,by omega,j+1,⟨by omega,fun q hq=>by rcases dm.1 hq with e|e;(· exact hz q e);(· rw[e];omega)⟩,by simp,hS6.sub (by simp)⟩
 simp(disch:=omega) only[↓RA,RZ,simprocAttr,hn,g2,g3,hS4.ld 1 rfl,hS4.ld 0 rfl,(hS4.sl ho.2.2.2.2.1).len,q1,e1]
 have hno:¬∃j,j<o.dvs.length∧iB r.stops j>>>(iB o.dvs j).stops.length≠0:=by
  rintro⟨q,hq,hne⟩
  exact hne (hz q (by omega))
 rw[if_neg hno]at hE
 clear hno
 refine iN (fun q3=> ?_) (fun q3=> ?_)
 ·simp(disch:=omega) only[↓RA,RZ,simprocAttr,hn,b4R,q1,q3]
  exact⟨by rw[hE,if_pos (by omega)],hS4.forget⟩
 simp(disch:=omega) only[↓RA,RZ,simprocAttr,hn,g2,g3,hS4.ld 1 rfl,hS4.ld 0 rfl,(hS4.sl ho.2.2.1).len,q1,e2,q3]
 refine iA (fun q4=> ?_) (fun q4=> ?_)
 ·simp(disch:=omega) only[↓RA,RZ,simprocAttr,hn,b4R,q1,q3,q4]
  exact⟨by rw[hE,if_pos (by omega)],hS4.forget⟩
 simp(disch:=omega) only[↓RA,RZ,simprocAttr,hn,b4R,q1,q3,q4]
 exact⟨by rw[hE,if_neg (by omega)],hS4.forget⟩
def uS(o:Org)(b:Nat→Nat):Reg:=⟨(List.range o.dvs.length).map fun i=>b (i%3)%2^(iB o.dvs i).stops.length,b 3%2^o.cpls.length,b 4%2^o.dvs.length⟩
theorem vE(n:Nat)(h:n<18446744073709551616):(BitVec.ofInt (IntKind.bits .u64) (n:Int)).toNat=n:=by
 show(BitVec.ofInt 64 (n:Int)).toNat=n
 rw[fU,BitVec.toNat_ofNat]
 exact gx (by simpa using h)
theorem b7v(b n:Nat)(h:n≤8)(hb:b<256):IntKind.wrap .u64 ((BitVec.ofInt (IntKind.bits .u64) (b:Int)&&&BitVec.ofInt (IntKind.bits .u64) (IntKind.wrap .u64 (IntKind.wrap .u64 (1*2^min n (IntKind.bits .u64))-1))).toNat:Int)=((b%2^n:Nat):Int):=by
 have key:IntKind.wrap .u64 (IntKind.wrap .u64 (1*2^min n (IntKind.bits .u64))-1)=((2^n-1:Nat):Int):=by
  have:n=0∨n=1∨n=2∨n=3∨n=4∨n=5∨n=6∨n=7∨n=8:=by omega
  rcases this with rfl|rfl|rfl|rfl|rfl|rfl|rfl|rfl|rfl<;>rfl
 have hp:2^n≤2^8:=fi (by decide) h
 have e8:2^8=256:=rfl
 rw[key,gD,vE b (by omega),vE _ (by omega),Nat.and_two_pow_sub_one_eq_mod]
 have:b%2^n≤b:=Nat.mod_le _ _
 exact oD _ (by omega) (by omega)
theorem b4p{o:Org}(b:Nat→Nat)(ho:organE o=0):rB o (uS o b)=0:=by
 have hz:∀x n:Nat,(x%2^n)>>>n=0:=fun x n=>by
  rw[eL]
  exact gC (eM _ (Nat.two_pow_pos n))
 unfold rB uS
 rw[if_neg (by rw[ho];simp),if_neg (by simp),if_neg,if_neg (by simp only[hz];simp)]
 rintro⟨j,hj,hne⟩
 simp only at hne
 rw[kC _ j (by simpa using hj)]at hne
 simp only[List.getElem_map,List.getElem_range,hz,ne_eq,not_true_eq_false]at hne
theorem a9k(o:Org)(ho:o.In H)(h1:o.cpls.length≤3)(h2:o.dvs.length≤3)(h3:∀j,j<o.dvs.length→(iB o.dvs j).stops.length≤3)(b:Nat→Nat)(hb:∀i,b i<256):
 Fn prog 9 [.agg #[.string o.name,o.rv,o.dv,o.cv],.agg #[.int .u8 (b 0),.int .u8 (b 1),.int .u8 (b 2),.int .u8 (b 3),.int .u8 (b 4)]] H fun r H'=>
  ∃sv,r=.agg #[sv,.int .u64 (uS o b).cpl,.int .u64 (uS o b).off]∧St prog H H' [⟨sv,1,((uS o b).stops).flatMap (one u64)⟩]:=by
 have k0:=hb 0
 have k1:=hb 1
 have k2:=hb 2
 have k3:=hb 3
 have k4:=hb 4
 refine .aF func9 rfl (by kernel_rfl) (m:=57) rfl fun l hn g0 g1=> ?_
 simp(disch:=omega) only[↓RA,RB,simprocAttr,g0]
 refine(sR H).eNew 4 [(.string o.name),o.rv,o.dv,o.cv] rfl rfl (by simp[OC,((sR H).sl ho.1).cells.2.1,((sR H).sl ho.2.2.1).cells.2.1,((sR H).sl ho.2.2.2.2.1).cells.2.1]) mX fun A1 H1 hS1=> ?_
 simp only[RT]at hS1
 simp(disch:=omega) only[↓RA,RB,simprocAttr,g1]
 refine hS1.eNew 5 [(.int .u8 (b 0)),(.int .u8 (b 1)),(.int .u8 (b 2)),(.int .u8 (b 3)),(.int .u8 (b 4))] rfl rfl rfl c3t fun A2 H2 hS2=> ?_
 simp only[RT]at hS2
 simp(disch:=omega) only[↓RA,RZ,simprocAttr]
 refine hS2.eNew 3 [(.slice none 0 0),(.int .u64 0),(.int .u64 0)] rfl rfl rfl qV fun A3 H3 hS3=> ?_
 simp only[RT]at hS3
 simp(disch:=omega) only[↓RA,RZ,simprocAttr,hn,hS3.ld 1 rfl,hS3.ld 0 rfl,(hS3.sl ho.2.2.2.2.1).len,(hS3.sl ho.2.2.1).len,b5O]
 refine hS3.eNew 3 [(.slice none 0 0),(.int .u64 0),(.int .u64 0)] rfl rfl rfl qV fun A4 H4 hS4=> ?_
 simp only[RT]at hS4
 simp(disch:=omega) only[↓RA,RB,simprocAttr,hn]
 refine hS4.aa 3 rfl [(.slice none 0 0),_,_] rfl rfl qV (by simp) fun H5 hS5=> ?_
 simp only[RT]at hS5
 simp(disch:=omega) only[↓RA,RB,simprocAttr]
 have m1:=b7v (b 3) o.cpls.length (by omega) (hb 3)
 have m2:=b7v (b 4) o.dvs.length (by omega) (hb 4)
 have hS6:=hS5.nil 0
 simp only[RT]at hS6
 simp only[m1,m2]at hS6
 refine Wp.aj (fun n l H'=>l.length=57∧get l 2=(ptr A1 0 4)∧get l 3=(ptr A2 0 5)∧get l 4=(ptr A3 0 3)∧get l 5=(ptr A4 0 3)∧∃(i:Nat)(sv:Value),(n+i=o.dvs.length)∧get l 6=I i∧St prog H H' [⟨ptr A1 0 4,0,[(.string o.name),o.rv,o.dv,o.cv]⟩,⟨ptr A2 0 5,0,[(.int .u8 (b 0)),(.int .u8 (b 1)),(.int .u8 (b 2)),(.int .u8 (b 3)),(.int .u8 (b 4))]⟩,⟨ptr A3 0 3,0,[(.slice none 0 0),(.int .u64 0),(.int .u64 0)]⟩,⟨ptr A4 0 3,0,[sv,.int .u64 (b 3%2^o.cpls.length:Nat),.int .u64 (b 4%2^o.dvs.length:Nat)]⟩,⟨sv,1,((List.range i).map fun i=>b (i%3)%2^(iB o.dvs i).stops.length).flatMap (one u64)⟩]) o.dvs.length ?_ ?_
 ·simp(disch:=omega) only[RB,RC,simprocAttr,hn]
  exact⟨0,_,by omega,rfl,hS6⟩
 rintro n l H6⟨hn,g2,g3,g4,g5,i,sv,hi,g6,hS7⟩
 simp(disch:=omega) only[↓RA,RZ,simprocAttr,hn,g2,g6,hS7.ld 0 rfl,(hS7.sl ho.2.2.1).len]
 refine iA (fun q=> ?_) (fun q=> ?_)
 ·have hi3:(i:Int).tmod 3=((i%3:Nat):Int):=(eh i 3).symm
  have hw:([Value.int .u8 (b 0),.int .u8 (b 1),.int .u8 (b 2),.int .u8 (b 3),.int .u8 (b 4)]:List Value)[i%3]? =some (.int .u8 (b (i%3))):=by
   have:i%3=0∨i%3=1∨i%3=2:=by omega
   rcases this with e|e|e<;>rw[e]<;>rfl
  have hst:=h3 i (by omega)
  have hbi:=hb (i%3)
  have m3:=b7v (b (i%3)) (iB o.dvs i).stops.length (by omega) (hb _)
  simp(disch:=omega) only[↓RA,RC,simprocAttr,q]
  refine Wp.aQ jW [(1,19)] (by kernel_rfl) (by kernel_rfl) ?_
  simp(disch:=omega) only[↓RA,RZ,simprocAttr,hn,g2,g3,g5,g6,hS7.ld 3 rfl,hS7.ld 1 rfl,hw,hS7.ld 0 rfl,(hS7.sl ho.2.2.1).idx,(hS7.sl ho.2.2.1).bb,(hS7.sl ho.2.2.1).ld,Dvn.cells,(hS7.sl (ho.2.2.2.1 (iB o.dvs i) (iD (by omega))).1).len,hi3,m3]
  refine hS7.ag [_] c3V c6N rfl rfl (by simp[Value.cells]) rfl rfl (by decide) (by decide) fun w1 H7 hS8=> ?_
  simp only[RT]at hS8
  simp(disch:=omega) only[↓RA,RZ,simprocAttr,hn]
  refine hS8.aq 4 rfl (hS8.rd 5 rfl) c3V (by rw[iL (n:=1) (cel:=one u64) (fun _=>rfl)];simp;omega) fun w2 H8 hS9=> ?_
  simp only[RT]at hS9
  simp(disch:=omega) only[↓RA,RZ,simprocAttr,hn,g5]
  refine hS9.aa 3 rfl [w2] (by rw[(hS9.rd 4 rfl).cells.1]) (by simp[(hS9.rd 4 rfl).cells.2.1]) c5x (by simp) fun H9 hS10=> ?_
  simp only[RT]at hS10
  simp(disch:=omega) only[↓RA,RZ,simprocAttr,hn,g2,g3,g4,g5,g6,hS8.ld 3 rfl]
  refine⟨n-1,by omega,i+1,w2,by omega,rfl,?_⟩
  rw[dZ,dM,dz]
  exact hS10.pick [0,1,2,3,4] (by decide) rfl
 simp(disch:=omega) only[↓RA,RZ,simprocAttr,hn,g4,g5,hS7.ai 3 rfl,q]
 refine hS7.aa 2 rfl [sv,(.int .u64 (b 3%2^o.cpls.length:Nat)),(.int .u64 (b 4%2^o.dvs.length:Nat))] rfl (by simp[OC,(hS7.rd 4 rfl).cells.2.1]) qV (by simp) fun H10 hS11=> ?_
 simp only[RT]at hS11
 simp(disch:=omega) only[↓RA,RZ,simprocAttr,g4,tR9,hS11.ai 2 rfl,q]
 have hii:i=o.dvs.length:=by omega
 subst hii
 exact⟨sv,rfl,hS11.pick [4] (by decide) rfl⟩
end Go.Ds
namespace Go.Ds
open Go.Proofs Go.Proofs.Tryz
variable {H:Heap}
set_option maxRecDepth 10000
theorem RdAt.sub_self{v:Value}{size n:Nat}{cs:List Value}(h:RdAt H v (size+1) cs)(hn:cs.length=n*(size+1)):nA v (size+1) 0 n=v:=by
 rcases h with⟨rfl,_⟩|⟨A,i,e,row,ty,rw,lo,ver,m,_,_,_,_,_,h6,rfl⟩
 ·rfl
 ·have:m=n:=fq (fC size) (h6.symm.trans hn)
  subst this
  simp[nA]
theorem xO{v:Value}{xs:List (Int×Int)}{rest:List Value}(h:RdAt H v 2 (pr xs++rest)):RdAt H (nA v 2 0 xs.length) 2 (pr xs):=by
 by_cases h0:pr xs++rest=[]
 ·have hx:xs.length=0:=by
   have:=congrArg List.length h0
   rw[dg,iI,dW]at this
   omega
  have e:=RdAt.sub_self (size:=1) (n:=0) h (by rw[h0];rfl)
  obtain rfl:=fG.1 hx
  show RdAt H (nA v 2 0 0) 2 []
  rw[show nA v 2 0 0=v from e]
  rwa [h0]at h
 ·have h5:=RdAt.sub h 0 xs.length (by rw[dg,iI];omega) h0
  rw[Nat.zero_mul,List.drop_zero,show xs.length*2=(pr xs).length from(iI xs).symm,List.take_left' rfl]at h5
  exact h5
theorem b1E{H0:Heap}{v:Value}{xs:List (Int×Int)}{rest:List Value}(h:St prog H0 H [⟨v,2,pr xs++rest⟩]):Slx 2 jV H (fun B=>H0.length≤B) (nA v 2 0 xs.length) xs:=by
 refine⟨⟨xO (h.rd 0 rfl),kF,by decide⟩,fun b hb=> ?_⟩
 rcases h.new _ (dG ..) b (a3i hb)with h|h
 ·exact h
 ·exact h.elim
theorem c3C:b1V prog 50=some (1+1):=by kernel_rfl
theorem c5H:b1V prog 57=some (1+1):=by kernel_rfl
theorem a4U{B:Base}{v:Value}{es:List (Int×Int)}(hS:St prog B H [⟨v,2,pr es⟩])(hl:es.length<100000000000):
 Fn prog 118 [v] H fun r H'=>∃rest:List Value,r=nA v 2 0 (dd es).length∧St prog B H' [⟨v,2,pr (dd es)++rest⟩]:=by
 refine .aT func118 rfl (by kernel_rfl) (m:=61) rfl fun l hn g0=> ?_
 simp(disch:=omega) only[↓RA,RZ,simprocAttr,hn,g0,(hS.av 0 rfl (fun _=>rfl)).len]
 refine iA (fun h=> ?_) (fun h=> ?_)
 ·have hd:=tI es es.length (db _) fun j h1 h2=>by omega
  rw[dU]at hd
  simp(disch:=omega) only[↓RA,RZ,simprocAttr,hn,g0,b7L,h]
  exact⟨[],by unfold dd;rw[hd];exact(RdAt.sub_self (size:=1) (hS.rd 0 rfl) (iI es)).symm,by unfold dd;rw[hd,di];exact hS⟩
 simp(disch:=omega) only[↓RA,RZ,simprocAttr,h]
 refine Wp.aj (fun n l H'=>l.length=61∧get l 0=v∧∃(k:Nat),(0<k∧n+k=es.length∧∀j,0<j→j<k→iB es j≠iB es (j-1))∧get l 3=I k∧St prog B H' [⟨v,2,pr es⟩]) (es.length-1) ?_ ?_
 ·simp(disch:=omega) only[RB,RC,simprocAttr,hn,g0]
  exact⟨1,⟨by omega,by omega,fun j h1 h2=>by omega⟩,rfl,hS⟩
 rintro n l H1⟨hn,g0,k,⟨hk0,hk,hdis⟩,g3,hS1⟩
 simp(disch:=omega) only[↓RA,RZ,simprocAttr,hn,g0,g3,(hS1.av 0 rfl (fun _=>rfl)).len]
 refine iA (fun h2=> ?_) (fun h2=> ?_)
 ·have hkl:k<es.length:=by omega
  have hpre:(k:Int)-1=((k-1:Nat):Int):=by omega
  simp(disch:=omega) only[↓RA,RC,simprocAttr,h2]
  refine Wp.drw jW (by kernel_rfl) ?_
  simp(disch:=omega) only[↓RA,RZ,simprocAttr,hn,g0,g3,(hS1.av 0 rfl (fun _=>rfl)).idx,(hS1.av 0 rfl (fun _=>rfl)).ai,jV,hpre]
  refine iA (fun h3=> ?_) (fun h3=> ?_)
  ·have h3:iB es k=iB es (k-1):=fN h3.1 h3.2
   have hlen:(pr es).length=es.length*(1+1):=iI es
   have hpos:0<es.length:=by omega
   have hdk:=tI es k (by omega) hdis
   have hdk1:yW es (k+1)=es.take k:=by rw[rV,hdk,if_neg (by rintro(h4|h4);omega;exact h4 h3),di]
   have hrow:St prog B H1 [⟨v,2,pr (yW es (k+1)++es.drop k)⟩]:=by rw[hdk1,List.take_append_drop];exact hS1
   have hdl:(yW es (k+1)).length=k:=by rw[hdk1,fz];omega
   simp(disch:=omega) only[↓RA,RZ,simprocAttr,hn,g0,g3,(hS1.av 0 rfl (fun _=>rfl)).aR,h3]
   refine Wp.aj (fun n l H'=>l.length=61∧get l 0=v∧∃k2:Nat,(0<k2∧n+k+k2=es.length∧(yW es (k+k2)).length<k+k2)∧get l 3=I (yW es (k+k2)).length∧get l 4=nA v 2 k (es.length-k)∧get l 5=I k2∧St prog B H' [⟨v,2,pr (yW es (k+k2)++es.drop (yW es (k+k2)).length)⟩]) (es.length-k-1) ?_ ?_
   ·simp(disch:=omega) only[RB,RC,simprocAttr,hn,g0,g3]
    refine⟨1,⟨by omega,by omega,by omega⟩,by rw[hdl],by congr 1;omega,rfl,?_⟩
    rw[hdl]
    exact hrow
   clear hrow hdk hdk1 hdl hdis
   rintro n l H9⟨hn,g0,k2,⟨hk20,hk2,hlt⟩,g3,g4,g5,hS9⟩
   have hsucc:=rV es (k+k2)
   generalize hD:yW es (k+k2)=D at g3 hlt hS9 hsucc
   have hrl:(D++es.drop D.length).length=es.length:=by rw[dg,fA];omega
   have hv:Sl 2 jV H9 v (D++es.drop D.length):=hS9.av 0 rfl kF
   have hat:∀j,D.length≤j→iB (D++es.drop D.length) j=iB es j:=fun j hj=>by
    unfold iB
    rw[cY,eE hj,dA,cY]
    congr 2;omega
   have hsub:Sl 2 jV H9 (nA v 2 k ((D++es.drop D.length).length-k)) ((D++es.drop D.length).drop k):=hv.cw k (by omega) (by omega)
   rw[hrl]at hsub
   have hsl:((D++es.drop D.length).drop k).length=es.length-k:=by rw[fA,hrl]
   have hsat:∀j,D.length≤k+j→iB ((D++es.drop D.length).drop k) j=iB es (k+j):=fun j hj=>by
    rw[←hat (k+j) hj]
    unfold iB
    rw[cY,dA,cY]
   have hbd:((es.length-k:Nat):Int)=(es.length:Int)-k:=by omega
   simp(disch:=omega) only[↓RA,RZ,simprocAttr,hn,g4,g5,hsub.len,hsl,hbd]
   refine iA (fun h4=> ?_) (fun h4=> ?_)
   ·have hj:k+k2<es.length:=by omega
    have hpre2:(k2:Int)-1=((k2-1:Nat):Int):=by omega
    have e1:=hsat k2 (by omega)
    have e2:=hsat (k2-1) (by omega)
    rw[show k+(k2-1)=k+k2-1 from by omega]at e2
    simp(disch:=omega) only[↓RA,RC,simprocAttr,h4]
    refine Wp.drw jW (by kernel_rfl) ?_
    simp(disch:=omega) only[↓RA,RZ,simprocAttr,hn,g4,g5,hsub.idx,hsub.ai,jV,hpre2,e1,e2]
    refine iA (fun h5=> ?_) (fun h5=> ?_)
    ·have hne:iB es (k+k2)≠iB es (k+k2-1):=fun e=>h5 (by rw[e];exact⟨rfl,rfl⟩)
     rw[if_pos (.inr hne)]at hsucc
     simp(disch:=omega) only[↓RA,RZ,simprocAttr,hn,g0,g3,g4,g5,hsub.idx,hsub.ai,jV,e1,h5]
     simp(disch:=omega) only[↓RA,RZ,simprocAttr,hn,(hS9.av 0 rfl (fun _=>rfl)).idx,h5]
     refine hS9.aE 0 rfl [I (iB es (k+k2)).1,I (iB es (k+k2)).2] rfl rfl nU (by simp) (by rw[iI,hrl];simp;omega) fun H2 hS2=> ?_
     simp only[RT]at hS2
     simp(disch:=omega) only[↓RA,RZ,simprocAttr,hn,g0,g3,g4,g5,h5]
     refine⟨n-1,by omega,k2+1,?_⟩
     rw[show k+(k2+1)=k+k2+1 from by omega,hsucc]
     refine⟨⟨by omega,by omega,by simp;omega⟩,by simp,by simp,?_⟩
     have e3:pr (D++[iB es (k+k2)]++es.drop (D++[iB es (k+k2)]).length)=((pr (D++es.drop D.length)).set (D.length*2) (I (iB es (k+k2)).1)).set (D.length*2+1) (I (iB es (k+k2)).2):=by
      have hx:es.drop D.length=iB es D.length::es.drop (D.length+1):=by
       rw[kC es _ (by omega)]
       exact fx (by omega)
      rw[hx,dg,List.length_singleton,jL,jL,jL]
      have e4:pr (iB es D.length::es.drop (D.length+1))=I (iB es D.length).1::I (iB es D.length).2::pr (es.drop (D.length+1)):=rfl
      have e5:pr [iB es (k+k2)]=[I (iB es (k+k2)).1,I (iB es (k+k2)).2]:=rfl
      have e6:(pr D).length=D.length*2:=iI D
      rw[e4,e5,fy _ _ (by omega),fy _ _ (by omega),e6,Nat.sub_self,gf]
      simp
     rw[e3]
     exact hS2
    have heq:iB es (k+k2)=iB es (k+k2-1):=by
     have h6:=dx.1 h5
     exact fN h6.1 h6.2
    rw[if_neg (by rintro(h6|h6);omega;exact h6 heq),di]at hsucc
    simp(disch:=omega) only[↓RA,RZ,simprocAttr,hn,g0,g3,g4,g5,h5]
    refine⟨n-1,by omega,k2+1,?_⟩
    rw[show k+(k2+1)=k+k2+1 from by omega,hsucc]
    exact⟨⟨by omega,by omega,by omega⟩,rfl,by simp,hS9⟩
   have hke:k+k2=es.length:=by omega
   rw[hke]at hD
   have hcl:(pr (D++es.drop D.length)).length=es.length*(1+1):=by rw[iI,hrl]
   have hDn:D.length≤es.length:=by omega
   simp(disch:=omega) only[↓RA,RZ,simprocAttr,hn,g0,g3,(hS9.av 0 rfl (fun _=>rfl)).aR,h4]
   rw[show(((D++es.drop D.length).length:Int)-D.length).toNat=es.length-D.length from by rw[hrl];omega]
   refine hS9.bK (size:=1) 0 rfl D.length (es.length-D.length) (by rw[hcl];omega) (by
    intro e
    have h2:(pr (D++es.drop D.length)).length=0:=by rw[e];rfl
    rw[iI,hrl]at h2;omega) c3C fun z H3 hz hSc=> ?_
   simp only[RT]at hSc
   have e3:iX (pr (D++es.drop D.length)) (D.length*2) z=pr D++z:=by
    rw[jL,show D.length*2=(pr D).length from(iI D).symm,mZ z (pr D) (pr (es.drop D.length)) (by rw[iI,fA];omega)]
    rw[List.drop_of_length_le (by rw[iI,fA];omega),di]
   rw[show D.length*(1+1)=D.length*2 from rfl,e3]at hSc
   have hw:RdAt H3 v (1+1) (pr D++z):=hSc.rd 0 rfl
   have hwl:(pr D++z).length=es.length*(1+1):=by rw[dg,iI,hz];omega
   simp(disch:=omega) only[↓RA,RZ,simprocAttr,hn,g0,g3,hw.aS hwl,b7L,h4]
   exact⟨z,by unfold dd;rw[hD],by unfold dd;rw[hD];exact hSc⟩
  have hne:iB es k≠iB es (k-1):=fun e=>h3 (by rw[e];exact⟨rfl,rfl⟩)
  simp(disch:=omega) only[↓RA,RZ,simprocAttr,hn,g0,g3,h3]
  refine⟨n-1,by omega,k+1,⟨by omega,by omega,fun j h4 h5=> ?_⟩,by simp,hS1⟩
  by_cases e:j=k
  ·rw[e];exact hne
  ·exact hdis j h4 (by omega)
 have hke:k=es.length:=by omega
 have hd:=tI es es.length (db _) (hke▸hdis)
 rw[dU]at hd
 simp(disch:=omega) only[↓RA,RZ,simprocAttr,hn,g0,b7L,h2]
 exact⟨[],by unfold dd;rw[hd];exact(RdAt.sub_self (size:=1) (hS.rd 0 rfl) (iI es)).symm,by unfold dd;rw[hd,di];exact hS1⟩
theorem a6q{B:Base}{v:Value}{es:List (Int×Int)}(hS:St prog B H [⟨v,2,pr es⟩])(hl:es.length<100000000000):
 Fn prog 118 [v] H fun r H'=>∃rest:List Value,(∀b,kI r=some b→kI v=some b)∧(∀H2,RdAt H2 v 2 (pr (dd es)++rest)→RdAt H2 r 2 (pr (dd es)))∧St prog B H' [⟨v,2,pr (dd es)++rest⟩]:=
 (a4U hS hl).mono fun _ _⟨rest,e,h⟩=>⟨rest,fun _ h=>a3i (e▸h),fun _ h=>e▸xO h,h⟩
theorem yD{B:Base}{v:Value}{es:List (Int×Int)}(hS:St prog B H [⟨v,2,pr es⟩])(hl:es.length<100000000000):
 Fn prog 57 [v] H fun r H'=>∃rest:List Value,r=nA v 2 0 (dd es).length∧St prog B H' [⟨v,2,pr (dd es)++rest⟩]:=by
 refine .aT func57 rfl (by kernel_rfl) (m:=61) rfl fun l hn g0=> ?_
 simp(disch:=omega) only[↓RA,RZ,simprocAttr,hn,g0,(hS.av 0 rfl (fun _=>rfl)).len]
 refine iA (fun h=> ?_) (fun h=> ?_)
 ·have hd:=tI es es.length (db _) fun j h1 h2=>by omega
  rw[dU]at hd
  simp(disch:=omega) only[↓RA,RZ,simprocAttr,hn,g0,c1O,h]
  exact⟨[],by unfold dd;rw[hd];exact(RdAt.sub_self (size:=1) (hS.rd 0 rfl) (iI es)).symm,by unfold dd;rw[hd,di];exact hS⟩
 simp(disch:=omega) only[↓RA,RZ,simprocAttr,h]
 refine Wp.aj (fun n l H'=>l.length=61∧get l 0=v∧∃(k:Nat),(0<k∧n+k=es.length∧∀j,0<j→j<k→iB es j≠iB es (j-1))∧get l 3=I k∧St prog B H' [⟨v,2,pr es⟩]) (es.length-1) ?_ ?_
 ·simp(disch:=omega) only[RB,RC,simprocAttr,hn,g0]
  exact⟨1,⟨by omega,by omega,fun j h1 h2=>by omega⟩,rfl,hS⟩
 rintro n l H1⟨hn,g0,k,⟨hk0,hk,hdis⟩,g3,hS1⟩
 simp(disch:=omega) only[↓RA,RZ,simprocAttr,hn,g0,g3,(hS1.av 0 rfl (fun _=>rfl)).len]
 refine iA (fun h2=> ?_) (fun h2=> ?_)
 ·have hkl:k<es.length:=by omega
  have hpre:(k:Int)-1=((k-1:Nat):Int):=by omega
  simp(disch:=omega) only[↓RA,RC,simprocAttr,h2]
  refine Wp.drw jW (by kernel_rfl) ?_
  simp(disch:=omega) only[↓RA,RZ,simprocAttr,hn,g0,g3,(hS1.av 0 rfl (fun _=>rfl)).idx,(hS1.av 0 rfl (fun _=>rfl)).ai,jV,hpre]
  refine iA (fun h3=> ?_) (fun h3=> ?_)
  ·have h3:iB es k=iB es (k-1):=fN h3.1 h3.2
   have hlen:(pr es).length=es.length*(1+1):=iI es
   have hpos:0<es.length:=by omega
   have hdk:=tI es k (by omega) hdis
   have hdk1:yW es (k+1)=es.take k:=by rw[rV,hdk,if_neg (by rintro(h4|h4);omega;exact h4 h3),di]
   have hrow:St prog B H1 [⟨v,2,pr (yW es (k+1)++es.drop k)⟩]:=by rw[hdk1,List.take_append_drop];exact hS1
   have hdl:(yW es (k+1)).length=k:=by rw[hdk1,fz];omega
   simp(disch:=omega) only[↓RA,RZ,simprocAttr,hn,g0,g3,(hS1.av 0 rfl (fun _=>rfl)).aR,h3]
   refine Wp.aj (fun n l H'=>l.length=61∧get l 0=v∧∃k2:Nat,(0<k2∧n+k+k2=es.length∧(yW es (k+k2)).length<k+k2)∧get l 3=I (yW es (k+k2)).length∧get l 4=nA v 2 k (es.length-k)∧get l 5=I k2∧St prog B H' [⟨v,2,pr (yW es (k+k2)++es.drop (yW es (k+k2)).length)⟩]) (es.length-k-1) ?_ ?_
   ·simp(disch:=omega) only[RB,RC,simprocAttr,hn,g0,g3]
    refine⟨1,⟨by omega,by omega,by omega⟩,by rw[hdl],by congr 1;omega,rfl,?_⟩
    rw[hdl]
    exact hrow
   clear hrow hdk hdk1 hdl hdis
   rintro n l H9⟨hn,g0,k2,⟨hk20,hk2,hlt⟩,g3,g4,g5,hS9⟩
   have hsucc:=rV es (k+k2)
   generalize hD:yW es (k+k2)=D at g3 hlt hS9 hsucc
   have hrl:(D++es.drop D.length).length=es.length:=by rw[dg,fA];omega
   have hv:Sl 2 jV H9 v (D++es.drop D.length):=hS9.av 0 rfl kF
   have hat:∀j,D.length≤j→iB (D++es.drop D.length) j=iB es j:=fun j hj=>by
    unfold iB
    rw[cY,eE hj,dA,cY]
    congr 2;omega
   have hsub:Sl 2 jV H9 (nA v 2 k ((D++es.drop D.length).length-k)) ((D++es.drop D.length).drop k):=hv.cw k (by omega) (by omega)
   rw[hrl]at hsub
   have hsl:((D++es.drop D.length).drop k).length=es.length-k:=by rw[fA,hrl]
   have hsat:∀j,D.length≤k+j→iB ((D++es.drop D.length).drop k) j=iB es (k+j):=fun j hj=>by
    rw[←hat (k+j) hj]
    unfold iB
    rw[cY,dA,cY]
   have hbd:((es.length-k:Nat):Int)=(es.length:Int)-k:=by omega
   simp(disch:=omega) only[↓RA,RZ,simprocAttr,hn,g4,g5,hsub.len,hsl,hbd]
   refine iA (fun h4=> ?_) (fun h4=> ?_)
   ·have hj:k+k2<es.length:=by omega
    have hpre2:(k2:Int)-1=((k2-1:Nat):Int):=by omega
    have e1:=hsat k2 (by omega)
    have e2:=hsat (k2-1) (by omega)
    rw[show k+(k2-1)=k+k2-1 from by omega]at e2
    simp(disch:=omega) only[↓RA,RC,simprocAttr,h4]
    refine Wp.drw jW (by kernel_rfl) ?_
    simp(disch:=omega) only[↓RA,RZ,simprocAttr,hn,g4,g5,hsub.idx,hsub.ai,jV,hpre2,e1,e2]
    refine iA (fun h5=> ?_) (fun h5=> ?_)
    ·have hne:iB es (k+k2)≠iB es (k+k2-1):=fun e=>h5 (by rw[e];exact⟨rfl,rfl⟩)
     rw[if_pos (.inr hne)]at hsucc
     simp(disch:=omega) only[↓RA,RZ,simprocAttr,hn,g0,g3,g4,g5,hsub.idx,hsub.ai,jV,e1,h5]
     simp(disch:=omega) only[↓RA,RZ,simprocAttr,hn,(hS9.av 0 rfl (fun _=>rfl)).idx,h5]
     refine hS9.aE 0 rfl [I (iB es (k+k2)).1,I (iB es (k+k2)).2] rfl rfl rQ (by simp) (by rw[iI,hrl];simp;omega) fun H2 hS2=> ?_
     simp only[RT]at hS2
     simp(disch:=omega) only[↓RA,RZ,simprocAttr,hn,g0,g3,g4,g5,h5]
     refine⟨n-1,by omega,k2+1,?_⟩
     rw[show k+(k2+1)=k+k2+1 from by omega,hsucc]
     refine⟨⟨by omega,by omega,by simp;omega⟩,by simp,by simp,?_⟩
     have e3:pr (D++[iB es (k+k2)]++es.drop (D++[iB es (k+k2)]).length)=((pr (D++es.drop D.length)).set (D.length*2) (I (iB es (k+k2)).1)).set (D.length*2+1) (I (iB es (k+k2)).2):=by
      have hx:es.drop D.length=iB es D.length::es.drop (D.length+1):=by
       rw[kC es _ (by omega)]
       exact fx (by omega)
      rw[hx,dg,List.length_singleton,jL,jL,jL]
      have e4:pr (iB es D.length::es.drop (D.length+1))=I (iB es D.length).1::I (iB es D.length).2::pr (es.drop (D.length+1)):=rfl
      have e5:pr [iB es (k+k2)]=[I (iB es (k+k2)).1,I (iB es (k+k2)).2]:=rfl
      have e6:(pr D).length=D.length*2:=iI D
      rw[e4,e5,fy _ _ (by omega),fy _ _ (by omega),e6,Nat.sub_self,gf]
      simp
     rw[e3]
     exact hS2
    have heq:iB es (k+k2)=iB es (k+k2-1):=by
     have h6:=dx.1 h5
     exact fN h6.1 h6.2
    rw[if_neg (by rintro(h6|h6);omega;exact h6 heq),di]at hsucc
    simp(disch:=omega) only[↓RA,RZ,simprocAttr,hn,g0,g3,g4,g5,h5]
    refine⟨n-1,by omega,k2+1,?_⟩
    rw[show k+(k2+1)=k+k2+1 from by omega,hsucc]
    exact⟨⟨by omega,by omega,by omega⟩,rfl,by simp,hS9⟩
   have hke:k+k2=es.length:=by omega
   rw[hke]at hD
   have hcl:(pr (D++es.drop D.length)).length=es.length*(1+1):=by rw[iI,hrl]
   have hDn:D.length≤es.length:=by omega
   simp(disch:=omega) only[↓RA,RZ,simprocAttr,hn,g0,g3,(hS9.av 0 rfl (fun _=>rfl)).aR,h4]
   rw[show(((D++es.drop D.length).length:Int)-D.length).toNat=es.length-D.length from by rw[hrl];omega]
   refine hS9.bK (size:=1) 0 rfl D.length (es.length-D.length) (by rw[hcl];omega) (by
    intro e
    have h2:(pr (D++es.drop D.length)).length=0:=by rw[e];rfl
    rw[iI,hrl]at h2;omega) c5H fun z H3 hz hSc=> ?_
   simp only[RT]at hSc
   have e3:iX (pr (D++es.drop D.length)) (D.length*2) z=pr D++z:=by
    rw[jL,show D.length*2=(pr D).length from(iI D).symm,mZ z (pr D) (pr (es.drop D.length)) (by rw[iI,fA];omega)]
    rw[List.drop_of_length_le (by rw[iI,fA];omega),di]
   rw[show D.length*(1+1)=D.length*2 from rfl,e3]at hSc
   have hw:RdAt H3 v (1+1) (pr D++z):=hSc.rd 0 rfl
   have hwl:(pr D++z).length=es.length*(1+1):=by rw[dg,iI,hz];omega
   simp(disch:=omega) only[↓RA,RZ,simprocAttr,hn,g0,g3,hw.aS hwl,c1O,h4]
   exact⟨z,by unfold dd;rw[hD],by unfold dd;rw[hD];exact hSc⟩
  have hne:iB es k≠iB es (k-1):=fun e=>h3 (by rw[e];exact⟨rfl,rfl⟩)
  simp(disch:=omega) only[↓RA,RZ,simprocAttr,hn,g0,g3,h3]
  refine⟨n-1,by omega,k+1,⟨by omega,by omega,fun j h4 h5=> ?_⟩,by simp,hS1⟩
  by_cases e:j=k
  ·rw[e];exact hne
  ·exact hdis j h4 (by omega)
 have hke:k=es.length:=by omega
 have hd:=tI es es.length (db _) (hke▸hdis)
 rw[dU]at hd
 simp(disch:=omega) only[↓RA,RZ,simprocAttr,hn,g0,c1O,h2]
 exact⟨[],by unfold dd;rw[hd];exact(RdAt.sub_self (size:=1) (hS.rd 0 rfl) (iI es)).symm,by unfold dd;rw[hd,di];exact hS1⟩
theorem uC{B:Base}{v:Value}{es:List (Int×Int)}(hS:St prog B H [⟨v,2,pr es⟩])(hl:es.length<100000000000):
 Fn prog 57 [v] H fun r H'=>∃rest:List Value,(∀b,kI r=some b→kI v=some b)∧(∀H2,RdAt H2 v 2 (pr (dd es)++rest)→RdAt H2 r 2 (pr (dd es)))∧St prog B H' [⟨v,2,pr (dd es)++rest⟩]:=
 (yD hS hl).mono fun _ _⟨rest,e,h⟩=>⟨rest,fun _ h=>a3i (e▸h),fun _ h=>e▸xO h,h⟩
end Go.Ds
namespace Go.Ds
open Go.Proofs Go.Proofs.Tryz
variable {H:Heap}
theorem a6R(a:Int):Fn prog 88 [I a] H fun r H'=>r=.bool false∧St prog H H' []:=by
 refine .aT func88 rfl (by kernel_rfl) (m:=6) rfl fun l hn g0=> ?_
 simp(disch:=omega) only[↓RA,RZ,simprocAttr,hn,g0,c7g]
 exact .refl _ _
def qY(a b:Int):Int:=if a<b then -1 else if b<a then 1 else 0
theorem sV(a b:Int):Fn prog 52 [I a,I b] H fun r H'=>r=I (qY a b)∧St prog H H' []:=by
 refine .aF func52 rfl (by kernel_rfl) (m:=20) rfl fun l hn g0 g1=> ?_
 simp(disch:=omega) only[↓RA,RZ,simprocAttr,hn,g0]
 refine(sR H).cF (a6R _) fun H1 hS1=> ?_
 simp(disch:=omega) only[↓RA,RZ,simprocAttr,hn,g1]
 refine hS1.cF (a6R _) fun H2 hS2=> ?_
 simp(disch:=omega) only[↓RA,RB,simprocAttr,hn,g0,g1]
 refine iA (fun h=> ?_) (fun h=> ?_)
 ·simp(disch:=omega) only[↓RA,RZ,simprocAttr,hn,c3I,h]
  exact⟨by simp[qY,h],hS2⟩
 simp(disch:=omega) only[↓RA,RZ,simprocAttr,hn,g0,g1,h]
 refine iA (fun h2=> ?_) (fun h2=> ?_)
 ·simp(disch:=omega) only[↓RA,RZ,simprocAttr,hn,c3I,h,h2]
  exact⟨by simp[qY,h,h2],hS2⟩
 simp(disch:=omega) only[↓RA,RZ,simprocAttr,hn,c3I,h,h2]
 exact⟨by simp[qY,h,h2],hS2⟩
def orI:List Int→Int
 | []=>0
 | a::l=>if a=0 then orI l else a
theorem a2C(xs:List Int):∀i,i≤xs.length→(∀j,j<i→iB xs j=0)→orI xs=orI (xs.drop i)
 | 0,_,_=>rfl
 | i+1,hi,h=>by
   rw[a2C xs i (by omega) (fun j hj=>h j (by omega)),zF xs i (by omega),orI,if_pos (h i (by omega))]
theorem b5R(v:Value)(xs:List Int)(hv:Sl 1 (one I) H v xs)(hl:xs.length<1000000):Fn prog 161 [v] H fun r H'=>r=I (orI xs)∧St prog H H' []:=by
 refine .aT func161 rfl (by kernel_rfl) (m:=18) rfl fun l hn g0=> ?_
 simp(disch:=omega) only[↓RA,RZ,simprocAttr,hn,g0,((sR H).sl hv).len]
 refine Wp.aj (fun n l H'=>l.length=18∧get l 3=I 0∧get l 6=v∧get l 7=I xs.length∧∃(i:Nat),(n+i=xs.length∧∀j,j<i→iB xs j=0)∧get l 8=I i∧St prog H H' []) xs.length ?_ ?_
 ·simp(disch:=omega) only[RB,RC,simprocAttr,hn]
  exact⟨0,⟨by omega,by simp⟩,rfl,(sR H)⟩
 rintro n l H1⟨hn,g3,g6,g7,i,⟨hi,h0⟩,g8,hS1⟩
 simp(disch:=omega) only[↓RA,RB,simprocAttr,hn,g7,g8]
 refine iA (fun h=> ?_) (fun h=> ?_)
 ·simp(disch:=omega) only[↓RA,RZ,simprocAttr,hn,g3,g6,g8,(hS1.sl hv).idx,(hS1.sl hv).ld,one,h]
  refine iA (fun h2=> ?_) (fun h2=> ?_)
  ·simp(disch:=omega) only[↓RA,RZ,simprocAttr,hn,c1f,h,h2]
   refine⟨?_,hS1⟩
   rw[a2C xs i (by omega) h0,zF xs i (by omega),orI,if_neg h2]
  simp(disch:=omega) only[↓RA,RZ,simprocAttr,hn,g3,g6,g7,g8,h,h2]
  exact⟨n-1,by omega,i+1,⟨by omega,fun j hj=>by by_cases e:j=i;(· subst e;exact dx.1 h2);exact h0 j (by omega)⟩,by simp,hS1⟩
 simp(disch:=omega) only[↓RA,RZ,simprocAttr,hn,g3,c1f,h]
 refine⟨?_,hS1⟩
 rw[a2C xs i (by omega) h0,List.drop_eq_nil_of_le (by omega),orI]
theorem a9E(x y:Int×Int):orI [qY x.1 y.1,qY x.2 y.2]=cf2 x y:=by
 unfold cf2 qY orI orI orI
 split
 ·simp
 ·split
  ·simp
  ·simp
   intro h
   exact h.symm
theorem c0u(x y:Int×Int):Fn prog 117 [.agg #[I x.1,I x.2],.agg #[I y.1,I y.2]] H fun r H'=>r=I (cf2 x y)∧St prog H H' []:=by
 refine .aF func117 rfl (by kernel_rfl) (m:=17) rfl fun l hn g0 g1=> ?_
 simp(disch:=omega) only[↓RA,RB,simprocAttr,g0]
 refine(sR H).eNew 2 [I x.1,I x.2] rfl rfl rfl nU fun A1 H1 hS1=> ?_
 simp only[RT]at hS1
 simp(disch:=omega) only[↓RA,RB,simprocAttr,g1]
 refine hS1.eNew 2 [I y.1,I y.2] rfl rfl rfl nU fun A2 H2 hS2=> ?_
 simp only[RT]at hS2
 simp(disch:=omega) only[↓RA,RB,simprocAttr]
 refine Wp.aQ jW [(6,0),(8,0)] (by kernel_rfl) (by kernel_rfl) ?_
 simp(disch:=omega) only[↓RA,RZ,simprocAttr,hn,hS2.ld 0 rfl,hS2.ld 1 rfl]
 refine hS2.cF (sV x.1 y.1) fun H3 hS3=> ?_
 simp(disch:=omega) only[↓RA,RZ,simprocAttr,hn,hS3.ld 0 rfl,hS3.ld 1 rfl]
 refine hS3.cF (sV x.2 y.2) fun H4 hS4=> ?_
 simp(disch:=omega) only[↓RA,RB,simprocAttr,hn]
 refine hS4.ag [I (qY x.1 y.1),I (qY x.2 y.2)] a2u a7y rfl rfl (by simp[Value.cells]) rfl rfl (by decide) (by decide) fun w1 H5 hS5=> ?_
 simp only[RT]at hS5
 simp(disch:=omega) only[↓RA,RZ,simprocAttr,hn]
 refine hS5.cF (b5R w1 [qY x.1 y.1,qY x.2 y.2] (hS5.av 2 rfl (tF _)) (by simp)) fun H6 hS6=> ?_
 simp(disch:=omega) only[↓RA,RZ,simprocAttr,hn,hS2.ld 0 rfl,hS2.ld 1 rfl,c5G]
 exact⟨by rw[a9E],hS6.forget⟩
theorem c0D(x y:Int×Int):Fn prog 120 [.agg #[I x.1,I x.2],.agg #[I y.1,I y.2]] H fun r H'=>r=I (cf2 x y)∧St prog H H' []:=by
 refine .aF func120 rfl (by kernel_rfl) (m:=17) rfl fun l hn g0 g1=> ?_
 simp(disch:=omega) only[↓RA,RB,simprocAttr,g0]
 refine(sR H).eNew 2 [I x.1,I x.2] rfl rfl rfl rQ fun A1 H1 hS1=> ?_
 simp only[RT]at hS1
 simp(disch:=omega) only[↓RA,RB,simprocAttr,g1]
 refine hS1.eNew 2 [I y.1,I y.2] rfl rfl rfl rQ fun A2 H2 hS2=> ?_
 simp only[RT]at hS2
 simp(disch:=omega) only[↓RA,RB,simprocAttr]
 refine Wp.aQ jW [(6,0),(8,0)] (by kernel_rfl) (by kernel_rfl) ?_
 simp(disch:=omega) only[↓RA,RZ,simprocAttr,hn,hS2.ld 0 rfl,hS2.ld 1 rfl]
 refine hS2.cF (sV x.1 y.1) fun H3 hS3=> ?_
 simp(disch:=omega) only[↓RA,RZ,simprocAttr,hn,hS3.ld 0 rfl,hS3.ld 1 rfl]
 refine hS3.cF (sV x.2 y.2) fun H4 hS4=> ?_
 simp(disch:=omega) only[↓RA,RB,simprocAttr,hn]
 refine hS4.ag [I (qY x.1 y.1),I (qY x.2 y.2)] a2u a7y rfl rfl (by simp[Value.cells]) rfl rfl (by decide) (by decide) fun w1 H5 hS5=> ?_
 simp only[RT]at hS5
 simp(disch:=omega) only[↓RA,RZ,simprocAttr,hn]
 refine hS5.cF (b5R w1 [qY x.1 y.1,qY x.2 y.2] (hS5.av 2 rfl (tF _)) (by simp)) fun H6 hS6=> ?_
 simp(disch:=omega) only[↓RA,RZ,simprocAttr,hn,hS2.ld 0 rfl,hS2.ld 1 rfl,c4v]
 exact⟨by rw[a9E],hS6.forget⟩
theorem c0r(x y:Int×Int):Fn prog 209 [.agg #[I x.1,I x.2],.agg #[I y.1,I y.2]] H fun r H'=>r=I (cf2 x y)∧St prog H H' []:=by
 refine .aF func209 rfl (by kernel_rfl) (m:=17) rfl fun l hn g0 g1=> ?_
 simp(disch:=omega) only[↓RA,RB,simprocAttr,g0]
 refine(sR H).eNew 2 [I x.1,I x.2] rfl rfl rfl rQ fun A1 H1 hS1=> ?_
 simp only[RT]at hS1
 simp(disch:=omega) only[↓RA,RB,simprocAttr,g1]
 refine hS1.eNew 2 [I y.1,I y.2] rfl rfl rfl rQ fun A2 H2 hS2=> ?_
 simp only[RT]at hS2
 simp(disch:=omega) only[↓RA,RB,simprocAttr]
 refine Wp.aQ jW [(6,0),(8,0)] (by kernel_rfl) (by kernel_rfl) ?_
 simp(disch:=omega) only[↓RA,RZ,simprocAttr,hn,hS2.ld 0 rfl,hS2.ld 1 rfl]
 refine hS2.cF (sV x.1 y.1) fun H3 hS3=> ?_
 simp(disch:=omega) only[↓RA,RZ,simprocAttr,hn,hS3.ld 0 rfl,hS3.ld 1 rfl]
 refine hS3.cF (sV x.2 y.2) fun H4 hS4=> ?_
 simp(disch:=omega) only[↓RA,RB,simprocAttr,hn]
 refine hS4.ag [I (qY x.1 y.1),I (qY x.2 y.2)] a2u a7y rfl rfl (by simp[Value.cells]) rfl rfl (by decide) (by decide) fun w1 H5 hS5=> ?_
 simp only[RT]at hS5
 simp(disch:=omega) only[↓RA,RZ,simprocAttr,hn]
 refine hS5.cF (b5R w1 [qY x.1 y.1,qY x.2 y.2] (hS5.av 2 rfl (tF _)) (by simp)) fun H6 hS6=> ?_
 simp(disch:=omega) only[↓RA,RZ,simprocAttr,hn,hS2.ld 0 rfl,hS2.ld 1 rfl,c5J]
 exact⟨by rw[a9E],hS6.forget⟩
end Go.Ds
namespace Go.Ds
open Go.Proofs
open Go.Shelf Go.RowKit Go.Lib Go.Sort
theorem lt2(x y:Int×Int):ltOf cf2 x y=decide (x.1<y.1∨(x.1=y.1∧x.2<y.2)):=by
 unfold ltOf cf2
 congr 1
 apply propext
 split
 ·omega
 ·split
  ·omega
  ·split
   ·omega
   ·split<;>omega
theorem c4s:SWO (ltOf cf2) where
 irrefl x:=by rw[lt2];simp
 trans x y z h1 h2:=by rw[lt2]at*;simp at*;omega
 ntrans x y z h1 h2:=by rw[lt2]at*;simp at*;omega
theorem c6B(x y:Int×Int)(h1:ltOf cf2 x y=false)(h2:ltOf cf2 y x=false):x=y:=by
 rw[lt2]at*
 simp at h1 h2
 apply fN<;>omega
theorem b1h:(fun x y=> !(ltOf cf2) y x)=le2:=by
 funext x y
 rw[lt2]
 by_cases h:le2 x y=true
 ·rw[h]
  rw[nO]at h
  rw[dw,decide_eq_false_iff_not]
  omega
 ·rw[dX]at h
  rw[h]
  rw[←dX,nO]at h
  rw[Bool.not_eq_false',decide_eq_true_eq]
  omega
def a0s(P:Program)(K kc:FuncId)(sm:Int×Int→Prop):Prop:=∀(kI off cap:Nat)(d:Array (Int×Int))(w:World),(∀x∈d.toList,sm x)→HoldsK jV 2 w kI off d→kI<w.heap.size→d.size<4611686018427387904→
    Calls P K #[.slice (some ⟨kI,off,none⟩) d.size cap,.func (.func kc) #[] #[]] w fun e w'=>e=.returned (.tuple #[])∧∃n os,w'=sortWorldK jV 2 w kI off n (d.toList.mergeSort le2).toArray os
def a3n(P:Program)(K:FuncId):Prop:=∀(p:Option Addr)(cap:Nat)(fv:Value)(w:World),Calls P K #[.slice p 0 cap,fv] w fun e w'=>e=.returned (.tuple #[])∧w'=w
theorem a2e{P:Program}{kc:FuncId}{α:Type}[Inhabited α](val:α→Int×Int)(cf:α→α→Int)(hf:∀x y,Fn P kc [.agg #[I (val x).1,I (val x).2],.agg #[I (val y).1,I (val y).2]] .nil fun r H'=>r=I (cf x y)∧St P (.nil:Heap) H' [])(kI off size:Nat)(w:World):CmpLays P kc #[] (fun x=>jV (val x)) 2 cf kI off size w:=by
 intro m os dk hdk x y
 generalize sortWorldK (fun x=>jV (val x)) 2 w kI off m dk os=W
 obtain⟨_,v,H1,h1,hr,_⟩:=hf x y
 have ha:All2 (V (fun _ _=>none)) [.agg #[I (val x).1,I (val x).2],.agg #[I (val y).1,I (val y).2]] (#[.agg #[I (val x).1,I (val x).2],.agg #[I (val y).1,I (val y).2]]:Array Value).toList:=⟨.of_flat rfl,.of_flat rfl,trivial⟩
 have hc:=CallOk.calls (f:=kc) h1 (HRel.none W) ha
 have hargs:(#[.agg (jV (val x)).toArray,.agg (jV (val y)).toArray]++#[]:Array Value)=#[.agg #[I (val x).1,I (val x).2],.agg #[I (val y).1,I (val y).2]]:=rfl
 rw[hargs]
 refine hc.mono ?_
 rintro e w'⟨ρ',v',rfl,hp,hv⟩
 subst hr
 have hfr:∀b,b<W.heap.size→w'.heap[b]? =W.heap[b]?:=fun b hb=>(hp.frame b hb (by rintro⟨A,e,p,kI,hq,_⟩;cases hq)).1
 refine⟨by rw[hv.ae rfl],w'.drawn-W.drawn,w'.heap.extract W.heap.size w'.heap.size,?_⟩
 have h1:=hp.os
 have h2:=hp.tape
 have h3:=hp.output
 have h4:=hp.size
 clear hp hv
 obtain⟨wh,wt,wd,wo,wu⟩:=W
 obtain⟨ah,at',ad,ao,au⟩:=w'
 simp only at h1 h2 h3 h4 hfr
 simp only[grow,World.drewN,World.mk.injEq]
 refine⟨?_,h2.1,by omega,h1,h3⟩
 apply Array.ext_getElem?
 intro i
 rw[Array.getElem?_append]
 split
 ·exact hfr i (by assumption)
 ·rw[Array.getElem?_extract]
  split
  ·congr 1;omega
  ·rw[Array.getElem?_eq_none (by omega)]
theorem a8d{P:Program}{kc:FuncId}(hf:∀x y,Fn P kc [.agg #[I x.1,I x.2],.agg #[I y.1,I y.2]] .nil fun r H'=>r=I (cf2 x y)∧St P (.nil:Heap) H' [])(kI off size:Nat)(w:World):CmpLays P kc #[] jV 2 cf2 kI off size w:=a2e (fun x=>x) cf2 hf kI off size w
section
variable {P:Program} {H:Heap} {ρ ρ':Rho} {H':Heap} {w w1 w2:World}
theorem Post.cI(h:Post P ρ H w ρ' H' w1)(hsz:w1.heap.size≤w2.heap.size)(hb:∀b,b<w1.heap.size→w2.heap[b]? =w1.heap[b]?)(h1:w2.os=w1.os)(h2:w2.tape=w1.tape∧w1.drawn≤w2.drawn)(h3:w2.output=w1.output):Post P ρ H w ρ' H' w2 where
 le:=h.le
 rel:=h.rel.other hsz fun A e p hp=>hb _ (h.rel.dom _ _ _ hp).2
 len:=h.len
 size:=dy h.size hsz
 os:=h1.trans h.os
 tape:=⟨h2.1.trans h.tape.1,dy h.tape.2 h2.2⟩
 output:=h3.trans h.output
 frame b hlt hw:=by
  obtain⟨e,hw'⟩:=h.frame b hlt hw
  exact⟨(hb b (dF hlt h.size)).trans e,hw'⟩
 loops b r hr:=by
  obtain⟨r',hr'⟩:=h.loops b r hr
  exact⟨r',by rw[hb b (mF hr')];exact hr'⟩
 img:=h.img
theorem c1x:∀(l:List (Int×Int))(j:Nat),j<l.length*2→(jV (l.toArray[j/2]!))[j%2]! =(pr l).getD j undef:=by
 intro l
 induction l with
 | nil=>intro j hj;simp at hj
 | cons x l ih=>
   intro j hj
   have e:pr (x::l)=I x.1::I x.2::pr l:=rfl
   rw[e]
   match j with
   | 0=>rfl
   | 1=>rfl
   | j+2=>
     have h1:(j+2)/2=j/2+1:=by omega
     have h2:(j+2)%2=j%2:=by omega
     have:=ih j (by simp at hj;omega)
     rw[h1,h2]
     simp only[List.getD_cons_succ]
     rw[←this]
     congr 2
     simp only[List.getElem!_toArray]
     simp
end
theorem V.func0{ρ:Rho}{k:FuncId}{v':Value}(h:V ρ (.func (.func k) #[] #[]) v'):v'=.func (.func k) #[] #[]:=by
 cases h with
 | v1 h=>cases h with
   | c1 h=>cases h with
     | c0 h=>cases h with
       | flat h=>rfl
     | fn ha hb=>
       rename_i a' b'
       have e1:a'=#[]:=by
        obtain⟨l⟩:=a'
        cases l with
        | nil=>rfl
        | cons=>exact ha.elim
       have e2:b'=#[]:=by
        obtain⟨l⟩:=b'
        cases l with
        | nil=>rfl
        | cons=>exact hb.elim
       rw[e1,e2]
theorem a9w(es:List (Int×Int)):kJ (pr es)=true:=by
 unfold kJ
 rw[dj]
 intro c hc
 obtain⟨x,_,hx⟩:=dR.1 hc
 simp only[jV,dS,dV,or_false]at hx
 rcases hx with rfl|rfl<;>rfl
set_option maxRecDepth 10000 in
theorem b9H{P:Program}{K kc:FuncId}{sm:Int×Int→Prop}(hso:a0s P K kc sm){H:Heap}{A i lo ver n:Nat}{ty:TypeId}{pre:List Value}{es:List (Int×Int)}(hg:iR H A=some (.cells (pre++pr es) ty true lo ver))(hlo:lo≤i+(pr es).length)(hpre:pre.length=i)
 (hn:(pr es).length=n*2) (hty:iE P ty=some 2) (hl:es.length<100000000000) (h0:es≠[]) (hsm:∀x∈es,sm x):
 CallOk P K [.slice (some ⟨A,i,some (i+(pr es).length)⟩) n 2,.func (.func kc) #[] #[]] H (.tuple #[]) (hset H A (.cells (iX (pre++pr es) i (pr (oS es))) ty true (pre++pr es).length ver)):=by
 intro k ρ w args' hr ha
 obtain⟨l⟩:=args'
 match l,ha with
 | [x,f],⟨hx,hf,_⟩=>
   obtain rfl:=V.func0 hf
   have hlen:(pre++pr es).length=i+(pr es).length:=by rw[dg,hpre]
   obtain⟨p,c',a,hp,h0',hin,hnc,hac,hpk,rfl⟩:=hx.aw
   rw[iI]at hn
   have hne:0<es.length:=fY.2 h0
   have hnn:n=es.length:=by omega
   subst hnn
   have ha':a=⟨p.b,p.at i,none⟩:=by
    rcases hac with h|h
    ·exact h.1
    ·omega
   subst ha'
   have hp2:ρ A (pre++pr es).length=some p:=by rw[hlen];exact hp
   obtain⟨_,_,hfit,cur,ty',fr,hw,hsz,hfr,hcell⟩:=(hr.cells _ _ _ _ _ _ hg).2 _ _ hp2
   obtain⟨rfl,hd0,_⟩:=hfr rfl
   let d:Array (Int×Int):=es.toArray
   have hds:d.size=es.length:=by simp[d]
   have hfl:=fun j hj=>c1x es j (by simpa using hj)
   have hH:Go.Sort.HoldsK jV 2 w p.b (p.at i) d:=by
    intro j hj
    rw[Go.Sort.size_flatK,hds]at hj
    constructor
    ·have hc:(pre++pr es)[i+j]? =some ((pr es).getD j undef):=by
      rw[eE (by omega),hpre,gf,cY,dh (by rw[iI];omega)]
      rfl
     obtain⟨c2,hc2,hrel⟩:=hcell (by rw[hlen];exact hlo) (i+j) _ (by rw[hlen,iI];omega) (by omega) hc
     have hsc:iY ((pr es).getD j undef)=true:=by
      have:=a9w es
      unfold kJ at this
      rw[dj]at this
      apply this
      rw[cY,dh (by rw[iI];omega)]
      exact gB _
     have:=hrel.az hsc
     subst this
     have hat:p.at (i+j)=p.at i+j:=by unfold Place.at;omega
     rw[hat]at hc2
     simp only[World.cell?,hw]
     rw[Go.Sort.get_flatK _ _ _ _ (by rw[hds];exact hj),hfl j hj]
     exact hc2
    ·simp only[World.frozen?,hw]
     simp
   have hcon:=hso p.b (p.at i) c' d w (by simpa [d]using hsm) hH (hr.dom _ _ _ hp).2 (by rw[hds];omega)
   rw[hds]at hcon
   obtain⟨w1,hrun,hpost⟩:=uF hr hg hp2 h0' (.aH (a9w (oS es))) (by rw[hlen,iI,iI,(mU es).length_eq];omega) (by rw[hlen];exact hlo)
   have hcsz:p.at i+(pr (oS es)).length≤cur.size:=by
    rw[iI,(mU es).length_eq,hsz]
    unfold Place.at
    rw[hlen,iI]at hfit
    omega
   have hst:=run_storeCells_at (P:=P) p.b (p.at i) ty' (pr (oS es)) 0 cur w hw (by simpa using hcsz) (All2.aH (ρ:=ρ) (a9w (oS es))).aU
   rw[hst]at hrun
   injection hrun with _ hw1
   subst hw1
   refine callsIn_wide.2 (hcon.mono ?_)
   rintro e w'⟨rfl,m,os,rfl⟩
   refine⟨ρ,_,rfl,?_,.tuple trivial⟩
   have hsl:(oS es).length=es.length:=(mU es).length_eq
   have hml:((d.toList.mergeSort le2)).length=es.length:=by simp[d]
   have hfs:∀j,j<es.length*2→(Go.Sort.flatK jV 2 (d.toList.mergeSort le2).toArray)[j]! =(pr (oS es)).getD j undef:=fun j hj=>by
    rw[Go.Sort.get_flatK _ _ _ _ (by simpa [d]using hj)]
    exact c1x (d.toList.mergeSort le2) j (by rw[hml];exact hj)
   have hFs:(Go.Sort.flatK jV 2 (d.toList.mergeSort le2).toArray).size=es.length*2:=by simp[d]
   unfold sortWorldK Go.Sort.putRowK
   generalize Go.Sort.flatK jV 2 (d.toList.mergeSort le2).toArray=F at hfs hFs ⊢
   have hlt:=mF hw
   have hh:∀b,b<w.heap.size→(Go.Sort.grow (Go.Sort.putRow id (Go.Sort.ahead w m) p.b (p.at i) F) os).heap[b]? =(Go.Sort.putRow id (Go.Sort.ahead w m) p.b (p.at i) F).heap[b]?:=fun b hb=>by
    have:b<(Go.Sort.putRow id (Go.Sort.ahead w m) p.b (p.at i) F).heap.size:=by simpa [Go.Sort.putRow,Go.Sort.mapBlock,Go.Sort.ahead]using hb
    unfold Go.Sort.grow
    exact fo this
   refine hpost.cI ?_ ?_ rfl ⟨rfl,Nat.le_add_right _ _⟩ rfl
   ·simp[Go.Sort.grow,Go.Sort.putRow,Go.Sort.mapBlock,Go.Sort.ahead]
   ·intro b hbs
    rw[setRow_size]at hbs
    rw[hh b hbs]
    by_cases e:b=p.b
    ·subst e
     rw[setRow_heap w p.b cur _ ty' (0,0) hw]
     have e2:(Go.Sort.putRow id (Go.Sort.ahead w m) p.b (p.at i) F).heap[p.b]? =some (.cells (Go.Sort.putCells id (p.at i) F cur) ty' (0,0)):=by
      simp[Go.Sort.putRow,Go.Sort.mapBlock,Go.Sort.ahead,gn,hw,Go.Sort.onCells]
     rw[e2]
     congr 2
     apply Array.ext_getElem?
     intro j
     have hseg:=a5b cur.toList (pr (oS es)) (p.at i) j (by simpa using hcsz)
     have e3:((List.take (p.at i+0) cur.toList++pr (oS es)++List.drop (p.at i+0+(pr (oS es)).length) cur.toList).toArray)[j]? =(List.take (p.at i) cur.toList++pr (oS es)++List.drop (p.at i+(pr (oS es)).length) cur.toList)[j]?:=by simp
     rw[e3,hseg]
     simp only[Go.Sort.putCells,Array.getElem?_mapIdx,gm]
     rw[iI,hsl]at hcsz ⊢
     by_cases h1:p.at i≤j∧j<p.at i+es.length*2
     ·rw[if_pos h1]
      have hjc:j<cur.size:=by omega
      rw[fw hjc]
      simp only[dI]
      rw[if_pos (by rw[hFs];exact h1),hfs _ (by omega),cY,dh (by rw[iI,hsl];omega)]
      rfl
     ·rw[if_neg h1]
      cases hc:cur[j]? with
      | none=>simp
      | some c=>
        simp only[dI]
        rw[if_neg (by rw[hFs];exact h1)]
    ·rw[setRow_other _ _ _ _ e]
     simp[Go.Sort.putRow,Go.Sort.mapBlock,Go.Sort.ahead,gn,eY e]
theorem vA{P:Program}{K kc:FuncId}{sm:Int×Int→Prop}(hso:a0s P K kc sm)(hno:a3n P K)(hent0:rD P K){H:Heap}{H0:Base}{os:List Ob}(hS:St P H0 H os)(i:Nat){v:Value}{es:List (Int×Int)}(ho:os[i]? =some ⟨v,2,pr es⟩)(hl:es.length<100000000000)(hsm:∀x∈es,sm x){Q:Value→Heap→Prop}
 (h:∀H1,St P H0 H1 (os.set i ⟨v,2,pr (oS es)⟩)→Q (.tuple #[]) H1):vG P K [v,.func (.func kc) #[] #[]] H Q:=by
 have hent:rD P K:=hent0
 by_cases h0:es=[]
 ·subst h0
  refine⟨.tuple #[],H,hent,?_,h H ?_⟩
  ·intro k ρ w args' hr ha
   obtain⟨l⟩:=args'
   match l,ha with
   | [x,f],⟨hx,hf,_⟩=>
     obtain rfl:=V.func0 hf
     have hown:=hS.own _ (dJ ho)
     unfold OwnAt at hown
     rw[if_neg (by simp)]at hown
     have hx0:∃p cap,x=.slice p 0 cap:=by
      rcases hown with⟨h2,_⟩|⟨A,j,ty,lo',ver,pre,m,h2,h3,h4,h5,h6,h7⟩
      ·simp only at h2
       subst h2
       rcases hx.ax with⟨_,_,_,rfl⟩|⟨A,j,e,p,c',a,hh,_⟩
       ·exact⟨_,_,rfl⟩
       ·cases hh
      ·simp only at h5 h6
       subst h6
       have hm:m=0:=by have:(pr []).length=0:=rfl;omega
       subst hm
       obtain⟨p,c',a,_,_,_,_,_,_,rfl⟩:=hx.aw
       exact⟨_,_,rfl⟩
     obtain⟨p,cap,rfl⟩:=hx0
     refine callsIn_wide.2 ((hno p cap _ w).mono ?_)
     rintro e w'⟨rfl,rfl⟩
     exact⟨ρ,_,rfl,.refl hr,.tuple trivial⟩
  ·obtain⟨hi,hoi⟩:=dp.1 ho
   have e:oS []=[]:=List.Perm.eq_nil (mU [])
   rw[e,←hoi,List.set_getElem_self]
   exact hS
 ·have hown:=hS.own _ (dJ ho)
  unfold OwnAt at hown
  rw[if_neg (by simp)]at hown
  have hne:0<es.length:=fY.2 h0
  rcases hown with⟨_,h3⟩|⟨A,j,ty,lo',ver,pre,m,h2,h3,h4,h5,h6,h7⟩
  ·simp only at h3
   have:=congrArg List.length h3
   rw[iI,dW]at this
   omega
  ·simp only at h2 h3 h5 h6
   have hsl:(pr (oS es)).length=(pr es).length:=by rw[iI,iI,(mU es).length_eq]
   have hcall:=b9H hso h2 h3 h4 h5 h7 hl h0 hsm
   rw[←h6]at hcall
   refine⟨_,_,hent,hcall,h _ (hS.put i ho ?_ ?_ ?_ ?_)⟩
   ·unfold OwnAt
    rw[if_neg (by simp)]
    refine .inr ⟨A,j,ty,(pre++pr es).length,ver,pre,m,?_,?_,h4,?_,?_,h7⟩
    ·rw[iS _ (jK h2)]
     have:=mZ (pr (oS es)) pre (pr es) (by rw[hsl];exact db _)
     rw[h4]at this
     rw[this,hsl,List.drop_length,di]
    ·simp only[dg,h4,hsl];exact db _
    ·simp only[hsl];exact h5
    ·simp only[hsl];exact h6
   ·rw[jM];exact db _
   ·intro B' hB hne'
    refine qM fun hh=>hne' ?_
    simp[kI,h6,hh]
   ·intro B' hB
    exact .inl hB
end Go.Ds
namespace Go.Proofs
open Go.Shelf
def Tryz.bz:Go.Shelf.Ren:=⟨fun|6=>55|15=>95|14=>94|28=>140|29=>141|20=>132|21=>133|22=>134|23=>135|24=>136|25=>137|26=>138|27=>139|46=>186|47=>187|48=>188|49=>189|50=>190|57=>225|n=>n,fun|22=>57|24=>60|25=>146|3=>3|39=>123|0=>0|53=>228|55=>39|4=>4|46=>221|45=>220|50=>225|5=>5|9=>9|66=>272|70=>276|76=>312|77=>313|n=>n,fun|n=>n⟩
theorem Tryz.bA:Go.Proofs.SlLaysF0.n6 Tryz.prog Tryz.bz:={
 mixed:=by kernel_rfl
 f6:=⟨Tryz.f55.name,by decide,Tryz.func55.trans (congrArg some (by kernel_rfl))⟩
 f14:=⟨Tryz.f94.name,by decide,Tryz.func94.trans (congrArg some (by kernel_rfl))⟩
 f15:=Tryz.func95.trans (congrArg some (by kernel_rfl))
 f20:=⟨Tryz.f132.name,by decide,Tryz.func132.trans (congrArg some (by kernel_rfl))⟩
 f21:=⟨Tryz.f133.name,by decide,Tryz.func133.trans (congrArg some (by kernel_rfl))⟩
 f22:=⟨Tryz.f134.name,by decide,Tryz.func134.trans (congrArg some (by kernel_rfl))⟩
 f23:=⟨Tryz.f135.name,by decide,Tryz.func135.trans (congrArg some (by kernel_rfl))⟩
 f24:=⟨Tryz.f136.name,by decide,Tryz.func136.trans (congrArg some (by kernel_rfl))⟩
 f25:=⟨Tryz.f137.name,by decide,Tryz.func137.trans (congrArg some (by kernel_rfl))⟩
 f26:=⟨Tryz.f138.name,by decide,Tryz.func138.trans (congrArg some (by kernel_rfl))⟩
 f27:=⟨Tryz.f139.name,by decide,Tryz.func139.trans (congrArg some (by kernel_rfl))⟩
 f28:=Tryz.func140.trans (congrArg some (by kernel_rfl))
 f29:=Tryz.func141.trans (congrArg some (by kernel_rfl))
 f46:=⟨Tryz.f186.name,by decide,Tryz.func186.trans (congrArg some (by kernel_rfl))⟩
 f47:=Tryz.func187.trans (congrArg some (by kernel_rfl))
 f48:=Tryz.func188.trans (congrArg some (by kernel_rfl))
 f49:=⟨Tryz.f189.name,by decide,Tryz.func189.trans (congrArg some (by kernel_rfl))⟩
 f50:=⟨Tryz.f190.name,by decide,Tryz.func190.trans (congrArg some (by kernel_rfl))⟩
 f57:=⟨Tryz.f225.name,by decide,Tryz.func225.trans (congrArg some (by kernel_rfl))⟩
 t0:=Tryz.underlying0
 a0:=Tryz.isAgg0
 z0:=Tryz.sizeOf0
 v0:=Tryz.zeroValue0
 t3:=Tryz.underlying3
 a3:=Tryz.isAgg3
 z3:=Tryz.sizeOf3
 v3:=Tryz.zeroValue3
 t4:=Tryz.underlying4
 a4:=Tryz.isAgg4
 z4:=Tryz.sizeOf4
 v4:=Tryz.zeroValue4
 t5:=Tryz.underlying5
 a5:=Tryz.isAgg5
 z5:=Tryz.sizeOf5
 v5:=Tryz.zeroValue5
 t9:=Tryz.underlying9
 a9:=Tryz.isAgg9
 z9:=Tryz.sizeOf9
 v9:=Tryz.zeroValue9
 t22:=Tryz.underlying57
 a22:=Tryz.isAgg57
 z22:=Tryz.sizeOf57
 v22:=Tryz.zeroValue57
 t25:=Tryz.underlying146
 a25:=Tryz.isAgg146
 z25:=Tryz.sizeOf146
 v25:=Tryz.zeroValue146
 t39:=Tryz.underlying123
 a39:=Tryz.isAgg123
 z39:=Tryz.sizeOf123
 v39:=Tryz.zeroValue123
 t45:=Tryz.underlying220
 a45:=Tryz.isAgg220
 z45:=Tryz.sizeOf220
 v45:=Tryz.zeroValue220
 t46:=Tryz.underlying221
 a46:=Tryz.isAgg221
 z46:=Tryz.sizeOf221
 v46:=Tryz.zeroValue221
 t50:=Tryz.underlying225
 a50:=Tryz.isAgg225
 z50:=Tryz.sizeOf225
 v50:=Tryz.zeroValue225
 t53:=Tryz.underlying228
 a53:=Tryz.isAgg228
 z53:=Tryz.sizeOf228
 v53:=Tryz.zeroValue228
 t55:=Tryz.underlying39
 a55:=Tryz.isAgg39
 z55:=Tryz.sizeOf39
 v55:=Tryz.zeroValue39
 t66:=Tryz.underlying272
 a66:=Tryz.isAgg272
 z66:=Tryz.sizeOf272
 v66:=Tryz.zeroValue272
 t70:=Tryz.underlying276
 a70:=Tryz.isAgg276
 z70:=Tryz.sizeOf276
 v70:=Tryz.zeroValue276
 t76:=Tryz.underlying312
 a76:=Tryz.isAgg312
 z76:=Tryz.sizeOf312
 v76:=Tryz.zeroValue312
 t77:=Tryz.underlying313
 a77:=Tryz.isAgg313
 z77:=Tryz.sizeOf313
 v77:=Tryz.zeroValue313}
def Tryz.bp:Go.Shelf.Ren:=⟨fun|6=>92|15=>95|14=>131|28=>140|29=>141|20=>178|21=>179|22=>180|23=>181|24=>182|25=>183|26=>184|27=>185|46=>222|47=>187|48=>188|49=>223|50=>224|57=>239|n=>n,fun|22=>50|24=>53|25=>180|3=>3|39=>123|0=>0|53=>228|55=>39|4=>4|46=>221|45=>220|50=>225|5=>5|9=>9|66=>272|70=>276|76=>312|77=>313|n=>n,fun|n=>n⟩
theorem Tryz.bh:Go.Proofs.SlLaysF0.n6 Tryz.prog Tryz.bp:={
 mixed:=by kernel_rfl
 f6:=⟨Tryz.f92.name,by decide,Tryz.func92.trans (congrArg some (by kernel_rfl))⟩
 f14:=⟨Tryz.f131.name,by decide,Tryz.func131.trans (congrArg some (by kernel_rfl))⟩
 f15:=Tryz.func95.trans (congrArg some (by kernel_rfl))
 f20:=⟨Tryz.f178.name,by decide,Tryz.func178.trans (congrArg some (by kernel_rfl))⟩
 f21:=⟨Tryz.f179.name,by decide,Tryz.func179.trans (congrArg some (by kernel_rfl))⟩
 f22:=⟨Tryz.f180.name,by decide,Tryz.func180.trans (congrArg some (by kernel_rfl))⟩
 f23:=⟨Tryz.f181.name,by decide,Tryz.func181.trans (congrArg some (by kernel_rfl))⟩
 f24:=⟨Tryz.f182.name,by decide,Tryz.func182.trans (congrArg some (by kernel_rfl))⟩
 f25:=⟨Tryz.f183.name,by decide,Tryz.func183.trans (congrArg some (by kernel_rfl))⟩
 f26:=⟨Tryz.f184.name,by decide,Tryz.func184.trans (congrArg some (by kernel_rfl))⟩
 f27:=⟨Tryz.f185.name,by decide,Tryz.func185.trans (congrArg some (by kernel_rfl))⟩
 f28:=Tryz.func140.trans (congrArg some (by kernel_rfl))
 f29:=Tryz.func141.trans (congrArg some (by kernel_rfl))
 f46:=⟨Tryz.f222.name,by decide,Tryz.func222.trans (congrArg some (by kernel_rfl))⟩
 f47:=Tryz.func187.trans (congrArg some (by kernel_rfl))
 f48:=Tryz.func188.trans (congrArg some (by kernel_rfl))
 f49:=⟨Tryz.f223.name,by decide,Tryz.func223.trans (congrArg some (by kernel_rfl))⟩
 f50:=⟨Tryz.f224.name,by decide,Tryz.func224.trans (congrArg some (by kernel_rfl))⟩
 f57:=⟨Tryz.f239.name,by decide,Tryz.func239.trans (congrArg some (by kernel_rfl))⟩
 t0:=Tryz.underlying0
 a0:=Tryz.isAgg0
 z0:=Tryz.sizeOf0
 v0:=Tryz.zeroValue0
 t3:=Tryz.underlying3
 a3:=Tryz.isAgg3
 z3:=Tryz.sizeOf3
 v3:=Tryz.zeroValue3
 t4:=Tryz.underlying4
 a4:=Tryz.isAgg4
 z4:=Tryz.sizeOf4
 v4:=Tryz.zeroValue4
 t5:=Tryz.underlying5
 a5:=Tryz.isAgg5
 z5:=Tryz.sizeOf5
 v5:=Tryz.zeroValue5
 t9:=Tryz.underlying9
 a9:=Tryz.isAgg9
 z9:=Tryz.sizeOf9
 v9:=Tryz.zeroValue9
 t22:=Tryz.underlying50
 a22:=Tryz.isAgg50
 z22:=Tryz.sizeOf50
 v22:=Tryz.zeroValue50
 t25:=Tryz.underlying180
 a25:=Tryz.isAgg180
 z25:=Tryz.sizeOf180
 v25:=Tryz.zeroValue180
 t39:=Tryz.underlying123
 a39:=Tryz.isAgg123
 z39:=Tryz.sizeOf123
 v39:=Tryz.zeroValue123
 t45:=Tryz.underlying220
 a45:=Tryz.isAgg220
 z45:=Tryz.sizeOf220
 v45:=Tryz.zeroValue220
 t46:=Tryz.underlying221
 a46:=Tryz.isAgg221
 z46:=Tryz.sizeOf221
 v46:=Tryz.zeroValue221
 t50:=Tryz.underlying225
 a50:=Tryz.isAgg225
 z50:=Tryz.sizeOf225
 v50:=Tryz.zeroValue225
 t53:=Tryz.underlying228
 a53:=Tryz.isAgg228
 z53:=Tryz.sizeOf228
 v53:=Tryz.zeroValue228
 t55:=Tryz.underlying39
 a55:=Tryz.isAgg39
 z55:=Tryz.sizeOf39
 v55:=Tryz.zeroValue39
 t66:=Tryz.underlying272
 a66:=Tryz.isAgg272
 z66:=Tryz.sizeOf272
 v66:=Tryz.zeroValue272
 t70:=Tryz.underlying276
 a70:=Tryz.isAgg276
 z70:=Tryz.sizeOf276
 v70:=Tryz.zeroValue276
 t76:=Tryz.underlying312
 a76:=Tryz.isAgg312
 z76:=Tryz.sizeOf312
 v76:=Tryz.zeroValue312
 t77:=Tryz.underlying313
 a77:=Tryz.isAgg313
 z77:=Tryz.sizeOf313
 v77:=Tryz.zeroValue313}
end Go.Proofs
namespace Go.Ds
open Go.Proofs Go.Proofs.Tryz Go.Shelf Go.RowKit Go.Lib Go.Sort
theorem yS(x:Int×Int):∀v∈jV x,v.oneCell'=true:=by
 intro v hv
 simp[jV]at hv
 rcases hv with rfl|rfl<;>rfl
theorem c4l(kc:FuncId)(eg:∀args w,(callFunc kc args).run prog w=.ok (.enter kc args) w)(hf:∀x y,Fn prog kc [.agg #[I x.1,I x.2],.agg #[I y.1,I y.2]] .nil fun r H'=>r=I (cf2 x y)∧St prog (.nil:Heap) H' []):a0s prog 55 kc (fun _=>True):=
 fun kI off cap d w _ hH hblk hsz=>by
  have h:=AnyQ.slices_SortFunc_total Tryz.bA 2 Tryz.isAgg60 Tryz.sizeOf60 jV (fun _=>rfl) yS cf2 c4s kc #[] kI off cap d w eg (a8d hf kI off d.size w) hH hblk hsz c6B
  rw[b1h]at h
  exact h
theorem c5j(kc:FuncId)(eg:∀args w,(callFunc kc args).run prog w=.ok (.enter kc args) w)(hf:∀x y,Fn prog kc [.agg #[I x.1,I x.2],.agg #[I y.1,I y.2]] .nil fun r H'=>r=I (cf2 x y)∧St prog (.nil:Heap) H' []):a0s prog 92 kc (fun _=>True):=
 fun kI off cap d w _ hH hblk hsz=>by
  have h:=AnyQ.slices_SortFunc_total Tryz.bh 2 Tryz.isAgg53 Tryz.sizeOf53 jV (fun _=>rfl) yS cf2 c4s kc #[] kI off cap d w eg (a8d hf kI off d.size w) hH hblk hsz c6B
  rw[b1h]at h
  exact h
theorem c2r:a3n prog 55:=fun p cap fv w=>AnyF.slices_SortFunc_none {Tryz.bA with} p cap fv w
theorem c1g:a3n prog 92:=fun p cap fv w=>AnyF.slices_SortFunc_none {Tryz.bh with} p cap fv w
def b0g(K kc:FuncId):Prop:=∀{H:Heap}{B:Base}{os:List Ob}(hS:St prog B H os)(i:Nat){v:Value}{es:List (Int×Int)}(ho:os[i]? =some ⟨v,2,pr es⟩)(hl:es.length<100000000000){Q:Value→Heap→Prop}
    (h:∀H1,St prog B H1 (os.set i ⟨v,2,pr (oS es)⟩)→Q (.tuple #[]) H1),vG prog K [v,.func (.func kc) #[] #[]] H Q
theorem c3y:rD prog 55:=⟨Tryz.f55,func55,by kernel_rfl,by kernel_rfl⟩
theorem c1l:rD prog 92:=⟨Tryz.f92,func92,by kernel_rfl,by kernel_rfl⟩
theorem c5v:b0g 55 209:=fun hS i _ _ ho hl _ h=>vA (c4l 209 (enters_of func209 (by kernel_rfl) rfl) fun x y=>c0r x y) c2r c3y hS i ho hl (fun _ _=>trivial) h
theorem c6v:b0g 55 120:=fun hS i _ _ ho hl _ h=>vA (c4l 120 (enters_of func120 (by kernel_rfl) rfl) fun x y=>c0D x y) c2r c3y hS i ho hl (fun _ _=>trivial) h
theorem c5g:b0g 92 117:=fun hS i _ _ ho hl _ h=>vA (c5j 117 (enters_of func117 (by kernel_rfl) rfl) fun x y=>c0u x y) c1g c1l hS i ho hl (fun _ _=>trivial) h
end Go.Ds
namespace Go.Ds
open Go.Proofs Go.Proofs.Tryz
variable {H:Heap}
set_option maxRecDepth 10000
theorem a1u{p:Nat→Bool}{n j:Nat}(h:pD p n=(j:Int)):j<n:=by
 unfold pD at h
 split at h
 ·rename_i q hq
  have:=dq.1 (gE hq)
  omega
 ·omega
theorem b8t(g:Seg)(hg:g.In H)(key:Int)(A:Nat)(hA:Var H A 1 [I key]):Fn prog 208 [.agg #[I g.lo,I g.hi,g.dv],ptr A 0 1] H fun r H'=>r=.bool (decide (g.lo≤key)&&decide (key≤g.hi))∧St prog H H' []:=by
 refine .aF func208 rfl (by kernel_rfl) (m:=14) rfl fun l hn g0 g1=> ?_
 simp(disch:=omega) only[↓RA,RB,simprocAttr,g0]
 refine(sR H).eNew 3 [I g.lo,I g.hi,g.dv] rfl rfl (by simp[OC,((sR H).sl hg.1).cells.2.1]) zP fun A1 H1 hS1=> ?_
 simp only[RT]at hS1
 simp(disch:=omega) only[↓RA,RZ,simprocAttr,hn,g1,hS1.ld 0 rfl,(hS1.va hA).ld]
 refine jC (fun h1=> ?_) (fun h1=> ?_)
 ·simp(disch:=omega) only[↓RA,RZ,simprocAttr,hn,g1,(hS1.va hA).ld,hS1.ld 0 rfl,c0S,h1]
  first|exact hS1.forget|exact⟨by simp[h1],hS1.forget⟩
 simp(disch:=omega) only[↓RA,RZ,simprocAttr,hn,c0S,h1]
 first|exact hS1.forget|exact⟨by simp[],hS1.forget⟩
theorem b8x(v:Value)(xs:List Seg)(hv:Sl 3 Seg.cells H v xs)(hl:xs.length<1000000000)(k:FuncId)(caps:List Value)(p:Nat→Bool)
 (hf:∀j H1,j<xs.length→St prog H H1 []→Fn prog k (.agg #[I (iB xs j).lo,I (iB xs j).hi,(iB xs j).dv]::caps) H1 fun r H2=>r=.bool (p j)∧St prog H1 H2 []):
 Fn prog 207 [v,.func (.func k) #[] caps.toArray] H fun r H'=>r=I (pD p xs.length)∧St prog H H' []:=by
 refine .aF func207 rfl (by kernel_rfl) (m:=19) rfl fun l hn g0 g1=> ?_
 simp(disch:=omega) only[↓RA,RZ,simprocAttr,hn,g0,((sR H).sl hv).len]
 refine Wp.aj (fun n l H'=>l.length=19∧get l 0=v∧get l 1=.func (.func k) #[] caps.toArray∧get l 7=I xs.length∧∃(j:Nat),(n+j=xs.length∧∀q,q<j→p q=false)∧get l 8=I j∧St prog H H' []) xs.length ?_ ?_
 ·simp(disch:=omega) only[RB,RC,simprocAttr,hn,g0,g1]
  exact⟨0,⟨by omega,fun q hq=>absurd hq (dL _)⟩,rfl,(sR H)⟩
 rintro n l H1⟨hn,g0,g1,g7,j,⟨hi,h0⟩,g8,hS1⟩
 simp(disch:=omega) only[↓RA,RB,simprocAttr,hn,g7,g8]
 refine iA (fun h=> ?_) (fun h=> ?_)
 ·simp(disch:=omega) only[↓RA,RZ,simprocAttr,hn,g0,g1,g8,(hS1.sl hv).idx,(hS1.sl hv).ai,Seg.cells,h]
  refine hS1.cF (hf j _ (by omega) hS1) fun H2 hS2=> ?_
  simp(disch:=omega) only[↓RA,RZ,simprocAttr,hn,h]
  refine jJ (fun hp=> ?_) (fun hp=> ?_)
  ·simp(disch:=omega) only[↓RA,RZ,simprocAttr,hn,c1H,h,hp]
   exact⟨by rw[zD p xs.length j (by omega) hp h0],hS2⟩
  simp(disch:=omega) only[↓RA,RZ,simprocAttr,hn,g0,g1,g7,g8,h,hp]
  exact⟨n-1,by omega,j+1,⟨by omega,fun q hq=>by rcases dm.1 hq with e|e;(· exact h0 q e);(· rw[e];exact hp)⟩,by simp,hS2⟩
 simp(disch:=omega) only[↓RA,RZ,simprocAttr,hn,c1H,h]
 exact⟨by rw[yL p xs.length fun q hq=>h0 q (by omega)],hS1⟩
theorem a9r{H0:Heap}{os0:List Ob}(hS0:St prog H0 H os0)(s:Stp)(hs0:s.In H0)(key:Int):Fn prog 162 [.agg #[.string s.name,I s.num,I s.den,s.gv],I key] H fun r H'=>∃g:Seg,r=.agg #[I g.lo,I g.hi,g.dv]∧g.In H0∧g.draws=a6k s key∧St prog H H' []:=by
 have hs:=hs0.ak hS0
 have hl:=hs.2.2
 refine .aF func162 rfl (by kernel_rfl) (m:=18) rfl fun l hn g0 g1=> ?_
 simp(disch:=omega) only[↓RA,RB,simprocAttr,g0]
 refine(sR H).eNew 4 [(.string s.name),I s.num,I s.den,s.gv] rfl rfl (by simp[OC,((sR H).sl hs.1).cells.2.1]) oA fun A1 H1 hS1=> ?_
 simp only[RT]at hS1
 simp(disch:=omega) only[↓RA,RB,simprocAttr,g1]
 refine hS1.eNew 1 [I key] rfl rfl rfl tS3 fun A2 H2 hS2=> ?_
 simp only[RT]at hS2
 simp(disch:=omega) only[↓RA,RZ,simprocAttr]
 refine hS2.eNew 3 [I 0,I 0,(.slice none 0 0)] rfl rfl rfl zP fun A3 H3 hS3=> ?_
 simp only[RT]at hS3
 simp(disch:=omega) only[↓RA,RZ,simprocAttr,hn,hS3.ld 0 rfl]
 have hA:=hS3.var 1 rfl
 have hSc:=hS3
 refine hS3.cF (b8x s.gv s.segs (hS3.sl hs.1) hs.2.2 208 [ptr A2 0 1] (uK s key) (fun j H1 hj hS'=>b8t _ ((hs.2.1 _ (iD hj)).ak (hSc.trans hS')) key A2 (hA.ak hS'.ak))) fun H4 hS4=> ?_
 simp(disch:=omega) only[↓RA,RB,simprocAttr,hn]
 refine iA (fun h=> ?_) (fun h=> ?_)
 ·simp(disch:=omega) only[↓RA,RZ,simprocAttr,hn,c3c,h]
  refine hS4.aa 2 rfl [I 0,I 0,(.slice none 0 0)] rfl rfl zP (by simp) fun H5 hS5=> ?_
  simp only[RT]at hS5
  simp(disch:=omega) only[↓RA,RZ,simprocAttr,hn,c1d,hS5.ai 2 rfl,h]
  exact⟨⟨0,0,.slice none 0 0,[]⟩,rfl,⟨⟨.inl ⟨rfl,rfl⟩,fun _=>rfl,by decide⟩,by simp⟩,by rw[a6k,if_pos h],hS5.forget⟩
 obtain⟨j,hj⟩:∃j:Nat,pD (uK s key) s.segs.length=j:=⟨(pD (uK s key) s.segs.length).toNat,by omega⟩
 have hjl:j<s.segs.length:=a1u hj
 simp(disch:=omega) only[↓RA,RZ,simprocAttr,hn,hS4.ld 0 rfl,(hS4.sl hs.1).idx,(hS4.sl hs.1).ai,Seg.cells,hj]
 refine hS4.aa 2 rfl [I (iB s.segs j).lo,I (iB s.segs j).hi,(iB s.segs j).dv] rfl (by simp[OC,(hS4.sl (hs.2.1 (iB s.segs j) (iD (by omega))).1).cells.2.1]) zP (by simp) fun H6 hS6=> ?_
 simp only[RT]at hS6
 simp(disch:=omega) only[↓RA,RZ,simprocAttr,hn,c1d,hS6.ai 2 rfl,hj]
 exact⟨iB s.segs j,rfl,hs0.2.1 _ (iD hjl),by rw[a6k,if_neg h,hj];rfl,hS6.forget⟩
theorem b9Z(rv:Value)(rks:List Rk)(hr:Sl 6 Rk.cells H rv rks)(hrk:∀r∈rks,r.In H)(hl:rks.length<1000000000)(d:Drw)(key:Int):
 Fn prog 163 [rv,.agg #[I d.rank,I d.shift],I key] H fun r H'=>r=.tuple #[.agg #[I (mG rks d key).1,I (mG rks d key).2],.bool (qW rks d key)]∧St prog H H' []:=by
 refine .bk func163 rfl (by kernel_rfl) (m:=48) rfl fun l hn g0 g1 g2=> ?_
 simp(disch:=omega) only[↓RA,RB,simprocAttr,g1]
 refine(sR H).eNew 2 [I d.rank,I d.shift] rfl rfl rfl wG fun A1 H1 hS1=> ?_
 simp only[RT]at hS1
 simp(disch:=omega) only[↓RA,RZ,simprocAttr]
 refine hS1.eNew 2 [I 0,I 0] rfl rfl rfl rQ fun A2 H2 hS2=> ?_
 simp only[RT]at hS2
 simp(disch:=omega) only[↓RA,RZ,simprocAttr,hn,hS2.ld 0 rfl]
 refine iN (fun h1=> ?_) (fun h1=> ?_)
 ·simp(disch:=omega) only[↓RA,RZ,simprocAttr,hn,c0V,h1]
  refine hS2.aa 1 rfl [I 0,I 0] rfl rfl rQ (by simp) fun H3 hS3=> ?_
  simp only[RT]at hS3
  simp(disch:=omega) only[↓RA,RZ,simprocAttr,hn,b1A,hS3.ai 1 rfl,h1]
  exact⟨by rw[mG,qW,if_pos (by omega),decide_eq_true (by omega)];rfl,hS3.forget⟩
 simp(disch:=omega) only[↓RA,RZ,simprocAttr,hn,g0,hS2.ld 0 rfl,(hS2.sl hr).len,h1]
 refine iA (fun h2=> ?_) (fun h2=> ?_)
 ·simp(disch:=omega) only[↓RA,RZ,simprocAttr,hn,c0V,h1,h2]
  refine hS2.aa 1 rfl [I 0,I 0] rfl rfl rQ (by simp) fun H4 hS4=> ?_
  simp only[RT]at hS4
  simp(disch:=omega) only[↓RA,RZ,simprocAttr,hn,b1A,hS4.ai 1 rfl,h1,h2]
  exact⟨by rw[mG,qW,if_pos (by omega),decide_eq_true (by omega)];rfl,hS4.forget⟩
 obtain⟨j,hj⟩:∃j:Nat,d.rank=j:=⟨d.rank.toNat,by omega⟩
 have hjl:j<rks.length:=by omega
 have hp:mG rks d key=((j:Int),oQ (oQ (key+d.shift)-(iB rks j).first)):=by rw[mG,if_neg (by omega),hj];rfl
 have hh:qW rks d key=(decide (0≤oQ (oQ (key+d.shift)-(iB rks j).first))&&decide (oQ (oQ (key+d.shift)-(iB rks j).first)<(iB rks j).wind.length)):=by
  rw[qW,hp,decide_eq_false (by omega),hj]
  rfl
 rw[hp,hh]
 have hw:=(hrk _ (iD hjl)).2
 simp(disch:=omega) only[↓RA,simprocAttr,hj]
 refine Wp.drw jW (by kernel_rfl) ?_
 simp(disch:=omega) only[↓RA,RZ,simprocAttr,hn,g2]
 simp(disch:=omega) only[↓RA,RZ,simprocAttr,hn,g0,hS2.ld 0 rfl,(hS2.sl hr).idx,(hS2.sl hr).bb,(hS2.sl hr).ld,Rk.cells,hj]
 refine Wp.aQ jW [(10,18),(13,18),(14,18)] (by kernel_rfl) (by kernel_rfl) ?_
 simp(disch:=omega) only[↓RA,RZ,simprocAttr,hn,hS2.ld 0 rfl,xT,hj]
 refine jC (fun h3=> ?_) (fun h3=> ?_)
 ·skip
  simp(disch:=omega) only[↓RA,RZ,simprocAttr,hn,g0,hS2.ld 0 rfl,(hS2.sl hr).idx,(hS2.sl hr).bb,(hS2.sl hr).ld,Rk.cells,(hS2.sl (hrk (iB rks j) (iD (by omega))).1).len,hj,h3]
  refine hS2.aa 1 rfl [I j,_] rfl rfl rQ (by simp) fun H5 hS5=> ?_
  simp only[RT]at hS5
  simp(disch:=omega) only[↓RA,RZ,simprocAttr,hn,hS5.ld 0 rfl,Rk.cells,(hS5.sl hr).ld,(hS5.sl (hrk (iB rks j) (iD (by omega))).1).len,b1A,hS5.ai 1 rfl,hj,h3]
  exact hS5.forget
 simp(disch:=omega) only[↓RA,RZ,simprocAttr,hn,h3]
 refine hS2.aa 1 rfl [I j,_] rfl rfl rQ (by simp) fun H6 hS6=> ?_
 simp only[RT]at hS6
 simp(disch:=omega) only[↓RA,RZ,simprocAttr,hn,b1A,hS6.ai 1 rfl,h3]
 first|exact hS6.forget|exact⟨by rw[ft],hS6.forget⟩
theorem b4O{B:Base}{v:Value}{es:List (Int×Int)}(hS:St prog B H [⟨v,2,pr es⟩])(hl:es.length<1000000):
 Fn prog 164 [v] H fun r H'=>∃rest:List Value,(∀b,kI r=some b→kI v=some b)∧(∀H2,RdAt H2 v 2 (pr (dd (oS es))++rest)→RdAt H2 r 2 (pr (dd (oS es))))∧St prog B H' [⟨v,2,pr (dd (oS es))++rest⟩]:=by
 refine .aT func164 rfl (by kernel_rfl) (m:=7) rfl fun l hn g0=> ?_
 simp(disch:=omega) only[↓RA,RZ,simprocAttr,hn,g0]
 refine c5v hS 0 rfl (gU hl (by decide)) fun H1 hS1=> ?_
 simp only[eW]at hS1
 simp(disch:=omega) only[↓RA,RZ,simprocAttr,hn,g0]
 refine iG (uC hS1 (by rw[mM];exact gU hl (by decide))) ?_
 rintro r H2⟨rest,hb,hrd,hS2⟩
 have hrc:=(hrd H2 (hS2.rd 0 rfl)).cells
 simp(disch:=omega) only[↓RA,RB,simprocAttr,hn,c5U]
 exact⟨rest,hb,hrd,hS2⟩
theorem b5Z{a b:Int}{v:Value}{α:Type}{n:Nat}{cel:α→List Value}{xs:List α}(h:Sl n cel H v xs):xL prog 158 (.agg #[I a,I b,v]) 2=some v:=by
 rcases h.rd with⟨rfl,_⟩|⟨A,i,e,row,ty,rw,lo,ver,n,_,_,_,_,_,_,rfl⟩<;>kernel_rfl
theorem b6m(rv:Value)(rks:List Rk)(hr:Sl 6 Rk.cells H rv rks)(hrk:∀r∈rks,r.In H)(hl:rks.length<1000000000)(s:Stp)(hs:s.In H)(hs2:∀g∈s.segs,g.draws.length≤8)(key:Int):
 Fn prog 119 [rv,.agg #[.string s.name,I s.num,I s.den,s.gv],I key] H fun r H'=>Slx 2 jV H' (fun B=>H.length≤B) r (pT rks s key)∧St prog H H' []:=by
 refine .bk func119 rfl (by kernel_rfl) (m:=36) rfl fun l hn g0 g1 g2=> ?_
 simp(disch:=omega) only[↓RA,RB,simprocAttr,g1]
 refine(sR H).eNew 4 [(.string s.name),I s.num,I s.den,s.gv] rfl rfl (by simp[OC,((sR H).sl hs.1).cells.2.1]) oA fun A1 H1 hS1=> ?_
 simp only[RT]at hS1
 simp(disch:=omega) only[↓RA,RZ,simprocAttr,hn,g2,hS1.ai 0 rfl]
 refine iG (a9r hS1 s hs key) ?_
 rintro r H2⟨g,rfl,hgi,hgd,hT1⟩
 have hS2:=hS1.trans hT1
 simp only[RT]at hS2
 have hgl:=hgi.2
 have hg8:g.draws.length≤8:=by
  rw[hgd]
  unfold a6k
  split
  ·simp
  ·rename_i h
   exact hs2 _ (iD (a1u (p:=uK s key) (n:=s.segs.length) (by omega)))
 simp(disch:=omega) only[↓RA,RZ,simprocAttr,hn,b5Z (hS2.sl hgi.1),(hS2.sl hgi.1).len]
 have hS3:=hS2.nil 1
 simp only[RT]at hS3
 refine Wp.aj (fun n l H'=>l.length=36∧get l 0=rv∧get l 2=I key∧get l 6=(.slice none 0 0)∧get l 15=g.dv∧get l 16=I g.draws.length∧∃(i:Nat)(ov:Value),(n+i=g.draws.length)∧get l 17=I i∧get l 7=ov∧St prog H H' [⟨ptr A1 0 4,0,[(.string s.name),I s.num,I s.den,s.gv]⟩,⟨ov,2,pr (((g.draws.take i).filter fun d=>qW rks d key).map fun d=>mG rks d key)⟩]) g.draws.length ?_ ?_
 ·simp(disch:=omega) only[RB,RC,simprocAttr,hn,g0,g2]
  exact⟨0,_,by omega,rfl,rfl,hS3⟩
 rintro n l H3⟨hn,g0,g2,g6,g15,g16,i,ov,hi,g17,g7,hS4⟩
 simp(disch:=omega) only[↓RA,RB,simprocAttr,hn,g16,g17]
 refine iA (fun q1=> ?_) (fun q1=> ?_)
 ·simp(disch:=omega) only[↓RA,RZ,simprocAttr,hn,g15,g17,(hS4.sl hgi.1).idx,(hS4.sl hgi.1).ai,Drw.cells,q1]
  refine hS4.eNew 2 [I 0,I 0] rfl rfl rfl wG fun A2 H4 hS5=> ?_
  simp only[RT]at hS5
  simp(disch:=omega) only[↓RA,RZ,simprocAttr,hn,q1]
  refine hS5.aa 2 rfl [I (iB g.draws i).rank,I (iB g.draws i).shift] rfl rfl wG (by simp) fun H5 hS6=> ?_
  simp only[RT]at hS6
  simp(disch:=omega) only[↓RA,RZ,simprocAttr,hn,g0,g2,hS6.ai 2 rfl,q1]
  refine hS6.cF (b9Z rv rks (hS6.sl hr) (fun r hr'=>(hrk r hr').ak hS6) hl (iB g.draws i) key) fun H6 hS7=> ?_
  have htk:=lI g.draws i (by omega)
  have hfl:((g.draws.take i).filter fun d=>qW rks d key).length≤i:=by
   refine dy (ee _ _) ?_
   simp
   omega
  simp(disch:=omega) only[↓RA,RZ,simprocAttr,hn,q1]
  refine hS7.eNew 2 [I 0,I 0] rfl rfl rfl rQ fun A3 H7 hS8=> ?_
  simp only[RT]at hS8
  simp(disch:=omega) only[↓RA,RZ,simprocAttr,hn,q1]
  refine hS8.aa 3 rfl [I (mG rks (iB g.draws i) key).1,I (mG rks (iB g.draws i) key).2] rfl rfl rQ (by simp) fun H8 hS9=> ?_
  simp only[RT]at hS9
  simp(disch:=omega) only[↓RA,RZ,simprocAttr,hn,q1]
  refine jJ (fun q2=> ?_) (fun q2=> ?_)
  ·skip
   simp(disch:=omega) only[↓RA,RZ,simprocAttr,hn,g7,hS9.ai 3 rfl,q1,q2]
   refine hS9.ag [I (mG rks (iB g.draws i) key).1,I (mG rks (iB g.draws i) key).2] b0i c3f rfl rfl (by simp[Value.cells]) rfl rfl (by decide) (by decide) fun w1 H9 hS10=> ?_
   simp only[RT]at hS10
   simp(disch:=omega) only[↓RA,RZ,simprocAttr,hn,q1,q2]
   refine hS10.aq 1 rfl (hS10.rd 4 rfl) b0i (by rw[iI];simp;omega) fun w2 H10 hS11=> ?_
   simp only[RT]at hS11
   simp(disch:=omega) only[↓RA,RZ,simprocAttr,hn,g0,g2,g6,g15,g16,g17,q1,q2]
   refine⟨n-1,by omega,i+1,w2,by omega,by simp,rfl,?_⟩
   rw[htk,eN,dM,jL]
   have e:([iB g.draws i].filter fun d=>qW rks d key)=[iB g.draws i]:=by simp[q2]
   rw[e]
   exact hS11.pick [0,1] (by decide) rfl
  simp(disch:=omega) only[↓RA,RZ,simprocAttr,hn,g0,g2,g6,g15,g16,g17,g7,q1,q2]
  refine⟨n-1,by omega,i+1,ov,by omega,by simp,rfl,?_⟩
  rw[htk,eN,dM,jL]
  have e:([iB g.draws i].filter fun d=>qW rks d key)=[]:=by simp[q2]
  rw[e]
  simp only[pr,gi,ez,di]
  exact hS9.pick [0,1] (by decide) rfl
 simp(disch:=omega) only[↓RA,RZ,simprocAttr,hn,g7,q1]
 have hii:i=g.draws.length:=by omega
 subst hii
 have hfl:((g.draws.filter fun d=>qW rks d key).map fun d=>mG rks d key).length≤8:=by
  rw[dK]
  exact dy (ee _ _) hg8
 rw[dU]at hS4
 have hM1:=hS4.pick (os':=[⟨ov,2,_⟩]) [1] (by decide) rfl
 have hR1:=hS4.pick (os':=[⟨ov,2,_⟩,⟨ptr A1 0 4,0,_⟩]) [1,0] (by decide) rfl
 refine iG (b4O (es:=(g.draws.filter fun d=>qW rks d key).map fun d=>mG rks d key) hM1.ay (by omega)) ?_
 rintro r H11⟨rest,hb,hrd,hT3⟩
 have hS12:=hR1.frame hT3
 simp only[RT]at hS12
 have hrr:=hrd _ (hS12.rd 0 rfl)
 have hrc:=hrr.cells
 simp(disch:=omega) only[↓RA,RZ,simprocAttr,hn,c6q,q1]
 refine⟨⟨⟨?_,kF,by decide⟩,fun b h=> ?_⟩,hS12.forget⟩
 ·unfold pT
  rw[←hgd]
  exact hrr
 ·rcases hS12.new _ (dG ..) b (hb b h)with h|h
  ·exact h
  ·exact h.elim
end Go.Ds
namespace Go.Ds
open Go.Proofs Go.Proofs.Tryz
variable {H:Heap}
set_option maxRecDepth 10000
set_option maxHeartbeats 1000000
abbrev KC(kvs:List (Ct×Bool)):List Value:=kcs (fun p:Int×Int=>.agg #[I p.1,I p.2]) Value.bool kvs
def wQ(kvs:List (Ct×Bool))(c:Ct):Bool:=(a2P kvs c).getD false
theorem b4w{B:Base}(o:Org)(r:Reg)(sv:Value)(c:Ct)(AO AR AS AQ M:Nat)(qv:Value)(q:List Ct)(kvs:List (Ct×Bool))
 (hS:St prog B H [⟨.map (some M),0,KC kvs⟩,⟨ptr AQ 0 1,0,[qv]⟩,⟨qv,2,pr q⟩])
 (hO:∀{H1:Heap}{os:List Ob},St prog B H1 os→Var H1 AO 4 [.string o.name,o.rv,o.dv,o.cv]∧o.In H1∧Var H1 AR 3 [sv,.int .u64 r.cpl,.int .u64 r.off]∧Var H1 AS 1 [.map (some M)])
 (hk:∀t,wQ kvs t=true↔t∈q) (hq:Que o q) (ho:o.Fine) (hr:r.Ok):
 Fn prog 116 [.agg #[I c.1,I c.2],.bool true,ptr AO 0 4,ptr AR 0 3,ptr AS 0 1,ptr AQ 0 1] H fun rr H'=>∃kvs' qv',rr=.tuple #[]∧(∀t,wQ kvs' t=true↔t∈stepF o r.cpl true c q)∧
  St prog B H' [⟨.map (some M),0,KC kvs'⟩,⟨ptr AQ 0 1,0,[qv']⟩,⟨qv',2,pr (stepF o r.cpl true c q)⟩]:=by
 have hcl:=ho.clen
 refine .cN func116 rfl (by kernel_rfl) (m:=65) rfl fun l hn g0 g1 g2 g3 g4 g5=> ?_
 simp(disch:=omega) only[↓RA,RB,simprocAttr,g0]
 refine hS.eNew 2 [I c.1,I c.2] rfl rfl rfl nU fun A1 H1 hS1=> ?_
 simp only[RT]at hS1
 simp(disch:=omega) only[↓RA,RZ,simprocAttr,hn,g2,((hO hS1).1).ld,((hO hS1).2.1.2.2.2.2.1).len]
 refine Wp.aj (fun n l H'=>l.length=65∧get l 1=(.bool true)∧get l 2=(ptr AO 0 4)∧get l 3=(ptr AR 0 3)∧get l 4=(ptr AS 0 1)∧get l 5=(ptr AQ 0 1)∧get l 6=(ptr A1 0 2)∧get l 12=o.cv∧get l 13=I o.cpls.length∧∃(i:Nat)(kvs':List (Ct×Bool))(qv':Value),(n+i=o.cpls.length∧∀t,wQ kvs' t=true↔t∈stepN o r.cpl true c q i)∧get l 14=I i∧St prog B H' [⟨.map (some M),0,KC kvs'⟩,⟨ptr AQ 0 1,0,[qv']⟩,⟨qv',2,pr (stepN o r.cpl true c q i)⟩,⟨ptr A1 0 2,0,[I c.1,I c.2]⟩]) o.cpls.length ?_ ?_
 ·simp(disch:=omega) only[RB,RC,simprocAttr,hn,g1,g2,g3,g4,g5]
  exact⟨0,kvs,qv,⟨by omega,hk⟩,rfl,hS1⟩
 rintro n l H2⟨hn,g1,g2,g3,g4,g5,g6,g12,g13,i,kvs',qv',⟨hi,hk'⟩,g14,hS2⟩
 simp(disch:=omega) only[↓RA,RB,simprocAttr,hn,g13,g14]
 refine iA (fun q1=> ?_) (fun q1=> ?_)
 ·have hql:(stepN o r.cpl true c q i).length≤1024:=(hq.stepN r.cpl true c i).len ho
  have e1:=a1i r.cpl i hr.2.2.1
  have e2:=zR (r.cpl>>>i) (sQ i hr.2.2.1)
  have e3:=tb r.cpl i
  have hskip:tG r.cpl true c (iB o.cpls i) i=false→stepN o r.cpl true c q (i+1)=stepN o r.cpl true c q i:=fun h=>by
   rw[lS,step1,if_neg (by rw[h];simp)]
  have hkeep:nD o ((iB o.cpls i).dst,oQ (c.2+(iB o.cpls i).shift))=false∨((iB o.cpls i).dst,oQ (c.2+(iB o.cpls i).shift))∈stepN o r.cpl true c q i→stepN o r.cpl true c q (i+1)=stepN o r.cpl true c q i:=fun h=>by
   rw[lS,step1,if_neg]
   simp only[to1,cU,dw]
   rintro⟨⟨_,h2⟩,h3⟩
   rcases h with h|h
   ·rw[h]at h2;cases h2
   ·exact absurd h (of_decide_eq_false h3)
  simp(disch:=omega) only[↓RA,RZ,simprocAttr,hn,g12,g14,((hO hS2).2.1.2.2.2.2.1).idx,((hO hS2).2.1.2.2.2.2.1).ai,Cpl.cells,q1]
  refine hS2.eNew 5 [(.string ⟨#[]⟩),I 0,I 0,I 0,(.bool false)] rfl rfl rfl tV fun A2 H3 hS3=> ?_
  simp only[RT]at hS3
  simp(disch:=omega) only[↓RA,RZ,simprocAttr,hn,q1]
  refine hS3.aa 4 rfl [(.string (iB o.cpls i).name),I (iB o.cpls i).src,I (iB o.cpls i).dst,I (iB o.cpls i).shift,(.bool (iB o.cpls i).thr)] rfl rfl tV (by simp) fun H4 hS4=> ?_
  simp only[RT]at hS4
  simp(disch:=omega) only[↓RA,RZ,simprocAttr,hn,g3,((hO hS4).2.2.1).ld,q1,e1,e2]
  refine iN (fun b1=> ?_) (fun b1=> ?_)
  ·have hs:=hskip (by unfold tG;rw[e3,decide_eq_false (by omega)];rfl)
   simp(disch:=omega) only[↓RA,RZ,simprocAttr,hn,g1,g2,g3,g4,g5,g6,g12,g13,g14,q1,b1]
   exact⟨n-1,by omega,i+1,kvs',qv',⟨by omega,by rw[hs];exact hk'⟩,by simp,by rw[hs];exact hS4.pick [0,1,2,3] (by decide) rfl⟩
  have hb:r.cpl.testBit i=true:=by rw[e3];exact decide_eq_true (by omega)
  simp(disch:=omega) only[↓RA,RZ,simprocAttr,hn,g6,hS4.ld 4 rfl,hS4.ld 3 rfl,q1,b1]
  refine iN (fun b2=> ?_) (fun b2=> ?_)
  ·have hs:=hskip (by unfold tG;rw[decide_eq_false b2];simp)
   simp(disch:=omega) only[↓RA,RZ,simprocAttr,hn,g1,g2,g3,g4,g5,g6,g12,g13,g14,q1,b1,b2]
   exact⟨n-1,by omega,i+1,kvs',qv',⟨by omega,by rw[hs];exact hk'⟩,by simp,by rw[hs];exact hS4.pick [0,1,2,3] (by decide) rfl⟩
  have hsrc:=dx.1 b2
  simp(disch:=omega) only[↓RA,RZ,simprocAttr,hn,g1,hS4.ld 4 rfl,q1,b1,b2]
  refine jJ (fun b4=> ?_) (fun b4=> ?_)
  ·have hs:=hskip (by unfold tG;simp only[Bool.not_true,Bool.false_or,eF];exact .inr (by simpa using b4))
   simp(disch:=omega) only[↓RA,RZ,simprocAttr,hn,g1,g2,g3,g4,g5,g6,g12,g13,g14,q1,b1,b2,b4]
   exact⟨n-1,by omega,i+1,kvs',qv',⟨by omega,by rw[hs];exact hk'⟩,by simp,by rw[hs];exact hS4.pick [0,1,2,3] (by decide) rfl⟩
  have hgo:tG r.cpl true c (iB o.cpls i) i=true:=by
   unfold tG
   rw[hb,decide_eq_true hsrc]
   simpa using b4
  simp(disch:=omega) only[↓RA,RZ,simprocAttr,hn,g6,hS4.ld 4 rfl,hS4.ld 3 rfl,q1,b1,b2,b4]
  simp(disch:=omega) only[↓RA,RZ,simprocAttr,qZ]
  refine hS4.eNew 2 [I 0,I 0] rfl rfl rfl nU fun A3 H5 hS5=> ?_
  simp only[RT]at hS5
  simp(disch:=omega) only[↓RA,RZ,simprocAttr,hn,q1,b1,b2,b4]
  refine hS5.aa 5 rfl [I (iB o.cpls i).dst,I (oQ (c.2+(iB o.cpls i).shift))] rfl rfl nU (by simp) fun H6 hS6=> ?_
  simp only[RT]at hS6
  simp(disch:=omega) only[↓RA,RZ,simprocAttr,hn,g2,((hO hS6).1).ai,hS6.ai 5 rfl,q1,b1,b2,b4]
  refine hS6.cF (a2g o (hO hS6).2.1 ((iB o.cpls i).dst,oQ (c.2+(iB o.cpls i).shift))) fun H7 hS7=> ?_
  simp(disch:=omega) only[↓RA,RZ,simprocAttr,hn,q1,b1,b2,b4]
  refine jC (fun b5=> ?_) (fun b5=> ?_)
  ·have hok:=(yG o _).1 b5
   simp(disch:=omega) only[↓RA,RZ,simprocAttr,hn,g4,((hO hS7).2.2.2).ld,hS7.ai 5 rfl,q1,b1,b2,b4,b5]
   refine hS7.bL (k:=((iB o.cpls i).dst,oQ (c.2+(iB o.cpls i).shift))) 0 rfl a8i (fun _=>rfl) ?_
   simp(disch:=omega) only[↓RA,RZ,simprocAttr,hn,q1,b1,b2,b4,b5]
   refine jJ (fun b6=> ?_) (fun b6=> ?_)
   ·have hnot:((iB o.cpls i).dst,oQ (c.2+(iB o.cpls i).shift))∉stepN o r.cpl true c q i:=fun h=>by
     have h:=(hk' _).2 h
     unfold wQ at h
     first|(rw[dw]at b6;exact Bool.false_ne_true (b6.symm.trans h))|exact b6 h
    have hs:stepN o r.cpl true c q (i+1)=stepN o r.cpl true c q i++[((iB o.cpls i).dst,oQ (c.2+(iB o.cpls i).shift))]:=by
     rw[lS]
     unfold step1
     rw[if_pos (by simp only[to1,hgo,hok];simp[hnot])]
     rfl
    simp(disch:=omega) only[↓RA,RZ,simprocAttr,hn,g4,((hO hS7).2.2.2).ld,hS7.ai 5 rfl,q1,b1,b2,b4,b5,b6]
    refine hS7.ca (k:=((iB o.cpls i).dst,oQ (c.2+(iB o.cpls i).shift))) 0 rfl a8i fun H8 hS8=> ?_
    simp only[RT]at hS8
    simp(disch:=omega) only[↓RA,RZ,simprocAttr,hn,g5,hS8.ld 1 rfl,hS8.ai 5 rfl,q1,b1,b2,b4,b5,b6]
    refine hS8.ag [I (iB o.cpls i).dst,I (oQ (c.2+(iB o.cpls i).shift))] rW a3z rfl rfl (by simp[Value.cells]) rfl rfl (by decide) (by decide) fun w1 H9 hS9=> ?_
    simp only[RT]at hS9
    simp(disch:=omega) only[↓RA,RZ,simprocAttr,hn,q1,b1,b2,b4,b5,b6]
    refine hS9.aq 2 rfl (hS9.rd 6 rfl) rW (by rw[iI];simp;omega) fun w2 H10 hS10=> ?_
    simp only[RT]at hS10
    simp(disch:=omega) only[↓RA,RZ,simprocAttr,hn,g5,q1,b1,b2,b4,b5,b6]
    refine hS10.aa 1 rfl [w2] (by rw[(hS10.rd 2 rfl).cells.1]) (by simp[(hS10.rd 2 rfl).cells.2.1]) a9q (by simp) fun H11 hS11=> ?_
    simp only[RT]at hS11
    simp(disch:=omega) only[↓RA,RZ,simprocAttr,hn,g1,g2,g3,g4,g5,g6,g12,g13,g14,q1,b1,b2,b4,b5,b6]
    refine⟨n-1,by omega,i+1,a4V kvs' ((iB o.cpls i).dst,oQ (c.2+(iB o.cpls i).shift)) true,w2,⟨by omega,fun t=> ?_⟩,by simp,?_⟩
    ·rw[hs,dE,dH,←hk' t]
     unfold wQ
     rw[a2G]
     by_cases e:t=((iB o.cpls i).dst,oQ (c.2+(iB o.cpls i).shift))
     ·simp[e]
     ·simp[e]
    ·rw[hs,jL]
     exact hS11.pick [0,1,2,3] (by decide) rfl
   have hin:((iB o.cpls i).dst,oQ (c.2+(iB o.cpls i).shift))∈stepN o r.cpl true c q i:=(hk' _).1 (by
    unfold wQ
    simpa using b6)
   have hs:=hkeep (.inr hin)
   simp(disch:=omega) only[↓RA,RZ,simprocAttr,hn,g1,g2,g3,g4,g5,g6,g12,g13,g14,q1,b1,b2,b4,b5,b6]
   exact⟨n-1,by omega,i+1,kvs',qv',⟨by omega,by rw[hs];exact hk'⟩,by simp,by rw[hs];exact hS7.pick [0,1,2,3] (by decide) rfl⟩
  have hs:=hkeep (.inl (by rw[←dX];exact fun h=>b5 ((yG o _).2 h)))
  simp(disch:=omega) only[↓RA,RZ,simprocAttr,hn,g1,g2,g3,g4,g5,g6,g12,g13,g14,q1,b1,b2,b4,b5]
  exact⟨n-1,by omega,i+1,kvs',qv',⟨by omega,by rw[hs];exact hk'⟩,by simp,by rw[hs];exact hS7.pick [0,1,2,3] (by decide) rfl⟩
 simp(disch:=omega) only[↓RA,RZ,simprocAttr,c1s,q1]
 have hii:i=o.cpls.length:=by omega
 subst hii
 exact⟨kvs',qv',hk',hS2.pick [0,1,2] (by decide) rfl⟩
theorem b2D{B:Base}(o:Org)(r:Reg)(sv:Value)(c:Ct)(AO AR AS AQ M:Nat)(qv:Value)(q:List Ct)(kvs:List (Ct×Bool))
 (hS:St prog B H [⟨.map (some M),0,KC kvs⟩,⟨ptr AQ 0 1,0,[qv]⟩,⟨qv,2,pr q⟩])
 (hO:∀{H1:Heap}{os:List Ob},St prog B H1 os→Var H1 AO 4 [.string o.name,o.rv,o.dv,o.cv]∧o.In H1∧Var H1 AR 3 [sv,.int .u64 r.cpl,.int .u64 r.off]∧Var H1 AS 1 [.map (some M)])
 (hk:∀t,wQ kvs t=true↔t∈q) (hq:Que o q) (ho:o.Fine) (hr:r.Ok):
 Fn prog 116 [.agg #[I c.1,I c.2],.bool false,ptr AO 0 4,ptr AR 0 3,ptr AS 0 1,ptr AQ 0 1] H fun rr H'=>∃kvs' qv',rr=.tuple #[]∧(∀t,wQ kvs' t=true↔t∈stepF o r.cpl false c q)∧
  St prog B H' [⟨.map (some M),0,KC kvs'⟩,⟨ptr AQ 0 1,0,[qv']⟩,⟨qv',2,pr (stepF o r.cpl false c q)⟩]:=by
 have hcl:=ho.clen
 refine .cN func116 rfl (by kernel_rfl) (m:=65) rfl fun l hn g0 g1 g2 g3 g4 g5=> ?_
 simp(disch:=omega) only[↓RA,RB,simprocAttr,g0]
 refine hS.eNew 2 [I c.1,I c.2] rfl rfl rfl nU fun A1 H1 hS1=> ?_
 simp only[RT]at hS1
 simp(disch:=omega) only[↓RA,RZ,simprocAttr,hn,g2,((hO hS1).1).ld,((hO hS1).2.1.2.2.2.2.1).len]
 refine Wp.aj (fun n l H'=>l.length=65∧get l 1=(.bool false)∧get l 2=(ptr AO 0 4)∧get l 3=(ptr AR 0 3)∧get l 4=(ptr AS 0 1)∧get l 5=(ptr AQ 0 1)∧get l 6=(ptr A1 0 2)∧get l 12=o.cv∧get l 13=I o.cpls.length∧∃(i:Nat)(kvs':List (Ct×Bool))(qv':Value),(n+i=o.cpls.length∧∀t,wQ kvs' t=true↔t∈stepN o r.cpl false c q i)∧get l 14=I i∧St prog B H' [⟨.map (some M),0,KC kvs'⟩,⟨ptr AQ 0 1,0,[qv']⟩,⟨qv',2,pr (stepN o r.cpl false c q i)⟩,⟨ptr A1 0 2,0,[I c.1,I c.2]⟩]) o.cpls.length ?_ ?_
 ·simp(disch:=omega) only[RB,RC,simprocAttr,hn,g1,g2,g3,g4,g5]
  exact⟨0,kvs,qv,⟨by omega,hk⟩,rfl,hS1⟩
 rintro n l H2⟨hn,g1,g2,g3,g4,g5,g6,g12,g13,i,kvs',qv',⟨hi,hk'⟩,g14,hS2⟩
 simp(disch:=omega) only[↓RA,RB,simprocAttr,hn,g13,g14]
 refine iA (fun q1=> ?_) (fun q1=> ?_)
 ·have hql:(stepN o r.cpl false c q i).length≤1024:=(hq.stepN r.cpl false c i).len ho
  have e1:=a1i r.cpl i hr.2.2.1
  have e2:=zR (r.cpl>>>i) (sQ i hr.2.2.1)
  have e3:=tb r.cpl i
  have hskip:tG r.cpl false c (iB o.cpls i) i=false→stepN o r.cpl false c q (i+1)=stepN o r.cpl false c q i:=fun h=>by
   rw[lS,step1,if_neg (by rw[h];simp)]
  have hkeep:nD o ((iB o.cpls i).dst,oQ (c.2+(iB o.cpls i).shift))=false∨((iB o.cpls i).dst,oQ (c.2+(iB o.cpls i).shift))∈stepN o r.cpl false c q i→stepN o r.cpl false c q (i+1)=stepN o r.cpl false c q i:=fun h=>by
   rw[lS,step1,if_neg]
   simp only[to1,cU,dw]
   rintro⟨⟨_,h2⟩,h3⟩
   rcases h with h|h
   ·rw[h]at h2;cases h2
   ·exact absurd h (of_decide_eq_false h3)
  simp(disch:=omega) only[↓RA,RZ,simprocAttr,hn,g12,g14,((hO hS2).2.1.2.2.2.2.1).idx,((hO hS2).2.1.2.2.2.2.1).ai,Cpl.cells,q1]
  refine hS2.eNew 5 [(.string ⟨#[]⟩),I 0,I 0,I 0,(.bool false)] rfl rfl rfl tV fun A2 H3 hS3=> ?_
  simp only[RT]at hS3
  simp(disch:=omega) only[↓RA,RZ,simprocAttr,hn,q1]
  refine hS3.aa 4 rfl [(.string (iB o.cpls i).name),I (iB o.cpls i).src,I (iB o.cpls i).dst,I (iB o.cpls i).shift,(.bool (iB o.cpls i).thr)] rfl rfl tV (by simp) fun H4 hS4=> ?_
  simp only[RT]at hS4
  simp(disch:=omega) only[↓RA,RZ,simprocAttr,hn,g3,((hO hS4).2.2.1).ld,q1,e1,e2]
  refine iN (fun b1=> ?_) (fun b1=> ?_)
  ·have hs:=hskip (by unfold tG;rw[e3,decide_eq_false (by omega)];rfl)
   simp(disch:=omega) only[↓RA,RZ,simprocAttr,hn,g1,g2,g3,g4,g5,g6,g12,g13,g14,q1,b1]
   exact⟨n-1,by omega,i+1,kvs',qv',⟨by omega,by rw[hs];exact hk'⟩,by simp,by rw[hs];exact hS4.pick [0,1,2,3] (by decide) rfl⟩
  have hb:r.cpl.testBit i=true:=by rw[e3];exact decide_eq_true (by omega)
  simp(disch:=omega) only[↓RA,RZ,simprocAttr,hn,g6,hS4.ld 4 rfl,hS4.ld 3 rfl,q1,b1]
  refine iN (fun b2=> ?_) (fun b2=> ?_)
  ·have hs:=hskip (by unfold tG;rw[decide_eq_false b2];simp)
   simp(disch:=omega) only[↓RA,RZ,simprocAttr,hn,g1,g2,g3,g4,g5,g6,g12,g13,g14,q1,b1,b2]
   exact⟨n-1,by omega,i+1,kvs',qv',⟨by omega,by rw[hs];exact hk'⟩,by simp,by rw[hs];exact hS4.pick [0,1,2,3] (by decide) rfl⟩
  have hsrc:=dx.1 b2
  have hgo:tG r.cpl false c (iB o.cpls i) i=true:=by
   unfold tG
   rw[hb,decide_eq_true hsrc]
   rfl
  simp(disch:=omega) only[↓RA,RZ,simprocAttr,hn,g1,g6,hS4.ld 4 rfl,hS4.ld 3 rfl,q1,b1,b2]
  simp(disch:=omega) only[↓RA,RZ,simprocAttr,qZ]
  refine hS4.eNew 2 [I 0,I 0] rfl rfl rfl nU fun A3 H5 hS5=> ?_
  simp only[RT]at hS5
  simp(disch:=omega) only[↓RA,RZ,simprocAttr,hn,q1,b1,b2]
  refine hS5.aa 5 rfl [I (iB o.cpls i).dst,I (oQ (c.2+(iB o.cpls i).shift))] rfl rfl nU (by simp) fun H6 hS6=> ?_
  simp only[RT]at hS6
  simp(disch:=omega) only[↓RA,RZ,simprocAttr,hn,g2,((hO hS6).1).ai,hS6.ai 5 rfl,q1,b1,b2]
  refine hS6.cF (a2g o (hO hS6).2.1 ((iB o.cpls i).dst,oQ (c.2+(iB o.cpls i).shift))) fun H7 hS7=> ?_
  simp(disch:=omega) only[↓RA,RZ,simprocAttr,hn,q1,b1,b2]
  refine jC (fun b5=> ?_) (fun b5=> ?_)
  ·have hok:=(yG o _).1 b5
   simp(disch:=omega) only[↓RA,RZ,simprocAttr,hn,g4,((hO hS7).2.2.2).ld,hS7.ai 5 rfl,q1,b1,b2,b5]
   refine hS7.bL (k:=((iB o.cpls i).dst,oQ (c.2+(iB o.cpls i).shift))) 0 rfl a8i (fun _=>rfl) ?_
   simp(disch:=omega) only[↓RA,RZ,simprocAttr,hn,q1,b1,b2,b5]
   refine jJ (fun b6=> ?_) (fun b6=> ?_)
   ·have hnot:((iB o.cpls i).dst,oQ (c.2+(iB o.cpls i).shift))∉stepN o r.cpl false c q i:=fun h=>by
     have h:=(hk' _).2 h
     unfold wQ at h
     first|(rw[dw]at b6;exact Bool.false_ne_true (b6.symm.trans h))|exact b6 h
    have hs:stepN o r.cpl false c q (i+1)=stepN o r.cpl false c q i++[((iB o.cpls i).dst,oQ (c.2+(iB o.cpls i).shift))]:=by
     rw[lS]
     unfold step1
     rw[if_pos (by simp only[to1,hgo,hok];simp[hnot])]
     rfl
    simp(disch:=omega) only[↓RA,RZ,simprocAttr,hn,g4,((hO hS7).2.2.2).ld,hS7.ai 5 rfl,q1,b1,b2,b5,b6]
    refine hS7.ca (k:=((iB o.cpls i).dst,oQ (c.2+(iB o.cpls i).shift))) 0 rfl a8i fun H8 hS8=> ?_
    simp only[RT]at hS8
    simp(disch:=omega) only[↓RA,RZ,simprocAttr,hn,g5,hS8.ld 1 rfl,hS8.ai 5 rfl,q1,b1,b2,b5,b6]
    refine hS8.ag [I (iB o.cpls i).dst,I (oQ (c.2+(iB o.cpls i).shift))] rW a3z rfl rfl (by simp[Value.cells]) rfl rfl (by decide) (by decide) fun w1 H9 hS9=> ?_
    simp only[RT]at hS9
    simp(disch:=omega) only[↓RA,RZ,simprocAttr,hn,q1,b1,b2,b5,b6]
    refine hS9.aq 2 rfl (hS9.rd 6 rfl) rW (by rw[iI];simp;omega) fun w2 H10 hS10=> ?_
    simp only[RT]at hS10
    simp(disch:=omega) only[↓RA,RZ,simprocAttr,hn,g5,q1,b1,b2,b5,b6]
    refine hS10.aa 1 rfl [w2] (by rw[(hS10.rd 2 rfl).cells.1]) (by simp[(hS10.rd 2 rfl).cells.2.1]) a9q (by simp) fun H11 hS11=> ?_
    simp only[RT]at hS11
    simp(disch:=omega) only[↓RA,RZ,simprocAttr,hn,g1,g2,g3,g4,g5,g6,g12,g13,g14,q1,b1,b2,b5,b6]
    refine⟨n-1,by omega,i+1,a4V kvs' ((iB o.cpls i).dst,oQ (c.2+(iB o.cpls i).shift)) true,w2,⟨by omega,fun t=> ?_⟩,by simp,?_⟩
    ·rw[hs,dE,dH,←hk' t]
     unfold wQ
     rw[a2G]
     by_cases e:t=((iB o.cpls i).dst,oQ (c.2+(iB o.cpls i).shift))
     ·simp[e]
     ·simp[e]
    ·rw[hs,jL]
     exact hS11.pick [0,1,2,3] (by decide) rfl
   have hin:((iB o.cpls i).dst,oQ (c.2+(iB o.cpls i).shift))∈stepN o r.cpl false c q i:=(hk' _).1 (by
    unfold wQ
    simpa using b6)
   have hs:=hkeep (.inr hin)
   simp(disch:=omega) only[↓RA,RZ,simprocAttr,hn,g1,g2,g3,g4,g5,g6,g12,g13,g14,q1,b1,b2,b5,b6]
   exact⟨n-1,by omega,i+1,kvs',qv',⟨by omega,by rw[hs];exact hk'⟩,by simp,by rw[hs];exact hS7.pick [0,1,2,3] (by decide) rfl⟩
  have hs:=hkeep (.inl (by rw[←dX];exact fun h=>b5 ((yG o _).2 h)))
  simp(disch:=omega) only[↓RA,RZ,simprocAttr,hn,g1,g2,g3,g4,g5,g6,g12,g13,g14,q1,b1,b2,b5]
  exact⟨n-1,by omega,i+1,kvs',qv',⟨by omega,by rw[hs];exact hk'⟩,by simp,by rw[hs];exact hS7.pick [0,1,2,3] (by decide) rfl⟩
 simp(disch:=omega) only[↓RA,RZ,simprocAttr,c1s,q1]
 have hii:i=o.cpls.length:=by omega
 subst hii
 exact⟨kvs',qv',hk',hS2.pick [0,1,2] (by decide) rfl⟩
theorem a0W(o:Org)(cp:Nat)(l:List Ct)(i:Nat)(h:i<l.length):kK o cp (l.take (i+1))=stepF o cp false (iB l i) (kK o cp (l.take i)):=by
 unfold kK
 rw[lI l i h,gu]
 rfl
theorem nR(o:Org)(cp:Nat)(l:List Ct):Que o (kK o cp l):=by
 unfold kK
 have:∀(l:List Ct)(q:List Ct),Que o q→Que o (l.foldl (fun q c=>stepF o cp false c q) q):=by
  intro l
  induction l with
  | nil=>intro q h;exact h
  | cons c l ih=>intro q h;exact ih _ (h.stepF cp false c)
 exact this l [] (Que.nil o)
theorem b0k:iZ (.map none)=true:=rfl
theorem a0P(o:Org)(ho:o.In H)(hf:o.Fine)(r:Reg)(sv:Value)(hr:r.In H sv)(fv:Value)(first:List Ct)(hfi:Sl 2 jV H fv first)(hfl:first.length≤1024)(hfo:∀c∈first,nD o c=true):
 Fn prog 82 [.agg #[.string o.name,o.rv,o.dv,o.cv],.agg #[sv,.int .u64 r.cpl,.int .u64 r.off],fv] H fun rr H'=>Slx 2 jV H' (fun B=>H.length≤B) rr (kG o r first)∧St prog H H' []:=by
 refine .bk func82 rfl (by kernel_rfl) (m:=56) rfl fun l hn g0 g1 g2=> ?_
 simp(disch:=omega) only[↓RA,RB,simprocAttr,g0]
 refine(sR H).eNew 4 [(.string o.name),o.rv,o.dv,o.cv] rfl rfl (by simp[OC,((sR H).sl ho.1).cells.2.1,((sR H).sl ho.2.2.1).cells.2.1,((sR H).sl ho.2.2.2.2.1).cells.2.1]) mX fun A1 H1 hS1=> ?_
 simp only[RT]at hS1
 simp(disch:=omega) only[↓RA,RB,simprocAttr,g1]
 refine hS1.eNew 3 [sv,(.int .u64 r.cpl),(.int .u64 r.off)] rfl rfl (by simp[OC,(hS1.sl hr.1).cells.2.1]) qV fun A2 H2 hS2=> ?_
 simp only[RT]at hS2
 simp(disch:=omega) only[↓RA,RB,simprocAttr]
 refine hS2.bQ a8i fun M1 H3 hS3=> ?_
 simp only[RT]at hS3
 simp(disch:=omega) only[↓RA,RZ,simprocAttr,b0k]
 refine hS3.eNew 1 [(.map none)] rfl rfl rfl b4X fun A3 H4 hS4=> ?_
 simp only[RT]at hS4
 simp(disch:=omega) only[↓RA,RB,simprocAttr,hn]
 refine hS4.aa 3 rfl [(.map (some M1))] rfl rfl b4X (by simp) fun H5 hS5=> ?_
 simp only[RT]at hS5
 simp(disch:=omega) only[↓RA,RZ,simprocAttr]
 refine hS5.eNew 1 [(.slice none 0 0)] rfl rfl rfl a9q fun A4 H6 hS6=> ?_
 simp only[RT]at hS6
 simp(disch:=omega) only[↓RA,RZ,simprocAttr,hn,g2,(hS6.sl hfi).len]
 have hS7:=hS6.nil 1
 simp only[RT]at hS7
 have hS8:=hS7.nil 1
 simp only[RT]at hS8
 refine Wp.aj (fun n l H'=>l.length=56∧get l 4=(ptr A2 0 3)∧get l 6=(.slice none 0 0)∧get l 8=(ptr A4 0 1)∧get l 10=(.func (.func 116) #[] #[(ptr A1 0 4),(ptr A2 0 3),(ptr A3 0 1),(ptr A4 0 1)])∧get l 16=fv∧get l 17=I first.length∧∃(i:Nat)(kvs:List (Ct×Bool))(qv ov:Value),(n+i=first.length∧∀t,wQ kvs t=true↔t∈kK o r.cpl (first.take i))∧get l 18=I i∧get l 9=ov∧St prog H H' [⟨ptr A1 0 4,0,[(.string o.name),o.rv,o.dv,o.cv]⟩,⟨ptr A2 0 3,0,[sv,(.int .u64 r.cpl),(.int .u64 r.off)]⟩,⟨.map (some M1),0,KC kvs⟩,⟨ptr A3 0 1,0,[(.map (some M1))]⟩,⟨ptr A4 0 1,0,[qv]⟩,⟨qv,2,pr (kK o r.cpl (first.take i))⟩,⟨ov,2,pr ((first.take i).filter fun c=> !r.off.testBit c.1.toNat)⟩]) first.length ?_ ?_
 ·simp(disch:=omega) only[RB,RC,simprocAttr,hn]
  refine⟨0,[],.slice none 0 0,.slice none 0 0,⟨by omega,fun t=> ?_⟩,rfl,rfl,hS8⟩
  simp[wQ,a2P,kK]
 rintro n l H7⟨hn,g4,g6,g8,nH,g16,g17,i,kvs,qv,ov,⟨hi,hk⟩,g18,g9,hS9⟩
 simp(disch:=omega) only[↓RA,RB,simprocAttr,hn,g17,g18]
 refine iA (fun q1=> ?_) (fun q1=> ?_)
 ·have hci:=(mE o _).1 (hfo _ (iD (xs:=first) (j:=i) (by omega)))
  have hqu:=nR o r.cpl (first.take i)
  have hqs:=a0W o r.cpl first i (by omega)
  have hql:=(nR o r.cpl (first.take (i+1))).len hf
  simp(disch:=omega) only[↓RA,RZ,simprocAttr,hn,g16,g18,(hS9.sl hfi).idx,(hS9.sl hfi).ai,jV,q1]
  refine hS9.eNew 2 [I 0,I 0] rfl rfl rfl nU fun A5 H8 hS10=> ?_
  simp only[RT]at hS10
  simp(disch:=omega) only[↓RA,RZ,simprocAttr,hn,q1]
  refine hS10.aa 7 rfl [I (iB first i).1,I (iB first i).2] rfl rfl nU (by simp) fun H9 hS11=> ?_
  simp only[RT]at hS11
  simp(disch:=omega) only[↓RA,RZ,simprocAttr,hn,nH,hS11.ai 7 rfl,q1]
  have hM1:=hS11.pick (os':=[⟨.map (some M1),0,_⟩,⟨ptr A4 0 1,0,_⟩,⟨qv,2,_⟩]) [2,4,5] (by decide) rfl
  have hR1:=hS11.pick (os':=[⟨.map (some M1),0,_⟩,⟨ptr A4 0 1,0,_⟩,⟨qv,2,_⟩,⟨ptr A1 0 4,0,_⟩,⟨ptr A2 0 3,0,_⟩,⟨ptr A3 0 1,0,_⟩,⟨ov,2,_⟩,⟨ptr A5 0 2,0,_⟩]) [2,4,5,0,1,3,6,7] (by decide) rfl
  refine iG (b2D o r sv (iB first i) A1 A2 A3 A4 M1 qv (kK o r.cpl (first.take i)) kvs hM1.ay (fun h=>⟨(hR1.frame h.forget).var 0 rfl,ho.ak (hR1.frame h.forget),(hR1.frame h.forget).var 1 rfl,(hR1.frame h.forget).var 2 rfl⟩) hk hqu hf hr.2) ?_
  rintro r H10⟨kvs',qv',rfl,hk',hT1⟩
  have hS12:=hR1.frame hT1
  simp only[RT]at hS12
  have e1:=a1i r.off (iB first i).1.toNat hr.2.2.2.2
  have e2:=zR (r.off>>>(iB first i).1.toNat) (sQ _ hr.2.2.2.2)
  have e3:=tb r.off (iB first i).1.toNat
  have htk:=lI first i (by omega)
  have hfl:(pr ((first.take i).filter fun c=> !r.off.testBit c.1.toNat)).length≤i*2:=by
   rw[iI]
   refine dD 2 ?_
   refine dy (ee _ _) ?_
   simp
   omega
  rw[←hqs]at hk'
  simp(disch:=omega) only[↓RA,RZ,simprocAttr,hn,g4,hS12.ld 4 rfl,hS12.ld 7 rfl,q1,e1,e2]
  refine iA (fun q2=> ?_) (fun q2=> ?_)
  ·have hx:([iB first i].filter fun c=> !r.off.testBit c.1.toNat)=[iB first i]:=by simp[e3,decide_eq_false (show¬r.off>>>(iB first i).1.toNat%2=1 by omega)]
   simp(disch:=omega) only[↓RA,RZ,simprocAttr,hn,g9,hS12.ai 7 rfl,q1,q2]
   refine hS12.ag [I (iB first i).1,I (iB first i).2] rW a3z rfl rfl (by simp[Value.cells]) rfl rfl (by decide) (by decide) fun w1 H11 hS13=> ?_
   simp only[RT]at hS13
   simp(disch:=omega) only[↓RA,RZ,simprocAttr,hn,q1,q2]
   refine hS13.aq 6 rfl (hS13.rd 8 rfl) rW (by first|(simp;done)|(simp;omega)) fun w2 H12 hS14=> ?_
   simp only[RT]at hS14
   simp(disch:=omega) only[↓RA,RZ,simprocAttr,hn,g4,g6,g8,nH,g16,g17,g18,q1,q2]
   refine⟨n-1,by omega,i+1,kvs',qv',w2,⟨by omega,hk'⟩,by simp,rfl,?_⟩
   rw[hqs,htk,eN,hx,jL]
   exact hS14.pick [3,4,0,5,1,2,6] (by decide) rfl
  have hx:([iB first i].filter fun c=> !r.off.testBit c.1.toNat)=[]:=by simp[e3,decide_eq_true (show r.off>>>(iB first i).1.toNat%2=1 by omega)]
  simp(disch:=omega) only[↓RA,RZ,simprocAttr,hn,g4,g6,g8,nH,g16,g17,g18,g9,q1,q2]
  refine⟨n-1,by omega,i+1,kvs',qv',ov,⟨by omega,hk'⟩,by simp,rfl,?_⟩
  rw[hqs,htk,eN,hx,di]
  exact hS12.pick [3,4,0,5,1,2,6] (by decide) rfl
 simp(disch:=omega) only[↓RA,RZ,simprocAttr,q1]
 have hii:i=first.length:=by omega
 subst hii
 rw[dU]at hk
 rw[dU]at hS9
 have hqu:=nR o r.cpl first
 have hoL:(pr (first.filter fun c=> !r.off.testBit c.1.toNat)).length≤2048:=by
  rw[iI]
  exact dD 2 (dy (ee _ _) hfl)
 refine Wp.aj (fun n l H'=>l.length=56∧get l 6=(.slice none 0 0)∧get l 8=(ptr A4 0 1)∧get l 9=ov∧get l 10=(.func (.func 116) #[] #[(ptr A1 0 4),(ptr A2 0 3),(ptr A3 0 1),(ptr A4 0 1)])∧∃(j:Nat)(kvs:List (Ct×Bool))(qv:Value)(q:List Ct),(n+j=1100∧bfs o r.cpl n j q=bfs o r.cpl 1100 0 (kK o r.cpl first)∧Que o q∧∀t,wQ kvs t=true↔t∈q)∧get l 13=I j∧St prog H H' [⟨ptr A1 0 4,0,[(.string o.name),o.rv,o.dv,o.cv]⟩,⟨ptr A2 0 3,0,[sv,(.int .u64 r.cpl),(.int .u64 r.off)]⟩,⟨.map (some M1),0,KC kvs⟩,⟨ptr A3 0 1,0,[(.map (some M1))]⟩,⟨ptr A4 0 1,0,[qv]⟩,⟨qv,2,pr q⟩,⟨ov,2,pr (first.filter fun c=> !r.off.testBit c.1.toNat)⟩]) 1100 ?_ ?_
 ·simp(disch:=omega) only[RB,RC,simprocAttr,hn,g6,g8,nH,g9]
  exact⟨0,kvs,qv,_,⟨rfl,rfl,hqu,hk⟩,rfl,hS9⟩
 rintro n l H13⟨hn,g6,g8,g9,nH,j,kvs,qv,q,⟨hj,hbf,hqq,hkk⟩,g13,hS15⟩
 have hql:=hqq.len hf
 simp(disch:=omega) only[↓RA,RZ,simprocAttr,hn,g8,g13,hS15.ld 4 rfl,(hS15.av 5 rfl (fun _=>rfl)).len]
 refine iA (fun q3=> ?_) (fun q3=> ?_)
 ·have hjl:j<q.length:=by omega
  simp(disch:=omega) only[↓RA,RZ,simprocAttr,hn,g8,nH,g13,hS15.ld 4 rfl,(hS15.av 5 rfl (fun _=>rfl)).idx,(hS15.av 5 rfl (fun _=>rfl)).ai,jV,q3]
  have hM2:=hS15.pick (os':=[⟨.map (some M1),0,_⟩,⟨ptr A4 0 1,0,_⟩,⟨qv,2,_⟩]) [2,4,5] (by decide) rfl
  have hR2:=hS15.pick (os':=[⟨.map (some M1),0,_⟩,⟨ptr A4 0 1,0,_⟩,⟨qv,2,_⟩,⟨ptr A1 0 4,0,_⟩,⟨ptr A2 0 3,0,_⟩,⟨ptr A3 0 1,0,_⟩,⟨ov,2,_⟩]) [2,4,5,0,1,3,6] (by decide) rfl
  refine iG (b4w o r sv (iB q j) A1 A2 A3 A4 M1 qv q kvs hM2.ay (fun h=>⟨(hR2.frame h.forget).var 0 rfl,ho.ak (hR2.frame h.forget),(hR2.frame h.forget).var 1 rfl,(hR2.frame h.forget).var 2 rfl⟩) hkk hqq hf hr.2) ?_
  rintro r H14⟨kvs',qv',rfl,hk',hT2⟩
  have hS16:=hR2.frame hT2
  simp only[RT]at hS16
  simp(disch:=omega) only[↓RA,RZ,simprocAttr,hn,g6,g8,g9,nH,g13,q3]
  obtain⟨n',rfl⟩:∃n',n=n'+1:=⟨n-1,by omega⟩
  rw[bfs,if_pos hjl]at hbf
  exact⟨n',by omega,j+1,kvs',qv',_,⟨by omega,hbf,hqq.stepF _ _ _,hk'⟩,by simp,hS16.pick [3,4,0,5,1,2,6] (by decide) rfl⟩
 have hbq:bfs o r.cpl 1100 0 (kK o r.cpl first)=q:=by
  rw[←hbf]
  cases n with
  | zero=>rfl
  | succ n=>rw[bfs,if_neg (by omega)]
 have hqp:(pr q).length≤2048:=by rw[iI];omega
 simp(disch:=omega) only[↓RA,RZ,simprocAttr,hn,g8,g9,hS15.ld 4 rfl,q3]
 refine hS15.aq 6 rfl (hS15.rd 5 rfl) rW (by first|(simp;done)|(simp;omega)) fun w3 H15 hS17=> ?_
 simp only[RT]at hS17
 simp(disch:=omega) only[↓RA,RZ,simprocAttr,hn,q3]
 rw[←jL,←hbq]at hS17
 have hLL:((first.filter fun c=> !r.off.testBit c.1.toNat)++bfs o r.cpl 1100 0 (kK o r.cpl first)).length<1000000:=by
  have h1:=ee (fun c:Ct=> !r.off.testBit c.1.toNat) first
  rw[dg,hbq]
  omega
 refine c5g hS17 6 rfl (gU hLL (by decide)) fun HS hSS=> ?_
 simp only[fM,eW]at hSS
 simp(disch:=omega) only[↓RA,RZ,simprocAttr,hn,q3]
 have hM3:=hSS.pick (os':=[⟨w3,2,_⟩]) [6] (by decide) rfl
 have hR3:=hSS.pick (os':=[⟨w3,2,_⟩,⟨ptr A1 0 4,0,_⟩,⟨ptr A2 0 3,0,_⟩,⟨.map (some M1),0,_⟩,⟨ptr A3 0 1,0,_⟩,⟨ptr A4 0 1,0,_⟩,⟨qv,2,_⟩]) [6,0,1,2,3,4,5] (by decide) rfl
 refine iG (a6q hM3.ay (by rw[mM];exact gU hLL (by decide))) ?_
 rintro r H16⟨rest,hb,hrd,hT3⟩
 have hS18:=hR3.frame hT3
 simp only[RT]at hS18
 have hrr:=hrd _ (hS18.rd 0 rfl)
 have hrc:=hrr.cells
 simp(disch:=omega) only[↓RA,RZ,simprocAttr,hn,c7Q,q3]
 refine⟨⟨⟨hrr,kF,by decide⟩,fun b h=> ?_⟩,hS18.forget⟩
 rcases hS18.new _ (dG ..) b (hb b h)with h|h
 ·exact h
 ·exact h.elim
theorem b5l{α:Type}[Inhabited α][DecidableEq α](l:List α):(dd l).length≤l.length:=c3O l l.length
theorem a4x(rs:List Rk)(s:Stp)(key:Int)(h:∀g∈s.segs,g.draws.length≤8):(pT rs s key).length≤8:=by
 unfold pT
 refine dy (b5l _) ?_
 rw[mM,dK]
 refine dy (ee _ _) ?_
 unfold a6k
 split
 ·simp
 ·exact h _ (iD (a1u (p:=uK s key) (n:=s.segs.length) (by omega)))
def oP(o:Org)(rg:Reg)(c:Ct)(k:Nat):List Ct:=(List.range k).flatMap fun i=>if(iB rg.stops c.1.toNat).testBit i then pT o.ranks (iB (iB o.dvs c.1.toNat).stops i) c.2 else[]
theorem a0V(o:Org)(rg:Reg)(c:Ct)(k:Nat):oP o rg c (k+1)=oP o rg c k++(if(iB rg.stops c.1.toNat).testBit k then pT o.ranks (iB (iB o.dvs c.1.toNat).stops k) c.2 else[]):=by
 unfold oP
 rw[dZ,dz,du,ez,di]
theorem a0d{o:Org}(hf:o.Fine)(rg:Reg){c:Ct}(hc:nD o c=true):∀k,k≤(iB o.dvs c.1.toNat).stops.length→(oP o rg c k).length≤k*8
 | 0,_=>by simp[oP]
 | k+1,hk=>by
   have h:=a0d hf rg hc k (by omega)
   have hc:=(mE o c).1 hc
   rw[a0V,dg]
   split
   ·have:=a4x o.ranks (iB (iB o.dvs c.1.toNat).stops k) c.2 (hf.draws c.1.toNat (by omega) _ (iD (by omega)))
    omega
   ·simp
    omega
theorem a3P{o:Org}(hf:o.Fine)(rg:Reg){c:Ct}(hc:nD o c=true):(mS o rg c).length≤480:=by
 have h:=a0d hf rg hc _ (db _)
 have h1:=(mE o c).1 hc
 have:=hf.stops c.1.toNat (by omega)
 have e:mS o rg c=oP o rg c (iB o.dvs c.1.toNat).stops.length:=rfl
 rw[e]
 omega
theorem a0H{o:Org}(hf:o.Fine)(rg:Reg):∀(l:List Ct),(∀c∈l,nD o c=true)→(l.flatMap (mS o rg)).length≤l.length*480
 | [],_=>by simp
 | c::l,h=>by
   rw[du,dg,dC]
   have h1:=a0H hf rg l fun x hx=>h x (by simp[hx])
   have h2:=a3P hf rg (h c (by simp))
   omega
theorem b3g(o:Org)(ho:o.In H)(hf:o.Fine)(rg:Reg)(sv:Value)(hr:rg.In H sv)(hrl:rg.stops.length=o.dvs.length)(fv:Value)(cs:List Ct)(hfi:Sl 2 jV H fv cs)(hfl:cs.length≤2048)(hfo:∀c∈cs,nD o c=true):
 Fn prog 84 [.agg #[.string o.name,o.rv,o.dv,o.cv],.agg #[sv,.int .u64 rg.cpl,.int .u64 rg.off],fv] H fun rr H'=>∃(gv:Value)(rest:List Value),rr=nA gv 2 0 (wV o rg cs).length∧St prog H H' [⟨gv,2,pr (wV o rg cs)++rest⟩]:=by
 refine .bk func84 rfl (by kernel_rfl) (m:=55) rfl fun l hn g0 g1 g2=> ?_
 simp(disch:=omega) only[↓RA,RB,simprocAttr,g0]
 refine(sR H).eNew 4 [(.string o.name),o.rv,o.dv,o.cv] rfl rfl (by simp[OC,((sR H).sl ho.1).cells.2.1,((sR H).sl ho.2.2.1).cells.2.1,((sR H).sl ho.2.2.2.2.1).cells.2.1]) mX fun A1 H1 hS1=> ?_
 simp only[RT]at hS1
 simp(disch:=omega) only[↓RA,RB,simprocAttr,g1]
 refine hS1.eNew 3 [sv,(.int .u64 rg.cpl),(.int .u64 rg.off)] rfl rfl (by simp[OC,(hS1.sl hr.1).cells.2.1]) qV fun A2 H2 hS2=> ?_
 simp only[RT]at hS2
 simp(disch:=omega) only[↓RA,RZ,simprocAttr,hn,g2,(hS2.sl hfi).len]
 have hS3:=hS2.nil 1
 simp only[RT]at hS3
 refine Wp.aj (fun n l H'=>l.length=55∧get l 3=(ptr A1 0 4)∧get l 4=(ptr A2 0 3)∧get l 6=(.slice none 0 0)∧get l 12=fv∧get l 13=I cs.length∧∃(i:Nat)(ov:Value),(n+i=cs.length)∧get l 14=I i∧get l 7=ov∧St prog H H' [⟨ptr A1 0 4,0,[(.string o.name),o.rv,o.dv,o.cv]⟩,⟨ptr A2 0 3,0,[sv,(.int .u64 rg.cpl),(.int .u64 rg.off)]⟩,⟨ov,2,pr ((cs.take i).flatMap (mS o rg))⟩]) cs.length ?_ ?_
 ·simp(disch:=omega) only[RB,RC,simprocAttr,hn]
  exact⟨0,.slice none 0 0,by omega,rfl,rfl,hS3⟩
 rintro n l H3⟨hn,g3,g4,g6,g12,g13,i,ov,hi,g14,g7,hS4⟩
 simp(disch:=omega) only[↓RA,RB,simprocAttr,hn,g13,g14]
 refine iA (fun q1=> ?_) (fun q1=> ?_)
 ·have hci:=(mE o _).1 (hfo _ (iD (xs:=cs) (j:=i) (by omega)))
  obtain⟨a,ha⟩:∃a:Nat,(iB cs i).1=a:=⟨(iB cs i).1.toNat,by omega⟩
  have ha1:a<o.dvs.length:=by omega
  have hst:=(ho.2.2.2.1 _ (iD ha1)).2.2
  have hs60:=hf.stops a ha1
  simp(disch:=omega) only[↓RA,RZ,simprocAttr,hn,g12,g14,(hS4.sl hfi).idx,(hS4.sl hfi).ai,jV,q1]
  refine hS4.eNew 2 [I 0,I 0] rfl rfl rfl nU fun A3 H4 hS5=> ?_
  simp only[RT]at hS5
  simp(disch:=omega) only[↓RA,RZ,simprocAttr,hn,q1]
  refine hS5.aa 3 rfl [I (iB cs i).1,I (iB cs i).2] rfl rfl nU (by simp) fun H5 hS6=> ?_
  simp only[RT]at hS6
  simp(disch:=omega) only[↓RA,RZ,simprocAttr,hn,g3,q1]
  simp only[ha]at hS6
  simp(disch:=omega) only[↓RA,RZ,simprocAttr,hn,hS6.ld 0 rfl,hS6.ld 3 rfl,(hS6.sl ho.2.2.1).idx,(hS6.sl ho.2.2.1).bb,(hS6.sl ho.2.2.1).ld,Dvn.cells,(hS6.sl (ho.2.2.2.1 (iB o.dvs a) (iD (by omega))).1).len,q1,ha]
  have hta:(iB cs i).1.toNat=a:=by omega
  have htk:=lI cs i (by omega)
  have hsx:=hr.2.2.1 _ (iD (xs:=rg.stops) (j:=a) (by omega))
  have hacc:(pr ((cs.take i).flatMap (mS o rg))).length≤2048*960:=by
   rw[iI]
   have:=a0H hf rg (cs.take i) fun c hc=>hfo c (fV hc)
   rw[fz]at this
   omega
  refine Wp.aj (fun n l H'=>l.length=55∧get l 3=(ptr A1 0 4)∧get l 4=(ptr A2 0 3)∧get l 6=(.slice none 0 0)∧get l 9=(ptr A3 0 2)∧get l 12=fv∧get l 13=I cs.length∧get l 14=I i∧get l 24=(iB o.dvs a).sv∧get l 25=I (iB o.dvs a).stops.length∧∃(k:Nat)(ow:Value),(n+k=(iB o.dvs a).stops.length)∧get l 26=I k∧get l 7=ow∧St prog H H' [⟨ptr A1 0 4,0,[(.string o.name),o.rv,o.dv,o.cv]⟩,⟨ptr A2 0 3,0,[sv,(.int .u64 rg.cpl),(.int .u64 rg.off)]⟩,⟨ow,2,pr ((cs.take i).flatMap (mS o rg)++oP o rg (iB cs i) k)⟩,⟨ptr A3 0 2,0,[I a,I (iB cs i).2]⟩]) (iB o.dvs a).stops.length ?_ ?_
  ·simp(disch:=omega) only[RB,RC,simprocAttr,hn,g3,g4,g6,g12,g13,g14,g7]
   refine⟨0,ov,by omega,rfl,rfl,?_⟩
   rw[show oP o rg (iB cs i) 0=[]from rfl,di]
   exact hS6
  rintro n l H6⟨hn,g3,g4,g6,g9,g12,g13,g14,g24,g25,k,ow,hj,g26,g7,hS7⟩
  simp(disch:=omega) only[↓RA,RB,simprocAttr,hn,g25,g26]
  refine iA (fun q2=> ?_) (fun q2=> ?_)
  ·have e1:=a1i (iB rg.stops a) k hsx
   have e2:=zR (iB rg.stops a>>>k) (sQ k hsx)
   have e3:=tb (iB rg.stops a) k
   have hsu:=a0V o rg (iB cs i) k
   rw[hta]at hsu
   have hKl:=a0d hf rg (hfo _ (iD (xs:=cs) (j:=i) (by omega))) k (by rw[hta];omega)
   have hKp:(pr (oP o rg (iB cs i) k)).length≤2000:=by rw[iI];omega
   simp(disch:=omega) only[↓RA,RZ,simprocAttr,hn,g24,g26,(hS7.sl (ho.2.2.2.1 (iB o.dvs a) (iD (by omega))).1).idx,(hS7.sl (ho.2.2.2.1 (iB o.dvs a) (iD (by omega))).1).ai,Stp.cells,q2]
   refine hS7.eNew 4 [(.string ⟨#[]⟩),I 0,I 0,(.slice none 0 0)] rfl rfl rfl oA fun A4 H7 hS8=> ?_
   simp only[RT]at hS8
   simp(disch:=omega) only[↓RA,RZ,simprocAttr,hn,q2]
   refine hS8.aa 4 rfl [(.string (iB (iB o.dvs a).stops k).name),I (iB (iB o.dvs a).stops k).num,I (iB (iB o.dvs a).stops k).den,(iB (iB o.dvs a).stops k).gv] rfl (by simp[OC,(hS8.sl ((ho.2.2.2.1 (iB o.dvs a) (iD (by omega))).2.1 (iB (iB o.dvs a).stops k) (iD (by omega))).1).cells.2.1]) oA (by simp) fun H8 hS9=> ?_
   simp only[RT]at hS9
   simp(disch:=omega) only[↓RA,RZ,simprocAttr,hn,g4,g9,hS9.ld 1 rfl,hS9.ld 3 rfl,(hS9.sl hr.1).idx,(hS9.sl hr.1).ld,one,u64,q2,e1,e2]
   refine iA (fun q3=> ?_) (fun q3=> ?_)
   ·have hsu:oP o rg (iB cs i) (k+1)=oP o rg (iB cs i) k++pT o.ranks (iB (iB o.dvs a).stops k) (iB cs i).2:=by rw[hsu,e3,if_pos (decide_eq_true (by omega))]
    have hpp:(pr (pT o.ranks (iB (iB o.dvs a).stops k) (iB cs i).2)).length≤16:=by
     rw[iI]
     exact dD 2 (a4x _ _ _ (hf.draws a ha1 _ (iD (by omega))))
    simp(disch:=omega) only[↓RA,RZ,simprocAttr,hn,g3,g9,g7,hS9.ld 0 rfl,hS9.ai 4 rfl,hS9.ld 3 rfl,q2,q3]
    refine iG (b6m o.rv o.ranks (hS9.sl ho.1) (fun q hq=>(ho.2.1 q hq).ak hS9) ho.2.2.2.2.2.1 (iB (iB o.dvs a).stops k) (((ho.2.2.2.1 _ (iD ha1)).2.1 _ (iD (by omega))).ak hS9) (hf.draws a ha1 _ (iD (by omega))) (iB cs i).2) ?_
    rintro r H9⟨hx,hT1⟩
    have hS10:=hS9.trans hT1
    simp only[RT]at hS10
    simp(disch:=omega) only[↓RA,RZ,simprocAttr,hn,q2,q3]
    refine hS10.aq 2 rfl hx.1.rd b0i (by have h:=hpp;unfold pr at h;rw[jL,dg];omega) fun w1 H10 hS11=> ?_
    simp only[RT]at hS11
    simp(disch:=omega) only[↓RA,RZ,simprocAttr,hn,g3,g4,g6,g9,g12,g13,g14,g24,g25,g26,q2,q3]
    refine⟨n-1,by omega,k+1,w1,by omega,by simp,rfl,?_⟩
    rw[hsu,←ef,jL]
    exact hS11.pick [0,1,2,3] (by decide) rfl
   have hsu:oP o rg (iB cs i) (k+1)=oP o rg (iB cs i) k:=by rw[hsu,e3,if_neg (by rw[decide_eq_true_iff];omega),di]
   simp(disch:=omega) only[↓RA,RZ,simprocAttr,hn,g3,g4,g6,g9,g12,g13,g14,g24,g25,g26,g7,q2,q3]
   refine⟨n-1,by omega,k+1,ow,by omega,by simp,rfl,?_⟩
   rw[hsu]
   exact hS9.pick [0,1,2,3] (by decide) rfl
  simp(disch:=omega) only[↓RA,RZ,simprocAttr,hn,g3,g4,g6,g12,g13,g14,g7,q2]
  refine⟨cs.length-(i+1),by omega,i+1,ow,by omega,by simp,rfl,?_⟩
  have hkk:k=(iB o.dvs a).stops.length:=by omega
  rw[htk,dz,du,ez,di]
  have e:mS o rg (iB cs i)=oP o rg (iB cs i) k:=by rw[hkk,←hta];rfl
  rw[e]
  exact hS7.pick [0,1,2] (by decide) rfl
 simp(disch:=omega) only[↓RA,RZ,simprocAttr,hn,g7,q1]
 have hii:i=cs.length:=by omega
 subst hii
 rw[dU]at hS4
 have hLL:(cs.flatMap (mS o rg)).length<1000000:=by
  have:=a0H hf rg cs hfo
  omega
 refine c6v hS4 2 rfl (gU hLL (by decide)) fun HS hSS=> ?_
 simp only[fM,eW]at hSS
 simp(disch:=omega) only[↓RA,RZ,simprocAttr,hn,g7,q1]
 have hM1:=hSS.pick (os':=[⟨ov,2,_⟩]) [2] (by decide) rfl
 have hR1:=hSS.pick (os':=[⟨ov,2,_⟩,⟨ptr A1 0 4,0,_⟩,⟨ptr A2 0 3,0,_⟩]) [2,0,1] (by decide) rfl
 refine iG (yD hM1.ay (by rw[mM];exact gU hLL (by decide))) ?_
 rintro r H11⟨rest,rfl,hT2⟩
 have hS12:=hR1.frame hT2
 simp only[RT]at hS12
 obtain⟨rc,hrcE⟩:∃w,w=nA ov 2 0 (dd (oS (cs.flatMap (mS o rg)))).length:=⟨_,rfl⟩
 have hrr:RdAt H11 rc 2 (pr (dd (oS (cs.flatMap (mS o rg))))):=hrcE▸xO (hS12.rd 0 rfl)
 have hrc:=hrr.cells
 rw[←hrcE]
 simp(disch:=omega) only[↓RA,RZ,simprocAttr,hn,c7c,q1]
 exact⟨ov,rest,hrcE,hS12.pick [0] (by decide) rfl⟩
end Go.Ds
namespace Go.Ds
open Go.Proofs Go.Proofs.Tryz
variable {H:Heap}
set_option maxRecDepth 10000
theorem Sl.bC{α:Type}{n:Nat}{cel:α→List Value}{v:Value}{xs:List α}(h:Sl n cel H v xs):kH v=true:=by
 rcases h.rd with⟨rfl,_⟩|⟨A,i,e,row,ty,rw,lo,ver,n,_,_,_,_,_,_,rfl⟩<;>rfl
theorem c3x{α:Type}[Inhabited α][DecidableEq α]{l:List α}{x:α}(h:x∈dd l):x∈l:=by
 unfold dd yW at h
 obtain⟨i,hi,rfl⟩:=dr.1 h
 exact iD (dq.1 (ew.1 hi).1)
theorem c0e{l:List (Int×Int)}{x:Int×Int}:x∈oS l↔x∈l:=(mU l).mem_iff
theorem Que.bfs{o:Org}(cp:Nat):∀(n i:Nat){q:List Ct},Que o q→Que o (bfs o cp n i q)
 | 0,_,_,h=>h
 | n+1,i,q,h=>by
   rw[Go.Ds.bfs]
   split
   ·exact Que.bfs cp n (i+1) (h.stepF cp true _)
   ·exact h
theorem a2X{o:Org}{rg:Reg}{l:List Ct}(hl:∀c∈l,nD o c=true):∀c∈kG o rg l,nD o c=true:=by
 intro c hc
 unfold kG at hc
 have hc:=c0e.1 (c3x hc)
 rcases dE.1 hc with h|h
 ·exact hl c (ew.1 h).1
 ·exact((nR o rg.cpl l).bfs rg.cpl 1100 0).2 c h
theorem a1G{o:Org}(hf:o.Fine){rg:Reg}{l:List Ct}(hl:l.length≤1024):(kG o rg l).length≤2048:=by
 unfold kG
 refine dy (b5l _) ?_
 rw[mM,dg]
 have h1:=ee (fun c:Ct=> !rg.off.testBit c.1.toNat) l
 have h2:=((nR o rg.cpl l).bfs rg.cpl 1100 0).len hf
 omega
theorem a5S(o:Org)(ho:o.In H)(hf:o.Fine)(rg:Reg)(sv:Value)(hr:rg.In H sv)(hrl:rg.stops.length=o.dvs.length)(fv:Value)(cs:List Ct)(hfi:Sl 2 jV H fv cs)(hfl:cs.length≤1024)(hfo:∀c∈cs,nD o c=true):
 Fn prog 48 [.agg #[.string o.name,o.rv,o.dv,o.cv],.agg #[sv,.int .u64 rg.cpl,.int .u64 rg.off],fv] H fun rr H'=>∃(gv:Value)(rest:List Value),rr=nA gv 2 0 (jP o rg cs).length∧St prog H H' [⟨gv,2,pr (jP o rg cs)++rest⟩]:=by
 refine .bk func48 rfl (by kernel_rfl) (m:=14) rfl fun l hn g0 g1 g2=> ?_
 simp(disch:=omega) only[↓RA,RB,simprocAttr,g0]
 refine(sR H).eNew 4 [(.string o.name),o.rv,o.dv,o.cv] rfl rfl (by simp[OC,((sR H).sl ho.1).cells.2.1,((sR H).sl ho.2.2.1).cells.2.1,((sR H).sl ho.2.2.2.2.1).cells.2.1]) mX fun A1 H1 hS1=> ?_
 simp only[RT]at hS1
 simp(disch:=omega) only[↓RA,RB,simprocAttr,g1]
 refine hS1.eNew 3 [sv,(.int .u64 rg.cpl),(.int .u64 rg.off)] rfl rfl (by simp[OC,(hS1.sl hr.1).cells.2.1]) qV fun A2 H2 hS2=> ?_
 simp only[RT]at hS2
 simp(disch:=omega) only[↓RA,RB,simprocAttr]
 refine Wp.aQ jW [(0,6),(1,6)] (by kernel_rfl) (by kernel_rfl) ?_
 simp(disch:=omega) only[↓RA,RZ,simprocAttr,hn,g2,hS2.ai 0 rfl,hS2.ai 1 rfl]
 refine iG (a0P o (ho.ak hS2) hf rg sv (hr.ak hS2) fv cs (hS2.sl hfi) hfl hfo) ?_
 rintro r H3⟨hx,hT1⟩
 have hS3:=hS2.trans hT1
 simp only[RT]at hS3
 simp(disch:=omega) only[↓RA,RZ,simprocAttr,hn]
 refine iG (b3g o (ho.ak hS3) hf rg sv (hr.ak hS3) hrl r (kG o rg cs) hx.1 (a1G hf hfl) (a2X hfo)) ?_
 rintro r H4⟨gv,rest,he2,hT2⟩
 have hS4:=hS3.trans hT2
 simp only[RT]at hS4
 have hx2:Slx 2 jV H4 (fun B=>H.length≤B) r (jP o rg cs):=he2▸b1E (hS4.pick [2] (by decide) rfl)
 simp(disch:=omega) only[↓RA,RZ,simprocAttr,hn,hS3.ai 0 rfl,hS3.ai 1 rfl,c8n]
 exact⟨gv,rest,he2,hS4.pick [2] (by decide) rfl⟩
theorem a7W(o:Org)(ho:o.In H)(hf:o.Fine)(rg:Reg)(sv:Value)(hr:rg.In H sv)(hrl:rg.stops.length=o.dvs.length)(fv:Value)(cs:List Ct)(hfi:Sl 2 jV H fv cs)(hfl:cs.length≤1024)(hfo:∀c∈cs,nD o c=true):
 Fn prog 48 [.agg #[.string o.name,o.rv,o.dv,o.cv],.agg #[sv,.int .u64 rg.cpl,.int .u64 rg.off],fv] H fun rr H'=>Slx 2 jV H' (fun B=>H.length≤B) rr (jP o rg cs)∧St prog H H' []:=
 (a5S o ho hf rg sv hr hrl fv cs hfi hfl hfo).mono fun _ _⟨_,_,e,h⟩=>⟨e▸b1E h,h.forget⟩
def rgc(p:Value×Reg):List Value:=[p.1,.int .u64 p.2.cpl,.int .u64 p.2.off]
def rC(o:Org)(l:List (Value×Reg)):Int:=if organE o≠0 then organE o else lO (fun j=>rB o (iB l j).2) l.length
theorem b4k(o:Org)(ho:o.In H)(lv:Value)(xs:List (Value×Reg))(hl:Sl 3 rgc H lv xs)(hle:xs.length<1000000000)(hr:∀p∈xs,p.2.In H p.1):
 Fn prog 83 [.agg #[.string o.name,o.rv,o.dv,o.cv],lv] H fun r H'=>r=I (rC o xs)∧St prog H H' []:=by
 refine .aF func83 rfl (by kernel_rfl) (m:=27) rfl fun l hn g0 g1=> ?_
 simp(disch:=omega) only[↓RA,RB,simprocAttr,g0]
 refine(sR H).eNew 4 [(.string o.name),o.rv,o.dv,o.cv] rfl rfl (by simp[OC,((sR H).sl ho.1).cells.2.1,((sR H).sl ho.2.2.1).cells.2.1,((sR H).sl ho.2.2.2.2.1).cells.2.1]) mX fun A1 H1 hS1=> ?_
 simp only[RT]at hS1
 simp(disch:=omega) only[↓RA,RZ,simprocAttr,hn,hS1.ai 0 rfl]
 refine hS1.cF (a2V o (ho.ak hS1)) fun H2 hS2=> ?_
 simp(disch:=omega) only[↓RA,RB,simprocAttr,hn]
 refine iA (fun h1=> ?_) (fun h1=> ?_)
 ·simp(disch:=omega) only[↓RA,RZ,simprocAttr,hn,c2f,h1]
  exact⟨by rw[rC,if_pos h1],hS2.forget⟩
 have hE:rC o xs=lO (fun j=>rB o (iB xs j).2) xs.length:=by rw[rC,if_neg h1]
 simp(disch:=omega) only[↓RA,RZ,simprocAttr,hn,g1,(hS2.sl hl).len,h1]
 refine Wp.aj (fun n l H'=>l.length=27∧get l 2=(ptr A1 0 4)∧get l 14=lv∧get l 15=I xs.length∧∃(j:Nat),(n+j=xs.length∧∀q,q<j→rB o (iB xs q).2=0)∧get l 16=I j∧St prog H H' [⟨ptr A1 0 4,0,[(.string o.name),o.rv,o.dv,o.cv]⟩]) xs.length ?_ ?_
 ·simp(disch:=omega) only[RB,RC,simprocAttr,hn]
  exact⟨0,⟨by omega,fun q hq=>absurd hq (dL _)⟩,rfl,hS2⟩
 rintro n l H3⟨hn,g2,g14,g15,j,⟨hj,hz⟩,g16,hS3⟩
 simp(disch:=omega) only[↓RA,RB,simprocAttr,hn,g15,g16]
 refine iA (fun q1=> ?_) (fun q1=> ?_)
 ·simp(disch:=omega) only[↓RA,RZ,simprocAttr,hn,g14,g16,(hS3.sl hl).idx,(hS3.sl hl).ai,rgc,q1]
  refine hS3.eNew 3 [(.slice none 0 0),(.int .u64 0),(.int .u64 0)] rfl rfl rfl qV fun A2 H4 hS4=> ?_
  simp only[RT]at hS4
  simp(disch:=omega) only[↓RA,RZ,simprocAttr,hn,q1]
  refine hS4.aa 1 rfl [(iB xs j).1,(.int .u64 (iB xs j).2.cpl),(.int .u64 (iB xs j).2.off)] rfl (by simp[OC,(hS4.sl (hr (iB xs j) (iD (by omega))).1).cells.2.1]) qV (by simp) fun H5 hS5=> ?_
  simp only[RT]at hS5
  simp(disch:=omega) only[↓RA,RZ,simprocAttr,hn,g2,hS5.ai 0 rfl,hS5.ai 1 rfl,q1]
  refine hS5.cF (c2t o (ho.ak hS5) (iB xs j).2 (iB xs j).1 ((hr _ (iD (by omega))).ak hS5)) fun H6 hS6=> ?_
  simp(disch:=omega) only[↓RA,RZ,simprocAttr,hn,q1]
  refine iA (fun q2=> ?_) (fun q2=> ?_)
  ·simp(disch:=omega) only[↓RA,RZ,simprocAttr,hn,c2f,q1,q2]
   exact⟨by rw[hE,oI (fun j=>rB o (iB xs j).2) xs.length j (by omega) q2 hz],hS6.forget⟩
  simp(disch:=omega) only[↓RA,RZ,simprocAttr,hn,g2,g14,g15,g16,q1,q2]
  exact⟨n-1,by omega,j+1,⟨by omega,fun q hq=>by rcases dm.1 hq with e|e;(· exact hz q e);(· rw[e];exact dx.1 q2)⟩,by simp,hS6.pick [0] (by decide) rfl⟩
 simp(disch:=omega) only[↓RA,RZ,simprocAttr,hn,c2f,q1]
 exact⟨by rw[hE,kS (fun j=>rB o (iB xs j).2) xs.length fun q hq=>hz q (by omega)],hS3.forget⟩
theorem a8O(o:Org)(sv:Value)(rg:Reg):rC o [(sv,rg)]=rB o rg:=by
 unfold rC
 split
 ·rename_i h
  unfold rB
  rw[if_pos h]
 ·by_cases h:rB o rg=0
  ·rw[h]
   exact kS _ _ fun j hj=>by
    have:j=0:=by simpa using hj
    rw[this]
    exact h
  ·exact oI (fun j=>rB o (iB [(sv,rg)] j).2) 1 0 (by decide) h fun j hj=>absurd hj (dL _)
theorem xG{o:Org}{rg:Reg}(h:rB o rg=0):organE o=0∧rg.stops.length=o.dvs.length:=by
 unfold rB at h
 split at h
 ·rename_i hh;exact absurd h hh
 rename_i h1
 split at h
 ·omega
 exact⟨dx.1 h1,by omega⟩
end Go.Ds
namespace Go.Ds
open Go.Proofs
structure Ctl where
 kind:Int
 dv:Int
 ix:Int
 deriving Inhabited,DecidableEq
def Ctl.cells(c:Ctl):List Value:=[I c.kind,I c.dv,I c.ix]
def oX(n:Nat):List Nat:=(List.range 64).filter fun i=>n.testBit i
end Go.Ds
namespace Go.Ds
open Go.Proofs
variable {H:Heap}
set_option maxRecDepth 10000
set_option maxHeartbeats 1000000
theorem Wp.bM{P:Program}{c c':Code}{l l':List Value}{Q:mV}(hc:c'=c)(hl:l'=l)(h:SW P c l H Q):Wp P c' l' H Q:=by
 subst hc hl;exact h.wp
theorem Wp.cC{P:Program}{c:Code}{l:List Value}{Q:mV}(h:∀l',l'=l→Wp P c l' H Q):Wp P c l H Q:=h l rfl
theorem Wp.cd{P:Program}{t:Tmp}{ps:Array Tmp}{assign body:Code}{l:List Value}{Q:mV}{k:FuncId}{captured:List Value}(hg:get l t=.func (.func k) #[] captured.toArray)
 (h:∀r:Loop,r.state=.ready→r.pending=none→r.tmps=l.toArray→r.params=ps→r.assign=assign→r.body=body→
   FnS P k ([.func (.yield H.length) #[] #[]]++captured) (H.cons (.loop r)) (b7m P l H.length Q)):Wp P (.rangeFunc (.tmp t) ps assign body) l H Q:=
 Wp.range (first:=[]) rfl hg (h (b1w l ps assign body) rfl rfl rfl rfl rfl rfl)
theorem Lp.left{P:Program}{B:Base}{L:Nat}{r:Loop}{ls rest:List Ob}(h:Lp P B L r H (ls++rest)):Lp P B L r H ls:=h.sub (List.sublist_append_left _ _)
theorem OwnAt.var{P:Program}{A n:Nat}{cs:List Value}(h:OwnAt P H ⟨ptr A 0 n,0,cs⟩):Var H A n cs:=by
 unfold OwnAt at h
 rw[if_pos rfl]at h
 rcases h with⟨A',ty,lo,ver,h1,h2,h3⟩|⟨A',es,ck,ver,_,_,h3,_⟩
 ·simp only[ptr,Value.pointer.injEq,dB,Addr.mk.injEq]at h3
  obtain⟨rfl,_,hn⟩:=h3
  exact⟨hn,ty,true,lo,ver,h1,h2⟩
 ·cases h3
theorem a7E{n i:Nat}(h:i<n):∃t,List.range n=List.range i++i::t:=by
 refine⟨(List.range n).drop (i+1),?_⟩
 have h1:(List.range n).take i=List.range i:=by rw[List.take_range,fQ (by omega)]
 have h2:=fx (l:=List.range n) (i:=i) (by simpa using h)
 rw[List.getElem_range]at h2
 rw[←h1,←h2,List.take_append_drop]
def b6k(x n:Nat):List Nat:=(List.range n).filter fun i=>x.testBit i
theorem a7R(x n:Nat):(b6k x n).length≤n:=by
 unfold b6k
 refine dy (ee _ _) ?_
 simp
structure Pv where
 v:Value
 l:List Ct
 deriving Inhabited
def Pv.cells(p:Pv):List Value:=[p.v]
def Pv.Ix(H:Heap)(X:Nat→Prop)(p:Pv):Prop:=Slx 2 jV H X p.v p.l
theorem Pv.Ix.step{H':Heap}{X Y:Nat→Prop}{p:Pv}(h:p.Ix H X)(hk:Kept H X H' Y):p.Ix H' Y:=Slx.step h hk
theorem Kept.and{H':Heap}{X Y:Nat→Prop}(Q:Nat→Prop)(h:Kept H X H' Y):Kept H (fun B=>Q B∧X B) H' (fun B=>Q B∧Y B):=
 fun B hX hB=>⟨(h B hX.2 hB).1,hX.1,(h B hX.2 hB).2⟩
theorem Fn.tr{P:Program}{k:FuncId}{args:List Value}{R:Value→Heap→Prop}(h:Fn P k args H R):Fn P k args H fun v H'=>True∧R v H':=by
 simpa using h
theorem c6z(i:Nat)(hi:i<64):IntKind.wrap .u64 (1*2^min i (IntKind.bits .u64))=((2^i:Nat):Int):=by
 have e:IntKind.bits .u64=64:=rfl
 rw[e,fQ (by omega),Int.one_mul]
 have h1:((2^i:Nat):Int)=2^i:=by simp
 rw[←h1]
 have h2:2^i≤2^63:=fi (by decide) (by omega)
 have h5:((2^i:Nat):Int)≤((2^63:Nat):Int):=Int.ofNat_le.2 h2
 exact oD _ (Int.natCast_nonneg _) (Int.lt_of_le_of_lt h5 (by decide))
end Go.Ds
namespace Go.Ds
open Go.Proofs Go.Proofs.Tryz
variable {H:Heap}
set_option maxRecDepth 10000
set_option maxHeartbeats 1000000
theorem xF{α:Type}[Inhabited α]{xs ys:List α}(hl:xs.length=ys.length)(h:∀j,j<xs.length→iB xs j=iB ys j):xs=ys:=by
 apply List.ext_getElem hl
 intro j h1 h2
 have:=h j h1
 rwa [kC xs j h1,kC ys j h2]at this
theorem a6D(v w:Value)(xs ys:List Ct)(hv:Sl 2 jV H v xs)(hw:Sl 2 jV H w ys)(hl:xs.length<1000000000)(hl2:ys.length<1000000000):
 Fn prog 21 [v,w] H fun r H'=>r=.bool (decide (xs=ys))∧St prog H H' []:=by
 refine .aF func21 rfl (by kernel_rfl) (m:=26) rfl fun l hn g0 g1=> ?_
 simp(disch:=omega) only[↓RA,RZ,simprocAttr,hn,g0,g1,((sR H).sl hv).len,((sR H).sl hw).len]
 refine iA (fun h1=> ?_) (fun h1=> ?_)
 ·simp(disch:=omega) only[↓RA,RZ,simprocAttr,hn,c3N,h1]
  exact⟨by rw[decide_eq_false];intro e;rw[e]at h1;exact h1 rfl,(sR H)⟩
 simp(disch:=omega) only[↓RA,RZ,simprocAttr,hn,g0,((sR H).sl hv).len,h1]
 refine Wp.aj (fun n l H'=>l.length=26∧get l 0=v∧get l 1=w∧get l 12=I xs.length∧∃(j:Nat),(n+j=xs.length∧∀q,q<j→iB xs q=iB ys q)∧get l 13=I j∧St prog H H' []) xs.length ?_ ?_
 ·simp(disch:=omega) only[RB,RC,simprocAttr,hn,g0,g1]
  exact⟨0,⟨by omega,fun q hq=>absurd hq (dL _)⟩,rfl,(sR H)⟩
 rintro n l H1⟨hn,g0,g1,g12,j,⟨hj,hz⟩,g13,hS1⟩
 simp(disch:=omega) only[↓RA,RB,simprocAttr,hn,g12,g13]
 refine iA (fun q1=> ?_) (fun q1=> ?_)
 ·simp(disch:=omega) only[↓RA,RZ,simprocAttr,hn,g13,q1]
  refine Wp.drw jW (by kernel_rfl) ?_
  simp(disch:=omega) only[↓RA,RZ,simprocAttr,hn,g0,g1,(hS1.sl hv).idx,(hS1.sl hv).ai,jV,(hS1.sl hw).idx,(hS1.sl hw).ai]
  refine iA (fun q2=> ?_) (fun q2=> ?_)
  ·simp(disch:=omega) only[↓RA,RZ,simprocAttr,hn,c3N,q2]
   refine⟨?_,hS1⟩
   rw[decide_eq_false]
   intro e
   rw[e]at q2
   exact q2 ⟨rfl,rfl⟩
  have q3:=dx.1 q2
  simp(disch:=omega) only[↓RA,RZ,simprocAttr,hn,g0,g1,g12,g13,q2]
  exact⟨n-1,by omega,j+1,⟨by omega,fun q hq=>by rcases dm.1 hq with e|e;(· exact hz q e);(· rw[e];exact fN q3.1 q3.2)⟩,by simp,hS1⟩
 simp(disch:=omega) only[↓RA,RZ,simprocAttr,hn,c3N,q1]
 exact⟨by rw[decide_eq_true];exact xF (by omega) fun q hq=>hz q (by omega),hS1⟩
def Pv.In(H:Heap)(p:Pv):Prop:=Sl 2 jV H p.v p.l
end Go.Ds
namespace Go.Ds
open Go.Proofs
variable {H:Heap}
set_option maxRecDepth 10000
set_option maxHeartbeats 1000000
end Go.Ds
