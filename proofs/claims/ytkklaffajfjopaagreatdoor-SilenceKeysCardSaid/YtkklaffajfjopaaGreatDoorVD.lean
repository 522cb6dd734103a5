/-
  A part of the proof of SilenceKeys.
-/
import Derived.Test.YtkklaffajfjopaaGreatDoorVC
import Derived.Test.YtkklaffajfjopaaGreatDoorVB
import Derived.Shelf.SlSortCmp.NoneTotal
import Derived.Shelf.SlGeneric
import Derived.Shelf.SlLaysF0
import Derived.Test.YtkklaffajfjopaaGreatDoorProg
set_option linter.unusedVariables false
set_option linter.unusedSimpArgs false
set_option linter.defProp false
set_option linter.unusedSectionVars false
namespace Go.Ds
open Go.Proofs Go.Proofs.Tryz
variable {H:Heap}
def lD:List (Int×Int):=[(8,1),(4,1),(16,1),(8,3),(2,1),(8,5)]
def lY:List (Int×Int):=[(8,1),(4,1),(16,1),(2,1),(8,3),(8,5),(4,3),(1,1),(32,1),(16,3),(16,5),(32,3),(8,7),(2,3),(1,2),(64,1)]
theorem a7L(k:Nat):Fn prog 70 [.int .u8 k] H fun r H'=>r=.agg #[I (iD lD (k%6)).1,I (iD lD (k%6)).2]∧St prog H H' []:=by
 refine .aW func70 rfl (by kernel_rfl) (m:=14) rfl fun l hn g0=> ?_
 simp(disch:=omega) only[↓RA,RZ,simprocAttr]
 refine(sR H).eNew 2 [I 0,I 0] rfl rfl rfl zY fun A1 H1 hS1=> ?_
 simp only[RT]at hS1
 simp(disch:=omega) only[↓RA,RB,simprocAttr,hn,yA]
 refine hS1.ai [I 8,I 1,I 4,I 1,I 16,I 1,I 8,I 3,I 2,I 1,I 8,I 5] b9x b9K rfl rfl (by simp[Value.cells]) rfl rfl (by decide) (by decide) fun w1 H2 hS2=> ?_
 simp only[RT]at hS2
 simp(disch:=omega) only[↓RA,RZ,simprocAttr,hn,g0]
 have hR:St prog H H2 [⟨ptr A1 0 2,0,_⟩,⟨w1,2,lD.flatMap kpc⟩]:=hS2
 have hL:lD.length=6:=rfl
 have hk:k%6<6:=eY _ (by decide)
 have hk2:(k:Int).tmod 6=((k%6:Nat):Int):=(eL k 6).symm
 try rw[hk2]
 simp(disch:=omega) only[↓RA,RZ,simprocAttr,hn,(hR.av 1 rfl vF).idx,(hR.av 1 rfl vF).aj,kpc]
 refine hR.aa 0 rfl [I (iD lD (k%6:Nat)).1,I (iD lD (k%6:Nat)).2] rfl rfl zY (by simp) fun H3 hS3=> ?_
 simp only[RT]at hS3
 simp(disch:=omega) only[↓RA,RZ,simprocAttr,hn,c5I,hS3.aj 0 rfl]
 first|exact hS3.forget|exact⟨rfl,hS3.forget⟩
theorem a8b(k:Nat):Fn prog 69 [.int .u8 k] H fun r H'=>r=.agg #[I (iD lY (k%16)).1,I (iD lY (k%16)).2]∧St prog H H' []:=by
 refine .aW func69 rfl (by kernel_rfl) (m:=24) rfl fun l hn g0=> ?_
 simp(disch:=omega) only[↓RA,RZ,simprocAttr]
 refine(sR H).eNew 2 [I 0,I 0] rfl rfl rfl zY fun A1 H1 hS1=> ?_
 simp only[RT]at hS1
 simp(disch:=omega) only[↓RA,RB,simprocAttr,hn,yA]
 refine hS1.ai [I 8,I 1,I 4,I 1,I 16,I 1,I 2,I 1,I 8,I 3,I 8,I 5,I 4,I 3,I 1,I 1,I 32,I 1,I 16,I 3,I 16,I 5,I 32,I 3,I 8,I 7,I 2,I 3,I 1,I 2,I 64,I 1] b9x b9K rfl rfl (by simp[Value.cells]) rfl rfl (by decide) (by decide) fun w1 H2 hS2=> ?_
 simp only[RT]at hS2
 simp(disch:=omega) only[↓RA,RZ,simprocAttr,hn,g0]
 have hR:St prog H H2 [⟨ptr A1 0 2,0,_⟩,⟨w1,2,lY.flatMap kpc⟩]:=hS2
 have hL:lY.length=16:=rfl
 have hk:k%16<16:=eY _ (by decide)
 have hk2:(k:Int).tmod 16=((k%16:Nat):Int):=(eL k 16).symm
 try rw[hk2]
 simp(disch:=omega) only[↓RA,RZ,simprocAttr,hn,(hR.av 1 rfl vF).idx,(hR.av 1 rfl vF).aj,kpc]
 refine hR.aa 0 rfl [I (iD lY (k%16:Nat)).1,I (iD lY (k%16:Nat)).2] rfl rfl zY (by simp) fun H3 hS3=> ?_
 simp only[RT]at hS3
 simp(disch:=omega) only[↓RA,RZ,simprocAttr,hn,c5N,hS3.aj 0 rfl]
 first|exact hS3.forget|exact⟨rfl,hS3.forget⟩
end Go.Ds
namespace Go.Ds
open Go.Proofs Go.Proofs.Tryz
variable {H:Heap}
set_option maxRecDepth 10000
structure RPl where
 tone:Nat
 feet:Nat
 first:Int
 pipes:Nat
 w0:Nat
 w1:Nat
 w2:Nat
 w3:Nat
 w4:Nat
 deriving Inhabited
def RPl.cells(p:RPl):List Value:=[.int .u8 p.tone,.int .u8 p.feet,.int .i8 p.first,.int .u8 p.pipes,.int .u8 p.w0,.int .u8 p.w1,.int .u8 p.w2,.int .u8 p.w3,.int .u8 p.w4]
def RPl.Ok(p:RPl):Prop:=p.tone<256∧p.feet<256∧-128≤p.first∧p.first<128∧p.pipes<256∧p.w0<256∧p.w1<256∧p.w2<256∧p.w3<256∧p.w4<256
def RPl.wind(p:RPl)(j:Nat):Nat:=iD [p.w0,p.w1,p.w2,p.w3,p.w4] (j%5)
theorem RPl.Ok.wind{p:RPl}(hp:p.Ok)(j:Nat):p.wind j<256:=by
 obtain⟨_,_,_,_,_,h0,h1,h2,h3,h4⟩:=hp
 have:j%5=0∨j%5=1∨j%5=2∨j%5=3∨j%5=4:=by omega
 unfold RPl.wind
 rcases this with e|e|e|e|e<;>rw[e]<;>assumption
def tT:List ByteArray:=[⟨#[79,112,101,110]⟩,⟨#[70,108,117,116,101]⟩,⟨#[82,101,101,100]⟩]
theorem b2s(p:RPl)(hp:p.Ok)(i:Nat)(hi:i<10):Fn prog 34 [.agg #[.int .u8 p.tone,.int .u8 p.feet,.int .i8 p.first,.int .u8 p.pipes,.int .u8 p.w0,.int .u8 p.w1,.int .u8 p.w2,.int .u8 p.w3,.int .u8 p.w4],I i] H fun r H'=>
 ∃wv,r=.agg #[.string ⟨#[82,UInt8.ofNat (48+i)]⟩,.string (iD tT (p.tone%3)),I (iD lY (p.feet%16)).1,I (iD lY (p.feet%16)).2,I p.first,wv]∧
  St prog H H' [⟨wv,1,(List.range (1+p.pipes%25)).map fun j=>I (p.wind j)⟩]:=by
 have hwb:=fun j=>hp.wind j
 obtain⟨h1,h2,h3,h4,h5,_⟩:=hp
 refine .aD func34 rfl (by kernel_rfl) (m:=48) rfl fun l hn g0 g1=> ?_
 have hm:(i:Int).tmod 10=i:=((eL i 10).symm).trans (by rw[gm hi])
 have ht:(p.tone:Int).tmod 3=((p.tone%3:Nat):Int):=(eL p.tone 3).symm
 have ht3:p.tone%3<3:=eY _ (by decide)
 have htl:tT.length=3:=rfl
 simp(disch:=omega) only[↓RA,RB,simprocAttr,g0]
 refine(sR H).eNew 9 [(.int .u8 p.tone),(.int .u8 p.feet),(.int .i8 p.first),(.int .u8 p.pipes),(.int .u8 p.w0),(.int .u8 p.w1),(.int .u8 p.w2),(.int .u8 p.w3),(.int .u8 p.w4)] rfl rfl rfl b3P fun A1 H1 hS1=> ?_
 simp only[RT]at hS1
 simp(disch:=omega) only[↓RA,RZ,simprocAttr]
 refine hS1.eNew 6 [(.string ⟨#[]⟩),(.string ⟨#[]⟩),I 0,I 0,I 0,(.slice none 0 0)] rfl rfl rfl a2U fun A2 H2 hS2=> ?_
 simp only[RT]at hS2
 simp(disch:=omega) only[↓RA,simprocAttr]
 refine Wp.bW kG [13,14,15,16,17,18,0,1,2,3,4,5,6,7,8,9,10,11,12,19,20,21] [6,7,8,9,10,11,12,13,14,15,16,17,18,0,1,2,3,4,5,19,20,21] ⟨true,[],[(11,10),(17,13),(18,13)]⟩ [(4,0),(5,0),(9,0),(15,0),(15,3)] (by kernel_rfl) (by kernel_rfl) (by kernel_rfl) ?_
 simp(disch:=omega) only[↓RA,RZ,simprocAttr,hn,hS2.ld 0 rfl]
 refine hS2.cF (a8b p.feet) fun H3 hS3=> ?_
 simp(disch:=omega) only[↓RA,RZ,simprocAttr,hn,g1,hS3.ld 0 rfl,hm]
 refine hS3.ai [_] b1d b1j rfl rfl (by simp[Value.cells]) rfl rfl (by decide) (by decide) fun w1 H4 hS4=> ?_
 simp only[RT]at hS4
 simp(disch:=omega) only[↓RA,RB,simprocAttr,hn,vU (hS4.rd 2 rfl) nM.1 nM.2.1 nM.2.2,sP]
 refine hS4.ai [(.string ⟨#[79,112,101,110]⟩),(.string ⟨#[70,108,117,116,101]⟩),(.string ⟨#[82,101,101,100]⟩)] c3k c4p rfl rfl (by simp[Value.cells]) rfl rfl (by decide) (by decide) fun w2 H5 hS5=> ?_
 simp only[RT]at hS5
 simp(disch:=omega) only[↓RA,RZ,simprocAttr,hn,hS5.ld 0 rfl,ht]
 have hR:St prog H H5 [⟨ptr A1 0 9,0,_⟩,⟨ptr A2 0 6,0,_⟩,⟨w1,1,_⟩,⟨w2,1,tT.flatMap (one Value.string)⟩]:=hS5
 simp(disch:=omega) only[↓RA,RZ,simprocAttr,hn,(hR.av 3 rfl (rJ _)).idx,(hR.av 3 rfl (rJ _)).ld,one,a5p]
 refine hR.eNew 6 [(.string ⟨#[]⟩),(.string ⟨#[]⟩),I 0,I 0,I 0,(.slice none 0 0)] rfl rfl rfl a2U fun A3 H6 hS6=> ?_
 simp only[RT]at hS6
 simp(disch:=omega) only[↓RA,RB,simprocAttr,hn]
 refine hS6.aa 4 rfl [(.string ⟨#[82,UInt8.ofNat (48+(i:Int)).toNat]⟩),(.string (iD tT (p.tone%3:Nat))),I (iD lY (p.feet%16)).1,I (iD lY (p.feet%16)).2,_,(.slice none 0 0)] rfl rfl a2U (by simp) fun H7 hS7=> ?_
 simp only[RT]at hS7
 simp(disch:=omega) only[↓RA,RZ,simprocAttr,hn,hS2.ld 0 rfl,hS3.ld 0 rfl]
 have hN:St prog H H7 [⟨ptr A1 0 9,0,_⟩,⟨ptr A2 0 6,0,_⟩,⟨ptr A3 0 6,0,[.string ⟨#[82,UInt8.ofNat (48+(i:Int)).toNat]⟩,.string (iD tT (p.tone%3)),I (iD lY (p.feet%16)).1,I (iD lY (p.feet%16)).2,I p.first,.slice none 0 0]⟩,⟨.slice none 0 0,1,[]⟩]:=(hS7.nil 0).pick [0,1,4,5] (by decide) rfl
 refine Wp.aq (fun n l H'=>l.length=48∧get l 2=(ptr A1 0 9)∧get l 4=(ptr A2 0 6)∧get l 5=(ptr A3 0 6)∧∃(j:Nat)(wv:Value),(n+j=1+p.pipes%25)∧get l 6=I j∧St prog H H' [⟨ptr A1 0 9,0,[(.int .u8 p.tone),(.int .u8 p.feet),(.int .i8 p.first),(.int .u8 p.pipes),(.int .u8 p.w0),(.int .u8 p.w1),(.int .u8 p.w2),(.int .u8 p.w3),(.int .u8 p.w4)]⟩,⟨ptr A2 0 6,0,[(.string ⟨#[]⟩),(.string ⟨#[]⟩),I 0,I 0,I 0,(.slice none 0 0)]⟩,⟨ptr A3 0 6,0,[.string ⟨#[82,UInt8.ofNat (48+(i:Int)).toNat]⟩,.string (iD tT (p.tone%3)),I (iD lY (p.feet%16)).1,I (iD lY (p.feet%16)).2,I p.first,wv]⟩,⟨wv,1,(List.range j).map fun q=>I (p.wind q)⟩]) (1+p.pipes%25) ?_ ?_
 ·simp(disch:=omega) only[RB,RC,simprocAttr,hn]
  exact⟨0,_,by omega,rfl,hN⟩
 rintro n l H8⟨hn,g2,g4,g5,j,wv,hj,g6,hS8⟩
 have hpp:(p.pipes:Int).tmod 25=((p.pipes%25:Nat):Int):=(eL p.pipes 25).symm
 have hj5:(j:Int).tmod 5=((j%5:Nat):Int):=(eL j 5).symm
 have hw:(p.cells)[4+j%5]? =some (.int .u8 (p.wind j)):=by
  have:j%5=0∨j%5=1∨j%5=2∨j%5=3∨j%5=4:=by omega
  unfold RPl.wind
  rcases this with e|e|e|e|e<;>rw[e]<;>rfl
 simp only[RPl.cells]at hw
 have hwj:=hwb j
 simp(disch:=omega) only[↓RA,RZ,simprocAttr,hn,g2,g6,hS8.ld 0 rfl,hpp]
 refine iC (fun q=> ?_) (fun q=> ?_)
 ·simp(disch:=omega) only[↓RA,RC,simprocAttr,q]
  refine Wp.aS kG [(1,9)] (by kernel_rfl) (by kernel_rfl) ?_
  simp(disch:=omega) only[↓RA,RZ,simprocAttr,hn,g2,g5,g6,hS8.ld 2 rfl,hS8.ld 0 rfl,hw,hj5]
  refine hS8.ai [_] a2O a6u rfl rfl (by simp[Value.cells]) rfl rfl (by decide) (by decide) fun w3 H9 hS9=> ?_
  simp only[RT]at hS9
  simp(disch:=omega) only[↓RA,RZ,simprocAttr,hn]
  refine hS9.al 3 rfl (hS9.rd 4 rfl) a2O (by first|(simp;done)|(simp;omega)) fun w4 H10 hS10=> ?_
  simp only[RT]at hS10
  simp(disch:=omega) only[↓RA,RZ,simprocAttr,hn,g5]
  refine hS10.aa 2 rfl [w4] (by rw[(hS10.rd 3 rfl).cells.1]) (by simp[(hS10.rd 3 rfl).cells.2.1]) c3b (by simp) fun H11 hS11=> ?_
  simp only[RT]at hS11
  simp(disch:=omega) only[↓RA,RZ,simprocAttr,hn,g2,g4,g5,g6,hS9.ld 2 rfl]
  refine⟨n-1,by omega,j+1,w4,by omega,rfl,?_⟩
  rw[eu,dO]
  exact hS11.pick [0,1,2,3] (by decide) rfl
 simp(disch:=omega) only[↓RA,RZ,simprocAttr,hn,g4,g5,hS8.aj 2 rfl,q]
 refine hS8.aa 1 rfl [(.string ⟨#[82,UInt8.ofNat (48+(i:Int)).toNat]⟩),(.string (iD tT (p.tone%3))),I (iD lY (p.feet%16)).1,I (iD lY (p.feet%16)).2,I p.first,wv] rfl (by simp[OC,(hS8.rd 3 rfl).cells.2.1]) a2U (by simp) fun H12 hS12=> ?_
 simp only[RT]at hS12
 simp(disch:=omega) only[↓RA,RZ,simprocAttr,g4,c4O,hS12.aj 1 rfl,q]
 have hjj:j=1+p.pipes%25:=by omega
 subst hjj
 have he:(48+(i:Int)).toNat=48+i:=by omega
 exact⟨wv,by rw[he],hS12.pick [3] (by decide) rfl⟩
end Go.Ds
namespace Go.Ds
open Go.Proofs
variable {P:Program} {H:Heap} {α:Type} {n:Nat} {cel:α→List Value} {v:Value} {xs:List α} {X Y:Nat→Prop}
theorem RdAt.lt{size:Nat}{cs:List Value}(h:RdAt H v size cs){B:Nat}(hb:kJ v=some B):B<H.length:=by
 rcases h with⟨h1,_⟩|⟨A,i,e,row,ty,rw,lo,ver,n,h,_,_,_,_,_,h7⟩
 ·rw[h1]at hb;simp[kJ]at hb
 ·rw[h7]at hb
  simp[kJ]at hb
  exact hb▸jI h
theorem RdAt.cI{H':Heap}{size:Nat}{cs:List Value}(h:RdAt H v size cs)(hk:∀B,kJ v=some B→iR H' B=iR H B):RdAt H' v size cs:=by
 rcases h with h|⟨A,i,e,row,ty,rw,lo,ver,n,h,h2,h3,h4,h5,h6,h7⟩
 ·exact .inl h
 ·exact .inr ⟨A,i,e,row,ty,rw,lo,ver,n,by rw[hk A (by rw[h7];rfl),h],h2,h3,h4,h5,h6,h7⟩
theorem St.aw{B0:Base}{os:List Ob}(hS:St P B0 H os):∃B:Base,B=⟨H,pX os⟩∧St P B H os:=⟨_,rfl,hS.aH⟩
theorem St.ab{B0 B:Base}{H1:Heap}{os os1:List Ob}(hS:St P B0 H os)(hB:B=⟨H,pX os⟩)(h1:St P B H1 os1):St P B0 H1 os1:=by
 subst hB
 exact hS.bD h1
def Slx(n:Nat)(cel:α→List Value)(H:Heap)(X:Nat→Prop)(v:Value)(xs:List α):Prop:=Sl n cel H v xs∧∀B,kJ v=some B→X B
def Kept(H:Heap)(X:Nat→Prop)(H':Heap)(Y:Nat→Prop):Prop:=∀B,X B→B<H.length→iR H' B=iR H B∧Y B
theorem Slx.step{H':Heap}(h:Slx n cel H X v xs)(hk:Kept H X H' Y):Slx n cel H' Y v xs:=
 ⟨⟨h.1.rd.cI fun B hb=>(hk B (h.2 B hb) (h.1.rd.lt hb)).1,h.1.hc,h.1.pos⟩,fun B hb=>(hk B (h.2 B hb) (h.1.rd.lt hb)).2⟩
def nb(vs:List Value):Nat→Prop:=fun B=>∀v∈vs,kJ v≠some B
theorem a9i(os:List Ob)(B:Nat):nb (os.map (·.v)) B↔¬pX os B:=by
 unfold nb pX
 constructor
 ·rintro h⟨o,ho,hb⟩
  exact h o.v (eO ho) hb
 ·intro h v hv hb
  obtain⟨o,ho,rfl⟩:=dD.1 hv
  exact h ⟨o,ho,hb⟩
theorem St.kept{B:Base}{H':Heap}{os os':List Ob}(hS:St P B H' os')(hB:B=⟨H,pX os⟩):Kept H (nb (os.map (·.v))) H' (nb (os'.map (·.v))):=by
 subst hB
 intro B hX hB
 rw[a9i]at hX ⊢
 exact⟨hS.old B hB hX,fun⟨o,ho,hb⟩=>by
  rcases hS.new o ho B hb with h|h
  ·have h:H.length≤B:=h
   omega
  ·exact hX h⟩
theorem St.aK{H0:Base}{H':Heap}{os:List Ob}(hS:St P H0 H os):Kept H' (fun B=>H.length≤B) H' (nb (os.map (·.v))):=by
 intro B hX hB
 rw[a9i]
 exact⟨rfl,fun⟨o,ho,hb⟩=>by
  have:=(hS.own o ho).lt hb
  omega⟩
theorem Kept.trans{H' H'':Heap}{X Y Z:Nat→Prop}(h:Kept H X H' Y)(h':Kept H' Y H'' Z)(hl:H.length≤H'.length):Kept H X H'' Z:=
 fun B hX hB=>by
  obtain⟨e,hY⟩:=h B hX hB
  obtain⟨e',hZ⟩:=h' B hY (dQ hB hl)
  exact⟨e'.trans e,hZ⟩
theorem Slx.any(h:Slx n cel H X v xs):Slx n cel H (fun _=>True) v xs:=⟨h.1,fun _ _=>trivial⟩
theorem St.cW{H0:Base}{os os':List Ob}(hS:St P H0 H os)(i:Nat){m:Nat}(ho:os[i]? =some ⟨v,m+1,xs.flatMap cel⟩)(hc:∀x,(cel x).length=m+1)(idx:List Nat)(hi:i∉idx)(h:idx.map (os[·]?)=os'.map some):
 Slx (m+1) cel H (nb (os'.map (·.v))) v xs:=by
 refine⟨hS.av i ho hc,fun B hb=> ?_⟩
 rw[a9i]
 rintro⟨o,hmem,hob⟩
 have:some o∈idx.map (os[·]?):=by rw[h];exact eO hmem
 obtain⟨j,hj,hj2⟩:=dD.1 this
 have hne:i≠j:=fun e=>hi (e▸hj)
 have hpw:=ec.1 hS.sep
 obtain⟨hi1,ei⟩:=dy.1 ho
 obtain⟨hj1,ej⟩:=dy.1 hj2
 rcases fJ hne with hh|hh
 ·have:=hpw i j hi1 hj1 hh B (by rw[ei];exact hb)
  rw[ej]at this
  exact this hob
 ·have:=hpw j i hj1 hi1 hh B (by rw[ej];exact hob)
  rw[ei]at this
  exact this hb
theorem St.ct{H0:Heap}{os:List Ob}(hS:St P H0 H os)(i:Nat){m:Nat}(ho:os[i]? =some ⟨v,m+1,xs.flatMap cel⟩)(hc:∀x,(cel x).length=m+1):Slx (m+1) cel H (fun B=>H0.length≤B) v xs:=
 ⟨hS.av i ho hc,fun B hb=>by
  rcases hS.new _ (dW ho) B hb with h|h
  ·exact h
  ·exact h.elim⟩
def Seg.Ix(H:Heap)(X:Nat→Prop)(s:Seg):Prop:=Slx 2 Drw.cells H X s.dv s.draws∧s.draws.length<1000000000
def Stp.Ix(H:Heap)(X:Nat→Prop)(s:Stp):Prop:=Slx 3 Seg.cells H X s.gv s.segs∧(∀g∈s.segs,g.Ix H X)∧s.segs.length<1000000000
def Dvn.Ix(H:Heap)(X:Nat→Prop)(d:Dvn):Prop:=Slx 4 Stp.cells H X d.sv d.stops∧(∀s∈d.stops,s.Ix H X)∧d.stops.length<1000000000
def Rk.Ix(H:Heap)(X:Nat→Prop)(r:Rk):Prop:=Slx 1 (one I) H X r.wv r.wind∧r.wind.length<1000000000
section
variable {H':Heap}
theorem Seg.Ix.step{s:Seg}(h:s.Ix H X)(hk:Kept H X H' Y):s.Ix H' Y:=⟨h.1.step hk,h.2⟩
theorem Stp.Ix.step{s:Stp}(h:s.Ix H X)(hk:Kept H X H' Y):s.Ix H' Y:=⟨h.1.step hk,fun g hg=>(h.2.1 g hg).step hk,h.2.2⟩
theorem Dvn.Ix.step{d:Dvn}(h:d.Ix H X)(hk:Kept H X H' Y):d.Ix H' Y:=⟨h.1.step hk,fun g hg=>(h.2.1 g hg).step hk,h.2.2⟩
theorem Rk.Ix.step{r:Rk}(h:r.Ix H X)(hk:Kept H X H' Y):r.Ix H' Y:=⟨h.1.step hk,h.2⟩
theorem Seg.Ix.in{s:Seg}(h:s.Ix H X):s.In H:=⟨h.1.1,h.2⟩
theorem Stp.Ix.in{s:Stp}(h:s.Ix H X):s.In H:=⟨h.1.1,fun g hg=>(h.2.1 g hg).in,h.2.2⟩
theorem Dvn.Ix.in{d:Dvn}(h:d.Ix H X):d.In H:=⟨h.1.1,fun g hg=>(h.2.1 g hg).in,h.2.2⟩
theorem Rk.Ix.in{r:Rk}(h:r.Ix H X):r.In H:=⟨h.1.1,h.2⟩
end
theorem a1N{α:Type}(f:α→Value)(l:List α):l.flatMap (one f)=l.map f:=by
 induction l with
 | nil=>rfl
 | cons a l ih=>rw[dM,ih];rfl
end Go.Ds
namespace Go.Ds
open Go.Proofs
theorem a9C(m:Nat)(n s:Int)(h0:0≤n)(h1:n<m)(h2: -127≤s)(h3:s≤127):lJ m [⟨n,s⟩]=0:=by
 rw[lJ,if_neg (by simp)]
 refine kT _ _ fun j hj=> ?_
 have hj0:j=0:=by simpa using hj
 subst hj0
 have e:iD ([⟨n,s⟩]:List Drw) 0=⟨n,s⟩:=rfl
 unfold kO
 rw[e,if_neg (by simp only;omega),if_neg (by simp only;omega),if_neg (by simp)]
theorem c0k(m:Nat)(n s t:Int)(h0:0≤n)(h1:n<m)(h2: -127≤s)(h3:s≤127)(h4: -127≤t)(h5:t≤127)(hne:s≠t):lJ m [⟨n,s⟩,⟨n,t⟩]=0:=by
 rw[lJ,if_neg (by simp)]
 refine kT _ _ fun j hj=> ?_
 have hj0:j=0∨j=1:=by
  have:j<2:=by simpa using hj
  omega
 rcases hj0 with rfl|rfl
 ·have e:iD ([⟨n,s⟩,⟨n,t⟩]:List Drw) 0=⟨n,s⟩:=rfl
  unfold kO
  rw[e,if_neg (by simp only;omega),if_neg (by simp only;omega),if_neg (by simp)]
 ·have e:iD ([⟨n,s⟩,⟨n,t⟩]:List Drw) 1=⟨n,t⟩:=rfl
  unfold kO
  rw[e,if_neg (by simp only;omega),if_neg (by simp only;omega),if_neg (by simp[eG hne])]
theorem a7F(lo hi a b:Int)(m:Nat)(dv:Value)(ds:List Drw)(h1:lo≤a)(h2:a≤b)(h3:b≤hi)(hd:lJ m ds=0):lO (lA lo hi m [⟨a,b,dv,ds⟩]) 1=0:=by
 refine kT _ _ fun j hj=> ?_
 have hj0:j=0:=by omega
 subst hj0
 have e:iD ([⟨a,b,dv,ds⟩]:List Seg) 0=⟨a,b,dv,ds⟩:=rfl
 unfold lA
 rw[e,if_neg (by simp only;omega),if_neg (by simp only;omega)]
 exact hd
theorem b9O(lo hi c:Int)(m:Nat)(dv dv':Value)(ds ds':List Drw)(h1:lo<c)(h2:c≤hi)(hd:lJ m ds=0)(hd':lJ m ds'=0):lO (lA lo hi m [⟨lo,c-1,dv,ds⟩,⟨c,hi,dv',ds'⟩]) 2=0:=by
 refine kT _ _ fun j hj=> ?_
 have e0:iD ([⟨lo,c-1,dv,ds⟩,⟨c,hi,dv',ds'⟩]:List Seg) 0=⟨lo,c-1,dv,ds⟩:=rfl
 have e1:iD ([⟨lo,c-1,dv,ds⟩,⟨c,hi,dv',ds'⟩]:List Seg) 1=⟨c,hi,dv',ds'⟩:=rfl
 have hj0:j=0∨j=1:=by omega
 rcases hj0 with rfl|rfl
 ·unfold lA
  rw[e0,if_neg (by simp only;omega),if_neg (by simp only;omega)]
  exact hd
 ·unfold lA
  rw[e1,show(1:Nat)-1=0 from rfl,e0,if_neg (by simp only;omega),if_neg (by simp only;omega)]
  exact hd'
def nm(c:UInt8)(i:Nat):ByteArray:=⟨#[c,UInt8.ofNat (48+i)]⟩
theorem a5D{c:UInt8}{i j:Nat}(hi:i<10)(hj:j<10)(h:nm c i=nm c j):i=j:=by
 unfold nm at h
 have h2:(#[c,UInt8.ofNat (48+i)]:Array UInt8)=#[c,UInt8.ofNat (48+j)]:=congrArg ByteArray.data h
 have h3:UInt8.ofNat (48+i)=UInt8.ofNat (48+j):=by simpa using h2
 have h4:=congrArg UInt8.toNat h3
 simp only[UInt8.toNat_ofNat']at h4
 omega
theorem a1d{c:UInt8}(hc:c=82∨c=68∨c=83∨c=67){i:Nat}(hi:i<10):kX (nm c i)=true:=by
 have h:i=0∨i=1∨i=2∨i=3∨i=4∨i=5∨i=6∨i=7∨i=8∨i=9:=by omega
 rcases hc with rfl|rfl|rfl|rfl<;>rcases h with rfl|rfl|rfl|rfl|rfl|rfl|rfl|rfl|rfl|rfl<;>decide
structure StpOk(m:Nat)(lo hi:Int)(i:Nat)(s:Stp):Prop where
 name:s.name=nm 83 i
 feet:(s.num,s.den)∈lD
 pos:0<s.segs.length
 len:s.segs.length≤2
 segs:lO (lA lo hi m s.segs) s.segs.length=0
theorem b4p{p:Int×Int}(h:p∈lD):nE p.1 p.2=0:=by
 have:lD.all (fun p=>decide (nE p.1 p.2=0))=true:=by decide
 exact of_decide_eq_true (dx.1 this p h)
theorem b3Y{p:Int×Int}(h:p∈lY):nE p.1 p.2=0:=by
 have:lY.all (fun p=>decide (nE p.1 p.2=0))=true:=by decide
 exact of_decide_eq_true (dx.1 this p h)
theorem StpOk.stopE{rs:List Rk}{lo hi:Int}{i:Nat}{s:Stp}(h:StpOk rs.length lo hi i s)(hi10:i<10)(hp:tD rs lo hi=0):stopE rs lo hi s=0:=by
 unfold Go.Ds.stopE
 rw[if_neg (by rw[hp];simp),if_neg (by rw[h.name,a1d (by simp) hi10];simp),if_neg (by rw[b4p h.feet];simp),if_neg (by have:=h.pos;omega),if_neg (by have:=h.len;omega)]
 exact h.segs
structure RkOk(i:Nat)(r:Rk):Prop where
 name:r.name=nm 82 i
 tone:r.tone∈tT
 feet:(r.num,r.den)∈lY
 first: -128≤r.first∧r.first<128
 pos:0<r.wind.length
 len:r.wind.length≤25
 wind:∀x∈r.wind,0≤x∧x<256
theorem b4a{s:ByteArray}(h:s∈tT):kX s=true:=by
 have:tT.all (fun s=>kX s)=true:=by decide
 exact dx.1 this s h
theorem RkOk.rankE{i:Nat}{r:Rk}(h:RkOk i r)(hi:i<10):rankE r=0:=by
 have hf:=h.first
 have hp:=h.pos
 have hl:=h.len
 have hw:a0m r.wind=0:=by
  unfold a0m
  rw[if_neg]
  intro hh
  rw[gI]at hh
  obtain⟨x,hx,hp⟩:=hh
  have:=h.wind x hx
  simp only[eB,decide_eq_true_eq]at hp
  omega
 unfold Go.Ds.rankE
 rw[if_neg (by rw[h.name,a1d (by simp) hi,b4a h.tone];simp),if_neg (by rw[b3Y h.feet];simp),if_neg (by omega),if_neg (by omega),if_neg (by omega),hw]
theorem a1i{lo hi:Int}(h0:0≤lo)(h1:lo≤hi)(h2:hi≤127):sE lo hi=0:=by
 unfold sE
 rw[if_neg (by omega),if_neg (by omega)]
theorem c0z{rs:List Rk}{lo hi:Int}(hl:rs.length≤3)(hr:∀j,j<rs.length→RkOk j (iD rs j))(h0:0≤lo)(h1:lo≤hi)(h2:hi≤127):tD rs lo hi=0:=by
 have e:=kT (fun j=>Go.Ds.rankE (iD rs j)) rs.length fun j hj=>(hr j hj).rankE (by omega)
 unfold tD
 rw[if_neg (by omega),if_neg (by rw[e];simp)]
 exact a1i h0 h1 h2
structure DvOk(m i:Nat)(d:Dvn):Prop where
 name:d.name=nm 68 i
 lo:36≤d.lo
 le:d.lo≤d.hi
 hi:d.hi≤60
 wide:d.hi≤d.lo+8
 len:d.stops.length≤3
 stops:∀k,k<d.stops.length→StpOk m d.lo d.hi k (iD d.stops k)
structure CpOk(n i:Nat)(c:Cpl):Prop where
 name:c.name=nm 67 i
 src:0≤c.src∧c.src<n
 dst:0≤c.dst∧c.dst<n
 shift: -24≤c.shift∧c.shift≤24
 ne:¬(c.src=c.dst∧c.shift=0)
def b5D:ByteArray:=⟨#[79,114,103,97,110]⟩
structure OrgOk(o:Org):Prop where
 name:o.name=b5D
 rpos:0<o.ranks.length
 rlen:o.ranks.length≤3
 ranks:∀j,j<o.ranks.length→RkOk j (iD o.ranks j)
 dpos:0<o.dvs.length
 dlen:o.dvs.length≤3
 dvs:∀j,j<o.dvs.length→DvOk o.ranks.length j (iD o.dvs j)
 clen:o.cpls.length≤3
 cpls:∀j,j<o.cpls.length→CpOk o.dvs.length j (iD o.cpls j)
theorem b1Y:kX b5D=true:=by decide
theorem DvOk.divE{rs:List Rk}{i:Nat}{d:Dvn}(h:DvOk rs.length i d)(hl:rs.length≤3)(hr:∀j,j<rs.length→RkOk j (iD rs j)):divE rs d=0:=by
 have h1:=h.lo
 have h2:=h.le
 have h3:=h.hi
 have h4:=h.len
 unfold Go.Ds.divE
 rw[if_neg (by rw[a1i (by omega) h2 (by omega)];simp),if_neg (by omega)]
 refine kT _ _ fun j hj=> ?_
 have hs:=h.stops j hj
 unfold pI
 rw[if_neg (by rw[hs.stopE (by omega) (c0z hl hr (by omega) h2 (by omega))];simp),if_neg]
 rintro⟨q,hq,e⟩
 rw[hs.name,(h.stops q (by omega)).name]at e
 have:=a5D (by omega) (by omega) e
 omega
theorem OrgOk.organE{o:Org}(h:OrgOk o):organE o=0:=by
 have h1:=h.rpos
 have h2:=h.rlen
 have h3:=h.dpos
 have h4:=h.dlen
 have h5:=h.clen
 have e1:lO (nU o.ranks) o.ranks.length=0:=kT _ _ fun j hj=>by
  unfold nU
  rw[if_neg (by rw[(h.ranks j hj).rankE (by omega)];simp),if_neg]
  rintro⟨q,hq,e⟩
  rw[(h.ranks j hj).name,(h.ranks q (by omega)).name]at e
  have:=a5D (by omega) (by omega) e
  omega
 have e2:lO (tV o.ranks o.dvs) o.dvs.length=0:=kT _ _ fun j hj=>by
  unfold tV
  rw[if_neg (by rw[(h.dvs j hj).name,a1d (by simp) (by omega)];simp),if_neg]
  ·exact(h.dvs j hj).divE h2 h.ranks
  rintro⟨q,hq,e⟩
  rw[(h.dvs j hj).name,(h.dvs q (by omega)).name]at e
  have:=a5D (by omega) (by omega) e
  omega
 have e3:tK (kps o.dvs) o.cpls=0:=by
  have hk:(kps o.dvs).length=o.dvs.length:=by simp[kps]
  unfold tK
  rw[if_neg (by omega),if_neg]
  ·refine kT _ _ fun j hj=> ?_
   have hc:=h.cpls j hj
   have c1:=hc.src
   have c2:=hc.dst
   have c3:=hc.shift
   unfold mV
   simp only
   rw[if_neg (by rw[hc.name,a1d (by simp) (by omega)];simp),if_neg,if_neg (by rw[hk];omega),if_neg (by omega),if_neg hc.ne]
   rintro⟨q,hq,e⟩
   rw[hc.name,(h.cpls q (by omega)).name]at e
   have:=a5D (by omega) (by omega) e
   omega
  ·rintro⟨k,hk,hne⟩
   unfold kps at hk
   obtain⟨d,hd,rfl⟩:=dD.1 hk
   obtain⟨j,hj,rfl⟩:=dT.1 hd
   have hd:=h.dvs j hj
   rw[jP o.dvs j hj]at hd
   have h1:=hd.lo
   have h2:=hd.le
   have h3:=hd.hi
   exact hne (a1i (by omega) h2 (by omega))
 unfold Go.Ds.organE
 rw[if_neg (by rw[h.name,b1Y];simp),if_neg (by omega),if_neg (by rw[e1];simp),if_neg (by omega),if_neg (by omega),if_neg (by rw[e2];simp)]
 exact e3
def jT(x:Int×Int):List Value:=[I x.1,I x.2]
def pr(l:List (Int×Int)):List Value:=l.flatMap jT
theorem jG(x:Int×Int):(jT x).length=2:=rfl
theorem iL(l:List (Int×Int)):(pr l).length=l.length*2:=iI jG l
def le2(x y:Int×Int):Bool:=decide (x.1<y.1)||(decide (x.1=y.1)&&decide (x.2≤y.2))
theorem rF(x y:Int×Int):le2 x y=true↔x.1<y.1∨(x.1=y.1∧x.2≤y.2):=by
 unfold le2
 simp only[eB,de,decide_eq_true_eq]
def wQ(es:List (Int×Int)):List (Int×Int):=es.mergeSort le2
theorem pN(es:List (Int×Int)):(wQ es).Perm es:=List.mergeSort_perm _ _
theorem pG(es:List (Int×Int)):(wQ es).length=es.length:=(pN es).length_eq
theorem a8Q(es:List (Int×Int)):(wQ es).Pairwise fun a b=>le2 a b=true:=by
 unfold wQ
 refine List.pairwise_mergeSort ?_ ?_ _
 ·intro a b c h1 h2
  rw[rF]at*
  omega
 ·intro a b
  rw[eB,rF,rF]
  omega
def cf2(x y:Int×Int):Int:=if x.1<y.1 then -1 else if y.1<x.1 then 1 else if x.2<y.2 then -1 else if y.2<x.2 then 1 else 0
def ddN{α:Type}[Inhabited α][DecidableEq α](es:List α)(m:Nat):List α:=((List.range m).filter fun i=>decide (i=0∨iD es i≠iD es (i-1))).map fun i=>iD es i
def dd{α:Type}[Inhabited α][DecidableEq α](es:List α):List α:=ddN es es.length
section
variable {α:Type} [Inhabited α] [DecidableEq α]
theorem tW(es:List α)(m:Nat):ddN es (m+1)=ddN es m++(if m=0∨iD es m≠iD es (m-1)then[iD es m]else[]):=by
 unfold ddN
 rw[eu,dZ,dO]
 congr 1
 by_cases h:m=0∨iD es m≠iD es (m-1)
 ·rw[if_pos h]
  simp only[fV,ga,decide_eq_true h,if_true,dU,fq]
 ·rw[if_neg h]
  simp only[fV,ga,decide_eq_false h,dR,if_false,fq]
theorem c1s(es:List α)(m:Nat):(ddN es m).length≤m:=by
 unfold ddN
 rw[dB]
 refine dL (eh _ _) ?_
 simp
theorem lU(es:List α)(m:Nat)(h:m<es.length):es.take (m+1)=es.take m++[iD es m]:=by
 rw[jP es m h,List.take_succ_eq_append_getElem h]
theorem tC(es:List α):∀m,m≤es.length→(∀j,0<j→j<m→iD es j≠iD es (j-1))→ddN es m=es.take m
 | 0,_,_=>by simp[ddN]
 | m+1,hm,h=>by
   have ih:=tC es m (by omega) fun j h1 h2=>h j h1 (by omega)
   rw[tW,ih,lU es m (by omega),if_pos]
   by_cases h0:m=0
   ·exact .inl h0
   ·exact .inr (h m (by omega) (by omega))
end
theorem sI{v:Value}{n lo k b:Nat}(h:kJ (lB v n lo k)=some b):kJ v=some b:=by
 unfold lB at h
 split at h<;>exact h
theorem kC(a b:List (Int×Int)):pr (a++b)=pr a++pr b:=dE
structure Reg where
 stops:List Nat
 cpl:Nat
 off:Nat
 deriving Inhabited,DecidableEq
def u64(n:Nat):Value:=.int .u64 n
def Reg.cells(r:Reg)(sv:Value):List Value:=[sv,u64 r.cpl,u64 r.off]
def Reg.Ok(r:Reg):Prop:=r.stops.length<1000000000∧(∀x∈r.stops,x<18446744073709551616)∧r.cpl<18446744073709551616∧r.off<18446744073709551616
def Reg.In(H:Heap)(r:Reg)(sv:Value):Prop:=Sl 1 (one u64) H sv r.stops∧r.Ok
theorem Reg.In.ae{P:Program}{H H0:Heap}{os:List Ob}{r:Reg}{sv:Value}(h:r.In H0 sv)(hS:St P H0 H os):r.In H sv:=⟨hS.sl h.1,h.2⟩
abbrev Ct:=Int×Int
abbrev vW(n:Int):Int:=IntKind.wrap .i64 n
def tF(o:Org)(c:Ct):Bool:=decide (0≤c.1)&&decide (c.1<o.dvs.length)&&decide ((iD o.dvs c.1.toNat).lo≤c.2)&&decide (c.2≤(iD o.dvs c.1.toNat).hi)
def a0G(o:Org)(c:Ct):Int:=if c.1<0∨o.dvs.length≤c.1 then 10 else if c.2<(iD o.dvs c.1.toNat).lo∨(iD o.dvs c.1.toNat).hi<c.2 then 23 else 0
theorem uE(o:Org)(c:Ct):a0G o c=0↔tF o c=true:=by
 unfold a0G tF
 by_cases h1:c.1<0∨o.dvs.length≤c.1
 ·rw[if_pos h1]
  simp
  omega
 ·rw[if_neg h1]
  by_cases h2:c.2<(iD o.dvs c.1.toNat).lo∨(iD o.dvs c.1.toNat).hi<c.2
  ·rw[if_pos h2]
   simp
   omega
  ·rw[if_neg h2]
   simp
   omega
def to1(x:Cpl)(c:Ct):Ct:=(x.dst,vW (c.2+x.shift))
def a0W(cp:Nat)(thr:Bool)(c:Ct)(x:Cpl)(i:Nat):Bool:=cp.testBit i&&decide (x.src=c.1)&&(!thr||x.thr)
def step1(o:Org)(cp:Nat)(thr:Bool)(c:Ct)(q:List Ct)(i:Nat):List Ct:=
 if a0W cp thr c (iD o.cpls i) i&&tF o (to1 (iD o.cpls i) c)&& !decide (to1 (iD o.cpls i) c∈q)then q++[to1 (iD o.cpls i) c]else q
def stepN(o:Org)(cp:Nat)(thr:Bool)(c:Ct)(q:List Ct)(n:Nat):List Ct:=(List.range n).foldl (step1 o cp thr c) q
def stepF(o:Org)(cp:Nat)(thr:Bool)(c:Ct)(q:List Ct):List Ct:=stepN o cp thr c q o.cpls.length
theorem nS(o:Org)(cp:Nat)(thr:Bool)(c:Ct)(q:List Ct)(n:Nat):stepN o cp thr c q (n+1)=step1 o cp thr c (stepN o cp thr c q n) n:=by
 unfold stepN
 rw[eu,gF]
 rfl
def Que(o:Org)(q:List Ct):Prop:=q.Nodup∧∀c∈q,tF o c=true
theorem Que.nil(o:Org):Que o []:=⟨.nil,by simp⟩
theorem Que.step1{o:Org}{q:List Ct}(h:Que o q)(cp:Nat)(thr:Bool)(c:Ct)(i:Nat):Que o (step1 o cp thr c q i):=by
 unfold Go.Ds.step1
 split
 ·rename_i hh
  simp only[de,dK,decide_eq_false_iff_not]at hh
  refine⟨?_,?_⟩
  ·rw[List.nodup_append]
   exact⟨h.1,by simp,fun a ha b hb e=>hh.2 (by simp at hb;rw[←hb,←e];exact ha)⟩
  ·intro x hx
   rcases dH.1 hx with hx|hx
   ·exact h.2 x hx
   ·simp at hx
    rw[hx]
    exact hh.1.2
 ·exact h
theorem Que.stepN{o:Org}{q:List Ct}(h:Que o q)(cp:Nat)(thr:Bool)(c:Ct):∀n,Que o (stepN o cp thr c q n)
 | 0=>h
 | n+1=>by rw[nS];exact(h.stepN cp thr c n).step1 cp thr c n
theorem Que.stepF{o:Org}{q:List Ct}(h:Que o q)(cp:Nat)(thr:Bool)(c:Ct):Que o (stepF o cp thr c q):=h.stepN cp thr c _
theorem a7Z:∀(N:Nat)(l:List Nat),l.Nodup→(∀i∈l,i<N)→l.length≤N
 | 0,l,hn,h=>by
   cases l with
   | nil=>simp
   | cons a l=>exact absurd (h a (by simp)) (dJ _)
 | N+1,l,hn,h=>by
   have h1:(l.erase N).length≤N:=by
    refine a7Z N _ (hn.erase N) fun i hi=> ?_
    have h2:=(List.Nodup.mem_erase_iff hn).1 hi
    have:=h i h2.2
    omega
   rw[List.length_erase]at h1
   split at h1<;>omega
theorem vQ{f:Nat→Int}{n:Nat}(h:lO f n=0):∀j,j<n→f j=0:=by
 intro j hj
 unfold lO at h
 cases hf:(List.range n).find? (fun j=>decide (f j≠0))with
 | some i=>
   rw[hf]at h
   have:=List.find?_some hf
   simp only[decide_eq_true_eq]at this
   exact absurd h this
 | none=>
   rw[gr]at hf
   have:=hf j (dz.2 hj)
   simpa using this
structure Org.Fine(o:Org):Prop where
 dpos:0<o.dvs.length
 dlen:o.dvs.length≤8
 rlen:o.ranks.length≤60
 keys:∀j,j<o.dvs.length→0≤(iD o.dvs j).lo∧(iD o.dvs j).lo≤(iD o.dvs j).hi∧(iD o.dvs j).hi≤127
 stops:∀j,j<o.dvs.length→(iD o.dvs j).stops.length≤60
 clen:o.cpls.length≤40
 draws:∀j,j<o.dvs.length→∀s∈(iD o.dvs j).stops,∀g∈s.segs,g.draws.length≤8
theorem Org.bL{o:Org}(h:organE o=0):o.Fine:=by
 unfold organE at h
 split at h
 ·omega
 split at h
 ·omega
 rename_i _ h2
 split at h
 ·rename_i hh;exact absurd h hh
 split at h
 ·omega
 rename_i h4
 split at h
 ·omega
 rename_i h5
 split at h
 ·rename_i hh;exact absurd h hh
 rename_i h6
 have h6:=dN.1 h6
 have hd:∀j,j<o.dvs.length→(0≤(iD o.dvs j).lo∧(iD o.dvs j).lo≤(iD o.dvs j).hi∧(iD o.dvs j).hi≤127)∧(iD o.dvs j).stops.length≤60∧∀s∈(iD o.dvs j).stops,∀g∈s.segs,g.draws.length≤8:=by
  intro j hj
  have e:=vQ h6 j hj
  unfold tV at e
  split at e
  ·omega
  split at e
  ·omega
  unfold divE at e
  split at e
  ·rename_i hh;exact absurd e hh
  rename_i hc
  have hc:=dN.1 hc
  split at e
  ·omega
  unfold sE at hc
  split at hc
  ·omega
  split at hc
  ·omega
  refine⟨by omega,by omega,fun s hs g hg=> ?_⟩
  obtain⟨k,hk,rfl⟩:=dT.1 hs
  obtain⟨i,hi,rfl⟩:=dT.1 hg
  have e2:=vQ e k hk
  unfold pI at e2
  rw[jP _ k hk]at e2
  split at e2
  ·rename_i hh;exact absurd e2 hh
  rename_i e3
  have e3:=dN.1 e3
  unfold stopE at e3
  split at e3
  ·rename_i hh;exact absurd e3 hh
  split at e3
  ·omega
  split at e3
  ·rename_i hh;exact absurd e3 hh
  split at e3
  ·omega
  split at e3
  ·omega
  have e4:=vQ e3 i hi
  unfold lA at e4
  rw[jP _ i hi]at e4
  split at e4
  ·omega
  split at e4
  ·omega
  unfold lJ at e4
  split at e4
  ·omega
  omega
 refine⟨by omega,by omega,by omega,fun j hj=>(hd j hj).1,fun j hj=>(hd j hj).2.1,?_,fun j hj=>(hd j hj).2.2⟩
 unfold tK at h
 split at h<;>omega
theorem uA(o:Org)(c:Ct):tF o c=true↔0≤c.1∧c.1<o.dvs.length∧(iD o.dvs c.1.toNat).lo≤c.2∧c.2≤(iD o.dvs c.1.toNat).hi:=by
 unfold tF
 simp only[de,decide_eq_true_eq,and_assoc]
theorem a1m{o:Org}(ho:o.Fine){c:Ct}(h:tF o c=true):0≤c.1∧c.1<8∧0≤c.2∧c.2≤127:=by
 have h:=(uA o c).1 h
 have hk:=ho.keys c.1.toNat (by omega)
 have:=ho.dlen
 omega
theorem Que.len{o:Org}{q:List Ct}(h:Que o q)(ho:o.Fine):q.length≤1024:=by
 have h1:=a7Z 1024 (q.map fun c=>c.1.toNat*128+c.2.toNat) ?_ ?_
 ·simpa using h1
 ·unfold List.Nodup
  rw[List.pairwise_map]
  refine List.Pairwise.imp_of_mem (fun{a b}ha hb hne e=>hne ?_) h.1
  have h1:=a1m ho (h.2 a ha)
  have h2:=a1m ho (h.2 b hb)
  apply ir<;>omega
 ·intro i hi
  obtain⟨c,hc,rfl⟩:=dD.1 hi
  have h1:=a1m ho (h.2 c hc)
  omega
def bfs(o:Org)(cp:Nat):Nat→Nat→List Ct→List Ct
 | 0,_,q=>q
 | n+1,i,q=>if i<q.length then bfs o cp n (i+1) (stepF o cp true (iD q i) q)else q
def oQ(o:Org)(cp:Nat)(l:List Ct):List Ct:=l.foldl (fun q c=>stepF o cp false c q) []
def uW(o:Org)(r:Reg)(l:List Ct):List Ct:=dd (wQ (l.filter (fun c=> !r.off.testBit c.1.toNat)++bfs o r.cpl 1100 0 (oQ o r.cpl l)))
def pR(rs:List Rk)(d:Drw)(key:Int):Ct:=if d.rank<0∨rs.length≤d.rank then(0,0)else(d.rank,vW (vW (key+d.shift)-(iD rs d.rank.toNat).first))
def zO(rs:List Rk)(d:Drw)(key:Int):Bool:= !decide (d.rank<0∨rs.length≤d.rank)&&decide (0≤(pR rs d key).2)&&decide ((pR rs d key).2<(iD rs d.rank.toNat).wind.length)
def b0c(s:Stp)(key:Int)(j:Nat):Bool:=decide ((iD s.segs j).lo≤key)&&decide (key≤(iD s.segs j).hi)
def a8V(s:Stp)(key:Int):List Drw:=if lT (b0c s key) s.segs.length<0 then[]else(iD s.segs (lT (b0c s key) s.segs.length).toNat).draws
def sL(rs:List Rk)(s:Stp)(key:Int):List Ct:=dd (wQ (((a8V s key).filter fun d=>zO rs d key).map fun d=>pR rs d key))
def rA(o:Org)(r:Reg)(c:Ct):List Ct:=(List.range (iD o.dvs c.1.toNat).stops.length).flatMap fun i=>if(iD r.stops c.1.toNat).testBit i then sL o.ranks (iD (iD o.dvs c.1.toNat).stops i) c.2 else[]
def a5y(o:Org)(r:Reg)(l:List Ct):List Ct:=dd (wQ (l.flatMap (rA o r)))
def xI(o:Org)(r:Reg)(l:List Ct):List Ct:=a5y o r (uW o r l)
end Go.Ds
namespace Go.Ds
open Go.Proofs Go.Proofs.Tryz
variable {H:Heap}
theorem a2N(a b:Nat)(h:a<18446744073709551616):((a:Nat):Int).fdiv (2^min b (IntKind.bits .u64))=((a>>>b:Nat):Int):=by
 have e:IntKind.bits .u64=64:=rfl
 rw[e]
 have h1:((a:Nat):Int).fdiv (2^min b 64)=((a/2^min b 64:Nat):Int):=by
  rw[Int.fdiv_eq_ediv_of_nonneg _ (by exact Int.le_of_lt (Int.pow_pos (by decide)))]
  simp
 rw[h1,fX]
 by_cases hb:b≤64
 ·rw[ft hb]
 ·rw[Nat.min_eq_right (by omega)]
  have h2:a/2^64=0:=Nat.div_eq_of_lt (by simpa using h)
  have h3:a/2^b=0:=Nat.div_eq_of_lt (dQ (by simpa using h) (gf (by decide) (show 64≤b by omega)))
  rw[h2,h3]
theorem a1W(n:Nat)(h:n<18446744073709551616):IntKind.wrap .u64 ((BitVec.ofInt (IntKind.bits .u64) (n:Int)&&&BitVec.ofInt (IntKind.bits .u64) 1).toNat:Int)=((n%2:Nat):Int):=by
 have e:(BitVec.ofInt (IntKind.bits .u64) (n:Int)&&&BitVec.ofInt (IntKind.bits .u64) 1).toNat=n%2:=by
  show(BitVec.ofInt 64 (n:Int)&&&BitVec.ofInt 64 1).toNat=n%2
  rw[BitVec.toNat_and]
  have h1:(BitVec.ofInt 64 (n:Int)).toNat=n:=by
   rw[gG,BitVec.toNat_ofNat]
   exact gm (by simpa using h)
  have h2:(BitVec.ofInt 64 1).toNat=1:=rfl
  rw[h1,h2,Nat.and_one_is_mod]
 rw[e]
 have:n%2<2:=eY _ (by decide)
 have hh:n%2=0∨n%2=1:=by omega
 rcases hh with h|h<;>rw[h]<;>rfl
theorem tb(a i:Nat):a.testBit i=decide (a>>>i%2=1):=by
 rw[Nat.testBit_eq_decide_div_mod_eq,fX]
theorem wU{a:Nat}(b:Nat)(h:a<18446744073709551616):a>>>b<18446744073709551616:=by
 rw[fX]
 exact Nat.lt_of_le_of_lt (Nat.div_le_self _ _) h
theorem wP(o:Org)(ho:o.In H)(c:Ct):Fn prog 114 [.agg #[.string o.name,o.rv,o.dv,o.cv],.agg #[I c.1,I c.2]] H fun r H'=>r=I (a0G o c)∧St prog H H' []:=by
 have hl:=ho.2.2.2.2.2.2.1
 refine .aD func114 rfl (by kernel_rfl) (m:=36) rfl fun l hn g0 g1=> ?_
 simp(disch:=omega) only[↓RA,RB,simprocAttr,g0]
 refine(sR H).eNew 4 [(.string o.name),o.rv,o.dv,o.cv] rfl rfl (by simp[OC,((sR H).sl ho.1).cells.2.1,((sR H).sl ho.2.2.1).cells.2.1,((sR H).sl ho.2.2.2.2.1).cells.2.1]) nJ fun A1 H1 hS1=> ?_
 simp only[RT]at hS1
 simp(disch:=omega) only[↓RA,RB,simprocAttr,g1]
 refine hS1.eNew 2 [I c.1,I c.2] rfl rfl rfl qC fun A2 H2 hS2=> ?_
 simp only[RT]at hS2
 simp(disch:=omega) only[↓RA,RZ,simprocAttr,hn,hS2.ld 1 rfl]
 refine iO (fun h1=> ?_) (fun h1=> ?_)
 ·simp(disch:=omega) only[↓RA,RZ,simprocAttr,hn,a6P,h1]
  exact⟨by rw[a0G,if_pos (by omega)],hS2.forget⟩
 simp(disch:=omega) only[↓RA,RZ,simprocAttr,hn,hS2.ld 1 rfl,hS2.ld 0 rfl,(hS2.sl ho.2.2.1).len,h1]
 refine iC (fun h2=> ?_) (fun h2=> ?_)
 ·simp(disch:=omega) only[↓RA,RZ,simprocAttr,hn,a6P,h1,h2]
  exact⟨by rw[a0G,if_pos (by omega)],hS2.forget⟩
 obtain⟨j,hj⟩:∃j:Nat,c.1=j:=⟨c.1.toNat,by omega⟩
 have hc:a0G o c=if c.2<(iD o.dvs j).lo∨(iD o.dvs j).hi<c.2 then 23 else 0:=by
  rw[a0G,if_neg (by omega),hj]
  rfl
 rw[hj]at h1 h2
 simp(disch:=omega) only[↓RA,RZ,simprocAttr,hn,hS2.ld 0 rfl,h1,h2,hj]
 simp(disch:=omega) only[↓RA,RZ,simprocAttr,hn,hS2.ld 1 rfl,(hS2.sl ho.2.2.1).idx,(hS2.sl ho.2.2.1).bd,(hS2.sl ho.2.2.1).cN 2,Dvn.cells,h1,h2,hj]
 refine hS2.eNew 2 [I 0,I 0] rfl rfl rfl a9D fun A3 H3 hS3=> ?_
 simp only[RT]at hS3
 simp(disch:=omega) only[↓RA,RZ,simprocAttr,hn,h1,h2,hj]
 refine hS3.aa 2 rfl [I (iD o.dvs j).lo,I (iD o.dvs j).hi] rfl rfl a9D (by simp) fun H4 hS4=> ?_
 simp only[RT]at hS4
 simp(disch:=omega) only[↓RA,RZ,simprocAttr,hn,hS4.ld 1 rfl,hS4.ld 2 rfl,h1,h2,hj]
 refine iO (fun h3=> ?_) (fun h3=> ?_)
 ·simp(disch:=omega) only[↓RA,RZ,simprocAttr,hn,a6P,h1,h2,hj,h3]
  exact⟨by rw[hc,if_pos (by omega)],hS4.forget⟩
 simp(disch:=omega) only[↓RA,RZ,simprocAttr,hn,hS4.ld 1 rfl,hS4.ld 2 rfl,h1,h2,hj,h3]
 refine iC (fun h4=> ?_) (fun h4=> ?_)
 ·simp(disch:=omega) only[↓RA,RZ,simprocAttr,hn,a6P,h1,h2,hj,h3,h4]
  exact⟨by rw[hc,if_pos (by omega)],hS4.forget⟩
 simp(disch:=omega) only[↓RA,RZ,simprocAttr,hn,a6P,h1,h2,hj,h3,h4]
 exact⟨by rw[hc,if_neg (by omega)],hS4.forget⟩
def mB(o:Org)(r:Reg):Int:=if organE o≠0 then organE o else if r.stops.length≠o.dvs.length then 5 else if ∃j,j<o.dvs.length∧iD r.stops j>>>(iD o.dvs j).stops.length≠0 then 3 else if r.cpl>>>o.cpls.length≠0∨r.off>>>o.dvs.length≠0 then 3 else 0
theorem b5y(o:Org)(ho:o.In H)(r:Reg)(sv:Value)(hr:r.In H sv):Fn prog 74 [.agg #[.string o.name,o.rv,o.dv,o.cv],.agg #[sv,.int .u64 r.cpl,.int .u64 r.off]] H fun v H'=>v=I (mB o r)∧St prog H H' []:=by
 have hl:=ho.2.2.2.2.2.2.1
 have hlc:=ho.2.2.2.2.2.2.2
 obtain⟨hr1,hr2,hr3,hr4,hr5⟩:=hr
 refine .aD func74 rfl (by kernel_rfl) (m:=55) rfl fun l hn g0 g1=> ?_
 simp(disch:=omega) only[↓RA,RB,simprocAttr,g0]
 refine(sR H).eNew 4 [(.string o.name),o.rv,o.dv,o.cv] rfl rfl (by simp[OC,((sR H).sl ho.1).cells.2.1,((sR H).sl ho.2.2.1).cells.2.1,((sR H).sl ho.2.2.2.2.1).cells.2.1]) nJ fun A1 H1 hS1=> ?_
 simp only[RT]at hS1
 simp(disch:=omega) only[↓RA,RB,simprocAttr,g1]
 refine hS1.eNew 3 [sv,(.int .u64 r.cpl),(.int .u64 r.off)] rfl rfl (by simp[OC,(hS1.sl hr1).cells.2.1]) mQ fun A2 H2 hS2=> ?_
 simp only[RT]at hS2
 simp(disch:=omega) only[↓RA,RZ,simprocAttr,hn,hS2.aj 0 rfl]
 refine hS2.cF (a1S o (ho.ae hS2)) fun H3 hS3=> ?_
 simp(disch:=omega) only[↓RA,RB,simprocAttr,hn]
 refine iC (fun h1=> ?_) (fun h1=> ?_)
 ·simp(disch:=omega) only[↓RA,RZ,simprocAttr,hn,b2a,h1]
  exact⟨by rw[mB,if_pos h1],hS3.forget⟩
 simp(disch:=omega) only[↓RA,RZ,simprocAttr,hn,hS3.ld 1 rfl,(hS3.sl hr1).len,hS3.ld 0 rfl,(hS3.sl ho.2.2.1).len,h1]
 refine iC (fun h2=> ?_) (fun h2=> ?_)
 ·simp(disch:=omega) only[↓RA,RZ,simprocAttr,hn,b2a,h1,h2]
  exact⟨by rw[mB,if_neg h1,if_pos (by omega)],hS3.forget⟩
 simp(disch:=omega) only[↓RA,RZ,simprocAttr,hn,hS3.ld 0 rfl,(hS3.sl ho.2.2.1).len,h1,h2]
 have hE:mB o r=if ∃j,j<o.dvs.length∧iD r.stops j>>>(iD o.dvs j).stops.length≠0 then 3 else if r.cpl>>>o.cpls.length≠0∨r.off>>>o.dvs.length≠0 then 3 else 0:=by rw[mB,if_neg h1,if_neg (by omega)]
 refine Wp.aq (fun n l H'=>l.length=55∧get l 2=(ptr A1 0 4)∧get l 3=(ptr A2 0 3)∧get l 21=o.dv∧get l 22=I o.dvs.length∧∃(j:Nat),(n+j=o.dvs.length∧∀q,q<j→iD r.stops q>>>(iD o.dvs q).stops.length=0)∧get l 23=I j∧St prog H H' [⟨ptr A1 0 4,0,[(.string o.name),o.rv,o.dv,o.cv]⟩,⟨ptr A2 0 3,0,[sv,(.int .u64 r.cpl),(.int .u64 r.off)]⟩]) o.dvs.length ?_ ?_
 ·simp(disch:=omega) only[RB,RC,simprocAttr,hn]
  exact⟨0,⟨by omega,fun q hq=>absurd hq (dJ _)⟩,rfl,hS3⟩
 rintro n l H4⟨hn,g2,g3,g21,g22,j,⟨hj,hz⟩,g23,hS4⟩
 have e1:=a2N r.cpl o.cpls.length hr4
 have e2:=a2N r.off o.dvs.length hr5
 simp(disch:=omega) only[↓RA,RB,simprocAttr,hn,g22,g23]
 refine iC (fun q1=> ?_) (fun q1=> ?_)
 ·have hst:=(ho.2.2.2.1 _ (iG (xs:=o.dvs) (j:=j) (by omega))).2.2
  have e3:=a2N (iD r.stops j) (iD o.dvs j).stops.length (hr3 _ (iG (by omega)))
  simp(disch:=omega) only[↓RA,RZ,simprocAttr,hn,g21,g23,(hS4.sl ho.2.2.1).idx,(hS4.sl ho.2.2.1).aj,Dvn.cells,q1]
  refine hS4.eNew 5 [(.string ⟨#[]⟩),(.bool false),I 0,I 0,(.slice none 0 0)] rfl rfl rfl a3h fun A3 H5 hS5=> ?_
  simp only[RT]at hS5
  simp(disch:=omega) only[↓RA,RZ,simprocAttr,hn,q1]
  refine hS5.aa 2 rfl [(.string (iD o.dvs j).name),(.bool (iD o.dvs j).pedal),I (iD o.dvs j).lo,I (iD o.dvs j).hi,(iD o.dvs j).sv] rfl (by simp[OC,(hS5.sl (ho.2.2.2.1 (iD o.dvs j) (iG (by omega))).1).cells.2.1]) a3h (by simp) fun H6 hS6=> ?_
  simp only[RT]at hS6
  simp(disch:=omega) only[↓RA,RZ,simprocAttr,q1]
  refine Wp.drw kG (by kernel_rfl) ?_
  simp(disch:=omega) only[↓RA,RZ,simprocAttr,hn,g3,hS6.ld 1 rfl,(hS6.sl hr1).idx,(hS6.sl hr1).ld,one,u64,hS6.ld 2 rfl,(hS6.sl (ho.2.2.2.1 (iD o.dvs j) (iG (by omega))).1).len,e3]
  refine iC (fun q2=> ?_) (fun q2=> ?_)
  ·simp(disch:=omega) only[↓RA,RZ,simprocAttr,hn,b2a,q2]
   exact⟨by rw[hE,if_pos ⟨j,by omega,by omega⟩],hS6.forget⟩
  simp(disch:=omega) only[↓RA,RZ,simprocAttr,hn,g2,g3,g21,g22,g23,q2]
  exact⟨n-1,by omega,j+1,⟨by omega,fun q hq=>by rcases dw.1 hq with e|e;(· exact hz q e);(· rw[e];omega)⟩,by simp,hS6.sub (by simp)⟩
 simp(disch:=omega) only[↓RA,RZ,simprocAttr,hn,g2,g3,hS4.ld 1 rfl,hS4.ld 0 rfl,(hS4.sl ho.2.2.2.2.1).len,q1,e1]
 have hno:¬∃j,j<o.dvs.length∧iD r.stops j>>>(iD o.dvs j).stops.length≠0:=by
  rintro⟨q,hq,hne⟩
  exact hne (hz q (by omega))
 rw[if_neg hno]at hE
 clear hno
 refine iO (fun q3=> ?_) (fun q3=> ?_)
 ·simp(disch:=omega) only[↓RA,RZ,simprocAttr,hn,b2a,q1,q3]
  exact⟨by rw[hE,if_pos (by omega)],hS4.forget⟩
 simp(disch:=omega) only[↓RA,RZ,simprocAttr,hn,g2,g3,hS4.ld 1 rfl,hS4.ld 0 rfl,(hS4.sl ho.2.2.1).len,q1,e2,q3]
 refine iC (fun q4=> ?_) (fun q4=> ?_)
 ·simp(disch:=omega) only[↓RA,RZ,simprocAttr,hn,b2a,q1,q3,q4]
  exact⟨by rw[hE,if_pos (by omega)],hS4.forget⟩
 simp(disch:=omega) only[↓RA,RZ,simprocAttr,hn,b2a,q1,q3,q4]
 exact⟨by rw[hE,if_neg (by omega)],hS4.forget⟩
def uX(o:Org)(b:Nat→Nat):Reg:=⟨(List.range o.dvs.length).map fun i=>b (i%3)%2^(iD o.dvs i).stops.length,b 3%2^o.cpls.length,b 4%2^o.dvs.length⟩
theorem a5E(n:Nat)(h:n<18446744073709551616):(BitVec.ofInt (IntKind.bits .u64) (n:Int)).toNat=n:=by
 show(BitVec.ofInt 64 (n:Int)).toNat=n
 rw[gG,BitVec.toNat_ofNat]
 exact gm (by simpa using h)
theorem b4O(b n:Nat)(h:n≤8)(hb:b<256):IntKind.wrap .u64 ((BitVec.ofInt (IntKind.bits .u64) (b:Int)&&&BitVec.ofInt (IntKind.bits .u64) (IntKind.wrap .u64 (IntKind.wrap .u64 (1*2^min n (IntKind.bits .u64))-1))).toNat:Int)=((b%2^n:Nat):Int):=by
 have key:IntKind.wrap .u64 (IntKind.wrap .u64 (1*2^min n (IntKind.bits .u64))-1)=((2^n-1:Nat):Int):=by
  have:n=0∨n=1∨n=2∨n=3∨n=4∨n=5∨n=6∨n=7∨n=8:=by omega
  rcases this with rfl|rfl|rfl|rfl|rfl|rfl|rfl|rfl|rfl<;>rfl
 have hp:2^n≤2^8:=gf (by decide) h
 have e8:2^8=256:=rfl
 rw[key,BitVec.toNat_and,a5E b (by omega),a5E _ (by omega),Nat.and_two_pow_sub_one_eq_mod]
 have:b%2^n≤b:=Nat.mod_le _ _
 exact rU _ (by omega) (by omega)
theorem b1N{o:Org}(b:Nat→Nat)(ho:organE o=0):mB o (uX o b)=0:=by
 have hz:∀x n:Nat,(x%2^n)>>>n=0:=fun x n=>by
  rw[fX]
  exact Nat.div_eq_of_lt (eY _ (Nat.two_pow_pos n))
 unfold mB uX
 rw[if_neg (by rw[ho];simp),if_neg (by simp),if_neg,if_neg (by simp only[hz];simp)]
 rintro⟨j,hj,hne⟩
 simp only at hne
 rw[jP _ j (by simpa using hj)]at hne
 simp only[iB,gY,hz,ne_eq,not_true_eq_false]at hne
theorem a8B(o:Org)(ho:o.In H)(h1:o.cpls.length≤3)(h2:o.dvs.length≤3)(h3:∀j,j<o.dvs.length→(iD o.dvs j).stops.length≤3)(b:Nat→Nat)(hb:∀i,b i<256):
 Fn prog 9 [.agg #[.string o.name,o.rv,o.dv,o.cv],.agg #[.int .u8 (b 0),.int .u8 (b 1),.int .u8 (b 2),.int .u8 (b 3),.int .u8 (b 4)]] H fun r H'=>
  ∃sv,r=.agg #[sv,.int .u64 (uX o b).cpl,.int .u64 (uX o b).off]∧St prog H H' [⟨sv,1,((uX o b).stops).flatMap (one u64)⟩]:=by
 have k0:=hb 0
 have k1:=hb 1
 have k2:=hb 2
 have k3:=hb 3
 have k4:=hb 4
 refine .aD func9 rfl (by kernel_rfl) (m:=57) rfl fun l hn g0 g1=> ?_
 simp(disch:=omega) only[↓RA,RB,simprocAttr,g0]
 refine(sR H).eNew 4 [(.string o.name),o.rv,o.dv,o.cv] rfl rfl (by simp[OC,((sR H).sl ho.1).cells.2.1,((sR H).sl ho.2.2.1).cells.2.1,((sR H).sl ho.2.2.2.2.1).cells.2.1]) nJ fun A1 H1 hS1=> ?_
 simp only[RT]at hS1
 simp(disch:=omega) only[↓RA,RB,simprocAttr,g1]
 refine hS1.eNew 5 [(.int .u8 (b 0)),(.int .u8 (b 1)),(.int .u8 (b 2)),(.int .u8 (b 3)),(.int .u8 (b 4))] rfl rfl rfl c1y fun A2 H2 hS2=> ?_
 simp only[RT]at hS2
 simp(disch:=omega) only[↓RA,RZ,simprocAttr]
 refine hS2.eNew 3 [(.slice none 0 0),(.int .u64 0),(.int .u64 0)] rfl rfl rfl mQ fun A3 H3 hS3=> ?_
 simp only[RT]at hS3
 simp(disch:=omega) only[↓RA,RZ,simprocAttr,hn,hS3.ld 1 rfl,hS3.ld 0 rfl,(hS3.sl ho.2.2.2.2.1).len,(hS3.sl ho.2.2.1).len,b4S]
 refine hS3.eNew 3 [(.slice none 0 0),(.int .u64 0),(.int .u64 0)] rfl rfl rfl mQ fun A4 H4 hS4=> ?_
 simp only[RT]at hS4
 simp(disch:=omega) only[↓RA,RB,simprocAttr,hn]
 refine hS4.aa 3 rfl [(.slice none 0 0),_,_] rfl rfl mQ (by simp) fun H5 hS5=> ?_
 simp only[RT]at hS5
 simp(disch:=omega) only[↓RA,RB,simprocAttr]
 have m1:=b4O (b 3) o.cpls.length (by omega) (hb 3)
 have m2:=b4O (b 4) o.dvs.length (by omega) (hb 4)
 have hS6:=hS5.nil 0
 simp only[RT]at hS6
 simp only[m1,m2]at hS6
 refine Wp.aq (fun n l H'=>l.length=57∧get l 2=(ptr A1 0 4)∧get l 3=(ptr A2 0 5)∧get l 4=(ptr A3 0 3)∧get l 5=(ptr A4 0 3)∧∃(i:Nat)(sv:Value),(n+i=o.dvs.length)∧get l 6=I i∧St prog H H' [⟨ptr A1 0 4,0,[(.string o.name),o.rv,o.dv,o.cv]⟩,⟨ptr A2 0 5,0,[(.int .u8 (b 0)),(.int .u8 (b 1)),(.int .u8 (b 2)),(.int .u8 (b 3)),(.int .u8 (b 4))]⟩,⟨ptr A3 0 3,0,[(.slice none 0 0),(.int .u64 0),(.int .u64 0)]⟩,⟨ptr A4 0 3,0,[sv,.int .u64 (b 3%2^o.cpls.length:Nat),.int .u64 (b 4%2^o.dvs.length:Nat)]⟩,⟨sv,1,((List.range i).map fun i=>b (i%3)%2^(iD o.dvs i).stops.length).flatMap (one u64)⟩]) o.dvs.length ?_ ?_
 ·simp(disch:=omega) only[RB,RC,simprocAttr,hn]
  exact⟨0,_,by omega,rfl,hS6⟩
 rintro n l H6⟨hn,g2,g3,g4,g5,i,sv,hi,g6,hS7⟩
 simp(disch:=omega) only[↓RA,RZ,simprocAttr,hn,g2,g6,hS7.ld 0 rfl,(hS7.sl ho.2.2.1).len]
 refine iC (fun q=> ?_) (fun q=> ?_)
 ·have hi3:(i:Int).tmod 3=((i%3:Nat):Int):=(eL i 3).symm
  have hw:([Value.int .u8 (b 0),.int .u8 (b 1),.int .u8 (b 2),.int .u8 (b 3),.int .u8 (b 4)]:List Value)[i%3]? =some (.int .u8 (b (i%3))):=by
   have:i%3=0∨i%3=1∨i%3=2:=by omega
   rcases this with e|e|e<;>rw[e]<;>rfl
  have hst:=h3 i (by omega)
  have hbi:=hb (i%3)
  have m3:=b4O (b (i%3)) (iD o.dvs i).stops.length (by omega) (hb _)
  simp(disch:=omega) only[↓RA,RC,simprocAttr,q]
  refine Wp.aS kG [(1,19)] (by kernel_rfl) (by kernel_rfl) ?_
  simp(disch:=omega) only[↓RA,RZ,simprocAttr,hn,g2,g3,g5,g6,hS7.ld 3 rfl,hS7.ld 1 rfl,hw,hS7.ld 0 rfl,(hS7.sl ho.2.2.1).idx,(hS7.sl ho.2.2.1).bd,(hS7.sl ho.2.2.1).ld,Dvn.cells,(hS7.sl (ho.2.2.2.1 (iD o.dvs i) (iG (by omega))).1).len,hi3,m3]
  refine hS7.ai [_] a9Z b7i rfl rfl (by simp[Value.cells]) rfl rfl (by decide) (by decide) fun w1 H7 hS8=> ?_
  simp only[RT]at hS8
  simp(disch:=omega) only[↓RA,RZ,simprocAttr,hn]
  refine hS8.al 4 rfl (hS8.rd 5 rfl) a9Z (by rw[iI (n:=1) (cel:=one u64) (fun _=>rfl)];simp;omega) fun w2 H8 hS9=> ?_
  simp only[RT]at hS9
  simp(disch:=omega) only[↓RA,RZ,simprocAttr,hn,g5]
  refine hS9.aa 3 rfl [w2] (by rw[(hS9.rd 4 rfl).cells.1]) (by simp[(hS9.rd 4 rfl).cells.2.1]) b7P (by simp) fun H9 hS10=> ?_
  simp only[RT]at hS10
  simp(disch:=omega) only[↓RA,RZ,simprocAttr,hn,g2,g3,g4,g5,g6,hS8.ld 3 rfl]
  refine⟨n-1,by omega,i+1,w2,by omega,rfl,?_⟩
  rw[eu,dO,dE]
  exact hS10.pick [0,1,2,3,4] (by decide) rfl
 simp(disch:=omega) only[↓RA,RZ,simprocAttr,hn,g4,g5,hS7.aj 3 rfl,q]
 refine hS7.aa 2 rfl [sv,(.int .u64 (b 3%2^o.cpls.length:Nat)),(.int .u64 (b 4%2^o.dvs.length:Nat))] rfl (by simp[OC,(hS7.rd 4 rfl).cells.2.1]) mQ (by simp) fun H10 hS11=> ?_
 simp only[RT]at hS11
 simp(disch:=omega) only[↓RA,RZ,simprocAttr,g4,tR9,hS11.aj 2 rfl,q]
 have hii:i=o.dvs.length:=by omega
 subst hii
 exact⟨sv,rfl,hS11.pick [4] (by decide) rfl⟩
end Go.Ds
namespace Go.Ds
open Go.Proofs Go.Proofs.Tryz
variable {H:Heap}
set_option maxRecDepth 10000
theorem RdAt.sub_self{v:Value}{size n:Nat}{cs:List Value}(h:RdAt H v (size+1) cs)(hn:cs.length=n*(size+1)):lB v (size+1) 0 n=v:=by
 rcases h with⟨rfl,_⟩|⟨A,i,e,row,ty,rw,lo,ver,m,_,_,_,_,_,h6,rfl⟩
 ·rfl
 ·have:m=n:=fD (fL size) (h6.symm.trans hn)
  subst this
  simp[lB]
theorem uD{v:Value}{xs:List (Int×Int)}{rest:List Value}(h:RdAt H v 2 (pr xs++rest)):RdAt H (lB v 2 0 xs.length) 2 (pr xs):=by
 by_cases h0:pr xs++rest=[]
 ·have hx:xs.length=0:=by
   have:=congrArg List.length h0
   rw[dr,iL,eP]at this
   omega
  have e:=RdAt.sub_self (size:=1) (n:=0) h (by rw[h0];rfl)
  obtain rfl:=fx.1 hx
  show RdAt H (lB v 2 0 0) 2 []
  rw[show lB v 2 0 0=v from e]
  rwa [h0]at h
 ·have h5:=RdAt.sub h 0 xs.length (by rw[dr,iL];omega) h0
  rw[Nat.zero_mul,im,show xs.length*2=(pr xs).length from(iL xs).symm,List.take_left' rfl]at h5
  exact h5
theorem vR{H0:Heap}{v:Value}{xs:List (Int×Int)}{rest:List Value}(h:St prog H0 H [⟨v,2,pr xs++rest⟩]):Slx 2 jT H (fun B=>H0.length≤B) (lB v 2 0 xs.length) xs:=by
 refine⟨⟨uD (h.rd 0 rfl),jG,by decide⟩,fun b hb=> ?_⟩
 rcases h.new _ (dY ..) b (sI hb)with h|h
 ·exact h
 ·exact h.elim
theorem c1b:a3K prog 50=some (1+1):=by kernel_rfl
theorem c2r:a3K prog 57=some (1+1):=by kernel_rfl
theorem a5F{B:Base}{v:Value}{es:List (Int×Int)}(hS:St prog B H [⟨v,2,pr es⟩])(hl:es.length<100000000000):
 Fn prog 118 [v] H fun r H'=>∃rest:List Value,r=lB v 2 0 (dd es).length∧St prog B H' [⟨v,2,pr (dd es)++rest⟩]:=by
 refine .aW func118 rfl (by kernel_rfl) (m:=61) rfl fun l hn g0=> ?_
 simp(disch:=omega) only[↓RA,RZ,simprocAttr,hn,g0,(hS.av 0 rfl (fun _=>rfl)).len]
 refine iC (fun h=> ?_) (fun h=> ?_)
 ·have hd:=tC es es.length (dj _) fun j h1 h2=>by omega
  rw[eE]at hd
  simp(disch:=omega) only[↓RA,RZ,simprocAttr,hn,g0,b3L,h]
  exact⟨[],by unfold dd;rw[hd];exact(RdAt.sub_self (size:=1) (hS.rd 0 rfl) (iL es)).symm,by unfold dd;rw[hd,dm];exact hS⟩
 simp(disch:=omega) only[↓RA,RZ,simprocAttr,h]
 refine Wp.aq (fun n l H'=>l.length=61∧get l 0=v∧∃(k:Nat),(0<k∧n+k=es.length∧∀j,0<j→j<k→iD es j≠iD es (j-1))∧get l 3=I k∧St prog B H' [⟨v,2,pr es⟩]) (es.length-1) ?_ ?_
 ·simp(disch:=omega) only[RB,RC,simprocAttr,hn,g0]
  exact⟨1,⟨by omega,by omega,fun j h1 h2=>by omega⟩,rfl,hS⟩
 rintro n l H1⟨hn,g0,k,⟨hk0,hk,hdis⟩,g3,hS1⟩
 simp(disch:=omega) only[↓RA,RZ,simprocAttr,hn,g0,g3,(hS1.av 0 rfl (fun _=>rfl)).len]
 refine iC (fun h2=> ?_) (fun h2=> ?_)
 ·have hkl:k<es.length:=by omega
  have hpre:(k:Int)-1=((k-1:Nat):Int):=by omega
  simp(disch:=omega) only[↓RA,RC,simprocAttr,h2]
  refine Wp.drw kG (by kernel_rfl) ?_
  simp(disch:=omega) only[↓RA,RZ,simprocAttr,hn,g0,g3,(hS1.av 0 rfl (fun _=>rfl)).idx,(hS1.av 0 rfl (fun _=>rfl)).aj,jT,hpre]
  refine iC (fun h3=> ?_) (fun h3=> ?_)
  ·have h3:iD es k=iD es (k-1):=ir h3.1 h3.2
   have hlen:(pr es).length=es.length*(1+1):=iL es
   have hpos:0<es.length:=by omega
   have hdk:=tC es k (by omega) hdis
   have hdk1:ddN es (k+1)=es.take k:=by rw[tW,hdk,if_neg (by rintro(h4|h4);omega;exact h4 h3),dm]
   have hrow:St prog B H1 [⟨v,2,pr (ddN es (k+1)++es.drop k)⟩]:=by rw[hdk1,fI];exact hS1
   have hdl:(ddN es (k+1)).length=k:=by rw[hdk1,eW];omega
   simp(disch:=omega) only[↓RA,RZ,simprocAttr,hn,g0,g3,(hS1.av 0 rfl (fun _=>rfl)).aM,h3]
   refine Wp.aq (fun n l H'=>l.length=61∧get l 0=v∧∃k2:Nat,(0<k2∧n+k+k2=es.length∧(ddN es (k+k2)).length<k+k2)∧get l 3=I (ddN es (k+k2)).length∧get l 4=lB v 2 k (es.length-k)∧get l 5=I k2∧St prog B H' [⟨v,2,pr (ddN es (k+k2)++es.drop (ddN es (k+k2)).length)⟩]) (es.length-k-1) ?_ ?_
   ·simp(disch:=omega) only[RB,RC,simprocAttr,hn,g0,g3]
    refine⟨1,⟨by omega,by omega,by omega⟩,by rw[hdl],by congr 1;omega,rfl,?_⟩
    rw[hdl]
    exact hrow
   clear hrow hdk hdk1 hdl hdis
   rintro n l H9⟨hn,g0,k2,⟨hk20,hk2,hlt⟩,g3,g4,g5,hS9⟩
   have hsucc:=tW es (k+k2)
   generalize hD:ddN es (k+k2)=D at g3 hlt hS9 hsucc
   have hrl:(D++es.drop D.length).length=es.length:=by rw[dr,eF];omega
   have hv:Sl 2 jT H9 v (D++es.drop D.length):=hS9.av 0 rfl jG
   have hat:∀j,D.length≤j→iD (D++es.drop D.length) j=iD es j:=fun j hj=>by
    unfold iD
    rw[dh,ek hj,dI,dh]
    congr 2;omega
   have hsub:Sl 2 jT H9 (lB v 2 k ((D++es.drop D.length).length-k)) ((D++es.drop D.length).drop k):=hv.cG k (by omega) (by omega)
   rw[hrl]at hsub
   have hsl:((D++es.drop D.length).drop k).length=es.length-k:=by rw[eF,hrl]
   have hsat:∀j,D.length≤k+j→iD ((D++es.drop D.length).drop k) j=iD es (k+j):=fun j hj=>by
    rw[←hat (k+j) hj]
    unfold iD
    rw[dh,dI,dh]
   have hbd:((es.length-k:Nat):Int)=(es.length:Int)-k:=by omega
   simp(disch:=omega) only[↓RA,RZ,simprocAttr,hn,g4,g5,hsub.len,hsl,hbd]
   refine iC (fun h4=> ?_) (fun h4=> ?_)
   ·have hj:k+k2<es.length:=by omega
    have hpre2:(k2:Int)-1=((k2-1:Nat):Int):=by omega
    have e1:=hsat k2 (by omega)
    have e2:=hsat (k2-1) (by omega)
    rw[show k+(k2-1)=k+k2-1 from by omega]at e2
    simp(disch:=omega) only[↓RA,RC,simprocAttr,h4]
    refine Wp.drw kG (by kernel_rfl) ?_
    simp(disch:=omega) only[↓RA,RZ,simprocAttr,hn,g4,g5,hsub.idx,hsub.aj,jT,hpre2,e1,e2]
    refine iC (fun h5=> ?_) (fun h5=> ?_)
    ·have hne:iD es (k+k2)≠iD es (k+k2-1):=fun e=>h5 (by rw[e];exact⟨rfl,rfl⟩)
     rw[if_pos (.inr hne)]at hsucc
     simp(disch:=omega) only[↓RA,RZ,simprocAttr,hn,g0,g3,g4,g5,hsub.idx,hsub.aj,jT,e1,h5]
     simp(disch:=omega) only[↓RA,RZ,simprocAttr,hn,(hS9.av 0 rfl (fun _=>rfl)).idx,h5]
     refine hS9.aR 0 rfl [I (iD es (k+k2)).1,I (iD es (k+k2)).2] rfl rfl qC (by simp) (by rw[iL,hrl];simp;omega) fun H2 hS2=> ?_
     simp only[RT]at hS2
     simp(disch:=omega) only[↓RA,RZ,simprocAttr,hn,g0,g3,g4,g5,h5]
     refine⟨n-1,by omega,k2+1,?_⟩
     rw[show k+(k2+1)=k+k2+1 from by omega,hsucc]
     refine⟨⟨by omega,by omega,by simp;omega⟩,by simp,by simp,?_⟩
     have e3:pr (D++[iD es (k+k2)]++es.drop (D++[iD es (k+k2)]).length)=((pr (D++es.drop D.length)).set (D.length*2) (I (iD es (k+k2)).1)).set (D.length*2+1) (I (iD es (k+k2)).2):=by
      have hx:es.drop D.length=iD es D.length::es.drop (D.length+1):=by
       rw[jP es _ (by omega)]
       exact eU (by omega)
      rw[hx,dr,fW,kC,kC,kC]
      have e4:pr (iD es D.length::es.drop (D.length+1))=I (iD es D.length).1::I (iD es D.length).2::pr (es.drop (D.length+1)):=rfl
      have e5:pr [iD es (k+k2)]=[I (iD es (k+k2)).1,I (iD es (k+k2)).2]:=rfl
      have e6:(pr D).length=D.length*2:=iL D
      rw[e4,e5,eI _ _ (by omega),eI _ _ (by omega),e6,il,fT]
      simp
     rw[e3]
     exact hS2
    have heq:iD es (k+k2)=iD es (k+k2-1):=by
     have h6:=dN.1 h5
     exact ir h6.1 h6.2
    rw[if_neg (by rintro(h6|h6);omega;exact h6 heq),dm]at hsucc
    simp(disch:=omega) only[↓RA,RZ,simprocAttr,hn,g0,g3,g4,g5,h5]
    refine⟨n-1,by omega,k2+1,?_⟩
    rw[show k+(k2+1)=k+k2+1 from by omega,hsucc]
    exact⟨⟨by omega,by omega,by omega⟩,rfl,by simp,hS9⟩
   have hke:k+k2=es.length:=by omega
   rw[hke]at hD
   have hcl:(pr (D++es.drop D.length)).length=es.length*(1+1):=by rw[iL,hrl]
   have hDn:D.length≤es.length:=by omega
   simp(disch:=omega) only[↓RA,RZ,simprocAttr,hn,g0,g3,(hS9.av 0 rfl (fun _=>rfl)).aM,h4]
   rw[show(((D++es.drop D.length).length:Int)-D.length).toNat=es.length-D.length from by rw[hrl];omega]
   refine hS9.bq (size:=1) 0 rfl D.length (es.length-D.length) (by rw[hcl];omega) (by
    intro e
    have h2:(pr (D++es.drop D.length)).length=0:=by rw[e];rfl
    rw[iL,hrl]at h2;omega) c1b fun z H3 hz hSc=> ?_
   simp only[RT]at hSc
   have e3:iZ (pr (D++es.drop D.length)) (D.length*2) z=pr D++z:=by
    rw[kC,show D.length*2=(pr D).length from(iL D).symm,mG z (pr D) (pr (es.drop D.length)) (by rw[iL,eF];omega)]
    rw[gu (by rw[iL,eF];omega),dm]
   rw[show D.length*(1+1)=D.length*2 from rfl,e3]at hSc
   have hw:RdAt H3 v (1+1) (pr D++z):=hSc.rd 0 rfl
   have hwl:(pr D++z).length=es.length*(1+1):=by rw[dr,iL,hz];omega
   simp(disch:=omega) only[↓RA,RZ,simprocAttr,hn,g0,g3,hw.aN hwl,b3L,h4]
   exact⟨z,by unfold dd;rw[hD],by unfold dd;rw[hD];exact hSc⟩
  have hne:iD es k≠iD es (k-1):=fun e=>h3 (by rw[e];exact⟨rfl,rfl⟩)
  simp(disch:=omega) only[↓RA,RZ,simprocAttr,hn,g0,g3,h3]
  refine⟨n-1,by omega,k+1,⟨by omega,by omega,fun j h4 h5=> ?_⟩,by simp,hS1⟩
  by_cases e:j=k
  ·rw[e];exact hne
  ·exact hdis j h4 (by omega)
 have hke:k=es.length:=by omega
 have hd:=tC es es.length (dj _) (hke▸hdis)
 rw[eE]at hd
 simp(disch:=omega) only[↓RA,RZ,simprocAttr,hn,g0,b3L,h2]
 exact⟨[],by unfold dd;rw[hd];exact(RdAt.sub_self (size:=1) (hS.rd 0 rfl) (iL es)).symm,by unfold dd;rw[hd,dm];exact hS1⟩
theorem a5Y{B:Base}{v:Value}{es:List (Int×Int)}(hS:St prog B H [⟨v,2,pr es⟩])(hl:es.length<100000000000):
 Fn prog 118 [v] H fun r H'=>∃rest:List Value,(∀b,kJ r=some b→kJ v=some b)∧(∀H2,RdAt H2 v 2 (pr (dd es)++rest)→RdAt H2 r 2 (pr (dd es)))∧St prog B H' [⟨v,2,pr (dd es)++rest⟩]:=
 (a5F hS hl).mono fun _ _⟨rest,e,h⟩=>⟨rest,fun _ h=>sI (e▸h),fun _ h=>e▸uD h,h⟩
theorem zA{B:Base}{v:Value}{es:List (Int×Int)}(hS:St prog B H [⟨v,2,pr es⟩])(hl:es.length<100000000000):
 Fn prog 57 [v] H fun r H'=>∃rest:List Value,r=lB v 2 0 (dd es).length∧St prog B H' [⟨v,2,pr (dd es)++rest⟩]:=by
 refine .aW func57 rfl (by kernel_rfl) (m:=61) rfl fun l hn g0=> ?_
 simp(disch:=omega) only[↓RA,RZ,simprocAttr,hn,g0,(hS.av 0 rfl (fun _=>rfl)).len]
 refine iC (fun h=> ?_) (fun h=> ?_)
 ·have hd:=tC es es.length (dj _) fun j h1 h2=>by omega
  rw[eE]at hd
  simp(disch:=omega) only[↓RA,RZ,simprocAttr,hn,g0,c0w,h]
  exact⟨[],by unfold dd;rw[hd];exact(RdAt.sub_self (size:=1) (hS.rd 0 rfl) (iL es)).symm,by unfold dd;rw[hd,dm];exact hS⟩
 simp(disch:=omega) only[↓RA,RZ,simprocAttr,h]
 refine Wp.aq (fun n l H'=>l.length=61∧get l 0=v∧∃(k:Nat),(0<k∧n+k=es.length∧∀j,0<j→j<k→iD es j≠iD es (j-1))∧get l 3=I k∧St prog B H' [⟨v,2,pr es⟩]) (es.length-1) ?_ ?_
 ·simp(disch:=omega) only[RB,RC,simprocAttr,hn,g0]
  exact⟨1,⟨by omega,by omega,fun j h1 h2=>by omega⟩,rfl,hS⟩
 rintro n l H1⟨hn,g0,k,⟨hk0,hk,hdis⟩,g3,hS1⟩
 simp(disch:=omega) only[↓RA,RZ,simprocAttr,hn,g0,g3,(hS1.av 0 rfl (fun _=>rfl)).len]
 refine iC (fun h2=> ?_) (fun h2=> ?_)
 ·have hkl:k<es.length:=by omega
  have hpre:(k:Int)-1=((k-1:Nat):Int):=by omega
  simp(disch:=omega) only[↓RA,RC,simprocAttr,h2]
  refine Wp.drw kG (by kernel_rfl) ?_
  simp(disch:=omega) only[↓RA,RZ,simprocAttr,hn,g0,g3,(hS1.av 0 rfl (fun _=>rfl)).idx,(hS1.av 0 rfl (fun _=>rfl)).aj,jT,hpre]
  refine iC (fun h3=> ?_) (fun h3=> ?_)
  ·have h3:iD es k=iD es (k-1):=ir h3.1 h3.2
   have hlen:(pr es).length=es.length*(1+1):=iL es
   have hpos:0<es.length:=by omega
   have hdk:=tC es k (by omega) hdis
   have hdk1:ddN es (k+1)=es.take k:=by rw[tW,hdk,if_neg (by rintro(h4|h4);omega;exact h4 h3),dm]
   have hrow:St prog B H1 [⟨v,2,pr (ddN es (k+1)++es.drop k)⟩]:=by rw[hdk1,fI];exact hS1
   have hdl:(ddN es (k+1)).length=k:=by rw[hdk1,eW];omega
   simp(disch:=omega) only[↓RA,RZ,simprocAttr,hn,g0,g3,(hS1.av 0 rfl (fun _=>rfl)).aM,h3]
   refine Wp.aq (fun n l H'=>l.length=61∧get l 0=v∧∃k2:Nat,(0<k2∧n+k+k2=es.length∧(ddN es (k+k2)).length<k+k2)∧get l 3=I (ddN es (k+k2)).length∧get l 4=lB v 2 k (es.length-k)∧get l 5=I k2∧St prog B H' [⟨v,2,pr (ddN es (k+k2)++es.drop (ddN es (k+k2)).length)⟩]) (es.length-k-1) ?_ ?_
   ·simp(disch:=omega) only[RB,RC,simprocAttr,hn,g0,g3]
    refine⟨1,⟨by omega,by omega,by omega⟩,by rw[hdl],by congr 1;omega,rfl,?_⟩
    rw[hdl]
    exact hrow
   clear hrow hdk hdk1 hdl hdis
   rintro n l H9⟨hn,g0,k2,⟨hk20,hk2,hlt⟩,g3,g4,g5,hS9⟩
   have hsucc:=tW es (k+k2)
   generalize hD:ddN es (k+k2)=D at g3 hlt hS9 hsucc
   have hrl:(D++es.drop D.length).length=es.length:=by rw[dr,eF];omega
   have hv:Sl 2 jT H9 v (D++es.drop D.length):=hS9.av 0 rfl jG
   have hat:∀j,D.length≤j→iD (D++es.drop D.length) j=iD es j:=fun j hj=>by
    unfold iD
    rw[dh,ek hj,dI,dh]
    congr 2;omega
   have hsub:Sl 2 jT H9 (lB v 2 k ((D++es.drop D.length).length-k)) ((D++es.drop D.length).drop k):=hv.cG k (by omega) (by omega)
   rw[hrl]at hsub
   have hsl:((D++es.drop D.length).drop k).length=es.length-k:=by rw[eF,hrl]
   have hsat:∀j,D.length≤k+j→iD ((D++es.drop D.length).drop k) j=iD es (k+j):=fun j hj=>by
    rw[←hat (k+j) hj]
    unfold iD
    rw[dh,dI,dh]
   have hbd:((es.length-k:Nat):Int)=(es.length:Int)-k:=by omega
   simp(disch:=omega) only[↓RA,RZ,simprocAttr,hn,g4,g5,hsub.len,hsl,hbd]
   refine iC (fun h4=> ?_) (fun h4=> ?_)
   ·have hj:k+k2<es.length:=by omega
    have hpre2:(k2:Int)-1=((k2-1:Nat):Int):=by omega
    have e1:=hsat k2 (by omega)
    have e2:=hsat (k2-1) (by omega)
    rw[show k+(k2-1)=k+k2-1 from by omega]at e2
    simp(disch:=omega) only[↓RA,RC,simprocAttr,h4]
    refine Wp.drw kG (by kernel_rfl) ?_
    simp(disch:=omega) only[↓RA,RZ,simprocAttr,hn,g4,g5,hsub.idx,hsub.aj,jT,hpre2,e1,e2]
    refine iC (fun h5=> ?_) (fun h5=> ?_)
    ·have hne:iD es (k+k2)≠iD es (k+k2-1):=fun e=>h5 (by rw[e];exact⟨rfl,rfl⟩)
     rw[if_pos (.inr hne)]at hsucc
     simp(disch:=omega) only[↓RA,RZ,simprocAttr,hn,g0,g3,g4,g5,hsub.idx,hsub.aj,jT,e1,h5]
     simp(disch:=omega) only[↓RA,RZ,simprocAttr,hn,(hS9.av 0 rfl (fun _=>rfl)).idx,h5]
     refine hS9.aR 0 rfl [I (iD es (k+k2)).1,I (iD es (k+k2)).2] rfl rfl zJ (by simp) (by rw[iL,hrl];simp;omega) fun H2 hS2=> ?_
     simp only[RT]at hS2
     simp(disch:=omega) only[↓RA,RZ,simprocAttr,hn,g0,g3,g4,g5,h5]
     refine⟨n-1,by omega,k2+1,?_⟩
     rw[show k+(k2+1)=k+k2+1 from by omega,hsucc]
     refine⟨⟨by omega,by omega,by simp;omega⟩,by simp,by simp,?_⟩
     have e3:pr (D++[iD es (k+k2)]++es.drop (D++[iD es (k+k2)]).length)=((pr (D++es.drop D.length)).set (D.length*2) (I (iD es (k+k2)).1)).set (D.length*2+1) (I (iD es (k+k2)).2):=by
      have hx:es.drop D.length=iD es D.length::es.drop (D.length+1):=by
       rw[jP es _ (by omega)]
       exact eU (by omega)
      rw[hx,dr,fW,kC,kC,kC]
      have e4:pr (iD es D.length::es.drop (D.length+1))=I (iD es D.length).1::I (iD es D.length).2::pr (es.drop (D.length+1)):=rfl
      have e5:pr [iD es (k+k2)]=[I (iD es (k+k2)).1,I (iD es (k+k2)).2]:=rfl
      have e6:(pr D).length=D.length*2:=iL D
      rw[e4,e5,eI _ _ (by omega),eI _ _ (by omega),e6,il,fT]
      simp
     rw[e3]
     exact hS2
    have heq:iD es (k+k2)=iD es (k+k2-1):=by
     have h6:=dN.1 h5
     exact ir h6.1 h6.2
    rw[if_neg (by rintro(h6|h6);omega;exact h6 heq),dm]at hsucc
    simp(disch:=omega) only[↓RA,RZ,simprocAttr,hn,g0,g3,g4,g5,h5]
    refine⟨n-1,by omega,k2+1,?_⟩
    rw[show k+(k2+1)=k+k2+1 from by omega,hsucc]
    exact⟨⟨by omega,by omega,by omega⟩,rfl,by simp,hS9⟩
   have hke:k+k2=es.length:=by omega
   rw[hke]at hD
   have hcl:(pr (D++es.drop D.length)).length=es.length*(1+1):=by rw[iL,hrl]
   have hDn:D.length≤es.length:=by omega
   simp(disch:=omega) only[↓RA,RZ,simprocAttr,hn,g0,g3,(hS9.av 0 rfl (fun _=>rfl)).aM,h4]
   rw[show(((D++es.drop D.length).length:Int)-D.length).toNat=es.length-D.length from by rw[hrl];omega]
   refine hS9.bq (size:=1) 0 rfl D.length (es.length-D.length) (by rw[hcl];omega) (by
    intro e
    have h2:(pr (D++es.drop D.length)).length=0:=by rw[e];rfl
    rw[iL,hrl]at h2;omega) c2r fun z H3 hz hSc=> ?_
   simp only[RT]at hSc
   have e3:iZ (pr (D++es.drop D.length)) (D.length*2) z=pr D++z:=by
    rw[kC,show D.length*2=(pr D).length from(iL D).symm,mG z (pr D) (pr (es.drop D.length)) (by rw[iL,eF];omega)]
    rw[gu (by rw[iL,eF];omega),dm]
   rw[show D.length*(1+1)=D.length*2 from rfl,e3]at hSc
   have hw:RdAt H3 v (1+1) (pr D++z):=hSc.rd 0 rfl
   have hwl:(pr D++z).length=es.length*(1+1):=by rw[dr,iL,hz];omega
   simp(disch:=omega) only[↓RA,RZ,simprocAttr,hn,g0,g3,hw.aN hwl,c0w,h4]
   exact⟨z,by unfold dd;rw[hD],by unfold dd;rw[hD];exact hSc⟩
  have hne:iD es k≠iD es (k-1):=fun e=>h3 (by rw[e];exact⟨rfl,rfl⟩)
  simp(disch:=omega) only[↓RA,RZ,simprocAttr,hn,g0,g3,h3]
  refine⟨n-1,by omega,k+1,⟨by omega,by omega,fun j h4 h5=> ?_⟩,by simp,hS1⟩
  by_cases e:j=k
  ·rw[e];exact hne
  ·exact hdis j h4 (by omega)
 have hke:k=es.length:=by omega
 have hd:=tC es es.length (dj _) (hke▸hdis)
 rw[eE]at hd
 simp(disch:=omega) only[↓RA,RZ,simprocAttr,hn,g0,c0w,h2]
 exact⟨[],by unfold dd;rw[hd];exact(RdAt.sub_self (size:=1) (hS.rd 0 rfl) (iL es)).symm,by unfold dd;rw[hd,dm];exact hS1⟩
theorem a6A{B:Base}{v:Value}{es:List (Int×Int)}(hS:St prog B H [⟨v,2,pr es⟩])(hl:es.length<100000000000):
 Fn prog 57 [v] H fun r H'=>∃rest:List Value,(∀b,kJ r=some b→kJ v=some b)∧(∀H2,RdAt H2 v 2 (pr (dd es)++rest)→RdAt H2 r 2 (pr (dd es)))∧St prog B H' [⟨v,2,pr (dd es)++rest⟩]:=
 (zA hS hl).mono fun _ _⟨rest,e,h⟩=>⟨rest,fun _ h=>sI (e▸h),fun _ h=>e▸uD h,h⟩
end Go.Ds
namespace Go.Ds
open Go.Proofs Go.Proofs.Tryz
variable {H:Heap}
theorem a6t(a:Int):Fn prog 88 [I a] H fun r H'=>r=.bool false∧St prog H H' []:=by
 refine .aW func88 rfl (by kernel_rfl) (m:=6) rfl fun l hn g0=> ?_
 simp(disch:=omega) only[↓RA,RZ,simprocAttr,hn,g0,c5Q]
 exact .refl _ _
def sM(a b:Int):Int:=if a<b then -1 else if b<a then 1 else 0
theorem vD(a b:Int):Fn prog 52 [I a,I b] H fun r H'=>r=I (sM a b)∧St prog H H' []:=by
 refine .aD func52 rfl (by kernel_rfl) (m:=20) rfl fun l hn g0 g1=> ?_
 simp(disch:=omega) only[↓RA,RZ,simprocAttr,hn,g0]
 refine(sR H).cF (a6t _) fun H1 hS1=> ?_
 simp(disch:=omega) only[↓RA,RZ,simprocAttr,hn,g1]
 refine hS1.cF (a6t _) fun H2 hS2=> ?_
 simp(disch:=omega) only[↓RA,RB,simprocAttr,hn,g0,g1]
 refine iC (fun h=> ?_) (fun h=> ?_)
 ·simp(disch:=omega) only[↓RA,RZ,simprocAttr,hn,c1o,h]
  exact⟨by simp[sM,h],hS2⟩
 simp(disch:=omega) only[↓RA,RZ,simprocAttr,hn,g0,g1,h]
 refine iC (fun h2=> ?_) (fun h2=> ?_)
 ·simp(disch:=omega) only[↓RA,RZ,simprocAttr,hn,c1o,h,h2]
  exact⟨by simp[sM,h,h2],hS2⟩
 simp(disch:=omega) only[↓RA,RZ,simprocAttr,hn,c1o,h,h2]
 exact⟨by simp[sM,h,h2],hS2⟩
def orI:List Int→Int
 | []=>0
 | a::l=>if a=0 then orI l else a
theorem a2z(xs:List Int):∀i,i≤xs.length→(∀j,j<i→iD xs j=0)→orI xs=orI (xs.drop i)
 | 0,_,_=>rfl
 | i+1,hi,h=>by
   rw[a2z xs i (by omega) (fun j hj=>h j (by omega)),yT xs i (by omega),orI,if_pos (h i (by omega))]
theorem b5o(v:Value)(xs:List Int)(hv:Sl 1 (one I) H v xs)(hl:xs.length<1000000):Fn prog 161 [v] H fun r H'=>r=I (orI xs)∧St prog H H' []:=by
 refine .aW func161 rfl (by kernel_rfl) (m:=18) rfl fun l hn g0=> ?_
 simp(disch:=omega) only[↓RA,RZ,simprocAttr,hn,g0,((sR H).sl hv).len]
 refine Wp.aq (fun n l H'=>l.length=18∧get l 3=I 0∧get l 6=v∧get l 7=I xs.length∧∃(i:Nat),(n+i=xs.length∧∀j,j<i→iD xs j=0)∧get l 8=I i∧St prog H H' []) xs.length ?_ ?_
 ·simp(disch:=omega) only[RB,RC,simprocAttr,hn]
  exact⟨0,⟨by omega,by simp⟩,rfl,(sR H)⟩
 rintro n l H1⟨hn,g3,g6,g7,i,⟨hi,h0⟩,g8,hS1⟩
 simp(disch:=omega) only[↓RA,RB,simprocAttr,hn,g7,g8]
 refine iC (fun h=> ?_) (fun h=> ?_)
 ·simp(disch:=omega) only[↓RA,RZ,simprocAttr,hn,g3,g6,g8,(hS1.sl hv).idx,(hS1.sl hv).ld,one,h]
  refine iC (fun h2=> ?_) (fun h2=> ?_)
  ·simp(disch:=omega) only[↓RA,RZ,simprocAttr,hn,b9y,h,h2]
   refine⟨?_,hS1⟩
   rw[a2z xs i (by omega) h0,yT xs i (by omega),orI,if_neg h2]
  simp(disch:=omega) only[↓RA,RZ,simprocAttr,hn,g3,g6,g7,g8,h,h2]
  exact⟨n-1,by omega,i+1,⟨by omega,fun j hj=>by by_cases e:j=i;(· subst e;exact dN.1 h2);exact h0 j (by omega)⟩,by simp,hS1⟩
 simp(disch:=omega) only[↓RA,RZ,simprocAttr,hn,g3,b9y,h]
 refine⟨?_,hS1⟩
 rw[a2z xs i (by omega) h0,List.drop_eq_nil_of_le (by omega),orI]
theorem a8h(x y:Int×Int):orI [sM x.1 y.1,sM x.2 y.2]=cf2 x y:=by
 unfold cf2 sM orI orI orI
 split
 ·simp
 ·split
  ·simp
  ·simp
   intro h
   exact h.symm
theorem b7z(x y:Int×Int):Fn prog 117 [.agg #[I x.1,I x.2],.agg #[I y.1,I y.2]] H fun r H'=>r=I (cf2 x y)∧St prog H H' []:=by
 refine .aD func117 rfl (by kernel_rfl) (m:=17) rfl fun l hn g0 g1=> ?_
 simp(disch:=omega) only[↓RA,RB,simprocAttr,g0]
 refine(sR H).eNew 2 [I x.1,I x.2] rfl rfl rfl qC fun A1 H1 hS1=> ?_
 simp only[RT]at hS1
 simp(disch:=omega) only[↓RA,RB,simprocAttr,g1]
 refine hS1.eNew 2 [I y.1,I y.2] rfl rfl rfl qC fun A2 H2 hS2=> ?_
 simp only[RT]at hS2
 simp(disch:=omega) only[↓RA,RB,simprocAttr]
 refine Wp.aS kG [(6,0),(8,0)] (by kernel_rfl) (by kernel_rfl) ?_
 simp(disch:=omega) only[↓RA,RZ,simprocAttr,hn,hS2.ld 0 rfl,hS2.ld 1 rfl]
 refine hS2.cF (vD x.1 y.1) fun H3 hS3=> ?_
 simp(disch:=omega) only[↓RA,RZ,simprocAttr,hn,hS3.ld 0 rfl,hS3.ld 1 rfl]
 refine hS3.cF (vD x.2 y.2) fun H4 hS4=> ?_
 simp(disch:=omega) only[↓RA,RB,simprocAttr,hn]
 refine hS4.ai [I (sM x.1 y.1),I (sM x.2 y.2)] a2O a6u rfl rfl (by simp[Value.cells]) rfl rfl (by decide) (by decide) fun w1 H5 hS5=> ?_
 simp only[RT]at hS5
 simp(disch:=omega) only[↓RA,RZ,simprocAttr,hn]
 refine hS5.cF (b5o w1 [sM x.1 y.1,sM x.2 y.2] (hS5.av 2 rfl (rJ _)) (by simp)) fun H6 hS6=> ?_
 simp(disch:=omega) only[↓RA,RZ,simprocAttr,hn,hS2.ld 0 rfl,hS2.ld 1 rfl,c2Y]
 exact⟨by rw[a8h],hS6.forget⟩
theorem b7m(x y:Int×Int):Fn prog 120 [.agg #[I x.1,I x.2],.agg #[I y.1,I y.2]] H fun r H'=>r=I (cf2 x y)∧St prog H H' []:=by
 refine .aD func120 rfl (by kernel_rfl) (m:=17) rfl fun l hn g0 g1=> ?_
 simp(disch:=omega) only[↓RA,RB,simprocAttr,g0]
 refine(sR H).eNew 2 [I x.1,I x.2] rfl rfl rfl zJ fun A1 H1 hS1=> ?_
 simp only[RT]at hS1
 simp(disch:=omega) only[↓RA,RB,simprocAttr,g1]
 refine hS1.eNew 2 [I y.1,I y.2] rfl rfl rfl zJ fun A2 H2 hS2=> ?_
 simp only[RT]at hS2
 simp(disch:=omega) only[↓RA,RB,simprocAttr]
 refine Wp.aS kG [(6,0),(8,0)] (by kernel_rfl) (by kernel_rfl) ?_
 simp(disch:=omega) only[↓RA,RZ,simprocAttr,hn,hS2.ld 0 rfl,hS2.ld 1 rfl]
 refine hS2.cF (vD x.1 y.1) fun H3 hS3=> ?_
 simp(disch:=omega) only[↓RA,RZ,simprocAttr,hn,hS3.ld 0 rfl,hS3.ld 1 rfl]
 refine hS3.cF (vD x.2 y.2) fun H4 hS4=> ?_
 simp(disch:=omega) only[↓RA,RB,simprocAttr,hn]
 refine hS4.ai [I (sM x.1 y.1),I (sM x.2 y.2)] a2O a6u rfl rfl (by simp[Value.cells]) rfl rfl (by decide) (by decide) fun w1 H5 hS5=> ?_
 simp only[RT]at hS5
 simp(disch:=omega) only[↓RA,RZ,simprocAttr,hn]
 refine hS5.cF (b5o w1 [sM x.1 y.1,sM x.2 y.2] (hS5.av 2 rfl (rJ _)) (by simp)) fun H6 hS6=> ?_
 simp(disch:=omega) only[↓RA,RZ,simprocAttr,hn,hS2.ld 0 rfl,hS2.ld 1 rfl,c2x]
 exact⟨by rw[a8h],hS6.forget⟩
theorem b9r(x y:Int×Int):Fn prog 209 [.agg #[I x.1,I x.2],.agg #[I y.1,I y.2]] H fun r H'=>r=I (cf2 x y)∧St prog H H' []:=by
 refine .aD func209 rfl (by kernel_rfl) (m:=17) rfl fun l hn g0 g1=> ?_
 simp(disch:=omega) only[↓RA,RB,simprocAttr,g0]
 refine(sR H).eNew 2 [I x.1,I x.2] rfl rfl rfl zJ fun A1 H1 hS1=> ?_
 simp only[RT]at hS1
 simp(disch:=omega) only[↓RA,RB,simprocAttr,g1]
 refine hS1.eNew 2 [I y.1,I y.2] rfl rfl rfl zJ fun A2 H2 hS2=> ?_
 simp only[RT]at hS2
 simp(disch:=omega) only[↓RA,RB,simprocAttr]
 refine Wp.aS kG [(6,0),(8,0)] (by kernel_rfl) (by kernel_rfl) ?_
 simp(disch:=omega) only[↓RA,RZ,simprocAttr,hn,hS2.ld 0 rfl,hS2.ld 1 rfl]
 refine hS2.cF (vD x.1 y.1) fun H3 hS3=> ?_
 simp(disch:=omega) only[↓RA,RZ,simprocAttr,hn,hS3.ld 0 rfl,hS3.ld 1 rfl]
 refine hS3.cF (vD x.2 y.2) fun H4 hS4=> ?_
 simp(disch:=omega) only[↓RA,RB,simprocAttr,hn]
 refine hS4.ai [I (sM x.1 y.1),I (sM x.2 y.2)] a2O a6u rfl rfl (by simp[Value.cells]) rfl rfl (by decide) (by decide) fun w1 H5 hS5=> ?_
 simp only[RT]at hS5
 simp(disch:=omega) only[↓RA,RZ,simprocAttr,hn]
 refine hS5.cF (b5o w1 [sM x.1 y.1,sM x.2 y.2] (hS5.av 2 rfl (rJ _)) (by simp)) fun H6 hS6=> ?_
 simp(disch:=omega) only[↓RA,RZ,simprocAttr,hn,hS2.ld 0 rfl,hS2.ld 1 rfl,c2M]
 exact⟨by rw[a8h],hS6.forget⟩
end Go.Ds
namespace Go.Ds
open Go.Proofs
open Go.Shelf Go.RowKit Go.Lib Go.Sort
theorem lt2(x y:Int×Int):ltOf cf2 x y=decide (x.1<y.1∨(x.1=y.1∧x.2<y.2)):=by
 unfold ltOf cf2
 congr 1
 apply propext
 split
 ·omega
 ·split
  ·omega
  ·split
   ·omega
   ·split<;>omega
theorem c2F:SWO (ltOf cf2) where
 irrefl x:=by rw[lt2];simp
 trans x y z h1 h2:=by rw[lt2]at*;simp at*;omega
 ntrans x y z h1 h2:=by rw[lt2]at*;simp at*;omega
theorem c4v(x y:Int×Int)(h1:ltOf cf2 x y=false)(h2:ltOf cf2 y x=false):x=y:=by
 rw[lt2]at*
 simp at h1 h2
 apply ir<;>omega
theorem b4x:(fun x y=> !(ltOf cf2) y x)=le2:=by
 funext x y
 rw[lt2]
 by_cases h:le2 x y=true
 ·rw[h]
  rw[rF]at h
  rw[dK,decide_eq_false_iff_not]
  omega
 ·rw[ey]at h
  rw[h]
  rw[←ey,rF]at h
  rw[Bool.not_eq_false',decide_eq_true_eq]
  omega
def a5C(P:Program)(K kc:FuncId)(sm:Int×Int→Prop):Prop:=∀(kJ off cap:Nat)(d:Array (Int×Int))(w:World),(∀x∈d.toList,sm x)→HoldsK jT 2 w kJ off d→kJ<w.heap.size→d.size<4611686018427387904→
    Calls P K #[.slice (some ⟨kJ,off,none⟩) d.size cap,.func (.func kc) #[] #[]] w fun e w'=>e=.returned (.tuple #[])∧∃n os,w'=sortWorldK jT 2 w kJ off n (d.toList.mergeSort le2).toArray os
def a2p(P:Program)(K:FuncId):Prop:=∀(p:Option Addr)(cap:Nat)(fv:Value)(w:World),Calls P K #[.slice p 0 cap,fv] w fun e w'=>e=.returned (.tuple #[])∧w'=w
theorem b5X{P:Program}{kc:FuncId}{α:Type}[Inhabited α](val:α→Int×Int)(cf:α→α→Int)(hf:∀x y,Fn P kc [.agg #[I (val x).1,I (val x).2],.agg #[I (val y).1,I (val y).2]] .nil fun r H'=>r=I (cf x y)∧St P (.nil:Heap) H' [])(kJ off size:Nat)(w:World):CmpLays P kc #[] (fun x=>jT (val x)) 2 cf kJ off size w:=by
 intro m os dk hdk x y
 generalize sortWorldK (fun x=>jT (val x)) 2 w kJ off m dk os=W
 obtain⟨_,v,H1,h1,hr,_⟩:=hf x y
 have ha:All2 (V (fun _ _=>none)) [.agg #[I (val x).1,I (val x).2],.agg #[I (val y).1,I (val y).2]] (#[.agg #[I (val x).1,I (val x).2],.agg #[I (val y).1,I (val y).2]]:Array Value).toList:=⟨.of_flat rfl,.of_flat rfl,trivial⟩
 have hc:=CallOk.calls (f:=kc) h1 (HRel.none W) ha
 have hargs:(#[.agg (jT (val x)).toArray,.agg (jT (val y)).toArray]++#[]:Array Value)=#[.agg #[I (val x).1,I (val x).2],.agg #[I (val y).1,I (val y).2]]:=rfl
 rw[hargs]
 refine hc.mono ?_
 rintro e w'⟨ρ',v',rfl,hp,hv⟩
 subst hr
 have hfr:∀b,b<W.heap.size→w'.heap[b]? =W.heap[b]?:=fun b hb=>(hp.frame b hb (by rintro⟨A,e,p,kJ,hq,_⟩;cases hq)).1
 refine⟨by rw[hv.ag rfl],w'.drawn-W.drawn,w'.heap.extract W.heap.size w'.heap.size,?_⟩
 have h1:=hp.os
 have h2:=hp.tape
 have h3:=hp.output
 have h4:=hp.size
 clear hp hv
 obtain⟨wh,wt,wd,wo,wu⟩:=W
 obtain⟨ah,at',ad,ao,au⟩:=w'
 simp only at h1 h2 h3 h4 hfr
 simp only[grow,World.drewN,World.mk.injEq]
 refine⟨?_,h2.1,by omega,h1,h3⟩
 apply Array.ext_getElem?
 intro i
 rw[Array.getElem?_append]
 split
 ·exact hfr i (by assumption)
 ·rw[Array.getElem?_extract]
  split
  ·congr 1;omega
  ·rw[Array.getElem?_eq_none (by omega)]
theorem a6M{P:Program}{kc:FuncId}(hf:∀x y,Fn P kc [.agg #[I x.1,I x.2],.agg #[I y.1,I y.2]] .nil fun r H'=>r=I (cf2 x y)∧St P (.nil:Heap) H' [])(kJ off size:Nat)(w:World):CmpLays P kc #[] jT 2 cf2 kJ off size w:=b5X (fun x=>x) cf2 hf kJ off size w
section
variable {P:Program} {H:Heap} {ρ ρ':Rho} {H':Heap} {w w1 w2:World}
theorem Post.cP(h:Post P ρ H w ρ' H' w1)(hsz:w1.heap.size≤w2.heap.size)(hb:∀b,b<w1.heap.size→w2.heap[b]? =w1.heap[b]?)(h1:w2.os=w1.os)(h2:w2.tape=w1.tape∧w1.drawn≤w2.drawn)(h3:w2.output=w1.output):Post P ρ H w ρ' H' w2 where
 le:=h.le
 rel:=h.rel.other hsz fun A e p hp=>hb _ (h.rel.dom _ _ _ hp).2
 len:=h.len
 size:=dL h.size hsz
 os:=h1.trans h.os
 tape:=⟨h2.1.trans h.tape.1,dL h.tape.2 h2.2⟩
 output:=h3.trans h.output
 frame b hlt hw:=by
  obtain⟨e,hw'⟩:=h.frame b hlt hw
  exact⟨(hb b (dQ hlt h.size)).trans e,hw'⟩
 loops b r hr:=by
  obtain⟨r',hr'⟩:=h.loops b r hr
  exact⟨r',by rw[hb b (mJ hr')];exact hr'⟩
 img:=h.img
theorem b9W:∀(l:List (Int×Int))(j:Nat),j<l.length*2→(jT (l.toArray[j/2]!))[j%2]! =(pr l).getD j undef:=by
 intro l
 induction l with
 | nil=>intro j hj;simp at hj
 | cons x l ih=>
   intro j hj
   have e:pr (x::l)=I x.1::I x.2::pr l:=rfl
   rw[e]
   match j with
   | 0=>rfl
   | 1=>rfl
   | j+2=>
     have h1:(j+2)/2=j/2+1:=by omega
     have h2:(j+2)%2=j%2:=by omega
     have:=ih j (by simp at hj;omega)
     rw[h1,h2]
     simp only[List.getD_cons_succ]
     rw[←this]
     congr 2
     simp only[List.getElem!_toArray]
     simp
end
theorem V.func0{ρ:Rho}{k:FuncId}{v':Value}(h:V ρ (.func (.func k) #[] #[]) v'):v'=.func (.func k) #[] #[]:=by
 cases h with
 | v1 h=>cases h with
   | c1 h=>cases h with
     | c0 h=>cases h with
       | flat h=>rfl
     | fn ha hb=>
       rename_i a' b'
       have e1:a'=#[]:=by
        obtain⟨l⟩:=a'
        cases l with
        | nil=>rfl
        | cons=>exact ha.elim
       have e2:b'=#[]:=by
        obtain⟨l⟩:=b'
        cases l with
        | nil=>rfl
        | cons=>exact hb.elim
       rw[e1,e2]
theorem a8K(es:List (Int×Int)):kH (pr es)=true:=by
 unfold kH
 rw[dx]
 intro c hc
 obtain⟨x,_,hx⟩:=eD.1 hc
 simp only[jT,eM,eK,or_false]at hx
 rcases hx with rfl|rfl<;>rfl
set_option maxRecDepth 10000 in
theorem b7o{P:Program}{K kc:FuncId}{sm:Int×Int→Prop}(hso:a5C P K kc sm){H:Heap}{A i lo ver n:Nat}{ty:TypeId}{pre:List Value}{es:List (Int×Int)}(hg:iR H A=some (.cells (pre++pr es) ty true lo ver))(hlo:lo≤i+(pr es).length)(hpre:pre.length=i)
 (hn:(pr es).length=n*2) (hty:iF P ty=some 2) (hl:es.length<100000000000) (h0:es≠[]) (hsm:∀x∈es,sm x):
 CallOk P K [.slice (some ⟨A,i,some (i+(pr es).length)⟩) n 2,.func (.func kc) #[] #[]] H (.tuple #[]) (hset H A (.cells (iZ (pre++pr es) i (pr (wQ es))) ty true (pre++pr es).length ver)):=by
 intro k ρ w args' hr ha
 obtain⟨l⟩:=args'
 match l,ha with
 | [x,f],⟨hx,hf,_⟩=>
   obtain rfl:=V.func0 hf
   have hlen:(pre++pr es).length=i+(pr es).length:=by rw[dr,hpre]
   obtain⟨p,c',a,hp,h0',hin,hnc,hac,hpk,rfl⟩:=hx.ax
   rw[iL]at hn
   have hne:0<es.length:=gi.2 h0
   have hnn:n=es.length:=by omega
   subst hnn
   have ha':a=⟨p.b,p.at i,none⟩:=by
    rcases hac with h|h
    ·exact h.1
    ·omega
   subst ha'
   have hp2:ρ A (pre++pr es).length=some p:=by rw[hlen];exact hp
   obtain⟨_,_,hfit,cur,ty',fr,hw,hsz,hfr,hcell⟩:=(hr.cells _ _ _ _ _ _ hg).2 _ _ hp2
   obtain⟨rfl,hd0,_⟩:=hfr rfl
   let d:Array (Int×Int):=es.toArray
   have hds:d.size=es.length:=by simp[d]
   have hfl:=fun j hj=>b9W es j (by simpa using hj)
   have hH:Go.Sort.HoldsK jT 2 w p.b (p.at i) d:=by
    intro j hj
    rw[Go.Sort.size_flatK,hds]at hj
    constructor
    ·have hc:(pre++pr es)[i+j]? =some ((pr es).getD j undef):=by
      rw[ek (by omega),hpre,fT,dh,dA (by rw[iL];omega)]
      rfl
     obtain⟨c2,hc2,hrel⟩:=hcell (by rw[hlen];exact hlo) (i+j) _ (by rw[hlen,iL];omega) (by omega) hc
     have hsc:jC ((pr es).getD j undef)=true:=by
      have:=a8K es
      unfold kH at this
      rw[dx]at this
      apply this
      rw[dh,dA (by rw[iL];omega)]
      exact gN _
     have:=hrel.az hsc
     subst this
     have hat:p.at (i+j)=p.at i+j:=by unfold Place.at;omega
     rw[hat]at hc2
     simp only[World.cell?,hw]
     rw[Go.Sort.get_flatK _ _ _ _ (by rw[hds];exact hj),hfl j hj]
     exact hc2
    ·simp only[World.frozen?,hw]
     simp
   have hcon:=hso p.b (p.at i) c' d w (by simpa [d]using hsm) hH (hr.dom _ _ _ hp).2 (by rw[hds];omega)
   rw[hds]at hcon
   obtain⟨w1,hrun,hpost⟩:=tX hr hg hp2 h0' (.aG (a8K (wQ es))) (by rw[hlen,iL,iL,(pN es).length_eq];omega) (by rw[hlen];exact hlo)
   have hcsz:p.at i+(pr (wQ es)).length≤cur.size:=by
    rw[iL,(pN es).length_eq,hsz]
    unfold Place.at
    rw[hlen,iL]at hfit
    omega
   have hst:=run_storeCells_at (P:=P) p.b (p.at i) ty' (pr (wQ es)) 0 cur w hw (by simpa using hcsz) (All2.aG (ρ:=ρ) (a8K (wQ es))).aX
   rw[hst]at hrun
   injection hrun with _ hw1
   subst hw1
   refine callsIn_wide.2 (hcon.mono ?_)
   rintro e w'⟨rfl,m,os,rfl⟩
   refine⟨ρ,_,rfl,?_,.tuple trivial⟩
   have hsl:(wQ es).length=es.length:=(pN es).length_eq
   have hml:((d.toList.mergeSort le2)).length=es.length:=by simp[d]
   have hfs:∀j,j<es.length*2→(Go.Sort.flatK jT 2 (d.toList.mergeSort le2).toArray)[j]! =(pr (wQ es)).getD j undef:=fun j hj=>by
    rw[Go.Sort.get_flatK _ _ _ _ (by simpa [d]using hj)]
    exact b9W (d.toList.mergeSort le2) j (by rw[hml];exact hj)
   have hFs:(Go.Sort.flatK jT 2 (d.toList.mergeSort le2).toArray).size=es.length*2:=by simp[d]
   unfold sortWorldK Go.Sort.putRowK
   generalize Go.Sort.flatK jT 2 (d.toList.mergeSort le2).toArray=F at hfs hFs ⊢
   have hlt:=mJ hw
   have hh:∀b,b<w.heap.size→(Go.Sort.grow (Go.Sort.putRow id (Go.Sort.ahead w m) p.b (p.at i) F) os).heap[b]? =(Go.Sort.putRow id (Go.Sort.ahead w m) p.b (p.at i) F).heap[b]?:=fun b hb=>by
    have:b<(Go.Sort.putRow id (Go.Sort.ahead w m) p.b (p.at i) F).heap.size:=by simpa [Go.Sort.putRow,Go.Sort.mapBlock,Go.Sort.ahead]using hb
    unfold Go.Sort.grow
    exact fB this
   refine hpost.cP ?_ ?_ rfl ⟨rfl,Nat.le_add_right _ _⟩ rfl
   ·simp[Go.Sort.grow,Go.Sort.putRow,Go.Sort.mapBlock,Go.Sort.ahead]
   ·intro b hbs
    rw[setRow_size]at hbs
    rw[hh b hbs]
    by_cases e:b=p.b
    ·subst e
     rw[setRow_heap w p.b cur _ ty' (0,0) hw]
     have e2:(Go.Sort.putRow id (Go.Sort.ahead w m) p.b (p.at i) F).heap[p.b]? =some (.cells (Go.Sort.putCells id (p.at i) F cur) ty' (0,0)):=by
      simp[Go.Sort.putRow,Go.Sort.mapBlock,Go.Sort.ahead,gA,hw,Go.Sort.onCells]
     rw[e2]
     congr 2
     apply Array.ext_getElem?
     intro j
     have hseg:=a5j cur.toList (pr (wQ es)) (p.at i) j (by simpa using hcsz)
     have e3:((List.take (p.at i+0) cur.toList++pr (wQ es)++List.drop (p.at i+0+(pr (wQ es)).length) cur.toList).toArray)[j]? =(List.take (p.at i) cur.toList++pr (wQ es)++List.drop (p.at i+(pr (wQ es)).length) cur.toList)[j]?:=by simp
     rw[e3,hseg]
     simp only[Go.Sort.putCells,Array.getElem?_mapIdx,gz]
     rw[iL,hsl]at hcsz ⊢
     by_cases h1:p.at i≤j∧j<p.at i+es.length*2
     ·rw[if_pos h1]
      have hjc:j<cur.size:=by omega
      rw[fG hjc]
      simp only[dS]
      rw[if_pos (by rw[hFs];exact h1),hfs _ (by omega),dh,dA (by rw[iL,hsl];omega)]
      rfl
     ·rw[if_neg h1]
      cases hc:cur[j]? with
      | none=>simp
      | some c=>
        simp only[dS]
        rw[if_neg (by rw[hFs];exact h1)]
    ·rw[setRow_other _ _ _ _ e]
     simp[Go.Sort.putRow,Go.Sort.mapBlock,Go.Sort.ahead,gA,eG e]
theorem a1T{P:Program}{K kc:FuncId}{sm:Int×Int→Prop}(hso:a5C P K kc sm)(hno:a2p P K)(hent0:rI P K){H:Heap}{H0:Base}{os:List Ob}(hS:St P H0 H os)(i:Nat){v:Value}{es:List (Int×Int)}(ho:os[i]? =some ⟨v,2,pr es⟩)(hl:es.length<100000000000)(hsm:∀x∈es,sm x){Q:Value→Heap→Prop}
 (h:∀H1,St P H0 H1 (os.set i ⟨v,2,pr (wQ es)⟩)→Q (.tuple #[]) H1):wY P K [v,.func (.func kc) #[] #[]] H Q:=by
 have hent:rI P K:=hent0
 by_cases h0:es=[]
 ·subst h0
  refine⟨.tuple #[],H,hent,?_,h H ?_⟩
  ·intro k ρ w args' hr ha
   obtain⟨l⟩:=args'
   match l,ha with
   | [x,f],⟨hx,hf,_⟩=>
     obtain rfl:=V.func0 hf
     have hown:=hS.own _ (dW ho)
     unfold OwnAt at hown
     rw[if_neg (by simp)]at hown
     have hx0:∃p cap,x=.slice p 0 cap:=by
      rcases hown with⟨h2,_⟩|⟨A,j,ty,lo',ver,pre,m,h2,h3,h4,h5,h6,h7⟩
      ·simp only at h2
       subst h2
       rcases hx.ay with⟨_,_,_,rfl⟩|⟨A,j,e,p,c',a,hh,_⟩
       ·exact⟨_,_,rfl⟩
       ·cases hh
      ·simp only at h5 h6
       subst h6
       have hm:m=0:=by have:(pr []).length=0:=rfl;omega
       subst hm
       obtain⟨p,c',a,_,_,_,_,_,_,rfl⟩:=hx.ax
       exact⟨_,_,rfl⟩
     obtain⟨p,cap,rfl⟩:=hx0
     refine callsIn_wide.2 ((hno p cap _ w).mono ?_)
     rintro e w'⟨rfl,rfl⟩
     exact⟨ρ,_,rfl,.refl hr,.tuple trivial⟩
  ·obtain⟨hi,hoi⟩:=dy.1 ho
   have e:wQ []=[]:=List.Perm.eq_nil (pN [])
   rw[e,←hoi,List.set_getElem_self]
   exact hS
 ·have hown:=hS.own _ (dW ho)
  unfold OwnAt at hown
  rw[if_neg (by simp)]at hown
  have hne:0<es.length:=gi.2 h0
  rcases hown with⟨_,h3⟩|⟨A,j,ty,lo',ver,pre,m,h2,h3,h4,h5,h6,h7⟩
  ·simp only at h3
   have:=congrArg List.length h3
   rw[iL,eP]at this
   omega
  ·simp only at h2 h3 h5 h6
   have hsl:(pr (wQ es)).length=(pr es).length:=by rw[iL,iL,(pN es).length_eq]
   have hcall:=b7o hso h2 h3 h4 h5 h7 hl h0 hsm
   rw[←h6]at hcall
   refine⟨_,_,hent,hcall,h _ (hS.put i ho ?_ ?_ ?_ ?_)⟩
   ·unfold OwnAt
    rw[if_neg (by simp)]
    refine .inr ⟨A,j,ty,(pre++pr es).length,ver,pre,m,?_,?_,h4,?_,?_,h7⟩
    ·rw[iW _ (jI h2)]
     have:=mG (pr (wQ es)) pre (pr es) (by rw[hsl];exact dj _)
     rw[h4]at this
     rw[this,hsl,List.drop_length,dm]
    ·simp only[dr,h4,hsl];exact dj _
    ·simp only[hsl];exact h5
    ·simp only[hsl];exact h6
   ·rw[jE];exact dj _
   ·intro B' hB hne'
    refine sK fun hh=>hne' ?_
    simp[kJ,h6,hh]
   ·intro B' hB
    exact .inl hB
end Go.Ds
namespace Go.Proofs
open Go.Shelf
def Tryz.bE:Go.Shelf.Ren:=⟨fun|6=>55|15=>95|14=>94|28=>140|29=>141|20=>132|21=>133|22=>134|23=>135|24=>136|25=>137|26=>138|27=>139|46=>186|47=>187|48=>188|49=>189|50=>190|57=>225|n=>n,fun|22=>57|24=>60|25=>146|3=>3|39=>123|0=>0|53=>228|55=>39|4=>4|46=>221|45=>220|50=>225|5=>5|9=>9|66=>272|70=>276|76=>312|77=>313|n=>n,fun|n=>n⟩
theorem Tryz.bQ:Go.Proofs.SlLaysF0.n6 Tryz.prog Tryz.bE:={
 mixed:=by kernel_rfl
 f6:=⟨Tryz.f55.name,by decide,Tryz.func55.trans (congrArg some (by kernel_rfl))⟩
 f14:=⟨Tryz.f94.name,by decide,Tryz.func94.trans (congrArg some (by kernel_rfl))⟩
 f15:=Tryz.func95.trans (congrArg some (by kernel_rfl))
 f20:=⟨Tryz.f132.name,by decide,Tryz.func132.trans (congrArg some (by kernel_rfl))⟩
 f21:=⟨Tryz.f133.name,by decide,Tryz.func133.trans (congrArg some (by kernel_rfl))⟩
 f22:=⟨Tryz.f134.name,by decide,Tryz.func134.trans (congrArg some (by kernel_rfl))⟩
 f23:=⟨Tryz.f135.name,by decide,Tryz.func135.trans (congrArg some (by kernel_rfl))⟩
 f24:=⟨Tryz.f136.name,by decide,Tryz.func136.trans (congrArg some (by kernel_rfl))⟩
 f25:=⟨Tryz.f137.name,by decide,Tryz.func137.trans (congrArg some (by kernel_rfl))⟩
 f26:=⟨Tryz.f138.name,by decide,Tryz.func138.trans (congrArg some (by kernel_rfl))⟩
 f27:=⟨Tryz.f139.name,by decide,Tryz.func139.trans (congrArg some (by kernel_rfl))⟩
 f28:=Tryz.func140.trans (congrArg some (by kernel_rfl))
 f29:=Tryz.func141.trans (congrArg some (by kernel_rfl))
 f46:=⟨Tryz.f186.name,by decide,Tryz.func186.trans (congrArg some (by kernel_rfl))⟩
 f47:=Tryz.func187.trans (congrArg some (by kernel_rfl))
 f48:=Tryz.func188.trans (congrArg some (by kernel_rfl))
 f49:=⟨Tryz.f189.name,by decide,Tryz.func189.trans (congrArg some (by kernel_rfl))⟩
 f50:=⟨Tryz.f190.name,by decide,Tryz.func190.trans (congrArg some (by kernel_rfl))⟩
 f57:=⟨Tryz.f225.name,by decide,Tryz.func225.trans (congrArg some (by kernel_rfl))⟩
 t0:=Tryz.underlying0
 a0:=Tryz.isAgg0
 z0:=Tryz.sizeOf0
 v0:=Tryz.zeroValue0
 t3:=Tryz.underlying3
 a3:=Tryz.isAgg3
 z3:=Tryz.sizeOf3
 v3:=Tryz.zeroValue3
 t4:=Tryz.underlying4
 a4:=Tryz.isAgg4
 z4:=Tryz.sizeOf4
 v4:=Tryz.zeroValue4
 t5:=Tryz.underlying5
 a5:=Tryz.isAgg5
 z5:=Tryz.sizeOf5
 v5:=Tryz.zeroValue5
 t9:=Tryz.underlying9
 a9:=Tryz.isAgg9
 z9:=Tryz.sizeOf9
 v9:=Tryz.zeroValue9
 t22:=Tryz.underlying57
 a22:=Tryz.isAgg57
 z22:=Tryz.sizeOf57
 v22:=Tryz.zeroValue57
 t25:=Tryz.underlying146
 a25:=Tryz.isAgg146
 z25:=Tryz.sizeOf146
 v25:=Tryz.zeroValue146
 t39:=Tryz.underlying123
 a39:=Tryz.isAgg123
 z39:=Tryz.sizeOf123
 v39:=Tryz.zeroValue123
 t45:=Tryz.underlying220
 a45:=Tryz.isAgg220
 z45:=Tryz.sizeOf220
 v45:=Tryz.zeroValue220
 t46:=Tryz.underlying221
 a46:=Tryz.isAgg221
 z46:=Tryz.sizeOf221
 v46:=Tryz.zeroValue221
 t50:=Tryz.underlying225
 a50:=Tryz.isAgg225
 z50:=Tryz.sizeOf225
 v50:=Tryz.zeroValue225
 t53:=Tryz.underlying228
 a53:=Tryz.isAgg228
 z53:=Tryz.sizeOf228
 v53:=Tryz.zeroValue228
 t55:=Tryz.underlying39
 a55:=Tryz.isAgg39
 z55:=Tryz.sizeOf39
 v55:=Tryz.zeroValue39
 t66:=Tryz.underlying272
 a66:=Tryz.isAgg272
 z66:=Tryz.sizeOf272
 v66:=Tryz.zeroValue272
 t70:=Tryz.underlying276
 a70:=Tryz.isAgg276
 z70:=Tryz.sizeOf276
 v70:=Tryz.zeroValue276
 t76:=Tryz.underlying312
 a76:=Tryz.isAgg312
 z76:=Tryz.sizeOf312
 v76:=Tryz.zeroValue312
 t77:=Tryz.underlying313
 a77:=Tryz.isAgg313
 z77:=Tryz.sizeOf313
 v77:=Tryz.zeroValue313}
def Tryz.bz:Go.Shelf.Ren:=⟨fun|6=>92|15=>95|14=>131|28=>140|29=>141|20=>178|21=>179|22=>180|23=>181|24=>182|25=>183|26=>184|27=>185|46=>222|47=>187|48=>188|49=>223|50=>224|57=>239|n=>n,fun|22=>50|24=>53|25=>180|3=>3|39=>123|0=>0|53=>228|55=>39|4=>4|46=>221|45=>220|50=>225|5=>5|9=>9|66=>272|70=>276|76=>312|77=>313|n=>n,fun|n=>n⟩
theorem Tryz.bG:Go.Proofs.SlLaysF0.n6 Tryz.prog Tryz.bz:={
 mixed:=by kernel_rfl
 f6:=⟨Tryz.f92.name,by decide,Tryz.func92.trans (congrArg some (by kernel_rfl))⟩
 f14:=⟨Tryz.f131.name,by decide,Tryz.func131.trans (congrArg some (by kernel_rfl))⟩
 f15:=Tryz.func95.trans (congrArg some (by kernel_rfl))
 f20:=⟨Tryz.f178.name,by decide,Tryz.func178.trans (congrArg some (by kernel_rfl))⟩
 f21:=⟨Tryz.f179.name,by decide,Tryz.func179.trans (congrArg some (by kernel_rfl))⟩
 f22:=⟨Tryz.f180.name,by decide,Tryz.func180.trans (congrArg some (by kernel_rfl))⟩
 f23:=⟨Tryz.f181.name,by decide,Tryz.func181.trans (congrArg some (by kernel_rfl))⟩
 f24:=⟨Tryz.f182.name,by decide,Tryz.func182.trans (congrArg some (by kernel_rfl))⟩
 f25:=⟨Tryz.f183.name,by decide,Tryz.func183.trans (congrArg some (by kernel_rfl))⟩
 f26:=⟨Tryz.f184.name,by decide,Tryz.func184.trans (congrArg some (by kernel_rfl))⟩
 f27:=⟨Tryz.f185.name,by decide,Tryz.func185.trans (congrArg some (by kernel_rfl))⟩
 f28:=Tryz.func140.trans (congrArg some (by kernel_rfl))
 f29:=Tryz.func141.trans (congrArg some (by kernel_rfl))
 f46:=⟨Tryz.f222.name,by decide,Tryz.func222.trans (congrArg some (by kernel_rfl))⟩
 f47:=Tryz.func187.trans (congrArg some (by kernel_rfl))
 f48:=Tryz.func188.trans (congrArg some (by kernel_rfl))
 f49:=⟨Tryz.f223.name,by decide,Tryz.func223.trans (congrArg some (by kernel_rfl))⟩
 f50:=⟨Tryz.f224.name,by decide,Tryz.func224.trans (congrArg some (by kernel_rfl))⟩
 f57:=⟨Tryz.f239.name,by decide,Tryz.func239.trans (congrArg some (by kernel_rfl))⟩
 t0:=Tryz.underlying0
 a0:=Tryz.isAgg0
 z0:=Tryz.sizeOf0
 v0:=Tryz.zeroValue0
 t3:=Tryz.underlying3
 a3:=Tryz.isAgg3
 z3:=Tryz.sizeOf3
 v3:=Tryz.zeroValue3
 t4:=Tryz.underlying4
 a4:=Tryz.isAgg4
 z4:=Tryz.sizeOf4
 v4:=Tryz.zeroValue4
 t5:=Tryz.underlying5
 a5:=Tryz.isAgg5
 z5:=Tryz.sizeOf5
 v5:=Tryz.zeroValue5
 t9:=Tryz.underlying9
 a9:=Tryz.isAgg9
 z9:=Tryz.sizeOf9
 v9:=Tryz.zeroValue9
 t22:=Tryz.underlying50
 a22:=Tryz.isAgg50
 z22:=Tryz.sizeOf50
 v22:=Tryz.zeroValue50
 t25:=Tryz.underlying180
 a25:=Tryz.isAgg180
 z25:=Tryz.sizeOf180
 v25:=Tryz.zeroValue180
 t39:=Tryz.underlying123
 a39:=Tryz.isAgg123
 z39:=Tryz.sizeOf123
 v39:=Tryz.zeroValue123
 t45:=Tryz.underlying220
 a45:=Tryz.isAgg220
 z45:=Tryz.sizeOf220
 v45:=Tryz.zeroValue220
 t46:=Tryz.underlying221
 a46:=Tryz.isAgg221
 z46:=Tryz.sizeOf221
 v46:=Tryz.zeroValue221
 t50:=Tryz.underlying225
 a50:=Tryz.isAgg225
 z50:=Tryz.sizeOf225
 v50:=Tryz.zeroValue225
 t53:=Tryz.underlying228
 a53:=Tryz.isAgg228
 z53:=Tryz.sizeOf228
 v53:=Tryz.zeroValue228
 t55:=Tryz.underlying39
 a55:=Tryz.isAgg39
 z55:=Tryz.sizeOf39
 v55:=Tryz.zeroValue39
 t66:=Tryz.underlying272
 a66:=Tryz.isAgg272
 z66:=Tryz.sizeOf272
 v66:=Tryz.zeroValue272
 t70:=Tryz.underlying276
 a70:=Tryz.isAgg276
 z70:=Tryz.sizeOf276
 v70:=Tryz.zeroValue276
 t76:=Tryz.underlying312
 a76:=Tryz.isAgg312
 z76:=Tryz.sizeOf312
 v76:=Tryz.zeroValue312
 t77:=Tryz.underlying313
 a77:=Tryz.isAgg313
 z77:=Tryz.sizeOf313
 v77:=Tryz.zeroValue313}
end Go.Proofs
namespace Go.Ds
open Go.Proofs Go.Proofs.Tryz Go.Shelf Go.RowKit Go.Lib Go.Sort
theorem a6z(x:Int×Int):∀v∈jT x,v.oneCell'=true:=by
 intro v hv
 simp[jT]at hv
 rcases hv with rfl|rfl<;>rfl
theorem c4a(kc:FuncId)(eg:∀args w,(callFunc kc args).run prog w=.ok (.enter kc args) w)(hf:∀x y,Fn prog kc [.agg #[I x.1,I x.2],.agg #[I y.1,I y.2]] .nil fun r H'=>r=I (cf2 x y)∧St prog (.nil:Heap) H' []):a5C prog 55 kc (fun _=>True):=
 fun kJ off cap d w _ hH hblk hsz=>by
  have h:=AnyQ.slices_SortFunc_total Tryz.bQ 2 Tryz.isAgg60 Tryz.sizeOf60 jT (fun _=>rfl) a6z cf2 c2F kc #[] kJ off cap d w eg (a6M hf kJ off d.size w) hH hblk hsz c4v
  rw[b4x]at h
  exact h
theorem c2C(kc:FuncId)(eg:∀args w,(callFunc kc args).run prog w=.ok (.enter kc args) w)(hf:∀x y,Fn prog kc [.agg #[I x.1,I x.2],.agg #[I y.1,I y.2]] .nil fun r H'=>r=I (cf2 x y)∧St prog (.nil:Heap) H' []):a5C prog 92 kc (fun _=>True):=
 fun kJ off cap d w _ hH hblk hsz=>by
  have h:=AnyQ.slices_SortFunc_total Tryz.bG 2 Tryz.isAgg53 Tryz.sizeOf53 jT (fun _=>rfl) a6z cf2 c2F kc #[] kJ off cap d w eg (a6M hf kJ off d.size w) hH hblk hsz c4v
  rw[b4x]at h
  exact h
theorem c4t:a2p prog 55:=fun p cap fv w=>AnyF.slices_SortFunc_none {Tryz.bQ with} p cap fv w
theorem c3n:a2p prog 92:=fun p cap fv w=>AnyF.slices_SortFunc_none {Tryz.bG with} p cap fv w
def a8H(K kc:FuncId):Prop:=∀{H:Heap}{B:Base}{os:List Ob}(hS:St prog B H os)(i:Nat){v:Value}{es:List (Int×Int)}(ho:os[i]? =some ⟨v,2,pr es⟩)(hl:es.length<100000000000){Q:Value→Heap→Prop}
    (h:∀H1,St prog B H1 (os.set i ⟨v,2,pr (wQ es)⟩)→Q (.tuple #[]) H1),wY prog K [v,.func (.func kc) #[] #[]] H Q
theorem c3M:rI prog 55:=⟨Tryz.f55,func55,by kernel_rfl,by kernel_rfl⟩
theorem c3i:rI prog 92:=⟨Tryz.f92,func92,by kernel_rfl,by kernel_rfl⟩
theorem c2G:a8H 55 209:=fun hS i _ _ ho hl _ h=>a1T (c4a 209 (enters_of func209 (by kernel_rfl) rfl) fun x y=>b9r x y) c4t c3M hS i ho hl (fun _ _=>trivial) h
theorem c4D:a8H 55 120:=fun hS i _ _ ho hl _ h=>a1T (c4a 120 (enters_of func120 (by kernel_rfl) rfl) fun x y=>b7m x y) c4t c3M hS i ho hl (fun _ _=>trivial) h
theorem c3W:a8H 92 117:=fun hS i _ _ ho hl _ h=>a1T (c2C 117 (enters_of func117 (by kernel_rfl) rfl) fun x y=>b7z x y) c3n c3i hS i ho hl (fun _ _=>trivial) h
end Go.Ds
namespace Go.Ds
open Go.Proofs Go.Proofs.Tryz
variable {H:Heap}
set_option maxRecDepth 10000
theorem sW{p:Nat→Bool}{n j:Nat}(h:lT p n=(j:Int)):j<n:=by
 unfold lT at h
 split at h
 ·rename_i q hq
  have:=dz.1 (gP hq)
  omega
 ·omega
theorem b7L(g:Seg)(hg:g.In H)(key:Int)(A:Nat)(hA:Var H A 1 [I key]):Fn prog 208 [.agg #[I g.lo,I g.hi,g.dv],ptr A 0 1] H fun r H'=>r=.bool (decide (g.lo≤key)&&decide (key≤g.hi))∧St prog H H' []:=by
 refine .aD func208 rfl (by kernel_rfl) (m:=14) rfl fun l hn g0 g1=> ?_
 simp(disch:=omega) only[↓RA,RB,simprocAttr,g0]
 refine(sR H).eNew 3 [I g.lo,I g.hi,g.dv] rfl rfl (by simp[OC,((sR H).sl hg.1).cells.2.1]) a1x fun A1 H1 hS1=> ?_
 simp only[RT]at hS1
 simp(disch:=omega) only[↓RA,RZ,simprocAttr,hn,g1,hS1.ld 0 rfl,(hS1.va hA).ld]
 refine jU (fun h1=> ?_) (fun h1=> ?_)
 ·simp(disch:=omega) only[↓RA,RZ,simprocAttr,hn,g1,(hS1.va hA).ld,hS1.ld 0 rfl,b9z,h1]
  first|exact hS1.forget|exact⟨by simp[h1],hS1.forget⟩
 simp(disch:=omega) only[↓RA,RZ,simprocAttr,hn,b9z,h1]
 first|exact hS1.forget|exact⟨by simp[],hS1.forget⟩
theorem b8R(v:Value)(xs:List Seg)(hv:Sl 3 Seg.cells H v xs)(hl:xs.length<1000000000)(k:FuncId)(caps:List Value)(p:Nat→Bool)
 (hf:∀j H1,j<xs.length→St prog H H1 []→Fn prog k (.agg #[I (iD xs j).lo,I (iD xs j).hi,(iD xs j).dv]::caps) H1 fun r H2=>r=.bool (p j)∧St prog H1 H2 []):
 Fn prog 207 [v,.func (.func k) #[] caps.toArray] H fun r H'=>r=I (lT p xs.length)∧St prog H H' []:=by
 refine .aD func207 rfl (by kernel_rfl) (m:=19) rfl fun l hn g0 g1=> ?_
 simp(disch:=omega) only[↓RA,RZ,simprocAttr,hn,g0,((sR H).sl hv).len]
 refine Wp.aq (fun n l H'=>l.length=19∧get l 0=v∧get l 1=.func (.func k) #[] caps.toArray∧get l 7=I xs.length∧∃(j:Nat),(n+j=xs.length∧∀q,q<j→p q=false)∧get l 8=I j∧St prog H H' []) xs.length ?_ ?_
 ·simp(disch:=omega) only[RB,RC,simprocAttr,hn,g0,g1]
  exact⟨0,⟨by omega,fun q hq=>absurd hq (dJ _)⟩,rfl,(sR H)⟩
 rintro n l H1⟨hn,g0,g1,g7,j,⟨hi,h0⟩,g8,hS1⟩
 simp(disch:=omega) only[↓RA,RB,simprocAttr,hn,g7,g8]
 refine iC (fun h=> ?_) (fun h=> ?_)
 ·simp(disch:=omega) only[↓RA,RZ,simprocAttr,hn,g0,g1,g8,(hS1.sl hv).idx,(hS1.sl hv).aj,Seg.cells,h]
  refine hS1.cF (hf j _ (by omega) hS1) fun H2 hS2=> ?_
  simp(disch:=omega) only[↓RA,RZ,simprocAttr,hn,h]
  refine jJ (fun hp=> ?_) (fun hp=> ?_)
  ·simp(disch:=omega) only[↓RA,RZ,simprocAttr,hn,b9A,h,hp]
   exact⟨by rw[vV p xs.length j (by omega) hp h0],hS2⟩
  simp(disch:=omega) only[↓RA,RZ,simprocAttr,hn,g0,g1,g7,g8,h,hp]
  exact⟨n-1,by omega,j+1,⟨by omega,fun q hq=>by rcases dw.1 hq with e|e;(· exact h0 q e);(· rw[e];exact hp)⟩,by simp,hS2⟩
 simp(disch:=omega) only[↓RA,RZ,simprocAttr,hn,b9A,h]
 exact⟨by rw[vK p xs.length fun q hq=>h0 q (by omega)],hS1⟩
theorem b0i{H0:Heap}{os0:List Ob}(hS0:St prog H0 H os0)(s:Stp)(hs0:s.In H0)(key:Int):Fn prog 162 [.agg #[.string s.name,I s.num,I s.den,s.gv],I key] H fun r H'=>∃g:Seg,r=.agg #[I g.lo,I g.hi,g.dv]∧g.In H0∧g.draws=a8V s key∧St prog H H' []:=by
 have hs:=hs0.ae hS0
 have hl:=hs.2.2
 refine .aD func162 rfl (by kernel_rfl) (m:=18) rfl fun l hn g0 g1=> ?_
 simp(disch:=omega) only[↓RA,RB,simprocAttr,g0]
 refine(sR H).eNew 4 [(.string s.name),I s.num,I s.den,s.gv] rfl rfl (by simp[OC,((sR H).sl hs.1).cells.2.1]) nA fun A1 H1 hS1=> ?_
 simp only[RT]at hS1
 simp(disch:=omega) only[↓RA,RB,simprocAttr,g1]
 refine hS1.eNew 1 [I key] rfl rfl rfl tS3 fun A2 H2 hS2=> ?_
 simp only[RT]at hS2
 simp(disch:=omega) only[↓RA,RZ,simprocAttr]
 refine hS2.eNew 3 [I 0,I 0,(.slice none 0 0)] rfl rfl rfl a1x fun A3 H3 hS3=> ?_
 simp only[RT]at hS3
 simp(disch:=omega) only[↓RA,RZ,simprocAttr,hn,hS3.ld 0 rfl]
 have hA:=hS3.var 1 rfl
 have hSc:=hS3
 refine hS3.cF (b8R s.gv s.segs (hS3.sl hs.1) hs.2.2 208 [ptr A2 0 1] (b0c s key) (fun j H1 hj hS'=>b7L _ ((hs.2.1 _ (iG hj)).ae (hSc.trans hS')) key A2 (hA.ae hS'.ae))) fun H4 hS4=> ?_
 simp(disch:=omega) only[↓RA,RB,simprocAttr,hn]
 refine iC (fun h=> ?_) (fun h=> ?_)
 ·simp(disch:=omega) only[↓RA,RZ,simprocAttr,hn,c1X,h]
  refine hS4.aa 2 rfl [I 0,I 0,(.slice none 0 0)] rfl rfl a1x (by simp) fun H5 hS5=> ?_
  simp only[RT]at hS5
  simp(disch:=omega) only[↓RA,RZ,simprocAttr,hn,c0e,hS5.aj 2 rfl,h]
  exact⟨⟨0,0,.slice none 0 0,[]⟩,rfl,⟨⟨.inl ⟨rfl,rfl⟩,fun _=>rfl,by decide⟩,by simp⟩,by rw[a8V,if_pos h],hS5.forget⟩
 obtain⟨j,hj⟩:∃j:Nat,lT (b0c s key) s.segs.length=j:=⟨(lT (b0c s key) s.segs.length).toNat,by omega⟩
 have hjl:j<s.segs.length:=sW hj
 simp(disch:=omega) only[↓RA,RZ,simprocAttr,hn,hS4.ld 0 rfl,(hS4.sl hs.1).idx,(hS4.sl hs.1).aj,Seg.cells,hj]
 refine hS4.aa 2 rfl [I (iD s.segs j).lo,I (iD s.segs j).hi,(iD s.segs j).dv] rfl (by simp[OC,(hS4.sl (hs.2.1 (iD s.segs j) (iG (by omega))).1).cells.2.1]) a1x (by simp) fun H6 hS6=> ?_
 simp only[RT]at hS6
 simp(disch:=omega) only[↓RA,RZ,simprocAttr,hn,c0e,hS6.aj 2 rfl,hj]
 exact⟨iD s.segs j,rfl,hs0.2.1 _ (iG hjl),by rw[a8V,if_neg h,hj];rfl,hS6.forget⟩
theorem b8a(rv:Value)(rks:List Rk)(hr:Sl 6 Rk.cells H rv rks)(hrk:∀r∈rks,r.In H)(hl:rks.length<1000000000)(d:Drw)(key:Int):
 Fn prog 163 [rv,.agg #[I d.rank,I d.shift],I key] H fun r H'=>r=.tuple #[.agg #[I (pR rks d key).1,I (pR rks d key).2],.bool (zO rks d key)]∧St prog H H' []:=by
 refine .bU func163 rfl (by kernel_rfl) (m:=48) rfl fun l hn g0 g1 g2=> ?_
 simp(disch:=omega) only[↓RA,RB,simprocAttr,g1]
 refine(sR H).eNew 2 [I d.rank,I d.shift] rfl rfl rfl a0L fun A1 H1 hS1=> ?_
 simp only[RT]at hS1
 simp(disch:=omega) only[↓RA,RZ,simprocAttr]
 refine hS1.eNew 2 [I 0,I 0] rfl rfl rfl zJ fun A2 H2 hS2=> ?_
 simp only[RT]at hS2
 simp(disch:=omega) only[↓RA,RZ,simprocAttr,hn,hS2.ld 0 rfl]
 refine iO (fun h1=> ?_) (fun h1=> ?_)
 ·simp(disch:=omega) only[↓RA,RZ,simprocAttr,hn,b9Y,h1]
  refine hS2.aa 1 rfl [I 0,I 0] rfl rfl zJ (by simp) fun H3 hS3=> ?_
  simp only[RT]at hS3
  simp(disch:=omega) only[↓RA,RZ,simprocAttr,hn,b0A,hS3.aj 1 rfl,h1]
  exact⟨by rw[pR,zO,if_pos (by omega),decide_eq_true (by omega)];rfl,hS3.forget⟩
 simp(disch:=omega) only[↓RA,RZ,simprocAttr,hn,g0,hS2.ld 0 rfl,(hS2.sl hr).len,h1]
 refine iC (fun h2=> ?_) (fun h2=> ?_)
 ·simp(disch:=omega) only[↓RA,RZ,simprocAttr,hn,b9Y,h1,h2]
  refine hS2.aa 1 rfl [I 0,I 0] rfl rfl zJ (by simp) fun H4 hS4=> ?_
  simp only[RT]at hS4
  simp(disch:=omega) only[↓RA,RZ,simprocAttr,hn,b0A,hS4.aj 1 rfl,h1,h2]
  exact⟨by rw[pR,zO,if_pos (by omega),decide_eq_true (by omega)];rfl,hS4.forget⟩
 obtain⟨j,hj⟩:∃j:Nat,d.rank=j:=⟨d.rank.toNat,by omega⟩
 have hjl:j<rks.length:=by omega
 have hp:pR rks d key=((j:Int),vW (vW (key+d.shift)-(iD rks j).first)):=by rw[pR,if_neg (by omega),hj];rfl
 have hh:zO rks d key=(decide (0≤vW (vW (key+d.shift)-(iD rks j).first))&&decide (vW (vW (key+d.shift)-(iD rks j).first)<(iD rks j).wind.length)):=by
  rw[zO,hp,decide_eq_false (by omega),hj]
  rfl
 rw[hp,hh]
 have hw:=(hrk _ (iG hjl)).2
 simp(disch:=omega) only[↓RA,simprocAttr,hj]
 refine Wp.drw kG (by kernel_rfl) ?_
 simp(disch:=omega) only[↓RA,RZ,simprocAttr,hn,g2]
 simp(disch:=omega) only[↓RA,RZ,simprocAttr,hn,g0,hS2.ld 0 rfl,(hS2.sl hr).idx,(hS2.sl hr).bd,(hS2.sl hr).ld,Rk.cells,hj]
 refine Wp.aS kG [(10,18),(13,18),(14,18)] (by kernel_rfl) (by kernel_rfl) ?_
 simp(disch:=omega) only[↓RA,RZ,simprocAttr,hn,hS2.ld 0 rfl,b4n,hj]
 refine jU (fun h3=> ?_) (fun h3=> ?_)
 ·skip
  simp(disch:=omega) only[↓RA,RZ,simprocAttr,hn,g0,hS2.ld 0 rfl,(hS2.sl hr).idx,(hS2.sl hr).bd,(hS2.sl hr).ld,Rk.cells,(hS2.sl (hrk (iD rks j) (iG (by omega))).1).len,hj,h3]
  refine hS2.aa 1 rfl [I j,_] rfl rfl zJ (by simp) fun H5 hS5=> ?_
  simp only[RT]at hS5
  simp(disch:=omega) only[↓RA,RZ,simprocAttr,hn,hS5.ld 0 rfl,Rk.cells,(hS5.sl hr).ld,(hS5.sl (hrk (iD rks j) (iG (by omega))).1).len,b0A,hS5.aj 1 rfl,hj,h3]
  exact hS5.forget
 simp(disch:=omega) only[↓RA,RZ,simprocAttr,hn,h3]
 refine hS2.aa 1 rfl [I j,_] rfl rfl zJ (by simp) fun H6 hS6=> ?_
 simp only[RT]at hS6
 simp(disch:=omega) only[↓RA,RZ,simprocAttr,hn,b0A,hS6.aj 1 rfl,h3]
 first|exact hS6.forget|exact⟨by rw[fP],hS6.forget⟩
theorem b3s{B:Base}{v:Value}{es:List (Int×Int)}(hS:St prog B H [⟨v,2,pr es⟩])(hl:es.length<1000000):
 Fn prog 164 [v] H fun r H'=>∃rest:List Value,(∀b,kJ r=some b→kJ v=some b)∧(∀H2,RdAt H2 v 2 (pr (dd (wQ es))++rest)→RdAt H2 r 2 (pr (dd (wQ es))))∧St prog B H' [⟨v,2,pr (dd (wQ es))++rest⟩]:=by
 refine .aW func164 rfl (by kernel_rfl) (m:=7) rfl fun l hn g0=> ?_
 simp(disch:=omega) only[↓RA,RZ,simprocAttr,hn,g0]
 refine c2G hS 0 rfl (iu hl (by decide)) fun H1 hS1=> ?_
 simp only[fw]at hS1
 simp(disch:=omega) only[↓RA,RZ,simprocAttr,hn,g0]
 refine iK (a6A hS1 (by rw[pG];exact iu hl (by decide))) ?_
 rintro r H2⟨rest,hb,hrd,hS2⟩
 have hrc:=(hrd H2 (hS2.rd 0 rfl)).cells
 simp(disch:=omega) only[↓RA,RB,simprocAttr,hn,c3E]
 exact⟨rest,hb,hrd,hS2⟩
theorem b3W{a b:Int}{v:Value}{α:Type}{n:Nat}{cel:α→List Value}{xs:List α}(h:Sl n cel H v xs):xE prog 158 (.agg #[I a,I b,v]) 2=some v:=by
 rcases h.rd with⟨rfl,_⟩|⟨A,i,e,row,ty,rw,lo,ver,n,_,_,_,_,_,_,rfl⟩<;>kernel_rfl
theorem b4T(rv:Value)(rks:List Rk)(hr:Sl 6 Rk.cells H rv rks)(hrk:∀r∈rks,r.In H)(hl:rks.length<1000000000)(s:Stp)(hs:s.In H)(hs2:∀g∈s.segs,g.draws.length≤8)(key:Int):
 Fn prog 119 [rv,.agg #[.string s.name,I s.num,I s.den,s.gv],I key] H fun r H'=>Slx 2 jT H' (fun B=>H.length≤B) r (sL rks s key)∧St prog H H' []:=by
 refine .bU func119 rfl (by kernel_rfl) (m:=36) rfl fun l hn g0 g1 g2=> ?_
 simp(disch:=omega) only[↓RA,RB,simprocAttr,g1]
 refine(sR H).eNew 4 [(.string s.name),I s.num,I s.den,s.gv] rfl rfl (by simp[OC,((sR H).sl hs.1).cells.2.1]) nA fun A1 H1 hS1=> ?_
 simp only[RT]at hS1
 simp(disch:=omega) only[↓RA,RZ,simprocAttr,hn,g2,hS1.aj 0 rfl]
 refine iK (b0i hS1 s hs key) ?_
 rintro r H2⟨g,rfl,hgi,hgd,hT1⟩
 have hS2:=hS1.trans hT1
 simp only[RT]at hS2
 have hgl:=hgi.2
 have hg8:g.draws.length≤8:=by
  rw[hgd]
  unfold a8V
  split
  ·simp
  ·rename_i h
   exact hs2 _ (iG (sW (p:=b0c s key) (n:=s.segs.length) (by omega)))
 simp(disch:=omega) only[↓RA,RZ,simprocAttr,hn,b3W (hS2.sl hgi.1),(hS2.sl hgi.1).len]
 have hS3:=hS2.nil 1
 simp only[RT]at hS3
 refine Wp.aq (fun n l H'=>l.length=36∧get l 0=rv∧get l 2=I key∧get l 6=(.slice none 0 0)∧get l 15=g.dv∧get l 16=I g.draws.length∧∃(i:Nat)(ov:Value),(n+i=g.draws.length)∧get l 17=I i∧get l 7=ov∧St prog H H' [⟨ptr A1 0 4,0,[(.string s.name),I s.num,I s.den,s.gv]⟩,⟨ov,2,pr (((g.draws.take i).filter fun d=>zO rks d key).map fun d=>pR rks d key)⟩]) g.draws.length ?_ ?_
 ·simp(disch:=omega) only[RB,RC,simprocAttr,hn,g0,g2]
  exact⟨0,_,by omega,rfl,rfl,hS3⟩
 rintro n l H3⟨hn,g0,g2,g6,g15,g16,i,ov,hi,g17,g7,hS4⟩
 simp(disch:=omega) only[↓RA,RB,simprocAttr,hn,g16,g17]
 refine iC (fun q1=> ?_) (fun q1=> ?_)
 ·simp(disch:=omega) only[↓RA,RZ,simprocAttr,hn,g15,g17,(hS4.sl hgi.1).idx,(hS4.sl hgi.1).aj,Drw.cells,q1]
  refine hS4.eNew 2 [I 0,I 0] rfl rfl rfl a0L fun A2 H4 hS5=> ?_
  simp only[RT]at hS5
  simp(disch:=omega) only[↓RA,RZ,simprocAttr,hn,q1]
  refine hS5.aa 2 rfl [I (iD g.draws i).rank,I (iD g.draws i).shift] rfl rfl a0L (by simp) fun H5 hS6=> ?_
  simp only[RT]at hS6
  simp(disch:=omega) only[↓RA,RZ,simprocAttr,hn,g0,g2,hS6.aj 2 rfl,q1]
  refine hS6.cF (b8a rv rks (hS6.sl hr) (fun r hr'=>(hrk r hr').ae hS6) hl (iD g.draws i) key) fun H6 hS7=> ?_
  have htk:=lU g.draws i (by omega)
  have hfl:((g.draws.take i).filter fun d=>zO rks d key).length≤i:=by
   refine dL (eh _ _) ?_
   simp
   omega
  simp(disch:=omega) only[↓RA,RZ,simprocAttr,hn,q1]
  refine hS7.eNew 2 [I 0,I 0] rfl rfl rfl zJ fun A3 H7 hS8=> ?_
  simp only[RT]at hS8
  simp(disch:=omega) only[↓RA,RZ,simprocAttr,hn,q1]
  refine hS8.aa 3 rfl [I (pR rks (iD g.draws i) key).1,I (pR rks (iD g.draws i) key).2] rfl rfl zJ (by simp) fun H8 hS9=> ?_
  simp only[RT]at hS9
  simp(disch:=omega) only[↓RA,RZ,simprocAttr,hn,q1]
  refine jJ (fun q2=> ?_) (fun q2=> ?_)
  ·skip
   simp(disch:=omega) only[↓RA,RZ,simprocAttr,hn,g7,hS9.aj 3 rfl,q1,q2]
   refine hS9.ai [I (pR rks (iD g.draws i) key).1,I (pR rks (iD g.draws i) key).2] c0t c5l rfl rfl (by simp[Value.cells]) rfl rfl (by decide) (by decide) fun w1 H9 hS10=> ?_
   simp only[RT]at hS10
   simp(disch:=omega) only[↓RA,RZ,simprocAttr,hn,q1,q2]
   refine hS10.al 1 rfl (hS10.rd 4 rfl) c0t (by rw[iL];simp;omega) fun w2 H10 hS11=> ?_
   simp only[RT]at hS11
   simp(disch:=omega) only[↓RA,RZ,simprocAttr,hn,g0,g2,g6,g15,g16,g17,q1,q2]
   refine⟨n-1,by omega,i+1,w2,by omega,by simp,rfl,?_⟩
   rw[htk,dZ,dO,kC]
   have e:([iD g.draws i].filter fun d=>zO rks d key)=[iD g.draws i]:=by simp[q2]
   rw[e]
   exact hS11.pick [0,1] (by decide) rfl
  simp(disch:=omega) only[↓RA,RZ,simprocAttr,hn,g0,g2,g6,g15,g16,g17,g7,q1,q2]
  refine⟨n-1,by omega,i+1,ov,by omega,by simp,rfl,?_⟩
  rw[htk,dZ,dO,kC]
  have e:([iD g.draws i].filter fun d=>zO rks d key)=[]:=by simp[q2]
  rw[e]
  simp only[pr,fq,fy,dm]
  exact hS9.pick [0,1] (by decide) rfl
 simp(disch:=omega) only[↓RA,RZ,simprocAttr,hn,g7,q1]
 have hii:i=g.draws.length:=by omega
 subst hii
 have hfl:((g.draws.filter fun d=>zO rks d key).map fun d=>pR rks d key).length≤8:=by
  rw[dB]
  exact dL (eh _ _) hg8
 rw[eE]at hS4
 have hM1:=hS4.pick (os':=[⟨ov,2,_⟩]) [1] (by decide) rfl
 have hR1:=hS4.pick (os':=[⟨ov,2,_⟩,⟨ptr A1 0 4,0,_⟩]) [1,0] (by decide) rfl
 refine iK (b3s (es:=(g.draws.filter fun d=>zO rks d key).map fun d=>pR rks d key) hM1.aH (by omega)) ?_
 rintro r H11⟨rest,hb,hrd,hT3⟩
 have hS12:=hR1.frame hT3
 simp only[RT]at hS12
 have hrr:=hrd _ (hS12.rd 0 rfl)
 have hrc:=hrr.cells
 simp(disch:=omega) only[↓RA,RZ,simprocAttr,hn,c4E,q1]
 refine⟨⟨⟨?_,jG,by decide⟩,fun b h=> ?_⟩,hS12.forget⟩
 ·unfold sL
  rw[←hgd]
  exact hrr
 ·rcases hS12.new _ (dY ..) b (hb b h)with h|h
  ·exact h
  ·exact h.elim
end Go.Ds
namespace Go.Ds
open Go.Proofs Go.Proofs.Tryz
variable {H:Heap}
set_option maxRecDepth 10000
set_option maxHeartbeats 1000000
abbrev KC(kvs:List (Ct×Bool)):List Value:=kcs (fun p:Int×Int=>.agg #[I p.1,I p.2]) Value.bool kvs
def xK(kvs:List (Ct×Bool))(c:Ct):Bool:=(a1I kvs c).getD false
theorem b1t{B:Base}(o:Org)(r:Reg)(sv:Value)(c:Ct)(AO AR AS AQ M:Nat)(qv:Value)(q:List Ct)(kvs:List (Ct×Bool))
 (hS:St prog B H [⟨.map (some M),0,KC kvs⟩,⟨ptr AQ 0 1,0,[qv]⟩,⟨qv,2,pr q⟩])
 (hO:∀{H1:Heap}{os:List Ob},St prog B H1 os→Var H1 AO 4 [.string o.name,o.rv,o.dv,o.cv]∧o.In H1∧Var H1 AR 3 [sv,.int .u64 r.cpl,.int .u64 r.off]∧Var H1 AS 1 [.map (some M)])
 (hk:∀t,xK kvs t=true↔t∈q) (hq:Que o q) (ho:o.Fine) (hr:r.Ok):
 Fn prog 116 [.agg #[I c.1,I c.2],.bool true,ptr AO 0 4,ptr AR 0 3,ptr AS 0 1,ptr AQ 0 1] H fun rr H'=>∃kvs' qv',rr=.tuple #[]∧(∀t,xK kvs' t=true↔t∈stepF o r.cpl true c q)∧
  St prog B H' [⟨.map (some M),0,KC kvs'⟩,⟨ptr AQ 0 1,0,[qv']⟩,⟨qv',2,pr (stepF o r.cpl true c q)⟩]:=by
 have hcl:=ho.clen
 refine .cV func116 rfl (by kernel_rfl) (m:=65) rfl fun l hn g0 g1 g2 g3 g4 g5=> ?_
 simp(disch:=omega) only[↓RA,RB,simprocAttr,g0]
 refine hS.eNew 2 [I c.1,I c.2] rfl rfl rfl qC fun A1 H1 hS1=> ?_
 simp only[RT]at hS1
 simp(disch:=omega) only[↓RA,RZ,simprocAttr,hn,g2,((hO hS1).1).ld,((hO hS1).2.1.2.2.2.2.1).len]
 refine Wp.aq (fun n l H'=>l.length=65∧get l 1=(.bool true)∧get l 2=(ptr AO 0 4)∧get l 3=(ptr AR 0 3)∧get l 4=(ptr AS 0 1)∧get l 5=(ptr AQ 0 1)∧get l 6=(ptr A1 0 2)∧get l 12=o.cv∧get l 13=I o.cpls.length∧∃(i:Nat)(kvs':List (Ct×Bool))(qv':Value),(n+i=o.cpls.length∧∀t,xK kvs' t=true↔t∈stepN o r.cpl true c q i)∧get l 14=I i∧St prog B H' [⟨.map (some M),0,KC kvs'⟩,⟨ptr AQ 0 1,0,[qv']⟩,⟨qv',2,pr (stepN o r.cpl true c q i)⟩,⟨ptr A1 0 2,0,[I c.1,I c.2]⟩]) o.cpls.length ?_ ?_
 ·simp(disch:=omega) only[RB,RC,simprocAttr,hn,g1,g2,g3,g4,g5]
  exact⟨0,kvs,qv,⟨by omega,hk⟩,rfl,hS1⟩
 rintro n l H2⟨hn,g1,g2,g3,g4,g5,g6,g12,g13,i,kvs',qv',⟨hi,hk'⟩,g14,hS2⟩
 simp(disch:=omega) only[↓RA,RB,simprocAttr,hn,g13,g14]
 refine iC (fun q1=> ?_) (fun q1=> ?_)
 ·have hql:(stepN o r.cpl true c q i).length≤1024:=(hq.stepN r.cpl true c i).len ho
  have e1:=a2N r.cpl i hr.2.2.1
  have e2:=a1W (r.cpl>>>i) (wU i hr.2.2.1)
  have e3:=tb r.cpl i
  have hskip:a0W r.cpl true c (iD o.cpls i) i=false→stepN o r.cpl true c q (i+1)=stepN o r.cpl true c q i:=fun h=>by
   rw[nS,step1,if_neg (by rw[h];simp)]
  have hkeep:tF o ((iD o.cpls i).dst,vW (c.2+(iD o.cpls i).shift))=false∨((iD o.cpls i).dst,vW (c.2+(iD o.cpls i).shift))∈stepN o r.cpl true c q i→stepN o r.cpl true c q (i+1)=stepN o r.cpl true c q i:=fun h=>by
   rw[nS,step1,if_neg]
   simp only[to1,de,dK]
   rintro⟨⟨_,h2⟩,h3⟩
   rcases h with h|h
   ·rw[h]at h2;cases h2
   ·exact absurd h (of_decide_eq_false h3)
  simp(disch:=omega) only[↓RA,RZ,simprocAttr,hn,g12,g14,((hO hS2).2.1.2.2.2.2.1).idx,((hO hS2).2.1.2.2.2.2.1).aj,Cpl.cells,q1]
  refine hS2.eNew 5 [(.string ⟨#[]⟩),I 0,I 0,I 0,(.bool false)] rfl rfl rfl wI fun A2 H3 hS3=> ?_
  simp only[RT]at hS3
  simp(disch:=omega) only[↓RA,RZ,simprocAttr,hn,q1]
  refine hS3.aa 4 rfl [(.string (iD o.cpls i).name),I (iD o.cpls i).src,I (iD o.cpls i).dst,I (iD o.cpls i).shift,(.bool (iD o.cpls i).thr)] rfl rfl wI (by simp) fun H4 hS4=> ?_
  simp only[RT]at hS4
  simp(disch:=omega) only[↓RA,RZ,simprocAttr,hn,g3,((hO hS4).2.2.1).ld,q1,e1,e2]
  refine iO (fun b1=> ?_) (fun b1=> ?_)
  ·have hs:=hskip (by unfold a0W;rw[e3,decide_eq_false (by omega)];rfl)
   simp(disch:=omega) only[↓RA,RZ,simprocAttr,hn,g1,g2,g3,g4,g5,g6,g12,g13,g14,q1,b1]
   exact⟨n-1,by omega,i+1,kvs',qv',⟨by omega,by rw[hs];exact hk'⟩,by simp,by rw[hs];exact hS4.pick [0,1,2,3] (by decide) rfl⟩
  have hb:r.cpl.testBit i=true:=by rw[e3];exact decide_eq_true (by omega)
  simp(disch:=omega) only[↓RA,RZ,simprocAttr,hn,g6,hS4.ld 4 rfl,hS4.ld 3 rfl,q1,b1]
  refine iO (fun b2=> ?_) (fun b2=> ?_)
  ·have hs:=hskip (by unfold a0W;rw[decide_eq_false b2];simp)
   simp(disch:=omega) only[↓RA,RZ,simprocAttr,hn,g1,g2,g3,g4,g5,g6,g12,g13,g14,q1,b1,b2]
   exact⟨n-1,by omega,i+1,kvs',qv',⟨by omega,by rw[hs];exact hk'⟩,by simp,by rw[hs];exact hS4.pick [0,1,2,3] (by decide) rfl⟩
  have hsrc:=dN.1 b2
  simp(disch:=omega) only[↓RA,RZ,simprocAttr,hn,g1,hS4.ld 4 rfl,q1,b1,b2]
  refine jJ (fun b4=> ?_) (fun b4=> ?_)
  ·have hs:=hskip (by unfold a0W;simp only[Bool.not_true,Bool.false_or,fH];exact .inr (by simpa using b4))
   simp(disch:=omega) only[↓RA,RZ,simprocAttr,hn,g1,g2,g3,g4,g5,g6,g12,g13,g14,q1,b1,b2,b4]
   exact⟨n-1,by omega,i+1,kvs',qv',⟨by omega,by rw[hs];exact hk'⟩,by simp,by rw[hs];exact hS4.pick [0,1,2,3] (by decide) rfl⟩
  have hgo:a0W r.cpl true c (iD o.cpls i) i=true:=by
   unfold a0W
   rw[hb,decide_eq_true hsrc]
   simpa using b4
  simp(disch:=omega) only[↓RA,RZ,simprocAttr,hn,g6,hS4.ld 4 rfl,hS4.ld 3 rfl,q1,b1,b2,b4]
  simp(disch:=omega) only[↓RA,RZ,simprocAttr,zB]
  refine hS4.eNew 2 [I 0,I 0] rfl rfl rfl qC fun A3 H5 hS5=> ?_
  simp only[RT]at hS5
  simp(disch:=omega) only[↓RA,RZ,simprocAttr,hn,q1,b1,b2,b4]
  refine hS5.aa 5 rfl [I (iD o.cpls i).dst,I (vW (c.2+(iD o.cpls i).shift))] rfl rfl qC (by simp) fun H6 hS6=> ?_
  simp only[RT]at hS6
  simp(disch:=omega) only[↓RA,RZ,simprocAttr,hn,g2,((hO hS6).1).aj,hS6.aj 5 rfl,q1,b1,b2,b4]
  refine hS6.cF (wP o (hO hS6).2.1 ((iD o.cpls i).dst,vW (c.2+(iD o.cpls i).shift))) fun H7 hS7=> ?_
  simp(disch:=omega) only[↓RA,RZ,simprocAttr,hn,q1,b1,b2,b4]
  refine jU (fun b5=> ?_) (fun b5=> ?_)
  ·have hok:=(uE o _).1 b5
   simp(disch:=omega) only[↓RA,RZ,simprocAttr,hn,g4,((hO hS7).2.2.2).ld,hS7.aj 5 rfl,q1,b1,b2,b4,b5]
   refine hS7.bP (k:=((iD o.cpls i).dst,vW (c.2+(iD o.cpls i).shift))) 0 rfl a7r (fun _=>rfl) ?_
   simp(disch:=omega) only[↓RA,RZ,simprocAttr,hn,q1,b1,b2,b4,b5]
   refine jJ (fun b6=> ?_) (fun b6=> ?_)
   ·have hnot:((iD o.cpls i).dst,vW (c.2+(iD o.cpls i).shift))∉stepN o r.cpl true c q i:=fun h=>by
     have h:=(hk' _).2 h
     unfold xK at h
     first|(rw[dK]at b6;exact Bool.false_ne_true (b6.symm.trans h))|exact b6 h
    have hs:stepN o r.cpl true c q (i+1)=stepN o r.cpl true c q i++[((iD o.cpls i).dst,vW (c.2+(iD o.cpls i).shift))]:=by
     rw[nS]
     unfold step1
     rw[if_pos (by simp only[to1,hgo,hok];simp[hnot])]
     rfl
    simp(disch:=omega) only[↓RA,RZ,simprocAttr,hn,g4,((hO hS7).2.2.2).ld,hS7.aj 5 rfl,q1,b1,b2,b4,b5,b6]
    refine hS7.cm (k:=((iD o.cpls i).dst,vW (c.2+(iD o.cpls i).shift))) 0 rfl a7r fun H8 hS8=> ?_
    simp only[RT]at hS8
    simp(disch:=omega) only[↓RA,RZ,simprocAttr,hn,g5,hS8.ld 1 rfl,hS8.aj 5 rfl,q1,b1,b2,b4,b5,b6]
    refine hS8.ai [I (iD o.cpls i).dst,I (vW (c.2+(iD o.cpls i).shift))] tG a1y rfl rfl (by simp[Value.cells]) rfl rfl (by decide) (by decide) fun w1 H9 hS9=> ?_
    simp only[RT]at hS9
    simp(disch:=omega) only[↓RA,RZ,simprocAttr,hn,q1,b1,b2,b4,b5,b6]
    refine hS9.al 2 rfl (hS9.rd 6 rfl) tG (by rw[iL];simp;omega) fun w2 H10 hS10=> ?_
    simp only[RT]at hS10
    simp(disch:=omega) only[↓RA,RZ,simprocAttr,hn,g5,q1,b1,b2,b4,b5,b6]
    refine hS10.aa 1 rfl [w2] (by rw[(hS10.rd 2 rfl).cells.1]) (by simp[(hS10.rd 2 rfl).cells.2.1]) b3c (by simp) fun H11 hS11=> ?_
    simp only[RT]at hS11
    simp(disch:=omega) only[↓RA,RZ,simprocAttr,hn,g1,g2,g3,g4,g5,g6,g12,g13,g14,q1,b1,b2,b4,b5,b6]
    refine⟨n-1,by omega,i+1,a5a kvs' ((iD o.cpls i).dst,vW (c.2+(iD o.cpls i).shift)) true,w2,⟨by omega,fun t=> ?_⟩,by simp,?_⟩
    ·rw[hs,dH,dC,←hk' t]
     unfold xK
     rw[a2j]
     by_cases e:t=((iD o.cpls i).dst,vW (c.2+(iD o.cpls i).shift))
     ·simp[e]
     ·simp[e]
    ·rw[hs,kC]
     exact hS11.pick [0,1,2,3] (by decide) rfl
   have hin:((iD o.cpls i).dst,vW (c.2+(iD o.cpls i).shift))∈stepN o r.cpl true c q i:=(hk' _).1 (by
    unfold xK
    simpa using b6)
   have hs:=hkeep (.inr hin)
   simp(disch:=omega) only[↓RA,RZ,simprocAttr,hn,g1,g2,g3,g4,g5,g6,g12,g13,g14,q1,b1,b2,b4,b5,b6]
   exact⟨n-1,by omega,i+1,kvs',qv',⟨by omega,by rw[hs];exact hk'⟩,by simp,by rw[hs];exact hS7.pick [0,1,2,3] (by decide) rfl⟩
  have hs:=hkeep (.inl (by rw[←ey];exact fun h=>b5 ((uE o _).2 h)))
  simp(disch:=omega) only[↓RA,RZ,simprocAttr,hn,g1,g2,g3,g4,g5,g6,g12,g13,g14,q1,b1,b2,b4,b5]
  exact⟨n-1,by omega,i+1,kvs',qv',⟨by omega,by rw[hs];exact hk'⟩,by simp,by rw[hs];exact hS7.pick [0,1,2,3] (by decide) rfl⟩
 simp(disch:=omega) only[↓RA,RZ,simprocAttr,b9E,q1]
 have hii:i=o.cpls.length:=by omega
 subst hii
 exact⟨kvs',qv',hk',hS2.pick [0,1,2] (by decide) rfl⟩
theorem b2N{B:Base}(o:Org)(r:Reg)(sv:Value)(c:Ct)(AO AR AS AQ M:Nat)(qv:Value)(q:List Ct)(kvs:List (Ct×Bool))
 (hS:St prog B H [⟨.map (some M),0,KC kvs⟩,⟨ptr AQ 0 1,0,[qv]⟩,⟨qv,2,pr q⟩])
 (hO:∀{H1:Heap}{os:List Ob},St prog B H1 os→Var H1 AO 4 [.string o.name,o.rv,o.dv,o.cv]∧o.In H1∧Var H1 AR 3 [sv,.int .u64 r.cpl,.int .u64 r.off]∧Var H1 AS 1 [.map (some M)])
 (hk:∀t,xK kvs t=true↔t∈q) (hq:Que o q) (ho:o.Fine) (hr:r.Ok):
 Fn prog 116 [.agg #[I c.1,I c.2],.bool false,ptr AO 0 4,ptr AR 0 3,ptr AS 0 1,ptr AQ 0 1] H fun rr H'=>∃kvs' qv',rr=.tuple #[]∧(∀t,xK kvs' t=true↔t∈stepF o r.cpl false c q)∧
  St prog B H' [⟨.map (some M),0,KC kvs'⟩,⟨ptr AQ 0 1,0,[qv']⟩,⟨qv',2,pr (stepF o r.cpl false c q)⟩]:=by
 have hcl:=ho.clen
 refine .cV func116 rfl (by kernel_rfl) (m:=65) rfl fun l hn g0 g1 g2 g3 g4 g5=> ?_
 simp(disch:=omega) only[↓RA,RB,simprocAttr,g0]
 refine hS.eNew 2 [I c.1,I c.2] rfl rfl rfl qC fun A1 H1 hS1=> ?_
 simp only[RT]at hS1
 simp(disch:=omega) only[↓RA,RZ,simprocAttr,hn,g2,((hO hS1).1).ld,((hO hS1).2.1.2.2.2.2.1).len]
 refine Wp.aq (fun n l H'=>l.length=65∧get l 1=(.bool false)∧get l 2=(ptr AO 0 4)∧get l 3=(ptr AR 0 3)∧get l 4=(ptr AS 0 1)∧get l 5=(ptr AQ 0 1)∧get l 6=(ptr A1 0 2)∧get l 12=o.cv∧get l 13=I o.cpls.length∧∃(i:Nat)(kvs':List (Ct×Bool))(qv':Value),(n+i=o.cpls.length∧∀t,xK kvs' t=true↔t∈stepN o r.cpl false c q i)∧get l 14=I i∧St prog B H' [⟨.map (some M),0,KC kvs'⟩,⟨ptr AQ 0 1,0,[qv']⟩,⟨qv',2,pr (stepN o r.cpl false c q i)⟩,⟨ptr A1 0 2,0,[I c.1,I c.2]⟩]) o.cpls.length ?_ ?_
 ·simp(disch:=omega) only[RB,RC,simprocAttr,hn,g1,g2,g3,g4,g5]
  exact⟨0,kvs,qv,⟨by omega,hk⟩,rfl,hS1⟩
 rintro n l H2⟨hn,g1,g2,g3,g4,g5,g6,g12,g13,i,kvs',qv',⟨hi,hk'⟩,g14,hS2⟩
 simp(disch:=omega) only[↓RA,RB,simprocAttr,hn,g13,g14]
 refine iC (fun q1=> ?_) (fun q1=> ?_)
 ·have hql:(stepN o r.cpl false c q i).length≤1024:=(hq.stepN r.cpl false c i).len ho
  have e1:=a2N r.cpl i hr.2.2.1
  have e2:=a1W (r.cpl>>>i) (wU i hr.2.2.1)
  have e3:=tb r.cpl i
  have hskip:a0W r.cpl false c (iD o.cpls i) i=false→stepN o r.cpl false c q (i+1)=stepN o r.cpl false c q i:=fun h=>by
   rw[nS,step1,if_neg (by rw[h];simp)]
  have hkeep:tF o ((iD o.cpls i).dst,vW (c.2+(iD o.cpls i).shift))=false∨((iD o.cpls i).dst,vW (c.2+(iD o.cpls i).shift))∈stepN o r.cpl false c q i→stepN o r.cpl false c q (i+1)=stepN o r.cpl false c q i:=fun h=>by
   rw[nS,step1,if_neg]
   simp only[to1,de,dK]
   rintro⟨⟨_,h2⟩,h3⟩
   rcases h with h|h
   ·rw[h]at h2;cases h2
   ·exact absurd h (of_decide_eq_false h3)
  simp(disch:=omega) only[↓RA,RZ,simprocAttr,hn,g12,g14,((hO hS2).2.1.2.2.2.2.1).idx,((hO hS2).2.1.2.2.2.2.1).aj,Cpl.cells,q1]
  refine hS2.eNew 5 [(.string ⟨#[]⟩),I 0,I 0,I 0,(.bool false)] rfl rfl rfl wI fun A2 H3 hS3=> ?_
  simp only[RT]at hS3
  simp(disch:=omega) only[↓RA,RZ,simprocAttr,hn,q1]
  refine hS3.aa 4 rfl [(.string (iD o.cpls i).name),I (iD o.cpls i).src,I (iD o.cpls i).dst,I (iD o.cpls i).shift,(.bool (iD o.cpls i).thr)] rfl rfl wI (by simp) fun H4 hS4=> ?_
  simp only[RT]at hS4
  simp(disch:=omega) only[↓RA,RZ,simprocAttr,hn,g3,((hO hS4).2.2.1).ld,q1,e1,e2]
  refine iO (fun b1=> ?_) (fun b1=> ?_)
  ·have hs:=hskip (by unfold a0W;rw[e3,decide_eq_false (by omega)];rfl)
   simp(disch:=omega) only[↓RA,RZ,simprocAttr,hn,g1,g2,g3,g4,g5,g6,g12,g13,g14,q1,b1]
   exact⟨n-1,by omega,i+1,kvs',qv',⟨by omega,by rw[hs];exact hk'⟩,by simp,by rw[hs];exact hS4.pick [0,1,2,3] (by decide) rfl⟩
  have hb:r.cpl.testBit i=true:=by rw[e3];exact decide_eq_true (by omega)
  simp(disch:=omega) only[↓RA,RZ,simprocAttr,hn,g6,hS4.ld 4 rfl,hS4.ld 3 rfl,q1,b1]
  refine iO (fun b2=> ?_) (fun b2=> ?_)
  ·have hs:=hskip (by unfold a0W;rw[decide_eq_false b2];simp)
   simp(disch:=omega) only[↓RA,RZ,simprocAttr,hn,g1,g2,g3,g4,g5,g6,g12,g13,g14,q1,b1,b2]
   exact⟨n-1,by omega,i+1,kvs',qv',⟨by omega,by rw[hs];exact hk'⟩,by simp,by rw[hs];exact hS4.pick [0,1,2,3] (by decide) rfl⟩
  have hsrc:=dN.1 b2
  have hgo:a0W r.cpl false c (iD o.cpls i) i=true:=by
   unfold a0W
   rw[hb,decide_eq_true hsrc]
   rfl
  simp(disch:=omega) only[↓RA,RZ,simprocAttr,hn,g1,g6,hS4.ld 4 rfl,hS4.ld 3 rfl,q1,b1,b2]
  simp(disch:=omega) only[↓RA,RZ,simprocAttr,zB]
  refine hS4.eNew 2 [I 0,I 0] rfl rfl rfl qC fun A3 H5 hS5=> ?_
  simp only[RT]at hS5
  simp(disch:=omega) only[↓RA,RZ,simprocAttr,hn,q1,b1,b2]
  refine hS5.aa 5 rfl [I (iD o.cpls i).dst,I (vW (c.2+(iD o.cpls i).shift))] rfl rfl qC (by simp) fun H6 hS6=> ?_
  simp only[RT]at hS6
  simp(disch:=omega) only[↓RA,RZ,simprocAttr,hn,g2,((hO hS6).1).aj,hS6.aj 5 rfl,q1,b1,b2]
  refine hS6.cF (wP o (hO hS6).2.1 ((iD o.cpls i).dst,vW (c.2+(iD o.cpls i).shift))) fun H7 hS7=> ?_
  simp(disch:=omega) only[↓RA,RZ,simprocAttr,hn,q1,b1,b2]
  refine jU (fun b5=> ?_) (fun b5=> ?_)
  ·have hok:=(uE o _).1 b5
   simp(disch:=omega) only[↓RA,RZ,simprocAttr,hn,g4,((hO hS7).2.2.2).ld,hS7.aj 5 rfl,q1,b1,b2,b5]
   refine hS7.bP (k:=((iD o.cpls i).dst,vW (c.2+(iD o.cpls i).shift))) 0 rfl a7r (fun _=>rfl) ?_
   simp(disch:=omega) only[↓RA,RZ,simprocAttr,hn,q1,b1,b2,b5]
   refine jJ (fun b6=> ?_) (fun b6=> ?_)
   ·have hnot:((iD o.cpls i).dst,vW (c.2+(iD o.cpls i).shift))∉stepN o r.cpl false c q i:=fun h=>by
     have h:=(hk' _).2 h
     unfold xK at h
     first|(rw[dK]at b6;exact Bool.false_ne_true (b6.symm.trans h))|exact b6 h
    have hs:stepN o r.cpl false c q (i+1)=stepN o r.cpl false c q i++[((iD o.cpls i).dst,vW (c.2+(iD o.cpls i).shift))]:=by
     rw[nS]
     unfold step1
     rw[if_pos (by simp only[to1,hgo,hok];simp[hnot])]
     rfl
    simp(disch:=omega) only[↓RA,RZ,simprocAttr,hn,g4,((hO hS7).2.2.2).ld,hS7.aj 5 rfl,q1,b1,b2,b5,b6]
    refine hS7.cm (k:=((iD o.cpls i).dst,vW (c.2+(iD o.cpls i).shift))) 0 rfl a7r fun H8 hS8=> ?_
    simp only[RT]at hS8
    simp(disch:=omega) only[↓RA,RZ,simprocAttr,hn,g5,hS8.ld 1 rfl,hS8.aj 5 rfl,q1,b1,b2,b5,b6]
    refine hS8.ai [I (iD o.cpls i).dst,I (vW (c.2+(iD o.cpls i).shift))] tG a1y rfl rfl (by simp[Value.cells]) rfl rfl (by decide) (by decide) fun w1 H9 hS9=> ?_
    simp only[RT]at hS9
    simp(disch:=omega) only[↓RA,RZ,simprocAttr,hn,q1,b1,b2,b5,b6]
    refine hS9.al 2 rfl (hS9.rd 6 rfl) tG (by rw[iL];simp;omega) fun w2 H10 hS10=> ?_
    simp only[RT]at hS10
    simp(disch:=omega) only[↓RA,RZ,simprocAttr,hn,g5,q1,b1,b2,b5,b6]
    refine hS10.aa 1 rfl [w2] (by rw[(hS10.rd 2 rfl).cells.1]) (by simp[(hS10.rd 2 rfl).cells.2.1]) b3c (by simp) fun H11 hS11=> ?_
    simp only[RT]at hS11
    simp(disch:=omega) only[↓RA,RZ,simprocAttr,hn,g1,g2,g3,g4,g5,g6,g12,g13,g14,q1,b1,b2,b5,b6]
    refine⟨n-1,by omega,i+1,a5a kvs' ((iD o.cpls i).dst,vW (c.2+(iD o.cpls i).shift)) true,w2,⟨by omega,fun t=> ?_⟩,by simp,?_⟩
    ·rw[hs,dH,dC,←hk' t]
     unfold xK
     rw[a2j]
     by_cases e:t=((iD o.cpls i).dst,vW (c.2+(iD o.cpls i).shift))
     ·simp[e]
     ·simp[e]
    ·rw[hs,kC]
     exact hS11.pick [0,1,2,3] (by decide) rfl
   have hin:((iD o.cpls i).dst,vW (c.2+(iD o.cpls i).shift))∈stepN o r.cpl false c q i:=(hk' _).1 (by
    unfold xK
    simpa using b6)
   have hs:=hkeep (.inr hin)
   simp(disch:=omega) only[↓RA,RZ,simprocAttr,hn,g1,g2,g3,g4,g5,g6,g12,g13,g14,q1,b1,b2,b5,b6]
   exact⟨n-1,by omega,i+1,kvs',qv',⟨by omega,by rw[hs];exact hk'⟩,by simp,by rw[hs];exact hS7.pick [0,1,2,3] (by decide) rfl⟩
  have hs:=hkeep (.inl (by rw[←ey];exact fun h=>b5 ((uE o _).2 h)))
  simp(disch:=omega) only[↓RA,RZ,simprocAttr,hn,g1,g2,g3,g4,g5,g6,g12,g13,g14,q1,b1,b2,b5]
  exact⟨n-1,by omega,i+1,kvs',qv',⟨by omega,by rw[hs];exact hk'⟩,by simp,by rw[hs];exact hS7.pick [0,1,2,3] (by decide) rfl⟩
 simp(disch:=omega) only[↓RA,RZ,simprocAttr,b9E,q1]
 have hii:i=o.cpls.length:=by omega
 subst hii
 exact⟨kvs',qv',hk',hS2.pick [0,1,2] (by decide) rfl⟩
theorem a6J(o:Org)(cp:Nat)(l:List Ct)(i:Nat)(h:i<l.length):oQ o cp (l.take (i+1))=stepF o cp false (iD l i) (oQ o cp (l.take i)):=by
 unfold oQ
 rw[lU l i h,gF]
 rfl
theorem qU(o:Org)(cp:Nat)(l:List Ct):Que o (oQ o cp l):=by
 unfold oQ
 have:∀(l:List Ct)(q:List Ct),Que o q→Que o (l.foldl (fun q c=>stepF o cp false c q) q):=by
  intro l
  induction l with
  | nil=>intro q h;exact h
  | cons c l ih=>intro q h;exact ih _ (h.stepF cp false c)
 exact this l [] (Que.nil o)
theorem a9g:jD (.map none)=true:=rfl
theorem a7j(o:Org)(ho:o.In H)(hf:o.Fine)(r:Reg)(sv:Value)(hr:r.In H sv)(fv:Value)(first:List Ct)(hfi:Sl 2 jT H fv first)(hfl:first.length≤1024)(hfo:∀c∈first,tF o c=true):
 Fn prog 82 [.agg #[.string o.name,o.rv,o.dv,o.cv],.agg #[sv,.int .u64 r.cpl,.int .u64 r.off],fv] H fun rr H'=>Slx 2 jT H' (fun B=>H.length≤B) rr (uW o r first)∧St prog H H' []:=by
 refine .bU func82 rfl (by kernel_rfl) (m:=56) rfl fun l hn g0 g1 g2=> ?_
 simp(disch:=omega) only[↓RA,RB,simprocAttr,g0]
 refine(sR H).eNew 4 [(.string o.name),o.rv,o.dv,o.cv] rfl rfl (by simp[OC,((sR H).sl ho.1).cells.2.1,((sR H).sl ho.2.2.1).cells.2.1,((sR H).sl ho.2.2.2.2.1).cells.2.1]) nJ fun A1 H1 hS1=> ?_
 simp only[RT]at hS1
 simp(disch:=omega) only[↓RA,RB,simprocAttr,g1]
 refine hS1.eNew 3 [sv,(.int .u64 r.cpl),(.int .u64 r.off)] rfl rfl (by simp[OC,(hS1.sl hr.1).cells.2.1]) mQ fun A2 H2 hS2=> ?_
 simp only[RT]at hS2
 simp(disch:=omega) only[↓RA,RB,simprocAttr]
 refine hS2.bV a7r fun M1 H3 hS3=> ?_
 simp only[RT]at hS3
 simp(disch:=omega) only[↓RA,RZ,simprocAttr,a9g]
 refine hS3.eNew 1 [(.map none)] rfl rfl rfl b6o fun A3 H4 hS4=> ?_
 simp only[RT]at hS4
 simp(disch:=omega) only[↓RA,RB,simprocAttr,hn]
 refine hS4.aa 3 rfl [(.map (some M1))] rfl rfl b6o (by simp) fun H5 hS5=> ?_
 simp only[RT]at hS5
 simp(disch:=omega) only[↓RA,RZ,simprocAttr]
 refine hS5.eNew 1 [(.slice none 0 0)] rfl rfl rfl b3c fun A4 H6 hS6=> ?_
 simp only[RT]at hS6
 simp(disch:=omega) only[↓RA,RZ,simprocAttr,hn,g2,(hS6.sl hfi).len]
 have hS7:=hS6.nil 1
 simp only[RT]at hS7
 have hS8:=hS7.nil 1
 simp only[RT]at hS8
 refine Wp.aq (fun n l H'=>l.length=56∧get l 4=(ptr A2 0 3)∧get l 6=(.slice none 0 0)∧get l 8=(ptr A4 0 1)∧get l 10=(.func (.func 116) #[] #[(ptr A1 0 4),(ptr A2 0 3),(ptr A3 0 1),(ptr A4 0 1)])∧get l 16=fv∧get l 17=I first.length∧∃(i:Nat)(kvs:List (Ct×Bool))(qv ov:Value),(n+i=first.length∧∀t,xK kvs t=true↔t∈oQ o r.cpl (first.take i))∧get l 18=I i∧get l 9=ov∧St prog H H' [⟨ptr A1 0 4,0,[(.string o.name),o.rv,o.dv,o.cv]⟩,⟨ptr A2 0 3,0,[sv,(.int .u64 r.cpl),(.int .u64 r.off)]⟩,⟨.map (some M1),0,KC kvs⟩,⟨ptr A3 0 1,0,[(.map (some M1))]⟩,⟨ptr A4 0 1,0,[qv]⟩,⟨qv,2,pr (oQ o r.cpl (first.take i))⟩,⟨ov,2,pr ((first.take i).filter fun c=> !r.off.testBit c.1.toNat)⟩]) first.length ?_ ?_
 ·simp(disch:=omega) only[RB,RC,simprocAttr,hn]
  refine⟨0,[],.slice none 0 0,.slice none 0 0,⟨by omega,fun t=> ?_⟩,rfl,rfl,hS8⟩
  simp[xK,a1I,oQ]
 rintro n l H7⟨hn,g4,g6,g8,g10,g16,g17,i,kvs,qv,ov,⟨hi,hk⟩,g18,g9,hS9⟩
 simp(disch:=omega) only[↓RA,RB,simprocAttr,hn,g17,g18]
 refine iC (fun q1=> ?_) (fun q1=> ?_)
 ·have hci:=(uA o _).1 (hfo _ (iG (xs:=first) (j:=i) (by omega)))
  have hqu:=qU o r.cpl (first.take i)
  have hqs:=a6J o r.cpl first i (by omega)
  have hql:=(qU o r.cpl (first.take (i+1))).len hf
  simp(disch:=omega) only[↓RA,RZ,simprocAttr,hn,g16,g18,(hS9.sl hfi).idx,(hS9.sl hfi).aj,jT,q1]
  refine hS9.eNew 2 [I 0,I 0] rfl rfl rfl qC fun A5 H8 hS10=> ?_
  simp only[RT]at hS10
  simp(disch:=omega) only[↓RA,RZ,simprocAttr,hn,q1]
  refine hS10.aa 7 rfl [I (iD first i).1,I (iD first i).2] rfl rfl qC (by simp) fun H9 hS11=> ?_
  simp only[RT]at hS11
  simp(disch:=omega) only[↓RA,RZ,simprocAttr,hn,g10,hS11.aj 7 rfl,q1]
  have hM1:=hS11.pick (os':=[⟨.map (some M1),0,_⟩,⟨ptr A4 0 1,0,_⟩,⟨qv,2,_⟩]) [2,4,5] (by decide) rfl
  have hR1:=hS11.pick (os':=[⟨.map (some M1),0,_⟩,⟨ptr A4 0 1,0,_⟩,⟨qv,2,_⟩,⟨ptr A1 0 4,0,_⟩,⟨ptr A2 0 3,0,_⟩,⟨ptr A3 0 1,0,_⟩,⟨ov,2,_⟩,⟨ptr A5 0 2,0,_⟩]) [2,4,5,0,1,3,6,7] (by decide) rfl
  refine iK (b2N o r sv (iD first i) A1 A2 A3 A4 M1 qv (oQ o r.cpl (first.take i)) kvs hM1.aH (fun h=>⟨(hR1.frame h.forget).var 0 rfl,ho.ae (hR1.frame h.forget),(hR1.frame h.forget).var 1 rfl,(hR1.frame h.forget).var 2 rfl⟩) hk hqu hf hr.2) ?_
  rintro r H10⟨kvs',qv',rfl,hk',hT1⟩
  have hS12:=hR1.frame hT1
  simp only[RT]at hS12
  have e1:=a2N r.off (iD first i).1.toNat hr.2.2.2.2
  have e2:=a1W (r.off>>>(iD first i).1.toNat) (wU _ hr.2.2.2.2)
  have e3:=tb r.off (iD first i).1.toNat
  have htk:=lU first i (by omega)
  have hfl:(pr ((first.take i).filter fun c=> !r.off.testBit c.1.toNat)).length≤i*2:=by
   rw[iL]
   refine dP 2 ?_
   refine dL (eh _ _) ?_
   simp
   omega
  rw[←hqs]at hk'
  simp(disch:=omega) only[↓RA,RZ,simprocAttr,hn,g4,hS12.ld 4 rfl,hS12.ld 7 rfl,q1,e1,e2]
  refine iC (fun q2=> ?_) (fun q2=> ?_)
  ·have hx:([iD first i].filter fun c=> !r.off.testBit c.1.toNat)=[iD first i]:=by simp[e3,decide_eq_false (show¬r.off>>>(iD first i).1.toNat%2=1 by omega)]
   simp(disch:=omega) only[↓RA,RZ,simprocAttr,hn,g9,hS12.aj 7 rfl,q1,q2]
   refine hS12.ai [I (iD first i).1,I (iD first i).2] tG a1y rfl rfl (by simp[Value.cells]) rfl rfl (by decide) (by decide) fun w1 H11 hS13=> ?_
   simp only[RT]at hS13
   simp(disch:=omega) only[↓RA,RZ,simprocAttr,hn,q1,q2]
   refine hS13.al 6 rfl (hS13.rd 8 rfl) tG (by first|(simp;done)|(simp;omega)) fun w2 H12 hS14=> ?_
   simp only[RT]at hS14
   simp(disch:=omega) only[↓RA,RZ,simprocAttr,hn,g4,g6,g8,g10,g16,g17,g18,q1,q2]
   refine⟨n-1,by omega,i+1,kvs',qv',w2,⟨by omega,hk'⟩,by simp,rfl,?_⟩
   rw[hqs,htk,dZ,hx,kC]
   exact hS14.pick [3,4,0,5,1,2,6] (by decide) rfl
  have hx:([iD first i].filter fun c=> !r.off.testBit c.1.toNat)=[]:=by simp[e3,decide_eq_true (show r.off>>>(iD first i).1.toNat%2=1 by omega)]
  simp(disch:=omega) only[↓RA,RZ,simprocAttr,hn,g4,g6,g8,g10,g16,g17,g18,g9,q1,q2]
  refine⟨n-1,by omega,i+1,kvs',qv',ov,⟨by omega,hk'⟩,by simp,rfl,?_⟩
  rw[hqs,htk,dZ,hx,dm]
  exact hS12.pick [3,4,0,5,1,2,6] (by decide) rfl
 simp(disch:=omega) only[↓RA,RZ,simprocAttr,q1]
 have hii:i=first.length:=by omega
 subst hii
 rw[eE]at hk
 rw[eE]at hS9
 have hqu:=qU o r.cpl first
 have hoL:(pr (first.filter fun c=> !r.off.testBit c.1.toNat)).length≤2048:=by
  rw[iL]
  exact dP 2 (dL (eh _ _) hfl)
 refine Wp.aq (fun n l H'=>l.length=56∧get l 6=(.slice none 0 0)∧get l 8=(ptr A4 0 1)∧get l 9=ov∧get l 10=(.func (.func 116) #[] #[(ptr A1 0 4),(ptr A2 0 3),(ptr A3 0 1),(ptr A4 0 1)])∧∃(j:Nat)(kvs:List (Ct×Bool))(qv:Value)(q:List Ct),(n+j=1100∧bfs o r.cpl n j q=bfs o r.cpl 1100 0 (oQ o r.cpl first)∧Que o q∧∀t,xK kvs t=true↔t∈q)∧get l 13=I j∧St prog H H' [⟨ptr A1 0 4,0,[(.string o.name),o.rv,o.dv,o.cv]⟩,⟨ptr A2 0 3,0,[sv,(.int .u64 r.cpl),(.int .u64 r.off)]⟩,⟨.map (some M1),0,KC kvs⟩,⟨ptr A3 0 1,0,[(.map (some M1))]⟩,⟨ptr A4 0 1,0,[qv]⟩,⟨qv,2,pr q⟩,⟨ov,2,pr (first.filter fun c=> !r.off.testBit c.1.toNat)⟩]) 1100 ?_ ?_
 ·simp(disch:=omega) only[RB,RC,simprocAttr,hn,g6,g8,g10,g9]
  exact⟨0,kvs,qv,_,⟨rfl,rfl,hqu,hk⟩,rfl,hS9⟩
 rintro n l H13⟨hn,g6,g8,g9,g10,j,kvs,qv,q,⟨hj,hbf,hqq,hkk⟩,g13,hS15⟩
 have hql:=hqq.len hf
 simp(disch:=omega) only[↓RA,RZ,simprocAttr,hn,g8,g13,hS15.ld 4 rfl,(hS15.av 5 rfl (fun _=>rfl)).len]
 refine iC (fun q3=> ?_) (fun q3=> ?_)
 ·have hjl:j<q.length:=by omega
  simp(disch:=omega) only[↓RA,RZ,simprocAttr,hn,g8,g10,g13,hS15.ld 4 rfl,(hS15.av 5 rfl (fun _=>rfl)).idx,(hS15.av 5 rfl (fun _=>rfl)).aj,jT,q3]
  have hM2:=hS15.pick (os':=[⟨.map (some M1),0,_⟩,⟨ptr A4 0 1,0,_⟩,⟨qv,2,_⟩]) [2,4,5] (by decide) rfl
  have hR2:=hS15.pick (os':=[⟨.map (some M1),0,_⟩,⟨ptr A4 0 1,0,_⟩,⟨qv,2,_⟩,⟨ptr A1 0 4,0,_⟩,⟨ptr A2 0 3,0,_⟩,⟨ptr A3 0 1,0,_⟩,⟨ov,2,_⟩]) [2,4,5,0,1,3,6] (by decide) rfl
  refine iK (b1t o r sv (iD q j) A1 A2 A3 A4 M1 qv q kvs hM2.aH (fun h=>⟨(hR2.frame h.forget).var 0 rfl,ho.ae (hR2.frame h.forget),(hR2.frame h.forget).var 1 rfl,(hR2.frame h.forget).var 2 rfl⟩) hkk hqq hf hr.2) ?_
  rintro r H14⟨kvs',qv',rfl,hk',hT2⟩
  have hS16:=hR2.frame hT2
  simp only[RT]at hS16
  simp(disch:=omega) only[↓RA,RZ,simprocAttr,hn,g6,g8,g9,g10,g13,q3]
  obtain⟨n',rfl⟩:∃n',n=n'+1:=⟨n-1,by omega⟩
  rw[bfs,if_pos hjl]at hbf
  exact⟨n',by omega,j+1,kvs',qv',_,⟨by omega,hbf,hqq.stepF _ _ _,hk'⟩,by simp,hS16.pick [3,4,0,5,1,2,6] (by decide) rfl⟩
 have hbq:bfs o r.cpl 1100 0 (oQ o r.cpl first)=q:=by
  rw[←hbf]
  cases n with
  | zero=>rfl
  | succ n=>rw[bfs,if_neg (by omega)]
 have hqp:(pr q).length≤2048:=by rw[iL];omega
 simp(disch:=omega) only[↓RA,RZ,simprocAttr,hn,g8,g9,hS15.ld 4 rfl,q3]
 refine hS15.al 6 rfl (hS15.rd 5 rfl) tG (by first|(simp;done)|(simp;omega)) fun w3 H15 hS17=> ?_
 simp only[RT]at hS17
 simp(disch:=omega) only[↓RA,RZ,simprocAttr,hn,q3]
 rw[←kC,←hbq]at hS17
 have hLL:((first.filter fun c=> !r.off.testBit c.1.toNat)++bfs o r.cpl 1100 0 (oQ o r.cpl first)).length<1000000:=by
  have h1:=eh (fun c:Ct=> !r.off.testBit c.1.toNat) first
  rw[dr,hbq]
  omega
 refine c3W hS17 6 rfl (iu hLL (by decide)) fun HS hSS=> ?_
 simp only[gX,fw]at hSS
 simp(disch:=omega) only[↓RA,RZ,simprocAttr,hn,q3]
 have hM3:=hSS.pick (os':=[⟨w3,2,_⟩]) [6] (by decide) rfl
 have hR3:=hSS.pick (os':=[⟨w3,2,_⟩,⟨ptr A1 0 4,0,_⟩,⟨ptr A2 0 3,0,_⟩,⟨.map (some M1),0,_⟩,⟨ptr A3 0 1,0,_⟩,⟨ptr A4 0 1,0,_⟩,⟨qv,2,_⟩]) [6,0,1,2,3,4,5] (by decide) rfl
 refine iK (a5Y hM3.aH (by rw[pG];exact iu hLL (by decide))) ?_
 rintro r H16⟨rest,hb,hrd,hT3⟩
 have hS18:=hR3.frame hT3
 simp only[RT]at hS18
 have hrr:=hrd _ (hS18.rd 0 rfl)
 have hrc:=hrr.cells
 simp(disch:=omega) only[↓RA,RZ,simprocAttr,hn,c5c,q3]
 refine⟨⟨⟨hrr,jG,by decide⟩,fun b h=> ?_⟩,hS18.forget⟩
 rcases hS18.new _ (dY ..) b (hb b h)with h|h
 ·exact h
 ·exact h.elim
theorem b5J{α:Type}[Inhabited α][DecidableEq α](l:List α):(dd l).length≤l.length:=c1s l l.length
theorem a3w(rs:List Rk)(s:Stp)(key:Int)(h:∀g∈s.segs,g.draws.length≤8):(sL rs s key).length≤8:=by
 unfold sL
 refine dL (b5J _) ?_
 rw[pG,dB]
 refine dL (eh _ _) ?_
 unfold a8V
 split
 ·simp
 ·exact h _ (iG (sW (p:=b0c s key) (n:=s.segs.length) (by omega)))
def oH(o:Org)(rg:Reg)(c:Ct)(k:Nat):List Ct:=(List.range k).flatMap fun i=>if(iD rg.stops c.1.toNat).testBit i then sL o.ranks (iD (iD o.dvs c.1.toNat).stops i) c.2 else[]
theorem a0y(o:Org)(rg:Reg)(c:Ct)(k:Nat):oH o rg c (k+1)=oH o rg c k++(if(iD rg.stops c.1.toNat).testBit k then sL o.ranks (iD (iD o.dvs c.1.toNat).stops k) c.2 else[]):=by
 unfold oH
 rw[eu,dE,dM,fy,dm]
theorem a0i{o:Org}(hf:o.Fine)(rg:Reg){c:Ct}(hc:tF o c=true):∀k,k≤(iD o.dvs c.1.toNat).stops.length→(oH o rg c k).length≤k*8
 | 0,_=>by simp[oH]
 | k+1,hk=>by
   have h:=a0i hf rg hc k (by omega)
   have hc:=(uA o c).1 hc
   rw[a0y,dr]
   split
   ·have:=a3w o.ranks (iD (iD o.dvs c.1.toNat).stops k) c.2 (hf.draws c.1.toNat (by omega) _ (iG (by omega)))
    omega
   ·simp
    omega
theorem b3b{o:Org}(hf:o.Fine)(rg:Reg){c:Ct}(hc:tF o c=true):(rA o rg c).length≤480:=by
 have h:=a0i hf rg hc _ (dj _)
 have h1:=(uA o c).1 hc
 have:=hf.stops c.1.toNat (by omega)
 have e:rA o rg c=oH o rg c (iD o.dvs c.1.toNat).stops.length:=rfl
 rw[e]
 omega
theorem vJ{o:Org}(hf:o.Fine)(rg:Reg):∀(l:List Ct),(∀c∈l,tF o c=true)→(l.flatMap (rA o rg)).length≤l.length*480
 | [],_=>by simp
 | c::l,h=>by
   rw[dM,dr,eo]
   have h1:=vJ hf rg l fun x hx=>h x (by simp[hx])
   have h2:=b3b hf rg (h c (by simp))
   omega
theorem b1R(o:Org)(ho:o.In H)(hf:o.Fine)(rg:Reg)(sv:Value)(hr:rg.In H sv)(hrl:rg.stops.length=o.dvs.length)(fv:Value)(cs:List Ct)(hfi:Sl 2 jT H fv cs)(hfl:cs.length≤2048)(hfo:∀c∈cs,tF o c=true):
 Fn prog 84 [.agg #[.string o.name,o.rv,o.dv,o.cv],.agg #[sv,.int .u64 rg.cpl,.int .u64 rg.off],fv] H fun rr H'=>∃(gv:Value)(rest:List Value),rr=lB gv 2 0 (a5y o rg cs).length∧St prog H H' [⟨gv,2,pr (a5y o rg cs)++rest⟩]:=by
 refine .bU func84 rfl (by kernel_rfl) (m:=55) rfl fun l hn g0 g1 g2=> ?_
 simp(disch:=omega) only[↓RA,RB,simprocAttr,g0]
 refine(sR H).eNew 4 [(.string o.name),o.rv,o.dv,o.cv] rfl rfl (by simp[OC,((sR H).sl ho.1).cells.2.1,((sR H).sl ho.2.2.1).cells.2.1,((sR H).sl ho.2.2.2.2.1).cells.2.1]) nJ fun A1 H1 hS1=> ?_
 simp only[RT]at hS1
 simp(disch:=omega) only[↓RA,RB,simprocAttr,g1]
 refine hS1.eNew 3 [sv,(.int .u64 rg.cpl),(.int .u64 rg.off)] rfl rfl (by simp[OC,(hS1.sl hr.1).cells.2.1]) mQ fun A2 H2 hS2=> ?_
 simp only[RT]at hS2
 simp(disch:=omega) only[↓RA,RZ,simprocAttr,hn,g2,(hS2.sl hfi).len]
 have hS3:=hS2.nil 1
 simp only[RT]at hS3
 refine Wp.aq (fun n l H'=>l.length=55∧get l 3=(ptr A1 0 4)∧get l 4=(ptr A2 0 3)∧get l 6=(.slice none 0 0)∧get l 12=fv∧get l 13=I cs.length∧∃(i:Nat)(ov:Value),(n+i=cs.length)∧get l 14=I i∧get l 7=ov∧St prog H H' [⟨ptr A1 0 4,0,[(.string o.name),o.rv,o.dv,o.cv]⟩,⟨ptr A2 0 3,0,[sv,(.int .u64 rg.cpl),(.int .u64 rg.off)]⟩,⟨ov,2,pr ((cs.take i).flatMap (rA o rg))⟩]) cs.length ?_ ?_
 ·simp(disch:=omega) only[RB,RC,simprocAttr,hn]
  exact⟨0,.slice none 0 0,by omega,rfl,rfl,hS3⟩
 rintro n l H3⟨hn,g3,g4,g6,g12,g13,i,ov,hi,g14,g7,hS4⟩
 simp(disch:=omega) only[↓RA,RB,simprocAttr,hn,g13,g14]
 refine iC (fun q1=> ?_) (fun q1=> ?_)
 ·have hci:=(uA o _).1 (hfo _ (iG (xs:=cs) (j:=i) (by omega)))
  obtain⟨a,ha⟩:∃a:Nat,(iD cs i).1=a:=⟨(iD cs i).1.toNat,by omega⟩
  have ha1:a<o.dvs.length:=by omega
  have hst:=(ho.2.2.2.1 _ (iG ha1)).2.2
  have hs60:=hf.stops a ha1
  simp(disch:=omega) only[↓RA,RZ,simprocAttr,hn,g12,g14,(hS4.sl hfi).idx,(hS4.sl hfi).aj,jT,q1]
  refine hS4.eNew 2 [I 0,I 0] rfl rfl rfl qC fun A3 H4 hS5=> ?_
  simp only[RT]at hS5
  simp(disch:=omega) only[↓RA,RZ,simprocAttr,hn,q1]
  refine hS5.aa 3 rfl [I (iD cs i).1,I (iD cs i).2] rfl rfl qC (by simp) fun H5 hS6=> ?_
  simp only[RT]at hS6
  simp(disch:=omega) only[↓RA,RZ,simprocAttr,hn,g3,q1]
  simp only[ha]at hS6
  simp(disch:=omega) only[↓RA,RZ,simprocAttr,hn,hS6.ld 0 rfl,hS6.ld 3 rfl,(hS6.sl ho.2.2.1).idx,(hS6.sl ho.2.2.1).bd,(hS6.sl ho.2.2.1).ld,Dvn.cells,(hS6.sl (ho.2.2.2.1 (iD o.dvs a) (iG (by omega))).1).len,q1,ha]
  have hta:(iD cs i).1.toNat=a:=by omega
  have htk:=lU cs i (by omega)
  have hsx:=hr.2.2.1 _ (iG (xs:=rg.stops) (j:=a) (by omega))
  have hacc:(pr ((cs.take i).flatMap (rA o rg))).length≤2048*960:=by
   rw[iL]
   have:=vJ hf rg (cs.take i) fun c hc=>hfo c (List.mem_of_mem_take hc)
   rw[eW]at this
   omega
  refine Wp.aq (fun n l H'=>l.length=55∧get l 3=(ptr A1 0 4)∧get l 4=(ptr A2 0 3)∧get l 6=(.slice none 0 0)∧get l 9=(ptr A3 0 2)∧get l 12=fv∧get l 13=I cs.length∧get l 14=I i∧get l 24=(iD o.dvs a).sv∧get l 25=I (iD o.dvs a).stops.length∧∃(k:Nat)(ow:Value),(n+k=(iD o.dvs a).stops.length)∧get l 26=I k∧get l 7=ow∧St prog H H' [⟨ptr A1 0 4,0,[(.string o.name),o.rv,o.dv,o.cv]⟩,⟨ptr A2 0 3,0,[sv,(.int .u64 rg.cpl),(.int .u64 rg.off)]⟩,⟨ow,2,pr ((cs.take i).flatMap (rA o rg)++oH o rg (iD cs i) k)⟩,⟨ptr A3 0 2,0,[I a,I (iD cs i).2]⟩]) (iD o.dvs a).stops.length ?_ ?_
  ·simp(disch:=omega) only[RB,RC,simprocAttr,hn,g3,g4,g6,g12,g13,g14,g7]
   refine⟨0,ov,by omega,rfl,rfl,?_⟩
   rw[show oH o rg (iD cs i) 0=[]from rfl,dm]
   exact hS6
  rintro n l H6⟨hn,g3,g4,g6,g9,g12,g13,g14,g24,g25,k,ow,hj,g26,g7,hS7⟩
  simp(disch:=omega) only[↓RA,RB,simprocAttr,hn,g25,g26]
  refine iC (fun q2=> ?_) (fun q2=> ?_)
  ·have e1:=a2N (iD rg.stops a) k hsx
   have e2:=a1W (iD rg.stops a>>>k) (wU k hsx)
   have e3:=tb (iD rg.stops a) k
   have hsu:=a0y o rg (iD cs i) k
   rw[hta]at hsu
   have hKl:=a0i hf rg (hfo _ (iG (xs:=cs) (j:=i) (by omega))) k (by rw[hta];omega)
   have hKp:(pr (oH o rg (iD cs i) k)).length≤2000:=by rw[iL];omega
   simp(disch:=omega) only[↓RA,RZ,simprocAttr,hn,g24,g26,(hS7.sl (ho.2.2.2.1 (iD o.dvs a) (iG (by omega))).1).idx,(hS7.sl (ho.2.2.2.1 (iD o.dvs a) (iG (by omega))).1).aj,Stp.cells,q2]
   refine hS7.eNew 4 [(.string ⟨#[]⟩),I 0,I 0,(.slice none 0 0)] rfl rfl rfl nA fun A4 H7 hS8=> ?_
   simp only[RT]at hS8
   simp(disch:=omega) only[↓RA,RZ,simprocAttr,hn,q2]
   refine hS8.aa 4 rfl [(.string (iD (iD o.dvs a).stops k).name),I (iD (iD o.dvs a).stops k).num,I (iD (iD o.dvs a).stops k).den,(iD (iD o.dvs a).stops k).gv] rfl (by simp[OC,(hS8.sl ((ho.2.2.2.1 (iD o.dvs a) (iG (by omega))).2.1 (iD (iD o.dvs a).stops k) (iG (by omega))).1).cells.2.1]) nA (by simp) fun H8 hS9=> ?_
   simp only[RT]at hS9
   simp(disch:=omega) only[↓RA,RZ,simprocAttr,hn,g4,g9,hS9.ld 1 rfl,hS9.ld 3 rfl,(hS9.sl hr.1).idx,(hS9.sl hr.1).ld,one,u64,q2,e1,e2]
   refine iC (fun q3=> ?_) (fun q3=> ?_)
   ·have hsu:oH o rg (iD cs i) (k+1)=oH o rg (iD cs i) k++sL o.ranks (iD (iD o.dvs a).stops k) (iD cs i).2:=by rw[hsu,e3,if_pos (decide_eq_true (by omega))]
    have hpp:(pr (sL o.ranks (iD (iD o.dvs a).stops k) (iD cs i).2)).length≤16:=by
     rw[iL]
     exact dP 2 (a3w _ _ _ (hf.draws a ha1 _ (iG (by omega))))
    simp(disch:=omega) only[↓RA,RZ,simprocAttr,hn,g3,g9,g7,hS9.ld 0 rfl,hS9.aj 4 rfl,hS9.ld 3 rfl,q2,q3]
    refine iK (b4T o.rv o.ranks (hS9.sl ho.1) (fun q hq=>(ho.2.1 q hq).ae hS9) ho.2.2.2.2.2.1 (iD (iD o.dvs a).stops k) (((ho.2.2.2.1 _ (iG ha1)).2.1 _ (iG (by omega))).ae hS9) (hf.draws a ha1 _ (iG (by omega))) (iD cs i).2) ?_
    rintro r H9⟨hx,hT1⟩
    have hS10:=hS9.trans hT1
    simp only[RT]at hS10
    simp(disch:=omega) only[↓RA,RZ,simprocAttr,hn,q2,q3]
    refine hS10.al 2 rfl hx.1.rd c0t (by have h:=hpp;unfold pr at h;rw[kC,dr];omega) fun w1 H10 hS11=> ?_
    simp only[RT]at hS11
    simp(disch:=omega) only[↓RA,RZ,simprocAttr,hn,g3,g4,g6,g9,g12,g13,g14,g24,g25,g26,q2,q3]
    refine⟨n-1,by omega,k+1,w1,by omega,by simp,rfl,?_⟩
    rw[hsu,←dG,kC]
    exact hS11.pick [0,1,2,3] (by decide) rfl
   have hsu:oH o rg (iD cs i) (k+1)=oH o rg (iD cs i) k:=by rw[hsu,e3,if_neg (by rw[decide_eq_true_iff];omega),dm]
   simp(disch:=omega) only[↓RA,RZ,simprocAttr,hn,g3,g4,g6,g9,g12,g13,g14,g24,g25,g26,g7,q2,q3]
   refine⟨n-1,by omega,k+1,ow,by omega,by simp,rfl,?_⟩
   rw[hsu]
   exact hS9.pick [0,1,2,3] (by decide) rfl
  simp(disch:=omega) only[↓RA,RZ,simprocAttr,hn,g3,g4,g6,g12,g13,g14,g7,q2]
  refine⟨cs.length-(i+1),by omega,i+1,ow,by omega,by simp,rfl,?_⟩
  have hkk:k=(iD o.dvs a).stops.length:=by omega
  rw[htk,dE,dM,fy,dm]
  have e:rA o rg (iD cs i)=oH o rg (iD cs i) k:=by rw[hkk,←hta];rfl
  rw[e]
  exact hS7.pick [0,1,2] (by decide) rfl
 simp(disch:=omega) only[↓RA,RZ,simprocAttr,hn,g7,q1]
 have hii:i=cs.length:=by omega
 subst hii
 rw[eE]at hS4
 have hLL:(cs.flatMap (rA o rg)).length<1000000:=by
  have:=vJ hf rg cs hfo
  omega
 refine c4D hS4 2 rfl (iu hLL (by decide)) fun HS hSS=> ?_
 simp only[gX,fw]at hSS
 simp(disch:=omega) only[↓RA,RZ,simprocAttr,hn,g7,q1]
 have hM1:=hSS.pick (os':=[⟨ov,2,_⟩]) [2] (by decide) rfl
 have hR1:=hSS.pick (os':=[⟨ov,2,_⟩,⟨ptr A1 0 4,0,_⟩,⟨ptr A2 0 3,0,_⟩]) [2,0,1] (by decide) rfl
 refine iK (zA hM1.aH (by rw[pG];exact iu hLL (by decide))) ?_
 rintro r H11⟨rest,rfl,hT2⟩
 have hS12:=hR1.frame hT2
 simp only[RT]at hS12
 obtain⟨rc,hrcE⟩:∃w,w=lB ov 2 0 (dd (wQ (cs.flatMap (rA o rg)))).length:=⟨_,rfl⟩
 have hrr:RdAt H11 rc 2 (pr (dd (wQ (cs.flatMap (rA o rg))))):=hrcE▸uD (hS12.rd 0 rfl)
 have hrc:=hrr.cells
 rw[←hrcE]
 simp(disch:=omega) only[↓RA,RZ,simprocAttr,hn,c5v,q1]
 exact⟨ov,rest,hrcE,hS12.pick [0] (by decide) rfl⟩
end Go.Ds
namespace Go.Ds
open Go.Proofs Go.Proofs.Tryz
variable {H:Heap}
set_option maxRecDepth 10000
theorem Sl.bA{α:Type}{n:Nat}{cel:α→List Value}{v:Value}{xs:List α}(h:Sl n cel H v xs):jW v=true:=by
 rcases h.rd with⟨rfl,_⟩|⟨A,i,e,row,ty,rw,lo,ver,n,_,_,_,_,_,_,rfl⟩<;>rfl
theorem c1z{α:Type}[Inhabited α][DecidableEq α]{l:List α}{x:α}(h:x∈dd l):x∈l:=by
 unfold dd ddN at h
 obtain⟨i,hi,rfl⟩:=dD.1 h
 exact iG (dz.1 (ee.1 hi).1)
theorem b7E{l:List (Int×Int)}{x:Int×Int}:x∈wQ l↔x∈l:=(pN l).mem_iff
theorem Que.bfs{o:Org}(cp:Nat):∀(n i:Nat){q:List Ct},Que o q→Que o (bfs o cp n i q)
 | 0,_,_,h=>h
 | n+1,i,q,h=>by
   rw[Go.Ds.bfs]
   split
   ·exact Que.bfs cp n (i+1) (h.stepF cp true _)
   ·exact h
theorem a2u{o:Org}{rg:Reg}{l:List Ct}(hl:∀c∈l,tF o c=true):∀c∈uW o rg l,tF o c=true:=by
 intro c hc
 unfold uW at hc
 have hc:=b7E.1 (c1z hc)
 rcases dH.1 hc with h|h
 ·exact hl c (ee.1 h).1
 ·exact((qU o rg.cpl l).bfs rg.cpl 1100 0).2 c h
theorem a1z{o:Org}(hf:o.Fine){rg:Reg}{l:List Ct}(hl:l.length≤1024):(uW o rg l).length≤2048:=by
 unfold uW
 refine dL (b5J _) ?_
 rw[pG,dr]
 have h1:=eh (fun c:Ct=> !rg.off.testBit c.1.toNat) l
 have h2:=((qU o rg.cpl l).bfs rg.cpl 1100 0).len hf
 omega
theorem a4X(o:Org)(ho:o.In H)(hf:o.Fine)(rg:Reg)(sv:Value)(hr:rg.In H sv)(hrl:rg.stops.length=o.dvs.length)(fv:Value)(cs:List Ct)(hfi:Sl 2 jT H fv cs)(hfl:cs.length≤1024)(hfo:∀c∈cs,tF o c=true):
 Fn prog 48 [.agg #[.string o.name,o.rv,o.dv,o.cv],.agg #[sv,.int .u64 rg.cpl,.int .u64 rg.off],fv] H fun rr H'=>∃(gv:Value)(rest:List Value),rr=lB gv 2 0 (xI o rg cs).length∧St prog H H' [⟨gv,2,pr (xI o rg cs)++rest⟩]:=by
 refine .bU func48 rfl (by kernel_rfl) (m:=14) rfl fun l hn g0 g1 g2=> ?_
 simp(disch:=omega) only[↓RA,RB,simprocAttr,g0]
 refine(sR H).eNew 4 [(.string o.name),o.rv,o.dv,o.cv] rfl rfl (by simp[OC,((sR H).sl ho.1).cells.2.1,((sR H).sl ho.2.2.1).cells.2.1,((sR H).sl ho.2.2.2.2.1).cells.2.1]) nJ fun A1 H1 hS1=> ?_
 simp only[RT]at hS1
 simp(disch:=omega) only[↓RA,RB,simprocAttr,g1]
 refine hS1.eNew 3 [sv,(.int .u64 rg.cpl),(.int .u64 rg.off)] rfl rfl (by simp[OC,(hS1.sl hr.1).cells.2.1]) mQ fun A2 H2 hS2=> ?_
 simp only[RT]at hS2
 simp(disch:=omega) only[↓RA,RB,simprocAttr]
 refine Wp.aS kG [(0,6),(1,6)] (by kernel_rfl) (by kernel_rfl) ?_
 simp(disch:=omega) only[↓RA,RZ,simprocAttr,hn,g2,hS2.aj 0 rfl,hS2.aj 1 rfl]
 refine iK (a7j o (ho.ae hS2) hf rg sv (hr.ae hS2) fv cs (hS2.sl hfi) hfl hfo) ?_
 rintro r H3⟨hx,hT1⟩
 have hS3:=hS2.trans hT1
 simp only[RT]at hS3
 simp(disch:=omega) only[↓RA,RZ,simprocAttr,hn]
 refine iK (b1R o (ho.ae hS3) hf rg sv (hr.ae hS3) hrl r (uW o rg cs) hx.1 (a1z hf hfl) (a2u hfo)) ?_
 rintro r H4⟨gv,rest,he2,hT2⟩
 have hS4:=hS3.trans hT2
 simp only[RT]at hS4
 have hx2:Slx 2 jT H4 (fun B=>H.length≤B) r (xI o rg cs):=he2▸vR (hS4.pick [2] (by decide) rfl)
 simp(disch:=omega) only[↓RA,RZ,simprocAttr,hn,hS3.aj 0 rfl,hS3.aj 1 rfl,c5M]
 exact⟨gv,rest,he2,hS4.pick [2] (by decide) rfl⟩
def rgc(p:Value×Reg):List Value:=[p.1,.int .u64 p.2.cpl,.int .u64 p.2.off]
def vI(o:Org)(l:List (Value×Reg)):Int:=if organE o≠0 then organE o else lO (fun j=>mB o (iD l j).2) l.length
theorem b2i(o:Org)(ho:o.In H)(lv:Value)(xs:List (Value×Reg))(hl:Sl 3 rgc H lv xs)(hle:xs.length<1000000000)(hr:∀p∈xs,p.2.In H p.1):
 Fn prog 83 [.agg #[.string o.name,o.rv,o.dv,o.cv],lv] H fun r H'=>r=I (vI o xs)∧St prog H H' []:=by
 refine .aD func83 rfl (by kernel_rfl) (m:=27) rfl fun l hn g0 g1=> ?_
 simp(disch:=omega) only[↓RA,RB,simprocAttr,g0]
 refine(sR H).eNew 4 [(.string o.name),o.rv,o.dv,o.cv] rfl rfl (by simp[OC,((sR H).sl ho.1).cells.2.1,((sR H).sl ho.2.2.1).cells.2.1,((sR H).sl ho.2.2.2.2.1).cells.2.1]) nJ fun A1 H1 hS1=> ?_
 simp only[RT]at hS1
 simp(disch:=omega) only[↓RA,RZ,simprocAttr,hn,hS1.aj 0 rfl]
 refine hS1.cF (a1S o (ho.ae hS1)) fun H2 hS2=> ?_
 simp(disch:=omega) only[↓RA,RB,simprocAttr,hn]
 refine iC (fun h1=> ?_) (fun h1=> ?_)
 ·simp(disch:=omega) only[↓RA,RZ,simprocAttr,hn,c1a,h1]
  exact⟨by rw[vI,if_pos h1],hS2.forget⟩
 have hE:vI o xs=lO (fun j=>mB o (iD xs j).2) xs.length:=by rw[vI,if_neg h1]
 simp(disch:=omega) only[↓RA,RZ,simprocAttr,hn,g1,(hS2.sl hl).len,h1]
 refine Wp.aq (fun n l H'=>l.length=27∧get l 2=(ptr A1 0 4)∧get l 14=lv∧get l 15=I xs.length∧∃(j:Nat),(n+j=xs.length∧∀q,q<j→mB o (iD xs q).2=0)∧get l 16=I j∧St prog H H' [⟨ptr A1 0 4,0,[(.string o.name),o.rv,o.dv,o.cv]⟩]) xs.length ?_ ?_
 ·simp(disch:=omega) only[RB,RC,simprocAttr,hn]
  exact⟨0,⟨by omega,fun q hq=>absurd hq (dJ _)⟩,rfl,hS2⟩
 rintro n l H3⟨hn,g2,g14,g15,j,⟨hj,hz⟩,g16,hS3⟩
 simp(disch:=omega) only[↓RA,RB,simprocAttr,hn,g15,g16]
 refine iC (fun q1=> ?_) (fun q1=> ?_)
 ·simp(disch:=omega) only[↓RA,RZ,simprocAttr,hn,g14,g16,(hS3.sl hl).idx,(hS3.sl hl).aj,rgc,q1]
  refine hS3.eNew 3 [(.slice none 0 0),(.int .u64 0),(.int .u64 0)] rfl rfl rfl mQ fun A2 H4 hS4=> ?_
  simp only[RT]at hS4
  simp(disch:=omega) only[↓RA,RZ,simprocAttr,hn,q1]
  refine hS4.aa 1 rfl [(iD xs j).1,(.int .u64 (iD xs j).2.cpl),(.int .u64 (iD xs j).2.off)] rfl (by simp[OC,(hS4.sl (hr (iD xs j) (iG (by omega))).1).cells.2.1]) mQ (by simp) fun H5 hS5=> ?_
  simp only[RT]at hS5
  simp(disch:=omega) only[↓RA,RZ,simprocAttr,hn,g2,hS5.aj 0 rfl,hS5.aj 1 rfl,q1]
  refine hS5.cF (b5y o (ho.ae hS5) (iD xs j).2 (iD xs j).1 ((hr _ (iG (by omega))).ae hS5)) fun H6 hS6=> ?_
  simp(disch:=omega) only[↓RA,RZ,simprocAttr,hn,q1]
  refine iC (fun q2=> ?_) (fun q2=> ?_)
  ·simp(disch:=omega) only[↓RA,RZ,simprocAttr,hn,c1a,q1,q2]
   exact⟨by rw[hE,oS (fun j=>mB o (iD xs j).2) xs.length j (by omega) q2 hz],hS6.forget⟩
  simp(disch:=omega) only[↓RA,RZ,simprocAttr,hn,g2,g14,g15,g16,q1,q2]
  exact⟨n-1,by omega,j+1,⟨by omega,fun q hq=>by rcases dw.1 hq with e|e;(· exact hz q e);(· rw[e];exact dN.1 q2)⟩,by simp,hS6.pick [0] (by decide) rfl⟩
 simp(disch:=omega) only[↓RA,RZ,simprocAttr,hn,c1a,q1]
 exact⟨by rw[hE,kT (fun j=>mB o (iD xs j).2) xs.length fun q hq=>hz q (by omega)],hS3.forget⟩
def a5o(o:Org)(rg:Reg)(c:Ct):Int:=if mB o rg≠0 then mB o rg else a0G o c
theorem a7h(o:Org)(sv:Value)(rg:Reg):vI o [(sv,rg)]=mB o rg:=by
 unfold vI
 split
 ·rename_i h
  unfold mB
  rw[if_pos h]
 ·by_cases h:mB o rg=0
  ·rw[h]
   exact kT _ _ fun j hj=>by
    have:j=0:=by simpa using hj
    rw[this]
    exact h
  ·exact oS (fun j=>mB o (iD [(sv,rg)] j).2) 1 0 (by decide) h fun j hj=>absurd hj (dJ _)
theorem c1A(o:Org)(ho:o.In H)(rg:Reg)(sv:Value)(hr:rg.In H sv)(c:Ct):
 Fn prog 79 [.agg #[.string o.name,o.rv,o.dv,o.cv],.agg #[sv,.int .u64 rg.cpl,.int .u64 rg.off],.agg #[I c.1,I c.2]] H fun r H'=>r=I (a5o o rg c)∧St prog H H' []:=by
 refine .bU func79 rfl (by kernel_rfl) (m:=18) rfl fun l hn g0 g1 g2=> ?_
 simp(disch:=omega) only[↓RA,RB,simprocAttr,g0]
 refine(sR H).eNew 4 [(.string o.name),o.rv,o.dv,o.cv] rfl rfl (by simp[OC,((sR H).sl ho.1).cells.2.1,((sR H).sl ho.2.2.1).cells.2.1,((sR H).sl ho.2.2.2.2.1).cells.2.1]) nJ fun A1 H1 hS1=> ?_
 simp only[RT]at hS1
 simp(disch:=omega) only[↓RA,RB,simprocAttr,g1]
 refine hS1.eNew 3 [sv,(.int .u64 rg.cpl),(.int .u64 rg.off)] rfl rfl (by simp[OC,(hS1.sl hr.1).cells.2.1]) mQ fun A2 H2 hS2=> ?_
 simp only[RT]at hS2
 simp(disch:=omega) only[↓RA,RB,simprocAttr,g2]
 refine hS2.eNew 2 [I c.1,I c.2] rfl rfl rfl qC fun A3 H3 hS3=> ?_
 simp only[RT]at hS3
 simp(disch:=omega) only[↓RA,RZ,simprocAttr,hn,hS3.aj 0 rfl,hS3.aj 1 rfl]
 refine hS3.ai [sv,(.int .u64 rg.cpl),(.int .u64 rg.off)] c3T c4n rfl rfl (by first|(simp[];done)|simp[Value.cells]) (by first|(simp[];done)|simp[Value.cells]) (by simp[OC,(hS3.sl hr.1).cells.2.1]) (by decide) (by decide) fun w1 H4 hS4=> ?_
 simp only[RT]at hS4
 simp(disch:=omega) only[↓RA,RZ,simprocAttr,hn]
 refine hS4.cF (b2i o (ho.ae hS4) w1 [(sv,rg)] (hS4.av 3 rfl (fun _=>rfl)) (by simp) (by intro p hp;rw[dC.1 hp];exact hr.ae hS4)) fun H5 hS5=> ?_
 have hsc:=a7h o sv rg
 simp(disch:=omega) only[↓RA,RB,simprocAttr,hn,hsc]
 refine iC (fun h1=> ?_) (fun h1=> ?_)
 ·simp(disch:=omega) only[↓RA,RZ,simprocAttr,hn,c2n,hsc,h1]
  exact⟨by rw[a5o,if_pos h1],hS5.forget⟩
 simp(disch:=omega) only[↓RA,RZ,simprocAttr,hn,hS5.aj 0 rfl,hS5.aj 2 rfl,hsc,h1]
 refine hS5.cF (wP o (ho.ae hS5) c) fun H6 hS6=> ?_
 simp(disch:=omega) only[↓RA,RZ,simprocAttr,hn,c2n,hsc,h1]
 exact⟨by rw[a5o,if_neg h1],hS6.forget⟩
def kZ(o:Org)(rg:Reg)(c:Ct):List Ct:=if a5o o rg c=0 then xI o rg [c]else[]
theorem qQ{o:Org}{rg:Reg}(h:mB o rg=0):organE o=0∧rg.stops.length=o.dvs.length:=by
 unfold mB at h
 split at h
 ·rename_i hh;exact absurd h hh
 rename_i h1
 split at h
 ·omega
 exact⟨dN.1 h1,by omega⟩
theorem a3I{o:Org}{rg:Reg}{c:Ct}(h:a5o o rg c=0):mB o rg=0∧tF o c=true:=by
 unfold a5o at h
 split at h
 ·rename_i hh;exact absurd h hh
 ·rename_i hh
  exact⟨dN.1 hh,(uE o c).1 h⟩
theorem b4K(o:Org)(ho:o.In H)(rg:Reg)(sv:Value)(hr:rg.In H sv)(c:Ct):
 Fn prog 43 [.agg #[.string o.name,o.rv,o.dv,o.cv],.agg #[sv,.int .u64 rg.cpl,.int .u64 rg.off],.agg #[I c.1,I c.2]] H fun r H'=>∃pv,r=.tuple #[pv,I (a5o o rg c)]∧∃(gv:Value)(rest:List Value),pv=lB gv 2 0 (kZ o rg c).length∧St prog H H' [⟨gv,2,pr (kZ o rg c)++rest⟩]:=by
 refine .bU func43 rfl (by kernel_rfl) (m:=21) rfl fun l hn g0 g1 g2=> ?_
 simp(disch:=omega) only[↓RA,RB,simprocAttr,g0]
 refine(sR H).eNew 4 [(.string o.name),o.rv,o.dv,o.cv] rfl rfl (by simp[OC,((sR H).sl ho.1).cells.2.1,((sR H).sl ho.2.2.1).cells.2.1,((sR H).sl ho.2.2.2.2.1).cells.2.1]) nJ fun A1 H1 hS1=> ?_
 simp only[RT]at hS1
 simp(disch:=omega) only[↓RA,RB,simprocAttr,g1]
 refine hS1.eNew 3 [sv,(.int .u64 rg.cpl),(.int .u64 rg.off)] rfl rfl (by simp[OC,(hS1.sl hr.1).cells.2.1]) mQ fun A2 H2 hS2=> ?_
 simp only[RT]at hS2
 simp(disch:=omega) only[↓RA,RB,simprocAttr,g2]
 refine hS2.eNew 2 [I c.1,I c.2] rfl rfl rfl qC fun A3 H3 hS3=> ?_
 simp only[RT]at hS3
 simp(disch:=omega) only[↓RA,RZ,simprocAttr,hn,hS3.aj 0 rfl,hS3.aj 1 rfl,hS3.aj 2 rfl]
 refine hS3.cF (c1A o (ho.ae hS3) rg sv (hr.ae hS3) c) fun H4 hS4=> ?_
 simp(disch:=omega) only[↓RA,RB,simprocAttr,hn]
 refine iC (fun h1=> ?_) (fun h1=> ?_)
 ·simp(disch:=omega) only[↓RA,RZ,simprocAttr,hn,c2B,h1]
  rw[show kZ o rg c=[]from if_neg h1]
  exact⟨.slice none 0 0,rfl,.slice none 0 0,[],rfl,hS4.forget.nil 1⟩
 have h0:=dN.1 h1
 obtain⟨hz1,hz2⟩:=a3I h0
 obtain⟨hz3,hz4⟩:=qQ hz1
 simp(disch:=omega) only[↓RA,RZ,simprocAttr,hn,hS4.aj 0 rfl,hS4.aj 1 rfl,hS4.aj 2 rfl,h1]
 refine hS4.ai [I c.1,I c.2] tG a1y rfl rfl (by simp[Value.cells]) rfl rfl (by decide) (by decide) fun w1 H5 hS5=> ?_
 simp only[RT]at hS5
 simp(disch:=omega) only[↓RA,RZ,simprocAttr,hn,h1]
 refine iK (a4X o (ho.ae hS5) (Org.bL hz3) rg sv (hr.ae hS5) hz4 w1 [c] (hS5.av 3 rfl jG) (by simp) (by intro x hx;rw[dC.1 hx];exact hz2)) ?_
 rintro r H6⟨gv,rest,he2,hT2⟩
 have hS6:=hS5.trans hT2
 simp only[RT]at hS6
 have hx2:Slx 2 jT H6 (fun B=>H.length≤B) r (xI o rg [c]):=he2▸vR (hS6.pick [4] (by decide) rfl)
 simp(disch:=omega) only[↓RA,RZ,simprocAttr,hn,c2B,h1,hx2.1.bA]
 rw[show kZ o rg c=xI o rg [c]from if_pos h0]
 exact⟨r,by rw[h0],gv,rest,he2,hS6.pick [4] (by decide) rfl⟩
theorem c4x(o:Org)(ho:o.In H)(rg:Reg)(sv:Value)(hr:rg.In H sv)(c:Ct):
 Fn prog 43 [.agg #[.string o.name,o.rv,o.dv,o.cv],.agg #[sv,.int .u64 rg.cpl,.int .u64 rg.off],.agg #[I c.1,I c.2]] H fun r H'=>∃pv,r=.tuple #[pv,I (a5o o rg c)]∧Slx 2 jT H' (fun B=>H.length≤B) pv (kZ o rg c)∧St prog H H' []:=
 (b4K o ho rg sv hr c).mono fun _ _⟨pv,e,_,_,e2,h⟩=>⟨pv,e,e2▸vR h,h.forget⟩
end Go.Ds
namespace Go.Ds
open Go.Proofs
structure Ctl where
 kind:Int
 dv:Int
 ix:Int
 deriving Inhabited,DecidableEq
def Ctl.cells(c:Ctl):List Value:=[I c.kind,I c.dv,I c.ix]
def tQ(n:Nat):List Nat:=(List.range 64).filter fun i=>n.testBit i
def a0f(d:Nat)(i:Nat):Ctl:=⟨1,(d:Int),(i:Int)⟩
def wX(i:Nat):Ctl:=⟨2,0,(i:Int)⟩
def a4R(i:Nat):Ctl:=⟨3,(i:Int),0⟩
def oZ(r:Reg):List Ctl:=((List.range r.stops.length).flatMap fun d=>(tQ (iD r.stops d)).map (a0f d))++(tQ r.cpl).map wX++(tQ r.off).map a4R
def tU(n:Nat)(i:Int):Nat:=(BitVec.ofNat 64 n&&&~~~ BitVec.ofNat 64 (2^i.toNat)).toNat
def kU(r:Reg)(c:Ctl):Reg:=if c.kind=1 then{r with stops:=r.stops.set c.dv.toNat (tU (iD r.stops c.dv.toNat) c.ix)}else if c.kind=2 then{r with cpl:=tU r.cpl c.ix}else{r with off:=tU r.off c.dv}
def nK(o:Org)(i:Nat):List Ct:=(List.range ((iD o.dvs i).hi-(iD o.dvs i).lo+1).toNat).map fun(k:Nat)=>((i:Int),(iD o.dvs i).lo+(k:Int))
def iM(o:Org):List Ct:=(List.range o.dvs.length).flatMap (nK o)
def pU(o:Org)(r:Reg):List (List Ct):=(iM o).map (kZ o r)
def mO(o:Org)(r:Reg):List Ctl:=(oZ r).filter fun c=>decide (pU o (kU r c)=pU o r)
end Go.Ds
namespace Go.Ds
open Go.Proofs Go.Proofs.Tryz
variable {H:Heap}
set_option maxRecDepth 10000
set_option maxHeartbeats 1000000
theorem Wp.aE{P:Program}{c c':Code}{l l':List Value}{Q:nN}(hc:c'=c)(hl:l'=l)(h:SW P c l H Q):Wp P c' l' H Q:=by
 subst hc hl;exact h.wp
theorem Wp.bl{P:Program}{c:Code}{l:List Value}{Q:nN}(h:∀l',l'=l→Wp P c l' H Q):Wp P c l H Q:=h l rfl
theorem Wp.aZ{P:Program}{t:Tmp}{ps:Array Tmp}{assign body:Code}{l:List Value}{Q:nN}{k:FuncId}{captured:List Value}(hg:get l t=.func (.func k) #[] captured.toArray)
 (h:∀r:Loop,r.state=.ready→r.pending=none→r.tmps=l.toArray→r.params=ps→r.assign=assign→r.body=body→
   FnS P k ([.func (.yield H.length) #[] #[]]++captured) (H.cons (.loop r)) (b5A P l H.length Q)):Wp P (.rangeFunc (.tmp t) ps assign body) l H Q:=
 Wp.range (first:=[]) rfl hg (h (b0P l ps assign body) rfl rfl rfl rfl rfl rfl)
theorem Lp.aI{P:Program}{B:Base}{L:Nat}{r:Loop}{H2:Heap}{ls rest ls':List Ob}(h:Lp P B L r H (ls++rest))(h2:St P ⟨H,pX ls⟩ H2 ls'):Lp P B L r H2 (ls'++rest) where
 st:=h.st.frame h2
 get:=by rw[h2.other (jI h.get) fun o ho=>h.ne o (fQ _ ho)];exact h.get
 lo:=h.lo
 ne o ho hb:=by
  rcases dH.1 ho with ho|ho
  ·have hl:=jI h.get
   rcases h2.new o ho L hb with h3|⟨o',ho',hb'⟩
   ·have h3:H.length≤L:=h3
    omega
   ·exact h.ne o' (fQ _ ho') hb'
  ·exact h.ne o (ef _ ho) hb
theorem Lp.left{P:Program}{B:Base}{L:Nat}{r:Loop}{ls rest:List Ob}(h:Lp P B L r H (ls++rest)):Lp P B L r H ls:=h.sub (fM _ _)
theorem OwnAt.var{P:Program}{A n:Nat}{cs:List Value}(h:OwnAt P H ⟨ptr A 0 n,0,cs⟩):Var H A n cs:=by
 unfold OwnAt at h
 rw[if_pos rfl]at h
 rcases h with⟨A',ty,lo,ver,h1,h2,h3⟩|⟨A',es,ck,ver,_,_,h3,_⟩
 ·simp only[ptr,Value.pointer.injEq,dF,Addr.mk.injEq]at h3
  obtain⟨rfl,_,hn⟩:=h3
  exact⟨hn,ty,true,lo,ver,h1,h2⟩
 ·cases h3
theorem a4T(x:Nat)(hx:x<18446744073709551616)(A:Nat)(f:Value)(J:Nat→Heap→Prop)(h0:J 0 H)(hg:∀j H1,J j H1→Var H1 A 1 [.int .u64 x])
 (hs:∀j H1,j<64→x.testBit j=false→J j H1→J (j+1) H1)
 (hf:∀j H1,j<64→x.testBit j=true→J j H1→qY prog f [I j] H1 fun v H2=>v=.bool true∧J (j+1) H2):
 FnS prog 199 [f,ptr A 0 1] H fun _ H'=>J 64 H':=by
 refine FnS.aY func199 rfl (by kernel_rfl) fun l hl=> ?_
 have hn:l.length=19:=by rw[hl];rfl
 have g0:get l 0=f:=by rw[hl];rfl
 have g1:get l 1=(ptr A 0 1):=by rw[hl];rfl
 clear hl
 simp(disch:=omega) only[↓RA,RB,simprocAttr]
 refine Wp.aq (fun n l H'=>l.length=19∧get l 0=f∧get l 1=ptr A 0 1∧∃j:Nat,n+j=64∧get l 4=I j∧J j H') 64 ?_ ?_
 ·simp(disch:=omega) only[RB,RC,simprocAttr,hn,g0,g1]
  exact⟨0,rfl,rfl,h0⟩
 rintro n l H9⟨hn,g0,g1,j,hj,g4,hJ⟩
 have hV:=hg j H9 hJ
 simp(disch:=omega) only[↓RA,RB,simprocAttr,hn,g4]
 refine iC (fun q1=> ?_) (fun q1=> ?_)
 ·have e1:=a2N x j hx
  have e2:=a1W (x>>>j) (wU j hx)
  have e3:=tb x j
  simp(disch:=omega) only[↓RA,RZ,simprocAttr,hn,g1,g4,hV.ld,q1,e1,e2]
  refine jU (fun q2=> ?_) (fun q2=> ?_)
  ·simp(disch:=omega) only[↓RA,RZ,simprocAttr,hn,g0,q1,q2]
   refine a1E (hf j H9 (by omega) (by rw[e3];exact decide_eq_true (by omega)) hJ) ?_
   rintro r H10⟨rfl,hJ2⟩
   simp(disch:=omega) only[↓RA,RZ,simprocAttr,hn,g0,g1,g4,q1,q2]
   exact⟨n-1,by omega,j+1,by omega,by simp,hJ2⟩
  simp(disch:=omega) only[↓RA,RZ,simprocAttr,hn,g0,g1,g4,q1,q2]
  exact⟨n-1,by omega,j+1,by omega,by simp,hs j _ (by omega) (by rw[e3];exact decide_eq_false (by omega)) hJ⟩
 simp(disch:=omega) only[↓RA,RZ,simprocAttr,c3e,q1]
 have e:j=64:=by omega
 exact e▸hJ
theorem a0H{n i:Nat}(h:i<n):∃t,List.range n=List.range i++i::t:=by
 refine⟨(List.range n).drop (i+1),?_⟩
 have h1:(List.range n).take i=List.range i:=by rw[List.take_range,ft (by omega)]
 have h2:=eU (l:=List.range n) (i:=i) (by simpa using h)
 rw[gY]at h2
 rw[←h1,←h2,fI]
def sH(o:Org)(i:Nat):Nat:=((iD o.dvs i).hi-(iD o.dvs i).lo+1).toNat
def kAt(o:Org)(i k:Nat):Ct:=((i:Int),(iD o.dvs i).lo+(k:Int))
def yC(o:Org)(i k:Nat):List Ct:=(List.range i).flatMap (nK o)++(List.range k).map (kAt o i)
theorem a3Y(o:Org)(i k:Nat):yC o i (k+1)=yC o i k++[kAt o i k]:=by
 unfold yC
 rw[eu,dO,dG]
 rfl
theorem a0u(o:Org)(i:Nat):yC o i (sH o i)=(List.range (i+1)).flatMap (nK o):=by
 unfold yC
 rw[eu,dE,dM,fy,dm]
 rfl
theorem a1U(o:Org){i k:Nat}(hi:i<o.dvs.length)(hk:k<sH o i):∃e,iM o=yC o i k++kAt o i k::e:=by
 obtain⟨t1,e1⟩:=a0H hi
 obtain⟨t2,e2⟩:=a0H hk
 refine⟨t2.map (kAt o i)++t1.flatMap (nK o),?_⟩
 unfold iM yC
 rw[e1,dE,dM]
 have:nK o i=(List.range (sH o i)).map (kAt o i):=rfl
 rw[this,e2,dO,dU]
 simp
theorem a7x(o:Org)(hf:o.Fine)(rg:Reg)(sv:Value)(AO AR:Nat)(f:Value)(J:List Ct→List Ob→Heap→Prop)(h0:J [] [] H)
 (hg:∀d xs H1,J d xs H1→Var H1 AO 4 [.string o.name,o.rv,o.dv,o.cv]∧o.In H1∧Var H1 AR 3 [sv,.int .u64 rg.cpl,.int .u64 rg.off]∧rg.In H1 sv∧∀x∈xs,OwnAt prog H1 x)
 (hst:∀d xs H1 H2 ys,J d xs H1→St prog H1 H2 ys→J d (xs++ys) H2)
 (hdr:∀d xs ys H1,J d (xs++ys) H1→J d xs H1)
 (hy:∀d c e xs H1 H2 pv gv rest,iM o=d++c::e→J d xs H1→St prog H1 H2 [⟨gv,2,pr (kZ o rg c)++rest⟩]→pv=lB gv 2 0 (kZ o rg c).length→qY prog f [.agg #[I c.1,I c.2],pv] H2 fun v H3=>v=.bool true∧J (d++[c]) xs H3):
 FnS prog 77 [f,ptr AO 0 4,ptr AR 0 3] H fun _ H'=>J (iM o) [] H':=by
 have hG0:=hg _ _ _ h0
 refine FnS.aY func77 rfl (by kernel_rfl) fun l hl=> ?_
 have hn:l.length=44:=by rw[hl];rfl
 have g0:get l 0=f:=by rw[hl];rfl
 have g1:get l 1=(ptr AO 0 4):=by rw[hl];rfl
 have g2:get l 2=(ptr AR 0 3):=by rw[hl];rfl
 clear hl
 simp(disch:=omega) only[↓RA,RZ,simprocAttr,hn,g1,((hG0.1.ae (sR H).ae)).ld,((sR H).sl hG0.2.1.2.2.1).len]
 refine Wp.aq (fun n l H'=>l.length=44∧get l 0=f∧get l 1=ptr AO 0 4∧get l 2=ptr AR 0 3∧get l 11=o.dv∧get l 12=I o.dvs.length∧∃i:Nat,n+i=o.dvs.length∧get l 13=I i∧J ((List.range i).flatMap (nK o)) [] H') o.dvs.length ?_ ?_
 ·simp(disch:=omega) only[RB,RC,simprocAttr,hn,g0,g1,g2]
  exact⟨0,by omega,rfl,h0⟩
 rintro n l H9⟨hn,g0,g1,g2,g11,g12,i,hi,g13,hJ⟩
 obtain⟨hV1,hO1,hV2,hR1,_⟩:=hg _ _ _ hJ
 have hdl:=hO1.2.2.2.2.2.2.1
 simp(disch:=omega) only[↓RA,RB,simprocAttr,hn,g12,g13]
 refine iC (fun q1=> ?_) (fun q1=> ?_)
 ·have hki:=hf.keys i (by omega)
  simp(disch:=omega) only[↓RA,RZ,simprocAttr,hn,g11,g13,((sR H9).sl hO1.2.2.1).idx,((sR H9).sl hO1.2.2.1).aj,Dvn.cells,q1]
  refine(sR H9).eNew 5 [(.string ⟨#[]⟩),(.bool false),I 0,I 0,(.slice none 0 0)] rfl rfl rfl a3h fun A1 H1 hS1=> ?_
  simp only[RT]at hS1
  simp(disch:=omega) only[↓RA,RZ,simprocAttr,hn,q1]
  refine hS1.aa 0 rfl [(.string (iD o.dvs i).name),(.bool (iD o.dvs i).pedal),I (iD o.dvs i).lo,I (iD o.dvs i).hi,(iD o.dvs i).sv] rfl (by simp[OC,(hS1.sl (hO1.2.2.2.1 (iD o.dvs i) (iG (by omega))).1).cells.2.1]) a3h (by simp) fun H2 hS2=> ?_
  simp only[RT]at hS2
  simp(disch:=omega) only[↓RA,RZ,simprocAttr,hn,hS2.ld 0 rfl,q1]
  have hJ1:=hst _ _ _ _ _ hJ hS2
  have hcn:(sH o i:Int)=(iD o.dvs i).hi-(iD o.dvs i).lo+1:=by unfold sH;omega
  refine Wp.aq (fun n l H'=>l.length=44∧get l 0=f∧get l 1=ptr AO 0 4∧get l 2=ptr AR 0 3∧get l 4=I i∧get l 5=ptr A1 0 5∧get l 11=o.dv∧get l 12=I o.dvs.length∧get l 13=I i∧∃k:Nat,n+k=sH o i∧get l 6=I ((iD o.dvs i).lo+k)∧J (yC o i k) [⟨ptr A1 0 5,0,[.string (iD o.dvs i).name,.bool (iD o.dvs i).pedal,I (iD o.dvs i).lo,I (iD o.dvs i).hi,(iD o.dvs i).sv]⟩] H') (sH o i) ?_ ?_
  ·simp(disch:=omega) only[RB,RC,simprocAttr,hn,g0,g1,g2,g11,g12,g13]
   refine⟨0,by omega,by simp,?_⟩
   have e:yC o i 0=(List.range i).flatMap (nK o):=by unfold yC;simp
   rw[e]
   exact hJ1
  rintro n l H10⟨hn,g0,g1,g2,g4,g5,g11,g12,g13,k,hk,g6,hJ2⟩
  obtain⟨hV3,hO3,hV4,hR3,hX3⟩:=hg _ _ _ hJ2
  have hV5:=(hX3 _ (dC.2 rfl)).var
  simp(disch:=omega) only[↓RA,RZ,simprocAttr,hn,g5,g6,(hV5.ae (sR H10).ae).ld]
  refine iC (fun q2=> ?_) (fun q2=> ?_)
  ·simp(disch:=omega) only[↓RA,RZ,simprocAttr,hn,g4,g6,zB,q2]
   refine(sR H10).eNew 2 [I 0,I 0] rfl rfl rfl qC fun A2 H3 hS3=> ?_
   simp only[RT]at hS3
   simp(disch:=omega) only[↓RA,RZ,simprocAttr,hn,q2]
   refine hS3.aa 0 rfl [I i,I ((iD o.dvs i).lo+k)] rfl rfl qC (by simp) fun H4 hS4=> ?_
   simp only[RT]at hS4
   simp(disch:=omega) only[↓RA,RZ,simprocAttr,hn,g1,g2,(hV3.ae hS4.ae).aj,(hV4.ae hS4.ae).aj,hS4.aj 0 rfl,q2]
   have hJ3:=hdr _ _ _ _ (hst _ _ _ _ _ hJ2 hS4)
   refine iK (b4K o (hO3.ae hS4) rg sv (hR3.ae hS4) (kAt o i k)) ?_
   rintro r H5⟨pv,rfl,gv,rest,he9,hT1⟩
   have hS5:=hS4.trans hT1
   simp only[RT]at hS5
   have hx:Sl 2 jT H5 pv (kZ o rg (kAt o i k)):=by rw[he9];exact(vR hT1).1
   simp(disch:=omega) only[↓RA,RZ,simprocAttr,hn,g0,hS5.aj 0 rfl,q2]
   obtain⟨e,he⟩:=a1U o (i:=i) (k:=k) (by omega) (by omega)
   refine a1E (hy _ (kAt o i k) e _ _ _ pv gv rest he hJ3 hT1 he9) ?_
   rintro r H13⟨rfl,hJ4⟩
   rw[←a3Y]at hJ4
   simp(disch:=omega) only[↓RA,RZ,simprocAttr,hn,g0,g1,g2,g4,g5,g6,g11,g12,g13,q2]
   exact⟨n-1,by omega,k+1,by omega,by congr 1;omega,hJ4⟩
  simp(disch:=omega) only[↓RA,RZ,simprocAttr,hn,g0,g1,g2,g11,g12,g13,q2]
  have e:k=sH o i:=by omega
  rw[e,a0u]at hJ2
  exact⟨o.dvs.length-(i+1),by omega,i+1,by omega,by simp,hdr _ [] _ _ hJ2⟩
 simp(disch:=omega) only[↓RA,RZ,simprocAttr,c4Y,q1]
 have e:i=o.dvs.length:=by omega
 subst e
 exact hJ
theorem b0l(o:Org)(hf:o.Fine)(rg:Reg)(sv:Value)(AO AR:Nat)(f:Value)(J:List Ct→List Ob→Heap→Prop)(h0:J [] [] H)
 (hg:∀d xs H1,J d xs H1→Var H1 AO 4 [.string o.name,o.rv,o.dv,o.cv]∧o.In H1∧Var H1 AR 3 [sv,.int .u64 rg.cpl,.int .u64 rg.off]∧rg.In H1 sv∧∀x∈xs,OwnAt prog H1 x)
 (hst:∀d xs H1 H2 ys,J d xs H1→St prog H1 H2 ys→J d (xs++ys) H2)
 (hdr:∀d xs ys H1,J d (xs++ys) H1→J d xs H1)
 (hy:∀d c e xs H1 H2 pv,iM o=d++c::e→J d xs H1→St prog H1 H2 []→Slx 2 jT H2 (fun B=>H1.length≤B) pv (kZ o rg c)→qY prog f [.agg #[I c.1,I c.2],pv] H2 fun v H3=>v=.bool true∧J (d++[c]) xs H3):
 FnS prog 77 [f,ptr AO 0 4,ptr AR 0 3] H fun _ H'=>J (iM o) [] H':=
 a7x o hf rg sv AO AR f J h0 hg hst hdr fun d c e xs H1 H2 pv _ _ he hJ hS hp=>hy d c e xs H1 H2 pv he hJ hS.forget (by rw[hp];exact vR hS)
def nZ(x n:Nat):List Nat:=(List.range n).filter fun i=>x.testBit i
theorem pD(x n:Nat):nZ x (n+1)=nZ x n++(if x.testBit n then[n]else[]):=by
 unfold nZ
 rw[eu,dZ,fV,ga]
theorem pP(x n:Nat):(nZ x n).length≤n:=by
 unfold nZ
 refine dL (eh _ _) ?_
 simp
theorem a4S(x:Nat):Fn prog 153 [.int .u64 x] H fun r H'=>∃A,r=.func (.func 199) #[] #[ptr A 0 1]∧St prog H H' [⟨ptr A 0 1,0,[.int .u64 x]⟩]:=by
 refine .aW func153 rfl (by kernel_rfl) (m:=4) rfl fun l hn g0=> ?_
 simp(disch:=omega) only[↓RA,RB,simprocAttr,g0]
 refine(sR H).eNew 1 [(.int .u64 x)] rfl rfl rfl a4L fun A1 H1 hS1=> ?_
 simp only[RT]at hS1
 simp(disch:=omega) only[↓RA,RZ,simprocAttr,hn,c4k]
 exact⟨A1,rfl,hS1⟩
abbrev mD(l:List Ctl):List Value:=l.flatMap Ctl.cells
theorem mH(l:List Ctl):(mD l).length=l.length*3:=iI (n:=3) (fun _=>rfl) l
theorem xZ(l:List Ctl)(x:Ctl):mD (l++[x])=mD l++[I x.kind,I x.dv,I x.ix]:=by
 unfold mD
 rw[dE]
 rfl
def yO(rg:Reg)(d:Nat):List Ctl:=(List.range d).flatMap fun d=>(tQ (iD rg.stops d)).map (a0f d)
theorem a3v(rg:Reg)(d:Nat):yO rg (d+1)=yO rg d++(nZ (iD rg.stops d) 64).map (a0f d):=by
 unfold yO
 rw[eu,dE,dM,fy,dm]
 rfl
theorem a1c(rg:Reg):∀d,(yO rg d).length≤d*64
 | 0=>by simp[yO]
 | d+1=>by
   have:=a1c rg d
   have h2:=pP (iD rg.stops d) 64
   rw[a3v,dr,dB]
   omega
theorem b2U(rg:Reg)(sv:Value)(hr:rg.In H sv)(hl:rg.stops.length≤60):Fn prog 103 [.agg #[sv,.int .u64 rg.cpl,.int .u64 rg.off]] H fun r H'=>St prog H H' [⟨r,3,mD (oZ rg)⟩]:=by
 refine .aW func103 rfl (by kernel_rfl) (m:=46) rfl fun l hn g0=> ?_
 simp(disch:=omega) only[↓RA,RB,simprocAttr,g0]
 refine(sR H).eNew 3 [sv,(.int .u64 rg.cpl),(.int .u64 rg.off)] rfl rfl (by simp[OC,((sR H).sl hr.1).cells.2.1]) mQ fun A1 H1 hS1=> ?_
 simp only[RT]at hS1
 simp(disch:=omega) only[↓RA,RZ,simprocAttr]
 refine hS1.eNew 1 [(.slice none 0 0)] rfl rfl rfl b4D fun A2 H2 hS2=> ?_
 simp only[RT]at hS2
 simp(disch:=omega) only[↓RA,RZ,simprocAttr,hn,hS2.ld 0 rfl,(hS2.sl hr.1).len]
 have hS3:=hS2.nil 2
 simp only[RT]at hS3
 refine Wp.aq (fun n l H'=>l.length=46∧get l 1=(ptr A1 0 3)∧get l 2=(.slice none 0 0)∧get l 3=(ptr A2 0 1)∧get l 10=sv∧get l 11=I rg.stops.length∧∃(d:Nat)(ov:Value),(n+d=rg.stops.length)∧get l 12=I d∧St prog H H' [⟨ptr A1 0 3,0,[sv,(.int .u64 rg.cpl),(.int .u64 rg.off)]⟩,⟨ptr A2 0 1,0,[ov]⟩,⟨ov,3,mD (yO rg d)⟩]) rg.stops.length ?_ ?_
 ·simp(disch:=omega) only[RB,RC,simprocAttr,hn]
  exact⟨0,.slice none 0 0,by omega,rfl,hS3⟩
 rintro n l H3⟨hn,g1,g2,g3,g10,g11,d,ov,hd,g12,hS4⟩
 simp(disch:=omega) only[↓RA,RB,simprocAttr,hn,g11,g12]
 refine iC (fun q1=> ?_) (fun q1=> ?_)
 ·have hsx:=hr.2.2.1 _ (iG (xs:=rg.stops) (j:=d) (by omega))
  have hal:=a1c rg d
  simp(disch:=omega) only[↓RA,RZ,simprocAttr,hn,g10,g12,(hS4.sl hr.1).idx,(hS4.sl hr.1).ld,one,u64,q1]
  refine hS4.eNew 1 [I 0] rfl rfl rfl tS3 fun A3 H4 hS5=> ?_
  simp only[RT]at hS5
  simp(disch:=omega) only[↓RA,RZ,simprocAttr,hn,q1]
  refine hS5.aa 3 rfl [I d] rfl rfl tS3 (by simp) fun H5 hS6=> ?_
  simp only[RT]at hS6
  simp(disch:=omega) only[↓RA,RZ,simprocAttr,hn,q1]
  refine iK (a4S (iD rg.stops d)) ?_
  rintro r H6⟨A4,rfl,hT1⟩
  have hS7:=hS6.trans hT1
  simp only[RT]at hS7
  simp(disch:=omega) only[↓RA,RZ,simprocAttr,q1]
  refine Wp.bl fun lrg1 hlrg1=> ?_
  have hnrg1:lrg1.length=46:=by rw[hlrg1];simp(disch:=omega) only[RB,simprocAttr,hn]
  have g1rg1:get lrg1 1=(ptr A1 0 3):=by rw[hlrg1];simp(disch:=omega) only[RB,simprocAttr,g1]
  have g2rg1:get lrg1 2=(.slice none 0 0):=by rw[hlrg1];simp(disch:=omega) only[RB,simprocAttr,g2]
  have g3rg1:get lrg1 3=(ptr A2 0 1):=by rw[hlrg1];simp(disch:=omega) only[RB,simprocAttr,g3]
  have g4rg1:get lrg1 4=(ptr A3 0 1):=by rw[hlrg1];simp(disch:=omega) only[RB,simprocAttr,hn]
  have g10rg1:get lrg1 10=sv:=by rw[hlrg1];simp(disch:=omega) only[RB,simprocAttr,g10]
  have g11rg1:get lrg1 11=I rg.stops.length:=by rw[hlrg1];simp(disch:=omega) only[RB,simprocAttr,g11]
  have g12rg1:get lrg1 12=I d:=by rw[hlrg1];simp(disch:=omega) only[RB,simprocAttr,g12]
  have gfrg1:get lrg1 18=.func (.func 199) #[] [(ptr A4 0 1)].toArray:=by rw[hlrg1];simp(disch:=omega) only[RB,simprocAttr,hn]
  clear hlrg1
  refine Wp.aZ gfrg1 fun rg1 hstrg1 hpdrg1 htmrg1 hpsrg1 hasrg1 hbdrg1=> ?_
  have hreqrg1:({rg1 with state:=.ready,pending:=none}:Loop)=rg1:=by
   cases rg1
   simp only at hstrg1 hpdrg1
   subst hstrg1 hpdrg1
   rfl
  have hLprg1:=Lp.enter hS7 rg1
  generalize H6.cons (.loop rg1)=Hcrg1 at hLprg1 ⊢
  generalize H6.length=Lrg1 at hLprg1 ⊢
  refine(a4T (iD rg.stops d) hsx A4 (.func (.yield Lrg1) #[] #[]) (fun j H1=>∃ow,Lp prog H Lrg1 rg1 H1 [⟨ptr A1 0 3,0,[sv,.int .u64 rg.cpl,.int .u64 rg.off]⟩,⟨ptr A2 0 1,0,[ow]⟩,⟨ow,3,mD (yO rg d++(nZ (iD rg.stops d) j).map (a0f d))⟩,⟨ptr A3 0 1,0,[I d]⟩,⟨ptr A4 0 1,0,[.int .u64 ((iD rg.stops d:Nat):Int)]⟩]) ⟨ov,?_⟩ ?_ ?_ ?_).mono ?_
  ·rw[show(nZ (iD rg.stops d) 0).map (a0f d)=[]from rfl,dm]
   exact hLprg1
  ·rintro j H1⟨ow,h⟩
   exact h.st.var 4 rfl
  ·rintro j H1 hj hb⟨ow,h⟩
   refine⟨ow,?_⟩
   rw[pD (iD rg.stops d) j,hb,if_neg (by simp),dm]
   exact h
  ·rintro j H20 hj hb⟨ow,hLpj⟩
   have hbl:=pP (iD rg.stops d) j
   have hroom:(mD (yO rg d++(nZ (iD rg.stops d) j).map (a0f d))).length≤20000:=by
    rw[mH,dr,dB]
    omega
   refine mT hLpj.get (by rw[hpsrg1];rfl) hstrg1 ?_
   refine Wp.aE (l:=put lrg1 (some 19) (I j)) hasrg1 (by rw[hpsrg1,htmrg1];first|exact(kP ..).symm|rfl|simp[put,kP]) ?_
   simp(disch:=omega) only[↓RA,RZ,simprocAttr,hnrg1]
   refine⟨rg1,hLpj.get,hstrg1,?_⟩
   have hYBs1:=hLpj.set (fun h=>h) {rg1 with state:=.busy}
   have hKBs1:∀B,B≠Lrg1→iR (hset H20 Lrg1 (.loop {rg1 with state:=.busy})) B=iR H20 B:=fun B h=>iP _ (eG h)
   have hNBs1:(hset H20 Lrg1 (.loop {rg1 with state:=.busy})).length=H20.length:=jE ..
   generalize hset H20 Lrg1 (.loop {rg1 with state:=.busy})=HBs1 at hYBs1 hKBs1 hNBs1 ⊢
   refine Wp.aE hbdrg1 rfl ?_
   have hZBs1:=hYBs1.st
   obtain⟨Bs1,hBBs1,hS8⟩:=hZBs1.aw (os:=[⟨ptr A1 0 3,0,_⟩,⟨ptr A2 0 1,0,_⟩,⟨ow,3,_⟩,⟨ptr A3 0 1,0,_⟩,⟨ptr A4 0 1,0,_⟩])
   simp(disch:=omega) only[↓RA,RZ,simprocAttr,hnrg1,g3rg1,g4rg1,hS8.ld 1 rfl,hS8.ld 3 rfl,a6G]
   refine hS8.ai [I 1,I d,I j] a7n b8X rfl rfl (by simp[Value.cells]) rfl rfl (by decide) (by decide) fun w1 H7 hS9=> ?_
   simp only[RT]at hS9
   simp(disch:=omega) only[↓RA,RZ,simprocAttr,hnrg1]
   refine hS9.al 2 rfl (hS9.rd 5 rfl) a7n (by have h:=hroom;simp only[eo,eP];omega) fun w2 H8 hS10=> ?_
   simp only[RT]at hS10
   simp(disch:=omega) only[↓RA,RB,simprocAttr,hnrg1,g3rg1]
   refine hS10.aa 1 rfl [w2] (by rw[(hS10.rd 2 rfl).cells.1]) (by simp[(hS10.rd 2 rfl).cells.2.1]) b4D (by simp) fun H9 hS11=> ?_
   simp only[RT]at hS11
   simp(disch:=omega) only[↓RA,simprocAttr]
   have hS12:=hS11.pick (os':=[⟨ptr A1 0 3,0,_⟩,⟨ptr A2 0 1,0,_⟩,⟨w2,3,_⟩,⟨ptr A3 0 1,0,_⟩,⟨ptr A4 0 1,0,_⟩]) [0,1,2,3,4] (by decide) rfl
   have hWBs1:=(hYBs1.body (hBBs1▸hS12)).set (fun h=>h) rg1
   rw[←hreqrg1]at hWBs1
   refine⟨_,(hYBs1.body (hBBs1▸hS12)).get,rfl,w2,?_⟩
   rw[pD (iD rg.stops d) j,hb,if_pos rfl,dO,←dG,dU,fq,xZ]
   exact hreqrg1▸hWBs1
  ·rintro _ H21⟨ow,hLp2⟩
   rw[←a3v]at hLp2
   refine⟨_,hLp2.get,(by rw[hstrg1];exact fun h=>by cases h),fun _=> ?_,fun c hc=>by rw[hpdrg1]at hc;cases hc⟩
   have hAAf1:=(hLp2.set (fun h=>h) {rg1 with state:=.exhausted}).st
   have hKAf1:∀B,B≠Lrg1→iR (hset H21 Lrg1 (.loop {rg1 with state:=.exhausted})) B=iR H21 B:=fun B h=>iP _ (eG h)
   generalize hset H21 Lrg1 (.loop {rg1 with state:=.exhausted})=HAf1 at hAAf1 hKAf1 ⊢
   simp(disch:=omega) only[↓RA,RZ,simprocAttr,hnrg1,g1rg1,g2rg1,g3rg1,g10rg1,g11rg1,g12rg1]
   exact⟨rg.stops.length-(d+1),by omega,d+1,ow,by omega,by simp,hAAf1.pick [0,1,2] (by decide) rfl⟩
 have hdd:d=rg.stops.length:=by omega
 subst hdd
 have hal:=a1c rg rg.stops.length
 simp(disch:=omega) only[↓RA,RZ,simprocAttr,hn,g1,hS4.ld 0 rfl,q1]
 refine iK (a4S rg.cpl) ?_
 rintro r H10⟨A5,rfl,hT2⟩
 have hS13:=hS4.trans hT2
 simp only[RT]at hS13
 simp(disch:=omega) only[↓RA,RC,simprocAttr,q1]
 refine Wp.bl fun lrg2 hlrg2=> ?_
 have hnrg2:lrg2.length=46:=by rw[hlrg2];simp(disch:=omega) only[RB,simprocAttr,hn]
 have g1rg2:get lrg2 1=(ptr A1 0 3):=by rw[hlrg2];simp(disch:=omega) only[RB,simprocAttr,g1]
 have g2rg2:get lrg2 2=(.slice none 0 0):=by rw[hlrg2];simp(disch:=omega) only[RB,simprocAttr,g2]
 have g3rg2:get lrg2 3=(ptr A2 0 1):=by rw[hlrg2];simp(disch:=omega) only[RB,simprocAttr,g3]
 have gfrg2:get lrg2 29=.func (.func 199) #[] [(ptr A5 0 1)].toArray:=by rw[hlrg2];simp(disch:=omega) only[RB,simprocAttr,hn]
 clear hlrg2
 refine Wp.aZ gfrg2 fun rg2 hstrg2 hpdrg2 htmrg2 hpsrg2 hasrg2 hbdrg2=> ?_
 have hreqrg2:({rg2 with state:=.ready,pending:=none}:Loop)=rg2:=by
  cases rg2
  simp only at hstrg2 hpdrg2
  subst hstrg2 hpdrg2
  rfl
 have hLprg2:=Lp.enter hS13 rg2
 generalize H10.cons (.loop rg2)=Hcrg2 at hLprg2 ⊢
 generalize H10.length=Lrg2 at hLprg2 ⊢
 refine(a4T rg.cpl hr.2.2.2.1 A5 (.func (.yield Lrg2) #[] #[]) (fun j H1=>∃ow,Lp prog H Lrg2 rg2 H1 [⟨ptr A1 0 3,0,[sv,.int .u64 rg.cpl,.int .u64 rg.off]⟩,⟨ptr A2 0 1,0,[ow]⟩,⟨ow,3,mD (yO rg rg.stops.length++(nZ rg.cpl j).map wX)⟩,⟨ptr A5 0 1,0,[.int .u64 (rg.cpl:Int)]⟩]) ⟨ov,?_⟩ ?_ ?_ ?_).mono ?_
 ·rw[show(nZ rg.cpl 0).map wX=[]from rfl,dm]
  exact hLprg2
 ·rintro j H1⟨ow,h⟩
  exact h.st.var 3 rfl
 ·rintro j H1 hj hb⟨ow,h⟩
  refine⟨ow,?_⟩
  rw[pD rg.cpl j,hb,if_neg (by simp),dm]
  exact h
 ·rintro j H20 hj hb⟨ow,hLpj⟩
  have hbl:=pP rg.cpl j
  have hroom:(mD (yO rg rg.stops.length++(nZ rg.cpl j).map wX)).length≤20000:=by
   rw[mH,dr,dB]
   omega
  refine mT hLpj.get (by rw[hpsrg2];rfl) hstrg2 ?_
  refine Wp.aE (l:=put lrg2 (some 30) (I j)) hasrg2 (by rw[hpsrg2,htmrg2];first|exact(kP ..).symm|rfl|simp[put,kP]) ?_
  simp(disch:=omega) only[↓RA,RZ,simprocAttr,hnrg2]
  refine⟨rg2,hLpj.get,hstrg2,?_⟩
  have hYBs2:=hLpj.set (fun h=>h) {rg2 with state:=.busy}
  have hKBs2:∀B,B≠Lrg2→iR (hset H20 Lrg2 (.loop {rg2 with state:=.busy})) B=iR H20 B:=fun B h=>iP _ (eG h)
  have hNBs2:(hset H20 Lrg2 (.loop {rg2 with state:=.busy})).length=H20.length:=jE ..
  generalize hset H20 Lrg2 (.loop {rg2 with state:=.busy})=HBs2 at hYBs2 hKBs2 hNBs2 ⊢
  refine Wp.aE hbdrg2 rfl ?_
  have hZBs2:=hYBs2.st
  obtain⟨Bs2,hBBs2,hS14⟩:=hZBs2.aw (os:=[⟨ptr A1 0 3,0,_⟩,⟨ptr A2 0 1,0,_⟩,⟨ow,3,_⟩,⟨ptr A5 0 1,0,_⟩])
  simp(disch:=omega) only[↓RA,RZ,simprocAttr,hnrg2,g3rg2,hS14.ld 1 rfl,a4b]
  refine hS14.ai [I 2,I 0,I j] a7n b8X rfl rfl (by simp[Value.cells]) rfl rfl (by decide) (by decide) fun w3 H11 hS15=> ?_
  simp only[RT]at hS15
  simp(disch:=omega) only[↓RA,RZ,simprocAttr,hnrg2]
  refine hS15.al 2 rfl (hS15.rd 4 rfl) a7n (by have h:=hroom;simp only[eo,eP];omega) fun w4 H12 hS16=> ?_
  simp only[RT]at hS16
  simp(disch:=omega) only[↓RA,RB,simprocAttr,hnrg2,g3rg2]
  refine hS16.aa 1 rfl [w4] (by rw[(hS16.rd 2 rfl).cells.1]) (by simp[(hS16.rd 2 rfl).cells.2.1]) b4D (by simp) fun H13 hS17=> ?_
  simp only[RT]at hS17
  simp(disch:=omega) only[↓RA,simprocAttr]
  have hS18:=hS17.pick (os':=[⟨ptr A1 0 3,0,_⟩,⟨ptr A2 0 1,0,_⟩,⟨w4,3,_⟩,⟨ptr A5 0 1,0,_⟩]) [0,1,2,3] (by decide) rfl
  have hWBs2:=(hYBs2.body (hBBs2▸hS18)).set (fun h=>h) rg2
  rw[←hreqrg2]at hWBs2
  refine⟨_,(hYBs2.body (hBBs2▸hS18)).get,rfl,w4,?_⟩
  rw[pD rg.cpl j,hb,if_pos rfl,dO,←dG,dU,fq,xZ]
  exact hreqrg2▸hWBs2
 rintro _ H22⟨ow,hLp2⟩
 have hb2:=pP rg.cpl 64
 refine⟨_,hLp2.get,(by rw[hstrg2];exact fun h=>by cases h),fun _=> ?_,fun c hc=>by rw[hpdrg2]at hc;cases hc⟩
 have hAAf2:=(hLp2.set (fun h=>h) {rg2 with state:=.exhausted}).st
 have hKAf2:∀B,B≠Lrg2→iR (hset H22 Lrg2 (.loop {rg2 with state:=.exhausted})) B=iR H22 B:=fun B h=>iP _ (eG h)
 generalize hset H22 Lrg2 (.loop {rg2 with state:=.exhausted})=HAf2 at hAAf2 hKAf2 ⊢
 simp(disch:=omega) only[↓RA,RZ,simprocAttr,hnrg2,g1rg2,hAAf2.ld 0 rfl]
 refine iK (a4S rg.off) ?_
 rintro r H14⟨A6,rfl,hT3⟩
 have hS19:=hAAf2.trans hT3
 simp only[RT]at hS19
 simp(disch:=omega) only[↓RA,simprocAttr]
 have hal2:(yO rg rg.stops.length++(nZ rg.cpl 64).map wX).length≤3904:=by
  rw[dr,dB]
  omega
 refine Wp.bl fun lrg3 hlrg3=> ?_
 have hnrg3:lrg3.length=46:=by rw[hlrg3];simp(disch:=omega) only[RB,simprocAttr,hnrg2]
 have g2rg3:get lrg3 2=(.slice none 0 0):=by rw[hlrg3];simp(disch:=omega) only[RB,simprocAttr,g2rg2]
 have g3rg3:get lrg3 3=(ptr A2 0 1):=by rw[hlrg3];simp(disch:=omega) only[RB,simprocAttr,g3rg2]
 have gfrg3:get lrg3 38=.func (.func 199) #[] [(ptr A6 0 1)].toArray:=by rw[hlrg3];simp(disch:=omega) only[RB,simprocAttr,hnrg2]
 clear hlrg3
 refine Wp.aZ gfrg3 fun rg3 hstrg3 hpdrg3 htmrg3 hpsrg3 hasrg3 hbdrg3=> ?_
 have hreqrg3:({rg3 with state:=.ready,pending:=none}:Loop)=rg3:=by
  cases rg3
  simp only at hstrg3 hpdrg3
  subst hstrg3 hpdrg3
  rfl
 have hLprg3:=Lp.enter hS19 rg3
 generalize H14.cons (.loop rg3)=Hcrg3 at hLprg3 ⊢
 generalize H14.length=Lrg3 at hLprg3 ⊢
 refine(a4T rg.off hr.2.2.2.2 A6 (.func (.yield Lrg3) #[] #[]) (fun j H1=>∃ow,Lp prog H Lrg3 rg3 H1 [⟨ptr A1 0 3,0,[sv,.int .u64 rg.cpl,.int .u64 rg.off]⟩,⟨ptr A2 0 1,0,[ow]⟩,⟨ow,3,mD ((yO rg rg.stops.length++(nZ rg.cpl 64).map wX)++(nZ rg.off j).map a4R)⟩,⟨ptr A5 0 1,0,[.int .u64 (rg.cpl:Int)]⟩,⟨ptr A6 0 1,0,[.int .u64 (rg.off:Int)]⟩]) ⟨ow,?_⟩ ?_ ?_ ?_).mono ?_
 ·rw[show(nZ rg.off 0).map a4R=[]from rfl,dm]
  exact hLprg3
 ·rintro j H1⟨ow,h⟩
  exact h.st.var 4 rfl
 ·rintro j H1 hj hb⟨ow,h⟩
  refine⟨ow,?_⟩
  rw[pD rg.off j,hb,if_neg (by simp),dm]
  exact h
 ·rintro j H20 hj hb⟨ow,hLpj⟩
  have hbl:=pP rg.off j
  have hroom:(mD ((yO rg rg.stops.length++(nZ rg.cpl 64).map wX)++(nZ rg.off j).map a4R)).length≤20000:=by
   rw[mH,dr,dB]
   omega
  refine mT hLpj.get (by rw[hpsrg3];rfl) hstrg3 ?_
  refine Wp.aE (l:=put lrg3 (some 39) (I j)) hasrg3 (by rw[hpsrg3,htmrg3];first|exact(kP ..).symm|rfl|simp[put,kP]) ?_
  simp(disch:=omega) only[↓RA,RZ,simprocAttr,hnrg3]
  refine⟨rg3,hLpj.get,hstrg3,?_⟩
  have hYBs3:=hLpj.set (fun h=>h) {rg3 with state:=.busy}
  have hKBs3:∀B,B≠Lrg3→iR (hset H20 Lrg3 (.loop {rg3 with state:=.busy})) B=iR H20 B:=fun B h=>iP _ (eG h)
  have hNBs3:(hset H20 Lrg3 (.loop {rg3 with state:=.busy})).length=H20.length:=jE ..
  generalize hset H20 Lrg3 (.loop {rg3 with state:=.busy})=HBs3 at hYBs3 hKBs3 hNBs3 ⊢
  refine Wp.aE hbdrg3 rfl ?_
  have hZBs3:=hYBs3.st
  obtain⟨Bs3,hBBs3,hS20⟩:=hZBs3.aw (os:=[⟨ptr A1 0 3,0,_⟩,⟨ptr A2 0 1,0,_⟩,⟨ow,3,_⟩,⟨ptr A5 0 1,0,_⟩,⟨ptr A6 0 1,0,_⟩])
  simp(disch:=omega) only[↓RA,RZ,simprocAttr,hnrg3,g3rg3,hS20.ld 1 rfl,b2G]
  refine hS20.ai [I 3,I j,I 0] a7n b8X rfl rfl (by simp[Value.cells]) rfl rfl (by decide) (by decide) fun w5 H15 hS21=> ?_
  simp only[RT]at hS21
  simp(disch:=omega) only[↓RA,RZ,simprocAttr,hnrg3]
  refine hS21.al 2 rfl (hS21.rd 5 rfl) a7n (by have h:=hroom;simp only[eo,eP];omega) fun w6 H16 hS22=> ?_
  simp only[RT]at hS22
  simp(disch:=omega) only[↓RA,RB,simprocAttr,hnrg3,g3rg3]
  refine hS22.aa 1 rfl [w6] (by rw[(hS22.rd 2 rfl).cells.1]) (by simp[(hS22.rd 2 rfl).cells.2.1]) b4D (by simp) fun H17 hS23=> ?_
  simp only[RT]at hS23
  simp(disch:=omega) only[↓RA,simprocAttr]
  have hS24:=hS23.pick (os':=[⟨ptr A1 0 3,0,_⟩,⟨ptr A2 0 1,0,_⟩,⟨w6,3,_⟩,⟨ptr A5 0 1,0,_⟩,⟨ptr A6 0 1,0,_⟩]) [0,1,2,3,4] (by decide) rfl
  have hWBs3:=(hYBs3.body (hBBs3▸hS24)).set (fun h=>h) rg3
  rw[←hreqrg3]at hWBs3
  refine⟨_,(hYBs3.body (hBBs3▸hS24)).get,rfl,w6,?_⟩
  rw[pD rg.off j,hb,if_pos rfl,dO,←dG,dU,fq,xZ]
  exact hreqrg3▸hWBs3
 rintro _ H23⟨oz,hLp3⟩
 refine⟨_,hLp3.get,(by rw[hstrg3];exact fun h=>by cases h),fun _=> ?_,fun c hc=>by rw[hpdrg3]at hc;cases hc⟩
 have hAAf3:=(hLp3.set (fun h=>h) {rg3 with state:=.exhausted}).st
 have hKAf3:∀B,B≠Lrg3→iR (hset H23 Lrg3 (.loop {rg3 with state:=.exhausted})) B=iR H23 B:=fun B h=>iP _ (eG h)
 generalize hset H23 Lrg3 (.loop {rg3 with state:=.exhausted})=HAf3 at hAAf3 hKAf3 ⊢
 simp(disch:=omega) only[↓RA,RZ,simprocAttr,hnrg3,g3rg3,hAAf3.ld 1 rfl,c2y]
 exact hAAf3.pick [2] (by decide) rfl
structure Pv where
 v:Value
 l:List Ct
 deriving Inhabited
def Pv.cells(p:Pv):List Value:=[p.v]
def Pv.Ix(H:Heap)(X:Nat→Prop)(p:Pv):Prop:=Slx 2 jT H X p.v p.l
theorem Pv.Ix.step{H':Heap}{X Y:Nat→Prop}{p:Pv}(h:p.Ix H X)(hk:Kept H X H' Y):p.Ix H' Y:=Slx.step h hk
theorem Kept.and{H':Heap}{X Y:Nat→Prop}(Q:Nat→Prop)(h:Kept H X H' Y):Kept H (fun B=>Q B∧X B) H' (fun B=>Q B∧Y B):=
 fun B hX hB=>⟨(h B hX.2 hB).1,hX.1,(h B hX.2 hB).2⟩
abbrev oC(o:Org):List Value:=[.string o.name,o.rv,o.dv,o.cv]
abbrev rC(rg:Reg)(sv:Value):List Value:=[sv,.int .u64 rg.cpl,.int .u64 rg.off]
theorem a2K(o:Org)(ho:o.In H)(rg:Reg)(sv:Value)(hr:rg.In H sv):Fn prog 39 [.agg #[.string o.name,o.rv,o.dv,o.cv],.agg #[sv,.int .u64 rg.cpl,.int .u64 rg.off]] H fun r H'=>
 ∃AO AR,r=.func (.func 77) #[] #[ptr AO 0 4,ptr AR 0 3]∧St prog H H' [⟨ptr AO 0 4,0,[.string o.name,o.rv,o.dv,o.cv]⟩,⟨ptr AR 0 3,0,[sv,.int .u64 rg.cpl,.int .u64 rg.off]⟩]:=by
 refine .aD func39 rfl (by kernel_rfl) (m:=6) rfl fun l hn g0 g1=> ?_
 simp(disch:=omega) only[↓RA,RB,simprocAttr,g0]
 refine(sR H).eNew 4 [(.string o.name),o.rv,o.dv,o.cv] rfl rfl (by simp[OC,((sR H).sl ho.1).cells.2.1,((sR H).sl ho.2.2.1).cells.2.1,((sR H).sl ho.2.2.2.2.1).cells.2.1]) nJ fun A1 H1 hS1=> ?_
 simp only[RT]at hS1
 simp(disch:=omega) only[↓RA,RB,simprocAttr,g1]
 refine hS1.eNew 3 [sv,(.int .u64 rg.cpl),(.int .u64 rg.off)] rfl rfl (by simp[OC,(hS1.sl hr.1).cells.2.1]) mQ fun A2 H2 hS2=> ?_
 simp only[RT]at hS2
 simp(disch:=omega) only[↓RA,RZ,simprocAttr,hn,c5E]
 exact⟨A1,A2,rfl,hS2⟩
theorem qP{o:Org}(hf:o.Fine):(iM o).length≤1024:=by
 have key:∀n,n≤o.dvs.length→((List.range n).flatMap (nK o)).length≤n*128:=by
  intro n
  induction n with
  | zero=>intro _;simp
  | succ n ih=>
    intro hn
    have h1:=ih (by omega)
    have h2:=hf.keys n (by omega)
    have h3:(nK o n).length=sH o n:=by simp[nK,sH]
    have h4:sH o n≤128:=by unfold sH;omega
    rw[eu,dE,dM,fy,dm,dr]
    omega
 have:=key o.dvs.length (dj _)
 have:=hf.dlen
 unfold iM
 omega
theorem a4h(o:Org)(ho:o.In H)(hf:o.Fine)(rg:Reg)(sv:Value)(hr:rg.In H sv):Fn prog 101 [.agg #[.string o.name,o.rv,o.dv,o.cv],.agg #[sv,.int .u64 rg.cpl,.int .u64 rg.off]] H fun r H'=>
 ∃ps:List Pv,ps.map (·.l)=pU o rg∧Slx 1 Pv.cells H' (fun B=>H.length≤B) r ps∧(∀p∈ps,p.Ix H' (fun B=>H.length≤B))∧St prog H H' []:=by
 refine .aD func101 rfl (by kernel_rfl) (m:=18) rfl fun l hn g0 g1=> ?_
 simp(disch:=omega) only[↓RA,RB,simprocAttr,g0]
 refine(sR H).eNew 4 [(.string o.name),o.rv,o.dv,o.cv] rfl rfl (by simp[OC,((sR H).sl ho.1).cells.2.1,((sR H).sl ho.2.2.1).cells.2.1,((sR H).sl ho.2.2.2.2.1).cells.2.1]) nJ fun A1 H1 hS1=> ?_
 simp only[RT]at hS1
 simp(disch:=omega) only[↓RA,RB,simprocAttr,g1]
 refine hS1.eNew 3 [sv,(.int .u64 rg.cpl),(.int .u64 rg.off)] rfl rfl (by simp[OC,(hS1.sl hr.1).cells.2.1]) mQ fun A2 H2 hS2=> ?_
 simp only[RT]at hS2
 simp(disch:=omega) only[↓RA,RZ,simprocAttr]
 refine hS2.eNew 1 [(.slice none 0 0)] rfl rfl rfl a0J fun A3 H3 hS3=> ?_
 simp only[RT]at hS3
 simp(disch:=omega) only[↓RA,RZ,simprocAttr,hn,hS3.aj 0 rfl,hS3.aj 1 rfl]
 have hS4:=hS3.nil 0
 simp only[RT]at hS4
 refine iK (a2K o (ho.ae hS4) rg sv (hr.ae hS4)) ?_
 rintro r H4⟨A4,A5,rfl,hT1⟩
 have hS5:=hS4.trans hT1
 simp only[RT]at hS5
 simp(disch:=omega) only[↓RA,simprocAttr]
 refine Wp.bl fun lrg1 hlrg1=> ?_
 have hnrg1:lrg1.length=18:=by rw[hlrg1];simp(disch:=omega) only[RB,simprocAttr,hn]
 have g4rg1:get lrg1 4=(.slice none 0 0):=by rw[hlrg1];simp(disch:=omega) only[RB,simprocAttr,hn]
 have g5rg1:get lrg1 5=(ptr A3 0 1):=by rw[hlrg1];simp(disch:=omega) only[RB,simprocAttr,hn]
 have gfrg1:get lrg1 10=.func (.func 77) #[] [(ptr A4 0 4),(ptr A5 0 3)].toArray:=by rw[hlrg1];simp(disch:=omega) only[RB,simprocAttr,hn]
 clear hlrg1
 refine Wp.aZ gfrg1 fun rg1 hstrg1 hpdrg1 htmrg1 hpsrg1 hasrg1 hbdrg1=> ?_
 have hreqrg1:({rg1 with state:=.ready,pending:=none}:Loop)=rg1:=by
  cases rg1
  simp only at hstrg1 hpdrg1
  subst hstrg1 hpdrg1
  rfl
 have hLprg1:=Lp.enter hS5 rg1
 generalize H4.cons (.loop rg1)=Hcrg1 at hLprg1 ⊢
 generalize H4.length=Lrg1 at hLprg1 ⊢
 refine(b0l o hf rg sv A4 A5 (.func (.yield Lrg1) #[] #[]) (fun d xs H1=>∃(ow:Value)(ps:List Pv),ps.map (·.l)=d.map (kZ o rg)∧(∀p∈ps,p.Ix H1 (fun B=>(H.length≤B∧B≠Lrg1)∧nb [ptr A1 0 4,ptr A2 0 3,ptr A3 0 1,ow,ptr A4 0 4,ptr A5 0 3] B))∧
  Lp prog H Lrg1 rg1 H1 ([⟨ptr A1 0 4,0,oC o⟩,⟨ptr A2 0 3,0,rC rg sv⟩,⟨ptr A3 0 1,0,[ow]⟩,⟨ow,1,ps.flatMap Pv.cells⟩,⟨ptr A4 0 4,0,oC o⟩,⟨ptr A5 0 3,0,rC rg sv⟩]++xs)) ⟨.slice none 0 0,[],rfl,by simp,?_⟩ ?_ ?_ ?_ ?_).mono ?_
 ·rw[dm]
  exact hLprg1
 ·rintro d xs H1⟨ow,ps,he,hpx,h⟩
  have hs:=h.left.st
  exact⟨hs.var 4 rfl,ho.ae hs,hs.var 5 rfl,hr.ae hs,fun x hx=>h.st.own x (ef _ hx)⟩
 ·rintro d xs H1 H2 ys⟨ow,ps,he,hpx,h⟩hT
  refine⟨ow,ps,he,fun p hp=>(hpx p hp).step (fun B hB hl=>⟨hT.ae B hl,hB⟩),?_⟩
  have h3:=h.ext hT
  rwa [dG]at h3
 ·rintro d xs ys H1⟨ow,ps,he,hpx,h⟩
  rw[←dG]at h
  exact⟨ow,ps,he,hpx,h.left⟩
 ·rintro d c e xs H1 H20 pv he⟨ow,ps,hpl,hpx,hLp⟩hT hx
  have hLpj:=hLp.ext hT
  rw[dm]at hLpj
  have hpx2:∀p∈ps,p.Ix H20 (fun B=>(H.length≤B∧B≠Lrg1)∧nb [ptr A1 0 4,ptr A2 0 3,ptr A3 0 1,ow,ptr A4 0 4,ptr A5 0 3] B):=fun p hp=>(hpx p hp).step (fun B hB hl=>⟨hT.ae B hl,hB⟩)
  have hLl:Lrg1<H1.length:=jI hLp.get
  have hHl:H.length≤H1.length:=hLp.st.len
  have hpv:(⟨pv,kZ o rg c⟩:Pv).Ix H20 (fun B=>(H.length≤B∧B≠Lrg1)∧nb [ptr A1 0 4,ptr A2 0 3,ptr A3 0 1,ow,ptr A4 0 4,ptr A5 0 3] B):=
   Slx.step hx fun B hB hl=>⟨rfl,⟨by omega,by omega⟩,(hLp.left.st.aK (H':=H20) B hB hl).2⟩
  refine mT hLpj.get (by rw[hpsrg1];rfl) hstrg1 ?_
  refine Wp.aE (l:=put (put lrg1 (some 11) (.agg #[I c.1,I c.2])) (some 12) (pv)) hasrg1 (by rw[hpsrg1,htmrg1];first|exact(kP ..).symm|rfl|simp[put,kP]) ?_
  simp(disch:=omega) only[↓RA,RZ,simprocAttr,hnrg1]
  refine⟨rg1,hLpj.get,hstrg1,?_⟩
  have hYBs1:=hLpj.set (fun h=>h) {rg1 with state:=.busy}
  have hKBs1:∀B,B≠Lrg1→iR (hset H20 Lrg1 (.loop {rg1 with state:=.busy})) B=iR H20 B:=fun B h=>iP _ (eG h)
  have hNBs1:(hset H20 Lrg1 (.loop {rg1 with state:=.busy})).length=H20.length:=jE ..
  generalize hset H20 Lrg1 (.loop {rg1 with state:=.busy})=HBs1 at hYBs1 hKBs1 hNBs1 ⊢
  refine Wp.aE hbdrg1 rfl ?_
  have hZBs1:=hYBs1.left.st
  obtain⟨Bs1,hBBs1,hS6⟩:=hZBs1.aw (os:=[⟨ptr A1 0 4,0,_⟩,⟨ptr A2 0 3,0,_⟩,⟨ptr A3 0 1,0,_⟩,⟨ow,1,_⟩,⟨ptr A4 0 4,0,_⟩,⟨ptr A5 0 3,0,_⟩])
  have hpn:ps.length≤1024:=by
   have h1:=qP hf
   rw[he,dr]at h1
   have h2:=congrArg List.length hpl
   rw[dB,dB]at h2
   omega
  simp(disch:=omega) only[↓RA,RZ,simprocAttr,hnrg1,g5rg1,hS6.ld 2 rfl]
  refine hS6.ai [pv] a4d b6i rfl rfl (by first|(simp[hx.1.cells.1];done)|simp[Value.cells,hx.1.cells.1]) (by first|(simp[hx.1.cells.1];done)|simp[Value.cells,hx.1.cells.1]) (by simp[hx.1.cells.2.1]) (by decide) (by decide) fun w1 H5 hS7=> ?_
  simp only[RT]at hS7
  simp(disch:=omega) only[↓RA,RZ,simprocAttr,hnrg1]
  refine hS7.al 3 rfl (hS7.rd 6 rfl) a4d (by rw[iI (n:=1) (cel:=Pv.cells) (fun _=>rfl)];simp;omega) fun w2 H6 hS8=> ?_
  simp only[RT]at hS8
  simp(disch:=omega) only[↓RA,RB,simprocAttr,hnrg1,g5rg1]
  refine hS8.aa 2 rfl [w2] (by rw[(hS8.rd 3 rfl).cells.1]) (by simp[(hS8.rd 3 rfl).cells.2.1]) a0J (by simp) fun H7 hS9=> ?_
  simp only[RT]at hS9
  simp(disch:=omega) only[↓RA,RC,simprocAttr]
  have hS10:=hS9.pick (os':=[⟨ptr A1 0 4,0,_⟩,⟨ptr A2 0 3,0,_⟩,⟨ptr A3 0 1,0,_⟩,⟨w2,1,_⟩,⟨ptr A4 0 4,0,_⟩,⟨ptr A5 0 3,0,_⟩]) [0,1,2,3,4,5] (by decide) rfl
  have hWBs1:=(hYBs1.aI (hBBs1▸hS10)).set (fun h=>h) rg1
  rw[←hreqrg1]at hWBs1
  have hk1:Kept H20 (fun B=>(H.length≤B∧B≠Lrg1)∧nb [ptr A1 0 4,ptr A2 0 3,ptr A3 0 1,ow,ptr A4 0 4,ptr A5 0 3] B) (hset H7 Lrg1 (.loop rg1)) (fun B=>(H.length≤B∧B≠Lrg1)∧nb [ptr A1 0 4,ptr A2 0 3,ptr A3 0 1,w2,ptr A4 0 4,ptr A5 0 3] B):=by
   intro B hB hl
   have h2:=hS10.kept hBBs1 B hB.2 (by rw[hNBs1];exact hl)
   refine⟨?_,hB.1,h2.2⟩
   rw[iP _ (eG hB.1.2),h2.1,hKBs1 B hB.1.2]
  have hfin:∃(ow:Value)(ps:List Pv),ps.map (·.l)=(d++[c]).map (kZ o rg)∧(∀p∈ps,p.Ix (hset H7 Lrg1 (.loop rg1)) (fun B=>(H.length≤B∧B≠Lrg1)∧nb [ptr A1 0 4,ptr A2 0 3,ptr A3 0 1,ow,ptr A4 0 4,ptr A5 0 3] B))∧
   Lp prog H Lrg1 rg1 (hset H7 Lrg1 (.loop rg1)) ([⟨ptr A1 0 4,0,oC o⟩,⟨ptr A2 0 3,0,rC rg sv⟩,⟨ptr A3 0 1,0,[ow]⟩,⟨ow,1,ps.flatMap Pv.cells⟩,⟨ptr A4 0 4,0,oC o⟩,⟨ptr A5 0 3,0,rC rg sv⟩]++xs):=by
   refine⟨w2,ps++[⟨pv,kZ o rg c⟩],by rw[dO,dO,hpl];rfl,?_,?_⟩
   ·intro p hp
    rcases dH.1 hp with hp|hp
    ·exact(hpx2 p hp).step hk1
    ·rw[dC.1 hp]
     exact hpv.step hk1
   ·rw[show(ps++[(⟨pv,kZ o rg c⟩:Pv)]).flatMap Pv.cells=ps.flatMap Pv.cells++[pv]from by rw[dE];rfl]
    exact hreqrg1▸hWBs1
  rw[←hreqrg1]at hfin
  exact⟨_,(hYBs1.aI (hBBs1▸hS10)).get,rfl,hreqrg1▸hfin⟩
 rintro _ H21⟨ow,ps,hpl,hpx,hLp2⟩
 rw[dm]at hLp2
 refine⟨_,hLp2.get,(by rw[hstrg1];exact fun h=>by cases h),fun _=> ?_,fun c hc=>by rw[hpdrg1]at hc;cases hc⟩
 have hAAf1:=(hLp2.set (fun h=>h) {rg1 with state:=.exhausted}).st
 have hKAf1:∀B,B≠Lrg1→iR (hset H21 Lrg1 (.loop {rg1 with state:=.exhausted})) B=iR H21 B:=fun B h=>iP _ (eG h)
 generalize hset H21 Lrg1 (.loop {rg1 with state:=.exhausted})=HAf1 at hAAf1 hKAf1 ⊢
 simp(disch:=omega) only[↓RA,RZ,simprocAttr,hnrg1,g5rg1,hAAf1.ld 2 rfl,c2D]
 exact⟨ps,hpl,hAAf1.ct 3 rfl (fun _=>rfl),fun p hp=>(hpx p hp).step (fun B hB hl=>⟨hKAf1 B hB.1.2,hB.1.1⟩),hAAf1.forget⟩
theorem Fn.tr{P:Program}{k:FuncId}{args:List Value}{R:Value→Heap→Prop}(h:Fn P k args H R):Fn P k args H fun v H'=>True∧R v H':=by
 simpa using h
theorem St.bX{P:Program}{H0:Base}{os:List Ob}(hS:St P H0 H os){t:TypeId}{size bytes:Nat}{K:Value→Heap→Prop}(ha:mN P t=some (size+1,bytes))(h:∀v H1,St P H0 H1 (os++[⟨v,size+1,[]⟩])→K v H1):sJ P H t 0 [] K:=by
 unfold mN at ha
 cases he:iJ P t with
 | none=>rw[he]at ha;cases ha
 | some elem=>
 rw[he]at ha
 simp only[dc]at ha
 cases hsz2:iF P elem with
 | none=>rw[hsz2]at ha;cases ha
 | some sz=>
 rw[hsz2]at ha
 simp only[dc]at ha
 cases hby:nP P elem with
 | none=>rw[hby]at ha;cases ha
 | some by'=>
 rw[hby]at ha
 simp only[dc]at ha
 cases hz2:jA P elem with
 | none=>rw[hz2]at ha;cases ha
 | some z=>
 rw[hz2]at ha
 simp only[dc]at ha
 split at ha
 case isFalse=>cases ha
 simp only[dF,gT]at ha
 obtain⟨rfl,rfl⟩:=ha
 refine⟨.slice (some ⟨H.length,0,some 0⟩) 0 (size+1),rR H elem [],?_,h _ _ (hS.add ?_ ?_ ?_ ?_)⟩
 ·unfold yI
  simp only[he,hsz2,hz2,dc]
  rw[if_pos (by simp)]
 ·rw[lI]
  unfold OwnAt
  rw[if_neg (eQ _)]
  exact .inr ⟨_,0,elem,_,0,[],0,iS H _,by simp,rfl,by simp,by simp,hsz2⟩
 ·rw[lI];simp[pJ]
 ·rw[lI];exact fun B hB=>jS _ hB
 ·intro B hB
  simp[kJ]at hB
  omega
theorem b7c(a:Addr)(m c:Nat):kR prog .eql 38 38 false true (.slice (some a) m c) (.slice none 0 0)=some (.bool false):=by kernel_rfl
theorem a5w{v:Value}{a:Addr}{m c:Nat}(h:v=.slice (some a) m c)(K:Value→Prop):lE prog .eql 38 38 false true v (.slice none 0 0) K=oI (.bool false) K:=by
 subst h
 show jY (kR prog .eql 38 38 false true (.slice (some a) m c) (.slice none 0 0)) K=_
 rw[b7c]
 rfl
theorem Sl.cq{α:Type}{n:Nat}{cel:α→List Value}{v:Value}{xs:List α}(h:Sl n cel H v xs)(h0:0<xs.length):∃a m c,v=.slice (some a) m c:=by
 rcases h.rd with⟨_,h2⟩|⟨A,i,e,row,ty,rw,lo,ver,m,_,_,_,_,_,_,h7⟩
 ·have:=congrArg List.length h2
  rw[iI h.hc,eP]at this
  have:=h.pos
  have:0<xs.length*n:=hP h0 h.pos
  omega
 ·exact⟨_,_,_,h7⟩
theorem a7e(v:Value)(xs:List Nat)(hv:Sl 1 (one u64) H v xs)(hl:xs.length<100000)(h0:0<xs.length):Fn prog 65 [v] H fun r H'=>St prog H H' [⟨r,1,xs.flatMap (one u64)⟩]:=by
 refine .aW func65 rfl (by kernel_rfl) (m:=8) rfl fun l hn g0=> ?_
 obtain⟨a,m,c,hvv⟩:=hv.cq h0
 simp(disch:=omega) only[↓RA,RB,simprocAttr,hn,g0,a5w hvv]
 have hlen:(xs.flatMap (one u64)).length=xs.length:=by rw[iI (n:=1) (fun _=>rfl)];omega
 refine(sR H).bX a9Z fun w1 H1 hS1=> ?_
 simp only[RT]at hS1
 simp(disch:=omega) only[↓RA,RZ,simprocAttr,hn,g0]
 refine hS1.al 0 rfl (hS1.sl hv).rd a9Z (by rw[hlen];simp;omega) fun w2 H2 hS2=> ?_
 simp only[RT]at hS2
 simp(disch:=omega) only[↓RA,RB,simprocAttr,hn,c5d]
 exact hS2
theorem b9L(i:Nat)(hi:i<64):IntKind.wrap .u64 (1*2^min i (IntKind.bits .u64))=((2^i:Nat):Int):=by
 have e:IntKind.bits .u64=64:=rfl
 rw[e,ft (by omega),Int.one_mul]
 have h1:((2^i:Nat):Int)=2^i:=by simp
 rw[←h1]
 have h2:2^i≤2^63:=gf (by decide) (by omega)
 have h5:((2^i:Nat):Int)≤((2^63:Nat):Int):=Int.ofNat_le.2 h2
 exact rU _ (Int.natCast_nonneg _) (Int.lt_of_le_of_lt h5 (by decide))
theorem c1H(n i:Nat)(hi:i<64):IntKind.wrap .u64 ((BitVec.ofInt (IntKind.bits .u64) (n:Int)&&&~~~ BitVec.ofInt (IntKind.bits .u64) (IntKind.wrap .u64 (1*2^min i (IntKind.bits .u64)))).toNat:Int)=((tU n i:Nat):Int):=by
 rw[b9L i hi]
 have e:(BitVec.ofInt (IntKind.bits .u64) (n:Int)&&&~~~ BitVec.ofInt (IntKind.bits .u64) ((2^i:Nat):Int)).toNat=tU n i:=by
  show(BitVec.ofInt 64 (n:Int)&&&~~~ BitVec.ofInt 64 ((2^i:Nat):Int)).toNat=tU n i
  rw[gG,gG]
  rfl
 rw[e]
 have:tU n i<2^64:=BitVec.isLt _
 have h3:2^64=18446744073709551616:=rfl
 exact rU _ (by omega) (by omega)
theorem a5g(n:Nat)(i:Int):tU n i<18446744073709551616:=BitVec.isLt _
def Ctl.cQ(c:Ctl)(rg:Reg):Prop:=(c.kind=1→0≤c.dv∧c.dv<rg.stops.length∧0≤c.ix∧c.ix<64)∧(c.kind=2→0≤c.ix∧c.ix<64)∧(c.kind≠1→c.kind≠2→0≤c.dv∧c.dv<64)
theorem b0y(rg:Reg)(sv:Value)(hr:rg.In H sv)(h0:0<rg.stops.length)(h1:rg.stops.length<100000)(c:Ctl)(hc:c.cQ rg):
 Fn prog 67 [.agg #[sv,.int .u64 rg.cpl,.int .u64 rg.off],.agg #[I c.kind,I c.dv,I c.ix]] H fun r H'=>∃nv,r=.agg #[nv,.int .u64 (kU rg c).cpl,.int .u64 (kU rg c).off]∧St prog H H' [⟨nv,1,(kU rg c).stops.flatMap (one u64)⟩]:=by
 refine .aD func67 rfl (by kernel_rfl) (m:=41) rfl fun l hn g0 g1=> ?_
 simp(disch:=omega) only[↓RA,RB,simprocAttr,g0]
 refine(sR H).eNew 3 [sv,(.int .u64 rg.cpl),(.int .u64 rg.off)] rfl rfl (by simp[OC,((sR H).sl hr.1).cells.2.1]) mQ fun A1 H1 hS1=> ?_
 simp only[RT]at hS1
 simp(disch:=omega) only[↓RA,RB,simprocAttr,g1]
 refine hS1.eNew 3 [I c.kind,I c.dv,I c.ix] rfl rfl rfl a0D fun A2 H2 hS2=> ?_
 simp only[RT]at hS2
 simp(disch:=omega) only[↓RA,RZ,simprocAttr]
 refine hS2.eNew 3 [(.slice none 0 0),(.int .u64 0),(.int .u64 0)] rfl rfl rfl mQ fun A3 H3 hS3=> ?_
 simp only[RT]at hS3
 simp(disch:=omega) only[↓RA,RZ,simprocAttr,hn,hS3.ld 0 rfl]
 refine iK ((a7e sv rg.stops (hS3.sl hr.1) h1 h0).tr) ?_
 rintro r H4⟨-,hT1⟩
 have hS4:=hS3.trans hT1
 simp only[RT]at hS4
 simp(disch:=omega) only[↓RA,RZ,simprocAttr,hn]
 refine hS4.aa 0 rfl [r] (by rw[(hS4.rd 3 rfl).cells.1]) (by simp[(hS4.rd 3 rfl).cells.2.1]) b7P (by simp) fun H5 hS5=> ?_
 simp only[RT]at hS5
 simp(disch:=omega) only[↓RA,RZ,simprocAttr,hn,hS5.ld 1 rfl]
 refine iC (fun k1=> ?_) (fun k1=> ?_)
 ·obtain⟨hd0,hd1,hi0,hi1⟩:=hc.1 k1
  obtain⟨d,hd⟩:∃d:Nat,c.dv=d:=⟨c.dv.toNat,by omega⟩
  obtain⟨i,hi⟩:∃i:Nat,c.ix=i:=⟨c.ix.toNat,by omega⟩
  have e1:=c1H (iD rg.stops d) i (by omega)
  simp only[hd,hi]at hS5
  simp(disch:=omega) only[↓RA,RZ,simprocAttr,k1]
  refine Wp.drw kG (by kernel_rfl) ?_
  simp(disch:=omega) only[↓RA,RZ,simprocAttr,hn,hS5.ld 0 rfl,hS5.ld 1 rfl,(hS5.av 3 rfl (fun _=>rfl)).idx,(hS5.av 3 rfl (fun _=>rfl)).ld,one,u64,k1,e1,one,u64]
  refine hS5.aR 3 rfl [(.int .u64 (tU (iD rg.stops d) i:Nat))] rfl rfl a4L (by simp) (by have h:(rg.stops.flatMap (one u64)).length=rg.stops.length:=(iI (n:=1) (fun _=>rfl) _).trans (by omega);rw[h];simp;omega) fun H6 hS6=> ?_
  simp only[RT]at hS6
  simp(disch:=omega) only[↓RA,RZ,simprocAttr,hn,hS6.aj 0 rfl]
  refine hS6.aa 2 rfl [r,(.int .u64 rg.cpl),(.int .u64 rg.off)] rfl (by simp[OC,(hS6.rd 3 rfl).cells.2.1]) mQ (by simp) fun H7 hS7=> ?_
  simp only[RT]at hS7
  simp(disch:=omega) only[↓RA,RZ,simprocAttr,hn,c1v,hS7.aj 2 rfl]
  refine⟨r,by rw[kU,if_pos k1],?_⟩
  have e2:(kU rg c).stops.flatMap (one u64)=(rg.stops.flatMap (one u64)).set d (.int .u64 (tU (iD rg.stops d) i:Nat)):=by
   rw[kU,if_pos k1,a1N,a1N,hd,hi]
   show(rg.stops.set d _).map u64=_
   rw[gq]
   rfl
  rw[e2]
  exact hS7.pick [3] (by decide) rfl
 simp(disch:=omega) only[↓RA,RZ,simprocAttr,hn,k1]
 refine iC (fun k2=> ?_) (fun k2=> ?_)
 ·obtain⟨hi0,hi1⟩:=hc.2.1 k2
  obtain⟨i,hi⟩:∃i:Nat,c.ix=i:=⟨c.ix.toNat,by omega⟩
  have e1:=c1H rg.cpl i (by omega)
  simp only[hi]at hS5
  simp(disch:=omega) only[↓RA,RZ,simprocAttr,k2]
  refine Wp.drw kG (by kernel_rfl) ?_
  simp(disch:=omega) only[↓RA,RZ,simprocAttr,hn,hS5.ld 0 rfl,hS5.ld 1 rfl,k2,e1]
  refine hS5.aa 0 rfl [_] rfl rfl a4L (by simp) fun H8 hS8=> ?_
  simp only[RT]at hS8
  simp(disch:=omega) only[↓RA,RZ,simprocAttr,hn,hS8.aj 0 rfl]
  refine hS8.aa 2 rfl [r,_,(.int .u64 rg.off)] rfl (by simp[OC,(hS8.rd 3 rfl).cells.2.1]) mQ (by simp) fun H9 hS9=> ?_
  simp only[RT]at hS9
  simp(disch:=omega) only[↓RA,RZ,simprocAttr,hn,c1v,hS9.aj 2 rfl]
  refine⟨r,by rw[kU,if_neg k1,if_pos k2,hi],?_⟩
  have e2:(kU rg c).stops=rg.stops:=by rw[kU,if_neg k1,if_pos k2]
  rw[e2]
  exact hS9.pick [3] (by decide) rfl
 obtain⟨hi0,hi1⟩:=hc.2.2 k1 k2
 obtain⟨i,hi⟩:∃i:Nat,c.dv=i:=⟨c.dv.toNat,by omega⟩
 have e1:=c1H rg.off i (by omega)
 simp only[hi]at hS5
 simp(disch:=omega) only[↓RA,RZ,simprocAttr,k1,k2]
 refine Wp.drw kG (by kernel_rfl) ?_
 simp(disch:=omega) only[↓RA,RZ,simprocAttr,hn,hS5.ld 0 rfl,hS5.ld 1 rfl,e1]
 refine hS5.aa 0 rfl [_] rfl rfl a4L (by simp) fun H10 hS10=> ?_
 simp only[RT]at hS10
 simp(disch:=omega) only[↓RA,RZ,simprocAttr,hn,hS10.aj 0 rfl]
 refine hS10.aa 2 rfl [r,(.int .u64 rg.cpl),_] rfl (by simp[OC,(hS10.rd 3 rfl).cells.2.1]) mQ (by simp) fun H11 hS11=> ?_
 simp only[RT]at hS11
 simp(disch:=omega) only[↓RA,RZ,simprocAttr,hn,c1v,hS11.aj 2 rfl]
 refine⟨r,by rw[kU,if_neg k1,if_neg k2,hi],?_⟩
 have e2:(kU rg c).stops=rg.stops:=by rw[kU,if_neg k1,if_neg k2]
 rw[e2]
 exact hS11.pick [3] (by decide) rfl
theorem xF{α:Type}[Inhabited α]{xs ys:List α}(hl:xs.length=ys.length)(h:∀j,j<xs.length→iD xs j=iD ys j):xs=ys:=by
 apply List.ext_getElem hl
 intro j h1 h2
 have:=h j h1
 rwa [jP xs j h1,jP ys j h2]at this
theorem a7P(v w:Value)(xs ys:List Ct)(hv:Sl 2 jT H v xs)(hw:Sl 2 jT H w ys)(hl:xs.length<1000000000)(hl2:ys.length<1000000000):
 Fn prog 21 [v,w] H fun r H'=>r=.bool (decide (xs=ys))∧St prog H H' []:=by
 refine .aD func21 rfl (by kernel_rfl) (m:=26) rfl fun l hn g0 g1=> ?_
 simp(disch:=omega) only[↓RA,RZ,simprocAttr,hn,g0,g1,((sR H).sl hv).len,((sR H).sl hw).len]
 refine iC (fun h1=> ?_) (fun h1=> ?_)
 ·simp(disch:=omega) only[↓RA,RZ,simprocAttr,hn,c0K,h1]
  exact⟨by rw[decide_eq_false];intro e;rw[e]at h1;exact h1 rfl,(sR H)⟩
 simp(disch:=omega) only[↓RA,RZ,simprocAttr,hn,g0,((sR H).sl hv).len,h1]
 refine Wp.aq (fun n l H'=>l.length=26∧get l 0=v∧get l 1=w∧get l 12=I xs.length∧∃(j:Nat),(n+j=xs.length∧∀q,q<j→iD xs q=iD ys q)∧get l 13=I j∧St prog H H' []) xs.length ?_ ?_
 ·simp(disch:=omega) only[RB,RC,simprocAttr,hn,g0,g1]
  exact⟨0,⟨by omega,fun q hq=>absurd hq (dJ _)⟩,rfl,(sR H)⟩
 rintro n l H1⟨hn,g0,g1,g12,j,⟨hj,hz⟩,g13,hS1⟩
 simp(disch:=omega) only[↓RA,RB,simprocAttr,hn,g12,g13]
 refine iC (fun q1=> ?_) (fun q1=> ?_)
 ·simp(disch:=omega) only[↓RA,RZ,simprocAttr,hn,g13,q1]
  refine Wp.drw kG (by kernel_rfl) ?_
  simp(disch:=omega) only[↓RA,RZ,simprocAttr,hn,g0,g1,(hS1.sl hv).idx,(hS1.sl hv).aj,jT,(hS1.sl hw).idx,(hS1.sl hw).aj]
  refine iC (fun q2=> ?_) (fun q2=> ?_)
  ·simp(disch:=omega) only[↓RA,RZ,simprocAttr,hn,c0K,q2]
   refine⟨?_,hS1⟩
   rw[decide_eq_false]
   intro e
   rw[e]at q2
   exact q2 ⟨rfl,rfl⟩
  have q3:=dN.1 q2
  simp(disch:=omega) only[↓RA,RZ,simprocAttr,hn,g0,g1,g12,g13,q2]
  exact⟨n-1,by omega,j+1,⟨by omega,fun q hq=>by rcases dw.1 hq with e|e;(· exact hz q e);(· rw[e];exact ir q3.1 q3.2)⟩,by simp,hS1⟩
 simp(disch:=omega) only[↓RA,RZ,simprocAttr,hn,c0K,q1]
 exact⟨by rw[decide_eq_true];exact xF (by omega) fun q hq=>hz q (by omega),hS1⟩
theorem b2c(v w:Value)(xs ys:List Ct)(hv:Sl 2 jT H v xs)(hw:Sl 2 jT H w ys)(hl:xs.length<1000000000)(hl2:ys.length<1000000000):
 Fn prog 106 [v,w] H fun r H'=>r=.bool (decide (xs=ys))∧St prog H H' []:=by
 refine .aD func106 rfl (by kernel_rfl) (m:=8) rfl fun l hn g0 g1=> ?_
 simp(disch:=omega) only[↓RA,RZ,simprocAttr,hn,g0,g1]
 refine(sR H).cF (a7P v w xs ys ((sR H).sl hv) ((sR H).sl hw) hl hl2) fun H1 hS1=> ?_
 simp(disch:=omega) only[↓RA,RZ,simprocAttr,hn,c4l]
 exact hS1
def Pv.In(H:Heap)(p:Pv):Prop:=Sl 2 jT H p.v p.l
theorem b7B(v w:Value)(ps qs:List Pv)(hv:Sl 1 Pv.cells H v ps)(hw:Sl 1 Pv.cells H w qs)(hp:∀p∈ps,p.In H)(hq:∀p∈qs,p.In H)(hl:ps.length<1000000000)(hl2:qs.length<1000000000)(hb:∀p∈ps,p.l.length<1000000000)(hb2:∀p∈qs,p.l.length<1000000000):
 Fn prog 105 [v,w,.func (.func 106) #[] #[]] H fun r H'=>r=.bool (decide (ps.map (·.l)=qs.map (·.l)))∧St prog H H' []:=by
 have hne:∀j,j<ps.length→j<qs.length→(iD ps j).l≠(iD qs j).l→ps.map (·.l)≠qs.map (·.l):=fun j h1 h2 hne e=>by
  apply hne
  have:=congrArg (fun l=>iD l j) e
  simp only at this
  rwa [pK _ h1,pK _ h2]at this
 refine .bU func105 rfl (by kernel_rfl) (m:=32) rfl fun l hn g0 g1 g2=> ?_
 simp(disch:=omega) only[↓RA,RZ,simprocAttr,hn,g0,g1,((sR H).sl hv).len,((sR H).sl hw).len]
 refine iC (fun h1=> ?_) (fun h1=> ?_)
 ·simp(disch:=omega) only[↓RA,RZ,simprocAttr,hn,b6B,h1]
  refine⟨?_,(sR H)⟩
  rw[decide_eq_false]
  intro e
  have:=congrArg List.length e
  rw[dB,dB]at this
  omega
 simp(disch:=omega) only[↓RA,RZ,simprocAttr,hn,g0,((sR H).sl hv).len,h1]
 refine Wp.aq (fun n l H'=>l.length=32∧get l 1=w∧get l 2=(.func (.func 106) #[] #[])∧get l 15=v∧get l 16=I ps.length∧∃(j:Nat),(n+j=ps.length∧∀q,q<j→(iD ps q).l=(iD qs q).l)∧get l 17=I j∧St prog H H' []) ps.length ?_ ?_
 ·simp(disch:=omega) only[RB,RC,simprocAttr,hn,g1,g2]
  exact⟨0,⟨by omega,fun q hq=>absurd hq (dJ _)⟩,rfl,(sR H)⟩
 rintro n l H1⟨hn,g1,g2,g15,g16,j,⟨hj,hz⟩,g17,hS1⟩
 simp(disch:=omega) only[↓RA,RB,simprocAttr,hn,g16,g17]
 refine iC (fun q1=> ?_) (fun q1=> ?_)
 ·simp(disch:=omega) only[↓RA,RZ,simprocAttr,hn,g1,g2,g15,g17,(hS1.sl hv).idx,(hS1.sl hv).ld,Pv.cells,(hS1.sl hw).idx,(hS1.sl hw).ld,q1]
  refine hS1.cF (b2c (iD ps j).v (iD qs j).v (iD ps j).l (iD qs j).l (hS1.sl (hp _ (iG (by omega)))) (hS1.sl (hq _ (iG (by omega)))) (hb _ (iG (by omega))) (hb2 _ (iG (by omega)))) fun H2 hS2=> ?_
  simp(disch:=omega) only[↓RA,RZ,simprocAttr,hn,q1]
  refine jJ (fun q2=> ?_) (fun q2=> ?_)
  ·simp(disch:=omega) only[↓RA,RZ,simprocAttr,hn,b6B,q1,q2]
   exact⟨by rw[decide_eq_false (hne j (by omega) (by omega) (by simpa using q2))],hS2⟩
  simp(disch:=omega) only[↓RA,RZ,simprocAttr,hn,g1,g2,g15,g16,g17,q1,q2]
  exact⟨n-1,by omega,j+1,⟨by omega,fun q hq=>by rcases dw.1 hq with e|e;(· exact hz q e);(· rw[e];simpa using q2)⟩,by simp,hS2⟩
 simp(disch:=omega) only[↓RA,RZ,simprocAttr,hn,b6B,q1]
 refine⟨?_,hS1⟩
 rw[decide_eq_true]
 refine xF (by simp;omega) fun q hq=> ?_
 rw[dB]at hq
 rw[pK _ hq,pK _ (by omega)]
 exact hz q (by omega)
theorem b8i(v:Value)(xs:List Ctl)(hv:Sl 3 Ctl.cells H v xs)(hl:xs.length<1000000000)(k:FuncId)(caps:List Value)(p:Nat→Bool)
 (hf:∀j H1,j<xs.length→St prog H H1 []→Fn prog k (.agg #[I (iD xs j).kind,I (iD xs j).dv,I (iD xs j).ix]::caps) H1 fun r H2=>r=.bool (p j)∧St prog H1 H2 []):
 Fn prog 152 [v,.func (.func k) #[] caps.toArray] H fun r H'=>r=I (lT p xs.length)∧St prog H H' []:=by
 refine .aD func152 rfl (by kernel_rfl) (m:=19) rfl fun l hn g0 g1=> ?_
 simp(disch:=omega) only[↓RA,RZ,simprocAttr,hn,g0,((sR H).sl hv).len]
 refine Wp.aq (fun n l H'=>l.length=19∧get l 0=v∧get l 1=.func (.func k) #[] caps.toArray∧get l 7=I xs.length∧∃(j:Nat),(n+j=xs.length∧∀q,q<j→p q=false)∧get l 8=I j∧St prog H H' []) xs.length ?_ ?_
 ·simp(disch:=omega) only[RB,RC,simprocAttr,hn,g0,g1]
  exact⟨0,⟨by omega,fun q hq=>absurd hq (dJ _)⟩,rfl,(sR H)⟩
 rintro n l H1⟨hn,g0,g1,g7,j,⟨hi,h0⟩,g8,hS1⟩
 simp(disch:=omega) only[↓RA,RB,simprocAttr,hn,g7,g8]
 refine iC (fun h=> ?_) (fun h=> ?_)
 ·simp(disch:=omega) only[↓RA,RZ,simprocAttr,hn,g0,g1,g8,(hS1.sl hv).idx,(hS1.sl hv).aj,Ctl.cells,h]
  refine hS1.cF (hf j _ (by omega) hS1) fun H2 hS2=> ?_
  simp(disch:=omega) only[↓RA,RZ,simprocAttr,hn,h]
  refine jJ (fun hp=> ?_) (fun hp=> ?_)
  ·simp(disch:=omega) only[↓RA,RZ,simprocAttr,hn,b9J,h,hp]
   exact⟨by rw[vV p xs.length j (by omega) hp h0],hS2⟩
  simp(disch:=omega) only[↓RA,RZ,simprocAttr,hn,g0,g1,g7,g8,h,hp]
  exact⟨n-1,by omega,j+1,⟨by omega,fun q hq=>by rcases dw.1 hq with e|e;(· exact h0 q e);(· rw[e];exact hp)⟩,by simp,hS2⟩
 simp(disch:=omega) only[↓RA,RZ,simprocAttr,hn,b9J,h]
 exact⟨by rw[vK p xs.length fun q hq=>h0 q (by omega)],hS1⟩
theorem c4z:a3K prog 97=some (2+1):=by kernel_rfl
theorem rE(a b:List Ctl):mD (a++b)=mD a++mD b:=dE
theorem b7b{B:Base}{v:Value}{xs:List Ctl}(hS:St prog B H [⟨v,3,mD xs⟩])(hl:xs.length<100000)(k:FuncId)(caps:List Value)(p:Ctl→Bool)
 (hf:∀c∈xs,∀{H1:Heap}{os:List Ob},St prog B H1 os→Fn prog k (.agg #[I c.kind,I c.dv,I c.ix]::caps) H1 fun r H2=>r=.bool (p c)∧St prog H1 H2 []):
 Fn prog 102 [v,.func (.func k) #[] caps.toArray] H fun r H'=>∃rest:List Value,(∀b,kJ r=some b→kJ v=some b)∧(∀H2,RdAt H2 v 3 (mD (xs.filter fun c=> !p c)++rest)→RdAt H2 r 3 (mD (xs.filter fun c=> !p c)))∧
  St prog B H' [⟨v,3,mD (xs.filter fun c=> !p c)++rest⟩]:=by
 refine .aD func102 rfl (by kernel_rfl) (m:=42) rfl fun l hn g0 g1=> ?_
 simp(disch:=omega) only[↓RA,RZ,simprocAttr,hn,g0,g1]
 refine hS.cF (b8i v xs (hS.av 0 rfl (fun _=>rfl)) (by omega) k caps (fun j=>p (iD xs j)) (fun j H1 hj hS'=>hf _ (iG hj) (hS.trans hS'))) fun H1 hS1=> ?_
 simp(disch:=omega) only[↓RA,RB,simprocAttr,hn]
 refine iC (fun h1=> ?_) (fun h1=> ?_)
 ·have hno:∀c∈xs,p c=false:=by
   intro c hc
   obtain⟨j,hj,rfl⟩:=dT.1 hc
   have h2:¬0≤lT (fun j=>p (iD xs j)) xs.length:=by omega
   rw[vH]at h2
   rw[←jP xs j hj,←ey]
   exact fun hp=>h2 ⟨j,hj,hp⟩
  have hfe:(xs.filter fun c=> !p c)=xs:=gS.2 fun c hc=>by rw[hno c hc];rfl
  simp(disch:=omega) only[↓RA,RZ,simprocAttr,hn,g0,c0h,h1]
  exact⟨[],fun _ h=>h,by rw[hfe,dm];exact fun _ h=>h,by rw[hfe,dm];exact hS1⟩
 have hge:0≤lT (fun j=>p (iD xs j)) xs.length:=by
  unfold lT at h1 ⊢
  split
  ·omega
  ·rename_i hq
   rw[hq]at h1
   exact absurd rfl h1
 obtain⟨i0,hi0⟩:∃i0:Nat,lT (fun j=>p (iD xs j)) xs.length=i0:=⟨_,(fj hge).symm⟩
 have hi0l:=sW hi0
 have hi0b:(∀j,j<i0→p (iD xs j)=false)∧p (iD xs i0)=true:=by
  unfold lT at hi0
  split at hi0
  ·rename_i q hq
   have hqi:q=i0:=by omega
   subst hqi
   rw[gh]at hq
   exact⟨fun j hj=>by have:=hq.2.2 j hj;simpa using this,hq.1⟩
  ·omega
 have hD0:((xs.take (i0+1)).filter fun c=> !p c)=xs.take i0:=by
  rw[lU xs i0 hi0l,dZ]
  have e1:([iD xs i0].filter fun c=> !p c)=[]:=by simp[hi0b.2]
  rw[e1,dm]
  refine gS.2 fun c hc=> ?_
  obtain⟨j,hj,rfl⟩:=dT.1 hc
  have hj2:j<i0:=by rw[eW]at hj;omega
  have:=hi0b.1 j hj2
  rw[jP xs j (by omega)]at this
  rw[List.getElem_take,this]
  rfl
 simp(disch:=omega) only[↓RA,RZ,simprocAttr,hn,hi0]
 have hrow:St prog B H1 [⟨v,3,mD (((xs.take (i0+1)).filter fun c=> !p c)++xs.drop ((xs.take (i0+1)).filter fun c=> !p c).length)⟩]:=by
  rw[hD0,eW,ft (by omega),fI]
  exact hS1
 have hlt0:((xs.take (i0+1)).filter fun c=> !p c).length<i0+1:=by
  rw[hD0,eW]
  omega
 refine Wp.aq (fun n l H'=>l.length=42∧get l 0=v∧get l 1=.func (.func k) #[] caps.toArray∧∃j:Nat,(n+j=xs.length∧((xs.take j).filter fun c=> !p c).length<j)∧get l 5=I ((xs.take j).filter fun c=> !p c).length∧get l 6=I j∧St prog B H' [⟨v,3,mD (((xs.take j).filter fun c=> !p c)++xs.drop ((xs.take j).filter fun c=> !p c).length)⟩]) (xs.length-(i0+1)) ?_ ?_
 ·simp(disch:=omega) only[RB,RC,simprocAttr,hn,g0,g1]
  refine⟨i0+1,⟨by omega,hlt0⟩,?_,by simp,hrow⟩
  rw[hD0,eW,ft (by omega)]
 clear hrow hlt0
 rintro n l H9⟨hn,g0,g1,j,⟨hj,hlt⟩,g5,g6,hS9⟩
 have hsucc:j<xs.length→((xs.take (j+1)).filter fun c=> !p c)=((xs.take j).filter fun c=> !p c)++(if p (iD xs j)=true then[]else[iD xs j]):=fun h=>by
  rw[lU xs j h,dZ]
  congr 1
  by_cases hp:p (iD xs j)=true
  ·rw[if_pos hp];simp[hp]
  ·rw[if_neg hp];simp[hp]
 have hall:j=xs.length→((xs.take j).filter fun c=> !p c)=xs.filter fun c=> !p c:=fun h=>by rw[h,eE]
 generalize hD:((xs.take j).filter fun c=> !p c)=D at g5 hlt hS9 hsucc hall
 have hjl:j≤xs.length:=by omega
 have hrl:(D++xs.drop D.length).length=xs.length:=by rw[dr,eF];omega
 have hat:∀q,D.length≤q→iD (D++xs.drop D.length) q=iD xs q:=fun q hq=>by
  unfold iD
  rw[dh,ek hq,dI,dh]
  congr 2;omega
 have hatj:=hat j (by omega)
 simp(disch:=omega) only[↓RA,RZ,simprocAttr,hn,g0,g6,(hS9.av 0 rfl (fun _=>rfl)).len,hrl]
 refine iC (fun h4=> ?_) (fun h4=> ?_)
 ·have hjx:j<xs.length:=by omega
  have hsu:=hsucc hjx
  simp(disch:=omega) only[↓RA,RZ,simprocAttr,hn,g0,g6,(hS9.av 0 rfl (fun _=>rfl)).idx,(hS9.av 0 rfl (fun _=>rfl)).aj,Ctl.cells,hatj,h4]
  refine hS9.eNew 3 [I 0,I 0,I 0] rfl rfl rfl a0D fun A1 H2 hS2=> ?_
  simp only[RT]at hS2
  simp(disch:=omega) only[↓RA,RZ,simprocAttr,hn,h4]
  refine hS2.aa 1 rfl [I (iD xs j).kind,I (iD xs j).dv,I (iD xs j).ix] rfl rfl a0D (by simp) fun H3 hS3=> ?_
  simp only[RT]at hS3
  simp(disch:=omega) only[↓RA,RZ,simprocAttr,hn,g1,hS3.aj 1 rfl,h4]
  refine hS3.cF (hf (iD xs j) (iG hjx) hS3) fun H4 hS4=> ?_
  simp(disch:=omega) only[↓RA,RZ,simprocAttr,hn,h4]
  refine jJ (fun h5=> ?_) (fun h5=> ?_)
  ·have hpf:¬p (iD xs j)=true:=by simpa using h5
   rw[if_neg hpf]at hsu
   simp(disch:=omega) only[↓RA,RZ,simprocAttr,hn,g0,g5,hS4.aj 1 rfl,(hS4.av 0 rfl (fun _=>rfl)).idx,h4,h5]
   refine hS4.aR 0 rfl [I (iD xs j).kind,I (iD xs j).dv,I (iD xs j).ix] rfl rfl a0D (by simp) (by rw[mH,hrl];simp;omega) fun H5 hS5=> ?_
   simp only[RT]at hS5
   simp(disch:=omega) only[↓RA,RZ,simprocAttr,hn,g0,g1,g5,g6,h4,h5]
   refine⟨n-1,by omega,j+1,?_⟩
   rw[hsu]
   refine⟨⟨by omega,by simp;omega⟩,by simp,by simp,?_⟩
   have e3:mD (D++[iD xs j]++xs.drop (D++[iD xs j]).length)=(((mD (D++xs.drop D.length)).set (D.length*3) (I (iD xs j).kind)).set (D.length*3+1) (I (iD xs j).dv)).set (D.length*3+1+1) (I (iD xs j).ix):=by
    have hx:xs.drop D.length=iD xs D.length::xs.drop (D.length+1):=by
     rw[jP xs _ (by omega)]
     exact eU (by omega)
    rw[hx,dr,fW,rE,rE,rE]
    have e4:mD (iD xs D.length::xs.drop (D.length+1))=I (iD xs D.length).kind::I (iD xs D.length).dv::I (iD xs D.length).ix::mD (xs.drop (D.length+1)):=rfl
    have e5:mD [iD xs j]=[I (iD xs j).kind,I (iD xs j).dv,I (iD xs j).ix]:=rfl
    have e6:(mD D).length=D.length*3:=mH D
    rw[e4,e5,eI _ _ (by omega),eI _ _ (by omega),eI _ _ (by omega),e6,il,fT,show D.length*3+1+1-D.length*3=2 from by omega]
    simp
   rw[e3]
   exact hS5.pick [0] (by decide) rfl
  have hpt:p (iD xs j)=true:=by simpa using h5
  rw[if_pos hpt,dm]at hsu
  simp(disch:=omega) only[↓RA,RZ,simprocAttr,hn,g0,g1,g5,g6,h4,h5]
  refine⟨n-1,by omega,j+1,?_⟩
  rw[hsu]
  exact⟨⟨by omega,by omega⟩,rfl,by simp,hS4.pick [0] (by decide) rfl⟩
 have hje:j=xs.length:=by omega
 have hDe:=hall hje
 have hcl:(mD (D++xs.drop D.length)).length=xs.length*(2+1):=by rw[mH,hrl]
 have hDn:D.length≤xs.length:=by omega
 simp(disch:=omega) only[↓RA,RZ,simprocAttr,hn,g0,g5,(hS9.av 0 rfl (fun _=>rfl)).aM,hrl,h4]
 rw[show((xs.length:Int)-D.length).toNat=xs.length-D.length from by omega]
 refine hS9.bq (size:=2) 0 rfl D.length (xs.length-D.length) (by rw[hcl];omega) (by
  intro e
  have h2:(mD (D++xs.drop D.length)).length=0:=by rw[e];rfl
  rw[hcl]at h2;omega) c4z fun z H3 hz hSc=> ?_
 simp only[RT]at hSc
 have e3:iZ (mD (D++xs.drop D.length)) (D.length*3) z=mD D++z:=by
  rw[rE,show D.length*3=(mD D).length from(mH D).symm,mG z (mD D) (mD (xs.drop D.length)) (by rw[mH,eF];omega)]
  rw[gu (by rw[mH,eF];omega),dm]
 rw[show D.length*(2+1)=D.length*3 from rfl,e3]at hSc
 have hw:RdAt H3 v (2+1) (mD D++z):=hSc.rd 0 rfl
 have hwl:(mD D++z).length=xs.length*(2+1):=by rw[dr,mH,hz];omega
 simp(disch:=omega) only[↓RA,RZ,simprocAttr,hn,g0,g5,hw.aN hwl,c0h,h4]
 refine⟨z,fun b h=>sI h,fun H2 h2=> ?_,by rw[←hDe];exact hSc⟩
 rw[←hDe]at h2 ⊢
 have h5:=RdAt.sub h2 0 D.length (by rw[hwl];omega) (by
  intro e
  rw[e]at hwl
  simp at hwl;omega)
 rw[Nat.zero_mul,im,show D.length*3=(mD D).length from(mH D).symm,List.take_left' rfl]at h5
 exact h5
theorem a3x(rg:Reg)(c:Ctl):(kU rg c).stops.length=rg.stops.length:=by
 unfold kU
 split
 ·simp
 ·split<;>rfl
theorem yB{rg:Reg}(h:rg.Ok)(c:Ctl):(kU rg c).Ok:=by
 obtain⟨h1,h2,h3,h4⟩:=h
 unfold kU
 split
 ·refine⟨by simpa using h1,?_,h3,h4⟩
  intro x hx
  rcases fY hx with h|h
  ·exact h2 x h
  ·rw[h];exact a5g _ _
 ·split
  ·exact⟨h1,h2,a5g _ _,h4⟩
  ·exact⟨h1,h2,h3,a5g _ _⟩
theorem a1o{o:Org}(hf:o.Fine)(rg:Reg)(c:Ct):(kZ o rg c).length≤1000000:=by
 unfold kZ
 split
 ·rename_i h
  have hc:=(a3I h).2
  unfold xI a5y
  refine dL (b5J _) ?_
  rw[pG]
  have hm:∀x∈[c],tF o x=true:=by intro x hx;rw[dC.1 hx];exact hc
  have h1:=vJ hf rg (uW o rg [c]) (a2u hm)
  have h2:=a1z hf (rg:=rg) (l:=[c]) (by simp)
  omega
 ·simp
theorem a4f{o:Org}(hf:o.Fine)(rg:Reg):∀l∈pU o rg,l.length≤1000000:=by
 intro l hl
 obtain⟨c,_,rfl⟩:=dD.1 hl
 exact a1o hf rg c
theorem a1r{rg:Reg}(h64:rg.stops.length≤64):∀c∈oZ rg,c.cQ rg:=by
 intro c hc
 unfold oZ at hc
 have hb:∀(x i:Nat),i∈tQ x→i<64:=fun x i hi=>by
  unfold tQ at hi
  exact dz.1 (ee.1 hi).1
 rcases dH.1 hc with hc|hc
 ·rcases dH.1 hc with hc|hc
  ·obtain⟨d,hd,hc⟩:=eD.1 hc
   obtain⟨i,hi,rfl⟩:=dD.1 hc
   have hd:=dz.1 hd
   have hi:=hb _ _ hi
   refine⟨fun _=> ?_,fun h=> ?_,fun h=> ?_⟩
   ·simp only[a0f];omega
   ·simp only[a0f]at h;omega
   ·exact absurd rfl h
  ·obtain⟨i,hi,rfl⟩:=dD.1 hc
   have hi:=hb _ _ hi
   refine⟨fun h=> ?_,fun _=> ?_,fun _ h=> ?_⟩
   ·simp only[wX]at h;omega
   ·simp only[wX];omega
   ·exact absurd rfl h
 ·obtain⟨i,hi,rfl⟩:=dD.1 hc
  have hi:=hb _ _ hi
  refine⟨fun h=> ?_,fun h=> ?_,fun _ _=> ?_⟩
  ·simp only[a4R]at h;omega
  ·simp only[a4R]at h;omega
  ·simp only[a4R];omega
theorem b3I(o:Org)(ho:o.In H)(hf:o.Fine)(rg:Reg)(sv:Value)(hr:rg.In H sv)(h0:0<rg.stops.length)(h1:rg.stops.length<100000)(c:Ctl)(hc:c.cQ rg)(AO AR AW:Nat)
 (hAO:Var H AO 4 [.string o.name,o.rv,o.dv,o.cv]) (hAR:Var H AR 3 [sv,.int .u64 rg.cpl,.int .u64 rg.off]) (wv:Value) (own:List Pv) (hAW:Var H AW 1 [wv]) (hw:Sl 1 Pv.cells H wv own) (hwi:∀p∈own,p.In H) (hwl:own.length<1000000000) (hwb:∀p∈own,p.l.length<1000000000):
 Fn prog 104 [.agg #[I c.kind,I c.dv,I c.ix],ptr AO 0 4,ptr AR 0 3,ptr AW 0 1] H fun r H'=>r=.bool (!(decide (pU o (kU rg c)=own.map (·.l))))∧St prog H H' []:=by
 refine .cU func104 rfl (by kernel_rfl) (m:=14) rfl fun l hn g0 g1 g2 g3=> ?_
 simp(disch:=omega) only[↓RA,RB,simprocAttr,g0]
 refine(sR H).eNew 3 [I c.kind,I c.dv,I c.ix] rfl rfl rfl a0D fun A1 H1 hS1=> ?_
 simp only[RT]at hS1
 simp(disch:=omega) only[↓RA,RB,simprocAttr]
 refine Wp.aS kG [(0,4),(5,0),(5,4)] (by kernel_rfl) (by kernel_rfl) ?_
 simp(disch:=omega) only[↓RA,RZ,simprocAttr,hn,g1,g2,(hS1.va hAO).aj,(hS1.va hAR).aj,hS1.aj 0 rfl]
 refine iK (b0y rg sv (hr.ae hS1) h0 h1 c hc) ?_
 rintro r H2⟨nv,rfl,hT1⟩
 have hS2:=hS1.trans hT1
 simp only[RT]at hS2
 simp(disch:=omega) only[↓RA,RZ,simprocAttr,hn]
 have hln:=a3x rg c
 refine iK (a4h o (ho.ae hS2) hf (kU rg c) nv ⟨hS2.av 1 rfl (fun _=>rfl),yB hr.2 c⟩) ?_
 rintro r H3⟨ps,hps,hpx,hpi,hT2⟩
 have hS3:=hS2.trans hT2
 simp only[RT]at hS3
 have hpl:ps.length<1000000000:=by
  have h2:=congrArg List.length hps
  rw[dB]at h2
  have h3:=qP hf
  unfold pU at h2
  rw[dB]at h2
  omega
 have hpb:∀p∈ps,p.l.length<1000000000:=fun p hp=>by
  have:=a4f hf (kU rg c) p.l (by rw[←hps];exact eO hp)
  omega
 simp(disch:=omega) only[↓RA,RZ,simprocAttr,hn,g3,(hS3.va hAW).ld]
 refine hS3.cF (b7B r wv ps own hpx.1 (hS3.sl hw) (fun p hp=>(hpi p hp).1) (fun p hp=>hS3.sl (hwi p hp)) hpl hwl hpb hwb) fun H4 hS4=> ?_
 simp(disch:=omega) only[↓RA,RZ,simprocAttr,hn,g1,g3,(hS2.va hAO).aj,(hS1.va hAW).ld,(hS2.va hAW).ld,c2o]
 exact⟨by rw[hps],hS4.forget⟩
theorem a2D{rg:Reg}(h60:rg.stops.length≤60):(oZ rg).length<100000:=by
 have e:oZ rg=yO rg rg.stops.length++(nZ rg.cpl 64).map wX++(nZ rg.off 64).map a4R:=rfl
 rw[e,dr,dr,dB,dB]
 have h1:=a1c rg rg.stops.length
 have h2:=pP rg.cpl 64
 have h3:=pP rg.off 64
 omega
theorem a7a(o:Org)(rg:Reg):((oZ rg).filter fun c=> !(!(decide (pU o (kU rg c)=pU o rg))))=mO o rg:=by
 unfold mO
 congr 1
 funext c
 rw[Bool.not_not]
theorem b0j(o:Org)(ho:o.In H)(hf:o.Fine)(rg:Reg)(sv:Value)(hr:rg.In H sv)(h0:0<rg.stops.length)(h60:rg.stops.length≤60):
 Fn prog 66 [.agg #[.string o.name,o.rv,o.dv,o.cv],.agg #[sv,.int .u64 rg.cpl,.int .u64 rg.off]] H fun r H'=>Slx 3 Ctl.cells H' (fun B=>H.length≤B) r (mO o rg)∧St prog H H' []:=by
 refine .aD func66 rfl (by kernel_rfl) (m:=13) rfl fun l hn g0 g1=> ?_
 simp(disch:=omega) only[↓RA,RB,simprocAttr,g0]
 refine(sR H).eNew 4 [(.string o.name),o.rv,o.dv,o.cv] rfl rfl (by simp[OC,((sR H).sl ho.1).cells.2.1,((sR H).sl ho.2.2.1).cells.2.1,((sR H).sl ho.2.2.2.2.1).cells.2.1]) nJ fun A1 H1 hS1=> ?_
 simp only[RT]at hS1
 simp(disch:=omega) only[↓RA,RB,simprocAttr,g1]
 refine hS1.eNew 3 [sv,(.int .u64 rg.cpl),(.int .u64 rg.off)] rfl rfl (by simp[OC,(hS1.sl hr.1).cells.2.1]) mQ fun A2 H2 hS2=> ?_
 simp only[RT]at hS2
 simp(disch:=omega) only[↓RA,RZ,simprocAttr,hn,hS2.aj 0 rfl,hS2.aj 1 rfl]
 have hS0:=hS2
 refine iK (a4h o (ho.ae hS2) hf rg sv (hr.ae hS2)) ?_
 rintro r H3⟨ps,hps,hpx,hpi,hT1⟩
 have hS3:=hS2.trans hT1
 simp only[RT]at hS3
 obtain⟨wv,rfl⟩:∃w,w=r:=⟨r,rfl⟩
 have hpl:ps.length<1000000000:=by
  have h2:=congrArg List.length hps
  rw[dB]at h2
  have h3:=qP hf
  unfold pU at h2
  rw[dB]at h2
  omega
 have hpb:∀p∈ps,p.l.length<1000000000:=fun p hp=>by
  have:=a4f hf rg p.l (by rw[←hps];exact eO hp)
  omega
 have hkn:=hS0.aK (H':=H3)
 have hpx2:=hpx.step hkn
 have hpi2:=fun p hp=>(hpi p hp).step hkn
 have hS1:=hS3
 obtain⟨X,hBX,hS4⟩:=hS3.aw (os:=[⟨ptr A1 0 4,0,_⟩,⟨ptr A2 0 3,0,_⟩])
 simp(disch:=omega) only[↓RA,RZ,simprocAttr]
 refine hS4.eNew 1 [(.slice none 0 0)] rfl rfl rfl a0J fun A3 H4 hS5=> ?_
 simp only[RT]at hS5
 simp(disch:=omega) only[↓RA,RB,simprocAttr,hn]
 refine hS5.aa 2 rfl [wv] (by rw[hpx.1.cells.1]) (by simp[hpx.1.cells.2.1]) a0J (by simp) fun H5 hS6=> ?_
 simp only[RT]at hS6
 simp(disch:=omega) only[↓RA,RZ,simprocAttr,hn,hS6.aj 1 rfl]
 refine iK ((b2U rg sv (hr.ae (hS3.ab hBX hS6)) h60).tr) ?_
 rintro r H6⟨-,hT2⟩
 have hS7:=hS6.trans hT2
 simp only[RT]at hS7
 obtain⟨cw,rfl⟩:∃w,w=r:=⟨r,rfl⟩
 simp(disch:=omega) only[↓RA,RZ,simprocAttr,hn]
 have hM1:=hS7.pick (os':=[⟨cw,3,_⟩]) [3] (by decide) rfl
 have hR1:=hS7.pick (os':=[⟨cw,3,_⟩,⟨ptr A1 0 4,0,_⟩,⟨ptr A2 0 3,0,_⟩,⟨ptr A3 0 1,0,_⟩]) [3,0,1,2] (by decide) rfl
 refine iK (b7b (xs:=oZ rg) hM1.aH (a2D h60) 104 [ptr A1 0 4,ptr A2 0 3,ptr A3 0 1] (fun c=> !(decide (pU o (kU rg c)=pU o rg))) (fun c hc{H9 os}h=>by
  have q1:=hR1.frame h.forget
  have q2:=hS1.ab hBX q1
  have q3:=q1.kept hBX
  have q4:=b3I o (ho.ae q2) hf rg sv (hr.ae q2) h0 (by omega) c (a1r (by omega) c hc) A1 A2 A3 (q1.var 0 rfl) (q1.var 1 rfl) wv ps (q1.var 2 rfl) (hpx2.step q3).1 (fun p hp=>((hpi2 p hp).step q3).1) hpl hpb
  rw[hps]at q4
  exact q4)) ?_
 rintro r H7⟨rest,hb,hrd,hT3⟩
 have hS8:=hR1.frame hT3
 simp only[RT]at hS8
 rw[a7a]at hrd
 have hrr:=hrd _ (by rw[←a7a];exact hS8.rd 0 rfl)
 have hrc:=hrr.cells
 simp(disch:=omega) only[↓RA,RB,simprocAttr,hn,c5J]
 refine⟨⟨⟨hrr,fun _=>rfl,by decide⟩,fun b h=> ?_⟩,(hS3.ab hBX hS8).forget⟩
 rcases(hS3.ab hBX hS8).new _ (dY ..) b (hb b h)with h|h
 ·exact h
 ·exact h.elim
theorem rK(o:Org)(ho:o.In H)(rg:Reg)(sv:Value)(hr:rg.In H sv):
 Fn prog 37 [.agg #[.string o.name,o.rv,o.dv,o.cv],.agg #[sv,.int .u64 rg.cpl,.int .u64 rg.off]] H fun r H'=>r=I (mB o rg)∧St prog H H' []:=by
 refine .aD func37 rfl (by kernel_rfl) (m:=14) rfl fun l hn g0 g1=> ?_
 simp(disch:=omega) only[↓RA,RB,simprocAttr,g0]
 refine(sR H).eNew 4 [(.string o.name),o.rv,o.dv,o.cv] rfl rfl (by simp[OC,((sR H).sl ho.1).cells.2.1,((sR H).sl ho.2.2.1).cells.2.1,((sR H).sl ho.2.2.2.2.1).cells.2.1]) nJ fun A1 H1 hS1=> ?_
 simp only[RT]at hS1
 simp(disch:=omega) only[↓RA,RB,simprocAttr,g1]
 refine hS1.eNew 3 [sv,(.int .u64 rg.cpl),(.int .u64 rg.off)] rfl rfl (by simp[OC,(hS1.sl hr.1).cells.2.1]) mQ fun A2 H2 hS2=> ?_
 simp only[RT]at hS2
 simp(disch:=omega) only[↓RA,RZ,simprocAttr,hn,hS2.aj 0 rfl]
 refine hS2.cF (a1S o (ho.ae hS2)) fun H3 hS3=> ?_
 simp(disch:=omega) only[↓RA,RB,simprocAttr,hn]
 refine iC (fun h1=> ?_) (fun h1=> ?_)
 ·simp(disch:=omega) only[↓RA,RZ,simprocAttr,hn,c3j,h1]
  exact⟨by rw[mB,if_pos h1],hS3.forget⟩
 simp(disch:=omega) only[↓RA,RZ,simprocAttr,hn,hS3.aj 0 rfl,hS3.aj 1 rfl,h1]
 refine hS3.cF (b5y o (ho.ae hS3) rg sv (hr.ae hS3)) fun H4 hS4=> ?_
 simp(disch:=omega) only[↓RA,RZ,simprocAttr,hn,c3j,h1]
 exact hS4.forget
theorem b7U(o:Org)(ho:o.In H)(rg:Reg)(sv:Value)(hr:rg.In H sv):
 Fn prog 32 [.agg #[.string o.name,o.rv,o.dv,o.cv],.agg #[sv,.int .u64 rg.cpl,.int .u64 rg.off]] H fun r H'=>∃lv,r=.tuple #[lv,I (mB o rg)]∧Slx 3 Ctl.cells H' (fun B=>H.length≤B) lv (if mB o rg=0 then mO o rg else[])∧St prog H H' []:=by
 refine .aD func32 rfl (by kernel_rfl) (m:=16) rfl fun l hn g0 g1=> ?_
 simp(disch:=omega) only[↓RA,RB,simprocAttr,g0]
 refine(sR H).eNew 4 [(.string o.name),o.rv,o.dv,o.cv] rfl rfl (by simp[OC,((sR H).sl ho.1).cells.2.1,((sR H).sl ho.2.2.1).cells.2.1,((sR H).sl ho.2.2.2.2.1).cells.2.1]) nJ fun A1 H1 hS1=> ?_
 simp only[RT]at hS1
 simp(disch:=omega) only[↓RA,RB,simprocAttr,g1]
 refine hS1.eNew 3 [sv,(.int .u64 rg.cpl),(.int .u64 rg.off)] rfl rfl (by simp[OC,(hS1.sl hr.1).cells.2.1]) mQ fun A2 H2 hS2=> ?_
 simp only[RT]at hS2
 simp(disch:=omega) only[↓RA,RZ,simprocAttr,hn,hS2.aj 0 rfl,hS2.aj 1 rfl]
 refine hS2.cF (rK o (ho.ae hS2) rg sv (hr.ae hS2)) fun H3 hS3=> ?_
 simp(disch:=omega) only[↓RA,RB,simprocAttr,hn]
 refine iC (fun h1=> ?_) (fun h1=> ?_)
 ·simp(disch:=omega) only[↓RA,RZ,simprocAttr,hn,c3X,h1]
  exact⟨.slice none 0 0,rfl,⟨⟨.inl ⟨rfl,rfl⟩,fun _=>rfl,by decide⟩,fun b h=>by simp[kJ]at h⟩,hS3.forget⟩
 have h0:=dN.1 h1
 obtain⟨hz3,hz4⟩:=qQ h0
 have hf:=Org.bL hz3
 have hd1:=hf.dpos
 have hd2:=hf.dlen
 simp(disch:=omega) only[↓RA,RZ,simprocAttr,hn,hS3.aj 0 rfl,hS3.aj 1 rfl,h1]
 have hSd:=hS3
 refine iK (b0j o (ho.ae hS3) hf rg sv (hr.ae hS3) (by omega) (by omega)) ?_
 rintro r H4⟨hx,hT2⟩
 have hS4:=hS3.trans hT2
 simp only[RT]at hS4
 have hnt:=hx.1.bA
 simp(disch:=omega) only[↓RA,RZ,simprocAttr,hn,c3X,h1,hnt]
 refine⟨r,by rw[h0],⟨by rw[if_pos h0];exact hx.1,fun b h=> ?_⟩,hS4.forget⟩
 have:=hx.2 b h
 have:H.length≤_:=hSd.len
 omega
theorem b6b(x i j:Nat)(hx:x<18446744073709551616)(hi:i<64):(tU x i).testBit j=(x.testBit j&& !decide (j=i)):=by
 have hx':x<2^64:=by simpa using hx
 unfold tU
 rw[fA,BitVec.toNat_and,Nat.testBit_and,BitVec.toNat_ofNat,gm hx']
 by_cases hj:j<64
 ·have e:(~~~ BitVec.ofNat 64 (2^i)).toNat.testBit j= !decide (j=i):=by
   have h1:(~~~ BitVec.ofNat 64 (2^i)).toNat.testBit j=(~~~ BitVec.ofNat 64 (2^i)).getLsbD j:=rfl
   rw[h1,BitVec.getLsbD_not,decide_eq_true hj,gy,BitVec.getLsbD_ofNat,decide_eq_true hj,gy,gQ]
   congr 1
   exact decide_eq_decide.2 ⟨fun h=>h.symm,fun h=>h.symm⟩
  rw[e]
 ·have h1:x.testBit j=false:=Nat.testBit_lt_two_pow (dQ hx' (gf (by decide) (by omega)))
  rw[h1,fP,fP]
def pc(x:Nat):Nat:=(tQ x).length
theorem b6g(x:Nat):pc x≤64:=pP x 64
theorem a4Y(x i:Nat)(hx:x<18446744073709551616)(hi:i<64)(hb:x.testBit i=true):pc (tU x i)<pc x:=by
 have e:tQ (tU x i)=(tQ x).filter fun j=> !decide (j=i):=by
  unfold tQ
  rw[gZ]
  refine List.filter_congr fun j _=> ?_
  rw[b6b x i j hx hi,Bool.and_comm]
 unfold pc
 rw[e,List.length_filter_lt_length_iff_exists]
 exact⟨i,ee.2 ⟨dz.2 hi,hb⟩,by simp⟩
def mu(g:Reg):Nat:=(g.stops.map pc).sum+pc g.cpl+pc g.off
theorem c3w(g:Reg):mu g≤64*g.stops.length+128:=by
 have h:∀l:List Nat,(l.map pc).sum≤64*l.length:=by
  intro l
  induction l with
  | nil=>simp
  | cons a l ih=>
    have:=b6g a
    simp only[dU,List.sum_cons,eo]
    omega
 have:=h g.stops
 have:=b6g g.cpl
 have:=b6g g.off
 unfold mu
 omega
theorem a2k:∀(l:List Nat)(d y:Nat),d<l.length→y<iD l d→(l.set d y).sum<l.sum
 | [],d,y,h,_=>by simp at h
 | a::l,0,y,_,hy=>by
   have:iD (a::l) 0=a:=rfl
   rw[this]at hy
   simp only[fw,List.sum_cons]
   omega
 | a::l,d+1,y,h,hy=>by
   have h1:iD (a::l) (d+1)=iD l d:=rfl
   rw[h1]at hy
   have:=a2k l d y (by simpa using h) hy
   simp only[gX,List.sum_cons]
   omega
theorem b0V{g:Reg}(hg:g.Ok){c:Ctl}(hc:c∈oZ g):mu (kU g c)<mu g:=by
 obtain⟨_,hg2,hg3,hg4⟩:=hg
 unfold oZ at hc
 have hb:∀(x i:Nat),i∈tQ x→i<64∧x.testBit i=true:=fun x i hi=>by
  unfold tQ at hi
  exact⟨dz.1 (ee.1 hi).1,(ee.1 hi).2⟩
 rcases dH.1 hc with hc|hc
 ·rcases dH.1 hc with hc|hc
  ·obtain⟨d,hd,hc⟩:=eD.1 hc
   obtain⟨i,hi,rfl⟩:=dD.1 hc
   have hd:=dz.1 hd
   obtain⟨hi,hbit⟩:=hb _ _ hi
   have e:kU g (a0f d i)={g with stops:=g.stops.set d (tU (iD g.stops d) i)}:=rfl
   rw[e]
   have hp:=a4Y _ i (hg2 _ (iG hd)) hi hbit
   have:=a2k (g.stops.map pc) d (pc (tU (iD g.stops d) i)) (by simpa using hd) (by rw[pK _ hd];exact hp)
   unfold mu
   simp only[gq]
   omega
  ·obtain⟨i,hi,rfl⟩:=dD.1 hc
   obtain⟨hi,hbit⟩:=hb _ _ hi
   have e:kU g (wX i)={g with cpl:=tU g.cpl i}:=rfl
   rw[e]
   have:=a4Y _ i hg3 hi hbit
   unfold mu
   simp only
   omega
 ·obtain⟨i,hi,rfl⟩:=dD.1 hc
  obtain⟨hi,hbit⟩:=hb _ _ hi
  have e:kU g (a4R i)={g with off:=tU g.off i}:=rfl
  rw[e]
  have:=a4Y _ i hg4 hi hbit
  unfold mu
  simp only
  omega
def mF(o:Org):Nat→Reg→List Ctl→Reg×List Ctl
 | 0,g,l=>(g,l)
 | n+1,g,l=>if(mO o g).length=0 then(g,l)else mF o n (kU g (iD (mO o g) ((mO o g).length-1))) (l++[iD (mO o g) ((mO o g).length-1)])
theorem a4k{o:Org}{g:Reg}{c:Ctl}(h:c∈mO o g):c∈oZ g:=(ee.1 h).1
theorem b6K(o:Org)(g:Reg):(mO o g).length≤(oZ g).length:=eh _ _
theorem a0x(o:Org):∀(n m:Nat)(g:Reg)(l:List Ctl),g.Ok→mu g<n→mu g<m→mF o n g l=mF o m g l
 | 0,_,_,_,_,h,_=>absurd h (dJ _)
 | _,0,_,_,_,_,h=>absurd h (dJ _)
 | n+1,m+1,g,l,hg,hn,hm=>by
   rw[mF,mF]
   split
   ·rfl
   ·rename_i h
    have hc:=a4k (iG (xs:=mO o g) (j:=(mO o g).length-1) (by omega))
    have hlt:=b0V hg hc
    exact a0x o n m _ _ (yB hg _) (by omega) (by omega)
theorem c3F(l:List Value)(H:Heap):iE prog Tryz.f31 l H=(pA (jQ prog 41) (iF prog 41) H (get l 4)).bind fun v=>if(jW v&&(jW (get l 5)&&(jW (get l 6)&&true)))=true then some (.tuple #[v,get l 5,get l 6])else none:=by
 show(Option.bind (Option.bind (lP prog H 41 (get l 4)) fun v=>some [v,get l 5,get l 6]) fun vs=>_)=_
 rw[lC]
 cases pA _ _ H (get l 4)<;>rfl
theorem b5U(o:Org)(ho:o.In H)(rg:Reg)(sv:Value)(hr:rg.In H sv):
 Fn prog 31 [.agg #[.string o.name,o.rv,o.dv,o.cv],.agg #[sv,.int .u64 rg.cpl,.int .u64 rg.off]] H fun r H'=>∃nv lv,(mB o rg≠0∧r=.tuple #[.agg #[.slice none 0 0,.int .u64 0,.int .u64 0],.slice none 0 0,I (mB o rg)]∧St prog H H' [])∨
  ∃g gone,mB o rg=0∧(g,gone)=mF o (mu rg+1) rg []∧r=.tuple #[.agg #[nv,.int .u64 g.cpl,.int .u64 g.off],lv,I 0]∧g.Ok∧g.stops.length=rg.stops.length∧St prog H H' [⟨nv,1,g.stops.flatMap (one u64)⟩,⟨lv,3,mD gone⟩]:=by
 refine .aD func31 rfl (by kernel_rfl) (m:=43) rfl fun l hn g0 g1=> ?_
 simp(disch:=omega) only[↓RA,RB,simprocAttr,g0]
 refine(sR H).eNew 4 [(.string o.name),o.rv,o.dv,o.cv] rfl rfl (by simp[OC,((sR H).sl ho.1).cells.2.1,((sR H).sl ho.2.2.1).cells.2.1,((sR H).sl ho.2.2.2.2.1).cells.2.1]) nJ fun A1 H1 hS1=> ?_
 simp only[RT]at hS1
 simp(disch:=omega) only[↓RA,RB,simprocAttr,g1]
 refine hS1.eNew 3 [sv,(.int .u64 rg.cpl),(.int .u64 rg.off)] rfl rfl (by simp[OC,(hS1.sl hr.1).cells.2.1]) mQ fun A2 H2 hS2=> ?_
 simp only[RT]at hS2
 simp(disch:=omega) only[↓RA,RZ,simprocAttr]
 refine hS2.eNew 3 [(.slice none 0 0),(.int .u64 0),(.int .u64 0)] rfl rfl rfl mQ fun A3 H3 hS3=> ?_
 simp only[RT]at hS3
 simp(disch:=omega) only[↓RA,RZ,simprocAttr,hn,hS3.aj 0 rfl,hS3.aj 1 rfl]
 refine hS3.cF (rK o (ho.ae hS3) rg sv (hr.ae hS3)) fun H4 hS4=> ?_
 simp(disch:=omega) only[↓RA,RB,simprocAttr,hn]
 refine iC (fun h1=> ?_) (fun h1=> ?_)
 ·simp(disch:=omega) only[↓RA,RZ,simprocAttr,hn,c4y,h1]
  refine hS4.aa 2 rfl [(.slice none 0 0),(.int .u64 0),(.int .u64 0)] rfl rfl mQ (by simp) fun H5 hS5=> ?_
  simp only[RT]at hS5
  simp(disch:=omega) only[↓RA,RZ,simprocAttr,hn,c3F,hS5.aj 2 rfl,h1]
  exact⟨.slice none 0 0,.slice none 0 0,.inl ⟨h1,hS5.forget⟩⟩
 have h0:=dN.1 h1
 obtain⟨hz3,hz4⟩:=qQ h0
 have hf:=Org.bL hz3
 have hd1:=hf.dpos
 have hd2:=hf.dlen
 simp(disch:=omega) only[↓RA,RZ,simprocAttr,hn,hS4.ld 1 rfl,h1]
 refine iK ((a7e sv rg.stops (hS4.sl hr.1) (by omega) (by omega)).tr) ?_
 rintro r H6⟨-,hT2⟩
 have hS6:=hS4.trans hT2
 simp only[RT]at hS6
 simp(disch:=omega) only[↓RA,RZ,simprocAttr,hn,h1]
 refine hS6.aa 1 rfl [r] (by rw[(hS6.rd 3 rfl).cells.1]) (by simp[(hS6.rd 3 rfl).cells.2.1]) b7P (by simp) fun H7 hS7=> ?_
 simp only[RT]at hS7
 simp(disch:=omega) only[↓RA,RZ,simprocAttr,h1]
 have hS8:=hS7.nil 2
 simp only[RT]at hS8
 refine Wp.aq (fun n l H'=>l.length=43∧get l 2=(ptr A1 0 4)∧get l 3=(ptr A2 0 3)∧get l 4=(ptr A3 0 3)∧∃(g:Reg)(gone:List Ctl)(nv ov:Value),(g.Ok∧mu g≤n∧g.stops.length=rg.stops.length∧gone.length+mu g≤mu rg∧mF o (mu g+1) g gone=mF o (mu rg+1) rg [])∧get l 8=ov∧St prog H H' [⟨ptr A1 0 4,0,[(.string o.name),o.rv,o.dv,o.cv]⟩,⟨ptr A2 0 3,0,[nv,.int .u64 g.cpl,.int .u64 g.off]⟩,⟨ptr A3 0 3,0,[(.slice none 0 0),(.int .u64 0),(.int .u64 0)]⟩,⟨nv,1,g.stops.flatMap (one u64)⟩,⟨ov,3,mD gone⟩]) (mu rg) ?_ ?_
 ·simp(disch:=omega) only[RB,RC,simprocAttr,hn]
  exact⟨rg,[],r,.slice none 0 0,⟨hr.2,dj _,rfl,by simp,rfl⟩,rfl,hS8⟩
 rintro n l H8⟨hn,g2,g3,g4,g,gone,nv,ov,⟨hgo,hgn,hgl,hgm,hgs⟩,g8,hS9⟩
 simp(disch:=omega) only[↓RA,RZ,simprocAttr,hn,g2,g3,hS9.aj 0 rfl,hS9.aj 1 rfl]
 have hSi:=hS9
 refine iK (b0j o (ho.ae hS9) hf g nv ⟨hS9.av 3 rfl (fun _=>rfl),hgo⟩ (by omega) (by omega)) ?_
 rintro r H9⟨hx,hT3⟩
 have hS10:=hS9.trans hT3
 simp only[RT]at hS10
 have hil:=b6K o g
 have hil2:=a2D (rg:=g) (by omega)
 simp(disch:=omega) only[↓RA,RZ,simprocAttr,hn,hx.1.len]
 refine iC (fun q1=> ?_) (fun q1=> ?_)
 ·have hi0:(mO o g).length=0:=by omega
  rw[mF,if_pos hi0]at hgs
  have hnt:jW ov=true:=(hS10.av (cel:=Ctl.cells) 4 rfl (fun _=>rfl)).bA
  simp(disch:=omega) only[↓RA,RZ,simprocAttr,hn,g3,g4,g8,hS10.aj 1 rfl,q1]
  refine hS10.aa 2 rfl [nv,(.int .u64 g.cpl),(.int .u64 g.off)] rfl (by simp[OC,(hS10.rd 3 rfl).cells.2.1]) mQ (by simp) fun H10 hS11=> ?_
  simp only[RT]at hS11
  simp(disch:=omega) only[↓RA,RZ,simprocAttr,hn,g4,c3F,hS11.aj 2 rfl,q1,hnt]
  exact⟨nv,ov,.inr ⟨g,gone,h0,hgs,rfl,hgo,hgl,hS11.pick [3,4] (by decide) rfl⟩⟩
 have hpre:((mO o g).length:Int)-1=(((mO o g).length-1:Nat):Int):=by omega
 have hcm:=a4k (iG (xs:=mO o g) (j:=(mO o g).length-1) (by omega))
 have hmu:=b0V hgo hcm
 have hcf:=a1r (rg:=g) (by omega) _ hcm
 simp(disch:=omega) only[↓RA,RZ,simprocAttr,hn,hx.1.len,q1,hpre]
 generalize hcc:iD (mO o g) ((mO o g).length-1)=c at hcm hmu hcf
 have hgs2:mF o (mu (kU g c)+1) (kU g c) (gone++[c])=mF o (mu rg+1) rg []:=by
  have hstep:mF o (mu g+1) g gone=mF o (mu g) (kU g c) (gone++[c]):=by rw[mF,if_neg (by omega),hcc]
  rw[←hgs,hstep]
  exact a0x o _ _ _ _ (yB hgo c) (by omega) (by omega)
 have hgl2:=a3x g c
 simp(disch:=omega) only[↓RA,RZ,simprocAttr,hn,hx.1.idx,hx.1.aj,Ctl.cells,q1,hcc]
 refine hS10.eNew 3 [I 0,I 0,I 0] rfl rfl rfl a0D fun A4 H11 hS12=> ?_
 simp only[RT]at hS12
 simp(disch:=omega) only[↓RA,RZ,simprocAttr,hn,q1]
 refine hS12.aa 5 rfl [I c.kind,I c.dv,I c.ix] rfl rfl a0D (by simp) fun H12 hS13=> ?_
 simp only[RT]at hS13
 simp(disch:=omega) only[↓RA,RZ,simprocAttr,q1]
 refine Wp.aS kG [(4,0)] (by kernel_rfl) (by kernel_rfl) ?_
 simp(disch:=omega) only[↓RA,RZ,simprocAttr,hn,g3,hS13.aj 1 rfl,hS13.aj 5 rfl]
 refine iK (b0y g nv ⟨hS13.av 3 rfl (fun _=>rfl),hgo⟩ (by omega) (by omega) c hcf) ?_
 rintro r H13⟨nw,rfl,hT4⟩
 have hS14:=hS13.trans hT4
 simp only[RT]at hS14
 have hmr:=c3w rg
 simp(disch:=omega) only[↓RA,RZ,simprocAttr,hn,g8,hS14.aj 5 rfl]
 refine hS14.ai [I c.kind,I c.dv,I c.ix] a7n b8X rfl rfl (by simp[Value.cells]) rfl rfl (by decide) (by decide) fun w1 H14 hS15=> ?_
 simp only[RT]at hS15
 simp(disch:=omega) only[↓RA,RZ,simprocAttr,hn]
 refine hS15.al 4 rfl (hS15.rd 7 rfl) a7n (by rw[mH];simp only[eo,eP];omega) fun w2 H15 hS16=> ?_
 simp only[RT]at hS16
 simp(disch:=omega) only[↓RA,RB,simprocAttr,hn,g3]
 refine hS16.aa 1 rfl [nw,(.int .u64 (kU g c).cpl),(.int .u64 (kU g c).off)] rfl (by simp[OC,(hS16.rd 6 rfl).cells.2.1]) mQ (by simp) fun H16 hS17=> ?_
 simp only[RT]at hS17
 simp(disch:=omega) only[↓RA,RZ,simprocAttr,hn,g2,g3,g4,hS13.aj 5 rfl]
 refine⟨mu (kU g c),by omega,kU g c,gone++[c],nw,w2,⟨yB hgo c,dj _,by omega,by simp;omega,hgs2⟩,rfl,?_⟩
 rw[xZ]
 exact hS17.pick [0,1,2,6,4] (by decide) rfl
theorem b0M(o:Org)(ho:o.In H)(rg:Reg)(sv:Value)(hr:rg.In H sv)(c:Ct):
 Fn prog 14 [.agg #[.string o.name,o.rv,o.dv,o.cv],.agg #[sv,.int .u64 rg.cpl,.int .u64 rg.off],.agg #[I c.1,I c.2]] H fun r H'=>Slx 2 jT H' (fun B=>H.length≤B) r (kZ o rg c)∧St prog H H' []:=by
 refine .bU func14 rfl (by kernel_rfl) (m:=17) rfl fun l hn g0 g1 g2=> ?_
 simp(disch:=omega) only[↓RA,RB,simprocAttr,g0]
 refine(sR H).eNew 4 [(.string o.name),o.rv,o.dv,o.cv] rfl rfl (by simp[OC,((sR H).sl ho.1).cells.2.1,((sR H).sl ho.2.2.1).cells.2.1,((sR H).sl ho.2.2.2.2.1).cells.2.1]) nJ fun A1 H1 hS1=> ?_
 simp only[RT]at hS1
 simp(disch:=omega) only[↓RA,RB,simprocAttr,g1]
 refine hS1.eNew 3 [sv,(.int .u64 rg.cpl),(.int .u64 rg.off)] rfl rfl (by simp[OC,(hS1.sl hr.1).cells.2.1]) mQ fun A2 H2 hS2=> ?_
 simp only[RT]at hS2
 simp(disch:=omega) only[↓RA,RB,simprocAttr,g2]
 refine hS2.eNew 2 [I c.1,I c.2] rfl rfl rfl qC fun A3 H3 hS3=> ?_
 simp only[RT]at hS3
 simp(disch:=omega) only[↓RA,RZ,simprocAttr,hn,hS3.aj 0 rfl,hS3.aj 1 rfl,hS3.aj 2 rfl]
 have hSd:=hS3
 refine iK (c4x o (ho.ae hS3) rg sv (hr.ae hS3) c) ?_
 rintro r H4⟨pv,rfl,hx,hT1⟩
 have hS4:=hS3.trans hT1
 simp only[RT]at hS4
 simp(disch:=omega) only[↓RA,RB,simprocAttr,hn,c5r]
 refine⟨⟨hx.1,fun b h=> ?_⟩,hS4.forget⟩
 have:=hx.2 b h
 have:H.length≤_:=hSd.len
 omega
theorem a3i(o:Org)(ho:o.In H)(hf:o.Fine):Fn prog 12 [.agg #[.string o.name,o.rv,o.dv,o.cv]] H fun r H'=>St prog H H' [⟨r,2,pr (iM o)⟩]:=by
 have hdl:=ho.2.2.2.2.2.2.1
 have hd8:=hf.dlen
 refine .aW func12 rfl (by kernel_rfl) (m:=38) rfl fun l hn g0=> ?_
 simp(disch:=omega) only[↓RA,RB,simprocAttr,g0]
 refine(sR H).eNew 4 [(.string o.name),o.rv,o.dv,o.cv] rfl rfl (by simp[OC,((sR H).sl ho.1).cells.2.1,((sR H).sl ho.2.2.1).cells.2.1,((sR H).sl ho.2.2.2.2.1).cells.2.1]) nJ fun A1 H1 hS1=> ?_
 simp only[RT]at hS1
 simp(disch:=omega) only[↓RA,RB,simprocAttr]
 have hS2:=hS1.nil 1
 simp only[RT]at hS2
 refine Wp.aq (fun n l H'=>l.length=38∧get l 1=(ptr A1 0 4)∧get l 2=(.slice none 0 0)∧∃(i:Nat)(ov:Value),(n+i=o.dvs.length)∧get l 4=I i∧get l 3=ov∧St prog H H' [⟨ptr A1 0 4,0,[(.string o.name),o.rv,o.dv,o.cv]⟩,⟨ov,2,pr ((List.range i).flatMap (nK o))⟩]) o.dvs.length ?_ ?_
 ·simp(disch:=omega) only[RB,RC,simprocAttr,hn]
  exact⟨0,.slice none 0 0,by omega,rfl,rfl,hS2⟩
 rintro n l H2⟨hn,g1,g2,i,ov,hi,g4,g3,hS3⟩
 simp(disch:=omega) only[↓RA,RZ,simprocAttr,hn,g1,g4,hS3.ld 0 rfl,(hS3.sl ho.2.2.1).len]
 refine iC (fun q1=> ?_) (fun q1=> ?_)
 ·have hki:=hf.keys i (by omega)
  have hcn:(sH o i:Int)=(iD o.dvs i).hi-(iD o.dvs i).lo+1:=by unfold sH;omega
  have hpre:yC o i 0=(List.range i).flatMap (nK o):=by unfold yC;simp
  have hlen:∀k,k≤sH o i→(yC o i k).length≤1024:=by
   intro k hk
   have h1:=qP hf
   by_cases hkk:k<sH o i
   ·obtain⟨e,he⟩:=a1U o (i:=i) (k:=k) (by omega) hkk
    rw[he,dr]at h1
    omega
   ·have hk2:k=sH o i:=by omega
    rw[hk2,a0u]
    obtain⟨t,ht⟩:∃t,List.range o.dvs.length=List.range (i+1)++t:=⟨(List.range o.dvs.length).drop (i+1),by rw[show List.range (i+1)=(List.range o.dvs.length).take (i+1)from by rw[List.take_range,ft (by omega)],fI]⟩
    unfold iM at h1
    rw[ht,dE,dr]at h1
    omega
  simp(disch:=omega) only[↓RA,RZ,simprocAttr,hn,g1,g4,hS3.ld 0 rfl,(hS3.sl ho.2.2.1).idx,(hS3.sl ho.2.2.1).bd,(hS3.sl ho.2.2.1).ld,Dvn.cells,q1]
  refine Wp.aq (fun n l H'=>l.length=38∧get l 1=(ptr A1 0 4)∧get l 2=(.slice none 0 0)∧get l 4=I i∧∃(k:Nat)(ow:Value),(n+k=sH o i)∧get l 5=I ((iD o.dvs i).lo+k)∧get l 3=ow∧St prog H H' [⟨ptr A1 0 4,0,[(.string o.name),o.rv,o.dv,o.cv]⟩,⟨ow,2,pr (yC o i k)⟩]) (sH o i) ?_ ?_
  ·simp(disch:=omega) only[RB,RC,simprocAttr,hn,g1,g2,g4,g3]
   refine⟨0,ov,by omega,by simp,rfl,?_⟩
   rw[hpre]
   exact hS3
  rintro n l H3⟨hn,g1,g2,g4,k,ow,hk,g5,g3,hS4⟩
  simp(disch:=omega) only[↓RA,RZ,simprocAttr,hn,g1,g4,g5,hS4.ld 0 rfl,(hS4.sl ho.2.2.1).idx,(hS4.sl ho.2.2.1).bd,(hS4.sl ho.2.2.1).ld,Dvn.cells]
  refine iC (fun q2=> ?_) (fun q2=> ?_)
  ·have hl:=hlen k (by omega)
   simp(disch:=omega) only[↓RA,RZ,simprocAttr,hn,g4,g5,g3,zB,q2]
   refine hS4.ai [I i,I ((iD o.dvs i).lo+k)] tG a1y rfl rfl (by simp[Value.cells]) rfl rfl (by decide) (by decide) fun w1 H4 hS5=> ?_
   simp only[RT]at hS5
   simp(disch:=omega) only[↓RA,RZ,simprocAttr,hn,q2]
   refine hS5.al 1 rfl (hS5.rd 2 rfl) tG (by rw[iL];simp;omega) fun w2 H5 hS6=> ?_
   simp only[RT]at hS6
   simp(disch:=omega) only[↓RA,RZ,simprocAttr,hn,g1,g2,g4,g5,q2]
   refine⟨n-1,by omega,k+1,w2,by omega,by congr 1;omega,rfl,?_⟩
   rw[a3Y,kC]
   exact hS6.pick [0,1] (by decide) rfl
  simp(disch:=omega) only[↓RA,RZ,simprocAttr,hn,g1,g2,g4,g3,q2]
  have hkk:k=sH o i:=by omega
  refine⟨o.dvs.length-(i+1),by omega,i+1,ow,by omega,by simp,rfl,?_⟩
  rw[←a0u,←hkk]
  exact hS4
 simp(disch:=omega) only[↓RA,RZ,simprocAttr,hn,g3,c5T,q1]
 have hii:i=o.dvs.length:=by omega
 subst hii
 exact hS3.pick [1] (by decide) rfl
end Go.Ds
namespace Go.Ds
open Go.Proofs
variable {H:Heap}
set_option maxRecDepth 10000
set_option maxHeartbeats 1000000
end Go.Ds
namespace Go.Ds
open Go.Proofs Go.Proofs.Tryz
variable {H:Heap}
set_option maxRecDepth 10000
set_option maxHeartbeats 1000000
theorem b2E(v w:Value)(xs ys:List Ct)(hv:Sl 2 jT H v xs)(hw:Sl 2 jT H w ys)(hl:xs.length<1000000000)(hl2:ys.length<1000000000):
 Fn prog 16 [v,w] H fun r H'=>r=.bool (decide (xs=ys))∧St prog H H' []:=by
 refine .aD func16 rfl (by kernel_rfl) (m:=26) rfl fun l hn g0 g1=> ?_
 simp(disch:=omega) only[↓RA,RZ,simprocAttr,hn,g0,g1,((sR H).sl hv).len,((sR H).sl hw).len]
 refine iC (fun h1=> ?_) (fun h1=> ?_)
 ·simp(disch:=omega) only[↓RA,RZ,simprocAttr,hn,c1L,h1]
  exact⟨by rw[decide_eq_false];intro e;rw[e]at h1;exact h1 rfl,(sR H)⟩
 simp(disch:=omega) only[↓RA,RZ,simprocAttr,h1]
 refine Wp.aq (fun n l H'=>l.length=26∧get l 0=v∧get l 1=w∧∃(j:Nat),(n+j=xs.length∧∀q,q<j→iD xs q=iD ys q)∧get l 5=I j∧St prog H H' []) xs.length ?_ ?_
 ·simp(disch:=omega) only[RB,RC,simprocAttr,hn,g0,g1]
  exact⟨0,⟨by omega,fun q hq=>absurd hq (dJ _)⟩,rfl,(sR H)⟩
 rintro n l H1⟨hn,g0,g1,j,⟨hj,hz⟩,g5,hS1⟩
 simp(disch:=omega) only[↓RA,RZ,simprocAttr,hn,g0,g5,(hS1.sl hv).len]
 refine iC (fun q1=> ?_) (fun q1=> ?_)
 ·simp(disch:=omega) only[↓RA,RC,simprocAttr,q1]
  refine Wp.drw kG (by kernel_rfl) ?_
  simp(disch:=omega) only[↓RA,RZ,simprocAttr,hn,g0,g1,g5,(hS1.sl hv).idx,(hS1.sl hv).aj,jT,(hS1.sl hw).idx,(hS1.sl hw).aj]
  refine iC (fun q2=> ?_) (fun q2=> ?_)
  ·simp(disch:=omega) only[↓RA,RZ,simprocAttr,hn,c1L,q2]
   refine⟨?_,hS1⟩
   rw[decide_eq_false]
   intro e
   rw[e]at q2
   exact q2 ⟨rfl,rfl⟩
  have q3:=dN.1 q2
  simp(disch:=omega) only[↓RA,RZ,simprocAttr,hn,g0,g1,g5,q2]
  exact⟨n-1,by omega,j+1,⟨by omega,fun q hq=>by rcases dw.1 hq with e|e;(· exact hz q e);(· rw[e];exact ir q3.1 q3.2)⟩,by simp,hS1⟩
 simp(disch:=omega) only[↓RA,RZ,simprocAttr,hn,c1L,q1]
 exact⟨by rw[decide_eq_true];exact xF (by omega) fun q hq=>hz q (by omega),hS1⟩
end Go.Ds
namespace Go.Ds
open Go.Proofs
variable {H:Heap}
set_option maxRecDepth 10000
set_option maxHeartbeats 1000000
end Go.Ds
