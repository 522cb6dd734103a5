/-
  A part of the proof of SilenceAdds.
-/
import Derived.Test.YtkklaffajfjopaaGreatDoorVC
import Derived.Test.YtkklaffajfjopaaGreatDoorVB
import Derived.Shelf.SlSortCmp.NoneTotal
import Derived.Shelf.SlGeneric
import Derived.Shelf.SlLaysF0
import Derived.Test.YtkklaffajfjopaaGreatDoorProg
set_option linter.unusedVariables false
set_option linter.unusedSimpArgs false
set_option linter.defProp false
set_option linter.unusedSectionVars false
namespace Go.Ds
open Go.Proofs Go.Proofs.Tryz
variable {H:Heap}
def nM(l:List Rk)(j:Nat):Int:=if rankE (iB l j)≠0 then rankE (iB l j)else if ∃q,q<j∧(iB l q).name=(iB l j).name then 9 else 0
def tN(rs:List Rk)(l:List Dvn)(j:Nat):Int:=if kY (iB l j).name=false then 8 else if ∃q,q<j∧(iB l q).name=(iB l j).name then 9 else divE rs (iB l j)
def kps(l:List Dvn):List (Int×Int):=l.map fun d=>(d.lo,d.hi)
def organE(o:Org):Int:=if kY o.name=false then 8 else if 60<o.ranks.length then 4 else if lP (nM o.ranks) o.ranks.length≠0 then lP (nM o.ranks) o.ranks.length else
 if o.dvs.length=0 then 13 else if 8<o.dvs.length then 4 else if lP (tN o.ranks o.dvs) o.dvs.length≠0 then lP (tN o.ranks o.dvs) o.dvs.length else tK (kps o.dvs) o.cpls
theorem vB(k:Int×Int):(kpc k).length=2:=rfl
theorem b4f(l:List Dvn)(i:Nat)(h:i<l.length):(kps (l.take (i+1))).flatMap kpc=(kps (l.take i)).flatMap kpc++[I (iB l i).lo,I (iB l i).hi]:=by
 unfold kps
 rw[pJ l i h,dA,dN]
 rfl
theorem yV(o:Org)(ho:o.In H):Fn prog 73 [.agg #[.string o.name,o.rv,o.dv,o.cv]] H fun v H'=>v=I (organE o)∧St prog H H' []:=by
 have hlr:=ho.2.2.2.2.2.1
 have hld:=ho.2.2.2.2.2.2.1
 have hlc:=ho.2.2.2.2.2.2.2
 refine .aY func73 rfl (by kernel_rfl) (m:=89) rfl fun l hn g0=> ?_
 simp(disch:=omega) only[↓RA,RB,simprocAttr,g0]
 refine(sR H).eNew 4 [(.string o.name),o.rv,o.dv,o.cv] rfl rfl (by simp[OC,((sR H).sl ho.1).cells.2.1,((sR H).sl ho.2.2.1).cells.2.1,((sR H).sl ho.2.2.2.2.1).cells.2.1]) mV fun A1 H1 hS1=> ?_
 simp only[RT]at hS1
 simp(disch:=omega) only[↓RA,RZ,simprocAttr,hn,hS1.ld 0 rfl]
 refine hS1.cF (qH _) fun H2 hS2=> ?_
 simp(disch:=omega) only[↓RA,RB,simprocAttr,hn]
 refine jE (fun p1=> ?_) (fun p1=> ?_)
 ·simp(disch:=omega) only[↓RA,RB,simprocAttr,hn,a3n,p1]
  exact⟨by rw[organE,if_pos (by simpa using p1)],hS2.forget⟩
 have p1':¬kY o.name=false:=by simpa using p1
 simp(disch:=omega) only[↓RA,RZ,simprocAttr,hn,hS2.ld 0 rfl,(hS2.sl ho.1).len,p1]
 refine iA (fun p2=> ?_) (fun p2=> ?_)
 ·simp(disch:=omega) only[↓RA,RZ,simprocAttr,hn,a3n,p1,p2]
  exact⟨by rw[organE,if_neg p1',if_pos (by omega)],hS2.forget⟩
 simp(disch:=omega) only[↓RA,simprocAttr]
 refine hS2.bQ a7i fun M1 H3 hS3=> ?_
 simp only[RT]at hS3
 simp(disch:=omega) only[↓RA,RZ,simprocAttr,hn,hS3.ld 0 rfl,(hS3.sl ho.1).len,p1,p2]
 refine Wp.al (fun n l H'=>l.length=89∧get l 1=(ptr A1 0 4)∧get l 3=(.map (some M1))∧get l 25=o.rv∧get l 26=I o.ranks.length∧∃(i:Nat)(kvs:List (ByteArray×Bool)),(n+i=o.ranks.length∧(∀j,j<i→nM o.ranks j=0)∧(∀t,qE kvs t=true↔∃q,q<i∧(iB o.ranks q).name=t))∧get l 27=I i∧St prog H H' [⟨ptr A1 0 4,0,[(.string o.name),o.rv,o.dv,o.cv]⟩,⟨.map (some M1),0,KS kvs⟩]) o.ranks.length ?_ ?_
 ·simp(disch:=omega) only[RB,RC,simprocAttr,hn]
  exact⟨0,[],⟨by omega,by simp,by simp[a2t]⟩,rfl,hS3⟩
 rintro n l H4⟨hn,g1,g3,g25,g26,i,kvs,⟨hi1,hz,hk⟩,g27,hS4⟩
 simp(disch:=omega) only[↓RA,RB,simprocAttr,hn,g26,g27]
 refine iA (fun q1=> ?_) (fun q1=> ?_)
 ·have key:nM o.ranks i≠0→organE o=nM o.ranks i:=fun hne=>by rw[organE,if_neg p1',if_neg (by omega),oA _ _ i (by omega) hne hz,if_pos hne]
  simp(disch:=omega) only[↓RA,RZ,simprocAttr,hn,g25,g27,(hS4.sl ho.1).idx,(hS4.sl ho.1).ag,Rk.cells,q1]
  refine hS4.eNew 6 [(.string ⟨#[]⟩),(.string ⟨#[]⟩),I 0,I 0,I 0,(.slice none 0 0)] rfl rfl rfl a3r fun A2 H5 hS5=> ?_
  simp only[RT]at hS5
  simp(disch:=omega) only[↓RA,RZ,simprocAttr,hn,q1]
  refine hS5.aa 2 rfl [(.string (iB o.ranks i).name),(.string (iB o.ranks i).tone),I (iB o.ranks i).num,I (iB o.ranks i).den,I (iB o.ranks i).first,(iB o.ranks i).wv] rfl (by simp[OC,(hS5.sl (ho.2.1 (iB o.ranks i) (iE (by omega))).1).cells.2.1]) a3r (by simp) fun H6 hS6=> ?_
  simp only[RT]at hS6
  simp(disch:=omega) only[↓RA,RZ,simprocAttr,hn,hS6.ag 2 rfl,q1]
  refine hS6.cF (b0s (iB o.ranks i) ((ho.2.1 _ (iE (by omega))).ab hS6)) fun H7 hS7=> ?_
  simp(disch:=omega) only[↓RA,RZ,simprocAttr,hn,q1]
  refine iA (fun q2=> ?_) (fun q2=> ?_)
  ·have e1:nM o.ranks i=rankE (iB o.ranks i):=by rw[nM,if_pos q2]
   simp(disch:=omega) only[↓RA,RZ,simprocAttr,hn,a3n,q1,q2]
   exact⟨by rw[key (by rw[e1];exact q2),e1],hS7.forget⟩
  simp(disch:=omega) only[↓RA,RZ,simprocAttr,hn,g3,hS7.ld 2 rfl,q1,q2]
  have hM1:=hS7.pick (os':=[⟨.map (some M1),0,_⟩]) [1] (by decide) rfl
  have hR1:=hS7.pick (os':=[⟨.map (some M1),0,_⟩,⟨ptr A1 0 4,0,_⟩,⟨ptr A2 0 6,0,_⟩]) [1,0,2] (by decide) rfl
  refine iJ (a1y _ M1 kvs (iB o.ranks i).name hM1.aH) ?_
  rintro r H8⟨rfl,kvs',hk',hT3⟩
  have hS8:=hR1.frame hT3
  simp only[RT]at hS8
  simp(disch:=omega) only[↓RA,RZ,simprocAttr,hn,q1,q2]
  refine iA (fun q3=> ?_) (fun q3=> ?_)
  ·have q3':qE kvs (iB o.ranks i).name=true:=by
    by_cases hh:qE kvs (iB o.ranks i).name=true
    ·exact hh
    ·rw[if_neg hh]at q3;exact absurd rfl q3
   have e1:nM o.ranks i=9:=by rw[nM,if_neg q2,if_pos ((hk _).1 q3')]
   simp(disch:=omega) only[↓RA,RZ,simprocAttr,hn,a3n,q1,q2,q3]
   exact⟨by rw[key (by rw[e1];decide),e1,if_pos q3'],hS8.forget⟩
  have q3':¬qE kvs (iB o.ranks i).name=true:=fun hh=>q3 (by rw[if_pos hh];decide)
  have e0:nM o.ranks i=0:=by rw[nM,if_neg q2,if_neg (fun hh=>q3' ((hk _).2 hh))]
  simp(disch:=omega) only[↓RA,RZ,simprocAttr,hn,g1,g3,g25,g26,g27,q1,q2,q3]
  exact⟨n-1,by omega,i+1,kvs',⟨by omega,fun j hj=>by rcases du.1 hj with e|e;(· exact hz j e);(· rw[e];exact e0),a0l (f:=fun q=>(iB o.ranks q).name) hk hk'⟩,by simp,hS8.pick [1,0] (by decide) rfl⟩
 have hR:lP (nM o.ranks) o.ranks.length=0:=kT _ _ fun j hj=>hz j (by omega)
 clear hk hz
 simp(disch:=omega) only[↓RA,RZ,simprocAttr,hn,g1,hS4.ld 0 rfl,(hS4.sl ho.2.2.1).len,q1]
 refine iA (fun p4=> ?_) (fun p4=> ?_)
 ·simp(disch:=omega) only[↓RA,RZ,simprocAttr,hn,a3n,q1,p4]
  exact⟨by rw[organE,if_neg p1',if_neg (by omega),if_neg (by rw[hR];simp),if_pos (by omega)],hS4.forget⟩
 simp(disch:=omega) only[↓RA,RZ,simprocAttr,hn,g1,hS4.ld 0 rfl,(hS4.sl ho.2.2.1).len,q1,p4]
 refine iA (fun p5=> ?_) (fun p5=> ?_)
 ·simp(disch:=omega) only[↓RA,RZ,simprocAttr,hn,a3n,q1,p4,p5]
  exact⟨by rw[organE,if_neg p1',if_neg (by omega),if_neg (by rw[hR];simp),if_neg (by omega),if_pos (by omega)],hS4.forget⟩
 have hE:organE o=if lP (tN o.ranks o.dvs) o.dvs.length≠0 then lP (tN o.ranks o.dvs) o.dvs.length else tK (kps o.dvs) o.cpls:=by
  rw[organE,if_neg p1',if_neg (by omega),if_neg (by rw[hR];simp),if_neg (by omega),if_neg (by omega)]
 clear hR
 simp(disch:=omega) only[↓RA,simprocAttr]
 refine hS4.bQ a7i fun M2 H9 hS9=> ?_
 simp only[RT]at hS9
 simp(disch:=omega) only[↓RA,RZ,simprocAttr,hn,g1,hS9.ld 0 rfl,(hS9.sl ho.2.2.1).len,q1,p4,p5]
 have hS10:=hS9.pick (os':=[⟨ptr A1 0 4,0,_⟩,⟨.map (some M2),0,_⟩]) [0,2] (by decide) rfl
 have hS11:=hS10.nil 1
 simp only[RT]at hS11
 refine Wp.al (fun n l H'=>l.length=89∧get l 1=(ptr A1 0 4)∧get l 3=(.map (some M2))∧get l 56=o.dv∧get l 57=I o.dvs.length∧∃(i:Nat)(kvs:List (ByteArray×Bool))(w:Value),(n+i=o.dvs.length∧(∀j,j<i→tN o.ranks o.dvs j=0)∧(∀t,qE kvs t=true↔∃q,q<i∧(iB o.dvs q).name=t))∧get l 58=I i∧get l 8=w∧St prog H H' [⟨ptr A1 0 4,0,[(.string o.name),o.rv,o.dv,o.cv]⟩,⟨.map (some M2),0,KS kvs⟩,⟨w,2,(kps (o.dvs.take i)).flatMap kpc⟩]) o.dvs.length ?_ ?_
 ·simp(disch:=omega) only[RB,RC,simprocAttr,hn,g1]
  exact⟨0,[],_,⟨by omega,by simp,by simp[a2t]⟩,rfl,rfl,hS11⟩
 rintro n l H10⟨hn,g1,g3,g56,g57,i,kvs,w,⟨hi1,hz,hk⟩,g58,g8,hS12⟩
 simp(disch:=omega) only[↓RA,RB,simprocAttr,hn,g57,g58]
 refine iA (fun q1=> ?_) (fun q1=> ?_)
 ·have key:tN o.ranks o.dvs i≠0→organE o=tN o.ranks o.dvs i:=fun hne=>by rw[hE,oA _ _ i (by omega) hne hz,if_pos hne]
  simp(disch:=omega) only[↓RA,RZ,simprocAttr,hn,g56,g58,(hS12.sl ho.2.2.1).idx,(hS12.sl ho.2.2.1).ag,Dvn.cells,q1]
  refine hS12.eNew 5 [(.string ⟨#[]⟩),(.bool false),I 0,I 0,(.slice none 0 0)] rfl rfl rfl a0X fun A3 H11 hS13=> ?_
  simp only[RT]at hS13
  simp(disch:=omega) only[↓RA,RZ,simprocAttr,hn,q1]
  refine hS13.aa 3 rfl [(.string (iB o.dvs i).name),(.bool (iB o.dvs i).pedal),I (iB o.dvs i).lo,I (iB o.dvs i).hi,(iB o.dvs i).sv] rfl (by simp[OC,(hS13.sl (ho.2.2.2.1 (iB o.dvs i) (iE (by omega))).1).cells.2.1]) a0X (by simp) fun H12 hS14=> ?_
  simp only[RT]at hS14
  simp(disch:=omega) only[↓RA,RZ,simprocAttr,hn,hS14.ld 3 rfl,q1]
  refine hS14.cF (qH _) fun H13 hS15=> ?_
  simp(disch:=omega) only[↓RA,RZ,simprocAttr,hn,q1]
  refine jE (fun q2=> ?_) (fun q2=> ?_)
  ·have e1:tN o.ranks o.dvs i=8:=by rw[tN,if_pos (by simpa using q2)]
   simp(disch:=omega) only[↓RA,RZ,simprocAttr,hn,a3n,q1,q2]
   exact⟨by rw[key (by rw[e1];decide),e1],hS15.forget⟩
  have q2':¬kY (iB o.dvs i).name=false:=by simpa using q2
  simp(disch:=omega) only[↓RA,RZ,simprocAttr,hn,g3,hS15.ld 3 rfl,q1,q2]
  have hM2:=hS15.pick (os':=[⟨.map (some M2),0,_⟩]) [1] (by decide) rfl
  have hR2:=hS15.pick (os':=[⟨.map (some M2),0,_⟩,⟨ptr A1 0 4,0,_⟩,⟨w,2,_⟩,⟨ptr A3 0 5,0,_⟩]) [1,0,2,3] (by decide) rfl
  refine iJ (a1y _ M2 kvs (iB o.dvs i).name hM2.aH) ?_
  rintro r H14⟨rfl,kvs',hk',hT5⟩
  have hS16:=hR2.frame hT5
  simp only[RT]at hS16
  simp(disch:=omega) only[↓RA,RZ,simprocAttr,hn,q1,q2]
  refine iA (fun q3=> ?_) (fun q3=> ?_)
  ·have q3':qE kvs (iB o.dvs i).name=true:=by
    by_cases hh:qE kvs (iB o.dvs i).name=true
    ·exact hh
    ·rw[if_neg hh]at q3;exact absurd rfl q3
   have e1:tN o.ranks o.dvs i=9:=by rw[tN,if_neg q2',if_pos ((hk _).1 q3')]
   simp(disch:=omega) only[↓RA,RZ,simprocAttr,hn,a3n,q1,q2,q3]
   exact⟨by rw[key (by rw[e1];decide),e1,if_pos q3'],hS16.forget⟩
  have q3':¬qE kvs (iB o.dvs i).name=true:=fun hh=>q3 (by rw[if_pos hh];decide)
  simp(disch:=omega) only[↓RA,RZ,simprocAttr,hn,g1,hS16.ag 1 rfl,hS16.ag 3 rfl,q1,q2,q3]
  refine hS16.cF (c1n o (ho.ab hS16) (iB o.dvs i) ((ho.2.2.2.1 _ (iE (by omega))).ab hS16)) fun H15 hS17=> ?_
  have e0:tN o.ranks o.dvs i=divE o.ranks (iB o.dvs i):=by rw[tN,if_neg q2',if_neg (fun hh=>q3' ((hk _).2 hh))]
  simp(disch:=omega) only[↓RA,RZ,simprocAttr,hn,q1,q2,q3]
  refine iA (fun q4=> ?_) (fun q4=> ?_)
  ·simp(disch:=omega) only[↓RA,RZ,simprocAttr,hn,a3n,q1,q2,q3,q4]
   exact⟨by rw[key (by rw[e0];exact q4),e0],hS17.forget⟩
  have e2:tN o.ranks o.dvs i=0:=by rw[e0];exact dG.1 q4
  simp(disch:=omega) only[↓RA,RZ,simprocAttr,hn,g8,hS17.ag 3 rfl,q1,q2,q3,q4]
  refine hS17.ai [I (iB o.dvs i).lo,I (iB o.dvs i).hi] b9F c2X rfl rfl (by simp[Value.cells]) rfl rfl (by decide) (by decide) fun w1 H16 hS18=> ?_
  simp only[RT]at hS18
  simp(disch:=omega) only[↓RA,RZ,simprocAttr,hn,q1,q2,q3,q4]
  refine hS18.aq 2 rfl (hS18.rd 4 rfl) b9F (by rw[iL vB];simp[kps];omega) fun w2 H17 hS19=> ?_
  simp only[RT]at hS19
  simp(disch:=omega) only[↓RA,RZ,simprocAttr,hn,g1,g3,g56,g57,g58,q1,q2,q3,q4]
  refine⟨n-1,by omega,i+1,kvs',_,⟨by omega,fun j hj=>by rcases du.1 hj with e|e;(· exact hz j e);(· rw[e];exact e2),a0l (f:=fun q=>(iB o.dvs q).name) hk hk'⟩,by simp,rfl,?_⟩
  rw[b4f _ _ (by omega)]
  exact hS19.pick [1,0,2] (by decide) rfl
 have hD:lP (tN o.ranks o.dvs) o.dvs.length=0:=kT _ _ fun j hj=>hz j (by omega)
 have hi:i=o.dvs.length:=by omega
 subst hi
 rw[ek]at hS12
 simp(disch:=omega) only[↓RA,RZ,simprocAttr,hn,g1,g8,hS12.ld 0 rfl,q1]
 refine hS12.cF (a6o w o.cv (kps o.dvs) o.cpls (hS12.av 2 rfl vB) (hS12.sl ho.2.2.2.2.1) (by simp[kps];omega) hlc) fun H18 hS20=> ?_
 simp(disch:=omega) only[↓RA,RZ,simprocAttr,hn,a3n,q1]
 exact⟨by rw[hE,if_neg (by rw[hD];simp)],hS20.forget⟩
def lE:List (Int×Int):=[(8,1),(4,1),(16,1),(8,3),(2,1),(8,5)]
def lV:List (Int×Int):=[(8,1),(4,1),(16,1),(2,1),(8,3),(8,5),(4,3),(1,1),(32,1),(16,3),(16,5),(32,3),(8,7),(2,3),(1,2),(64,1)]
theorem a5Z(k:Nat):Fn prog 70 [.int .u8 k] H fun r H'=>r=.agg #[I (iB lE (k%6)).1,I (iB lE (k%6)).2]∧St prog H H' []:=by
 refine .aY func70 rfl (by kernel_rfl) (m:=14) rfl fun l hn g0=> ?_
 simp(disch:=omega) only[↓RA,RZ,simprocAttr]
 refine(sR H).eNew 2 [I 0,I 0] rfl rfl rfl zL fun A1 H1 hS1=> ?_
 simp only[RT]at hS1
 simp(disch:=omega) only[↓RA,RB,simprocAttr,hn,zG]
 refine hS1.ai [I 8,I 1,I 4,I 1,I 16,I 1,I 8,I 3,I 2,I 1,I 8,I 5] b9Y b9A rfl rfl (by simp[Value.cells]) rfl rfl (by decide) (by decide) fun w1 H2 hS2=> ?_
 simp only[RT]at hS2
 simp(disch:=omega) only[↓RA,RZ,simprocAttr,hn,g0]
 have hR:St prog H H2 [⟨ptr A1 0 2,0,_⟩,⟨w1,2,lE.flatMap kpc⟩]:=hS2
 have hL:lE.length=6:=rfl
 have hk:k%6<6:=eR _ (by decide)
 have hk2:(k:Int).tmod 6=((k%6:Nat):Int):=(eK k 6).symm
 try rw[hk2]
 simp(disch:=omega) only[↓RA,RZ,simprocAttr,hn,(hR.av 1 rfl vB).idx,(hR.av 1 rfl vB).ag,kpc]
 refine hR.aa 0 rfl [I (iB lE (k%6:Nat)).1,I (iB lE (k%6:Nat)).2] rfl rfl zL (by simp) fun H3 hS3=> ?_
 simp only[RT]at hS3
 simp(disch:=omega) only[↓RA,RZ,simprocAttr,hn,c5W,hS3.ag 0 rfl]
 first|exact hS3.forget|exact⟨rfl,hS3.forget⟩
theorem a6B(k:Nat):Fn prog 69 [.int .u8 k] H fun r H'=>r=.agg #[I (iB lV (k%16)).1,I (iB lV (k%16)).2]∧St prog H H' []:=by
 refine .aY func69 rfl (by kernel_rfl) (m:=24) rfl fun l hn g0=> ?_
 simp(disch:=omega) only[↓RA,RZ,simprocAttr]
 refine(sR H).eNew 2 [I 0,I 0] rfl rfl rfl zL fun A1 H1 hS1=> ?_
 simp only[RT]at hS1
 simp(disch:=omega) only[↓RA,RB,simprocAttr,hn,zG]
 refine hS1.ai [I 8,I 1,I 4,I 1,I 16,I 1,I 2,I 1,I 8,I 3,I 8,I 5,I 4,I 3,I 1,I 1,I 32,I 1,I 16,I 3,I 16,I 5,I 32,I 3,I 8,I 7,I 2,I 3,I 1,I 2,I 64,I 1] b9Y b9A rfl rfl (by simp[Value.cells]) rfl rfl (by decide) (by decide) fun w1 H2 hS2=> ?_
 simp only[RT]at hS2
 simp(disch:=omega) only[↓RA,RZ,simprocAttr,hn,g0]
 have hR:St prog H H2 [⟨ptr A1 0 2,0,_⟩,⟨w1,2,lV.flatMap kpc⟩]:=hS2
 have hL:lV.length=16:=rfl
 have hk:k%16<16:=eR _ (by decide)
 have hk2:(k:Int).tmod 16=((k%16:Nat):Int):=(eK k 16).symm
 try rw[hk2]
 simp(disch:=omega) only[↓RA,RZ,simprocAttr,hn,(hR.av 1 rfl vB).idx,(hR.av 1 rfl vB).ag,kpc]
 refine hR.aa 0 rfl [I (iB lV (k%16:Nat)).1,I (iB lV (k%16:Nat)).2] rfl rfl zL (by simp) fun H3 hS3=> ?_
 simp only[RT]at hS3
 simp(disch:=omega) only[↓RA,RZ,simprocAttr,hn,c6o,hS3.ag 0 rfl]
 first|exact hS3.forget|exact⟨rfl,hS3.forget⟩
end Go.Ds
namespace Go.Ds
open Go.Proofs Go.Proofs.Tryz
variable {H:Heap}
set_option maxRecDepth 10000
structure RPl where
 tone:Nat
 feet:Nat
 first:Int
 pipes:Nat
 w0:Nat
 w1:Nat
 w2:Nat
 w3:Nat
 w4:Nat
 deriving Inhabited
def RPl.cells(p:RPl):List Value:=[.int .u8 p.tone,.int .u8 p.feet,.int .i8 p.first,.int .u8 p.pipes,.int .u8 p.w0,.int .u8 p.w1,.int .u8 p.w2,.int .u8 p.w3,.int .u8 p.w4]
def RPl.Ok(p:RPl):Prop:=p.tone<256∧p.feet<256∧-128≤p.first∧p.first<128∧p.pipes<256∧p.w0<256∧p.w1<256∧p.w2<256∧p.w3<256∧p.w4<256
def RPl.wind(p:RPl)(j:Nat):Nat:=iB [p.w0,p.w1,p.w2,p.w3,p.w4] (j%5)
theorem RPl.Ok.wind{p:RPl}(hp:p.Ok)(j:Nat):p.wind j<256:=by
 obtain⟨_,_,_,_,_,h0,h1,h2,h3,h4⟩:=hp
 have:j%5=0∨j%5=1∨j%5=2∨j%5=3∨j%5=4:=by omega
 unfold RPl.wind
 rcases this with e|e|e|e|e<;>rw[e]<;>assumption
def tF:List ByteArray:=[⟨#[79,112,101,110]⟩,⟨#[70,108,117,116,101]⟩,⟨#[82,101,101,100]⟩]
theorem b1r(p:RPl)(hp:p.Ok)(i:Nat)(hi:i<10):Fn prog 34 [.agg #[.int .u8 p.tone,.int .u8 p.feet,.int .i8 p.first,.int .u8 p.pipes,.int .u8 p.w0,.int .u8 p.w1,.int .u8 p.w2,.int .u8 p.w3,.int .u8 p.w4],I i] H fun r H'=>
 ∃wv,r=.agg #[.string ⟨#[82,UInt8.ofNat (48+i)]⟩,.string (iB tF (p.tone%3)),I (iB lV (p.feet%16)).1,I (iB lV (p.feet%16)).2,I p.first,wv]∧
  St prog H H' [⟨wv,1,(List.range (1+p.pipes%25)).map fun j=>I (p.wind j)⟩]:=by
 have hwb:=fun j=>hp.wind j
 obtain⟨h1,h2,h3,h4,h5,_⟩:=hp
 refine .aD func34 rfl (by kernel_rfl) (m:=48) rfl fun l hn g0 g1=> ?_
 have hm:(i:Int).tmod 10=i:=((eK i 10).symm).trans (by rw[fT hi])
 have ht:(p.tone:Int).tmod 3=((p.tone%3:Nat):Int):=(eK p.tone 3).symm
 have ht3:p.tone%3<3:=eR _ (by decide)
 have htl:tF.length=3:=rfl
 simp(disch:=omega) only[↓RA,RB,simprocAttr,g0]
 refine(sR H).eNew 9 [(.int .u8 p.tone),(.int .u8 p.feet),(.int .i8 p.first),(.int .u8 p.pipes),(.int .u8 p.w0),(.int .u8 p.w1),(.int .u8 p.w2),(.int .u8 p.w3),(.int .u8 p.w4)] rfl rfl rfl b4G fun A1 H1 hS1=> ?_
 simp only[RT]at hS1
 simp(disch:=omega) only[↓RA,RZ,simprocAttr]
 refine hS1.eNew 6 [(.string ⟨#[]⟩),(.string ⟨#[]⟩),I 0,I 0,I 0,(.slice none 0 0)] rfl rfl rfl a3r fun A2 H2 hS2=> ?_
 simp only[RT]at hS2
 simp(disch:=omega) only[↓RA,simprocAttr]
 refine Wp.cH jZ [13,14,15,16,17,18,0,1,2,3,4,5,6,7,8,9,10,11,12,19,20,21] [6,7,8,9,10,11,12,13,14,15,16,17,18,0,1,2,3,4,5,19,20,21] ⟨true,[],[(11,10),(17,13),(18,13)]⟩ [(4,0),(5,0),(9,0),(15,0),(15,3)] (by kernel_rfl) (by kernel_rfl) (by kernel_rfl) ?_
 simp(disch:=omega) only[↓RA,RZ,simprocAttr,hn,hS2.ld 0 rfl]
 refine hS2.cF (a6B p.feet) fun H3 hS3=> ?_
 simp(disch:=omega) only[↓RA,RZ,simprocAttr,hn,g1,hS3.ld 0 rfl,hm]
 refine hS3.ai [_] b0U b0v rfl rfl (by simp[Value.cells]) rfl rfl (by decide) (by decide) fun w1 H4 hS4=> ?_
 simp only[RT]at hS4
 simp(disch:=omega) only[↓RA,RB,simprocAttr,hn,vF (hS4.rd 2 rfl) nI.1 nI.2.1 nI.2.2,sW]
 refine hS4.ai [(.string ⟨#[79,112,101,110]⟩),(.string ⟨#[70,108,117,116,101]⟩),(.string ⟨#[82,101,101,100]⟩)] c3Z c2K rfl rfl (by simp[Value.cells]) rfl rfl (by decide) (by decide) fun w2 H5 hS5=> ?_
 simp only[RT]at hS5
 simp(disch:=omega) only[↓RA,RZ,simprocAttr,hn,hS5.ld 0 rfl,ht]
 have hR:St prog H H5 [⟨ptr A1 0 9,0,_⟩,⟨ptr A2 0 6,0,_⟩,⟨w1,1,_⟩,⟨w2,1,tF.flatMap (one Value.string)⟩]:=hS5
 simp(disch:=omega) only[↓RA,RZ,simprocAttr,hn,(hR.av 3 rfl (sT _)).idx,(hR.av 3 rfl (sT _)).ld,one,a4J]
 refine hR.eNew 6 [(.string ⟨#[]⟩),(.string ⟨#[]⟩),I 0,I 0,I 0,(.slice none 0 0)] rfl rfl rfl a3r fun A3 H6 hS6=> ?_
 simp only[RT]at hS6
 simp(disch:=omega) only[↓RA,RB,simprocAttr,hn]
 refine hS6.aa 4 rfl [(.string ⟨#[82,UInt8.ofNat (48+(i:Int)).toNat]⟩),(.string (iB tF (p.tone%3:Nat))),I (iB lV (p.feet%16)).1,I (iB lV (p.feet%16)).2,_,(.slice none 0 0)] rfl rfl a3r (by simp) fun H7 hS7=> ?_
 simp only[RT]at hS7
 simp(disch:=omega) only[↓RA,RZ,simprocAttr,hn,hS2.ld 0 rfl,hS3.ld 0 rfl]
 have hN:St prog H H7 [⟨ptr A1 0 9,0,_⟩,⟨ptr A2 0 6,0,_⟩,⟨ptr A3 0 6,0,[.string ⟨#[82,UInt8.ofNat (48+(i:Int)).toNat]⟩,.string (iB tF (p.tone%3)),I (iB lV (p.feet%16)).1,I (iB lV (p.feet%16)).2,I p.first,.slice none 0 0]⟩,⟨.slice none 0 0,1,[]⟩]:=(hS7.nil 0).pick [0,1,4,5] (by decide) rfl
 refine Wp.al (fun n l H'=>l.length=48∧get l 2=(ptr A1 0 9)∧get l 4=(ptr A2 0 6)∧get l 5=(ptr A3 0 6)∧∃(j:Nat)(wv:Value),(n+j=1+p.pipes%25)∧get l 6=I j∧St prog H H' [⟨ptr A1 0 9,0,[(.int .u8 p.tone),(.int .u8 p.feet),(.int .i8 p.first),(.int .u8 p.pipes),(.int .u8 p.w0),(.int .u8 p.w1),(.int .u8 p.w2),(.int .u8 p.w3),(.int .u8 p.w4)]⟩,⟨ptr A2 0 6,0,[(.string ⟨#[]⟩),(.string ⟨#[]⟩),I 0,I 0,I 0,(.slice none 0 0)]⟩,⟨ptr A3 0 6,0,[.string ⟨#[82,UInt8.ofNat (48+(i:Int)).toNat]⟩,.string (iB tF (p.tone%3)),I (iB lV (p.feet%16)).1,I (iB lV (p.feet%16)).2,I p.first,wv]⟩,⟨wv,1,(List.range j).map fun q=>I (p.wind q)⟩]) (1+p.pipes%25) ?_ ?_
 ·simp(disch:=omega) only[RB,RC,simprocAttr,hn]
  exact⟨0,_,by omega,rfl,hN⟩
 rintro n l H8⟨hn,g2,g4,g5,j,wv,hj,g6,hS8⟩
 have hpp:(p.pipes:Int).tmod 25=((p.pipes%25:Nat):Int):=(eK p.pipes 25).symm
 have hj5:(j:Int).tmod 5=((j%5:Nat):Int):=(eK j 5).symm
 have hw:(p.cells)[4+j%5]? =some (.int .u8 (p.wind j)):=by
  have:j%5=0∨j%5=1∨j%5=2∨j%5=3∨j%5=4:=by omega
  unfold RPl.wind
  rcases this with e|e|e|e|e<;>rw[e]<;>rfl
 simp only[RPl.cells]at hw
 have hwj:=hwb j
 simp(disch:=omega) only[↓RA,RZ,simprocAttr,hn,g2,g6,hS8.ld 0 rfl,hpp]
 refine iA (fun q=> ?_) (fun q=> ?_)
 ·simp(disch:=omega) only[↓RA,RC,simprocAttr,q]
  refine Wp.aO jZ [(1,9)] (by kernel_rfl) (by kernel_rfl) ?_
  simp(disch:=omega) only[↓RA,RZ,simprocAttr,hn,g2,g5,g6,hS8.ld 2 rfl,hS8.ld 0 rfl,hw,hj5]
  refine hS8.ai [_] a3d a6j rfl rfl (by simp[Value.cells]) rfl rfl (by decide) (by decide) fun w3 H9 hS9=> ?_
  simp only[RT]at hS9
  simp(disch:=omega) only[↓RA,RZ,simprocAttr,hn]
  refine hS9.aq 3 rfl (hS9.rd 4 rfl) a3d (by first|(simp;done)|(simp;omega)) fun w4 H10 hS10=> ?_
  simp only[RT]at hS10
  simp(disch:=omega) only[↓RA,RZ,simprocAttr,hn,g5]
  refine hS10.aa 2 rfl [w4] (by rw[(hS10.rd 3 rfl).cells.1]) (by simp[(hS10.rd 3 rfl).cells.2.1]) c4A (by simp) fun H11 hS11=> ?_
  simp only[RT]at hS11
  simp(disch:=omega) only[↓RA,RZ,simprocAttr,hn,g2,g4,g5,g6,hS9.ld 2 rfl]
  refine⟨n-1,by omega,j+1,w4,by omega,rfl,?_⟩
  rw[ez,dA]
  exact hS11.pick [0,1,2,3] (by decide) rfl
 simp(disch:=omega) only[↓RA,RZ,simprocAttr,hn,g4,g5,hS8.ag 2 rfl,q]
 refine hS8.aa 1 rfl [(.string ⟨#[82,UInt8.ofNat (48+(i:Int)).toNat]⟩),(.string (iB tF (p.tone%3))),I (iB lV (p.feet%16)).1,I (iB lV (p.feet%16)).2,I p.first,wv] rfl (by simp[OC,(hS8.rd 3 rfl).cells.2.1]) a3r (by simp) fun H12 hS12=> ?_
 simp only[RT]at hS12
 simp(disch:=omega) only[↓RA,RZ,simprocAttr,g4,c5M,hS12.ag 1 rfl,q]
 have hjj:j=1+p.pipes%25:=by omega
 subst hjj
 have he:(48+(i:Int)).toNat=48+i:=by omega
 exact⟨wv,by rw[he],hS12.pick [3] (by decide) rfl⟩
end Go.Ds
namespace Go.Ds
open Go.Proofs
variable {P:Program} {H:Heap} {α:Type} {n:Nat} {cel:α→List Value} {v:Value} {xs:List α} {X Y:Nat→Prop}
theorem RdAt.lt{size:Nat}{cs:List Value}(h:RdAt H v size cs){B:Nat}(hb:kI v=some B):B<H.length:=by
 rcases h with⟨h1,_⟩|⟨A,i,e,row,ty,rw,lo,ver,n,h,_,_,_,_,_,h7⟩
 ·rw[h1]at hb;simp[kI]at hb
 ·rw[h7]at hb
  simp[kI]at hb
  exact hb▸jG h
theorem RdAt.cI{H':Heap}{size:Nat}{cs:List Value}(h:RdAt H v size cs)(hk:∀B,kI v=some B→iP H' B=iP H B):RdAt H' v size cs:=by
 rcases h with h|⟨A,i,e,row,ty,rw,lo,ver,n,h,h2,h3,h4,h5,h6,h7⟩
 ·exact .inl h
 ·exact .inr ⟨A,i,e,row,ty,rw,lo,ver,n,by rw[hk A (by rw[h7];rfl),h],h2,h3,h4,h5,h6,h7⟩
theorem St.ax{B0:Base}{os:List Ob}(hS:St P B0 H os):∃B:Base,B=⟨H,pG os⟩∧St P B H os:=⟨_,rfl,hS.aH⟩
theorem St.aj{B0 B:Base}{H1:Heap}{os os1:List Ob}(hS:St P B0 H os)(hB:B=⟨H,pG os⟩)(h1:St P B H1 os1):St P B0 H1 os1:=by
 subst hB
 exact hS.bE h1
def Slx(n:Nat)(cel:α→List Value)(H:Heap)(X:Nat→Prop)(v:Value)(xs:List α):Prop:=Sl n cel H v xs∧∀B,kI v=some B→X B
def Kept(H:Heap)(X:Nat→Prop)(H':Heap)(Y:Nat→Prop):Prop:=∀B,X B→B<H.length→iP H' B=iP H B∧Y B
theorem Slx.step{H':Heap}(h:Slx n cel H X v xs)(hk:Kept H X H' Y):Slx n cel H' Y v xs:=
 ⟨⟨h.1.rd.cI fun B hb=>(hk B (h.2 B hb) (h.1.rd.lt hb)).1,h.1.hc,h.1.pos⟩,fun B hb=>(hk B (h.2 B hb) (h.1.rd.lt hb)).2⟩
def nb(vs:List Value):Nat→Prop:=fun B=>∀v∈vs,kI v≠some B
theorem a9p(os:List Ob)(B:Nat):nb (os.map (·.v)) B↔¬pG os B:=by
 unfold nb pG
 constructor
 ·rintro h⟨o,ho,hb⟩
  exact h o.v (eV ho) hb
 ·intro h v hv hb
  obtain⟨o,ho,rfl⟩:=dy.1 hv
  exact h ⟨o,ho,hb⟩
theorem St.kept{B:Base}{H':Heap}{os os':List Ob}(hS:St P B H' os')(hB:B=⟨H,pG os⟩):Kept H (nb (os.map (·.v))) H' (nb (os'.map (·.v))):=by
 subst hB
 intro B hX hB
 rw[a9p]at hX ⊢
 exact⟨hS.old B hB hX,fun⟨o,ho,hb⟩=>by
  rcases hS.new o ho B hb with h|h
  ·have h:H.length≤B:=h
   omega
  ·exact hX h⟩
theorem St.aJ{H0:Base}{H':Heap}{os:List Ob}(hS:St P H0 H os):Kept H' (fun B=>H.length≤B) H' (nb (os.map (·.v))):=by
 intro B hX hB
 rw[a9p]
 exact⟨rfl,fun⟨o,ho,hb⟩=>by
  have:=(hS.own o ho).lt hb
  omega⟩
theorem Kept.trans{H' H'':Heap}{X Y Z:Nat→Prop}(h:Kept H X H' Y)(h':Kept H' Y H'' Z)(hl:H.length≤H'.length):Kept H X H'' Z:=
 fun B hX hB=>by
  obtain⟨e,hY⟩:=h B hX hB
  obtain⟨e',hZ⟩:=h' B hY (dO hB hl)
  exact⟨e'.trans e,hZ⟩
theorem Slx.any(h:Slx n cel H X v xs):Slx n cel H (fun _=>True) v xs:=⟨h.1,fun _ _=>trivial⟩
theorem St.cW{H0:Base}{os os':List Ob}(hS:St P H0 H os)(i:Nat){m:Nat}(ho:os[i]? =some ⟨v,m+1,xs.flatMap cel⟩)(hc:∀x,(cel x).length=m+1)(idx:List Nat)(hi:i∉idx)(h:idx.map (os[·]?)=os'.map some):
 Slx (m+1) cel H (nb (os'.map (·.v))) v xs:=by
 refine⟨hS.av i ho hc,fun B hb=> ?_⟩
 rw[a9p]
 rintro⟨o,hmem,hob⟩
 have:some o∈idx.map (os[·]?):=by rw[h];exact eV hmem
 obtain⟨j,hj,hj2⟩:=dy.1 this
 have hne:i≠j:=fun e=>hi (e▸hj)
 have hpw:=ec.1 hS.sep
 obtain⟨hi1,ei⟩:=dw.1 ho
 obtain⟨hj1,ej⟩:=dw.1 hj2
 rcases fu hne with hh|hh
 ·have:=hpw i j hi1 hj1 hh B (by rw[ei];exact hb)
  rw[ej]at this
  exact this hob
 ·have:=hpw j i hj1 hi1 hh B (by rw[ej];exact hob)
  rw[ei]at this
  exact this hb
theorem St.cj{H0:Heap}{os:List Ob}(hS:St P H0 H os)(i:Nat){m:Nat}(ho:os[i]? =some ⟨v,m+1,xs.flatMap cel⟩)(hc:∀x,(cel x).length=m+1):Slx (m+1) cel H (fun B=>H0.length≤B) v xs:=
 ⟨hS.av i ho hc,fun B hb=>by
  rcases hS.new _ (dT ho) B hb with h|h
  ·exact h
  ·exact h.elim⟩
def Seg.Ix(H:Heap)(X:Nat→Prop)(s:Seg):Prop:=Slx 2 Drw.cells H X s.dv s.draws∧s.draws.length<1000000000
def Stp.Ix(H:Heap)(X:Nat→Prop)(s:Stp):Prop:=Slx 3 Seg.cells H X s.gv s.segs∧(∀g∈s.segs,g.Ix H X)∧s.segs.length<1000000000
def Dvn.Ix(H:Heap)(X:Nat→Prop)(d:Dvn):Prop:=Slx 4 Stp.cells H X d.sv d.stops∧(∀s∈d.stops,s.Ix H X)∧d.stops.length<1000000000
def Rk.Ix(H:Heap)(X:Nat→Prop)(r:Rk):Prop:=Slx 1 (one I) H X r.wv r.wind∧r.wind.length<1000000000
section
variable {H':Heap}
theorem Seg.Ix.step{s:Seg}(h:s.Ix H X)(hk:Kept H X H' Y):s.Ix H' Y:=⟨h.1.step hk,h.2⟩
theorem Stp.Ix.step{s:Stp}(h:s.Ix H X)(hk:Kept H X H' Y):s.Ix H' Y:=⟨h.1.step hk,fun g hg=>(h.2.1 g hg).step hk,h.2.2⟩
theorem Dvn.Ix.step{d:Dvn}(h:d.Ix H X)(hk:Kept H X H' Y):d.Ix H' Y:=⟨h.1.step hk,fun g hg=>(h.2.1 g hg).step hk,h.2.2⟩
theorem Rk.Ix.step{r:Rk}(h:r.Ix H X)(hk:Kept H X H' Y):r.Ix H' Y:=⟨h.1.step hk,h.2⟩
theorem Seg.Ix.in{s:Seg}(h:s.Ix H X):s.In H:=⟨h.1.1,h.2⟩
theorem Stp.Ix.in{s:Stp}(h:s.Ix H X):s.In H:=⟨h.1.1,fun g hg=>(h.2.1 g hg).in,h.2.2⟩
theorem Dvn.Ix.in{d:Dvn}(h:d.Ix H X):d.In H:=⟨h.1.1,fun g hg=>(h.2.1 g hg).in,h.2.2⟩
theorem Rk.Ix.in{r:Rk}(h:r.Ix H X):r.In H:=⟨h.1.1,h.2⟩
end
theorem a2s{α:Type}(f:α→Value)(l:List α):l.flatMap (one f)=l.map f:=by
 induction l with
 | nil=>rfl
 | cons a l ih=>rw[dK,ih];rfl
end Go.Ds
namespace Go.Ds
open Go.Proofs
theorem a9x(m:Nat)(n s:Int)(h0:0≤n)(h1:n<m)(h2: -127≤s)(h3:s≤127):lJ m [⟨n,s⟩]=0:=by
 rw[lJ,if_neg (by simp)]
 refine kT _ _ fun j hj=> ?_
 have hj0:j=0:=by simpa using hj
 subst hj0
 have e:iB ([⟨n,s⟩]:List Drw) 0=⟨n,s⟩:=rfl
 unfold kL
 rw[e,if_neg (by simp only;omega),if_neg (by simp only;omega),if_neg (by simp)]
theorem c0V(m:Nat)(n s t:Int)(h0:0≤n)(h1:n<m)(h2: -127≤s)(h3:s≤127)(h4: -127≤t)(h5:t≤127)(hne:s≠t):lJ m [⟨n,s⟩,⟨n,t⟩]=0:=by
 rw[lJ,if_neg (by simp)]
 refine kT _ _ fun j hj=> ?_
 have hj0:j=0∨j=1:=by
  have:j<2:=by simpa using hj
  omega
 rcases hj0 with rfl|rfl
 ·have e:iB ([⟨n,s⟩,⟨n,t⟩]:List Drw) 0=⟨n,s⟩:=rfl
  unfold kL
  rw[e,if_neg (by simp only;omega),if_neg (by simp only;omega),if_neg (by simp)]
 ·have e:iB ([⟨n,s⟩,⟨n,t⟩]:List Drw) 1=⟨n,t⟩:=rfl
  unfold kL
  rw[e,if_neg (by simp only;omega),if_neg (by simp only;omega),if_neg (by simp[eH hne])]
theorem a8d(lo hi a b:Int)(m:Nat)(dv:Value)(ds:List Drw)(h1:lo≤a)(h2:a≤b)(h3:b≤hi)(hd:lJ m ds=0):lP (lA lo hi m [⟨a,b,dv,ds⟩]) 1=0:=by
 refine kT _ _ fun j hj=> ?_
 have hj0:j=0:=by omega
 subst hj0
 have e:iB ([⟨a,b,dv,ds⟩]:List Seg) 0=⟨a,b,dv,ds⟩:=rfl
 unfold lA
 rw[e,if_neg (by simp only;omega),if_neg (by simp only;omega)]
 exact hd
theorem c0e(lo hi c:Int)(m:Nat)(dv dv':Value)(ds ds':List Drw)(h1:lo<c)(h2:c≤hi)(hd:lJ m ds=0)(hd':lJ m ds'=0):lP (lA lo hi m [⟨lo,c-1,dv,ds⟩,⟨c,hi,dv',ds'⟩]) 2=0:=by
 refine kT _ _ fun j hj=> ?_
 have e0:iB ([⟨lo,c-1,dv,ds⟩,⟨c,hi,dv',ds'⟩]:List Seg) 0=⟨lo,c-1,dv,ds⟩:=rfl
 have e1:iB ([⟨lo,c-1,dv,ds⟩,⟨c,hi,dv',ds'⟩]:List Seg) 1=⟨c,hi,dv',ds'⟩:=rfl
 have hj0:j=0∨j=1:=by omega
 rcases hj0 with rfl|rfl
 ·unfold lA
  rw[e0,if_neg (by simp only;omega),if_neg (by simp only;omega)]
  exact hd
 ·unfold lA
  rw[e1,show(1:Nat)-1=0 from rfl,e0,if_neg (by simp only;omega),if_neg (by simp only;omega)]
  exact hd'
def nm(c:UInt8)(i:Nat):ByteArray:=⟨#[c,UInt8.ofNat (48+i)]⟩
theorem a5t{c:UInt8}{i j:Nat}(hi:i<10)(hj:j<10)(h:nm c i=nm c j):i=j:=by
 unfold nm at h
 have h2:(#[c,UInt8.ofNat (48+i)]:Array UInt8)=#[c,UInt8.ofNat (48+j)]:=congrArg ByteArray.data h
 have h3:UInt8.ofNat (48+i)=UInt8.ofNat (48+j):=by simpa using h2
 have h4:=congrArg UInt8.toNat h3
 simp only[UInt8.toNat_ofNat']at h4
 omega
theorem a1p{c:UInt8}(hc:c=82∨c=68∨c=83∨c=67){i:Nat}(hi:i<10):kY (nm c i)=true:=by
 have h:i=0∨i=1∨i=2∨i=3∨i=4∨i=5∨i=6∨i=7∨i=8∨i=9:=by omega
 rcases hc with rfl|rfl|rfl|rfl<;>rcases h with rfl|rfl|rfl|rfl|rfl|rfl|rfl|rfl|rfl|rfl<;>decide
structure StpOk(m:Nat)(lo hi:Int)(i:Nat)(s:Stp):Prop where
 name:s.name=nm 83 i
 feet:(s.num,s.den)∈lE
 pos:0<s.segs.length
 len:s.segs.length≤2
 segs:lP (lA lo hi m s.segs) s.segs.length=0
theorem b6O{p:Int×Int}(h:p∈lE):nD p.1 p.2=0:=by
 have:lE.all (fun p=>decide (nD p.1 p.2=0))=true:=by decide
 exact of_decide_eq_true (dz.1 this p h)
theorem b5P{p:Int×Int}(h:p∈lV):nD p.1 p.2=0:=by
 have:lV.all (fun p=>decide (nD p.1 p.2=0))=true:=by decide
 exact of_decide_eq_true (dz.1 this p h)
theorem StpOk.stopE{rs:List Rk}{lo hi:Int}{i:Nat}{s:Stp}(h:StpOk rs.length lo hi i s)(hi10:i<10)(hp:tB rs lo hi=0):stopE rs lo hi s=0:=by
 unfold Go.Ds.stopE
 rw[if_neg (by rw[hp];simp),if_neg (by rw[h.name,a1p (by simp) hi10];simp),if_neg (by rw[b6O h.feet];simp),if_neg (by have:=h.pos;omega),if_neg (by have:=h.len;omega)]
 exact h.segs
structure RkOk(i:Nat)(r:Rk):Prop where
 name:r.name=nm 82 i
 tone:r.tone∈tF
 feet:(r.num,r.den)∈lV
 first: -128≤r.first∧r.first<128
 pos:0<r.wind.length
 len:r.wind.length≤25
 wind:∀x∈r.wind,0≤x∧x<256
theorem b6y{s:ByteArray}(h:s∈tF):kY s=true:=by
 have:tF.all (fun s=>kY s)=true:=by decide
 exact dz.1 this s h
theorem RkOk.rankE{i:Nat}{r:Rk}(h:RkOk i r)(hi:i<10):rankE r=0:=by
 have hf:=h.first
 have hp:=h.pos
 have hl:=h.len
 have hw:a0p r.wind=0:=by
  unfold a0p
  rw[if_neg]
  intro hh
  rw[gA]at hh
  obtain⟨x,hx,hp⟩:=hh
  have:=h.wind x hx
  simp only[eF,decide_eq_true_eq]at hp
  omega
 unfold Go.Ds.rankE
 rw[if_neg (by rw[h.name,a1p (by simp) hi,b6y h.tone];simp),if_neg (by rw[b5P h.feet];simp),if_neg (by omega),if_neg (by omega),if_neg (by omega),hw]
theorem a1x{lo hi:Int}(h0:0≤lo)(h1:lo≤hi)(h2:hi≤127):qQ lo hi=0:=by
 unfold qQ
 rw[if_neg (by omega),if_neg (by omega)]
theorem c1q{rs:List Rk}{lo hi:Int}(hl:rs.length≤3)(hr:∀j,j<rs.length→RkOk j (iB rs j))(h0:0≤lo)(h1:lo≤hi)(h2:hi≤127):tB rs lo hi=0:=by
 have e:=kT (fun j=>Go.Ds.rankE (iB rs j)) rs.length fun j hj=>(hr j hj).rankE (by omega)
 unfold tB
 rw[if_neg (by omega),if_neg (by rw[e];simp)]
 exact a1x h0 h1 h2
structure DvOk(m i:Nat)(d:Dvn):Prop where
 name:d.name=nm 68 i
 lo:36≤d.lo
 le:d.lo≤d.hi
 hi:d.hi≤60
 wide:d.hi≤d.lo+8
 len:d.stops.length≤3
 stops:∀k,k<d.stops.length→StpOk m d.lo d.hi k (iB d.stops k)
structure CpOk(n i:Nat)(c:Cpl):Prop where
 name:c.name=nm 67 i
 src:0≤c.src∧c.src<n
 dst:0≤c.dst∧c.dst<n
 shift: -24≤c.shift∧c.shift≤24
 ne:¬(c.src=c.dst∧c.shift=0)
def b4z:ByteArray:=⟨#[79,114,103,97,110]⟩
structure OrgOk(o:Org):Prop where
 name:o.name=b4z
 rpos:0<o.ranks.length
 rlen:o.ranks.length≤3
 ranks:∀j,j<o.ranks.length→RkOk j (iB o.ranks j)
 dpos:0<o.dvs.length
 dlen:o.dvs.length≤3
 dvs:∀j,j<o.dvs.length→DvOk o.ranks.length j (iB o.dvs j)
 clen:o.cpls.length≤3
 cpls:∀j,j<o.cpls.length→CpOk o.dvs.length j (iB o.cpls j)
theorem b3v:kY b4z=true:=by decide
theorem DvOk.divE{rs:List Rk}{i:Nat}{d:Dvn}(h:DvOk rs.length i d)(hl:rs.length≤3)(hr:∀j,j<rs.length→RkOk j (iB rs j)):divE rs d=0:=by
 have h1:=h.lo
 have h2:=h.le
 have h3:=h.hi
 have h4:=h.len
 unfold Go.Ds.divE
 rw[if_neg (by rw[a1x (by omega) h2 (by omega)];simp),if_neg (by omega)]
 refine kT _ _ fun j hj=> ?_
 have hs:=h.stops j hj
 unfold pE
 rw[if_neg (by rw[hs.stopE (by omega) (c1q hl hr (by omega) h2 (by omega))];simp),if_neg]
 rintro⟨q,hq,e⟩
 rw[hs.name,(h.stops q (by omega)).name]at e
 have:=a5t (by omega) (by omega) e
 omega
theorem OrgOk.organE{o:Org}(h:OrgOk o):organE o=0:=by
 have h1:=h.rpos
 have h2:=h.rlen
 have h3:=h.dpos
 have h4:=h.dlen
 have h5:=h.clen
 have e1:lP (nM o.ranks) o.ranks.length=0:=kT _ _ fun j hj=>by
  unfold nM
  rw[if_neg (by rw[(h.ranks j hj).rankE (by omega)];simp),if_neg]
  rintro⟨q,hq,e⟩
  rw[(h.ranks j hj).name,(h.ranks q (by omega)).name]at e
  have:=a5t (by omega) (by omega) e
  omega
 have e2:lP (tN o.ranks o.dvs) o.dvs.length=0:=kT _ _ fun j hj=>by
  unfold tN
  rw[if_neg (by rw[(h.dvs j hj).name,a1p (by simp) (by omega)];simp),if_neg]
  ·exact(h.dvs j hj).divE h2 h.ranks
  rintro⟨q,hq,e⟩
  rw[(h.dvs j hj).name,(h.dvs q (by omega)).name]at e
  have:=a5t (by omega) (by omega) e
  omega
 have e3:tK (kps o.dvs) o.cpls=0:=by
  have hk:(kps o.dvs).length=o.dvs.length:=by simp[kps]
  unfold tK
  rw[if_neg (by omega),if_neg]
  ·refine kT _ _ fun j hj=> ?_
   have hc:=h.cpls j hj
   have c1:=hc.src
   have c2:=hc.dst
   have c3:=hc.shift
   unfold mS
   simp only
   rw[if_neg (by rw[hc.name,a1p (by simp) (by omega)];simp),if_neg,if_neg (by rw[hk];omega),if_neg (by omega),if_neg hc.ne]
   rintro⟨q,hq,e⟩
   rw[hc.name,(h.cpls q (by omega)).name]at e
   have:=a5t (by omega) (by omega) e
   omega
  ·rintro⟨k,hk,hne⟩
   unfold kps at hk
   obtain⟨d,hd,rfl⟩:=dy.1 hk
   obtain⟨j,hj,rfl⟩:=dR.1 hd
   have hd:=h.dvs j hj
   rw[jR o.dvs j hj]at hd
   have h1:=hd.lo
   have h2:=hd.le
   have h3:=hd.hi
   exact hne (a1x (by omega) h2 (by omega))
 unfold Go.Ds.organE
 rw[if_neg (by rw[h.name,b3v];simp),if_neg (by omega),if_neg (by rw[e1];simp),if_neg (by omega),if_neg (by omega),if_neg (by rw[e2];simp)]
 exact e3
def jS(x:Int×Int):List Value:=[I x.1,I x.2]
def pr(l:List (Int×Int)):List Value:=l.flatMap jS
theorem kE(x:Int×Int):(jS x).length=2:=rfl
theorem iF(l:List (Int×Int)):(pr l).length=l.length*2:=iL kE l
def le2(x y:Int×Int):Bool:=decide (x.1<y.1)||(decide (x.1=y.1)&&decide (x.2≤y.2))
theorem oG(x y:Int×Int):le2 x y=true↔x.1<y.1∨(x.1=y.1∧x.2≤y.2):=by
 unfold le2
 simp only[eF,dc,decide_eq_true_eq]
def wC(es:List (Int×Int)):List (Int×Int):=es.mergeSort le2
theorem pP(es:List (Int×Int)):(wC es).Perm es:=List.mergeSort_perm _ _
theorem pA(es:List (Int×Int)):(wC es).length=es.length:=(pP es).length_eq
theorem a1R(es:List (Int×Int)):(wC es).Pairwise fun a b=>le2 a b=true:=by
 unfold wC
 refine List.pairwise_mergeSort ?_ ?_ _
 ·intro a b c h1 h2
  rw[oG]at*
  omega
 ·intro a b
  rw[eF,oG,oG]
  omega
def cf2(x y:Int×Int):Int:=if x.1<y.1 then -1 else if y.1<x.1 then 1 else if x.2<y.2 then -1 else if y.2<x.2 then 1 else 0
def yM{α:Type}[Inhabited α][DecidableEq α](es:List α)(m:Nat):List α:=((List.range m).filter fun i=>decide (i=0∨iB es i≠iB es (i-1))).map fun i=>iB es i
def dd{α:Type}[Inhabited α][DecidableEq α](es:List α):List α:=yM es es.length
section
variable {α:Type} [Inhabited α] [DecidableEq α]
theorem sB(es:List α)(m:Nat):yM es (m+1)=yM es m++(if m=0∨iB es m≠iB es (m-1)then[iB es m]else[]):=by
 unfold yM
 rw[ez,ew,dA]
 congr 1
 by_cases h:m=0∨iB es m≠iB es (m-1)
 ·rw[if_pos h]
  simp only[List.filter_cons,List.filter_nil,decide_eq_true h,if_true,ef,fY]
 ·rw[if_neg h]
  simp only[List.filter_cons,List.filter_nil,decide_eq_false h,dW,if_false,fY]
theorem c1K(es:List α)(m:Nat):(yM es m).length≤m:=by
 unfold yM
 rw[dF]
 refine dI (dS _ _) ?_
 simp
theorem kJ(es:List α)(m:Nat)(h:m<es.length):es.take (m+1)=es.take m++[iB es m]:=by
 rw[jR es m h,List.take_succ_eq_append_getElem h]
theorem tA(es:List α):∀m,m≤es.length→(∀j,0<j→j<m→iB es j≠iB es (j-1))→yM es m=es.take m
 | 0,_,_=>by simp[yM]
 | m+1,hm,h=>by
   have ih:=tA es m (by omega) fun j h1 h2=>h j h1 (by omega)
   rw[sB,ih,kJ es m (by omega),if_pos]
   by_cases h0:m=0
   ·exact .inl h0
   ·exact .inr (h m (by omega) (by omega))
end
theorem uI{v:Value}{n lo k b:Nat}(h:kI (kU v n lo k)=some b):kI v=some b:=by
 unfold kU at h
 split at h<;>exact h
theorem jN(a b:List (Int×Int)):pr (a++b)=pr a++pr b:=dN
structure Reg where
 stops:List Nat
 cpl:Nat
 off:Nat
 deriving Inhabited,DecidableEq
def u64(n:Nat):Value:=.int .u64 n
def Reg.cells(r:Reg)(sv:Value):List Value:=[sv,u64 r.cpl,u64 r.off]
def Reg.Ok(r:Reg):Prop:=r.stops.length<1000000000∧(∀x∈r.stops,x<18446744073709551616)∧r.cpl<18446744073709551616∧r.off<18446744073709551616
def Reg.In(H:Heap)(r:Reg)(sv:Value):Prop:=Sl 1 (one u64) H sv r.stops∧r.Ok
theorem Reg.In.ab{P:Program}{H H0:Heap}{os:List Ob}{r:Reg}{sv:Value}(h:r.In H0 sv)(hS:St P H0 H os):r.In H sv:=⟨hS.sl h.1,h.2⟩
abbrev Ct:=Int×Int
abbrev vR(n:Int):Int:=IntKind.wrap .i64 n
def rM(o:Org)(c:Ct):Bool:=decide (0≤c.1)&&decide (c.1<o.dvs.length)&&decide ((iB o.dvs c.1.toNat).lo≤c.2)&&decide (c.2≤(iB o.dvs c.1.toNat).hi)
def a0H(o:Org)(c:Ct):Int:=if c.1<0∨o.dvs.length≤c.1 then 10 else if c.2<(iB o.dvs c.1.toNat).lo∨(iB o.dvs c.1.toNat).hi<c.2 then 23 else 0
theorem tX(o:Org)(c:Ct):a0H o c=0↔rM o c=true:=by
 unfold a0H rM
 by_cases h1:c.1<0∨o.dvs.length≤c.1
 ·rw[if_pos h1]
  simp
  omega
 ·rw[if_neg h1]
  by_cases h2:c.2<(iB o.dvs c.1.toNat).lo∨(iB o.dvs c.1.toNat).hi<c.2
  ·rw[if_pos h2]
   simp
   omega
  ·rw[if_neg h2]
   simp
   omega
def to1(x:Cpl)(c:Ct):Ct:=(x.dst,vR (c.2+x.shift))
def a0W(cp:Nat)(thr:Bool)(c:Ct)(x:Cpl)(i:Nat):Bool:=cp.testBit i&&decide (x.src=c.1)&&(!thr||x.thr)
def step1(o:Org)(cp:Nat)(thr:Bool)(c:Ct)(q:List Ct)(i:Nat):List Ct:=
 if a0W cp thr c (iB o.cpls i) i&&rM o (to1 (iB o.cpls i) c)&& !decide (to1 (iB o.cpls i) c∈q)then q++[to1 (iB o.cpls i) c]else q
def stepN(o:Org)(cp:Nat)(thr:Bool)(c:Ct)(q:List Ct)(n:Nat):List Ct:=(List.range n).foldl (step1 o cp thr c) q
def stepF(o:Org)(cp:Nat)(thr:Bool)(c:Ct)(q:List Ct):List Ct:=stepN o cp thr c q o.cpls.length
theorem nT(o:Org)(cp:Nat)(thr:Bool)(c:Ct)(q:List Ct)(n:Nat):stepN o cp thr c q (n+1)=step1 o cp thr c (stepN o cp thr c q n) n:=by
 unfold stepN
 rw[ez,gx]
 rfl
def Que(o:Org)(q:List Ct):Prop:=q.Nodup∧∀c∈q,rM o c=true
theorem Que.nil(o:Org):Que o []:=⟨.nil,by simp⟩
theorem Que.step1{o:Org}{q:List Ct}(h:Que o q)(cp:Nat)(thr:Bool)(c:Ct)(i:Nat):Que o (step1 o cp thr c q i):=by
 unfold Go.Ds.step1
 split
 ·rename_i hh
  simp only[dc,dM,decide_eq_false_iff_not]at hh
  refine⟨?_,?_⟩
  ·rw[List.nodup_append]
   exact⟨h.1,by simp,fun a ha b hb e=>hh.2 (by simp at hb;rw[←hb,←e];exact ha)⟩
  ·intro x hx
   rcases dJ.1 hx with hx|hx
   ·exact h.2 x hx
   ·simp at hx
    rw[hx]
    exact hh.1.2
 ·exact h
theorem Que.stepN{o:Org}{q:List Ct}(h:Que o q)(cp:Nat)(thr:Bool)(c:Ct):∀n,Que o (stepN o cp thr c q n)
 | 0=>h
 | n+1=>by rw[nT];exact(h.stepN cp thr c n).step1 cp thr c n
theorem Que.stepF{o:Org}{q:List Ct}(h:Que o q)(cp:Nat)(thr:Bool)(c:Ct):Que o (stepF o cp thr c q):=h.stepN cp thr c _
theorem a6L:∀(N:Nat)(l:List Nat),l.Nodup→(∀i∈l,i<N)→l.length≤N
 | 0,l,hn,h=>by
   cases l with
   | nil=>simp
   | cons a l=>exact absurd (h a (by simp)) (dL _)
 | N+1,l,hn,h=>by
   have h1:(l.erase N).length≤N:=by
    refine a6L N _ (hn.erase N) fun i hi=> ?_
    have h2:=(List.Nodup.mem_erase_iff hn).1 hi
    have:=h i h2.2
    omega
   rw[List.length_erase]at h1
   split at h1<;>omega
theorem vH{f:Nat→Int}{n:Nat}(h:lP f n=0):∀j,j<n→f j=0:=by
 intro j hj
 unfold lP at h
 cases hf:(List.range n).find? (fun j=>decide (f j≠0))with
 | some i=>
   rw[hf]at h
   have:=List.find?_some hf
   simp only[decide_eq_true_eq]at this
   exact absurd h this
 | none=>
   rw[gR]at hf
   have:=hf j (dB.2 hj)
   simpa using this
structure Org.Fine(o:Org):Prop where
 dpos:0<o.dvs.length
 dlen:o.dvs.length≤8
 rlen:o.ranks.length≤60
 keys:∀j,j<o.dvs.length→0≤(iB o.dvs j).lo∧(iB o.dvs j).lo≤(iB o.dvs j).hi∧(iB o.dvs j).hi≤127
 stops:∀j,j<o.dvs.length→(iB o.dvs j).stops.length≤60
 clen:o.cpls.length≤40
 draws:∀j,j<o.dvs.length→∀s∈(iB o.dvs j).stops,∀g∈s.segs,g.draws.length≤8
theorem Org.bg{o:Org}(h:organE o=0):o.Fine:=by
 unfold organE at h
 split at h
 ·omega
 split at h
 ·omega
 rename_i _ h2
 split at h
 ·rename_i hh;exact absurd h hh
 split at h
 ·omega
 rename_i h4
 split at h
 ·omega
 rename_i h5
 split at h
 ·rename_i hh;exact absurd h hh
 rename_i h6
 have h6:=dG.1 h6
 have hd:∀j,j<o.dvs.length→(0≤(iB o.dvs j).lo∧(iB o.dvs j).lo≤(iB o.dvs j).hi∧(iB o.dvs j).hi≤127)∧(iB o.dvs j).stops.length≤60∧∀s∈(iB o.dvs j).stops,∀g∈s.segs,g.draws.length≤8:=by
  intro j hj
  have e:=vH h6 j hj
  unfold tN at e
  split at e
  ·omega
  split at e
  ·omega
  unfold divE at e
  split at e
  ·rename_i hh;exact absurd e hh
  rename_i hc
  have hc:=dG.1 hc
  split at e
  ·omega
  unfold qQ at hc
  split at hc
  ·omega
  split at hc
  ·omega
  refine⟨by omega,by omega,fun s hs g hg=> ?_⟩
  obtain⟨k,hk,rfl⟩:=dR.1 hs
  obtain⟨i,hi,rfl⟩:=dR.1 hg
  have e2:=vH e k hk
  unfold pE at e2
  rw[jR _ k hk]at e2
  split at e2
  ·rename_i hh;exact absurd e2 hh
  rename_i e3
  have e3:=dG.1 e3
  unfold stopE at e3
  split at e3
  ·rename_i hh;exact absurd e3 hh
  split at e3
  ·omega
  split at e3
  ·rename_i hh;exact absurd e3 hh
  split at e3
  ·omega
  split at e3
  ·omega
  have e4:=vH e3 i hi
  unfold lA at e4
  rw[jR _ i hi]at e4
  split at e4
  ·omega
  split at e4
  ·omega
  unfold lJ at e4
  split at e4
  ·omega
  omega
 refine⟨by omega,by omega,by omega,fun j hj=>(hd j hj).1,fun j hj=>(hd j hj).2.1,?_,fun j hj=>(hd j hj).2.2⟩
 unfold tK at h
 split at h<;>omega
theorem uJ(o:Org)(c:Ct):rM o c=true↔0≤c.1∧c.1<o.dvs.length∧(iB o.dvs c.1.toNat).lo≤c.2∧c.2≤(iB o.dvs c.1.toNat).hi:=by
 unfold rM
 simp only[dc,decide_eq_true_eq,and_assoc]
theorem a2D{o:Org}(ho:o.Fine){c:Ct}(h:rM o c=true):0≤c.1∧c.1<8∧0≤c.2∧c.2≤127:=by
 have h:=(uJ o c).1 h
 have hk:=ho.keys c.1.toNat (by omega)
 have:=ho.dlen
 omega
theorem Que.len{o:Org}{q:List Ct}(h:Que o q)(ho:o.Fine):q.length≤1024:=by
 have h1:=a6L 1024 (q.map fun c=>c.1.toNat*128+c.2.toNat) ?_ ?_
 ·simpa using h1
 ·unfold List.Nodup
  rw[gy]
  refine List.Pairwise.imp_of_mem (fun{a b}ha hb hne e=>hne ?_) h.1
  have h1:=a2D ho (h.2 a ha)
  have h2:=a2D ho (h.2 b hb)
  apply gz<;>omega
 ·intro i hi
  obtain⟨c,hc,rfl⟩:=dy.1 hi
  have h1:=a2D ho (h.2 c hc)
  omega
def bfs(o:Org)(cp:Nat):Nat→Nat→List Ct→List Ct
 | 0,_,q=>q
 | n+1,i,q=>if i<q.length then bfs o cp n (i+1) (stepF o cp true (iB q i) q)else q
def oM(o:Org)(cp:Nat)(l:List Ct):List Ct:=l.foldl (fun q c=>stepF o cp false c q) []
def uT(o:Org)(r:Reg)(l:List Ct):List Ct:=dd (wC (l.filter (fun c=> !r.off.testBit c.1.toNat)++bfs o r.cpl 1100 0 (oM o r.cpl l)))
def pK(rs:List Rk)(d:Drw)(key:Int):Ct:=if d.rank<0∨rs.length≤d.rank then(0,0)else(d.rank,vR (vR (key+d.shift)-(iB rs d.rank.toNat).first))
def a0r(rs:List Rk)(d:Drw)(key:Int):Bool:= !decide (d.rank<0∨rs.length≤d.rank)&&decide (0≤(pK rs d key).2)&&decide ((pK rs d key).2<(iB rs d.rank.toNat).wind.length)
def a9Z(s:Stp)(key:Int)(j:Nat):Bool:=decide ((iB s.segs j).lo≤key)&&decide (key≤(iB s.segs j).hi)
def a8Y(s:Stp)(key:Int):List Drw:=if mZ (a9Z s key) s.segs.length<0 then[]else(iB s.segs (mZ (a9Z s key) s.segs.length).toNat).draws
def sN(rs:List Rk)(s:Stp)(key:Int):List Ct:=dd (wC (((a8Y s key).filter fun d=>a0r rs d key).map fun d=>pK rs d key))
def qM(o:Org)(r:Reg)(c:Ct):List Ct:=(List.range (iB o.dvs c.1.toNat).stops.length).flatMap fun i=>if(iB r.stops c.1.toNat).testBit i then sN o.ranks (iB (iB o.dvs c.1.toNat).stops i) c.2 else[]
def a5I(o:Org)(r:Reg)(l:List Ct):List Ct:=dd (wC (l.flatMap (qM o r)))
def uG(o:Org)(r:Reg)(l:List Ct):List Ct:=a5I o r (uT o r l)
end Go.Ds
namespace Go.Ds
open Go.Proofs Go.Proofs.Tryz
variable {H:Heap}
theorem a3o(a b:Nat)(h:a<18446744073709551616):((a:Nat):Int).fdiv (2^min b (IntKind.bits .u64))=((a>>>b:Nat):Int):=by
 have e:IntKind.bits .u64=64:=rfl
 rw[e]
 have h1:((a:Nat):Int).fdiv (2^min b 64)=((a/2^min b 64:Nat):Int):=by
  rw[Int.fdiv_eq_ediv_of_nonneg _ (by exact Int.le_of_lt (Int.pow_pos (by decide)))]
  simp
 rw[h1,fh]
 by_cases hb:b≤64
 ·rw[ff hb]
 ·rw[Nat.min_eq_right (by omega)]
  have h2:a/2^64=0:=gG (by simpa using h)
  have h3:a/2^b=0:=gG (dO (by simpa using h) (fz (by decide) (show 64≤b by omega)))
  rw[h2,h3]
theorem a1M(n:Nat)(h:n<18446744073709551616):IntKind.wrap .u64 ((BitVec.ofInt (IntKind.bits .u64) (n:Int)&&&BitVec.ofInt (IntKind.bits .u64) 1).toNat:Int)=((n%2:Nat):Int):=by
 have e:(BitVec.ofInt (IntKind.bits .u64) (n:Int)&&&BitVec.ofInt (IntKind.bits .u64) 1).toNat=n%2:=by
  show(BitVec.ofInt 64 (n:Int)&&&BitVec.ofInt 64 1).toNat=n%2
  rw[ik]
  have h1:(BitVec.ofInt 64 (n:Int)).toNat=n:=by
   rw[fA,gS]
   exact fT (by simpa using h)
  have h2:(BitVec.ofInt 64 1).toNat=1:=rfl
  rw[h1,h2,Nat.and_one_is_mod]
 rw[e]
 have:n%2<2:=eR _ (by decide)
 have hh:n%2=0∨n%2=1:=by omega
 rcases hh with h|h<;>rw[h]<;>rfl
theorem tb(a i:Nat):a.testBit i=decide (a>>>i%2=1):=by
 rw[Nat.testBit_eq_decide_div_mod_eq,fh]
theorem wP{a:Nat}(b:Nat)(h:a<18446744073709551616):a>>>b<18446744073709551616:=by
 rw[fh]
 exact Nat.lt_of_le_of_lt (Nat.div_le_self _ _) h
theorem wK(o:Org)(ho:o.In H)(c:Ct):Fn prog 114 [.agg #[.string o.name,o.rv,o.dv,o.cv],.agg #[I c.1,I c.2]] H fun r H'=>r=I (a0H o c)∧St prog H H' []:=by
 have hl:=ho.2.2.2.2.2.2.1
 refine .aD func114 rfl (by kernel_rfl) (m:=36) rfl fun l hn g0 g1=> ?_
 simp(disch:=omega) only[↓RA,RB,simprocAttr,g0]
 refine(sR H).eNew 4 [(.string o.name),o.rv,o.dv,o.cv] rfl rfl (by simp[OC,((sR H).sl ho.1).cells.2.1,((sR H).sl ho.2.2.1).cells.2.1,((sR H).sl ho.2.2.2.2.1).cells.2.1]) mV fun A1 H1 hS1=> ?_
 simp only[RT]at hS1
 simp(disch:=omega) only[↓RA,RB,simprocAttr,g1]
 refine hS1.eNew 2 [I c.1,I c.2] rfl rfl rfl pQ fun A2 H2 hS2=> ?_
 simp only[RT]at hS2
 simp(disch:=omega) only[↓RA,RZ,simprocAttr,hn,hS2.ld 1 rfl]
 refine iO (fun h1=> ?_) (fun h1=> ?_)
 ·simp(disch:=omega) only[↓RA,RZ,simprocAttr,hn,a6J,h1]
  exact⟨by rw[a0H,if_pos (by omega)],hS2.forget⟩
 simp(disch:=omega) only[↓RA,RZ,simprocAttr,hn,hS2.ld 1 rfl,hS2.ld 0 rfl,(hS2.sl ho.2.2.1).len,h1]
 refine iA (fun h2=> ?_) (fun h2=> ?_)
 ·simp(disch:=omega) only[↓RA,RZ,simprocAttr,hn,a6J,h1,h2]
  exact⟨by rw[a0H,if_pos (by omega)],hS2.forget⟩
 obtain⟨j,hj⟩:∃j:Nat,c.1=j:=⟨c.1.toNat,by omega⟩
 have hc:a0H o c=if c.2<(iB o.dvs j).lo∨(iB o.dvs j).hi<c.2 then 23 else 0:=by
  rw[a0H,if_neg (by omega),hj]
  rfl
 rw[hj]at h1 h2
 simp(disch:=omega) only[↓RA,RZ,simprocAttr,hn,hS2.ld 0 rfl,h1,h2,hj]
 simp(disch:=omega) only[↓RA,RZ,simprocAttr,hn,hS2.ld 1 rfl,(hS2.sl ho.2.2.1).idx,(hS2.sl ho.2.2.1).bh,(hS2.sl ho.2.2.1).cC 2,Dvn.cells,h1,h2,hj]
 refine hS2.eNew 2 [I 0,I 0] rfl rfl rfl a3t fun A3 H3 hS3=> ?_
 simp only[RT]at hS3
 simp(disch:=omega) only[↓RA,RZ,simprocAttr,hn,h1,h2,hj]
 refine hS3.aa 2 rfl [I (iB o.dvs j).lo,I (iB o.dvs j).hi] rfl rfl a3t (by simp) fun H4 hS4=> ?_
 simp only[RT]at hS4
 simp(disch:=omega) only[↓RA,RZ,simprocAttr,hn,hS4.ld 1 rfl,hS4.ld 2 rfl,h1,h2,hj]
 refine iO (fun h3=> ?_) (fun h3=> ?_)
 ·simp(disch:=omega) only[↓RA,RZ,simprocAttr,hn,a6J,h1,h2,hj,h3]
  exact⟨by rw[hc,if_pos (by omega)],hS4.forget⟩
 simp(disch:=omega) only[↓RA,RZ,simprocAttr,hn,hS4.ld 1 rfl,hS4.ld 2 rfl,h1,h2,hj,h3]
 refine iA (fun h4=> ?_) (fun h4=> ?_)
 ·simp(disch:=omega) only[↓RA,RZ,simprocAttr,hn,a6J,h1,h2,hj,h3,h4]
  exact⟨by rw[hc,if_pos (by omega)],hS4.forget⟩
 simp(disch:=omega) only[↓RA,RZ,simprocAttr,hn,a6J,h1,h2,hj,h3,h4]
 exact⟨by rw[hc,if_neg (by omega)],hS4.forget⟩
def mA(o:Org)(r:Reg):Int:=if organE o≠0 then organE o else if r.stops.length≠o.dvs.length then 5 else if ∃j,j<o.dvs.length∧iB r.stops j>>>(iB o.dvs j).stops.length≠0 then 3 else if r.cpl>>>o.cpls.length≠0∨r.off>>>o.dvs.length≠0 then 3 else 0
theorem b6g(o:Org)(ho:o.In H)(r:Reg)(sv:Value)(hr:r.In H sv):Fn prog 74 [.agg #[.string o.name,o.rv,o.dv,o.cv],.agg #[sv,.int .u64 r.cpl,.int .u64 r.off]] H fun v H'=>v=I (mA o r)∧St prog H H' []:=by
 have hl:=ho.2.2.2.2.2.2.1
 have hlc:=ho.2.2.2.2.2.2.2
 obtain⟨hr1,hr2,hr3,hr4,hr5⟩:=hr
 refine .aD func74 rfl (by kernel_rfl) (m:=55) rfl fun l hn g0 g1=> ?_
 simp(disch:=omega) only[↓RA,RB,simprocAttr,g0]
 refine(sR H).eNew 4 [(.string o.name),o.rv,o.dv,o.cv] rfl rfl (by simp[OC,((sR H).sl ho.1).cells.2.1,((sR H).sl ho.2.2.1).cells.2.1,((sR H).sl ho.2.2.2.2.1).cells.2.1]) mV fun A1 H1 hS1=> ?_
 simp only[RT]at hS1
 simp(disch:=omega) only[↓RA,RB,simprocAttr,g1]
 refine hS1.eNew 3 [sv,(.int .u64 r.cpl),(.int .u64 r.off)] rfl rfl (by simp[OC,(hS1.sl hr1).cells.2.1]) mP fun A2 H2 hS2=> ?_
 simp only[RT]at hS2
 simp(disch:=omega) only[↓RA,RZ,simprocAttr,hn,hS2.ag 0 rfl]
 refine hS2.cF (yV o (ho.ab hS2)) fun H3 hS3=> ?_
 simp(disch:=omega) only[↓RA,RB,simprocAttr,hn]
 refine iA (fun h1=> ?_) (fun h1=> ?_)
 ·simp(disch:=omega) only[↓RA,RZ,simprocAttr,hn,b2w,h1]
  exact⟨by rw[mA,if_pos h1],hS3.forget⟩
 simp(disch:=omega) only[↓RA,RZ,simprocAttr,hn,hS3.ld 1 rfl,(hS3.sl hr1).len,hS3.ld 0 rfl,(hS3.sl ho.2.2.1).len,h1]
 refine iA (fun h2=> ?_) (fun h2=> ?_)
 ·simp(disch:=omega) only[↓RA,RZ,simprocAttr,hn,b2w,h1,h2]
  exact⟨by rw[mA,if_neg h1,if_pos (by omega)],hS3.forget⟩
 simp(disch:=omega) only[↓RA,RZ,simprocAttr,hn,hS3.ld 0 rfl,(hS3.sl ho.2.2.1).len,h1,h2]
 have hE:mA o r=if ∃j,j<o.dvs.length∧iB r.stops j>>>(iB o.dvs j).stops.length≠0 then 3 else if r.cpl>>>o.cpls.length≠0∨r.off>>>o.dvs.length≠0 then 3 else 0:=by rw[mA,if_neg h1,if_neg (by omega)]
 refine Wp.al (fun n l H'=>l.length=55∧get l 2=(ptr A1 0 4)∧get l 3=(ptr A2 0 3)∧get l 21=o.dv∧get l 22=I o.dvs.length∧∃(j:Nat),(n+j=o.dvs.length∧∀q,q<j→iB r.stops q>>>(iB o.dvs q).stops.length=0)∧get l 23=I j∧St prog H H' [⟨ptr A1 0 4,0,[(.string o.name),o.rv,o.dv,o.cv]⟩,⟨ptr A2 0 3,0,[sv,(.int .u64 r.cpl),(.int .u64 r.off)]⟩]) o.dvs.length ?_ ?_
 ·simp(disch:=omega) only[RB,RC,simprocAttr,hn]
  exact⟨0,⟨by omega,fun q hq=>absurd hq (dL _)⟩,rfl,hS3⟩
 rintro n l H4⟨hn,g2,g3,g21,g22,j,⟨hj,hz⟩,g23,hS4⟩
 have e1:=a3o r.cpl o.cpls.length hr4
 have e2:=a3o r.off o.dvs.length hr5
 simp(disch:=omega) only[↓RA,RB,simprocAttr,hn,g22,g23]
 refine iA (fun q1=> ?_) (fun q1=> ?_)
 ·have hst:=(ho.2.2.2.1 _ (iE (xs:=o.dvs) (j:=j) (by omega))).2.2
  have e3:=a3o (iB r.stops j) (iB o.dvs j).stops.length (hr3 _ (iE (by omega)))
  simp(disch:=omega) only[↓RA,RZ,simprocAttr,hn,g21,g23,(hS4.sl ho.2.2.1).idx,(hS4.sl ho.2.2.1).ag,Dvn.cells,q1]
  refine hS4.eNew 5 [(.string ⟨#[]⟩),(.bool false),I 0,I 0,(.slice none 0 0)] rfl rfl rfl a0X fun A3 H5 hS5=> ?_
  simp only[RT]at hS5
  simp(disch:=omega) only[↓RA,RZ,simprocAttr,hn,q1]
  refine hS5.aa 2 rfl [(.string (iB o.dvs j).name),(.bool (iB o.dvs j).pedal),I (iB o.dvs j).lo,I (iB o.dvs j).hi,(iB o.dvs j).sv] rfl (by simp[OC,(hS5.sl (ho.2.2.2.1 (iB o.dvs j) (iE (by omega))).1).cells.2.1]) a0X (by simp) fun H6 hS6=> ?_
  simp only[RT]at hS6
  simp(disch:=omega) only[↓RA,RZ,simprocAttr,q1]
  refine Wp.drw jZ (by kernel_rfl) ?_
  simp(disch:=omega) only[↓RA,RZ,simprocAttr,hn,g3,hS6.ld 1 rfl,(hS6.sl hr1).idx,(hS6.sl hr1).ld,one,u64,hS6.ld 2 rfl,(hS6.sl (ho.2.2.2.1 (iB o.dvs j) (iE (by omega))).1).len,e3]
  refine iA (fun q2=> ?_) (fun q2=> ?_)
  ·simp(disch:=omega) only[↓RA,RZ,simprocAttr,hn,b2w,q2]
   exact⟨by rw[hE,if_pos ⟨j,by omega,by omega⟩],hS6.forget⟩
  simp(disch:=omega) only[↓RA,RZ,simprocAttr,hn,g2,g3,g21,g22,g23,q2]
  exact⟨n-1,by omega,j+1,⟨by omega,fun q hq=>by rcases du.1 hq with e|e;(· exact hz q e);(· rw[e];omega)⟩,by simp,hS6.sub (by simp)⟩
 simp(disch:=omega) only[↓RA,RZ,simprocAttr,hn,g2,g3,hS4.ld 1 rfl,hS4.ld 0 rfl,(hS4.sl ho.2.2.2.2.1).len,q1,e1]
 have hno:¬∃j,j<o.dvs.length∧iB r.stops j>>>(iB o.dvs j).stops.length≠0:=by
  rintro⟨q,hq,hne⟩
  exact hne (hz q (by omega))
 rw[if_neg hno]at hE
 clear hno
 refine iO (fun q3=> ?_) (fun q3=> ?_)
 ·simp(disch:=omega) only[↓RA,RZ,simprocAttr,hn,b2w,q1,q3]
  exact⟨by rw[hE,if_pos (by omega)],hS4.forget⟩
 simp(disch:=omega) only[↓RA,RZ,simprocAttr,hn,g2,g3,hS4.ld 1 rfl,hS4.ld 0 rfl,(hS4.sl ho.2.2.1).len,q1,e2,q3]
 refine iA (fun q4=> ?_) (fun q4=> ?_)
 ·simp(disch:=omega) only[↓RA,RZ,simprocAttr,hn,b2w,q1,q3,q4]
  exact⟨by rw[hE,if_pos (by omega)],hS4.forget⟩
 simp(disch:=omega) only[↓RA,RZ,simprocAttr,hn,b2w,q1,q3,q4]
 exact⟨by rw[hE,if_neg (by omega)],hS4.forget⟩
def uD(o:Org)(b:Nat→Nat):Reg:=⟨(List.range o.dvs.length).map fun i=>b (i%3)%2^(iB o.dvs i).stops.length,b 3%2^o.cpls.length,b 4%2^o.dvs.length⟩
theorem a5v(n:Nat)(h:n<18446744073709551616):(BitVec.ofInt (IntKind.bits .u64) (n:Int)).toNat=n:=by
 show(BitVec.ofInt 64 (n:Int)).toNat=n
 rw[fA,gS]
 exact fT (by simpa using h)
theorem b4w(b n:Nat)(h:n≤8)(hb:b<256):IntKind.wrap .u64 ((BitVec.ofInt (IntKind.bits .u64) (b:Int)&&&BitVec.ofInt (IntKind.bits .u64) (IntKind.wrap .u64 (IntKind.wrap .u64 (1*2^min n (IntKind.bits .u64))-1))).toNat:Int)=((b%2^n:Nat):Int):=by
 have key:IntKind.wrap .u64 (IntKind.wrap .u64 (1*2^min n (IntKind.bits .u64))-1)=((2^n-1:Nat):Int):=by
  have:n=0∨n=1∨n=2∨n=3∨n=4∨n=5∨n=6∨n=7∨n=8:=by omega
  rcases this with rfl|rfl|rfl|rfl|rfl|rfl|rfl|rfl|rfl<;>rfl
 have hp:2^n≤2^8:=fz (by decide) h
 have e8:2^8=256:=rfl
 rw[key,ik,a5v b (by omega),a5v _ (by omega),Nat.and_two_pow_sub_one_eq_mod]
 have:b%2^n≤b:=Nat.mod_le _ _
 exact qO _ (by omega) (by omega)
theorem b2P{o:Org}(b:Nat→Nat)(ho:organE o=0):mA o (uD o b)=0:=by
 have hz:∀x n:Nat,(x%2^n)>>>n=0:=fun x n=>by
  rw[fh]
  exact gG (eR _ (Nat.two_pow_pos n))
 unfold mA uD
 rw[if_neg (by rw[ho];simp),if_neg (by simp),if_neg,if_neg (by simp only[hz];simp)]
 rintro⟨j,hj,hne⟩
 simp only at hne
 rw[jR _ j (by simpa using hj)]at hne
 simp only[List.getElem_map,gT,hz,ne_eq,not_true_eq_false]at hne
theorem a9d(o:Org)(ho:o.In H)(h1:o.cpls.length≤3)(h2:o.dvs.length≤3)(h3:∀j,j<o.dvs.length→(iB o.dvs j).stops.length≤3)(b:Nat→Nat)(hb:∀i,b i<256):
 Fn prog 9 [.agg #[.string o.name,o.rv,o.dv,o.cv],.agg #[.int .u8 (b 0),.int .u8 (b 1),.int .u8 (b 2),.int .u8 (b 3),.int .u8 (b 4)]] H fun r H'=>
  ∃sv,r=.agg #[sv,.int .u64 (uD o b).cpl,.int .u64 (uD o b).off]∧St prog H H' [⟨sv,1,((uD o b).stops).flatMap (one u64)⟩]:=by
 have k0:=hb 0
 have k1:=hb 1
 have k2:=hb 2
 have k3:=hb 3
 have k4:=hb 4
 refine .aD func9 rfl (by kernel_rfl) (m:=57) rfl fun l hn g0 g1=> ?_
 simp(disch:=omega) only[↓RA,RB,simprocAttr,g0]
 refine(sR H).eNew 4 [(.string o.name),o.rv,o.dv,o.cv] rfl rfl (by simp[OC,((sR H).sl ho.1).cells.2.1,((sR H).sl ho.2.2.1).cells.2.1,((sR H).sl ho.2.2.2.2.1).cells.2.1]) mV fun A1 H1 hS1=> ?_
 simp only[RT]at hS1
 simp(disch:=omega) only[↓RA,RB,simprocAttr,g1]
 refine hS1.eNew 5 [(.int .u8 (b 0)),(.int .u8 (b 1)),(.int .u8 (b 2)),(.int .u8 (b 3)),(.int .u8 (b 4))] rfl rfl rfl c1I fun A2 H2 hS2=> ?_
 simp only[RT]at hS2
 simp(disch:=omega) only[↓RA,RZ,simprocAttr]
 refine hS2.eNew 3 [(.slice none 0 0),(.int .u64 0),(.int .u64 0)] rfl rfl rfl mP fun A3 H3 hS3=> ?_
 simp only[RT]at hS3
 simp(disch:=omega) only[↓RA,RZ,simprocAttr,hn,hS3.ld 1 rfl,hS3.ld 0 rfl,(hS3.sl ho.2.2.2.2.1).len,(hS3.sl ho.2.2.1).len,b5f]
 refine hS3.eNew 3 [(.slice none 0 0),(.int .u64 0),(.int .u64 0)] rfl rfl rfl mP fun A4 H4 hS4=> ?_
 simp only[RT]at hS4
 simp(disch:=omega) only[↓RA,RB,simprocAttr,hn]
 refine hS4.aa 3 rfl [(.slice none 0 0),_,_] rfl rfl mP (by simp) fun H5 hS5=> ?_
 simp only[RT]at hS5
 simp(disch:=omega) only[↓RA,RB,simprocAttr]
 have m1:=b4w (b 3) o.cpls.length (by omega) (hb 3)
 have m2:=b4w (b 4) o.dvs.length (by omega) (hb 4)
 have hS6:=hS5.nil 0
 simp only[RT]at hS6
 simp only[m1,m2]at hS6
 refine Wp.al (fun n l H'=>l.length=57∧get l 2=(ptr A1 0 4)∧get l 3=(ptr A2 0 5)∧get l 4=(ptr A3 0 3)∧get l 5=(ptr A4 0 3)∧∃(i:Nat)(sv:Value),(n+i=o.dvs.length)∧get l 6=I i∧St prog H H' [⟨ptr A1 0 4,0,[(.string o.name),o.rv,o.dv,o.cv]⟩,⟨ptr A2 0 5,0,[(.int .u8 (b 0)),(.int .u8 (b 1)),(.int .u8 (b 2)),(.int .u8 (b 3)),(.int .u8 (b 4))]⟩,⟨ptr A3 0 3,0,[(.slice none 0 0),(.int .u64 0),(.int .u64 0)]⟩,⟨ptr A4 0 3,0,[sv,.int .u64 (b 3%2^o.cpls.length:Nat),.int .u64 (b 4%2^o.dvs.length:Nat)]⟩,⟨sv,1,((List.range i).map fun i=>b (i%3)%2^(iB o.dvs i).stops.length).flatMap (one u64)⟩]) o.dvs.length ?_ ?_
 ·simp(disch:=omega) only[RB,RC,simprocAttr,hn]
  exact⟨0,_,by omega,rfl,hS6⟩
 rintro n l H6⟨hn,g2,g3,g4,g5,i,sv,hi,g6,hS7⟩
 simp(disch:=omega) only[↓RA,RZ,simprocAttr,hn,g2,g6,hS7.ld 0 rfl,(hS7.sl ho.2.2.1).len]
 refine iA (fun q=> ?_) (fun q=> ?_)
 ·have hi3:(i:Int).tmod 3=((i%3:Nat):Int):=(eK i 3).symm
  have hw:([Value.int .u8 (b 0),.int .u8 (b 1),.int .u8 (b 2),.int .u8 (b 3),.int .u8 (b 4)]:List Value)[i%3]? =some (.int .u8 (b (i%3))):=by
   have:i%3=0∨i%3=1∨i%3=2:=by omega
   rcases this with e|e|e<;>rw[e]<;>rfl
  have hst:=h3 i (by omega)
  have hbi:=hb (i%3)
  have m3:=b4w (b (i%3)) (iB o.dvs i).stops.length (by omega) (hb _)
  simp(disch:=omega) only[↓RA,RC,simprocAttr,q]
  refine Wp.aO jZ [(1,19)] (by kernel_rfl) (by kernel_rfl) ?_
  simp(disch:=omega) only[↓RA,RZ,simprocAttr,hn,g2,g3,g5,g6,hS7.ld 3 rfl,hS7.ld 1 rfl,hw,hS7.ld 0 rfl,(hS7.sl ho.2.2.1).idx,(hS7.sl ho.2.2.1).bh,(hS7.sl ho.2.2.1).ld,Dvn.cells,(hS7.sl (ho.2.2.2.1 (iB o.dvs i) (iE (by omega))).1).len,hi3,m3]
  refine hS7.ai [_] b0h b7Y rfl rfl (by simp[Value.cells]) rfl rfl (by decide) (by decide) fun w1 H7 hS8=> ?_
  simp only[RT]at hS8
  simp(disch:=omega) only[↓RA,RZ,simprocAttr,hn]
  refine hS8.aq 4 rfl (hS8.rd 5 rfl) b0h (by rw[iL (n:=1) (cel:=one u64) (fun _=>rfl)];simp;omega) fun w2 H8 hS9=> ?_
  simp only[RT]at hS9
  simp(disch:=omega) only[↓RA,RZ,simprocAttr,hn,g5]
  refine hS9.aa 3 rfl [w2] (by rw[(hS9.rd 4 rfl).cells.1]) (by simp[(hS9.rd 4 rfl).cells.2.1]) b8y (by simp) fun H9 hS10=> ?_
  simp only[RT]at hS10
  simp(disch:=omega) only[↓RA,RZ,simprocAttr,hn,g2,g3,g4,g5,g6,hS8.ld 3 rfl]
  refine⟨n-1,by omega,i+1,w2,by omega,rfl,?_⟩
  rw[ez,dA,dN]
  exact hS10.pick [0,1,2,3,4] (by decide) rfl
 simp(disch:=omega) only[↓RA,RZ,simprocAttr,hn,g4,g5,hS7.ag 3 rfl,q]
 refine hS7.aa 2 rfl [sv,(.int .u64 (b 3%2^o.cpls.length:Nat)),(.int .u64 (b 4%2^o.dvs.length:Nat))] rfl (by simp[OC,(hS7.rd 4 rfl).cells.2.1]) mP (by simp) fun H10 hS11=> ?_
 simp only[RT]at hS11
 simp(disch:=omega) only[↓RA,RZ,simprocAttr,g4,tR9,hS11.ag 2 rfl,q]
 have hii:i=o.dvs.length:=by omega
 subst hii
 exact⟨sv,rfl,hS11.pick [4] (by decide) rfl⟩
end Go.Ds
namespace Go.Ds
open Go.Proofs Go.Proofs.Tryz
variable {H:Heap}
set_option maxRecDepth 10000
theorem RdAt.sub_self{v:Value}{size n:Nat}{cs:List Value}(h:RdAt H v (size+1) cs)(hn:cs.length=n*(size+1)):kU v (size+1) 0 n=v:=by
 rcases h with⟨rfl,_⟩|⟨A,i,e,row,ty,rw,lo,ver,m,_,_,_,_,_,h6,rfl⟩
 ·rfl
 ·have:m=n:=fG (fH size) (h6.symm.trans hn)
  subst this
  simp[kU]
theorem tT{v:Value}{xs:List (Int×Int)}{rest:List Value}(h:RdAt H v 2 (pr xs++rest)):RdAt H (kU v 2 0 xs.length) 2 (pr xs):=by
 by_cases h0:pr xs++rest=[]
 ·have hx:xs.length=0:=by
   have:=congrArg List.length h0
   rw[dh,iF,ey]at this
   omega
  have e:=RdAt.sub_self (size:=1) (n:=0) h (by rw[h0];rfl)
  obtain rfl:=fx.1 hx
  show RdAt H (kU v 2 0 0) 2 []
  rw[show kU v 2 0 0=v from e]
  rwa [h0]at h
 ·have h5:=RdAt.sub h 0 xs.length (by rw[dh,iF];omega) h0
  rw[Nat.zero_mul,gY,show xs.length*2=(pr xs).length from(iF xs).symm,List.take_left' rfl]at h5
  exact h5
theorem uZ{H0:Heap}{v:Value}{xs:List (Int×Int)}{rest:List Value}(h:St prog H0 H [⟨v,2,pr xs++rest⟩]):Slx 2 jS H (fun B=>H0.length≤B) (kU v 2 0 xs.length) xs:=by
 refine⟨⟨tT (h.rd 0 rfl),kE,by decide⟩,fun b hb=> ?_⟩
 rcases h.new _ (dU ..) b (uI hb)with h|h
 ·exact h
 ·exact h.elim
theorem c0Y:a3E prog 50=some (1+1):=by kernel_rfl
theorem c3K:a3E prog 57=some (1+1):=by kernel_rfl
theorem a5w{B:Base}{v:Value}{es:List (Int×Int)}(hS:St prog B H [⟨v,2,pr es⟩])(hl:es.length<100000000000):
 Fn prog 118 [v] H fun r H'=>∃rest:List Value,r=kU v 2 0 (dd es).length∧St prog B H' [⟨v,2,pr (dd es)++rest⟩]:=by
 refine .aY func118 rfl (by kernel_rfl) (m:=61) rfl fun l hn g0=> ?_
 simp(disch:=omega) only[↓RA,RZ,simprocAttr,hn,g0,(hS.av 0 rfl (fun _=>rfl)).len]
 refine iA (fun h=> ?_) (fun h=> ?_)
 ·have hd:=tA es es.length (dm _) fun j h1 h2=>by omega
  rw[ek]at hd
  simp(disch:=omega) only[↓RA,RZ,simprocAttr,hn,g0,b3L,h]
  exact⟨[],by unfold dd;rw[hd];exact(RdAt.sub_self (size:=1) (hS.rd 0 rfl) (iF es)).symm,by unfold dd;rw[hd,dr];exact hS⟩
 simp(disch:=omega) only[↓RA,RZ,simprocAttr,h]
 refine Wp.al (fun n l H'=>l.length=61∧get l 0=v∧∃(k:Nat),(0<k∧n+k=es.length∧∀j,0<j→j<k→iB es j≠iB es (j-1))∧get l 3=I k∧St prog B H' [⟨v,2,pr es⟩]) (es.length-1) ?_ ?_
 ·simp(disch:=omega) only[RB,RC,simprocAttr,hn,g0]
  exact⟨1,⟨by omega,by omega,fun j h1 h2=>by omega⟩,rfl,hS⟩
 rintro n l H1⟨hn,g0,k,⟨hk0,hk,hdis⟩,g3,hS1⟩
 simp(disch:=omega) only[↓RA,RZ,simprocAttr,hn,g0,g3,(hS1.av 0 rfl (fun _=>rfl)).len]
 refine iA (fun h2=> ?_) (fun h2=> ?_)
 ·have hkl:k<es.length:=by omega
  have hpre:(k:Int)-1=((k-1:Nat):Int):=by omega
  simp(disch:=omega) only[↓RA,RC,simprocAttr,h2]
  refine Wp.drw jZ (by kernel_rfl) ?_
  simp(disch:=omega) only[↓RA,RZ,simprocAttr,hn,g0,g3,(hS1.av 0 rfl (fun _=>rfl)).idx,(hS1.av 0 rfl (fun _=>rfl)).ag,jS,hpre]
  refine iA (fun h3=> ?_) (fun h3=> ?_)
  ·have h3:iB es k=iB es (k-1):=gz h3.1 h3.2
   have hlen:(pr es).length=es.length*(1+1):=iF es
   have hpos:0<es.length:=by omega
   have hdk:=tA es k (by omega) hdis
   have hdk1:yM es (k+1)=es.take k:=by rw[sB,hdk,if_neg (by rintro(h4|h4);omega;exact h4 h3),dr]
   have hrow:St prog B H1 [⟨v,2,pr (yM es (k+1)++es.drop k)⟩]:=by rw[hdk1,fL];exact hS1
   have hdl:(yM es (k+1)).length=k:=by rw[hdk1,eI];omega
   simp(disch:=omega) only[↓RA,RZ,simprocAttr,hn,g0,g3,(hS1.av 0 rfl (fun _=>rfl)).aL,h3]
   refine Wp.al (fun n l H'=>l.length=61∧get l 0=v∧∃k2:Nat,(0<k2∧n+k+k2=es.length∧(yM es (k+k2)).length<k+k2)∧get l 3=I (yM es (k+k2)).length∧get l 4=kU v 2 k (es.length-k)∧get l 5=I k2∧St prog B H' [⟨v,2,pr (yM es (k+k2)++es.drop (yM es (k+k2)).length)⟩]) (es.length-k-1) ?_ ?_
   ·simp(disch:=omega) only[RB,RC,simprocAttr,hn,g0,g3]
    refine⟨1,⟨by omega,by omega,by omega⟩,by rw[hdl],by congr 1;omega,rfl,?_⟩
    rw[hdl]
    exact hrow
   clear hrow hdk hdk1 hdl hdis
   rintro n l H9⟨hn,g0,k2,⟨hk20,hk2,hlt⟩,g3,g4,g5,hS9⟩
   have hsucc:=sB es (k+k2)
   generalize hD:yM es (k+k2)=D at g3 hlt hS9 hsucc
   have hrl:(D++es.drop D.length).length=es.length:=by rw[dh,eD];omega
   have hv:Sl 2 jS H9 v (D++es.drop D.length):=hS9.av 0 rfl kE
   have hat:∀j,D.length≤j→iB (D++es.drop D.length) j=iB es j:=fun j hj=>by
    unfold iB
    rw[dg,dZ hj,dH,dg]
    congr 2;omega
   have hsub:Sl 2 jS H9 (kU v 2 k ((D++es.drop D.length).length-k)) ((D++es.drop D.length).drop k):=hv.cE k (by omega) (by omega)
   rw[hrl]at hsub
   have hsl:((D++es.drop D.length).drop k).length=es.length-k:=by rw[eD,hrl]
   have hsat:∀j,D.length≤k+j→iB ((D++es.drop D.length).drop k) j=iB es (k+j):=fun j hj=>by
    rw[←hat (k+j) hj]
    unfold iB
    rw[dg,dH,dg]
   have hbd:((es.length-k:Nat):Int)=(es.length:Int)-k:=by omega
   simp(disch:=omega) only[↓RA,RZ,simprocAttr,hn,g4,g5,hsub.len,hsl,hbd]
   refine iA (fun h4=> ?_) (fun h4=> ?_)
   ·have hj:k+k2<es.length:=by omega
    have hpre2:(k2:Int)-1=((k2-1:Nat):Int):=by omega
    have e1:=hsat k2 (by omega)
    have e2:=hsat (k2-1) (by omega)
    rw[show k+(k2-1)=k+k2-1 from by omega]at e2
    simp(disch:=omega) only[↓RA,RC,simprocAttr,h4]
    refine Wp.drw jZ (by kernel_rfl) ?_
    simp(disch:=omega) only[↓RA,RZ,simprocAttr,hn,g4,g5,hsub.idx,hsub.ag,jS,hpre2,e1,e2]
    refine iA (fun h5=> ?_) (fun h5=> ?_)
    ·have hne:iB es (k+k2)≠iB es (k+k2-1):=fun e=>h5 (by rw[e];exact⟨rfl,rfl⟩)
     rw[if_pos (.inr hne)]at hsucc
     simp(disch:=omega) only[↓RA,RZ,simprocAttr,hn,g0,g3,g4,g5,hsub.idx,hsub.ag,jS,e1,h5]
     simp(disch:=omega) only[↓RA,RZ,simprocAttr,hn,(hS9.av 0 rfl (fun _=>rfl)).idx,h5]
     refine hS9.aR 0 rfl [I (iB es (k+k2)).1,I (iB es (k+k2)).2] rfl rfl pQ (by simp) (by rw[iF,hrl];simp;omega) fun H2 hS2=> ?_
     simp only[RT]at hS2
     simp(disch:=omega) only[↓RA,RZ,simprocAttr,hn,g0,g3,g4,g5,h5]
     refine⟨n-1,by omega,k2+1,?_⟩
     rw[show k+(k2+1)=k+k2+1 from by omega,hsucc]
     refine⟨⟨by omega,by omega,by simp;omega⟩,by simp,by simp,?_⟩
     have e3:pr (D++[iB es (k+k2)]++es.drop (D++[iB es (k+k2)]).length)=((pr (D++es.drop D.length)).set (D.length*2) (I (iB es (k+k2)).1)).set (D.length*2+1) (I (iB es (k+k2)).2):=by
      have hx:es.drop D.length=iB es D.length::es.drop (D.length+1):=by
       rw[jR es _ (by omega)]
       exact eQ (by omega)
      rw[hx,dh,gp,jN,jN,jN]
      have e4:pr (iB es D.length::es.drop (D.length+1))=I (iB es D.length).1::I (iB es D.length).2::pr (es.drop (D.length+1)):=rfl
      have e5:pr [iB es (k+k2)]=[I (iB es (k+k2)).1,I (iB es (k+k2)).2]:=rfl
      have e6:(pr D).length=D.length*2:=iF D
      rw[e4,e5,dX _ _ (by omega),dX _ _ (by omega),e6,gF,fy]
      simp
     rw[e3]
     exact hS2
    have heq:iB es (k+k2)=iB es (k+k2-1):=by
     have h6:=dG.1 h5
     exact gz h6.1 h6.2
    rw[if_neg (by rintro(h6|h6);omega;exact h6 heq),dr]at hsucc
    simp(disch:=omega) only[↓RA,RZ,simprocAttr,hn,g0,g3,g4,g5,h5]
    refine⟨n-1,by omega,k2+1,?_⟩
    rw[show k+(k2+1)=k+k2+1 from by omega,hsucc]
    exact⟨⟨by omega,by omega,by omega⟩,rfl,by simp,hS9⟩
   have hke:k+k2=es.length:=by omega
   rw[hke]at hD
   have hcl:(pr (D++es.drop D.length)).length=es.length*(1+1):=by rw[iF,hrl]
   have hDn:D.length≤es.length:=by omega
   simp(disch:=omega) only[↓RA,RZ,simprocAttr,hn,g0,g3,(hS9.av 0 rfl (fun _=>rfl)).aL,h4]
   rw[show(((D++es.drop D.length).length:Int)-D.length).toNat=es.length-D.length from by rw[hrl];omega]
   refine hS9.bq (size:=1) 0 rfl D.length (es.length-D.length) (by rw[hcl];omega) (by
    intro e
    have h2:(pr (D++es.drop D.length)).length=0:=by rw[e];rfl
    rw[iF,hrl]at h2;omega) c0Y fun z H3 hz hSc=> ?_
   simp only[RT]at hSc
   have e3:iZ (pr (D++es.drop D.length)) (D.length*2) z=pr D++z:=by
    rw[jN,show D.length*2=(pr D).length from(iF D).symm,mC z (pr D) (pr (es.drop D.length)) (by rw[iF,eD];omega)]
    rw[gh (by rw[iF,eD];omega),dr]
   rw[show D.length*(1+1)=D.length*2 from rfl,e3]at hSc
   have hw:RdAt H3 v (1+1) (pr D++z):=hSc.rd 0 rfl
   have hwl:(pr D++z).length=es.length*(1+1):=by rw[dh,iF,hz];omega
   simp(disch:=omega) only[↓RA,RZ,simprocAttr,hn,g0,g3,hw.aM hwl,b3L,h4]
   exact⟨z,by unfold dd;rw[hD],by unfold dd;rw[hD];exact hSc⟩
  have hne:iB es k≠iB es (k-1):=fun e=>h3 (by rw[e];exact⟨rfl,rfl⟩)
  simp(disch:=omega) only[↓RA,RZ,simprocAttr,hn,g0,g3,h3]
  refine⟨n-1,by omega,k+1,⟨by omega,by omega,fun j h4 h5=> ?_⟩,by simp,hS1⟩
  by_cases e:j=k
  ·rw[e];exact hne
  ·exact hdis j h4 (by omega)
 have hke:k=es.length:=by omega
 have hd:=tA es es.length (dm _) (hke▸hdis)
 rw[ek]at hd
 simp(disch:=omega) only[↓RA,RZ,simprocAttr,hn,g0,b3L,h2]
 exact⟨[],by unfold dd;rw[hd];exact(RdAt.sub_self (size:=1) (hS.rd 0 rfl) (iF es)).symm,by unfold dd;rw[hd,dr];exact hS1⟩
theorem a7p{B:Base}{v:Value}{es:List (Int×Int)}(hS:St prog B H [⟨v,2,pr es⟩])(hl:es.length<100000000000):
 Fn prog 118 [v] H fun r H'=>∃rest:List Value,(∀b,kI r=some b→kI v=some b)∧(∀H2,RdAt H2 v 2 (pr (dd es)++rest)→RdAt H2 r 2 (pr (dd es)))∧St prog B H' [⟨v,2,pr (dd es)++rest⟩]:=
 (a5w hS hl).mono fun _ _⟨rest,e,h⟩=>⟨rest,fun _ h=>uI (e▸h),fun _ h=>e▸tT h,h⟩
theorem yW{B:Base}{v:Value}{es:List (Int×Int)}(hS:St prog B H [⟨v,2,pr es⟩])(hl:es.length<100000000000):
 Fn prog 57 [v] H fun r H'=>∃rest:List Value,r=kU v 2 0 (dd es).length∧St prog B H' [⟨v,2,pr (dd es)++rest⟩]:=by
 refine .aY func57 rfl (by kernel_rfl) (m:=61) rfl fun l hn g0=> ?_
 simp(disch:=omega) only[↓RA,RZ,simprocAttr,hn,g0,(hS.av 0 rfl (fun _=>rfl)).len]
 refine iA (fun h=> ?_) (fun h=> ?_)
 ·have hd:=tA es es.length (dm _) fun j h1 h2=>by omega
  rw[ek]at hd
  simp(disch:=omega) only[↓RA,RZ,simprocAttr,hn,g0,c1M,h]
  exact⟨[],by unfold dd;rw[hd];exact(RdAt.sub_self (size:=1) (hS.rd 0 rfl) (iF es)).symm,by unfold dd;rw[hd,dr];exact hS⟩
 simp(disch:=omega) only[↓RA,RZ,simprocAttr,h]
 refine Wp.al (fun n l H'=>l.length=61∧get l 0=v∧∃(k:Nat),(0<k∧n+k=es.length∧∀j,0<j→j<k→iB es j≠iB es (j-1))∧get l 3=I k∧St prog B H' [⟨v,2,pr es⟩]) (es.length-1) ?_ ?_
 ·simp(disch:=omega) only[RB,RC,simprocAttr,hn,g0]
  exact⟨1,⟨by omega,by omega,fun j h1 h2=>by omega⟩,rfl,hS⟩
 rintro n l H1⟨hn,g0,k,⟨hk0,hk,hdis⟩,g3,hS1⟩
 simp(disch:=omega) only[↓RA,RZ,simprocAttr,hn,g0,g3,(hS1.av 0 rfl (fun _=>rfl)).len]
 refine iA (fun h2=> ?_) (fun h2=> ?_)
 ·have hkl:k<es.length:=by omega
  have hpre:(k:Int)-1=((k-1:Nat):Int):=by omega
  simp(disch:=omega) only[↓RA,RC,simprocAttr,h2]
  refine Wp.drw jZ (by kernel_rfl) ?_
  simp(disch:=omega) only[↓RA,RZ,simprocAttr,hn,g0,g3,(hS1.av 0 rfl (fun _=>rfl)).idx,(hS1.av 0 rfl (fun _=>rfl)).ag,jS,hpre]
  refine iA (fun h3=> ?_) (fun h3=> ?_)
  ·have h3:iB es k=iB es (k-1):=gz h3.1 h3.2
   have hlen:(pr es).length=es.length*(1+1):=iF es
   have hpos:0<es.length:=by omega
   have hdk:=tA es k (by omega) hdis
   have hdk1:yM es (k+1)=es.take k:=by rw[sB,hdk,if_neg (by rintro(h4|h4);omega;exact h4 h3),dr]
   have hrow:St prog B H1 [⟨v,2,pr (yM es (k+1)++es.drop k)⟩]:=by rw[hdk1,fL];exact hS1
   have hdl:(yM es (k+1)).length=k:=by rw[hdk1,eI];omega
   simp(disch:=omega) only[↓RA,RZ,simprocAttr,hn,g0,g3,(hS1.av 0 rfl (fun _=>rfl)).aL,h3]
   refine Wp.al (fun n l H'=>l.length=61∧get l 0=v∧∃k2:Nat,(0<k2∧n+k+k2=es.length∧(yM es (k+k2)).length<k+k2)∧get l 3=I (yM es (k+k2)).length∧get l 4=kU v 2 k (es.length-k)∧get l 5=I k2∧St prog B H' [⟨v,2,pr (yM es (k+k2)++es.drop (yM es (k+k2)).length)⟩]) (es.length-k-1) ?_ ?_
   ·simp(disch:=omega) only[RB,RC,simprocAttr,hn,g0,g3]
    refine⟨1,⟨by omega,by omega,by omega⟩,by rw[hdl],by congr 1;omega,rfl,?_⟩
    rw[hdl]
    exact hrow
   clear hrow hdk hdk1 hdl hdis
   rintro n l H9⟨hn,g0,k2,⟨hk20,hk2,hlt⟩,g3,g4,g5,hS9⟩
   have hsucc:=sB es (k+k2)
   generalize hD:yM es (k+k2)=D at g3 hlt hS9 hsucc
   have hrl:(D++es.drop D.length).length=es.length:=by rw[dh,eD];omega
   have hv:Sl 2 jS H9 v (D++es.drop D.length):=hS9.av 0 rfl kE
   have hat:∀j,D.length≤j→iB (D++es.drop D.length) j=iB es j:=fun j hj=>by
    unfold iB
    rw[dg,dZ hj,dH,dg]
    congr 2;omega
   have hsub:Sl 2 jS H9 (kU v 2 k ((D++es.drop D.length).length-k)) ((D++es.drop D.length).drop k):=hv.cE k (by omega) (by omega)
   rw[hrl]at hsub
   have hsl:((D++es.drop D.length).drop k).length=es.length-k:=by rw[eD,hrl]
   have hsat:∀j,D.length≤k+j→iB ((D++es.drop D.length).drop k) j=iB es (k+j):=fun j hj=>by
    rw[←hat (k+j) hj]
    unfold iB
    rw[dg,dH,dg]
   have hbd:((es.length-k:Nat):Int)=(es.length:Int)-k:=by omega
   simp(disch:=omega) only[↓RA,RZ,simprocAttr,hn,g4,g5,hsub.len,hsl,hbd]
   refine iA (fun h4=> ?_) (fun h4=> ?_)
   ·have hj:k+k2<es.length:=by omega
    have hpre2:(k2:Int)-1=((k2-1:Nat):Int):=by omega
    have e1:=hsat k2 (by omega)
    have e2:=hsat (k2-1) (by omega)
    rw[show k+(k2-1)=k+k2-1 from by omega]at e2
    simp(disch:=omega) only[↓RA,RC,simprocAttr,h4]
    refine Wp.drw jZ (by kernel_rfl) ?_
    simp(disch:=omega) only[↓RA,RZ,simprocAttr,hn,g4,g5,hsub.idx,hsub.ag,jS,hpre2,e1,e2]
    refine iA (fun h5=> ?_) (fun h5=> ?_)
    ·have hne:iB es (k+k2)≠iB es (k+k2-1):=fun e=>h5 (by rw[e];exact⟨rfl,rfl⟩)
     rw[if_pos (.inr hne)]at hsucc
     simp(disch:=omega) only[↓RA,RZ,simprocAttr,hn,g0,g3,g4,g5,hsub.idx,hsub.ag,jS,e1,h5]
     simp(disch:=omega) only[↓RA,RZ,simprocAttr,hn,(hS9.av 0 rfl (fun _=>rfl)).idx,h5]
     refine hS9.aR 0 rfl [I (iB es (k+k2)).1,I (iB es (k+k2)).2] rfl rfl rB (by simp) (by rw[iF,hrl];simp;omega) fun H2 hS2=> ?_
     simp only[RT]at hS2
     simp(disch:=omega) only[↓RA,RZ,simprocAttr,hn,g0,g3,g4,g5,h5]
     refine⟨n-1,by omega,k2+1,?_⟩
     rw[show k+(k2+1)=k+k2+1 from by omega,hsucc]
     refine⟨⟨by omega,by omega,by simp;omega⟩,by simp,by simp,?_⟩
     have e3:pr (D++[iB es (k+k2)]++es.drop (D++[iB es (k+k2)]).length)=((pr (D++es.drop D.length)).set (D.length*2) (I (iB es (k+k2)).1)).set (D.length*2+1) (I (iB es (k+k2)).2):=by
      have hx:es.drop D.length=iB es D.length::es.drop (D.length+1):=by
       rw[jR es _ (by omega)]
       exact eQ (by omega)
      rw[hx,dh,gp,jN,jN,jN]
      have e4:pr (iB es D.length::es.drop (D.length+1))=I (iB es D.length).1::I (iB es D.length).2::pr (es.drop (D.length+1)):=rfl
      have e5:pr [iB es (k+k2)]=[I (iB es (k+k2)).1,I (iB es (k+k2)).2]:=rfl
      have e6:(pr D).length=D.length*2:=iF D
      rw[e4,e5,dX _ _ (by omega),dX _ _ (by omega),e6,gF,fy]
      simp
     rw[e3]
     exact hS2
    have heq:iB es (k+k2)=iB es (k+k2-1):=by
     have h6:=dG.1 h5
     exact gz h6.1 h6.2
    rw[if_neg (by rintro(h6|h6);omega;exact h6 heq),dr]at hsucc
    simp(disch:=omega) only[↓RA,RZ,simprocAttr,hn,g0,g3,g4,g5,h5]
    refine⟨n-1,by omega,k2+1,?_⟩
    rw[show k+(k2+1)=k+k2+1 from by omega,hsucc]
    exact⟨⟨by omega,by omega,by omega⟩,rfl,by simp,hS9⟩
   have hke:k+k2=es.length:=by omega
   rw[hke]at hD
   have hcl:(pr (D++es.drop D.length)).length=es.length*(1+1):=by rw[iF,hrl]
   have hDn:D.length≤es.length:=by omega
   simp(disch:=omega) only[↓RA,RZ,simprocAttr,hn,g0,g3,(hS9.av 0 rfl (fun _=>rfl)).aL,h4]
   rw[show(((D++es.drop D.length).length:Int)-D.length).toNat=es.length-D.length from by rw[hrl];omega]
   refine hS9.bq (size:=1) 0 rfl D.length (es.length-D.length) (by rw[hcl];omega) (by
    intro e
    have h2:(pr (D++es.drop D.length)).length=0:=by rw[e];rfl
    rw[iF,hrl]at h2;omega) c3K fun z H3 hz hSc=> ?_
   simp only[RT]at hSc
   have e3:iZ (pr (D++es.drop D.length)) (D.length*2) z=pr D++z:=by
    rw[jN,show D.length*2=(pr D).length from(iF D).symm,mC z (pr D) (pr (es.drop D.length)) (by rw[iF,eD];omega)]
    rw[gh (by rw[iF,eD];omega),dr]
   rw[show D.length*(1+1)=D.length*2 from rfl,e3]at hSc
   have hw:RdAt H3 v (1+1) (pr D++z):=hSc.rd 0 rfl
   have hwl:(pr D++z).length=es.length*(1+1):=by rw[dh,iF,hz];omega
   simp(disch:=omega) only[↓RA,RZ,simprocAttr,hn,g0,g3,hw.aM hwl,c1M,h4]
   exact⟨z,by unfold dd;rw[hD],by unfold dd;rw[hD];exact hSc⟩
  have hne:iB es k≠iB es (k-1):=fun e=>h3 (by rw[e];exact⟨rfl,rfl⟩)
  simp(disch:=omega) only[↓RA,RZ,simprocAttr,hn,g0,g3,h3]
  refine⟨n-1,by omega,k+1,⟨by omega,by omega,fun j h4 h5=> ?_⟩,by simp,hS1⟩
  by_cases e:j=k
  ·rw[e];exact hne
  ·exact hdis j h4 (by omega)
 have hke:k=es.length:=by omega
 have hd:=tA es es.length (dm _) (hke▸hdis)
 rw[ek]at hd
 simp(disch:=omega) only[↓RA,RZ,simprocAttr,hn,g0,c1M,h2]
 exact⟨[],by unfold dd;rw[hd];exact(RdAt.sub_self (size:=1) (hS.rd 0 rfl) (iF es)).symm,by unfold dd;rw[hd,dr];exact hS1⟩
theorem a6a{B:Base}{v:Value}{es:List (Int×Int)}(hS:St prog B H [⟨v,2,pr es⟩])(hl:es.length<100000000000):
 Fn prog 57 [v] H fun r H'=>∃rest:List Value,(∀b,kI r=some b→kI v=some b)∧(∀H2,RdAt H2 v 2 (pr (dd es)++rest)→RdAt H2 r 2 (pr (dd es)))∧St prog B H' [⟨v,2,pr (dd es)++rest⟩]:=
 (yW hS hl).mono fun _ _⟨rest,e,h⟩=>⟨rest,fun _ h=>uI (e▸h),fun _ h=>e▸tT h,h⟩
end Go.Ds
namespace Go.Ds
open Go.Proofs Go.Proofs.Tryz
variable {H:Heap}
theorem a7H(a:Int):Fn prog 88 [I a] H fun r H'=>r=.bool false∧St prog H H' []:=by
 refine .aY func88 rfl (by kernel_rfl) (m:=6) rfl fun l hn g0=> ?_
 simp(disch:=omega) only[↓RA,RZ,simprocAttr,hn,g0,c5o]
 exact .refl _ _
def tD(a b:Int):Int:=if a<b then -1 else if b<a then 1 else 0
theorem vO(a b:Int):Fn prog 52 [I a,I b] H fun r H'=>r=I (tD a b)∧St prog H H' []:=by
 refine .aD func52 rfl (by kernel_rfl) (m:=20) rfl fun l hn g0 g1=> ?_
 simp(disch:=omega) only[↓RA,RZ,simprocAttr,hn,g0]
 refine(sR H).cF (a7H _) fun H1 hS1=> ?_
 simp(disch:=omega) only[↓RA,RZ,simprocAttr,hn,g1]
 refine hS1.cF (a7H _) fun H2 hS2=> ?_
 simp(disch:=omega) only[↓RA,RB,simprocAttr,hn,g0,g1]
 refine iA (fun h=> ?_) (fun h=> ?_)
 ·simp(disch:=omega) only[↓RA,RZ,simprocAttr,hn,c1t,h]
  exact⟨by simp[tD,h],hS2⟩
 simp(disch:=omega) only[↓RA,RZ,simprocAttr,hn,g0,g1,h]
 refine iA (fun h2=> ?_) (fun h2=> ?_)
 ·simp(disch:=omega) only[↓RA,RZ,simprocAttr,hn,c1t,h,h2]
  exact⟨by simp[tD,h,h2],hS2⟩
 simp(disch:=omega) only[↓RA,RZ,simprocAttr,hn,c1t,h,h2]
 exact⟨by simp[tD,h,h2],hS2⟩
def orI:List Int→Int
 | []=>0
 | a::l=>if a=0 then orI l else a
theorem a2o(xs:List Int):∀i,i≤xs.length→(∀j,j<i→iB xs j=0)→orI xs=orI (xs.drop i)
 | 0,_,_=>rfl
 | i+1,hi,h=>by
   rw[a2o xs i (by omega) (fun j hj=>h j (by omega)),tU xs i (by omega),orI,if_pos (h i (by omega))]
theorem b5i(v:Value)(xs:List Int)(hv:Sl 1 (one I) H v xs)(hl:xs.length<1000000):Fn prog 161 [v] H fun r H'=>r=I (orI xs)∧St prog H H' []:=by
 refine .aY func161 rfl (by kernel_rfl) (m:=18) rfl fun l hn g0=> ?_
 simp(disch:=omega) only[↓RA,RZ,simprocAttr,hn,g0,((sR H).sl hv).len]
 refine Wp.al (fun n l H'=>l.length=18∧get l 3=I 0∧get l 6=v∧get l 7=I xs.length∧∃(i:Nat),(n+i=xs.length∧∀j,j<i→iB xs j=0)∧get l 8=I i∧St prog H H' []) xs.length ?_ ?_
 ·simp(disch:=omega) only[RB,RC,simprocAttr,hn]
  exact⟨0,⟨by omega,by simp⟩,rfl,(sR H)⟩
 rintro n l H1⟨hn,g3,g6,g7,i,⟨hi,h0⟩,g8,hS1⟩
 simp(disch:=omega) only[↓RA,RB,simprocAttr,hn,g7,g8]
 refine iA (fun h=> ?_) (fun h=> ?_)
 ·simp(disch:=omega) only[↓RA,RZ,simprocAttr,hn,g3,g6,g8,(hS1.sl hv).idx,(hS1.sl hv).ld,one,h]
  refine iA (fun h2=> ?_) (fun h2=> ?_)
  ·simp(disch:=omega) only[↓RA,RZ,simprocAttr,hn,b9P,h,h2]
   refine⟨?_,hS1⟩
   rw[a2o xs i (by omega) h0,tU xs i (by omega),orI,if_neg h2]
  simp(disch:=omega) only[↓RA,RZ,simprocAttr,hn,g3,g6,g7,g8,h,h2]
  exact⟨n-1,by omega,i+1,⟨by omega,fun j hj=>by by_cases e:j=i;(· subst e;exact dG.1 h2);exact h0 j (by omega)⟩,by simp,hS1⟩
 simp(disch:=omega) only[↓RA,RZ,simprocAttr,hn,g3,b9P,h]
 refine⟨?_,hS1⟩
 rw[a2o xs i (by omega) h0,List.drop_eq_nil_of_le (by omega),orI]
theorem a8K(x y:Int×Int):orI [tD x.1 y.1,tD x.2 y.2]=cf2 x y:=by
 unfold cf2 tD orI orI orI
 split
 ·simp
 ·split
  ·simp
  ·simp
   intro h
   exact h.symm
theorem b9f(x y:Int×Int):Fn prog 117 [.agg #[I x.1,I x.2],.agg #[I y.1,I y.2]] H fun r H'=>r=I (cf2 x y)∧St prog H H' []:=by
 refine .aD func117 rfl (by kernel_rfl) (m:=17) rfl fun l hn g0 g1=> ?_
 simp(disch:=omega) only[↓RA,RB,simprocAttr,g0]
 refine(sR H).eNew 2 [I x.1,I x.2] rfl rfl rfl pQ fun A1 H1 hS1=> ?_
 simp only[RT]at hS1
 simp(disch:=omega) only[↓RA,RB,simprocAttr,g1]
 refine hS1.eNew 2 [I y.1,I y.2] rfl rfl rfl pQ fun A2 H2 hS2=> ?_
 simp only[RT]at hS2
 simp(disch:=omega) only[↓RA,RB,simprocAttr]
 refine Wp.aO jZ [(6,0),(8,0)] (by kernel_rfl) (by kernel_rfl) ?_
 simp(disch:=omega) only[↓RA,RZ,simprocAttr,hn,hS2.ld 0 rfl,hS2.ld 1 rfl]
 refine hS2.cF (vO x.1 y.1) fun H3 hS3=> ?_
 simp(disch:=omega) only[↓RA,RZ,simprocAttr,hn,hS3.ld 0 rfl,hS3.ld 1 rfl]
 refine hS3.cF (vO x.2 y.2) fun H4 hS4=> ?_
 simp(disch:=omega) only[↓RA,RB,simprocAttr,hn]
 refine hS4.ai [I (tD x.1 y.1),I (tD x.2 y.2)] a3d a6j rfl rfl (by simp[Value.cells]) rfl rfl (by decide) (by decide) fun w1 H5 hS5=> ?_
 simp only[RT]at hS5
 simp(disch:=omega) only[↓RA,RZ,simprocAttr,hn]
 refine hS5.cF (b5i w1 [tD x.1 y.1,tD x.2 y.2] (hS5.av 2 rfl (sT _)) (by simp)) fun H6 hS6=> ?_
 simp(disch:=omega) only[↓RA,RZ,simprocAttr,hn,hS2.ld 0 rfl,hS2.ld 1 rfl,c3k]
 exact⟨by rw[a8K],hS6.forget⟩
theorem b7g(x y:Int×Int):Fn prog 120 [.agg #[I x.1,I x.2],.agg #[I y.1,I y.2]] H fun r H'=>r=I (cf2 x y)∧St prog H H' []:=by
 refine .aD func120 rfl (by kernel_rfl) (m:=17) rfl fun l hn g0 g1=> ?_
 simp(disch:=omega) only[↓RA,RB,simprocAttr,g0]
 refine(sR H).eNew 2 [I x.1,I x.2] rfl rfl rfl rB fun A1 H1 hS1=> ?_
 simp only[RT]at hS1
 simp(disch:=omega) only[↓RA,RB,simprocAttr,g1]
 refine hS1.eNew 2 [I y.1,I y.2] rfl rfl rfl rB fun A2 H2 hS2=> ?_
 simp only[RT]at hS2
 simp(disch:=omega) only[↓RA,RB,simprocAttr]
 refine Wp.aO jZ [(6,0),(8,0)] (by kernel_rfl) (by kernel_rfl) ?_
 simp(disch:=omega) only[↓RA,RZ,simprocAttr,hn,hS2.ld 0 rfl,hS2.ld 1 rfl]
 refine hS2.cF (vO x.1 y.1) fun H3 hS3=> ?_
 simp(disch:=omega) only[↓RA,RZ,simprocAttr,hn,hS3.ld 0 rfl,hS3.ld 1 rfl]
 refine hS3.cF (vO x.2 y.2) fun H4 hS4=> ?_
 simp(disch:=omega) only[↓RA,RB,simprocAttr,hn]
 refine hS4.ai [I (tD x.1 y.1),I (tD x.2 y.2)] a3d a6j rfl rfl (by simp[Value.cells]) rfl rfl (by decide) (by decide) fun w1 H5 hS5=> ?_
 simp only[RT]at hS5
 simp(disch:=omega) only[↓RA,RZ,simprocAttr,hn]
 refine hS5.cF (b5i w1 [tD x.1 y.1,tD x.2 y.2] (hS5.av 2 rfl (sT _)) (by simp)) fun H6 hS6=> ?_
 simp(disch:=omega) only[↓RA,RZ,simprocAttr,hn,hS2.ld 0 rfl,hS2.ld 1 rfl,c4b]
 exact⟨by rw[a8K],hS6.forget⟩
theorem b7q(x y:Int×Int):Fn prog 209 [.agg #[I x.1,I x.2],.agg #[I y.1,I y.2]] H fun r H'=>r=I (cf2 x y)∧St prog H H' []:=by
 refine .aD func209 rfl (by kernel_rfl) (m:=17) rfl fun l hn g0 g1=> ?_
 simp(disch:=omega) only[↓RA,RB,simprocAttr,g0]
 refine(sR H).eNew 2 [I x.1,I x.2] rfl rfl rfl rB fun A1 H1 hS1=> ?_
 simp only[RT]at hS1
 simp(disch:=omega) only[↓RA,RB,simprocAttr,g1]
 refine hS1.eNew 2 [I y.1,I y.2] rfl rfl rfl rB fun A2 H2 hS2=> ?_
 simp only[RT]at hS2
 simp(disch:=omega) only[↓RA,RB,simprocAttr]
 refine Wp.aO jZ [(6,0),(8,0)] (by kernel_rfl) (by kernel_rfl) ?_
 simp(disch:=omega) only[↓RA,RZ,simprocAttr,hn,hS2.ld 0 rfl,hS2.ld 1 rfl]
 refine hS2.cF (vO x.1 y.1) fun H3 hS3=> ?_
 simp(disch:=omega) only[↓RA,RZ,simprocAttr,hn,hS3.ld 0 rfl,hS3.ld 1 rfl]
 refine hS3.cF (vO x.2 y.2) fun H4 hS4=> ?_
 simp(disch:=omega) only[↓RA,RB,simprocAttr,hn]
 refine hS4.ai [I (tD x.1 y.1),I (tD x.2 y.2)] a3d a6j rfl rfl (by simp[Value.cells]) rfl rfl (by decide) (by decide) fun w1 H5 hS5=> ?_
 simp only[RT]at hS5
 simp(disch:=omega) only[↓RA,RZ,simprocAttr,hn]
 refine hS5.cF (b5i w1 [tD x.1 y.1,tD x.2 y.2] (hS5.av 2 rfl (sT _)) (by simp)) fun H6 hS6=> ?_
 simp(disch:=omega) only[↓RA,RZ,simprocAttr,hn,hS2.ld 0 rfl,hS2.ld 1 rfl,c2C]
 exact⟨by rw[a8K],hS6.forget⟩
end Go.Ds
namespace Go.Ds
open Go.Proofs
open Go.Shelf Go.RowKit Go.Lib Go.Sort
theorem lt2(x y:Int×Int):ltOf cf2 x y=decide (x.1<y.1∨(x.1=y.1∧x.2<y.2)):=by
 unfold ltOf cf2
 congr 1
 apply propext
 split
 ·omega
 ·split
  ·omega
  ·split
   ·omega
   ·split<;>omega
theorem c3y:SWO (ltOf cf2) where
 irrefl x:=by rw[lt2];simp
 trans x y z h1 h2:=by rw[lt2]at*;simp at*;omega
 ntrans x y z h1 h2:=by rw[lt2]at*;simp at*;omega
theorem c3E(x y:Int×Int)(h1:ltOf cf2 x y=false)(h2:ltOf cf2 y x=false):x=y:=by
 rw[lt2]at*
 simp at h1 h2
 apply gz<;>omega
theorem b6s:(fun x y=> !(ltOf cf2) y x)=le2:=by
 funext x y
 rw[lt2]
 by_cases h:le2 x y=true
 ·rw[h]
  rw[oG]at h
  rw[dM,decide_eq_false_iff_not]
  omega
 ·rw[eM]at h
  rw[h]
  rw[←eM,oG]at h
  rw[Bool.not_eq_false',decide_eq_true_eq]
  omega
def a5p(P:Program)(K kc:FuncId)(sm:Int×Int→Prop):Prop:=∀(kI off cap:Nat)(d:Array (Int×Int))(w:World),(∀x∈d.toList,sm x)→HoldsK jS 2 w kI off d→kI<w.heap.size→d.size<4611686018427387904→
    Calls P K #[.slice (some ⟨kI,off,none⟩) d.size cap,.func (.func kc) #[] #[]] w fun e w'=>e=.returned (.tuple #[])∧∃n os,w'=sortWorldK jS 2 w kI off n (d.toList.mergeSort le2).toArray os
def a2c(P:Program)(K:FuncId):Prop:=∀(p:Option Addr)(cap:Nat)(fv:Value)(w:World),Calls P K #[.slice p 0 cap,fv] w fun e w'=>e=.returned (.tuple #[])∧w'=w
theorem b5N{P:Program}{kc:FuncId}{α:Type}[Inhabited α](val:α→Int×Int)(cf:α→α→Int)(hf:∀x y,Fn P kc [.agg #[I (val x).1,I (val x).2],.agg #[I (val y).1,I (val y).2]] .nil fun r H'=>r=I (cf x y)∧St P (.nil:Heap) H' [])(kI off size:Nat)(w:World):CmpLays P kc #[] (fun x=>jS (val x)) 2 cf kI off size w:=by
 intro m os dk hdk x y
 generalize sortWorldK (fun x=>jS (val x)) 2 w kI off m dk os=W
 obtain⟨_,v,H1,h1,hr,_⟩:=hf x y
 have ha:All2 (V (fun _ _=>none)) [.agg #[I (val x).1,I (val x).2],.agg #[I (val y).1,I (val y).2]] (#[.agg #[I (val x).1,I (val x).2],.agg #[I (val y).1,I (val y).2]]:Array Value).toList:=⟨.of_flat rfl,.of_flat rfl,trivial⟩
 have hc:=CallOk.calls (f:=kc) h1 (HRel.none W) ha
 have hargs:(#[.agg (jS (val x)).toArray,.agg (jS (val y)).toArray]++#[]:Array Value)=#[.agg #[I (val x).1,I (val x).2],.agg #[I (val y).1,I (val y).2]]:=rfl
 rw[hargs]
 refine hc.mono ?_
 rintro e w'⟨ρ',v',rfl,hp,hv⟩
 subst hr
 have hfr:∀b,b<W.heap.size→w'.heap[b]? =W.heap[b]?:=fun b hb=>(hp.frame b hb (by rintro⟨A,e,p,kI,hq,_⟩;cases hq)).1
 refine⟨by rw[hv.ae rfl],w'.drawn-W.drawn,w'.heap.extract W.heap.size w'.heap.size,?_⟩
 have h1:=hp.os
 have h2:=hp.tape
 have h3:=hp.output
 have h4:=hp.size
 clear hp hv
 obtain⟨wh,wt,wd,wo,wu⟩:=W
 obtain⟨ah,at',ad,ao,au⟩:=w'
 simp only at h1 h2 h3 h4 hfr
 simp only[grow,World.drewN,World.mk.injEq]
 refine⟨?_,h2.1,by omega,h1,h3⟩
 apply Array.ext_getElem?
 intro i
 rw[Array.getElem?_append]
 split
 ·exact hfr i (by assumption)
 ·rw[Array.getElem?_extract]
  split
  ·congr 1;omega
  ·rw[Array.getElem?_eq_none (by omega)]
theorem a6p{P:Program}{kc:FuncId}(hf:∀x y,Fn P kc [.agg #[I x.1,I x.2],.agg #[I y.1,I y.2]] .nil fun r H'=>r=I (cf2 x y)∧St P (.nil:Heap) H' [])(kI off size:Nat)(w:World):CmpLays P kc #[] jS 2 cf2 kI off size w:=b5N (fun x=>x) cf2 hf kI off size w
section
variable {P:Program} {H:Heap} {ρ ρ':Rho} {H':Heap} {w w1 w2:World}
theorem Post.cO(h:Post P ρ H w ρ' H' w1)(hsz:w1.heap.size≤w2.heap.size)(hb:∀b,b<w1.heap.size→w2.heap[b]? =w1.heap[b]?)(h1:w2.os=w1.os)(h2:w2.tape=w1.tape∧w1.drawn≤w2.drawn)(h3:w2.output=w1.output):Post P ρ H w ρ' H' w2 where
 le:=h.le
 rel:=h.rel.other hsz fun A e p hp=>hb _ (h.rel.dom _ _ _ hp).2
 len:=h.len
 size:=dI h.size hsz
 os:=h1.trans h.os
 tape:=⟨h2.1.trans h.tape.1,dI h.tape.2 h2.2⟩
 output:=h3.trans h.output
 frame b hlt hw:=by
  obtain⟨e,hw'⟩:=h.frame b hlt hw
  exact⟨(hb b (dO hlt h.size)).trans e,hw'⟩
 loops b r hr:=by
  obtain⟨r',hr'⟩:=h.loops b r hr
  exact⟨r',by rw[hb b (mJ hr')];exact hr'⟩
 img:=h.img
theorem b9S:∀(l:List (Int×Int))(j:Nat),j<l.length*2→(jS (l.toArray[j/2]!))[j%2]! =(pr l).getD j undef:=by
 intro l
 induction l with
 | nil=>intro j hj;simp at hj
 | cons x l ih=>
   intro j hj
   have e:pr (x::l)=I x.1::I x.2::pr l:=rfl
   rw[e]
   match j with
   | 0=>rfl
   | 1=>rfl
   | j+2=>
     have h1:(j+2)/2=j/2+1:=by omega
     have h2:(j+2)%2=j%2:=by omega
     have:=ih j (by simp at hj;omega)
     rw[h1,h2]
     simp only[List.getD_cons_succ]
     rw[←this]
     congr 2
     simp only[List.getElem!_toArray]
     simp
end
theorem V.func0{ρ:Rho}{k:FuncId}{v':Value}(h:V ρ (.func (.func k) #[] #[]) v'):v'=.func (.func k) #[] #[]:=by
 cases h with
 | v1 h=>cases h with
   | c1 h=>cases h with
     | c0 h=>cases h with
       | flat h=>rfl
     | fn ha hb=>
       rename_i a' b'
       have e1:a'=#[]:=by
        obtain⟨l⟩:=a'
        cases l with
        | nil=>rfl
        | cons=>exact ha.elim
       have e2:b'=#[]:=by
        obtain⟨l⟩:=b'
        cases l with
        | nil=>rfl
        | cons=>exact hb.elim
       rw[e1,e2]
theorem a8s(es:List (Int×Int)):kH (pr es)=true:=by
 unfold kH
 rw[dz]
 intro c hc
 obtain⟨x,_,hx⟩:=eC.1 hc
 simp only[jS,eA,eJ,or_false]at hx
 rcases hx with rfl|rfl<;>rfl
set_option maxRecDepth 10000 in
theorem b7G{P:Program}{K kc:FuncId}{sm:Int×Int→Prop}(hso:a5p P K kc sm){H:Heap}{A i lo ver n:Nat}{ty:TypeId}{pre:List Value}{es:List (Int×Int)}(hg:iP H A=some (.cells (pre++pr es) ty true lo ver))(hlo:lo≤i+(pr es).length)(hpre:pre.length=i)
 (hn:(pr es).length=n*2) (hty:iD P ty=some 2) (hl:es.length<100000000000) (h0:es≠[]) (hsm:∀x∈es,sm x):
 CallOk P K [.slice (some ⟨A,i,some (i+(pr es).length)⟩) n 2,.func (.func kc) #[] #[]] H (.tuple #[]) (hset H A (.cells (iZ (pre++pr es) i (pr (wC es))) ty true (pre++pr es).length ver)):=by
 intro k ρ w args' hr ha
 obtain⟨l⟩:=args'
 match l,ha with
 | [x,f],⟨hx,hf,_⟩=>
   obtain rfl:=V.func0 hf
   have hlen:(pre++pr es).length=i+(pr es).length:=by rw[dh,hpre]
   obtain⟨p,c',a,hp,h0',hin,hnc,hac,hpk,rfl⟩:=hx.aw
   rw[iF]at hn
   have hne:0<es.length:=ga.2 h0
   have hnn:n=es.length:=by omega
   subst hnn
   have ha':a=⟨p.b,p.at i,none⟩:=by
    rcases hac with h|h
    ·exact h.1
    ·omega
   subst ha'
   have hp2:ρ A (pre++pr es).length=some p:=by rw[hlen];exact hp
   obtain⟨_,_,hfit,cur,ty',fr,hw,hsz,hfr,hcell⟩:=(hr.cells _ _ _ _ _ _ hg).2 _ _ hp2
   obtain⟨rfl,hd0,_⟩:=hfr rfl
   let d:Array (Int×Int):=es.toArray
   have hds:d.size=es.length:=by simp[d]
   have hfl:=fun j hj=>b9S es j (by simpa using hj)
   have hH:Go.Sort.HoldsK jS 2 w p.b (p.at i) d:=by
    intro j hj
    rw[Go.Sort.size_flatK,hds]at hj
    constructor
    ·have hc:(pre++pr es)[i+j]? =some ((pr es).getD j undef):=by
      rw[dZ (by omega),hpre,fy,dg,dx (by rw[iF];omega)]
      rfl
     obtain⟨c2,hc2,hrel⟩:=hcell (by rw[hlen];exact hlo) (i+j) _ (by rw[hlen,iF];omega) (by omega) hc
     have hsc:jB ((pr es).getD j undef)=true:=by
      have:=a8s es
      unfold kH at this
      rw[dz]at this
      apply this
      rw[dg,dx (by rw[iF];omega)]
      exact gE _
     have:=hrel.az hsc
     subst this
     have hat:p.at (i+j)=p.at i+j:=by unfold Place.at;omega
     rw[hat]at hc2
     simp only[World.cell?,hw]
     rw[Go.Sort.get_flatK _ _ _ _ (by rw[hds];exact hj),hfl j hj]
     exact hc2
    ·simp only[World.frozen?,hw]
     simp
   have hcon:=hso p.b (p.at i) c' d w (by simpa [d]using hsm) hH (hr.dom _ _ _ hp).2 (by rw[hds];omega)
   rw[hds]at hcon
   obtain⟨w1,hrun,hpost⟩:=uA hr hg hp2 h0' (.aG (a8s (wC es))) (by rw[hlen,iF,iF,(pP es).length_eq];omega) (by rw[hlen];exact hlo)
   have hcsz:p.at i+(pr (wC es)).length≤cur.size:=by
    rw[iF,(pP es).length_eq,hsz]
    unfold Place.at
    rw[hlen,iF]at hfit
    omega
   have hst:=run_storeCells_at (P:=P) p.b (p.at i) ty' (pr (wC es)) 0 cur w hw (by simpa using hcsz) (All2.aG (ρ:=ρ) (a8s (wC es))).aW
   rw[hst]at hrun
   injection hrun with _ hw1
   subst hw1
   refine callsIn_wide.2 (hcon.mono ?_)
   rintro e w'⟨rfl,m,os,rfl⟩
   refine⟨ρ,_,rfl,?_,.tuple trivial⟩
   have hsl:(wC es).length=es.length:=(pP es).length_eq
   have hml:((d.toList.mergeSort le2)).length=es.length:=by simp[d]
   have hfs:∀j,j<es.length*2→(Go.Sort.flatK jS 2 (d.toList.mergeSort le2).toArray)[j]! =(pr (wC es)).getD j undef:=fun j hj=>by
    rw[Go.Sort.get_flatK _ _ _ _ (by simpa [d]using hj)]
    exact b9S (d.toList.mergeSort le2) j (by rw[hml];exact hj)
   have hFs:(Go.Sort.flatK jS 2 (d.toList.mergeSort le2).toArray).size=es.length*2:=by simp[d]
   unfold sortWorldK Go.Sort.putRowK
   generalize Go.Sort.flatK jS 2 (d.toList.mergeSort le2).toArray=F at hfs hFs ⊢
   have hlt:=mJ hw
   have hh:∀b,b<w.heap.size→(Go.Sort.grow (Go.Sort.putRow id (Go.Sort.ahead w m) p.b (p.at i) F) os).heap[b]? =(Go.Sort.putRow id (Go.Sort.ahead w m) p.b (p.at i) F).heap[b]?:=fun b hb=>by
    have:b<(Go.Sort.putRow id (Go.Sort.ahead w m) p.b (p.at i) F).heap.size:=by simpa [Go.Sort.putRow,Go.Sort.mapBlock,Go.Sort.ahead]using hb
    unfold Go.Sort.grow
    exact fE this
   refine hpost.cO ?_ ?_ rfl ⟨rfl,Nat.le_add_right _ _⟩ rfl
   ·simp[Go.Sort.grow,Go.Sort.putRow,Go.Sort.mapBlock,Go.Sort.ahead]
   ·intro b hbs
    rw[setRow_size]at hbs
    rw[hh b hbs]
    by_cases e:b=p.b
    ·subst e
     rw[setRow_heap w p.b cur _ ty' (0,0) hw]
     have e2:(Go.Sort.putRow id (Go.Sort.ahead w m) p.b (p.at i) F).heap[p.b]? =some (.cells (Go.Sort.putCells id (p.at i) F cur) ty' (0,0)):=by
      simp[Go.Sort.putRow,Go.Sort.mapBlock,Go.Sort.ahead,gm,hw,Go.Sort.onCells]
     rw[e2]
     congr 2
     apply Array.ext_getElem?
     intro j
     have hseg:=a5H cur.toList (pr (wC es)) (p.at i) j (by simpa using hcsz)
     have e3:((List.take (p.at i+0) cur.toList++pr (wC es)++List.drop (p.at i+0+(pr (wC es)).length) cur.toList).toArray)[j]? =(List.take (p.at i) cur.toList++pr (wC es)++List.drop (p.at i+(pr (wC es)).length) cur.toList)[j]?:=by simp
     rw[e3,hseg]
     simp only[Go.Sort.putCells,Array.getElem?_mapIdx,gk]
     rw[iF,hsl]at hcsz ⊢
     by_cases h1:p.at i≤j∧j<p.at i+es.length*2
     ·rw[if_pos h1]
      have hjc:j<cur.size:=by omega
      rw[fJ hjc]
      simp only[dP]
      rw[if_pos (by rw[hFs];exact h1),hfs _ (by omega),dg,dx (by rw[iF,hsl];omega)]
      rfl
     ·rw[if_neg h1]
      cases hc:cur[j]? with
      | none=>simp
      | some c=>
        simp only[dP]
        rw[if_neg (by rw[hFs];exact h1)]
    ·rw[setRow_other _ _ _ _ e]
     simp[Go.Sort.putRow,Go.Sort.mapBlock,Go.Sort.ahead,gm,eH e]
theorem a2y{P:Program}{K kc:FuncId}{sm:Int×Int→Prop}(hso:a5p P K kc sm)(hno:a2c P K)(hent0:rL P K){H:Heap}{H0:Base}{os:List Ob}(hS:St P H0 H os)(i:Nat){v:Value}{es:List (Int×Int)}(ho:os[i]? =some ⟨v,2,pr es⟩)(hl:es.length<100000000000)(hsm:∀x∈es,sm x){Q:Value→Heap→Prop}
 (h:∀H1,St P H0 H1 (os.set i ⟨v,2,pr (wC es)⟩)→Q (.tuple #[]) H1):xH P K [v,.func (.func kc) #[] #[]] H Q:=by
 have hent:rL P K:=hent0
 by_cases h0:es=[]
 ·subst h0
  refine⟨.tuple #[],H,hent,?_,h H ?_⟩
  ·intro k ρ w args' hr ha
   obtain⟨l⟩:=args'
   match l,ha with
   | [x,f],⟨hx,hf,_⟩=>
     obtain rfl:=V.func0 hf
     have hown:=hS.own _ (dT ho)
     unfold OwnAt at hown
     rw[if_neg (by simp)]at hown
     have hx0:∃p cap,x=.slice p 0 cap:=by
      rcases hown with⟨h2,_⟩|⟨A,j,ty,lo',ver,pre,m,h2,h3,h4,h5,h6,h7⟩
      ·simp only at h2
       subst h2
       rcases hx.ay with⟨_,_,_,rfl⟩|⟨A,j,e,p,c',a,hh,_⟩
       ·exact⟨_,_,rfl⟩
       ·cases hh
      ·simp only at h5 h6
       subst h6
       have hm:m=0:=by have:(pr []).length=0:=rfl;omega
       subst hm
       obtain⟨p,c',a,_,_,_,_,_,_,rfl⟩:=hx.aw
       exact⟨_,_,rfl⟩
     obtain⟨p,cap,rfl⟩:=hx0
     refine callsIn_wide.2 ((hno p cap _ w).mono ?_)
     rintro e w'⟨rfl,rfl⟩
     exact⟨ρ,_,rfl,.refl hr,.tuple trivial⟩
  ·obtain⟨hi,hoi⟩:=dw.1 ho
   have e:wC []=[]:=List.Perm.eq_nil (pP [])
   rw[e,←hoi,gn]
   exact hS
 ·have hown:=hS.own _ (dT ho)
  unfold OwnAt at hown
  rw[if_neg (by simp)]at hown
  have hne:0<es.length:=ga.2 h0
  rcases hown with⟨_,h3⟩|⟨A,j,ty,lo',ver,pre,m,h2,h3,h4,h5,h6,h7⟩
  ·simp only at h3
   have:=congrArg List.length h3
   rw[iF,ey]at this
   omega
  ·simp only at h2 h3 h5 h6
   have hsl:(pr (wC es)).length=(pr es).length:=by rw[iF,iF,(pP es).length_eq]
   have hcall:=b7G hso h2 h3 h4 h5 h7 hl h0 hsm
   rw[←h6]at hcall
   refine⟨_,_,hent,hcall,h _ (hS.put i ho ?_ ?_ ?_ ?_)⟩
   ·unfold OwnAt
    rw[if_neg (by simp)]
    refine .inr ⟨A,j,ty,(pre++pr es).length,ver,pre,m,?_,?_,h4,?_,?_,h7⟩
    ·rw[iR _ (jG h2)]
     have:=mC (pr (wC es)) pre (pr es) (by rw[hsl];exact dm _)
     rw[h4]at this
     rw[this,hsl,List.drop_length,dr]
    ·simp only[dh,h4,hsl];exact dm _
    ·simp only[hsl];exact h5
    ·simp only[hsl];exact h6
   ·rw[jA];exact dm _
   ·intro B' hB hne'
    refine pL fun hh=>hne' ?_
    simp[kI,h6,hh]
   ·intro B' hB
    exact .inl hB
end Go.Ds
namespace Go.Proofs
open Go.Shelf
def Tryz.bF:Go.Shelf.Ren:=⟨fun|6=>55|15=>95|14=>94|28=>140|29=>141|20=>132|21=>133|22=>134|23=>135|24=>136|25=>137|26=>138|27=>139|46=>186|47=>187|48=>188|49=>189|50=>190|57=>225|n=>n,fun|22=>57|24=>60|25=>146|3=>3|39=>123|0=>0|53=>228|55=>39|4=>4|46=>221|45=>220|50=>225|5=>5|9=>9|66=>272|70=>276|76=>312|77=>313|n=>n,fun|n=>n⟩
theorem Tryz.bR:Go.Proofs.SlLaysF0.n6 Tryz.prog Tryz.bF:={
 mixed:=by kernel_rfl
 f6:=⟨Tryz.f55.name,by decide,Tryz.func55.trans (congrArg some (by kernel_rfl))⟩
 f14:=⟨Tryz.f94.name,by decide,Tryz.func94.trans (congrArg some (by kernel_rfl))⟩
 f15:=Tryz.func95.trans (congrArg some (by kernel_rfl))
 f20:=⟨Tryz.f132.name,by decide,Tryz.func132.trans (congrArg some (by kernel_rfl))⟩
 f21:=⟨Tryz.f133.name,by decide,Tryz.func133.trans (congrArg some (by kernel_rfl))⟩
 f22:=⟨Tryz.f134.name,by decide,Tryz.func134.trans (congrArg some (by kernel_rfl))⟩
 f23:=⟨Tryz.f135.name,by decide,Tryz.func135.trans (congrArg some (by kernel_rfl))⟩
 f24:=⟨Tryz.f136.name,by decide,Tryz.func136.trans (congrArg some (by kernel_rfl))⟩
 f25:=⟨Tryz.f137.name,by decide,Tryz.func137.trans (congrArg some (by kernel_rfl))⟩
 f26:=⟨Tryz.f138.name,by decide,Tryz.func138.trans (congrArg some (by kernel_rfl))⟩
 f27:=⟨Tryz.f139.name,by decide,Tryz.func139.trans (congrArg some (by kernel_rfl))⟩
 f28:=Tryz.func140.trans (congrArg some (by kernel_rfl))
 f29:=Tryz.func141.trans (congrArg some (by kernel_rfl))
 f46:=⟨Tryz.f186.name,by decide,Tryz.func186.trans (congrArg some (by kernel_rfl))⟩
 f47:=Tryz.func187.trans (congrArg some (by kernel_rfl))
 f48:=Tryz.func188.trans (congrArg some (by kernel_rfl))
 f49:=⟨Tryz.f189.name,by decide,Tryz.func189.trans (congrArg some (by kernel_rfl))⟩
 f50:=⟨Tryz.f190.name,by decide,Tryz.func190.trans (congrArg some (by kernel_rfl))⟩
 f57:=⟨Tryz.f225.name,by decide,Tryz.func225.trans (congrArg some (by kernel_rfl))⟩
 t0:=Tryz.underlying0
 a0:=Tryz.isAgg0
 z0:=Tryz.sizeOf0
 v0:=Tryz.zeroValue0
 t3:=Tryz.underlying3
 a3:=Tryz.isAgg3
 z3:=Tryz.sizeOf3
 v3:=Tryz.zeroValue3
 t4:=Tryz.underlying4
 a4:=Tryz.isAgg4
 z4:=Tryz.sizeOf4
 v4:=Tryz.zeroValue4
 t5:=Tryz.underlying5
 a5:=Tryz.isAgg5
 z5:=Tryz.sizeOf5
 v5:=Tryz.zeroValue5
 t9:=Tryz.underlying9
 a9:=Tryz.isAgg9
 z9:=Tryz.sizeOf9
 v9:=Tryz.zeroValue9
 t22:=Tryz.underlying57
 a22:=Tryz.isAgg57
 z22:=Tryz.sizeOf57
 v22:=Tryz.zeroValue57
 t25:=Tryz.underlying146
 a25:=Tryz.isAgg146
 z25:=Tryz.sizeOf146
 v25:=Tryz.zeroValue146
 t39:=Tryz.underlying123
 a39:=Tryz.isAgg123
 z39:=Tryz.sizeOf123
 v39:=Tryz.zeroValue123
 t45:=Tryz.underlying220
 a45:=Tryz.isAgg220
 z45:=Tryz.sizeOf220
 v45:=Tryz.zeroValue220
 t46:=Tryz.underlying221
 a46:=Tryz.isAgg221
 z46:=Tryz.sizeOf221
 v46:=Tryz.zeroValue221
 t50:=Tryz.underlying225
 a50:=Tryz.isAgg225
 z50:=Tryz.sizeOf225
 v50:=Tryz.zeroValue225
 t53:=Tryz.underlying228
 a53:=Tryz.isAgg228
 z53:=Tryz.sizeOf228
 v53:=Tryz.zeroValue228
 t55:=Tryz.underlying39
 a55:=Tryz.isAgg39
 z55:=Tryz.sizeOf39
 v55:=Tryz.zeroValue39
 t66:=Tryz.underlying272
 a66:=Tryz.isAgg272
 z66:=Tryz.sizeOf272
 v66:=Tryz.zeroValue272
 t70:=Tryz.underlying276
 a70:=Tryz.isAgg276
 z70:=Tryz.sizeOf276
 v70:=Tryz.zeroValue276
 t76:=Tryz.underlying312
 a76:=Tryz.isAgg312
 z76:=Tryz.sizeOf312
 v76:=Tryz.zeroValue312
 t77:=Tryz.underlying313
 a77:=Tryz.isAgg313
 z77:=Tryz.sizeOf313
 v77:=Tryz.zeroValue313}
def Tryz.bA:Go.Shelf.Ren:=⟨fun|6=>92|15=>95|14=>131|28=>140|29=>141|20=>178|21=>179|22=>180|23=>181|24=>182|25=>183|26=>184|27=>185|46=>222|47=>187|48=>188|49=>223|50=>224|57=>239|n=>n,fun|22=>50|24=>53|25=>180|3=>3|39=>123|0=>0|53=>228|55=>39|4=>4|46=>221|45=>220|50=>225|5=>5|9=>9|66=>272|70=>276|76=>312|77=>313|n=>n,fun|n=>n⟩
theorem Tryz.bH:Go.Proofs.SlLaysF0.n6 Tryz.prog Tryz.bA:={
 mixed:=by kernel_rfl
 f6:=⟨Tryz.f92.name,by decide,Tryz.func92.trans (congrArg some (by kernel_rfl))⟩
 f14:=⟨Tryz.f131.name,by decide,Tryz.func131.trans (congrArg some (by kernel_rfl))⟩
 f15:=Tryz.func95.trans (congrArg some (by kernel_rfl))
 f20:=⟨Tryz.f178.name,by decide,Tryz.func178.trans (congrArg some (by kernel_rfl))⟩
 f21:=⟨Tryz.f179.name,by decide,Tryz.func179.trans (congrArg some (by kernel_rfl))⟩
 f22:=⟨Tryz.f180.name,by decide,Tryz.func180.trans (congrArg some (by kernel_rfl))⟩
 f23:=⟨Tryz.f181.name,by decide,Tryz.func181.trans (congrArg some (by kernel_rfl))⟩
 f24:=⟨Tryz.f182.name,by decide,Tryz.func182.trans (congrArg some (by kernel_rfl))⟩
 f25:=⟨Tryz.f183.name,by decide,Tryz.func183.trans (congrArg some (by kernel_rfl))⟩
 f26:=⟨Tryz.f184.name,by decide,Tryz.func184.trans (congrArg some (by kernel_rfl))⟩
 f27:=⟨Tryz.f185.name,by decide,Tryz.func185.trans (congrArg some (by kernel_rfl))⟩
 f28:=Tryz.func140.trans (congrArg some (by kernel_rfl))
 f29:=Tryz.func141.trans (congrArg some (by kernel_rfl))
 f46:=⟨Tryz.f222.name,by decide,Tryz.func222.trans (congrArg some (by kernel_rfl))⟩
 f47:=Tryz.func187.trans (congrArg some (by kernel_rfl))
 f48:=Tryz.func188.trans (congrArg some (by kernel_rfl))
 f49:=⟨Tryz.f223.name,by decide,Tryz.func223.trans (congrArg some (by kernel_rfl))⟩
 f50:=⟨Tryz.f224.name,by decide,Tryz.func224.trans (congrArg some (by kernel_rfl))⟩
 f57:=⟨Tryz.f239.name,by decide,Tryz.func239.trans (congrArg some (by kernel_rfl))⟩
 t0:=Tryz.underlying0
 a0:=Tryz.isAgg0
 z0:=Tryz.sizeOf0
 v0:=Tryz.zeroValue0
 t3:=Tryz.underlying3
 a3:=Tryz.isAgg3
 z3:=Tryz.sizeOf3
 v3:=Tryz.zeroValue3
 t4:=Tryz.underlying4
 a4:=Tryz.isAgg4
 z4:=Tryz.sizeOf4
 v4:=Tryz.zeroValue4
 t5:=Tryz.underlying5
 a5:=Tryz.isAgg5
 z5:=Tryz.sizeOf5
 v5:=Tryz.zeroValue5
 t9:=Tryz.underlying9
 a9:=Tryz.isAgg9
 z9:=Tryz.sizeOf9
 v9:=Tryz.zeroValue9
 t22:=Tryz.underlying50
 a22:=Tryz.isAgg50
 z22:=Tryz.sizeOf50
 v22:=Tryz.zeroValue50
 t25:=Tryz.underlying180
 a25:=Tryz.isAgg180
 z25:=Tryz.sizeOf180
 v25:=Tryz.zeroValue180
 t39:=Tryz.underlying123
 a39:=Tryz.isAgg123
 z39:=Tryz.sizeOf123
 v39:=Tryz.zeroValue123
 t45:=Tryz.underlying220
 a45:=Tryz.isAgg220
 z45:=Tryz.sizeOf220
 v45:=Tryz.zeroValue220
 t46:=Tryz.underlying221
 a46:=Tryz.isAgg221
 z46:=Tryz.sizeOf221
 v46:=Tryz.zeroValue221
 t50:=Tryz.underlying225
 a50:=Tryz.isAgg225
 z50:=Tryz.sizeOf225
 v50:=Tryz.zeroValue225
 t53:=Tryz.underlying228
 a53:=Tryz.isAgg228
 z53:=Tryz.sizeOf228
 v53:=Tryz.zeroValue228
 t55:=Tryz.underlying39
 a55:=Tryz.isAgg39
 z55:=Tryz.sizeOf39
 v55:=Tryz.zeroValue39
 t66:=Tryz.underlying272
 a66:=Tryz.isAgg272
 z66:=Tryz.sizeOf272
 v66:=Tryz.zeroValue272
 t70:=Tryz.underlying276
 a70:=Tryz.isAgg276
 z70:=Tryz.sizeOf276
 v70:=Tryz.zeroValue276
 t76:=Tryz.underlying312
 a76:=Tryz.isAgg312
 z76:=Tryz.sizeOf312
 v76:=Tryz.zeroValue312
 t77:=Tryz.underlying313
 a77:=Tryz.isAgg313
 z77:=Tryz.sizeOf313
 v77:=Tryz.zeroValue313}
end Go.Proofs
namespace Go.Ds
open Go.Proofs Go.Proofs.Tryz Go.Shelf Go.RowKit Go.Lib Go.Sort
theorem a7g(x:Int×Int):∀v∈jS x,v.oneCell'=true:=by
 intro v hv
 simp[jS]at hv
 rcases hv with rfl|rfl<;>rfl
theorem c4o(kc:FuncId)(eg:∀args w,(callFunc kc args).run prog w=.ok (.enter kc args) w)(hf:∀x y,Fn prog kc [.agg #[I x.1,I x.2],.agg #[I y.1,I y.2]] .nil fun r H'=>r=I (cf2 x y)∧St prog (.nil:Heap) H' []):a5p prog 55 kc (fun _=>True):=
 fun kI off cap d w _ hH hblk hsz=>by
  have h:=AnyQ.slices_SortFunc_total Tryz.bR 2 Tryz.isAgg60 Tryz.sizeOf60 jS (fun _=>rfl) a7g cf2 c3y kc #[] kI off cap d w eg (a6p hf kI off d.size w) hH hblk hsz c3E
  rw[b6s]at h
  exact h
theorem c2I(kc:FuncId)(eg:∀args w,(callFunc kc args).run prog w=.ok (.enter kc args) w)(hf:∀x y,Fn prog kc [.agg #[I x.1,I x.2],.agg #[I y.1,I y.2]] .nil fun r H'=>r=I (cf2 x y)∧St prog (.nil:Heap) H' []):a5p prog 92 kc (fun _=>True):=
 fun kI off cap d w _ hH hblk hsz=>by
  have h:=AnyQ.slices_SortFunc_total Tryz.bH 2 Tryz.isAgg53 Tryz.sizeOf53 jS (fun _=>rfl) a7g cf2 c3y kc #[] kI off cap d w eg (a6p hf kI off d.size w) hH hblk hsz c3E
  rw[b6s]at h
  exact h
theorem c3L:a2c prog 55:=fun p cap fv w=>AnyF.slices_SortFunc_none {Tryz.bR with} p cap fv w
theorem c3u:a2c prog 92:=fun p cap fv w=>AnyF.slices_SortFunc_none {Tryz.bH with} p cap fv w
def a9S(K kc:FuncId):Prop:=∀{H:Heap}{B:Base}{os:List Ob}(hS:St prog B H os)(i:Nat){v:Value}{es:List (Int×Int)}(ho:os[i]? =some ⟨v,2,pr es⟩)(hl:es.length<100000000000){Q:Value→Heap→Prop}
    (h:∀H1,St prog B H1 (os.set i ⟨v,2,pr (wC es)⟩)→Q (.tuple #[]) H1),xH prog K [v,.func (.func kc) #[] #[]] H Q
theorem c4X:rL prog 55:=⟨Tryz.f55,func55,by kernel_rfl,by kernel_rfl⟩
theorem c4z:rL prog 92:=⟨Tryz.f92,func92,by kernel_rfl,by kernel_rfl⟩
theorem c3s:a9S 55 209:=fun hS i _ _ ho hl _ h=>a2y (c4o 209 (enters_of func209 (by kernel_rfl) rfl) fun x y=>b7q x y) c3L c4X hS i ho hl (fun _ _=>trivial) h
theorem c4C:a9S 55 120:=fun hS i _ _ ho hl _ h=>a2y (c4o 120 (enters_of func120 (by kernel_rfl) rfl) fun x y=>b7g x y) c3L c4X hS i ho hl (fun _ _=>trivial) h
theorem c2J:a9S 92 117:=fun hS i _ _ ho hl _ h=>a2y (c2I 117 (enters_of func117 (by kernel_rfl) rfl) fun x y=>b9f x y) c3u c4z hS i ho hl (fun _ _=>trivial) h
end Go.Ds
namespace Go.Ds
open Go.Proofs Go.Proofs.Tryz
variable {H:Heap}
set_option maxRecDepth 10000
theorem zC{p:Nat→Bool}{n j:Nat}(h:mZ p n=(j:Int)):j<n:=by
 unfold mZ at h
 split at h
 ·rename_i q hq
  have:=dB.1 (gJ hq)
  omega
 ·omega
theorem b9m(g:Seg)(hg:g.In H)(key:Int)(A:Nat)(hA:Var H A 1 [I key]):Fn prog 208 [.agg #[I g.lo,I g.hi,g.dv],ptr A 0 1] H fun r H'=>r=.bool (decide (g.lo≤key)&&decide (key≤g.hi))∧St prog H H' []:=by
 refine .aD func208 rfl (by kernel_rfl) (m:=14) rfl fun l hn g0 g1=> ?_
 simp(disch:=omega) only[↓RA,RB,simprocAttr,g0]
 refine(sR H).eNew 3 [I g.lo,I g.hi,g.dv] rfl rfl (by simp[OC,((sR H).sl hg.1).cells.2.1]) a1P fun A1 H1 hS1=> ?_
 simp only[RT]at hS1
 simp(disch:=omega) only[↓RA,RZ,simprocAttr,hn,g1,hS1.ld 0 rfl,(hS1.va hA).ld]
 refine kB (fun h1=> ?_) (fun h1=> ?_)
 ·simp(disch:=omega) only[↓RA,RZ,simprocAttr,hn,g1,(hS1.va hA).ld,hS1.ld 0 rfl,b9U,h1]
  first|exact hS1.forget|exact⟨by simp[h1],hS1.forget⟩
 simp(disch:=omega) only[↓RA,RZ,simprocAttr,hn,b9U,h1]
 first|exact hS1.forget|exact⟨by simp[],hS1.forget⟩
theorem b7y(v:Value)(xs:List Seg)(hv:Sl 3 Seg.cells H v xs)(hl:xs.length<1000000000)(k:FuncId)(caps:List Value)(p:Nat→Bool)
 (hf:∀j H1,j<xs.length→St prog H H1 []→Fn prog k (.agg #[I (iB xs j).lo,I (iB xs j).hi,(iB xs j).dv]::caps) H1 fun r H2=>r=.bool (p j)∧St prog H1 H2 []):
 Fn prog 207 [v,.func (.func k) #[] caps.toArray] H fun r H'=>r=I (mZ p xs.length)∧St prog H H' []:=by
 refine .aD func207 rfl (by kernel_rfl) (m:=19) rfl fun l hn g0 g1=> ?_
 simp(disch:=omega) only[↓RA,RZ,simprocAttr,hn,g0,((sR H).sl hv).len]
 refine Wp.al (fun n l H'=>l.length=19∧get l 0=v∧get l 1=.func (.func k) #[] caps.toArray∧get l 7=I xs.length∧∃(j:Nat),(n+j=xs.length∧∀q,q<j→p q=false)∧get l 8=I j∧St prog H H' []) xs.length ?_ ?_
 ·simp(disch:=omega) only[RB,RC,simprocAttr,hn,g0,g1]
  exact⟨0,⟨by omega,fun q hq=>absurd hq (dL _)⟩,rfl,(sR H)⟩
 rintro n l H1⟨hn,g0,g1,g7,j,⟨hi,h0⟩,g8,hS1⟩
 simp(disch:=omega) only[↓RA,RB,simprocAttr,hn,g7,g8]
 refine iA (fun h=> ?_) (fun h=> ?_)
 ·simp(disch:=omega) only[↓RA,RZ,simprocAttr,hn,g0,g1,g8,(hS1.sl hv).idx,(hS1.sl hv).ag,Seg.cells,h]
  refine hS1.cF (hf j _ (by omega) hS1) fun H2 hS2=> ?_
  simp(disch:=omega) only[↓RA,RZ,simprocAttr,hn,h]
  refine jE (fun hp=> ?_) (fun hp=> ?_)
  ·simp(disch:=omega) only[↓RA,RZ,simprocAttr,hn,c0o,h,hp]
   exact⟨by rw[vK p xs.length j (by omega) hp h0],hS2⟩
  simp(disch:=omega) only[↓RA,RZ,simprocAttr,hn,g0,g1,g7,g8,h,hp]
  exact⟨n-1,by omega,j+1,⟨by omega,fun q hq=>by rcases du.1 hq with e|e;(· exact h0 q e);(· rw[e];exact hp)⟩,by simp,hS2⟩
 simp(disch:=omega) only[↓RA,RZ,simprocAttr,hn,c0o,h]
 exact⟨by rw[vD p xs.length fun q hq=>h0 q (by omega)],hS1⟩
theorem a9l{H0:Heap}{os0:List Ob}(hS0:St prog H0 H os0)(s:Stp)(hs0:s.In H0)(key:Int):Fn prog 162 [.agg #[.string s.name,I s.num,I s.den,s.gv],I key] H fun r H'=>∃g:Seg,r=.agg #[I g.lo,I g.hi,g.dv]∧g.In H0∧g.draws=a8Y s key∧St prog H H' []:=by
 have hs:=hs0.ab hS0
 have hl:=hs.2.2
 refine .aD func162 rfl (by kernel_rfl) (m:=18) rfl fun l hn g0 g1=> ?_
 simp(disch:=omega) only[↓RA,RB,simprocAttr,g0]
 refine(sR H).eNew 4 [(.string s.name),I s.num,I s.den,s.gv] rfl rfl (by simp[OC,((sR H).sl hs.1).cells.2.1]) mY fun A1 H1 hS1=> ?_
 simp only[RT]at hS1
 simp(disch:=omega) only[↓RA,RB,simprocAttr,g1]
 refine hS1.eNew 1 [I key] rfl rfl rfl tS3 fun A2 H2 hS2=> ?_
 simp only[RT]at hS2
 simp(disch:=omega) only[↓RA,RZ,simprocAttr]
 refine hS2.eNew 3 [I 0,I 0,(.slice none 0 0)] rfl rfl rfl a1P fun A3 H3 hS3=> ?_
 simp only[RT]at hS3
 simp(disch:=omega) only[↓RA,RZ,simprocAttr,hn,hS3.ld 0 rfl]
 have hA:=hS3.var 1 rfl
 have hSc:=hS3
 refine hS3.cF (b7y s.gv s.segs (hS3.sl hs.1) hs.2.2 208 [ptr A2 0 1] (a9Z s key) (fun j H1 hj hS'=>b9m _ ((hs.2.1 _ (iE hj)).ab (hSc.trans hS')) key A2 (hA.ab hS'.ab))) fun H4 hS4=> ?_
 simp(disch:=omega) only[↓RA,RB,simprocAttr,hn]
 refine iA (fun h=> ?_) (fun h=> ?_)
 ·simp(disch:=omega) only[↓RA,RZ,simprocAttr,hn,c0p,h]
  refine hS4.aa 2 rfl [I 0,I 0,(.slice none 0 0)] rfl rfl a1P (by simp) fun H5 hS5=> ?_
  simp only[RT]at hS5
  simp(disch:=omega) only[↓RA,RZ,simprocAttr,hn,b9Z,hS5.ag 2 rfl,h]
  exact⟨⟨0,0,.slice none 0 0,[]⟩,rfl,⟨⟨.inl ⟨rfl,rfl⟩,fun _=>rfl,by decide⟩,by simp⟩,by rw[a8Y,if_pos h],hS5.forget⟩
 obtain⟨j,hj⟩:∃j:Nat,mZ (a9Z s key) s.segs.length=j:=⟨(mZ (a9Z s key) s.segs.length).toNat,by omega⟩
 have hjl:j<s.segs.length:=zC hj
 simp(disch:=omega) only[↓RA,RZ,simprocAttr,hn,hS4.ld 0 rfl,(hS4.sl hs.1).idx,(hS4.sl hs.1).ag,Seg.cells,hj]
 refine hS4.aa 2 rfl [I (iB s.segs j).lo,I (iB s.segs j).hi,(iB s.segs j).dv] rfl (by simp[OC,(hS4.sl (hs.2.1 (iB s.segs j) (iE (by omega))).1).cells.2.1]) a1P (by simp) fun H6 hS6=> ?_
 simp only[RT]at hS6
 simp(disch:=omega) only[↓RA,RZ,simprocAttr,hn,b9Z,hS6.ag 2 rfl,hj]
 exact⟨iB s.segs j,rfl,hs0.2.1 _ (iE hjl),by rw[a8Y,if_neg h,hj];rfl,hS6.forget⟩
theorem b8C(rv:Value)(rks:List Rk)(hr:Sl 6 Rk.cells H rv rks)(hrk:∀r∈rks,r.In H)(hl:rks.length<1000000000)(d:Drw)(key:Int):
 Fn prog 163 [rv,.agg #[I d.rank,I d.shift],I key] H fun r H'=>r=.tuple #[.agg #[I (pK rks d key).1,I (pK rks d key).2],.bool (a0r rks d key)]∧St prog H H' []:=by
 refine .bO func163 rfl (by kernel_rfl) (m:=48) rfl fun l hn g0 g1 g2=> ?_
 simp(disch:=omega) only[↓RA,RB,simprocAttr,g1]
 refine(sR H).eNew 2 [I d.rank,I d.shift] rfl rfl rfl a0L fun A1 H1 hS1=> ?_
 simp only[RT]at hS1
 simp(disch:=omega) only[↓RA,RZ,simprocAttr]
 refine hS1.eNew 2 [I 0,I 0] rfl rfl rfl rB fun A2 H2 hS2=> ?_
 simp only[RT]at hS2
 simp(disch:=omega) only[↓RA,RZ,simprocAttr,hn,hS2.ld 0 rfl]
 refine iO (fun h1=> ?_) (fun h1=> ?_)
 ·simp(disch:=omega) only[↓RA,RZ,simprocAttr,hn,c0m,h1]
  refine hS2.aa 1 rfl [I 0,I 0] rfl rfl rB (by simp) fun H3 hS3=> ?_
  simp only[RT]at hS3
  simp(disch:=omega) only[↓RA,RZ,simprocAttr,hn,b0A,hS3.ag 1 rfl,h1]
  exact⟨by rw[pK,a0r,if_pos (by omega),decide_eq_true (by omega)];rfl,hS3.forget⟩
 simp(disch:=omega) only[↓RA,RZ,simprocAttr,hn,g0,hS2.ld 0 rfl,(hS2.sl hr).len,h1]
 refine iA (fun h2=> ?_) (fun h2=> ?_)
 ·simp(disch:=omega) only[↓RA,RZ,simprocAttr,hn,c0m,h1,h2]
  refine hS2.aa 1 rfl [I 0,I 0] rfl rfl rB (by simp) fun H4 hS4=> ?_
  simp only[RT]at hS4
  simp(disch:=omega) only[↓RA,RZ,simprocAttr,hn,b0A,hS4.ag 1 rfl,h1,h2]
  exact⟨by rw[pK,a0r,if_pos (by omega),decide_eq_true (by omega)];rfl,hS4.forget⟩
 obtain⟨j,hj⟩:∃j:Nat,d.rank=j:=⟨d.rank.toNat,by omega⟩
 have hjl:j<rks.length:=by omega
 have hp:pK rks d key=((j:Int),vR (vR (key+d.shift)-(iB rks j).first)):=by rw[pK,if_neg (by omega),hj];rfl
 have hh:a0r rks d key=(decide (0≤vR (vR (key+d.shift)-(iB rks j).first))&&decide (vR (vR (key+d.shift)-(iB rks j).first)<(iB rks j).wind.length)):=by
  rw[a0r,hp,decide_eq_false (by omega),hj]
  rfl
 rw[hp,hh]
 have hw:=(hrk _ (iE hjl)).2
 simp(disch:=omega) only[↓RA,simprocAttr,hj]
 refine Wp.drw jZ (by kernel_rfl) ?_
 simp(disch:=omega) only[↓RA,RZ,simprocAttr,hn,g2]
 simp(disch:=omega) only[↓RA,RZ,simprocAttr,hn,g0,hS2.ld 0 rfl,(hS2.sl hr).idx,(hS2.sl hr).bh,(hS2.sl hr).ld,Rk.cells,hj]
 refine Wp.aO jZ [(10,18),(13,18),(14,18)] (by kernel_rfl) (by kernel_rfl) ?_
 simp(disch:=omega) only[↓RA,RZ,simprocAttr,hn,hS2.ld 0 rfl,b4r,hj]
 refine kB (fun h3=> ?_) (fun h3=> ?_)
 ·skip
  simp(disch:=omega) only[↓RA,RZ,simprocAttr,hn,g0,hS2.ld 0 rfl,(hS2.sl hr).idx,(hS2.sl hr).bh,(hS2.sl hr).ld,Rk.cells,(hS2.sl (hrk (iB rks j) (iE (by omega))).1).len,hj,h3]
  refine hS2.aa 1 rfl [I j,_] rfl rfl rB (by simp) fun H5 hS5=> ?_
  simp only[RT]at hS5
  simp(disch:=omega) only[↓RA,RZ,simprocAttr,hn,hS5.ld 0 rfl,Rk.cells,(hS5.sl hr).ld,(hS5.sl (hrk (iB rks j) (iE (by omega))).1).len,b0A,hS5.ag 1 rfl,hj,h3]
  exact hS5.forget
 simp(disch:=omega) only[↓RA,RZ,simprocAttr,hn,h3]
 refine hS2.aa 1 rfl [I j,_] rfl rfl rB (by simp) fun H6 hS6=> ?_
 simp only[RT]at hS6
 simp(disch:=omega) only[↓RA,RZ,simprocAttr,hn,b0A,hS6.ag 1 rfl,h3]
 first|exact hS6.forget|exact⟨by rw[fQ],hS6.forget⟩
theorem b3e{B:Base}{v:Value}{es:List (Int×Int)}(hS:St prog B H [⟨v,2,pr es⟩])(hl:es.length<1000000):
 Fn prog 164 [v] H fun r H'=>∃rest:List Value,(∀b,kI r=some b→kI v=some b)∧(∀H2,RdAt H2 v 2 (pr (dd (wC es))++rest)→RdAt H2 r 2 (pr (dd (wC es))))∧St prog B H' [⟨v,2,pr (dd (wC es))++rest⟩]:=by
 refine .aY func164 rfl (by kernel_rfl) (m:=7) rfl fun l hn g0=> ?_
 simp(disch:=omega) only[↓RA,RZ,simprocAttr,hn,g0]
 refine c3s hS 0 rfl (ia hl (by decide)) fun H1 hS1=> ?_
 simp only[fw]at hS1
 simp(disch:=omega) only[↓RA,RZ,simprocAttr,hn,g0]
 refine iJ (a6a hS1 (by rw[pA];exact ia hl (by decide))) ?_
 rintro r H2⟨rest,hb,hrd,hS2⟩
 have hrc:=(hrd H2 (hS2.rd 0 rfl)).cells
 simp(disch:=omega) only[↓RA,RB,simprocAttr,hn,c2Z]
 exact⟨rest,hb,hrd,hS2⟩
theorem b4E{a b:Int}{v:Value}{α:Type}{n:Nat}{cel:α→List Value}{xs:List α}(h:Sl n cel H v xs):xE prog 158 (.agg #[I a,I b,v]) 2=some v:=by
 rcases h.rd with⟨rfl,_⟩|⟨A,i,e,row,ty,rw,lo,ver,n,_,_,_,_,_,_,rfl⟩<;>kernel_rfl
theorem b6E(rv:Value)(rks:List Rk)(hr:Sl 6 Rk.cells H rv rks)(hrk:∀r∈rks,r.In H)(hl:rks.length<1000000000)(s:Stp)(hs:s.In H)(hs2:∀g∈s.segs,g.draws.length≤8)(key:Int):
 Fn prog 119 [rv,.agg #[.string s.name,I s.num,I s.den,s.gv],I key] H fun r H'=>Slx 2 jS H' (fun B=>H.length≤B) r (sN rks s key)∧St prog H H' []:=by
 refine .bO func119 rfl (by kernel_rfl) (m:=36) rfl fun l hn g0 g1 g2=> ?_
 simp(disch:=omega) only[↓RA,RB,simprocAttr,g1]
 refine(sR H).eNew 4 [(.string s.name),I s.num,I s.den,s.gv] rfl rfl (by simp[OC,((sR H).sl hs.1).cells.2.1]) mY fun A1 H1 hS1=> ?_
 simp only[RT]at hS1
 simp(disch:=omega) only[↓RA,RZ,simprocAttr,hn,g2,hS1.ag 0 rfl]
 refine iJ (a9l hS1 s hs key) ?_
 rintro r H2⟨g,rfl,hgi,hgd,hT1⟩
 have hS2:=hS1.trans hT1
 simp only[RT]at hS2
 have hgl:=hgi.2
 have hg8:g.draws.length≤8:=by
  rw[hgd]
  unfold a8Y
  split
  ·simp
  ·rename_i h
   exact hs2 _ (iE (zC (p:=a9Z s key) (n:=s.segs.length) (by omega)))
 simp(disch:=omega) only[↓RA,RZ,simprocAttr,hn,b4E (hS2.sl hgi.1),(hS2.sl hgi.1).len]
 have hS3:=hS2.nil 1
 simp only[RT]at hS3
 refine Wp.al (fun n l H'=>l.length=36∧get l 0=rv∧get l 2=I key∧get l 6=(.slice none 0 0)∧get l 15=g.dv∧get l 16=I g.draws.length∧∃(i:Nat)(ov:Value),(n+i=g.draws.length)∧get l 17=I i∧get l 7=ov∧St prog H H' [⟨ptr A1 0 4,0,[(.string s.name),I s.num,I s.den,s.gv]⟩,⟨ov,2,pr (((g.draws.take i).filter fun d=>a0r rks d key).map fun d=>pK rks d key)⟩]) g.draws.length ?_ ?_
 ·simp(disch:=omega) only[RB,RC,simprocAttr,hn,g0,g2]
  exact⟨0,_,by omega,rfl,rfl,hS3⟩
 rintro n l H3⟨hn,g0,g2,g6,g15,g16,i,ov,hi,g17,g7,hS4⟩
 simp(disch:=omega) only[↓RA,RB,simprocAttr,hn,g16,g17]
 refine iA (fun q1=> ?_) (fun q1=> ?_)
 ·simp(disch:=omega) only[↓RA,RZ,simprocAttr,hn,g15,g17,(hS4.sl hgi.1).idx,(hS4.sl hgi.1).ag,Drw.cells,q1]
  refine hS4.eNew 2 [I 0,I 0] rfl rfl rfl a0L fun A2 H4 hS5=> ?_
  simp only[RT]at hS5
  simp(disch:=omega) only[↓RA,RZ,simprocAttr,hn,q1]
  refine hS5.aa 2 rfl [I (iB g.draws i).rank,I (iB g.draws i).shift] rfl rfl a0L (by simp) fun H5 hS6=> ?_
  simp only[RT]at hS6
  simp(disch:=omega) only[↓RA,RZ,simprocAttr,hn,g0,g2,hS6.ag 2 rfl,q1]
  refine hS6.cF (b8C rv rks (hS6.sl hr) (fun r hr'=>(hrk r hr').ab hS6) hl (iB g.draws i) key) fun H6 hS7=> ?_
  have htk:=kJ g.draws i (by omega)
  have hfl:((g.draws.take i).filter fun d=>a0r rks d key).length≤i:=by
   refine dI (dS _ _) ?_
   simp
   omega
  simp(disch:=omega) only[↓RA,RZ,simprocAttr,hn,q1]
  refine hS7.eNew 2 [I 0,I 0] rfl rfl rfl rB fun A3 H7 hS8=> ?_
  simp only[RT]at hS8
  simp(disch:=omega) only[↓RA,RZ,simprocAttr,hn,q1]
  refine hS8.aa 3 rfl [I (pK rks (iB g.draws i) key).1,I (pK rks (iB g.draws i) key).2] rfl rfl rB (by simp) fun H8 hS9=> ?_
  simp only[RT]at hS9
  simp(disch:=omega) only[↓RA,RZ,simprocAttr,hn,q1]
  refine jE (fun q2=> ?_) (fun q2=> ?_)
  ·skip
   simp(disch:=omega) only[↓RA,RZ,simprocAttr,hn,g7,hS9.ag 3 rfl,q1,q2]
   refine hS9.ai [I (pK rks (iB g.draws i) key).1,I (pK rks (iB g.draws i) key).2] b6J c4L rfl rfl (by simp[Value.cells]) rfl rfl (by decide) (by decide) fun w1 H9 hS10=> ?_
   simp only[RT]at hS10
   simp(disch:=omega) only[↓RA,RZ,simprocAttr,hn,q1,q2]
   refine hS10.aq 1 rfl (hS10.rd 4 rfl) b6J (by rw[iF];simp;omega) fun w2 H10 hS11=> ?_
   simp only[RT]at hS11
   simp(disch:=omega) only[↓RA,RZ,simprocAttr,hn,g0,g2,g6,g15,g16,g17,q1,q2]
   refine⟨n-1,by omega,i+1,w2,by omega,by simp,rfl,?_⟩
   rw[htk,ew,dA,jN]
   have e:([iB g.draws i].filter fun d=>a0r rks d key)=[iB g.draws i]:=by simp[q2]
   rw[e]
   exact hS11.pick [0,1] (by decide) rfl
  simp(disch:=omega) only[↓RA,RZ,simprocAttr,hn,g0,g2,g6,g15,g16,g17,g7,q1,q2]
  refine⟨n-1,by omega,i+1,ov,by omega,by simp,rfl,?_⟩
  rw[htk,ew,dA,jN]
  have e:([iB g.draws i].filter fun d=>a0r rks d key)=[]:=by simp[q2]
  rw[e]
  simp only[pr,fY,fB,dr]
  exact hS9.pick [0,1] (by decide) rfl
 simp(disch:=omega) only[↓RA,RZ,simprocAttr,hn,g7,q1]
 have hii:i=g.draws.length:=by omega
 subst hii
 have hfl:((g.draws.filter fun d=>a0r rks d key).map fun d=>pK rks d key).length≤8:=by
  rw[dF]
  exact dI (dS _ _) hg8
 rw[ek]at hS4
 have hM1:=hS4.pick (os':=[⟨ov,2,_⟩]) [1] (by decide) rfl
 have hR1:=hS4.pick (os':=[⟨ov,2,_⟩,⟨ptr A1 0 4,0,_⟩]) [1,0] (by decide) rfl
 refine iJ (b3e (es:=(g.draws.filter fun d=>a0r rks d key).map fun d=>pK rks d key) hM1.aH (by omega)) ?_
 rintro r H11⟨rest,hb,hrd,hT3⟩
 have hS12:=hR1.frame hT3
 simp only[RT]at hS12
 have hrr:=hrd _ (hS12.rd 0 rfl)
 have hrc:=hrr.cells
 simp(disch:=omega) only[↓RA,RZ,simprocAttr,hn,c4v,q1]
 refine⟨⟨⟨?_,kE,by decide⟩,fun b h=> ?_⟩,hS12.forget⟩
 ·unfold sN
  rw[←hgd]
  exact hrr
 ·rcases hS12.new _ (dU ..) b (hb b h)with h|h
  ·exact h
  ·exact h.elim
end Go.Ds
namespace Go.Ds
open Go.Proofs Go.Proofs.Tryz
variable {H:Heap}
set_option maxRecDepth 10000
set_option maxHeartbeats 1000000
abbrev KC(kvs:List (Ct×Bool)):List Value:=kcs (fun p:Int×Int=>.agg #[I p.1,I p.2]) Value.bool kvs
def wY(kvs:List (Ct×Bool))(c:Ct):Bool:=(pS kvs c).getD false
theorem b2Q{B:Base}(o:Org)(r:Reg)(sv:Value)(c:Ct)(AO AR AS AQ M:Nat)(qv:Value)(q:List Ct)(kvs:List (Ct×Bool))
 (hS:St prog B H [⟨.map (some M),0,KC kvs⟩,⟨ptr AQ 0 1,0,[qv]⟩,⟨qv,2,pr q⟩])
 (hO:∀{H1:Heap}{os:List Ob},St prog B H1 os→Var H1 AO 4 [.string o.name,o.rv,o.dv,o.cv]∧o.In H1∧Var H1 AR 3 [sv,.int .u64 r.cpl,.int .u64 r.off]∧Var H1 AS 1 [.map (some M)])
 (hk:∀t,wY kvs t=true↔t∈q) (hq:Que o q) (ho:o.Fine) (hr:r.Ok):
 Fn prog 116 [.agg #[I c.1,I c.2],.bool true,ptr AO 0 4,ptr AR 0 3,ptr AS 0 1,ptr AQ 0 1] H fun rr H'=>∃kvs' qv',rr=.tuple #[]∧(∀t,wY kvs' t=true↔t∈stepF o r.cpl true c q)∧
  St prog B H' [⟨.map (some M),0,KC kvs'⟩,⟨ptr AQ 0 1,0,[qv']⟩,⟨qv',2,pr (stepF o r.cpl true c q)⟩]:=by
 have hcl:=ho.clen
 refine .cU func116 rfl (by kernel_rfl) (m:=65) rfl fun l hn g0 g1 g2 g3 g4 g5=> ?_
 simp(disch:=omega) only[↓RA,RB,simprocAttr,g0]
 refine hS.eNew 2 [I c.1,I c.2] rfl rfl rfl pQ fun A1 H1 hS1=> ?_
 simp only[RT]at hS1
 simp(disch:=omega) only[↓RA,RZ,simprocAttr,hn,g2,((hO hS1).1).ld,((hO hS1).2.1.2.2.2.2.1).len]
 refine Wp.al (fun n l H'=>l.length=65∧get l 1=(.bool true)∧get l 2=(ptr AO 0 4)∧get l 3=(ptr AR 0 3)∧get l 4=(ptr AS 0 1)∧get l 5=(ptr AQ 0 1)∧get l 6=(ptr A1 0 2)∧get l 12=o.cv∧get l 13=I o.cpls.length∧∃(i:Nat)(kvs':List (Ct×Bool))(qv':Value),(n+i=o.cpls.length∧∀t,wY kvs' t=true↔t∈stepN o r.cpl true c q i)∧get l 14=I i∧St prog B H' [⟨.map (some M),0,KC kvs'⟩,⟨ptr AQ 0 1,0,[qv']⟩,⟨qv',2,pr (stepN o r.cpl true c q i)⟩,⟨ptr A1 0 2,0,[I c.1,I c.2]⟩]) o.cpls.length ?_ ?_
 ·simp(disch:=omega) only[RB,RC,simprocAttr,hn,g1,g2,g3,g4,g5]
  exact⟨0,kvs,qv,⟨by omega,hk⟩,rfl,hS1⟩
 rintro n l H2⟨hn,g1,g2,g3,g4,g5,g6,g12,g13,i,kvs',qv',⟨hi,hk'⟩,g14,hS2⟩
 simp(disch:=omega) only[↓RA,RB,simprocAttr,hn,g13,g14]
 refine iA (fun q1=> ?_) (fun q1=> ?_)
 ·have hql:(stepN o r.cpl true c q i).length≤1024:=(hq.stepN r.cpl true c i).len ho
  have e1:=a3o r.cpl i hr.2.2.1
  have e2:=a1M (r.cpl>>>i) (wP i hr.2.2.1)
  have e3:=tb r.cpl i
  have hskip:a0W r.cpl true c (iB o.cpls i) i=false→stepN o r.cpl true c q (i+1)=stepN o r.cpl true c q i:=fun h=>by
   rw[nT,step1,if_neg (by rw[h];simp)]
  have hkeep:rM o ((iB o.cpls i).dst,vR (c.2+(iB o.cpls i).shift))=false∨((iB o.cpls i).dst,vR (c.2+(iB o.cpls i).shift))∈stepN o r.cpl true c q i→stepN o r.cpl true c q (i+1)=stepN o r.cpl true c q i:=fun h=>by
   rw[nT,step1,if_neg]
   simp only[to1,dc,dM]
   rintro⟨⟨_,h2⟩,h3⟩
   rcases h with h|h
   ·rw[h]at h2;cases h2
   ·exact absurd h (of_decide_eq_false h3)
  simp(disch:=omega) only[↓RA,RZ,simprocAttr,hn,g12,g14,((hO hS2).2.1.2.2.2.2.1).idx,((hO hS2).2.1.2.2.2.2.1).ag,Cpl.cells,q1]
  refine hS2.eNew 5 [(.string ⟨#[]⟩),I 0,I 0,I 0,(.bool false)] rfl rfl rfl vZ fun A2 H3 hS3=> ?_
  simp only[RT]at hS3
  simp(disch:=omega) only[↓RA,RZ,simprocAttr,hn,q1]
  refine hS3.aa 4 rfl [(.string (iB o.cpls i).name),I (iB o.cpls i).src,I (iB o.cpls i).dst,I (iB o.cpls i).shift,(.bool (iB o.cpls i).thr)] rfl rfl vZ (by simp) fun H4 hS4=> ?_
  simp only[RT]at hS4
  simp(disch:=omega) only[↓RA,RZ,simprocAttr,hn,g3,((hO hS4).2.2.1).ld,q1,e1,e2]
  refine iO (fun b1=> ?_) (fun b1=> ?_)
  ·have hs:=hskip (by unfold a0W;rw[e3,decide_eq_false (by omega)];rfl)
   simp(disch:=omega) only[↓RA,RZ,simprocAttr,hn,g1,g2,g3,g4,g5,g6,g12,g13,g14,q1,b1]
   exact⟨n-1,by omega,i+1,kvs',qv',⟨by omega,by rw[hs];exact hk'⟩,by simp,by rw[hs];exact hS4.pick [0,1,2,3] (by decide) rfl⟩
  have hb:r.cpl.testBit i=true:=by rw[e3];exact decide_eq_true (by omega)
  simp(disch:=omega) only[↓RA,RZ,simprocAttr,hn,g6,hS4.ld 4 rfl,hS4.ld 3 rfl,q1,b1]
  refine iO (fun b2=> ?_) (fun b2=> ?_)
  ·have hs:=hskip (by unfold a0W;rw[decide_eq_false b2];simp)
   simp(disch:=omega) only[↓RA,RZ,simprocAttr,hn,g1,g2,g3,g4,g5,g6,g12,g13,g14,q1,b1,b2]
   exact⟨n-1,by omega,i+1,kvs',qv',⟨by omega,by rw[hs];exact hk'⟩,by simp,by rw[hs];exact hS4.pick [0,1,2,3] (by decide) rfl⟩
  have hsrc:=dG.1 b2
  simp(disch:=omega) only[↓RA,RZ,simprocAttr,hn,g1,hS4.ld 4 rfl,q1,b1,b2]
  refine jE (fun b4=> ?_) (fun b4=> ?_)
  ·have hs:=hskip (by unfold a0W;simp only[Bool.not_true,Bool.false_or,fK];exact .inr (by simpa using b4))
   simp(disch:=omega) only[↓RA,RZ,simprocAttr,hn,g1,g2,g3,g4,g5,g6,g12,g13,g14,q1,b1,b2,b4]
   exact⟨n-1,by omega,i+1,kvs',qv',⟨by omega,by rw[hs];exact hk'⟩,by simp,by rw[hs];exact hS4.pick [0,1,2,3] (by decide) rfl⟩
  have hgo:a0W r.cpl true c (iB o.cpls i) i=true:=by
   unfold a0W
   rw[hb,decide_eq_true hsrc]
   simpa using b4
  simp(disch:=omega) only[↓RA,RZ,simprocAttr,hn,g6,hS4.ld 4 rfl,hS4.ld 3 rfl,q1,b1,b2,b4]
  simp(disch:=omega) only[↓RA,RZ,simprocAttr,yR]
  refine hS4.eNew 2 [I 0,I 0] rfl rfl rfl pQ fun A3 H5 hS5=> ?_
  simp only[RT]at hS5
  simp(disch:=omega) only[↓RA,RZ,simprocAttr,hn,q1,b1,b2,b4]
  refine hS5.aa 5 rfl [I (iB o.cpls i).dst,I (vR (c.2+(iB o.cpls i).shift))] rfl rfl pQ (by simp) fun H6 hS6=> ?_
  simp only[RT]at hS6
  simp(disch:=omega) only[↓RA,RZ,simprocAttr,hn,g2,((hO hS6).1).ag,hS6.ag 5 rfl,q1,b1,b2,b4]
  refine hS6.cF (wK o (hO hS6).2.1 ((iB o.cpls i).dst,vR (c.2+(iB o.cpls i).shift))) fun H7 hS7=> ?_
  simp(disch:=omega) only[↓RA,RZ,simprocAttr,hn,q1,b1,b2,b4]
  refine kB (fun b5=> ?_) (fun b5=> ?_)
  ·have hok:=(tX o _).1 b5
   simp(disch:=omega) only[↓RA,RZ,simprocAttr,hn,g4,((hO hS7).2.2.2).ld,hS7.ag 5 rfl,q1,b1,b2,b4,b5]
   refine hS7.bz (k:=((iB o.cpls i).dst,vR (c.2+(iB o.cpls i).shift))) 0 rfl a7A (fun _=>rfl) ?_
   simp(disch:=omega) only[↓RA,RZ,simprocAttr,hn,q1,b1,b2,b4,b5]
   refine jE (fun b6=> ?_) (fun b6=> ?_)
   ·have hnot:((iB o.cpls i).dst,vR (c.2+(iB o.cpls i).shift))∉stepN o r.cpl true c q i:=fun h=>by
     have h:=(hk' _).2 h
     unfold wY at h
     first|(rw[dM]at b6;exact Bool.false_ne_true (b6.symm.trans h))|exact b6 h
    have hs:stepN o r.cpl true c q (i+1)=stepN o r.cpl true c q i++[((iB o.cpls i).dst,vR (c.2+(iB o.cpls i).shift))]:=by
     rw[nT]
     unfold step1
     rw[if_pos (by simp only[to1,hgo,hok];simp[hnot])]
     rfl
    simp(disch:=omega) only[↓RA,RZ,simprocAttr,hn,g4,((hO hS7).2.2.2).ld,hS7.ag 5 rfl,q1,b1,b2,b4,b5,b6]
    refine hS7.ch (k:=((iB o.cpls i).dst,vR (c.2+(iB o.cpls i).shift))) 0 rfl a7A fun H8 hS8=> ?_
    simp only[RT]at hS8
    simp(disch:=omega) only[↓RA,RZ,simprocAttr,hn,g5,hS8.ld 1 rfl,hS8.ag 5 rfl,q1,b1,b2,b4,b5,b6]
    refine hS8.ai [I (iB o.cpls i).dst,I (vR (c.2+(iB o.cpls i).shift))] a0V b2h rfl rfl (by simp[Value.cells]) rfl rfl (by decide) (by decide) fun w1 H9 hS9=> ?_
    simp only[RT]at hS9
    simp(disch:=omega) only[↓RA,RZ,simprocAttr,hn,q1,b1,b2,b4,b5,b6]
    refine hS9.aq 2 rfl (hS9.rd 6 rfl) a0V (by rw[iF];simp;omega) fun w2 H10 hS10=> ?_
    simp only[RT]at hS10
    simp(disch:=omega) only[↓RA,RZ,simprocAttr,hn,g5,q1,b1,b2,b4,b5,b6]
    refine hS10.aa 1 rfl [w2] (by rw[(hS10.rd 2 rfl).cells.1]) (by simp[(hS10.rd 2 rfl).cells.2.1]) b8b (by simp) fun H11 hS11=> ?_
    simp only[RT]at hS11
    simp(disch:=omega) only[↓RA,RZ,simprocAttr,hn,g1,g2,g3,g4,g5,g6,g12,g13,g14,q1,b1,b2,b4,b5,b6]
    refine⟨n-1,by omega,i+1,a0w kvs' ((iB o.cpls i).dst,vR (c.2+(iB o.cpls i).shift)) true,w2,⟨by omega,fun t=> ?_⟩,by simp,?_⟩
    ·rw[hs,dJ,dC,←hk' t]
     unfold wY
     rw[yS]
     by_cases e:t=((iB o.cpls i).dst,vR (c.2+(iB o.cpls i).shift))
     ·simp[e]
     ·simp[e]
    ·rw[hs,jN]
     exact hS11.pick [0,1,2,3] (by decide) rfl
   have hin:((iB o.cpls i).dst,vR (c.2+(iB o.cpls i).shift))∈stepN o r.cpl true c q i:=(hk' _).1 (by
    unfold wY
    simpa using b6)
   have hs:=hkeep (.inr hin)
   simp(disch:=omega) only[↓RA,RZ,simprocAttr,hn,g1,g2,g3,g4,g5,g6,g12,g13,g14,q1,b1,b2,b4,b5,b6]
   exact⟨n-1,by omega,i+1,kvs',qv',⟨by omega,by rw[hs];exact hk'⟩,by simp,by rw[hs];exact hS7.pick [0,1,2,3] (by decide) rfl⟩
  have hs:=hkeep (.inl (by rw[←eM];exact fun h=>b5 ((tX o _).2 h)))
  simp(disch:=omega) only[↓RA,RZ,simprocAttr,hn,g1,g2,g3,g4,g5,g6,g12,g13,g14,q1,b1,b2,b4,b5]
  exact⟨n-1,by omega,i+1,kvs',qv',⟨by omega,by rw[hs];exact hk'⟩,by simp,by rw[hs];exact hS7.pick [0,1,2,3] (by decide) rfl⟩
 simp(disch:=omega) only[↓RA,RZ,simprocAttr,b9M,q1]
 have hii:i=o.cpls.length:=by omega
 subst hii
 exact⟨kvs',qv',hk',hS2.pick [0,1,2] (by decide) rfl⟩
theorem b1n{B:Base}(o:Org)(r:Reg)(sv:Value)(c:Ct)(AO AR AS AQ M:Nat)(qv:Value)(q:List Ct)(kvs:List (Ct×Bool))
 (hS:St prog B H [⟨.map (some M),0,KC kvs⟩,⟨ptr AQ 0 1,0,[qv]⟩,⟨qv,2,pr q⟩])
 (hO:∀{H1:Heap}{os:List Ob},St prog B H1 os→Var H1 AO 4 [.string o.name,o.rv,o.dv,o.cv]∧o.In H1∧Var H1 AR 3 [sv,.int .u64 r.cpl,.int .u64 r.off]∧Var H1 AS 1 [.map (some M)])
 (hk:∀t,wY kvs t=true↔t∈q) (hq:Que o q) (ho:o.Fine) (hr:r.Ok):
 Fn prog 116 [.agg #[I c.1,I c.2],.bool false,ptr AO 0 4,ptr AR 0 3,ptr AS 0 1,ptr AQ 0 1] H fun rr H'=>∃kvs' qv',rr=.tuple #[]∧(∀t,wY kvs' t=true↔t∈stepF o r.cpl false c q)∧
  St prog B H' [⟨.map (some M),0,KC kvs'⟩,⟨ptr AQ 0 1,0,[qv']⟩,⟨qv',2,pr (stepF o r.cpl false c q)⟩]:=by
 have hcl:=ho.clen
 refine .cU func116 rfl (by kernel_rfl) (m:=65) rfl fun l hn g0 g1 g2 g3 g4 g5=> ?_
 simp(disch:=omega) only[↓RA,RB,simprocAttr,g0]
 refine hS.eNew 2 [I c.1,I c.2] rfl rfl rfl pQ fun A1 H1 hS1=> ?_
 simp only[RT]at hS1
 simp(disch:=omega) only[↓RA,RZ,simprocAttr,hn,g2,((hO hS1).1).ld,((hO hS1).2.1.2.2.2.2.1).len]
 refine Wp.al (fun n l H'=>l.length=65∧get l 1=(.bool false)∧get l 2=(ptr AO 0 4)∧get l 3=(ptr AR 0 3)∧get l 4=(ptr AS 0 1)∧get l 5=(ptr AQ 0 1)∧get l 6=(ptr A1 0 2)∧get l 12=o.cv∧get l 13=I o.cpls.length∧∃(i:Nat)(kvs':List (Ct×Bool))(qv':Value),(n+i=o.cpls.length∧∀t,wY kvs' t=true↔t∈stepN o r.cpl false c q i)∧get l 14=I i∧St prog B H' [⟨.map (some M),0,KC kvs'⟩,⟨ptr AQ 0 1,0,[qv']⟩,⟨qv',2,pr (stepN o r.cpl false c q i)⟩,⟨ptr A1 0 2,0,[I c.1,I c.2]⟩]) o.cpls.length ?_ ?_
 ·simp(disch:=omega) only[RB,RC,simprocAttr,hn,g1,g2,g3,g4,g5]
  exact⟨0,kvs,qv,⟨by omega,hk⟩,rfl,hS1⟩
 rintro n l H2⟨hn,g1,g2,g3,g4,g5,g6,g12,g13,i,kvs',qv',⟨hi,hk'⟩,g14,hS2⟩
 simp(disch:=omega) only[↓RA,RB,simprocAttr,hn,g13,g14]
 refine iA (fun q1=> ?_) (fun q1=> ?_)
 ·have hql:(stepN o r.cpl false c q i).length≤1024:=(hq.stepN r.cpl false c i).len ho
  have e1:=a3o r.cpl i hr.2.2.1
  have e2:=a1M (r.cpl>>>i) (wP i hr.2.2.1)
  have e3:=tb r.cpl i
  have hskip:a0W r.cpl false c (iB o.cpls i) i=false→stepN o r.cpl false c q (i+1)=stepN o r.cpl false c q i:=fun h=>by
   rw[nT,step1,if_neg (by rw[h];simp)]
  have hkeep:rM o ((iB o.cpls i).dst,vR (c.2+(iB o.cpls i).shift))=false∨((iB o.cpls i).dst,vR (c.2+(iB o.cpls i).shift))∈stepN o r.cpl false c q i→stepN o r.cpl false c q (i+1)=stepN o r.cpl false c q i:=fun h=>by
   rw[nT,step1,if_neg]
   simp only[to1,dc,dM]
   rintro⟨⟨_,h2⟩,h3⟩
   rcases h with h|h
   ·rw[h]at h2;cases h2
   ·exact absurd h (of_decide_eq_false h3)
  simp(disch:=omega) only[↓RA,RZ,simprocAttr,hn,g12,g14,((hO hS2).2.1.2.2.2.2.1).idx,((hO hS2).2.1.2.2.2.2.1).ag,Cpl.cells,q1]
  refine hS2.eNew 5 [(.string ⟨#[]⟩),I 0,I 0,I 0,(.bool false)] rfl rfl rfl vZ fun A2 H3 hS3=> ?_
  simp only[RT]at hS3
  simp(disch:=omega) only[↓RA,RZ,simprocAttr,hn,q1]
  refine hS3.aa 4 rfl [(.string (iB o.cpls i).name),I (iB o.cpls i).src,I (iB o.cpls i).dst,I (iB o.cpls i).shift,(.bool (iB o.cpls i).thr)] rfl rfl vZ (by simp) fun H4 hS4=> ?_
  simp only[RT]at hS4
  simp(disch:=omega) only[↓RA,RZ,simprocAttr,hn,g3,((hO hS4).2.2.1).ld,q1,e1,e2]
  refine iO (fun b1=> ?_) (fun b1=> ?_)
  ·have hs:=hskip (by unfold a0W;rw[e3,decide_eq_false (by omega)];rfl)
   simp(disch:=omega) only[↓RA,RZ,simprocAttr,hn,g1,g2,g3,g4,g5,g6,g12,g13,g14,q1,b1]
   exact⟨n-1,by omega,i+1,kvs',qv',⟨by omega,by rw[hs];exact hk'⟩,by simp,by rw[hs];exact hS4.pick [0,1,2,3] (by decide) rfl⟩
  have hb:r.cpl.testBit i=true:=by rw[e3];exact decide_eq_true (by omega)
  simp(disch:=omega) only[↓RA,RZ,simprocAttr,hn,g6,hS4.ld 4 rfl,hS4.ld 3 rfl,q1,b1]
  refine iO (fun b2=> ?_) (fun b2=> ?_)
  ·have hs:=hskip (by unfold a0W;rw[decide_eq_false b2];simp)
   simp(disch:=omega) only[↓RA,RZ,simprocAttr,hn,g1,g2,g3,g4,g5,g6,g12,g13,g14,q1,b1,b2]
   exact⟨n-1,by omega,i+1,kvs',qv',⟨by omega,by rw[hs];exact hk'⟩,by simp,by rw[hs];exact hS4.pick [0,1,2,3] (by decide) rfl⟩
  have hsrc:=dG.1 b2
  have hgo:a0W r.cpl false c (iB o.cpls i) i=true:=by
   unfold a0W
   rw[hb,decide_eq_true hsrc]
   rfl
  simp(disch:=omega) only[↓RA,RZ,simprocAttr,hn,g1,g6,hS4.ld 4 rfl,hS4.ld 3 rfl,q1,b1,b2]
  simp(disch:=omega) only[↓RA,RZ,simprocAttr,yR]
  refine hS4.eNew 2 [I 0,I 0] rfl rfl rfl pQ fun A3 H5 hS5=> ?_
  simp only[RT]at hS5
  simp(disch:=omega) only[↓RA,RZ,simprocAttr,hn,q1,b1,b2]
  refine hS5.aa 5 rfl [I (iB o.cpls i).dst,I (vR (c.2+(iB o.cpls i).shift))] rfl rfl pQ (by simp) fun H6 hS6=> ?_
  simp only[RT]at hS6
  simp(disch:=omega) only[↓RA,RZ,simprocAttr,hn,g2,((hO hS6).1).ag,hS6.ag 5 rfl,q1,b1,b2]
  refine hS6.cF (wK o (hO hS6).2.1 ((iB o.cpls i).dst,vR (c.2+(iB o.cpls i).shift))) fun H7 hS7=> ?_
  simp(disch:=omega) only[↓RA,RZ,simprocAttr,hn,q1,b1,b2]
  refine kB (fun b5=> ?_) (fun b5=> ?_)
  ·have hok:=(tX o _).1 b5
   simp(disch:=omega) only[↓RA,RZ,simprocAttr,hn,g4,((hO hS7).2.2.2).ld,hS7.ag 5 rfl,q1,b1,b2,b5]
   refine hS7.bz (k:=((iB o.cpls i).dst,vR (c.2+(iB o.cpls i).shift))) 0 rfl a7A (fun _=>rfl) ?_
   simp(disch:=omega) only[↓RA,RZ,simprocAttr,hn,q1,b1,b2,b5]
   refine jE (fun b6=> ?_) (fun b6=> ?_)
   ·have hnot:((iB o.cpls i).dst,vR (c.2+(iB o.cpls i).shift))∉stepN o r.cpl false c q i:=fun h=>by
     have h:=(hk' _).2 h
     unfold wY at h
     first|(rw[dM]at b6;exact Bool.false_ne_true (b6.symm.trans h))|exact b6 h
    have hs:stepN o r.cpl false c q (i+1)=stepN o r.cpl false c q i++[((iB o.cpls i).dst,vR (c.2+(iB o.cpls i).shift))]:=by
     rw[nT]
     unfold step1
     rw[if_pos (by simp only[to1,hgo,hok];simp[hnot])]
     rfl
    simp(disch:=omega) only[↓RA,RZ,simprocAttr,hn,g4,((hO hS7).2.2.2).ld,hS7.ag 5 rfl,q1,b1,b2,b5,b6]
    refine hS7.ch (k:=((iB o.cpls i).dst,vR (c.2+(iB o.cpls i).shift))) 0 rfl a7A fun H8 hS8=> ?_
    simp only[RT]at hS8
    simp(disch:=omega) only[↓RA,RZ,simprocAttr,hn,g5,hS8.ld 1 rfl,hS8.ag 5 rfl,q1,b1,b2,b5,b6]
    refine hS8.ai [I (iB o.cpls i).dst,I (vR (c.2+(iB o.cpls i).shift))] a0V b2h rfl rfl (by simp[Value.cells]) rfl rfl (by decide) (by decide) fun w1 H9 hS9=> ?_
    simp only[RT]at hS9
    simp(disch:=omega) only[↓RA,RZ,simprocAttr,hn,q1,b1,b2,b5,b6]
    refine hS9.aq 2 rfl (hS9.rd 6 rfl) a0V (by rw[iF];simp;omega) fun w2 H10 hS10=> ?_
    simp only[RT]at hS10
    simp(disch:=omega) only[↓RA,RZ,simprocAttr,hn,g5,q1,b1,b2,b5,b6]
    refine hS10.aa 1 rfl [w2] (by rw[(hS10.rd 2 rfl).cells.1]) (by simp[(hS10.rd 2 rfl).cells.2.1]) b8b (by simp) fun H11 hS11=> ?_
    simp only[RT]at hS11
    simp(disch:=omega) only[↓RA,RZ,simprocAttr,hn,g1,g2,g3,g4,g5,g6,g12,g13,g14,q1,b1,b2,b5,b6]
    refine⟨n-1,by omega,i+1,a0w kvs' ((iB o.cpls i).dst,vR (c.2+(iB o.cpls i).shift)) true,w2,⟨by omega,fun t=> ?_⟩,by simp,?_⟩
    ·rw[hs,dJ,dC,←hk' t]
     unfold wY
     rw[yS]
     by_cases e:t=((iB o.cpls i).dst,vR (c.2+(iB o.cpls i).shift))
     ·simp[e]
     ·simp[e]
    ·rw[hs,jN]
     exact hS11.pick [0,1,2,3] (by decide) rfl
   have hin:((iB o.cpls i).dst,vR (c.2+(iB o.cpls i).shift))∈stepN o r.cpl false c q i:=(hk' _).1 (by
    unfold wY
    simpa using b6)
   have hs:=hkeep (.inr hin)
   simp(disch:=omega) only[↓RA,RZ,simprocAttr,hn,g1,g2,g3,g4,g5,g6,g12,g13,g14,q1,b1,b2,b5,b6]
   exact⟨n-1,by omega,i+1,kvs',qv',⟨by omega,by rw[hs];exact hk'⟩,by simp,by rw[hs];exact hS7.pick [0,1,2,3] (by decide) rfl⟩
  have hs:=hkeep (.inl (by rw[←eM];exact fun h=>b5 ((tX o _).2 h)))
  simp(disch:=omega) only[↓RA,RZ,simprocAttr,hn,g1,g2,g3,g4,g5,g6,g12,g13,g14,q1,b1,b2,b5]
  exact⟨n-1,by omega,i+1,kvs',qv',⟨by omega,by rw[hs];exact hk'⟩,by simp,by rw[hs];exact hS7.pick [0,1,2,3] (by decide) rfl⟩
 simp(disch:=omega) only[↓RA,RZ,simprocAttr,b9M,q1]
 have hii:i=o.cpls.length:=by omega
 subst hii
 exact⟨kvs',qv',hk',hS2.pick [0,1,2] (by decide) rfl⟩
theorem a6W(o:Org)(cp:Nat)(l:List Ct)(i:Nat)(h:i<l.length):oM o cp (l.take (i+1))=stepF o cp false (iB l i) (oM o cp (l.take i)):=by
 unfold oM
 rw[kJ l i h,gx]
 rfl
theorem qP(o:Org)(cp:Nat)(l:List Ct):Que o (oM o cp l):=by
 unfold oM
 have:∀(l:List Ct)(q:List Ct),Que o q→Que o (l.foldl (fun q c=>stepF o cp false c q) q):=by
  intro l
  induction l with
  | nil=>intro q h;exact h
  | cons c l ih=>intro q h;exact ih _ (h.stepF cp false c)
 exact this l [] (Que.nil o)
theorem a1s:jC (.map none)=true:=rfl
theorem a6i(o:Org)(ho:o.In H)(hf:o.Fine)(r:Reg)(sv:Value)(hr:r.In H sv)(fv:Value)(first:List Ct)(hfi:Sl 2 jS H fv first)(hfl:first.length≤1024)(hfo:∀c∈first,rM o c=true):
 Fn prog 82 [.agg #[.string o.name,o.rv,o.dv,o.cv],.agg #[sv,.int .u64 r.cpl,.int .u64 r.off],fv] H fun rr H'=>Slx 2 jS H' (fun B=>H.length≤B) rr (uT o r first)∧St prog H H' []:=by
 refine .bO func82 rfl (by kernel_rfl) (m:=56) rfl fun l hn g0 g1 g2=> ?_
 simp(disch:=omega) only[↓RA,RB,simprocAttr,g0]
 refine(sR H).eNew 4 [(.string o.name),o.rv,o.dv,o.cv] rfl rfl (by simp[OC,((sR H).sl ho.1).cells.2.1,((sR H).sl ho.2.2.1).cells.2.1,((sR H).sl ho.2.2.2.2.1).cells.2.1]) mV fun A1 H1 hS1=> ?_
 simp only[RT]at hS1
 simp(disch:=omega) only[↓RA,RB,simprocAttr,g1]
 refine hS1.eNew 3 [sv,(.int .u64 r.cpl),(.int .u64 r.off)] rfl rfl (by simp[OC,(hS1.sl hr.1).cells.2.1]) mP fun A2 H2 hS2=> ?_
 simp only[RT]at hS2
 simp(disch:=omega) only[↓RA,RB,simprocAttr]
 refine hS2.bQ a7A fun M1 H3 hS3=> ?_
 simp only[RT]at hS3
 simp(disch:=omega) only[↓RA,RZ,simprocAttr,a1s]
 refine hS3.eNew 1 [(.map none)] rfl rfl rfl b3Y fun A3 H4 hS4=> ?_
 simp only[RT]at hS4
 simp(disch:=omega) only[↓RA,RB,simprocAttr,hn]
 refine hS4.aa 3 rfl [(.map (some M1))] rfl rfl b3Y (by simp) fun H5 hS5=> ?_
 simp only[RT]at hS5
 simp(disch:=omega) only[↓RA,RZ,simprocAttr]
 refine hS5.eNew 1 [(.slice none 0 0)] rfl rfl rfl b8b fun A4 H6 hS6=> ?_
 simp only[RT]at hS6
 simp(disch:=omega) only[↓RA,RZ,simprocAttr,hn,g2,(hS6.sl hfi).len]
 have hS7:=hS6.nil 1
 simp only[RT]at hS7
 have hS8:=hS7.nil 1
 simp only[RT]at hS8
 refine Wp.al (fun n l H'=>l.length=56∧get l 4=(ptr A2 0 3)∧get l 6=(.slice none 0 0)∧get l 8=(ptr A4 0 1)∧get l 10=(.func (.func 116) #[] #[(ptr A1 0 4),(ptr A2 0 3),(ptr A3 0 1),(ptr A4 0 1)])∧get l 16=fv∧get l 17=I first.length∧∃(i:Nat)(kvs:List (Ct×Bool))(qv ov:Value),(n+i=first.length∧∀t,wY kvs t=true↔t∈oM o r.cpl (first.take i))∧get l 18=I i∧get l 9=ov∧St prog H H' [⟨ptr A1 0 4,0,[(.string o.name),o.rv,o.dv,o.cv]⟩,⟨ptr A2 0 3,0,[sv,(.int .u64 r.cpl),(.int .u64 r.off)]⟩,⟨.map (some M1),0,KC kvs⟩,⟨ptr A3 0 1,0,[(.map (some M1))]⟩,⟨ptr A4 0 1,0,[qv]⟩,⟨qv,2,pr (oM o r.cpl (first.take i))⟩,⟨ov,2,pr ((first.take i).filter fun c=> !r.off.testBit c.1.toNat)⟩]) first.length ?_ ?_
 ·simp(disch:=omega) only[RB,RC,simprocAttr,hn]
  refine⟨0,[],.slice none 0 0,.slice none 0 0,⟨by omega,fun t=> ?_⟩,rfl,rfl,hS8⟩
  simp[wY,pS,oM]
 rintro n l H7⟨hn,g4,g6,g8,rE,g16,g17,i,kvs,qv,ov,⟨hi,hk⟩,g18,g9,hS9⟩
 simp(disch:=omega) only[↓RA,RB,simprocAttr,hn,g17,g18]
 refine iA (fun q1=> ?_) (fun q1=> ?_)
 ·have hci:=(uJ o _).1 (hfo _ (iE (xs:=first) (j:=i) (by omega)))
  have hqu:=qP o r.cpl (first.take i)
  have hqs:=a6W o r.cpl first i (by omega)
  have hql:=(qP o r.cpl (first.take (i+1))).len hf
  simp(disch:=omega) only[↓RA,RZ,simprocAttr,hn,g16,g18,(hS9.sl hfi).idx,(hS9.sl hfi).ag,jS,q1]
  refine hS9.eNew 2 [I 0,I 0] rfl rfl rfl pQ fun A5 H8 hS10=> ?_
  simp only[RT]at hS10
  simp(disch:=omega) only[↓RA,RZ,simprocAttr,hn,q1]
  refine hS10.aa 7 rfl [I (iB first i).1,I (iB first i).2] rfl rfl pQ (by simp) fun H9 hS11=> ?_
  simp only[RT]at hS11
  simp(disch:=omega) only[↓RA,RZ,simprocAttr,hn,rE,hS11.ag 7 rfl,q1]
  have hM1:=hS11.pick (os':=[⟨.map (some M1),0,_⟩,⟨ptr A4 0 1,0,_⟩,⟨qv,2,_⟩]) [2,4,5] (by decide) rfl
  have hR1:=hS11.pick (os':=[⟨.map (some M1),0,_⟩,⟨ptr A4 0 1,0,_⟩,⟨qv,2,_⟩,⟨ptr A1 0 4,0,_⟩,⟨ptr A2 0 3,0,_⟩,⟨ptr A3 0 1,0,_⟩,⟨ov,2,_⟩,⟨ptr A5 0 2,0,_⟩]) [2,4,5,0,1,3,6,7] (by decide) rfl
  refine iJ (b1n o r sv (iB first i) A1 A2 A3 A4 M1 qv (oM o r.cpl (first.take i)) kvs hM1.aH (fun h=>⟨(hR1.frame h.forget).var 0 rfl,ho.ab (hR1.frame h.forget),(hR1.frame h.forget).var 1 rfl,(hR1.frame h.forget).var 2 rfl⟩) hk hqu hf hr.2) ?_
  rintro r H10⟨kvs',qv',rfl,hk',hT1⟩
  have hS12:=hR1.frame hT1
  simp only[RT]at hS12
  have e1:=a3o r.off (iB first i).1.toNat hr.2.2.2.2
  have e2:=a1M (r.off>>>(iB first i).1.toNat) (wP _ hr.2.2.2.2)
  have e3:=tb r.off (iB first i).1.toNat
  have htk:=kJ first i (by omega)
  have hfl:(pr ((first.take i).filter fun c=> !r.off.testBit c.1.toNat)).length≤i*2:=by
   rw[iF]
   refine dQ 2 ?_
   refine dI (dS _ _) ?_
   simp
   omega
  rw[←hqs]at hk'
  simp(disch:=omega) only[↓RA,RZ,simprocAttr,hn,g4,hS12.ld 4 rfl,hS12.ld 7 rfl,q1,e1,e2]
  refine iA (fun q2=> ?_) (fun q2=> ?_)
  ·have hx:([iB first i].filter fun c=> !r.off.testBit c.1.toNat)=[iB first i]:=by simp[e3,decide_eq_false (show¬r.off>>>(iB first i).1.toNat%2=1 by omega)]
   simp(disch:=omega) only[↓RA,RZ,simprocAttr,hn,g9,hS12.ag 7 rfl,q1,q2]
   refine hS12.ai [I (iB first i).1,I (iB first i).2] a0V b2h rfl rfl (by simp[Value.cells]) rfl rfl (by decide) (by decide) fun w1 H11 hS13=> ?_
   simp only[RT]at hS13
   simp(disch:=omega) only[↓RA,RZ,simprocAttr,hn,q1,q2]
   refine hS13.aq 6 rfl (hS13.rd 8 rfl) a0V (by first|(simp;done)|(simp;omega)) fun w2 H12 hS14=> ?_
   simp only[RT]at hS14
   simp(disch:=omega) only[↓RA,RZ,simprocAttr,hn,g4,g6,g8,rE,g16,g17,g18,q1,q2]
   refine⟨n-1,by omega,i+1,kvs',qv',w2,⟨by omega,hk'⟩,by simp,rfl,?_⟩
   rw[hqs,htk,ew,hx,jN]
   exact hS14.pick [3,4,0,5,1,2,6] (by decide) rfl
  have hx:([iB first i].filter fun c=> !r.off.testBit c.1.toNat)=[]:=by simp[e3,decide_eq_true (show r.off>>>(iB first i).1.toNat%2=1 by omega)]
  simp(disch:=omega) only[↓RA,RZ,simprocAttr,hn,g4,g6,g8,rE,g16,g17,g18,g9,q1,q2]
  refine⟨n-1,by omega,i+1,kvs',qv',ov,⟨by omega,hk'⟩,by simp,rfl,?_⟩
  rw[hqs,htk,ew,hx,dr]
  exact hS12.pick [3,4,0,5,1,2,6] (by decide) rfl
 simp(disch:=omega) only[↓RA,RZ,simprocAttr,q1]
 have hii:i=first.length:=by omega
 subst hii
 rw[ek]at hk
 rw[ek]at hS9
 have hqu:=qP o r.cpl first
 have hoL:(pr (first.filter fun c=> !r.off.testBit c.1.toNat)).length≤2048:=by
  rw[iF]
  exact dQ 2 (dI (dS _ _) hfl)
 refine Wp.al (fun n l H'=>l.length=56∧get l 6=(.slice none 0 0)∧get l 8=(ptr A4 0 1)∧get l 9=ov∧get l 10=(.func (.func 116) #[] #[(ptr A1 0 4),(ptr A2 0 3),(ptr A3 0 1),(ptr A4 0 1)])∧∃(j:Nat)(kvs:List (Ct×Bool))(qv:Value)(q:List Ct),(n+j=1100∧bfs o r.cpl n j q=bfs o r.cpl 1100 0 (oM o r.cpl first)∧Que o q∧∀t,wY kvs t=true↔t∈q)∧get l 13=I j∧St prog H H' [⟨ptr A1 0 4,0,[(.string o.name),o.rv,o.dv,o.cv]⟩,⟨ptr A2 0 3,0,[sv,(.int .u64 r.cpl),(.int .u64 r.off)]⟩,⟨.map (some M1),0,KC kvs⟩,⟨ptr A3 0 1,0,[(.map (some M1))]⟩,⟨ptr A4 0 1,0,[qv]⟩,⟨qv,2,pr q⟩,⟨ov,2,pr (first.filter fun c=> !r.off.testBit c.1.toNat)⟩]) 1100 ?_ ?_
 ·simp(disch:=omega) only[RB,RC,simprocAttr,hn,g6,g8,rE,g9]
  exact⟨0,kvs,qv,_,⟨rfl,rfl,hqu,hk⟩,rfl,hS9⟩
 rintro n l H13⟨hn,g6,g8,g9,rE,j,kvs,qv,q,⟨hj,hbf,hqq,hkk⟩,g13,hS15⟩
 have hql:=hqq.len hf
 simp(disch:=omega) only[↓RA,RZ,simprocAttr,hn,g8,g13,hS15.ld 4 rfl,(hS15.av 5 rfl (fun _=>rfl)).len]
 refine iA (fun q3=> ?_) (fun q3=> ?_)
 ·have hjl:j<q.length:=by omega
  simp(disch:=omega) only[↓RA,RZ,simprocAttr,hn,g8,rE,g13,hS15.ld 4 rfl,(hS15.av 5 rfl (fun _=>rfl)).idx,(hS15.av 5 rfl (fun _=>rfl)).ag,jS,q3]
  have hM2:=hS15.pick (os':=[⟨.map (some M1),0,_⟩,⟨ptr A4 0 1,0,_⟩,⟨qv,2,_⟩]) [2,4,5] (by decide) rfl
  have hR2:=hS15.pick (os':=[⟨.map (some M1),0,_⟩,⟨ptr A4 0 1,0,_⟩,⟨qv,2,_⟩,⟨ptr A1 0 4,0,_⟩,⟨ptr A2 0 3,0,_⟩,⟨ptr A3 0 1,0,_⟩,⟨ov,2,_⟩]) [2,4,5,0,1,3,6] (by decide) rfl
  refine iJ (b2Q o r sv (iB q j) A1 A2 A3 A4 M1 qv q kvs hM2.aH (fun h=>⟨(hR2.frame h.forget).var 0 rfl,ho.ab (hR2.frame h.forget),(hR2.frame h.forget).var 1 rfl,(hR2.frame h.forget).var 2 rfl⟩) hkk hqq hf hr.2) ?_
  rintro r H14⟨kvs',qv',rfl,hk',hT2⟩
  have hS16:=hR2.frame hT2
  simp only[RT]at hS16
  simp(disch:=omega) only[↓RA,RZ,simprocAttr,hn,g6,g8,g9,rE,g13,q3]
  obtain⟨n',rfl⟩:∃n',n=n'+1:=⟨n-1,by omega⟩
  rw[bfs,if_pos hjl]at hbf
  exact⟨n',by omega,j+1,kvs',qv',_,⟨by omega,hbf,hqq.stepF _ _ _,hk'⟩,by simp,hS16.pick [3,4,0,5,1,2,6] (by decide) rfl⟩
 have hbq:bfs o r.cpl 1100 0 (oM o r.cpl first)=q:=by
  rw[←hbf]
  cases n with
  | zero=>rfl
  | succ n=>rw[bfs,if_neg (by omega)]
 have hqp:(pr q).length≤2048:=by rw[iF];omega
 simp(disch:=omega) only[↓RA,RZ,simprocAttr,hn,g8,g9,hS15.ld 4 rfl,q3]
 refine hS15.aq 6 rfl (hS15.rd 5 rfl) a0V (by first|(simp;done)|(simp;omega)) fun w3 H15 hS17=> ?_
 simp only[RT]at hS17
 simp(disch:=omega) only[↓RA,RZ,simprocAttr,hn,q3]
 rw[←jN,←hbq]at hS17
 have hLL:((first.filter fun c=> !r.off.testBit c.1.toNat)++bfs o r.cpl 1100 0 (oM o r.cpl first)).length<1000000:=by
  have h1:=dS (fun c:Ct=> !r.off.testBit c.1.toNat) first
  rw[dh,hbq]
  omega
 refine c2J hS17 6 rfl (ia hLL (by decide)) fun HS hSS=> ?_
 simp only[gQ,fw]at hSS
 simp(disch:=omega) only[↓RA,RZ,simprocAttr,hn,q3]
 have hM3:=hSS.pick (os':=[⟨w3,2,_⟩]) [6] (by decide) rfl
 have hR3:=hSS.pick (os':=[⟨w3,2,_⟩,⟨ptr A1 0 4,0,_⟩,⟨ptr A2 0 3,0,_⟩,⟨.map (some M1),0,_⟩,⟨ptr A3 0 1,0,_⟩,⟨ptr A4 0 1,0,_⟩,⟨qv,2,_⟩]) [6,0,1,2,3,4,5] (by decide) rfl
 refine iJ (a7p hM3.aH (by rw[pA];exact ia hLL (by decide))) ?_
 rintro r H16⟨rest,hb,hrd,hT3⟩
 have hS18:=hR3.frame hT3
 simp only[RT]at hS18
 have hrr:=hrd _ (hS18.rd 0 rfl)
 have hrc:=hrr.cells
 simp(disch:=omega) only[↓RA,RZ,simprocAttr,hn,c6a,q3]
 refine⟨⟨⟨hrr,kE,by decide⟩,fun b h=> ?_⟩,hS18.forget⟩
 rcases hS18.new _ (dU ..) b (hb b h)with h|h
 ·exact h
 ·exact h.elim
theorem b4R{α:Type}[Inhabited α][DecidableEq α](l:List α):(dd l).length≤l.length:=c1K l l.length
theorem a4d(rs:List Rk)(s:Stp)(key:Int)(h:∀g∈s.segs,g.draws.length≤8):(sN rs s key).length≤8:=by
 unfold sN
 refine dI (b4R _) ?_
 rw[pA,dF]
 refine dI (dS _ _) ?_
 unfold a8Y
 split
 ·simp
 ·exact h _ (iE (zC (p:=a9Z s key) (n:=s.segs.length) (by omega)))
def oD(o:Org)(rg:Reg)(c:Ct)(k:Nat):List Ct:=(List.range k).flatMap fun i=>if(iB rg.stops c.1.toNat).testBit i then sN o.ranks (iB (iB o.dvs c.1.toNat).stops i) c.2 else[]
theorem a0E(o:Org)(rg:Reg)(c:Ct)(k:Nat):oD o rg c (k+1)=oD o rg c k++(if(iB rg.stops c.1.toNat).testBit k then sN o.ranks (iB (iB o.dvs c.1.toNat).stops k) c.2 else[]):=by
 unfold oD
 rw[ez,dN,dK,fB,dr]
theorem a0v{o:Org}(hf:o.Fine)(rg:Reg){c:Ct}(hc:rM o c=true):∀k,k≤(iB o.dvs c.1.toNat).stops.length→(oD o rg c k).length≤k*8
 | 0,_=>by simp[oD]
 | k+1,hk=>by
   have h:=a0v hf rg hc k (by omega)
   have hc:=(uJ o c).1 hc
   rw[a0E,dh]
   split
   ·have:=a4d o.ranks (iB (iB o.dvs c.1.toNat).stops k) c.2 (hf.draws c.1.toNat (by omega) _ (iE (by omega)))
    omega
   ·simp
    omega
theorem b2E{o:Org}(hf:o.Fine)(rg:Reg){c:Ct}(hc:rM o c=true):(qM o rg c).length≤480:=by
 have h:=a0v hf rg hc _ (dm _)
 have h1:=(uJ o c).1 hc
 have:=hf.stops c.1.toNat (by omega)
 have e:qM o rg c=oD o rg c (iB o.dvs c.1.toNat).stops.length:=rfl
 rw[e]
 omega
theorem vI{o:Org}(hf:o.Fine)(rg:Reg):∀(l:List Ct),(∀c∈l,rM o c=true)→(l.flatMap (qM o rg)).length≤l.length*480
 | [],_=>by simp
 | c::l,h=>by
   rw[dK,dh,ed]
   have h1:=vI hf rg l fun x hx=>h x (by simp[hx])
   have h2:=b2E hf rg (h c (by simp))
   omega
theorem b2j(o:Org)(ho:o.In H)(hf:o.Fine)(rg:Reg)(sv:Value)(hr:rg.In H sv)(hrl:rg.stops.length=o.dvs.length)(fv:Value)(cs:List Ct)(hfi:Sl 2 jS H fv cs)(hfl:cs.length≤2048)(hfo:∀c∈cs,rM o c=true):
 Fn prog 84 [.agg #[.string o.name,o.rv,o.dv,o.cv],.agg #[sv,.int .u64 rg.cpl,.int .u64 rg.off],fv] H fun rr H'=>∃(gv:Value)(rest:List Value),rr=kU gv 2 0 (a5I o rg cs).length∧St prog H H' [⟨gv,2,pr (a5I o rg cs)++rest⟩]:=by
 refine .bO func84 rfl (by kernel_rfl) (m:=55) rfl fun l hn g0 g1 g2=> ?_
 simp(disch:=omega) only[↓RA,RB,simprocAttr,g0]
 refine(sR H).eNew 4 [(.string o.name),o.rv,o.dv,o.cv] rfl rfl (by simp[OC,((sR H).sl ho.1).cells.2.1,((sR H).sl ho.2.2.1).cells.2.1,((sR H).sl ho.2.2.2.2.1).cells.2.1]) mV fun A1 H1 hS1=> ?_
 simp only[RT]at hS1
 simp(disch:=omega) only[↓RA,RB,simprocAttr,g1]
 refine hS1.eNew 3 [sv,(.int .u64 rg.cpl),(.int .u64 rg.off)] rfl rfl (by simp[OC,(hS1.sl hr.1).cells.2.1]) mP fun A2 H2 hS2=> ?_
 simp only[RT]at hS2
 simp(disch:=omega) only[↓RA,RZ,simprocAttr,hn,g2,(hS2.sl hfi).len]
 have hS3:=hS2.nil 1
 simp only[RT]at hS3
 refine Wp.al (fun n l H'=>l.length=55∧get l 3=(ptr A1 0 4)∧get l 4=(ptr A2 0 3)∧get l 6=(.slice none 0 0)∧get l 12=fv∧get l 13=I cs.length∧∃(i:Nat)(ov:Value),(n+i=cs.length)∧get l 14=I i∧get l 7=ov∧St prog H H' [⟨ptr A1 0 4,0,[(.string o.name),o.rv,o.dv,o.cv]⟩,⟨ptr A2 0 3,0,[sv,(.int .u64 rg.cpl),(.int .u64 rg.off)]⟩,⟨ov,2,pr ((cs.take i).flatMap (qM o rg))⟩]) cs.length ?_ ?_
 ·simp(disch:=omega) only[RB,RC,simprocAttr,hn]
  exact⟨0,.slice none 0 0,by omega,rfl,rfl,hS3⟩
 rintro n l H3⟨hn,g3,g4,g6,g12,g13,i,ov,hi,g14,g7,hS4⟩
 simp(disch:=omega) only[↓RA,RB,simprocAttr,hn,g13,g14]
 refine iA (fun q1=> ?_) (fun q1=> ?_)
 ·have hci:=(uJ o _).1 (hfo _ (iE (xs:=cs) (j:=i) (by omega)))
  obtain⟨a,ha⟩:∃a:Nat,(iB cs i).1=a:=⟨(iB cs i).1.toNat,by omega⟩
  have ha1:a<o.dvs.length:=by omega
  have hst:=(ho.2.2.2.1 _ (iE ha1)).2.2
  have hs60:=hf.stops a ha1
  simp(disch:=omega) only[↓RA,RZ,simprocAttr,hn,g12,g14,(hS4.sl hfi).idx,(hS4.sl hfi).ag,jS,q1]
  refine hS4.eNew 2 [I 0,I 0] rfl rfl rfl pQ fun A3 H4 hS5=> ?_
  simp only[RT]at hS5
  simp(disch:=omega) only[↓RA,RZ,simprocAttr,hn,q1]
  refine hS5.aa 3 rfl [I (iB cs i).1,I (iB cs i).2] rfl rfl pQ (by simp) fun H5 hS6=> ?_
  simp only[RT]at hS6
  simp(disch:=omega) only[↓RA,RZ,simprocAttr,hn,g3,q1]
  simp only[ha]at hS6
  simp(disch:=omega) only[↓RA,RZ,simprocAttr,hn,hS6.ld 0 rfl,hS6.ld 3 rfl,(hS6.sl ho.2.2.1).idx,(hS6.sl ho.2.2.1).bh,(hS6.sl ho.2.2.1).ld,Dvn.cells,(hS6.sl (ho.2.2.2.1 (iB o.dvs a) (iE (by omega))).1).len,q1,ha]
  have hta:(iB cs i).1.toNat=a:=by omega
  have htk:=kJ cs i (by omega)
  have hsx:=hr.2.2.1 _ (iE (xs:=rg.stops) (j:=a) (by omega))
  have hacc:(pr ((cs.take i).flatMap (qM o rg))).length≤2048*960:=by
   rw[iF]
   have:=vI hf rg (cs.take i) fun c hc=>hfo c (List.mem_of_mem_take hc)
   rw[eI]at this
   omega
  refine Wp.al (fun n l H'=>l.length=55∧get l 3=(ptr A1 0 4)∧get l 4=(ptr A2 0 3)∧get l 6=(.slice none 0 0)∧get l 9=(ptr A3 0 2)∧get l 12=fv∧get l 13=I cs.length∧get l 14=I i∧get l 24=(iB o.dvs a).sv∧get l 25=I (iB o.dvs a).stops.length∧∃(k:Nat)(ow:Value),(n+k=(iB o.dvs a).stops.length)∧get l 26=I k∧get l 7=ow∧St prog H H' [⟨ptr A1 0 4,0,[(.string o.name),o.rv,o.dv,o.cv]⟩,⟨ptr A2 0 3,0,[sv,(.int .u64 rg.cpl),(.int .u64 rg.off)]⟩,⟨ow,2,pr ((cs.take i).flatMap (qM o rg)++oD o rg (iB cs i) k)⟩,⟨ptr A3 0 2,0,[I a,I (iB cs i).2]⟩]) (iB o.dvs a).stops.length ?_ ?_
  ·simp(disch:=omega) only[RB,RC,simprocAttr,hn,g3,g4,g6,g12,g13,g14,g7]
   refine⟨0,ov,by omega,rfl,rfl,?_⟩
   rw[show oD o rg (iB cs i) 0=[]from rfl,dr]
   exact hS6
  rintro n l H6⟨hn,g3,g4,g6,g9,g12,g13,g14,g24,g25,k,ow,hj,g26,g7,hS7⟩
  simp(disch:=omega) only[↓RA,RB,simprocAttr,hn,g25,g26]
  refine iA (fun q2=> ?_) (fun q2=> ?_)
  ·have e1:=a3o (iB rg.stops a) k hsx
   have e2:=a1M (iB rg.stops a>>>k) (wP k hsx)
   have e3:=tb (iB rg.stops a) k
   have hsu:=a0E o rg (iB cs i) k
   rw[hta]at hsu
   have hKl:=a0v hf rg (hfo _ (iE (xs:=cs) (j:=i) (by omega))) k (by rw[hta];omega)
   have hKp:(pr (oD o rg (iB cs i) k)).length≤2000:=by rw[iF];omega
   simp(disch:=omega) only[↓RA,RZ,simprocAttr,hn,g24,g26,(hS7.sl (ho.2.2.2.1 (iB o.dvs a) (iE (by omega))).1).idx,(hS7.sl (ho.2.2.2.1 (iB o.dvs a) (iE (by omega))).1).ag,Stp.cells,q2]
   refine hS7.eNew 4 [(.string ⟨#[]⟩),I 0,I 0,(.slice none 0 0)] rfl rfl rfl mY fun A4 H7 hS8=> ?_
   simp only[RT]at hS8
   simp(disch:=omega) only[↓RA,RZ,simprocAttr,hn,q2]
   refine hS8.aa 4 rfl [(.string (iB (iB o.dvs a).stops k).name),I (iB (iB o.dvs a).stops k).num,I (iB (iB o.dvs a).stops k).den,(iB (iB o.dvs a).stops k).gv] rfl (by simp[OC,(hS8.sl ((ho.2.2.2.1 (iB o.dvs a) (iE (by omega))).2.1 (iB (iB o.dvs a).stops k) (iE (by omega))).1).cells.2.1]) mY (by simp) fun H8 hS9=> ?_
   simp only[RT]at hS9
   simp(disch:=omega) only[↓RA,RZ,simprocAttr,hn,g4,g9,hS9.ld 1 rfl,hS9.ld 3 rfl,(hS9.sl hr.1).idx,(hS9.sl hr.1).ld,one,u64,q2,e1,e2]
   refine iA (fun q3=> ?_) (fun q3=> ?_)
   ·have hsu:oD o rg (iB cs i) (k+1)=oD o rg (iB cs i) k++sN o.ranks (iB (iB o.dvs a).stops k) (iB cs i).2:=by rw[hsu,e3,if_pos (decide_eq_true (by omega))]
    have hpp:(pr (sN o.ranks (iB (iB o.dvs a).stops k) (iB cs i).2)).length≤16:=by
     rw[iF]
     exact dQ 2 (a4d _ _ _ (hf.draws a ha1 _ (iE (by omega))))
    simp(disch:=omega) only[↓RA,RZ,simprocAttr,hn,g3,g9,g7,hS9.ld 0 rfl,hS9.ag 4 rfl,hS9.ld 3 rfl,q2,q3]
    refine iJ (b6E o.rv o.ranks (hS9.sl ho.1) (fun q hq=>(ho.2.1 q hq).ab hS9) ho.2.2.2.2.2.1 (iB (iB o.dvs a).stops k) (((ho.2.2.2.1 _ (iE ha1)).2.1 _ (iE (by omega))).ab hS9) (hf.draws a ha1 _ (iE (by omega))) (iB cs i).2) ?_
    rintro r H9⟨hx,hT1⟩
    have hS10:=hS9.trans hT1
    simp only[RT]at hS10
    simp(disch:=omega) only[↓RA,RZ,simprocAttr,hn,q2,q3]
    refine hS10.aq 2 rfl hx.1.rd b6J (by have h:=hpp;unfold pr at h;rw[jN,dh];omega) fun w1 H10 hS11=> ?_
    simp only[RT]at hS11
    simp(disch:=omega) only[↓RA,RZ,simprocAttr,hn,g3,g4,g6,g9,g12,g13,g14,g24,g25,g26,q2,q3]
    refine⟨n-1,by omega,k+1,w1,by omega,by simp,rfl,?_⟩
    rw[hsu,←dD,jN]
    exact hS11.pick [0,1,2,3] (by decide) rfl
   have hsu:oD o rg (iB cs i) (k+1)=oD o rg (iB cs i) k:=by rw[hsu,e3,if_neg (by rw[decide_eq_true_iff];omega),dr]
   simp(disch:=omega) only[↓RA,RZ,simprocAttr,hn,g3,g4,g6,g9,g12,g13,g14,g24,g25,g26,g7,q2,q3]
   refine⟨n-1,by omega,k+1,ow,by omega,by simp,rfl,?_⟩
   rw[hsu]
   exact hS9.pick [0,1,2,3] (by decide) rfl
  simp(disch:=omega) only[↓RA,RZ,simprocAttr,hn,g3,g4,g6,g12,g13,g14,g7,q2]
  refine⟨cs.length-(i+1),by omega,i+1,ow,by omega,by simp,rfl,?_⟩
  have hkk:k=(iB o.dvs a).stops.length:=by omega
  rw[htk,dN,dK,fB,dr]
  have e:qM o rg (iB cs i)=oD o rg (iB cs i) k:=by rw[hkk,←hta];rfl
  rw[e]
  exact hS7.pick [0,1,2] (by decide) rfl
 simp(disch:=omega) only[↓RA,RZ,simprocAttr,hn,g7,q1]
 have hii:i=cs.length:=by omega
 subst hii
 rw[ek]at hS4
 have hLL:(cs.flatMap (qM o rg)).length<1000000:=by
  have:=vI hf rg cs hfo
  omega
 refine c4C hS4 2 rfl (ia hLL (by decide)) fun HS hSS=> ?_
 simp only[gQ,fw]at hSS
 simp(disch:=omega) only[↓RA,RZ,simprocAttr,hn,g7,q1]
 have hM1:=hSS.pick (os':=[⟨ov,2,_⟩]) [2] (by decide) rfl
 have hR1:=hSS.pick (os':=[⟨ov,2,_⟩,⟨ptr A1 0 4,0,_⟩,⟨ptr A2 0 3,0,_⟩]) [2,0,1] (by decide) rfl
 refine iJ (yW hM1.aH (by rw[pA];exact ia hLL (by decide))) ?_
 rintro r H11⟨rest,rfl,hT2⟩
 have hS12:=hR1.frame hT2
 simp only[RT]at hS12
 obtain⟨rc,hrcE⟩:∃w,w=kU ov 2 0 (dd (wC (cs.flatMap (qM o rg)))).length:=⟨_,rfl⟩
 have hrr:RdAt H11 rc 2 (pr (dd (wC (cs.flatMap (qM o rg))))):=hrcE▸tT (hS12.rd 0 rfl)
 have hrc:=hrr.cells
 rw[←hrcE]
 simp(disch:=omega) only[↓RA,RZ,simprocAttr,hn,c6s,q1]
 exact⟨ov,rest,hrcE,hS12.pick [0] (by decide) rfl⟩
end Go.Ds
namespace Go.Ds
open Go.Proofs Go.Proofs.Tryz
variable {H:Heap}
set_option maxRecDepth 10000
theorem Sl.bB{α:Type}{n:Nat}{cel:α→List Value}{v:Value}{xs:List α}(h:Sl n cel H v xs):jP v=true:=by
 rcases h.rd with⟨rfl,_⟩|⟨A,i,e,row,ty,rw,lo,ver,n,_,_,_,_,_,_,rfl⟩<;>rfl
theorem c1Y{α:Type}[Inhabited α][DecidableEq α]{l:List α}{x:α}(h:x∈dd l):x∈l:=by
 unfold dd yM at h
 obtain⟨i,hi,rfl⟩:=dy.1 h
 exact iE (dB.1 (eo.1 hi).1)
theorem b7L{l:List (Int×Int)}{x:Int×Int}:x∈wC l↔x∈l:=(pP l).mem_iff
theorem Que.bfs{o:Org}(cp:Nat):∀(n i:Nat){q:List Ct},Que o q→Que o (bfs o cp n i q)
 | 0,_,_,h=>h
 | n+1,i,q,h=>by
   rw[Go.Ds.bfs]
   split
   ·exact Que.bfs cp n (i+1) (h.stepF cp true _)
   ·exact h
theorem a2H{o:Org}{rg:Reg}{l:List Ct}(hl:∀c∈l,rM o c=true):∀c∈uT o rg l,rM o c=true:=by
 intro c hc
 unfold uT at hc
 have hc:=b7L.1 (c1Y hc)
 rcases dJ.1 hc with h|h
 ·exact hl c (eo.1 h).1
 ·exact((qP o rg.cpl l).bfs rg.cpl 1100 0).2 c h
theorem a1u{o:Org}(hf:o.Fine){rg:Reg}{l:List Ct}(hl:l.length≤1024):(uT o rg l).length≤2048:=by
 unfold uT
 refine dI (b4R _) ?_
 rw[pA,dh]
 have h1:=dS (fun c:Ct=> !rg.off.testBit c.1.toNat) l
 have h2:=((qP o rg.cpl l).bfs rg.cpl 1100 0).len hf
 omega
theorem a4W(o:Org)(ho:o.In H)(hf:o.Fine)(rg:Reg)(sv:Value)(hr:rg.In H sv)(hrl:rg.stops.length=o.dvs.length)(fv:Value)(cs:List Ct)(hfi:Sl 2 jS H fv cs)(hfl:cs.length≤1024)(hfo:∀c∈cs,rM o c=true):
 Fn prog 48 [.agg #[.string o.name,o.rv,o.dv,o.cv],.agg #[sv,.int .u64 rg.cpl,.int .u64 rg.off],fv] H fun rr H'=>∃(gv:Value)(rest:List Value),rr=kU gv 2 0 (uG o rg cs).length∧St prog H H' [⟨gv,2,pr (uG o rg cs)++rest⟩]:=by
 refine .bO func48 rfl (by kernel_rfl) (m:=14) rfl fun l hn g0 g1 g2=> ?_
 simp(disch:=omega) only[↓RA,RB,simprocAttr,g0]
 refine(sR H).eNew 4 [(.string o.name),o.rv,o.dv,o.cv] rfl rfl (by simp[OC,((sR H).sl ho.1).cells.2.1,((sR H).sl ho.2.2.1).cells.2.1,((sR H).sl ho.2.2.2.2.1).cells.2.1]) mV fun A1 H1 hS1=> ?_
 simp only[RT]at hS1
 simp(disch:=omega) only[↓RA,RB,simprocAttr,g1]
 refine hS1.eNew 3 [sv,(.int .u64 rg.cpl),(.int .u64 rg.off)] rfl rfl (by simp[OC,(hS1.sl hr.1).cells.2.1]) mP fun A2 H2 hS2=> ?_
 simp only[RT]at hS2
 simp(disch:=omega) only[↓RA,RB,simprocAttr]
 refine Wp.aO jZ [(0,6),(1,6)] (by kernel_rfl) (by kernel_rfl) ?_
 simp(disch:=omega) only[↓RA,RZ,simprocAttr,hn,g2,hS2.ag 0 rfl,hS2.ag 1 rfl]
 refine iJ (a6i o (ho.ab hS2) hf rg sv (hr.ab hS2) fv cs (hS2.sl hfi) hfl hfo) ?_
 rintro r H3⟨hx,hT1⟩
 have hS3:=hS2.trans hT1
 simp only[RT]at hS3
 simp(disch:=omega) only[↓RA,RZ,simprocAttr,hn]
 refine iJ (b2j o (ho.ab hS3) hf rg sv (hr.ab hS3) hrl r (uT o rg cs) hx.1 (a1u hf hfl) (a2H hfo)) ?_
 rintro r H4⟨gv,rest,he2,hT2⟩
 have hS4:=hS3.trans hT2
 simp only[RT]at hS4
 have hx2:Slx 2 jS H4 (fun B=>H.length≤B) r (uG o rg cs):=he2▸uZ (hS4.pick [2] (by decide) rfl)
 simp(disch:=omega) only[↓RA,RZ,simprocAttr,hn,hS3.ag 0 rfl,hS3.ag 1 rfl,c5x]
 exact⟨gv,rest,he2,hS4.pick [2] (by decide) rfl⟩
def rgc(p:Value×Reg):List Value:=[p.1,.int .u64 p.2.cpl,.int .u64 p.2.off]
def vQ(o:Org)(l:List (Value×Reg)):Int:=if organE o≠0 then organE o else lP (fun j=>mA o (iB l j).2) l.length
theorem b2I(o:Org)(ho:o.In H)(lv:Value)(xs:List (Value×Reg))(hl:Sl 3 rgc H lv xs)(hle:xs.length<1000000000)(hr:∀p∈xs,p.2.In H p.1):
 Fn prog 83 [.agg #[.string o.name,o.rv,o.dv,o.cv],lv] H fun r H'=>r=I (vQ o xs)∧St prog H H' []:=by
 refine .aD func83 rfl (by kernel_rfl) (m:=27) rfl fun l hn g0 g1=> ?_
 simp(disch:=omega) only[↓RA,RB,simprocAttr,g0]
 refine(sR H).eNew 4 [(.string o.name),o.rv,o.dv,o.cv] rfl rfl (by simp[OC,((sR H).sl ho.1).cells.2.1,((sR H).sl ho.2.2.1).cells.2.1,((sR H).sl ho.2.2.2.2.1).cells.2.1]) mV fun A1 H1 hS1=> ?_
 simp only[RT]at hS1
 simp(disch:=omega) only[↓RA,RZ,simprocAttr,hn,hS1.ag 0 rfl]
 refine hS1.cF (yV o (ho.ab hS1)) fun H2 hS2=> ?_
 simp(disch:=omega) only[↓RA,RB,simprocAttr,hn]
 refine iA (fun h1=> ?_) (fun h1=> ?_)
 ·simp(disch:=omega) only[↓RA,RZ,simprocAttr,hn,c0E,h1]
  exact⟨by rw[vQ,if_pos h1],hS2.forget⟩
 have hE:vQ o xs=lP (fun j=>mA o (iB xs j).2) xs.length:=by rw[vQ,if_neg h1]
 simp(disch:=omega) only[↓RA,RZ,simprocAttr,hn,g1,(hS2.sl hl).len,h1]
 refine Wp.al (fun n l H'=>l.length=27∧get l 2=(ptr A1 0 4)∧get l 14=lv∧get l 15=I xs.length∧∃(j:Nat),(n+j=xs.length∧∀q,q<j→mA o (iB xs q).2=0)∧get l 16=I j∧St prog H H' [⟨ptr A1 0 4,0,[(.string o.name),o.rv,o.dv,o.cv]⟩]) xs.length ?_ ?_
 ·simp(disch:=omega) only[RB,RC,simprocAttr,hn]
  exact⟨0,⟨by omega,fun q hq=>absurd hq (dL _)⟩,rfl,hS2⟩
 rintro n l H3⟨hn,g2,g14,g15,j,⟨hj,hz⟩,g16,hS3⟩
 simp(disch:=omega) only[↓RA,RB,simprocAttr,hn,g15,g16]
 refine iA (fun q1=> ?_) (fun q1=> ?_)
 ·simp(disch:=omega) only[↓RA,RZ,simprocAttr,hn,g14,g16,(hS3.sl hl).idx,(hS3.sl hl).ag,rgc,q1]
  refine hS3.eNew 3 [(.slice none 0 0),(.int .u64 0),(.int .u64 0)] rfl rfl rfl mP fun A2 H4 hS4=> ?_
  simp only[RT]at hS4
  simp(disch:=omega) only[↓RA,RZ,simprocAttr,hn,q1]
  refine hS4.aa 1 rfl [(iB xs j).1,(.int .u64 (iB xs j).2.cpl),(.int .u64 (iB xs j).2.off)] rfl (by simp[OC,(hS4.sl (hr (iB xs j) (iE (by omega))).1).cells.2.1]) mP (by simp) fun H5 hS5=> ?_
  simp only[RT]at hS5
  simp(disch:=omega) only[↓RA,RZ,simprocAttr,hn,g2,hS5.ag 0 rfl,hS5.ag 1 rfl,q1]
  refine hS5.cF (b6g o (ho.ab hS5) (iB xs j).2 (iB xs j).1 ((hr _ (iE (by omega))).ab hS5)) fun H6 hS6=> ?_
  simp(disch:=omega) only[↓RA,RZ,simprocAttr,hn,q1]
  refine iA (fun q2=> ?_) (fun q2=> ?_)
  ·simp(disch:=omega) only[↓RA,RZ,simprocAttr,hn,c0E,q1,q2]
   exact⟨by rw[hE,oA (fun j=>mA o (iB xs j).2) xs.length j (by omega) q2 hz],hS6.forget⟩
  simp(disch:=omega) only[↓RA,RZ,simprocAttr,hn,g2,g14,g15,g16,q1,q2]
  exact⟨n-1,by omega,j+1,⟨by omega,fun q hq=>by rcases du.1 hq with e|e;(· exact hz q e);(· rw[e];exact dG.1 q2)⟩,by simp,hS6.pick [0] (by decide) rfl⟩
 simp(disch:=omega) only[↓RA,RZ,simprocAttr,hn,c0E,q1]
 exact⟨by rw[hE,kT (fun j=>mA o (iB xs j).2) xs.length fun q hq=>hz q (by omega)],hS3.forget⟩
def a5s(o:Org)(rg:Reg)(c:Ct):Int:=if mA o rg≠0 then mA o rg else a0H o c
theorem a7o(o:Org)(sv:Value)(rg:Reg):vQ o [(sv,rg)]=mA o rg:=by
 unfold vQ
 split
 ·rename_i h
  unfold mA
  rw[if_pos h]
 ·by_cases h:mA o rg=0
  ·rw[h]
   exact kT _ _ fun j hj=>by
    have:j=0:=by simpa using hj
    rw[this]
    exact h
  ·exact oA (fun j=>mA o (iB [(sv,rg)] j).2) 1 0 (by decide) h fun j hj=>absurd hj (dL _)
theorem c1f(o:Org)(ho:o.In H)(rg:Reg)(sv:Value)(hr:rg.In H sv)(c:Ct):
 Fn prog 79 [.agg #[.string o.name,o.rv,o.dv,o.cv],.agg #[sv,.int .u64 rg.cpl,.int .u64 rg.off],.agg #[I c.1,I c.2]] H fun r H'=>r=I (a5s o rg c)∧St prog H H' []:=by
 refine .bO func79 rfl (by kernel_rfl) (m:=18) rfl fun l hn g0 g1 g2=> ?_
 simp(disch:=omega) only[↓RA,RB,simprocAttr,g0]
 refine(sR H).eNew 4 [(.string o.name),o.rv,o.dv,o.cv] rfl rfl (by simp[OC,((sR H).sl ho.1).cells.2.1,((sR H).sl ho.2.2.1).cells.2.1,((sR H).sl ho.2.2.2.2.1).cells.2.1]) mV fun A1 H1 hS1=> ?_
 simp only[RT]at hS1
 simp(disch:=omega) only[↓RA,RB,simprocAttr,g1]
 refine hS1.eNew 3 [sv,(.int .u64 rg.cpl),(.int .u64 rg.off)] rfl rfl (by simp[OC,(hS1.sl hr.1).cells.2.1]) mP fun A2 H2 hS2=> ?_
 simp only[RT]at hS2
 simp(disch:=omega) only[↓RA,RB,simprocAttr,g2]
 refine hS2.eNew 2 [I c.1,I c.2] rfl rfl rfl pQ fun A3 H3 hS3=> ?_
 simp only[RT]at hS3
 simp(disch:=omega) only[↓RA,RZ,simprocAttr,hn,hS3.ag 0 rfl,hS3.ag 1 rfl]
 refine hS3.ai [sv,(.int .u64 rg.cpl),(.int .u64 rg.off)] c4O c5a rfl rfl (by first|(simp[];done)|simp[Value.cells]) (by first|(simp[];done)|simp[Value.cells]) (by simp[OC,(hS3.sl hr.1).cells.2.1]) (by decide) (by decide) fun w1 H4 hS4=> ?_
 simp only[RT]at hS4
 simp(disch:=omega) only[↓RA,RZ,simprocAttr,hn]
 refine hS4.cF (b2I o (ho.ab hS4) w1 [(sv,rg)] (hS4.av 3 rfl (fun _=>rfl)) (by simp) (by intro p hp;rw[dC.1 hp];exact hr.ab hS4)) fun H5 hS5=> ?_
 have hsc:=a7o o sv rg
 simp(disch:=omega) only[↓RA,RB,simprocAttr,hn,hsc]
 refine iA (fun h1=> ?_) (fun h1=> ?_)
 ·simp(disch:=omega) only[↓RA,RZ,simprocAttr,hn,c4i,hsc,h1]
  exact⟨by rw[a5s,if_pos h1],hS5.forget⟩
 simp(disch:=omega) only[↓RA,RZ,simprocAttr,hn,hS5.ag 0 rfl,hS5.ag 2 rfl,hsc,h1]
 refine hS5.cF (wK o (ho.ab hS5) c) fun H6 hS6=> ?_
 simp(disch:=omega) only[↓RA,RZ,simprocAttr,hn,c4i,hsc,h1]
 exact⟨by rw[a5s,if_neg h1],hS6.forget⟩
def lI(o:Org)(rg:Reg)(c:Ct):List Ct:=if a5s o rg c=0 then uG o rg [c]else[]
theorem oW{o:Org}{rg:Reg}(h:mA o rg=0):organE o=0∧rg.stops.length=o.dvs.length:=by
 unfold mA at h
 split at h
 ·rename_i hh;exact absurd h hh
 rename_i h1
 split at h
 ·omega
 exact⟨dG.1 h1,by omega⟩
theorem a3y{o:Org}{rg:Reg}{c:Ct}(h:a5s o rg c=0):mA o rg=0∧rM o c=true:=by
 unfold a5s at h
 split at h
 ·rename_i hh;exact absurd h hh
 ·rename_i hh
  exact⟨dG.1 hh,(tX o c).1 h⟩
theorem b3V(o:Org)(ho:o.In H)(rg:Reg)(sv:Value)(hr:rg.In H sv)(c:Ct):
 Fn prog 43 [.agg #[.string o.name,o.rv,o.dv,o.cv],.agg #[sv,.int .u64 rg.cpl,.int .u64 rg.off],.agg #[I c.1,I c.2]] H fun r H'=>∃pv,r=.tuple #[pv,I (a5s o rg c)]∧∃(gv:Value)(rest:List Value),pv=kU gv 2 0 (lI o rg c).length∧St prog H H' [⟨gv,2,pr (lI o rg c)++rest⟩]:=by
 refine .bO func43 rfl (by kernel_rfl) (m:=21) rfl fun l hn g0 g1 g2=> ?_
 simp(disch:=omega) only[↓RA,RB,simprocAttr,g0]
 refine(sR H).eNew 4 [(.string o.name),o.rv,o.dv,o.cv] rfl rfl (by simp[OC,((sR H).sl ho.1).cells.2.1,((sR H).sl ho.2.2.1).cells.2.1,((sR H).sl ho.2.2.2.2.1).cells.2.1]) mV fun A1 H1 hS1=> ?_
 simp only[RT]at hS1
 simp(disch:=omega) only[↓RA,RB,simprocAttr,g1]
 refine hS1.eNew 3 [sv,(.int .u64 rg.cpl),(.int .u64 rg.off)] rfl rfl (by simp[OC,(hS1.sl hr.1).cells.2.1]) mP fun A2 H2 hS2=> ?_
 simp only[RT]at hS2
 simp(disch:=omega) only[↓RA,RB,simprocAttr,g2]
 refine hS2.eNew 2 [I c.1,I c.2] rfl rfl rfl pQ fun A3 H3 hS3=> ?_
 simp only[RT]at hS3
 simp(disch:=omega) only[↓RA,RZ,simprocAttr,hn,hS3.ag 0 rfl,hS3.ag 1 rfl,hS3.ag 2 rfl]
 refine hS3.cF (c1f o (ho.ab hS3) rg sv (hr.ab hS3) c) fun H4 hS4=> ?_
 simp(disch:=omega) only[↓RA,RB,simprocAttr,hn]
 refine iA (fun h1=> ?_) (fun h1=> ?_)
 ·simp(disch:=omega) only[↓RA,RZ,simprocAttr,hn,c3d,h1]
  rw[show lI o rg c=[]from if_neg h1]
  exact⟨.slice none 0 0,rfl,.slice none 0 0,[],rfl,hS4.forget.nil 1⟩
 have h0:=dG.1 h1
 obtain⟨hz1,hz2⟩:=a3y h0
 obtain⟨hz3,hz4⟩:=oW hz1
 simp(disch:=omega) only[↓RA,RZ,simprocAttr,hn,hS4.ag 0 rfl,hS4.ag 1 rfl,hS4.ag 2 rfl,h1]
 refine hS4.ai [I c.1,I c.2] a0V b2h rfl rfl (by simp[Value.cells]) rfl rfl (by decide) (by decide) fun w1 H5 hS5=> ?_
 simp only[RT]at hS5
 simp(disch:=omega) only[↓RA,RZ,simprocAttr,hn,h1]
 refine iJ (a4W o (ho.ab hS5) (Org.bg hz3) rg sv (hr.ab hS5) hz4 w1 [c] (hS5.av 3 rfl kE) (by simp) (by intro x hx;rw[dC.1 hx];exact hz2)) ?_
 rintro r H6⟨gv,rest,he2,hT2⟩
 have hS6:=hS5.trans hT2
 simp only[RT]at hS6
 have hx2:Slx 2 jS H6 (fun B=>H.length≤B) r (uG o rg [c]):=he2▸uZ (hS6.pick [4] (by decide) rfl)
 simp(disch:=omega) only[↓RA,RZ,simprocAttr,hn,c3d,h1,hx2.1.bB]
 rw[show lI o rg c=uG o rg [c]from if_pos h0]
 exact⟨r,by rw[h0],gv,rest,he2,hS6.pick [4] (by decide) rfl⟩
theorem c3N(o:Org)(ho:o.In H)(rg:Reg)(sv:Value)(hr:rg.In H sv)(c:Ct):
 Fn prog 43 [.agg #[.string o.name,o.rv,o.dv,o.cv],.agg #[sv,.int .u64 rg.cpl,.int .u64 rg.off],.agg #[I c.1,I c.2]] H fun r H'=>∃pv,r=.tuple #[pv,I (a5s o rg c)]∧Slx 2 jS H' (fun B=>H.length≤B) pv (lI o rg c)∧St prog H H' []:=
 (b3V o ho rg sv hr c).mono fun _ _⟨pv,e,_,_,e2,h⟩=>⟨pv,e,e2▸uZ h,h.forget⟩
end Go.Ds
namespace Go.Ds
open Go.Proofs
structure Ctl where
 kind:Int
 dv:Int
 ix:Int
 deriving Inhabited,DecidableEq
def Ctl.cells(c:Ctl):List Value:=[I c.kind,I c.dv,I c.ix]
def oQ(n:Nat):List Nat:=(List.range 64).filter fun i=>n.testBit i
def a0d(d:Nat)(i:Nat):Ctl:=⟨1,(d:Int),(i:Int)⟩
def wN(i:Nat):Ctl:=⟨2,0,(i:Int)⟩
def a4H(i:Nat):Ctl:=⟨3,(i:Int),0⟩
def pD(r:Reg):List Ctl:=((List.range r.stops.length).flatMap fun d=>(oQ (iB r.stops d)).map (a0d d))++(oQ r.cpl).map wN++(oQ r.off).map a4H
def tO(n:Nat)(i:Int):Nat:=(BitVec.ofNat 64 n&&&~~~ BitVec.ofNat 64 (2^i.toNat)).toNat
def kW(r:Reg)(c:Ctl):Reg:=if c.kind=1 then{r with stops:=r.stops.set c.dv.toNat (tO (iB r.stops c.dv.toNat) c.ix)}else if c.kind=2 then{r with cpl:=tO r.cpl c.ix}else{r with off:=tO r.off c.dv}
def sC(o:Org)(i:Nat):List Ct:=(List.range ((iB o.dvs i).hi-(iB o.dvs i).lo+1).toNat).map fun(k:Nat)=>((i:Int),(iB o.dvs i).lo+(k:Int))
def kG(o:Org):List Ct:=(List.range o.dvs.length).flatMap (sC o)
def pX(o:Org)(r:Reg):List (List Ct):=(kG o).map (lI o r)
def mK(o:Org)(r:Reg):List Ctl:=(pD r).filter fun c=>decide (pX o (kW r c)=pX o r)
end Go.Ds
namespace Go.Ds
open Go.Proofs Go.Proofs.Tryz
variable {H:Heap}
set_option maxRecDepth 10000
set_option maxHeartbeats 1000000
theorem Wp.aE{P:Program}{c c':Code}{l l':List Value}{Q:nK}(hc:c'=c)(hl:l'=l)(h:SW P c l H Q):Wp P c' l' H Q:=by
 subst hc hl;exact h.wp
theorem Wp.bl{P:Program}{c:Code}{l:List Value}{Q:nK}(h:∀l',l'=l→Wp P c l' H Q):Wp P c l H Q:=h l rfl
theorem Wp.aZ{P:Program}{t:Tmp}{ps:Array Tmp}{assign body:Code}{l:List Value}{Q:nK}{k:FuncId}{captured:List Value}(hg:get l t=.func (.func k) #[] captured.toArray)
 (h:∀r:Loop,r.state=.ready→r.pending=none→r.tmps=l.toArray→r.params=ps→r.assign=assign→r.body=body→
   FnS P k ([.func (.yield H.length) #[] #[]]++captured) (H.cons (.loop r)) (b5w P l H.length Q)):Wp P (.rangeFunc (.tmp t) ps assign body) l H Q:=
 Wp.range (first:=[]) rfl hg (h (b0E l ps assign body) rfl rfl rfl rfl rfl rfl)
theorem Lp.aV{P:Program}{B:Base}{L:Nat}{r:Loop}{H2:Heap}{ls rest ls':List Ob}(h:Lp P B L r H (ls++rest))(h2:St P ⟨H,pG ls⟩ H2 ls'):Lp P B L r H2 (ls'++rest) where
 st:=h.st.frame h2
 get:=by rw[h2.other (jG h.get) fun o ho=>h.ne o (List.mem_append_left _ ho)];exact h.get
 lo:=h.lo
 ne o ho hb:=by
  rcases dJ.1 ho with ho|ho
  ·have hl:=jG h.get
   rcases h2.new o ho L hb with h3|⟨o',ho',hb'⟩
   ·have h3:H.length≤L:=h3
    omega
   ·exact h.ne o' (List.mem_append_left _ ho') hb'
  ·exact h.ne o (eN _ ho) hb
theorem Lp.left{P:Program}{B:Base}{L:Nat}{r:Loop}{ls rest:List Ob}(h:Lp P B L r H (ls++rest)):Lp P B L r H ls:=h.sub (fq _ _)
theorem OwnAt.var{P:Program}{A n:Nat}{cs:List Value}(h:OwnAt P H ⟨ptr A 0 n,0,cs⟩):Var H A n cs:=by
 unfold OwnAt at h
 rw[if_pos rfl]at h
 rcases h with⟨A',ty,lo,ver,h1,h2,h3⟩|⟨A',es,ck,ver,_,_,h3,_⟩
 ·simp only[ptr,Value.pointer.injEq,dE,Addr.mk.injEq]at h3
  obtain⟨rfl,_,hn⟩:=h3
  exact⟨hn,ty,true,lo,ver,h1,h2⟩
 ·cases h3
theorem a5x(x:Nat)(hx:x<18446744073709551616)(A:Nat)(f:Value)(J:Nat→Heap→Prop)(h0:J 0 H)(hg:∀j H1,J j H1→Var H1 A 1 [.int .u64 x])
 (hs:∀j H1,j<64→x.testBit j=false→J j H1→J (j+1) H1)
 (hf:∀j H1,j<64→x.testBit j=true→J j H1→qZ prog f [I j] H1 fun v H2=>v=.bool true∧J (j+1) H2):
 FnS prog 199 [f,ptr A 0 1] H fun _ H'=>J 64 H':=by
 refine FnS.aX func199 rfl (by kernel_rfl) fun l hl=> ?_
 have hn:l.length=19:=by rw[hl];rfl
 have g0:get l 0=f:=by rw[hl];rfl
 have g1:get l 1=(ptr A 0 1):=by rw[hl];rfl
 clear hl
 simp(disch:=omega) only[↓RA,RB,simprocAttr]
 refine Wp.al (fun n l H'=>l.length=19∧get l 0=f∧get l 1=ptr A 0 1∧∃j:Nat,n+j=64∧get l 4=I j∧J j H') 64 ?_ ?_
 ·simp(disch:=omega) only[RB,RC,simprocAttr,hn,g0,g1]
  exact⟨0,rfl,rfl,h0⟩
 rintro n l H9⟨hn,g0,g1,j,hj,g4,hJ⟩
 have hV:=hg j H9 hJ
 simp(disch:=omega) only[↓RA,RB,simprocAttr,hn,g4]
 refine iA (fun q1=> ?_) (fun q1=> ?_)
 ·have e1:=a3o x j hx
  have e2:=a1M (x>>>j) (wP j hx)
  have e3:=tb x j
  simp(disch:=omega) only[↓RA,RZ,simprocAttr,hn,g1,g4,hV.ld,q1,e1,e2]
  refine kB (fun q2=> ?_) (fun q2=> ?_)
  ·simp(disch:=omega) only[↓RA,RZ,simprocAttr,hn,g0,q1,q2]
   refine a1A (hf j H9 (by omega) (by rw[e3];exact decide_eq_true (by omega)) hJ) ?_
   rintro r H10⟨rfl,hJ2⟩
   simp(disch:=omega) only[↓RA,RZ,simprocAttr,hn,g0,g1,g4,q1,q2]
   exact⟨n-1,by omega,j+1,by omega,by simp,hJ2⟩
  simp(disch:=omega) only[↓RA,RZ,simprocAttr,hn,g0,g1,g4,q1,q2]
  exact⟨n-1,by omega,j+1,by omega,by simp,hs j _ (by omega) (by rw[e3];exact decide_eq_false (by omega)) hJ⟩
 simp(disch:=omega) only[↓RA,RZ,simprocAttr,c4S,q1]
 have e:j=64:=by omega
 exact e▸hJ
theorem a0K{n i:Nat}(h:i<n):∃t,List.range n=List.range i++i::t:=by
 refine⟨(List.range n).drop (i+1),?_⟩
 have h1:(List.range n).take i=List.range i:=by rw[List.take_range,ff (by omega)]
 have h2:=eQ (l:=List.range n) (i:=i) (by simpa using h)
 rw[gT]at h2
 rw[←h1,←h2,fL]
def rS(o:Org)(i:Nat):Nat:=((iB o.dvs i).hi-(iB o.dvs i).lo+1).toNat
def kAt(o:Org)(i k:Nat):Ct:=((i:Int),(iB o.dvs i).lo+(k:Int))
def yI(o:Org)(i k:Nat):List Ct:=(List.range i).flatMap (sC o)++(List.range k).map (kAt o i)
theorem a4c(o:Org)(i k:Nat):yI o i (k+1)=yI o i k++[kAt o i k]:=by
 unfold yI
 rw[ez,dA,dD]
 rfl
theorem zY(o:Org)(i:Nat):yI o i (rS o i)=(List.range (i+1)).flatMap (sC o):=by
 unfold yI
 rw[ez,dN,dK,fB,dr]
 rfl
theorem a1z(o:Org){i k:Nat}(hi:i<o.dvs.length)(hk:k<rS o i):∃e,kG o=yI o i k++kAt o i k::e:=by
 obtain⟨t1,e1⟩:=a0K hi
 obtain⟨t2,e2⟩:=a0K hk
 refine⟨t2.map (kAt o i)++t1.flatMap (sC o),?_⟩
 unfold kG yI
 rw[e1,dN,dK]
 have:sC o i=(List.range (rS o i)).map (kAt o i):=rfl
 rw[this,e2,dA,ef]
 simp
theorem a6N(o:Org)(hf:o.Fine)(rg:Reg)(sv:Value)(AO AR:Nat)(f:Value)(J:List Ct→List Ob→Heap→Prop)(h0:J [] [] H)
 (hg:∀d xs H1,J d xs H1→Var H1 AO 4 [.string o.name,o.rv,o.dv,o.cv]∧o.In H1∧Var H1 AR 3 [sv,.int .u64 rg.cpl,.int .u64 rg.off]∧rg.In H1 sv∧∀x∈xs,OwnAt prog H1 x)
 (hst:∀d xs H1 H2 ys,J d xs H1→St prog H1 H2 ys→J d (xs++ys) H2)
 (hdr:∀d xs ys H1,J d (xs++ys) H1→J d xs H1)
 (hy:∀d c e xs H1 H2 pv gv rest,kG o=d++c::e→J d xs H1→St prog H1 H2 [⟨gv,2,pr (lI o rg c)++rest⟩]→pv=kU gv 2 0 (lI o rg c).length→qZ prog f [.agg #[I c.1,I c.2],pv] H2 fun v H3=>v=.bool true∧J (d++[c]) xs H3):
 FnS prog 77 [f,ptr AO 0 4,ptr AR 0 3] H fun _ H'=>J (kG o) [] H':=by
 have hG0:=hg _ _ _ h0
 refine FnS.aX func77 rfl (by kernel_rfl) fun l hl=> ?_
 have hn:l.length=44:=by rw[hl];rfl
 have g0:get l 0=f:=by rw[hl];rfl
 have g1:get l 1=(ptr AO 0 4):=by rw[hl];rfl
 have g2:get l 2=(ptr AR 0 3):=by rw[hl];rfl
 clear hl
 simp(disch:=omega) only[↓RA,RZ,simprocAttr,hn,g1,((hG0.1.ab (sR H).ab)).ld,((sR H).sl hG0.2.1.2.2.1).len]
 refine Wp.al (fun n l H'=>l.length=44∧get l 0=f∧get l 1=ptr AO 0 4∧get l 2=ptr AR 0 3∧get l 11=o.dv∧get l 12=I o.dvs.length∧∃i:Nat,n+i=o.dvs.length∧get l 13=I i∧J ((List.range i).flatMap (sC o)) [] H') o.dvs.length ?_ ?_
 ·simp(disch:=omega) only[RB,RC,simprocAttr,hn,g0,g1,g2]
  exact⟨0,by omega,rfl,h0⟩
 rintro n l H9⟨hn,g0,g1,g2,g11,g12,i,hi,g13,hJ⟩
 obtain⟨hV1,hO1,hV2,hR1,_⟩:=hg _ _ _ hJ
 have hdl:=hO1.2.2.2.2.2.2.1
 simp(disch:=omega) only[↓RA,RB,simprocAttr,hn,g12,g13]
 refine iA (fun q1=> ?_) (fun q1=> ?_)
 ·have hki:=hf.keys i (by omega)
  simp(disch:=omega) only[↓RA,RZ,simprocAttr,hn,g11,g13,((sR H9).sl hO1.2.2.1).idx,((sR H9).sl hO1.2.2.1).ag,Dvn.cells,q1]
  refine(sR H9).eNew 5 [(.string ⟨#[]⟩),(.bool false),I 0,I 0,(.slice none 0 0)] rfl rfl rfl a0X fun A1 H1 hS1=> ?_
  simp only[RT]at hS1
  simp(disch:=omega) only[↓RA,RZ,simprocAttr,hn,q1]
  refine hS1.aa 0 rfl [(.string (iB o.dvs i).name),(.bool (iB o.dvs i).pedal),I (iB o.dvs i).lo,I (iB o.dvs i).hi,(iB o.dvs i).sv] rfl (by simp[OC,(hS1.sl (hO1.2.2.2.1 (iB o.dvs i) (iE (by omega))).1).cells.2.1]) a0X (by simp) fun H2 hS2=> ?_
  simp only[RT]at hS2
  simp(disch:=omega) only[↓RA,RZ,simprocAttr,hn,hS2.ld 0 rfl,q1]
  have hJ1:=hst _ _ _ _ _ hJ hS2
  have hcn:(rS o i:Int)=(iB o.dvs i).hi-(iB o.dvs i).lo+1:=by unfold rS;omega
  refine Wp.al (fun n l H'=>l.length=44∧get l 0=f∧get l 1=ptr AO 0 4∧get l 2=ptr AR 0 3∧get l 4=I i∧get l 5=ptr A1 0 5∧get l 11=o.dv∧get l 12=I o.dvs.length∧get l 13=I i∧∃k:Nat,n+k=rS o i∧get l 6=I ((iB o.dvs i).lo+k)∧J (yI o i k) [⟨ptr A1 0 5,0,[.string (iB o.dvs i).name,.bool (iB o.dvs i).pedal,I (iB o.dvs i).lo,I (iB o.dvs i).hi,(iB o.dvs i).sv]⟩] H') (rS o i) ?_ ?_
  ·simp(disch:=omega) only[RB,RC,simprocAttr,hn,g0,g1,g2,g11,g12,g13]
   refine⟨0,by omega,by simp,?_⟩
   have e:yI o i 0=(List.range i).flatMap (sC o):=by unfold yI;simp
   rw[e]
   exact hJ1
  rintro n l H10⟨hn,g0,g1,g2,g4,g5,g11,g12,g13,k,hk,g6,hJ2⟩
  obtain⟨hV3,hO3,hV4,hR3,hX3⟩:=hg _ _ _ hJ2
  have hV5:=(hX3 _ (dC.2 rfl)).var
  simp(disch:=omega) only[↓RA,RZ,simprocAttr,hn,g5,g6,(hV5.ab (sR H10).ab).ld]
  refine iA (fun q2=> ?_) (fun q2=> ?_)
  ·simp(disch:=omega) only[↓RA,RZ,simprocAttr,hn,g4,g6,yR,q2]
   refine(sR H10).eNew 2 [I 0,I 0] rfl rfl rfl pQ fun A2 H3 hS3=> ?_
   simp only[RT]at hS3
   simp(disch:=omega) only[↓RA,RZ,simprocAttr,hn,q2]
   refine hS3.aa 0 rfl [I i,I ((iB o.dvs i).lo+k)] rfl rfl pQ (by simp) fun H4 hS4=> ?_
   simp only[RT]at hS4
   simp(disch:=omega) only[↓RA,RZ,simprocAttr,hn,g1,g2,(hV3.ab hS4.ab).ag,(hV4.ab hS4.ab).ag,hS4.ag 0 rfl,q2]
   have hJ3:=hdr _ _ _ _ (hst _ _ _ _ _ hJ2 hS4)
   refine iJ (b3V o (hO3.ab hS4) rg sv (hR3.ab hS4) (kAt o i k)) ?_
   rintro r H5⟨pv,rfl,gv,rest,he9,hT1⟩
   have hS5:=hS4.trans hT1
   simp only[RT]at hS5
   have hx:Sl 2 jS H5 pv (lI o rg (kAt o i k)):=by rw[he9];exact(uZ hT1).1
   simp(disch:=omega) only[↓RA,RZ,simprocAttr,hn,g0,hS5.ag 0 rfl,q2]
   obtain⟨e,he⟩:=a1z o (i:=i) (k:=k) (by omega) (by omega)
   refine a1A (hy _ (kAt o i k) e _ _ _ pv gv rest he hJ3 hT1 he9) ?_
   rintro r H13⟨rfl,hJ4⟩
   rw[←a4c]at hJ4
   simp(disch:=omega) only[↓RA,RZ,simprocAttr,hn,g0,g1,g2,g4,g5,g6,g11,g12,g13,q2]
   exact⟨n-1,by omega,k+1,by omega,by congr 1;omega,hJ4⟩
  simp(disch:=omega) only[↓RA,RZ,simprocAttr,hn,g0,g1,g2,g11,g12,g13,q2]
  have e:k=rS o i:=by omega
  rw[e,zY]at hJ2
  exact⟨o.dvs.length-(i+1),by omega,i+1,by omega,by simp,hdr _ [] _ _ hJ2⟩
 simp(disch:=omega) only[↓RA,RZ,simprocAttr,c5j,q1]
 have e:i=o.dvs.length:=by omega
 subst e
 exact hJ
theorem b1b(o:Org)(hf:o.Fine)(rg:Reg)(sv:Value)(AO AR:Nat)(f:Value)(J:List Ct→List Ob→Heap→Prop)(h0:J [] [] H)
 (hg:∀d xs H1,J d xs H1→Var H1 AO 4 [.string o.name,o.rv,o.dv,o.cv]∧o.In H1∧Var H1 AR 3 [sv,.int .u64 rg.cpl,.int .u64 rg.off]∧rg.In H1 sv∧∀x∈xs,OwnAt prog H1 x)
 (hst:∀d xs H1 H2 ys,J d xs H1→St prog H1 H2 ys→J d (xs++ys) H2)
 (hdr:∀d xs ys H1,J d (xs++ys) H1→J d xs H1)
 (hy:∀d c e xs H1 H2 pv,kG o=d++c::e→J d xs H1→St prog H1 H2 []→Slx 2 jS H2 (fun B=>H1.length≤B) pv (lI o rg c)→qZ prog f [.agg #[I c.1,I c.2],pv] H2 fun v H3=>v=.bool true∧J (d++[c]) xs H3):
 FnS prog 77 [f,ptr AO 0 4,ptr AR 0 3] H fun _ H'=>J (kG o) [] H':=
 a6N o hf rg sv AO AR f J h0 hg hst hdr fun d c e xs H1 H2 pv _ _ he hJ hS hp=>hy d c e xs H1 H2 pv he hJ hS.forget (by rw[hp];exact uZ hS)
def nF(x n:Nat):List Nat:=(List.range n).filter fun i=>x.testBit i
theorem pF(x n:Nat):nF x (n+1)=nF x n++(if x.testBit n then[n]else[]):=by
 unfold nF
 rw[ez,ew,List.filter_cons,List.filter_nil]
theorem nH(x n:Nat):(nF x n).length≤n:=by
 unfold nF
 refine dI (dS _ _) ?_
 simp
theorem a4T(x:Nat):Fn prog 153 [.int .u64 x] H fun r H'=>∃A,r=.func (.func 199) #[] #[ptr A 0 1]∧St prog H H' [⟨ptr A 0 1,0,[.int .u64 x]⟩]:=by
 refine .aY func153 rfl (by kernel_rfl) (m:=4) rfl fun l hn g0=> ?_
 simp(disch:=omega) only[↓RA,RB,simprocAttr,g0]
 refine(sR H).eNew 1 [(.int .u64 x)] rfl rfl rfl a5d fun A1 H1 hS1=> ?_
 simp only[RT]at hS1
 simp(disch:=omega) only[↓RA,RZ,simprocAttr,hn,c3a]
 exact⟨A1,rfl,hS1⟩
abbrev mB(l:List Ctl):List Value:=l.flatMap Ctl.cells
theorem mG(l:List Ctl):(mB l).length=l.length*3:=iL (n:=3) (fun _=>rfl) l
theorem zE(l:List Ctl)(x:Ctl):mB (l++[x])=mB l++[I x.kind,I x.dv,I x.ix]:=by
 unfold mB
 rw[dN]
 rfl
def yB(rg:Reg)(d:Nat):List Ctl:=(List.range d).flatMap fun d=>(oQ (iB rg.stops d)).map (a0d d)
theorem a4n(rg:Reg)(d:Nat):yB rg (d+1)=yB rg d++(nF (iB rg.stops d) 64).map (a0d d):=by
 unfold yB
 rw[ez,dN,dK,fB,dr]
 rfl
theorem a1e(rg:Reg):∀d,(yB rg d).length≤d*64
 | 0=>by simp[yB]
 | d+1=>by
   have:=a1e rg d
   have h2:=nH (iB rg.stops d) 64
   rw[a4n,dh,dF]
   omega
theorem b2L(rg:Reg)(sv:Value)(hr:rg.In H sv)(hl:rg.stops.length≤60):Fn prog 103 [.agg #[sv,.int .u64 rg.cpl,.int .u64 rg.off]] H fun r H'=>St prog H H' [⟨r,3,mB (pD rg)⟩]:=by
 refine .aY func103 rfl (by kernel_rfl) (m:=46) rfl fun l hn g0=> ?_
 simp(disch:=omega) only[↓RA,RB,simprocAttr,g0]
 refine(sR H).eNew 3 [sv,(.int .u64 rg.cpl),(.int .u64 rg.off)] rfl rfl (by simp[OC,((sR H).sl hr.1).cells.2.1]) mP fun A1 H1 hS1=> ?_
 simp only[RT]at hS1
 simp(disch:=omega) only[↓RA,RZ,simprocAttr]
 refine hS1.eNew 1 [(.slice none 0 0)] rfl rfl rfl b4Q fun A2 H2 hS2=> ?_
 simp only[RT]at hS2
 simp(disch:=omega) only[↓RA,RZ,simprocAttr,hn,hS2.ld 0 rfl,(hS2.sl hr.1).len]
 have hS3:=hS2.nil 2
 simp only[RT]at hS3
 refine Wp.al (fun n l H'=>l.length=46∧get l 1=(ptr A1 0 3)∧get l 2=(.slice none 0 0)∧get l 3=(ptr A2 0 1)∧get l 10=sv∧get l 11=I rg.stops.length∧∃(d:Nat)(ov:Value),(n+d=rg.stops.length)∧get l 12=I d∧St prog H H' [⟨ptr A1 0 3,0,[sv,(.int .u64 rg.cpl),(.int .u64 rg.off)]⟩,⟨ptr A2 0 1,0,[ov]⟩,⟨ov,3,mB (yB rg d)⟩]) rg.stops.length ?_ ?_
 ·simp(disch:=omega) only[RB,RC,simprocAttr,hn]
  exact⟨0,.slice none 0 0,by omega,rfl,hS3⟩
 rintro n l H3⟨hn,g1,g2,g3,rE,g11,d,ov,hd,g12,hS4⟩
 simp(disch:=omega) only[↓RA,RB,simprocAttr,hn,g11,g12]
 refine iA (fun q1=> ?_) (fun q1=> ?_)
 ·have hsx:=hr.2.2.1 _ (iE (xs:=rg.stops) (j:=d) (by omega))
  have hal:=a1e rg d
  simp(disch:=omega) only[↓RA,RZ,simprocAttr,hn,rE,g12,(hS4.sl hr.1).idx,(hS4.sl hr.1).ld,one,u64,q1]
  refine hS4.eNew 1 [I 0] rfl rfl rfl tS3 fun A3 H4 hS5=> ?_
  simp only[RT]at hS5
  simp(disch:=omega) only[↓RA,RZ,simprocAttr,hn,q1]
  refine hS5.aa 3 rfl [I d] rfl rfl tS3 (by simp) fun H5 hS6=> ?_
  simp only[RT]at hS6
  simp(disch:=omega) only[↓RA,RZ,simprocAttr,hn,q1]
  refine iJ (a4T (iB rg.stops d)) ?_
  rintro r H6⟨A4,rfl,hT1⟩
  have hS7:=hS6.trans hT1
  simp only[RT]at hS7
  simp(disch:=omega) only[↓RA,RZ,simprocAttr,q1]
  refine Wp.bl fun lrg1 hlrg1=> ?_
  have hnrg1:lrg1.length=46:=by rw[hlrg1];simp(disch:=omega) only[RB,simprocAttr,hn]
  have g1rg1:get lrg1 1=(ptr A1 0 3):=by rw[hlrg1];simp(disch:=omega) only[RB,simprocAttr,g1]
  have g2rg1:get lrg1 2=(.slice none 0 0):=by rw[hlrg1];simp(disch:=omega) only[RB,simprocAttr,g2]
  have g3rg1:get lrg1 3=(ptr A2 0 1):=by rw[hlrg1];simp(disch:=omega) only[RB,simprocAttr,g3]
  have g4rg1:get lrg1 4=(ptr A3 0 1):=by rw[hlrg1];simp(disch:=omega) only[RB,simprocAttr,hn]
  have g10rg1:get lrg1 10=sv:=by rw[hlrg1];simp(disch:=omega) only[RB,simprocAttr,rE]
  have g11rg1:get lrg1 11=I rg.stops.length:=by rw[hlrg1];simp(disch:=omega) only[RB,simprocAttr,g11]
  have g12rg1:get lrg1 12=I d:=by rw[hlrg1];simp(disch:=omega) only[RB,simprocAttr,g12]
  have gfrg1:get lrg1 18=.func (.func 199) #[] [(ptr A4 0 1)].toArray:=by rw[hlrg1];simp(disch:=omega) only[RB,simprocAttr,hn]
  clear hlrg1
  refine Wp.aZ gfrg1 fun rg1 hstrg1 hpdrg1 htmrg1 hpsrg1 hasrg1 hbdrg1=> ?_
  have hreqrg1:({rg1 with state:=.ready,pending:=none}:Loop)=rg1:=by
   cases rg1
   simp only at hstrg1 hpdrg1
   subst hstrg1 hpdrg1
   rfl
  have hLprg1:=Lp.enter hS7 rg1
  generalize H6.cons (.loop rg1)=Hcrg1 at hLprg1 ⊢
  generalize H6.length=Lrg1 at hLprg1 ⊢
  refine(a5x (iB rg.stops d) hsx A4 (.func (.yield Lrg1) #[] #[]) (fun j H1=>∃ow,Lp prog H Lrg1 rg1 H1 [⟨ptr A1 0 3,0,[sv,.int .u64 rg.cpl,.int .u64 rg.off]⟩,⟨ptr A2 0 1,0,[ow]⟩,⟨ow,3,mB (yB rg d++(nF (iB rg.stops d) j).map (a0d d))⟩,⟨ptr A3 0 1,0,[I d]⟩,⟨ptr A4 0 1,0,[.int .u64 ((iB rg.stops d:Nat):Int)]⟩]) ⟨ov,?_⟩ ?_ ?_ ?_).mono ?_
  ·rw[show(nF (iB rg.stops d) 0).map (a0d d)=[]from rfl,dr]
   exact hLprg1
  ·rintro j H1⟨ow,h⟩
   exact h.st.var 4 rfl
  ·rintro j H1 hj hb⟨ow,h⟩
   refine⟨ow,?_⟩
   rw[pF (iB rg.stops d) j,hb,if_neg (by simp),dr]
   exact h
  ·rintro j H20 hj hb⟨ow,hLpj⟩
   have hbl:=nH (iB rg.stops d) j
   have hroom:(mB (yB rg d++(nF (iB rg.stops d) j).map (a0d d))).length≤20000:=by
    rw[mG,dh,dF]
    omega
   refine mQ hLpj.get (by rw[hpsrg1];rfl) hstrg1 ?_
   refine Wp.aE (l:=put lrg1 (some 19) (I j)) hasrg1 (by rw[hpsrg1,htmrg1];first|exact(kP ..).symm|rfl|simp[put,kP]) ?_
   simp(disch:=omega) only[↓RA,RZ,simprocAttr,hnrg1]
   refine⟨rg1,hLpj.get,hstrg1,?_⟩
   have hYBs1:=hLpj.set (fun h=>h) {rg1 with state:=.busy}
   have hKBs1:∀B,B≠Lrg1→iP (hset H20 Lrg1 (.loop {rg1 with state:=.busy})) B=iP H20 B:=fun B h=>iM _ (eH h)
   have hNBs1:(hset H20 Lrg1 (.loop {rg1 with state:=.busy})).length=H20.length:=jA ..
   generalize hset H20 Lrg1 (.loop {rg1 with state:=.busy})=HBs1 at hYBs1 hKBs1 hNBs1 ⊢
   refine Wp.aE hbdrg1 rfl ?_
   have hZBs1:=hYBs1.st
   obtain⟨Bs1,hBBs1,hS8⟩:=hZBs1.ax (os:=[⟨ptr A1 0 3,0,_⟩,⟨ptr A2 0 1,0,_⟩,⟨ow,3,_⟩,⟨ptr A3 0 1,0,_⟩,⟨ptr A4 0 1,0,_⟩])
   simp(disch:=omega) only[↓RA,RZ,simprocAttr,hnrg1,g3rg1,g4rg1,hS8.ld 1 rfl,hS8.ld 3 rfl,a7l]
   refine hS8.ai [I 1,I d,I j] a7w b9y rfl rfl (by simp[Value.cells]) rfl rfl (by decide) (by decide) fun w1 H7 hS9=> ?_
   simp only[RT]at hS9
   simp(disch:=omega) only[↓RA,RZ,simprocAttr,hnrg1]
   refine hS9.aq 2 rfl (hS9.rd 5 rfl) a7w (by have h:=hroom;simp only[ed,ey];omega) fun w2 H8 hS10=> ?_
   simp only[RT]at hS10
   simp(disch:=omega) only[↓RA,RB,simprocAttr,hnrg1,g3rg1]
   refine hS10.aa 1 rfl [w2] (by rw[(hS10.rd 2 rfl).cells.1]) (by simp[(hS10.rd 2 rfl).cells.2.1]) b4Q (by simp) fun H9 hS11=> ?_
   simp only[RT]at hS11
   simp(disch:=omega) only[↓RA,simprocAttr]
   have hS12:=hS11.pick (os':=[⟨ptr A1 0 3,0,_⟩,⟨ptr A2 0 1,0,_⟩,⟨w2,3,_⟩,⟨ptr A3 0 1,0,_⟩,⟨ptr A4 0 1,0,_⟩]) [0,1,2,3,4] (by decide) rfl
   have hWBs1:=(hYBs1.body (hBBs1▸hS12)).set (fun h=>h) rg1
   rw[←hreqrg1]at hWBs1
   refine⟨_,(hYBs1.body (hBBs1▸hS12)).get,rfl,w2,?_⟩
   rw[pF (iB rg.stops d) j,hb,if_pos rfl,dA,←dD,ef,fY,zE]
   exact hreqrg1▸hWBs1
  ·rintro _ H21⟨ow,hLp2⟩
   rw[←a4n]at hLp2
   refine⟨_,hLp2.get,(by rw[hstrg1];exact fun h=>by cases h),fun _=> ?_,fun c hc=>by rw[hpdrg1]at hc;cases hc⟩
   have hAAf1:=(hLp2.set (fun h=>h) {rg1 with state:=.exhausted}).st
   have hKAf1:∀B,B≠Lrg1→iP (hset H21 Lrg1 (.loop {rg1 with state:=.exhausted})) B=iP H21 B:=fun B h=>iM _ (eH h)
   generalize hset H21 Lrg1 (.loop {rg1 with state:=.exhausted})=HAf1 at hAAf1 hKAf1 ⊢
   simp(disch:=omega) only[↓RA,RZ,simprocAttr,hnrg1,g1rg1,g2rg1,g3rg1,g10rg1,g11rg1,g12rg1]
   exact⟨rg.stops.length-(d+1),by omega,d+1,ow,by omega,by simp,hAAf1.pick [0,1,2] (by decide) rfl⟩
 have hdd:d=rg.stops.length:=by omega
 subst hdd
 have hal:=a1e rg rg.stops.length
 simp(disch:=omega) only[↓RA,RZ,simprocAttr,hn,g1,hS4.ld 0 rfl,q1]
 refine iJ (a4T rg.cpl) ?_
 rintro r H10⟨A5,rfl,hT2⟩
 have hS13:=hS4.trans hT2
 simp only[RT]at hS13
 simp(disch:=omega) only[↓RA,RC,simprocAttr,q1]
 refine Wp.bl fun lrg2 hlrg2=> ?_
 have hnrg2:lrg2.length=46:=by rw[hlrg2];simp(disch:=omega) only[RB,simprocAttr,hn]
 have g1rg2:get lrg2 1=(ptr A1 0 3):=by rw[hlrg2];simp(disch:=omega) only[RB,simprocAttr,g1]
 have g2rg2:get lrg2 2=(.slice none 0 0):=by rw[hlrg2];simp(disch:=omega) only[RB,simprocAttr,g2]
 have g3rg2:get lrg2 3=(ptr A2 0 1):=by rw[hlrg2];simp(disch:=omega) only[RB,simprocAttr,g3]
 have gfrg2:get lrg2 29=.func (.func 199) #[] [(ptr A5 0 1)].toArray:=by rw[hlrg2];simp(disch:=omega) only[RB,simprocAttr,hn]
 clear hlrg2
 refine Wp.aZ gfrg2 fun rg2 hstrg2 hpdrg2 htmrg2 hpsrg2 hasrg2 hbdrg2=> ?_
 have hreqrg2:({rg2 with state:=.ready,pending:=none}:Loop)=rg2:=by
  cases rg2
  simp only at hstrg2 hpdrg2
  subst hstrg2 hpdrg2
  rfl
 have hLprg2:=Lp.enter hS13 rg2
 generalize H10.cons (.loop rg2)=Hcrg2 at hLprg2 ⊢
 generalize H10.length=Lrg2 at hLprg2 ⊢
 refine(a5x rg.cpl hr.2.2.2.1 A5 (.func (.yield Lrg2) #[] #[]) (fun j H1=>∃ow,Lp prog H Lrg2 rg2 H1 [⟨ptr A1 0 3,0,[sv,.int .u64 rg.cpl,.int .u64 rg.off]⟩,⟨ptr A2 0 1,0,[ow]⟩,⟨ow,3,mB (yB rg rg.stops.length++(nF rg.cpl j).map wN)⟩,⟨ptr A5 0 1,0,[.int .u64 (rg.cpl:Int)]⟩]) ⟨ov,?_⟩ ?_ ?_ ?_).mono ?_
 ·rw[show(nF rg.cpl 0).map wN=[]from rfl,dr]
  exact hLprg2
 ·rintro j H1⟨ow,h⟩
  exact h.st.var 3 rfl
 ·rintro j H1 hj hb⟨ow,h⟩
  refine⟨ow,?_⟩
  rw[pF rg.cpl j,hb,if_neg (by simp),dr]
  exact h
 ·rintro j H20 hj hb⟨ow,hLpj⟩
  have hbl:=nH rg.cpl j
  have hroom:(mB (yB rg rg.stops.length++(nF rg.cpl j).map wN)).length≤20000:=by
   rw[mG,dh,dF]
   omega
  refine mQ hLpj.get (by rw[hpsrg2];rfl) hstrg2 ?_
  refine Wp.aE (l:=put lrg2 (some 30) (I j)) hasrg2 (by rw[hpsrg2,htmrg2];first|exact(kP ..).symm|rfl|simp[put,kP]) ?_
  simp(disch:=omega) only[↓RA,RZ,simprocAttr,hnrg2]
  refine⟨rg2,hLpj.get,hstrg2,?_⟩
  have hYBs2:=hLpj.set (fun h=>h) {rg2 with state:=.busy}
  have hKBs2:∀B,B≠Lrg2→iP (hset H20 Lrg2 (.loop {rg2 with state:=.busy})) B=iP H20 B:=fun B h=>iM _ (eH h)
  have hNBs2:(hset H20 Lrg2 (.loop {rg2 with state:=.busy})).length=H20.length:=jA ..
  generalize hset H20 Lrg2 (.loop {rg2 with state:=.busy})=HBs2 at hYBs2 hKBs2 hNBs2 ⊢
  refine Wp.aE hbdrg2 rfl ?_
  have hZBs2:=hYBs2.st
  obtain⟨Bs2,hBBs2,hS14⟩:=hZBs2.ax (os:=[⟨ptr A1 0 3,0,_⟩,⟨ptr A2 0 1,0,_⟩,⟨ow,3,_⟩,⟨ptr A5 0 1,0,_⟩])
  simp(disch:=omega) only[↓RA,RZ,simprocAttr,hnrg2,g3rg2,hS14.ld 1 rfl,a4m]
  refine hS14.ai [I 2,I 0,I j] a7w b9y rfl rfl (by simp[Value.cells]) rfl rfl (by decide) (by decide) fun w3 H11 hS15=> ?_
  simp only[RT]at hS15
  simp(disch:=omega) only[↓RA,RZ,simprocAttr,hnrg2]
  refine hS15.aq 2 rfl (hS15.rd 4 rfl) a7w (by have h:=hroom;simp only[ed,ey];omega) fun w4 H12 hS16=> ?_
  simp only[RT]at hS16
  simp(disch:=omega) only[↓RA,RB,simprocAttr,hnrg2,g3rg2]
  refine hS16.aa 1 rfl [w4] (by rw[(hS16.rd 2 rfl).cells.1]) (by simp[(hS16.rd 2 rfl).cells.2.1]) b4Q (by simp) fun H13 hS17=> ?_
  simp only[RT]at hS17
  simp(disch:=omega) only[↓RA,simprocAttr]
  have hS18:=hS17.pick (os':=[⟨ptr A1 0 3,0,_⟩,⟨ptr A2 0 1,0,_⟩,⟨w4,3,_⟩,⟨ptr A5 0 1,0,_⟩]) [0,1,2,3] (by decide) rfl
  have hWBs2:=(hYBs2.body (hBBs2▸hS18)).set (fun h=>h) rg2
  rw[←hreqrg2]at hWBs2
  refine⟨_,(hYBs2.body (hBBs2▸hS18)).get,rfl,w4,?_⟩
  rw[pF rg.cpl j,hb,if_pos rfl,dA,←dD,ef,fY,zE]
  exact hreqrg2▸hWBs2
 rintro _ H22⟨ow,hLp2⟩
 have hb2:=nH rg.cpl 64
 refine⟨_,hLp2.get,(by rw[hstrg2];exact fun h=>by cases h),fun _=> ?_,fun c hc=>by rw[hpdrg2]at hc;cases hc⟩
 have hAAf2:=(hLp2.set (fun h=>h) {rg2 with state:=.exhausted}).st
 have hKAf2:∀B,B≠Lrg2→iP (hset H22 Lrg2 (.loop {rg2 with state:=.exhausted})) B=iP H22 B:=fun B h=>iM _ (eH h)
 generalize hset H22 Lrg2 (.loop {rg2 with state:=.exhausted})=HAf2 at hAAf2 hKAf2 ⊢
 simp(disch:=omega) only[↓RA,RZ,simprocAttr,hnrg2,g1rg2,hAAf2.ld 0 rfl]
 refine iJ (a4T rg.off) ?_
 rintro r H14⟨A6,rfl,hT3⟩
 have hS19:=hAAf2.trans hT3
 simp only[RT]at hS19
 simp(disch:=omega) only[↓RA,simprocAttr]
 have hal2:(yB rg rg.stops.length++(nF rg.cpl 64).map wN).length≤3904:=by
  rw[dh,dF]
  omega
 refine Wp.bl fun lrg3 hlrg3=> ?_
 have hnrg3:lrg3.length=46:=by rw[hlrg3];simp(disch:=omega) only[RB,simprocAttr,hnrg2]
 have g2rg3:get lrg3 2=(.slice none 0 0):=by rw[hlrg3];simp(disch:=omega) only[RB,simprocAttr,g2rg2]
 have g3rg3:get lrg3 3=(ptr A2 0 1):=by rw[hlrg3];simp(disch:=omega) only[RB,simprocAttr,g3rg2]
 have gfrg3:get lrg3 38=.func (.func 199) #[] [(ptr A6 0 1)].toArray:=by rw[hlrg3];simp(disch:=omega) only[RB,simprocAttr,hnrg2]
 clear hlrg3
 refine Wp.aZ gfrg3 fun rg3 hstrg3 hpdrg3 htmrg3 hpsrg3 hasrg3 hbdrg3=> ?_
 have hreqrg3:({rg3 with state:=.ready,pending:=none}:Loop)=rg3:=by
  cases rg3
  simp only at hstrg3 hpdrg3
  subst hstrg3 hpdrg3
  rfl
 have hLprg3:=Lp.enter hS19 rg3
 generalize H14.cons (.loop rg3)=Hcrg3 at hLprg3 ⊢
 generalize H14.length=Lrg3 at hLprg3 ⊢
 refine(a5x rg.off hr.2.2.2.2 A6 (.func (.yield Lrg3) #[] #[]) (fun j H1=>∃ow,Lp prog H Lrg3 rg3 H1 [⟨ptr A1 0 3,0,[sv,.int .u64 rg.cpl,.int .u64 rg.off]⟩,⟨ptr A2 0 1,0,[ow]⟩,⟨ow,3,mB ((yB rg rg.stops.length++(nF rg.cpl 64).map wN)++(nF rg.off j).map a4H)⟩,⟨ptr A5 0 1,0,[.int .u64 (rg.cpl:Int)]⟩,⟨ptr A6 0 1,0,[.int .u64 (rg.off:Int)]⟩]) ⟨ow,?_⟩ ?_ ?_ ?_).mono ?_
 ·rw[show(nF rg.off 0).map a4H=[]from rfl,dr]
  exact hLprg3
 ·rintro j H1⟨ow,h⟩
  exact h.st.var 4 rfl
 ·rintro j H1 hj hb⟨ow,h⟩
  refine⟨ow,?_⟩
  rw[pF rg.off j,hb,if_neg (by simp),dr]
  exact h
 ·rintro j H20 hj hb⟨ow,hLpj⟩
  have hbl:=nH rg.off j
  have hroom:(mB ((yB rg rg.stops.length++(nF rg.cpl 64).map wN)++(nF rg.off j).map a4H)).length≤20000:=by
   rw[mG,dh,dF]
   omega
  refine mQ hLpj.get (by rw[hpsrg3];rfl) hstrg3 ?_
  refine Wp.aE (l:=put lrg3 (some 39) (I j)) hasrg3 (by rw[hpsrg3,htmrg3];first|exact(kP ..).symm|rfl|simp[put,kP]) ?_
  simp(disch:=omega) only[↓RA,RZ,simprocAttr,hnrg3]
  refine⟨rg3,hLpj.get,hstrg3,?_⟩
  have hYBs3:=hLpj.set (fun h=>h) {rg3 with state:=.busy}
  have hKBs3:∀B,B≠Lrg3→iP (hset H20 Lrg3 (.loop {rg3 with state:=.busy})) B=iP H20 B:=fun B h=>iM _ (eH h)
  have hNBs3:(hset H20 Lrg3 (.loop {rg3 with state:=.busy})).length=H20.length:=jA ..
  generalize hset H20 Lrg3 (.loop {rg3 with state:=.busy})=HBs3 at hYBs3 hKBs3 hNBs3 ⊢
  refine Wp.aE hbdrg3 rfl ?_
  have hZBs3:=hYBs3.st
  obtain⟨Bs3,hBBs3,hS20⟩:=hZBs3.ax (os:=[⟨ptr A1 0 3,0,_⟩,⟨ptr A2 0 1,0,_⟩,⟨ow,3,_⟩,⟨ptr A5 0 1,0,_⟩,⟨ptr A6 0 1,0,_⟩])
  simp(disch:=omega) only[↓RA,RZ,simprocAttr,hnrg3,g3rg3,hS20.ld 1 rfl,b1C]
  refine hS20.ai [I 3,I j,I 0] a7w b9y rfl rfl (by simp[Value.cells]) rfl rfl (by decide) (by decide) fun w5 H15 hS21=> ?_
  simp only[RT]at hS21
  simp(disch:=omega) only[↓RA,RZ,simprocAttr,hnrg3]
  refine hS21.aq 2 rfl (hS21.rd 5 rfl) a7w (by have h:=hroom;simp only[ed,ey];omega) fun w6 H16 hS22=> ?_
  simp only[RT]at hS22
  simp(disch:=omega) only[↓RA,RB,simprocAttr,hnrg3,g3rg3]
  refine hS22.aa 1 rfl [w6] (by rw[(hS22.rd 2 rfl).cells.1]) (by simp[(hS22.rd 2 rfl).cells.2.1]) b4Q (by simp) fun H17 hS23=> ?_
  simp only[RT]at hS23
  simp(disch:=omega) only[↓RA,simprocAttr]
  have hS24:=hS23.pick (os':=[⟨ptr A1 0 3,0,_⟩,⟨ptr A2 0 1,0,_⟩,⟨w6,3,_⟩,⟨ptr A5 0 1,0,_⟩,⟨ptr A6 0 1,0,_⟩]) [0,1,2,3,4] (by decide) rfl
  have hWBs3:=(hYBs3.body (hBBs3▸hS24)).set (fun h=>h) rg3
  rw[←hreqrg3]at hWBs3
  refine⟨_,(hYBs3.body (hBBs3▸hS24)).get,rfl,w6,?_⟩
  rw[pF rg.off j,hb,if_pos rfl,dA,←dD,ef,fY,zE]
  exact hreqrg3▸hWBs3
 rintro _ H23⟨oz,hLp3⟩
 refine⟨_,hLp3.get,(by rw[hstrg3];exact fun h=>by cases h),fun _=> ?_,fun c hc=>by rw[hpdrg3]at hc;cases hc⟩
 have hAAf3:=(hLp3.set (fun h=>h) {rg3 with state:=.exhausted}).st
 have hKAf3:∀B,B≠Lrg3→iP (hset H23 Lrg3 (.loop {rg3 with state:=.exhausted})) B=iP H23 B:=fun B h=>iM _ (eH h)
 generalize hset H23 Lrg3 (.loop {rg3 with state:=.exhausted})=HAf3 at hAAf3 hKAf3 ⊢
 simp(disch:=omega) only[↓RA,RZ,simprocAttr,hnrg3,g3rg3,hAAf3.ld 1 rfl,c3J]
 exact hAAf3.pick [2] (by decide) rfl
structure Pv where
 v:Value
 l:List Ct
 deriving Inhabited
def Pv.cells(p:Pv):List Value:=[p.v]
def Pv.Ix(H:Heap)(X:Nat→Prop)(p:Pv):Prop:=Slx 2 jS H X p.v p.l
theorem Pv.Ix.step{H':Heap}{X Y:Nat→Prop}{p:Pv}(h:p.Ix H X)(hk:Kept H X H' Y):p.Ix H' Y:=Slx.step h hk
theorem Kept.and{H':Heap}{X Y:Nat→Prop}(Q:Nat→Prop)(h:Kept H X H' Y):Kept H (fun B=>Q B∧X B) H' (fun B=>Q B∧Y B):=
 fun B hX hB=>⟨(h B hX.2 hB).1,hX.1,(h B hX.2 hB).2⟩
abbrev oC(o:Org):List Value:=[.string o.name,o.rv,o.dv,o.cv]
abbrev rC(rg:Reg)(sv:Value):List Value:=[sv,.int .u64 rg.cpl,.int .u64 rg.off]
theorem a1D(o:Org)(ho:o.In H)(rg:Reg)(sv:Value)(hr:rg.In H sv):Fn prog 39 [.agg #[.string o.name,o.rv,o.dv,o.cv],.agg #[sv,.int .u64 rg.cpl,.int .u64 rg.off]] H fun r H'=>
 ∃AO AR,r=.func (.func 77) #[] #[ptr AO 0 4,ptr AR 0 3]∧St prog H H' [⟨ptr AO 0 4,0,[.string o.name,o.rv,o.dv,o.cv]⟩,⟨ptr AR 0 3,0,[sv,.int .u64 rg.cpl,.int .u64 rg.off]⟩]:=by
 refine .aD func39 rfl (by kernel_rfl) (m:=6) rfl fun l hn g0 g1=> ?_
 simp(disch:=omega) only[↓RA,RB,simprocAttr,g0]
 refine(sR H).eNew 4 [(.string o.name),o.rv,o.dv,o.cv] rfl rfl (by simp[OC,((sR H).sl ho.1).cells.2.1,((sR H).sl ho.2.2.1).cells.2.1,((sR H).sl ho.2.2.2.2.1).cells.2.1]) mV fun A1 H1 hS1=> ?_
 simp only[RT]at hS1
 simp(disch:=omega) only[↓RA,RB,simprocAttr,g1]
 refine hS1.eNew 3 [sv,(.int .u64 rg.cpl),(.int .u64 rg.off)] rfl rfl (by simp[OC,(hS1.sl hr.1).cells.2.1]) mP fun A2 H2 hS2=> ?_
 simp only[RT]at hS2
 simp(disch:=omega) only[↓RA,RZ,simprocAttr,hn,c5E]
 exact⟨A1,A2,rfl,hS2⟩
theorem rA{o:Org}(hf:o.Fine):(kG o).length≤1024:=by
 have key:∀n,n≤o.dvs.length→((List.range n).flatMap (sC o)).length≤n*128:=by
  intro n
  induction n with
  | zero=>intro _;simp
  | succ n ih=>
    intro hn
    have h1:=ih (by omega)
    have h2:=hf.keys n (by omega)
    have h3:(sC o n).length=rS o n:=by simp[sC,rS]
    have h4:rS o n≤128:=by unfold rS;omega
    rw[ez,dN,dK,fB,dr,dh]
    omega
 have:=key o.dvs.length (dm _)
 have:=hf.dlen
 unfold kG
 omega
theorem a4f(o:Org)(ho:o.In H)(hf:o.Fine)(rg:Reg)(sv:Value)(hr:rg.In H sv):Fn prog 101 [.agg #[.string o.name,o.rv,o.dv,o.cv],.agg #[sv,.int .u64 rg.cpl,.int .u64 rg.off]] H fun r H'=>
 ∃ps:List Pv,ps.map (·.l)=pX o rg∧Slx 1 Pv.cells H' (fun B=>H.length≤B) r ps∧(∀p∈ps,p.Ix H' (fun B=>H.length≤B))∧St prog H H' []:=by
 refine .aD func101 rfl (by kernel_rfl) (m:=18) rfl fun l hn g0 g1=> ?_
 simp(disch:=omega) only[↓RA,RB,simprocAttr,g0]
 refine(sR H).eNew 4 [(.string o.name),o.rv,o.dv,o.cv] rfl rfl (by simp[OC,((sR H).sl ho.1).cells.2.1,((sR H).sl ho.2.2.1).cells.2.1,((sR H).sl ho.2.2.2.2.1).cells.2.1]) mV fun A1 H1 hS1=> ?_
 simp only[RT]at hS1
 simp(disch:=omega) only[↓RA,RB,simprocAttr,g1]
 refine hS1.eNew 3 [sv,(.int .u64 rg.cpl),(.int .u64 rg.off)] rfl rfl (by simp[OC,(hS1.sl hr.1).cells.2.1]) mP fun A2 H2 hS2=> ?_
 simp only[RT]at hS2
 simp(disch:=omega) only[↓RA,RZ,simprocAttr]
 refine hS2.eNew 1 [(.slice none 0 0)] rfl rfl rfl a7U fun A3 H3 hS3=> ?_
 simp only[RT]at hS3
 simp(disch:=omega) only[↓RA,RZ,simprocAttr,hn,hS3.ag 0 rfl,hS3.ag 1 rfl]
 have hS4:=hS3.nil 0
 simp only[RT]at hS4
 refine iJ (a1D o (ho.ab hS4) rg sv (hr.ab hS4)) ?_
 rintro r H4⟨A4,A5,rfl,hT1⟩
 have hS5:=hS4.trans hT1
 simp only[RT]at hS5
 simp(disch:=omega) only[↓RA,simprocAttr]
 refine Wp.bl fun lrg1 hlrg1=> ?_
 have hnrg1:lrg1.length=18:=by rw[hlrg1];simp(disch:=omega) only[RB,simprocAttr,hn]
 have g4rg1:get lrg1 4=(.slice none 0 0):=by rw[hlrg1];simp(disch:=omega) only[RB,simprocAttr,hn]
 have g5rg1:get lrg1 5=(ptr A3 0 1):=by rw[hlrg1];simp(disch:=omega) only[RB,simprocAttr,hn]
 have gfrg1:get lrg1 10=.func (.func 77) #[] [(ptr A4 0 4),(ptr A5 0 3)].toArray:=by rw[hlrg1];simp(disch:=omega) only[RB,simprocAttr,hn]
 clear hlrg1
 refine Wp.aZ gfrg1 fun rg1 hstrg1 hpdrg1 htmrg1 hpsrg1 hasrg1 hbdrg1=> ?_
 have hreqrg1:({rg1 with state:=.ready,pending:=none}:Loop)=rg1:=by
  cases rg1
  simp only at hstrg1 hpdrg1
  subst hstrg1 hpdrg1
  rfl
 have hLprg1:=Lp.enter hS5 rg1
 generalize H4.cons (.loop rg1)=Hcrg1 at hLprg1 ⊢
 generalize H4.length=Lrg1 at hLprg1 ⊢
 refine(b1b o hf rg sv A4 A5 (.func (.yield Lrg1) #[] #[]) (fun d xs H1=>∃(ow:Value)(ps:List Pv),ps.map (·.l)=d.map (lI o rg)∧(∀p∈ps,p.Ix H1 (fun B=>(H.length≤B∧B≠Lrg1)∧nb [ptr A1 0 4,ptr A2 0 3,ptr A3 0 1,ow,ptr A4 0 4,ptr A5 0 3] B))∧
  Lp prog H Lrg1 rg1 H1 ([⟨ptr A1 0 4,0,oC o⟩,⟨ptr A2 0 3,0,rC rg sv⟩,⟨ptr A3 0 1,0,[ow]⟩,⟨ow,1,ps.flatMap Pv.cells⟩,⟨ptr A4 0 4,0,oC o⟩,⟨ptr A5 0 3,0,rC rg sv⟩]++xs)) ⟨.slice none 0 0,[],rfl,by simp,?_⟩ ?_ ?_ ?_ ?_).mono ?_
 ·rw[dr]
  exact hLprg1
 ·rintro d xs H1⟨ow,ps,he,hpx,h⟩
  have hs:=h.left.st
  exact⟨hs.var 4 rfl,ho.ab hs,hs.var 5 rfl,hr.ab hs,fun x hx=>h.st.own x (eN _ hx)⟩
 ·rintro d xs H1 H2 ys⟨ow,ps,he,hpx,h⟩hT
  refine⟨ow,ps,he,fun p hp=>(hpx p hp).step (fun B hB hl=>⟨hT.ab B hl,hB⟩),?_⟩
  have h3:=h.ext hT
  rwa [dD]at h3
 ·rintro d xs ys H1⟨ow,ps,he,hpx,h⟩
  rw[←dD]at h
  exact⟨ow,ps,he,hpx,h.left⟩
 ·rintro d c e xs H1 H20 pv he⟨ow,ps,hpl,hpx,hLp⟩hT hx
  have hLpj:=hLp.ext hT
  rw[dr]at hLpj
  have hpx2:∀p∈ps,p.Ix H20 (fun B=>(H.length≤B∧B≠Lrg1)∧nb [ptr A1 0 4,ptr A2 0 3,ptr A3 0 1,ow,ptr A4 0 4,ptr A5 0 3] B):=fun p hp=>(hpx p hp).step (fun B hB hl=>⟨hT.ab B hl,hB⟩)
  have hLl:Lrg1<H1.length:=jG hLp.get
  have hHl:H.length≤H1.length:=hLp.st.len
  have hpv:(⟨pv,lI o rg c⟩:Pv).Ix H20 (fun B=>(H.length≤B∧B≠Lrg1)∧nb [ptr A1 0 4,ptr A2 0 3,ptr A3 0 1,ow,ptr A4 0 4,ptr A5 0 3] B):=
   Slx.step hx fun B hB hl=>⟨rfl,⟨by omega,by omega⟩,(hLp.left.st.aJ (H':=H20) B hB hl).2⟩
  refine mQ hLpj.get (by rw[hpsrg1];rfl) hstrg1 ?_
  refine Wp.aE (l:=put (put lrg1 (some 11) (.agg #[I c.1,I c.2])) (some 12) (pv)) hasrg1 (by rw[hpsrg1,htmrg1];first|exact(kP ..).symm|rfl|simp[put,kP]) ?_
  simp(disch:=omega) only[↓RA,RZ,simprocAttr,hnrg1]
  refine⟨rg1,hLpj.get,hstrg1,?_⟩
  have hYBs1:=hLpj.set (fun h=>h) {rg1 with state:=.busy}
  have hKBs1:∀B,B≠Lrg1→iP (hset H20 Lrg1 (.loop {rg1 with state:=.busy})) B=iP H20 B:=fun B h=>iM _ (eH h)
  have hNBs1:(hset H20 Lrg1 (.loop {rg1 with state:=.busy})).length=H20.length:=jA ..
  generalize hset H20 Lrg1 (.loop {rg1 with state:=.busy})=HBs1 at hYBs1 hKBs1 hNBs1 ⊢
  refine Wp.aE hbdrg1 rfl ?_
  have hZBs1:=hYBs1.left.st
  obtain⟨Bs1,hBBs1,hS6⟩:=hZBs1.ax (os:=[⟨ptr A1 0 4,0,_⟩,⟨ptr A2 0 3,0,_⟩,⟨ptr A3 0 1,0,_⟩,⟨ow,1,_⟩,⟨ptr A4 0 4,0,_⟩,⟨ptr A5 0 3,0,_⟩])
  have hpn:ps.length≤1024:=by
   have h1:=rA hf
   rw[he,dh]at h1
   have h2:=congrArg List.length hpl
   rw[dF,dF]at h2
   omega
  simp(disch:=omega) only[↓RA,RZ,simprocAttr,hnrg1,g5rg1,hS6.ld 2 rfl]
  refine hS6.ai [pv] c0b c4P rfl rfl (by first|(simp[hx.1.cells.1];done)|simp[Value.cells,hx.1.cells.1]) (by first|(simp[hx.1.cells.1];done)|simp[Value.cells,hx.1.cells.1]) (by simp[hx.1.cells.2.1]) (by decide) (by decide) fun w1 H5 hS7=> ?_
  simp only[RT]at hS7
  simp(disch:=omega) only[↓RA,RZ,simprocAttr,hnrg1]
  refine hS7.aq 3 rfl (hS7.rd 6 rfl) c0b (by rw[iL (n:=1) (cel:=Pv.cells) (fun _=>rfl)];simp;omega) fun w2 H6 hS8=> ?_
  simp only[RT]at hS8
  simp(disch:=omega) only[↓RA,RB,simprocAttr,hnrg1,g5rg1]
  refine hS8.aa 2 rfl [w2] (by rw[(hS8.rd 3 rfl).cells.1]) (by simp[(hS8.rd 3 rfl).cells.2.1]) a7U (by simp) fun H7 hS9=> ?_
  simp only[RT]at hS9
  simp(disch:=omega) only[↓RA,RC,simprocAttr]
  have hS10:=hS9.pick (os':=[⟨ptr A1 0 4,0,_⟩,⟨ptr A2 0 3,0,_⟩,⟨ptr A3 0 1,0,_⟩,⟨w2,1,_⟩,⟨ptr A4 0 4,0,_⟩,⟨ptr A5 0 3,0,_⟩]) [0,1,2,3,4,5] (by decide) rfl
  have hWBs1:=(hYBs1.aV (hBBs1▸hS10)).set (fun h=>h) rg1
  rw[←hreqrg1]at hWBs1
  have hk1:Kept H20 (fun B=>(H.length≤B∧B≠Lrg1)∧nb [ptr A1 0 4,ptr A2 0 3,ptr A3 0 1,ow,ptr A4 0 4,ptr A5 0 3] B) (hset H7 Lrg1 (.loop rg1)) (fun B=>(H.length≤B∧B≠Lrg1)∧nb [ptr A1 0 4,ptr A2 0 3,ptr A3 0 1,w2,ptr A4 0 4,ptr A5 0 3] B):=by
   intro B hB hl
   have h2:=hS10.kept hBBs1 B hB.2 (by rw[hNBs1];exact hl)
   refine⟨?_,hB.1,h2.2⟩
   rw[iM _ (eH hB.1.2),h2.1,hKBs1 B hB.1.2]
  have hfin:∃(ow:Value)(ps:List Pv),ps.map (·.l)=(d++[c]).map (lI o rg)∧(∀p∈ps,p.Ix (hset H7 Lrg1 (.loop rg1)) (fun B=>(H.length≤B∧B≠Lrg1)∧nb [ptr A1 0 4,ptr A2 0 3,ptr A3 0 1,ow,ptr A4 0 4,ptr A5 0 3] B))∧
   Lp prog H Lrg1 rg1 (hset H7 Lrg1 (.loop rg1)) ([⟨ptr A1 0 4,0,oC o⟩,⟨ptr A2 0 3,0,rC rg sv⟩,⟨ptr A3 0 1,0,[ow]⟩,⟨ow,1,ps.flatMap Pv.cells⟩,⟨ptr A4 0 4,0,oC o⟩,⟨ptr A5 0 3,0,rC rg sv⟩]++xs):=by
   refine⟨w2,ps++[⟨pv,lI o rg c⟩],by rw[dA,dA,hpl];rfl,?_,?_⟩
   ·intro p hp
    rcases dJ.1 hp with hp|hp
    ·exact(hpx2 p hp).step hk1
    ·rw[dC.1 hp]
     exact hpv.step hk1
   ·rw[show(ps++[(⟨pv,lI o rg c⟩:Pv)]).flatMap Pv.cells=ps.flatMap Pv.cells++[pv]from by rw[dN];rfl]
    exact hreqrg1▸hWBs1
  rw[←hreqrg1]at hfin
  exact⟨_,(hYBs1.aV (hBBs1▸hS10)).get,rfl,hreqrg1▸hfin⟩
 rintro _ H21⟨ow,ps,hpl,hpx,hLp2⟩
 rw[dr]at hLp2
 refine⟨_,hLp2.get,(by rw[hstrg1];exact fun h=>by cases h),fun _=> ?_,fun c hc=>by rw[hpdrg1]at hc;cases hc⟩
 have hAAf1:=(hLp2.set (fun h=>h) {rg1 with state:=.exhausted}).st
 have hKAf1:∀B,B≠Lrg1→iP (hset H21 Lrg1 (.loop {rg1 with state:=.exhausted})) B=iP H21 B:=fun B h=>iM _ (eH h)
 generalize hset H21 Lrg1 (.loop {rg1 with state:=.exhausted})=HAf1 at hAAf1 hKAf1 ⊢
 simp(disch:=omega) only[↓RA,RZ,simprocAttr,hnrg1,g5rg1,hAAf1.ld 2 rfl,c3c]
 exact⟨ps,hpl,hAAf1.cj 3 rfl (fun _=>rfl),fun p hp=>(hpx p hp).step (fun B hB hl=>⟨hKAf1 B hB.1.2,hB.1.1⟩),hAAf1.forget⟩
theorem Fn.tr{P:Program}{k:FuncId}{args:List Value}{R:Value→Heap→Prop}(h:Fn P k args H R):Fn P k args H fun v H'=>True∧R v H':=by
 simpa using h
theorem St.bV{P:Program}{H0:Base}{os:List Ob}(hS:St P H0 H os){t:TypeId}{size bytes:Nat}{K:Value→Heap→Prop}(ha:mE P t=some (size+1,bytes))(h:∀v H1,St P H0 H1 (os++[⟨v,size+1,[]⟩])→K v H1):rU P H t 0 [] K:=by
 unfold mE at ha
 cases he:iI P t with
 | none=>rw[he]at ha;cases ha
 | some elem=>
 rw[he]at ha
 simp only[da]at ha
 cases hsz2:iD P elem with
 | none=>rw[hsz2]at ha;cases ha
 | some sz=>
 rw[hsz2]at ha
 simp only[da]at ha
 cases hby:nQ P elem with
 | none=>rw[hby]at ha;cases ha
 | some by'=>
 rw[hby]at ha
 simp only[da]at ha
 cases hz2:iX P elem with
 | none=>rw[hz2]at ha;cases ha
 | some z=>
 rw[hz2]at ha
 simp only[da]at ha
 split at ha
 case isFalse=>cases ha
 simp only[dE,gM]at ha
 obtain⟨rfl,rfl⟩:=ha
 refine⟨.slice (some ⟨H.length,0,some 0⟩) 0 (size+1),rN H elem [],?_,h _ _ (hS.add ?_ ?_ ?_ ?_)⟩
 ·unfold yO
  simp only[he,hsz2,hz2,da]
  rw[if_pos (by simp)]
 ·rw[lK]
  unfold OwnAt
  rw[if_neg (eO _)]
  exact .inr ⟨_,0,elem,_,0,[],0,iQ H _,by simp,rfl,by simp,by simp,hsz2⟩
 ·rw[lK];simp[pH]
 ·rw[lK];exact fun B hB=>jQ _ hB
 ·intro B hB
  simp[kI]at hB
  omega
theorem b7E(a:Addr)(m c:Nat):kV prog .eql 38 38 false true (.slice (some a) m c) (.slice none 0 0)=some (.bool false):=by kernel_rfl
theorem a5u{v:Value}{a:Addr}{m c:Nat}(h:v=.slice (some a) m c)(K:Value→Prop):lD prog .eql 38 38 false true v (.slice none 0 0) K=nY (.bool false) K:=by
 subst h
 show jV (kV prog .eql 38 38 false true (.slice (some a) m c) (.slice none 0 0)) K=_
 rw[b7E]
 rfl
theorem Sl.cm{α:Type}{n:Nat}{cel:α→List Value}{v:Value}{xs:List α}(h:Sl n cel H v xs)(h0:0<xs.length):∃a m c,v=.slice (some a) m c:=by
 rcases h.rd with⟨_,h2⟩|⟨A,i,e,row,ty,rw,lo,ver,m,_,_,_,_,_,_,h7⟩
 ·have:=congrArg List.length h2
  rw[iL h.hc,ey]at this
  have:=h.pos
  have:0<xs.length*n:=gV h0 h.pos
  omega
 ·exact⟨_,_,_,h7⟩
theorem a7a(v:Value)(xs:List Nat)(hv:Sl 1 (one u64) H v xs)(hl:xs.length<100000)(h0:0<xs.length):Fn prog 65 [v] H fun r H'=>St prog H H' [⟨r,1,xs.flatMap (one u64)⟩]:=by
 refine .aY func65 rfl (by kernel_rfl) (m:=8) rfl fun l hn g0=> ?_
 obtain⟨a,m,c,hvv⟩:=hv.cm h0
 simp(disch:=omega) only[↓RA,RB,simprocAttr,hn,g0,a5u hvv]
 have hlen:(xs.flatMap (one u64)).length=xs.length:=by rw[iL (n:=1) (fun _=>rfl)];omega
 refine(sR H).bV b0h fun w1 H1 hS1=> ?_
 simp only[RT]at hS1
 simp(disch:=omega) only[↓RA,RZ,simprocAttr,hn,g0]
 refine hS1.aq 0 rfl (hS1.sl hv).rd b0h (by rw[hlen];simp;omega) fun w2 H2 hS2=> ?_
 simp only[RT]at hS2
 simp(disch:=omega) only[↓RA,RB,simprocAttr,hn,c5X]
 exact hS2
theorem b9O(i:Nat)(hi:i<64):IntKind.wrap .u64 (1*2^min i (IntKind.bits .u64))=((2^i:Nat):Int):=by
 have e:IntKind.bits .u64=64:=rfl
 rw[e,ff (by omega),Int.one_mul]
 have h1:((2^i:Nat):Int)=2^i:=by simp
 rw[←h1]
 have h2:2^i≤2^63:=fz (by decide) (by omega)
 have h5:((2^i:Nat):Int)≤((2^63:Nat):Int):=Int.ofNat_le.2 h2
 exact qO _ (Int.natCast_nonneg _) (Int.lt_of_le_of_lt h5 (by decide))
theorem c1s(n i:Nat)(hi:i<64):IntKind.wrap .u64 ((BitVec.ofInt (IntKind.bits .u64) (n:Int)&&&~~~ BitVec.ofInt (IntKind.bits .u64) (IntKind.wrap .u64 (1*2^min i (IntKind.bits .u64)))).toNat:Int)=((tO n i:Nat):Int):=by
 rw[b9O i hi]
 have e:(BitVec.ofInt (IntKind.bits .u64) (n:Int)&&&~~~ BitVec.ofInt (IntKind.bits .u64) ((2^i:Nat):Int)).toNat=tO n i:=by
  show(BitVec.ofInt 64 (n:Int)&&&~~~ BitVec.ofInt 64 ((2^i:Nat):Int)).toNat=tO n i
  rw[fA,fA]
  rfl
 rw[e]
 have:tO n i<2^64:=BitVec.isLt _
 have h3:2^64=18446744073709551616:=rfl
 exact qO _ (by omega) (by omega)
theorem a5a(n:Nat)(i:Int):tO n i<18446744073709551616:=BitVec.isLt _
def Ctl.cP(c:Ctl)(rg:Reg):Prop:=(c.kind=1→0≤c.dv∧c.dv<rg.stops.length∧0≤c.ix∧c.ix<64)∧(c.kind=2→0≤c.ix∧c.ix<64)∧(c.kind≠1→c.kind≠2→0≤c.dv∧c.dv<64)
theorem b0G(rg:Reg)(sv:Value)(hr:rg.In H sv)(h0:0<rg.stops.length)(h1:rg.stops.length<100000)(c:Ctl)(hc:c.cP rg):
 Fn prog 67 [.agg #[sv,.int .u64 rg.cpl,.int .u64 rg.off],.agg #[I c.kind,I c.dv,I c.ix]] H fun r H'=>∃nv,r=.agg #[nv,.int .u64 (kW rg c).cpl,.int .u64 (kW rg c).off]∧St prog H H' [⟨nv,1,(kW rg c).stops.flatMap (one u64)⟩]:=by
 refine .aD func67 rfl (by kernel_rfl) (m:=41) rfl fun l hn g0 g1=> ?_
 simp(disch:=omega) only[↓RA,RB,simprocAttr,g0]
 refine(sR H).eNew 3 [sv,(.int .u64 rg.cpl),(.int .u64 rg.off)] rfl rfl (by simp[OC,((sR H).sl hr.1).cells.2.1]) mP fun A1 H1 hS1=> ?_
 simp only[RT]at hS1
 simp(disch:=omega) only[↓RA,RB,simprocAttr,g1]
 refine hS1.eNew 3 [I c.kind,I c.dv,I c.ix] rfl rfl rfl a0P fun A2 H2 hS2=> ?_
 simp only[RT]at hS2
 simp(disch:=omega) only[↓RA,RZ,simprocAttr]
 refine hS2.eNew 3 [(.slice none 0 0),(.int .u64 0),(.int .u64 0)] rfl rfl rfl mP fun A3 H3 hS3=> ?_
 simp only[RT]at hS3
 simp(disch:=omega) only[↓RA,RZ,simprocAttr,hn,hS3.ld 0 rfl]
 refine iJ ((a7a sv rg.stops (hS3.sl hr.1) h1 h0).tr) ?_
 rintro r H4⟨-,hT1⟩
 have hS4:=hS3.trans hT1
 simp only[RT]at hS4
 simp(disch:=omega) only[↓RA,RZ,simprocAttr,hn]
 refine hS4.aa 0 rfl [r] (by rw[(hS4.rd 3 rfl).cells.1]) (by simp[(hS4.rd 3 rfl).cells.2.1]) b8y (by simp) fun H5 hS5=> ?_
 simp only[RT]at hS5
 simp(disch:=omega) only[↓RA,RZ,simprocAttr,hn,hS5.ld 1 rfl]
 refine iA (fun k1=> ?_) (fun k1=> ?_)
 ·obtain⟨hd0,hd1,hi0,hi1⟩:=hc.1 k1
  obtain⟨d,hd⟩:∃d:Nat,c.dv=d:=⟨c.dv.toNat,by omega⟩
  obtain⟨i,hi⟩:∃i:Nat,c.ix=i:=⟨c.ix.toNat,by omega⟩
  have e1:=c1s (iB rg.stops d) i (by omega)
  simp only[hd,hi]at hS5
  simp(disch:=omega) only[↓RA,RZ,simprocAttr,k1]
  refine Wp.drw jZ (by kernel_rfl) ?_
  simp(disch:=omega) only[↓RA,RZ,simprocAttr,hn,hS5.ld 0 rfl,hS5.ld 1 rfl,(hS5.av 3 rfl (fun _=>rfl)).idx,(hS5.av 3 rfl (fun _=>rfl)).ld,one,u64,k1,e1,one,u64]
  refine hS5.aR 3 rfl [(.int .u64 (tO (iB rg.stops d) i:Nat))] rfl rfl a5d (by simp) (by have h:(rg.stops.flatMap (one u64)).length=rg.stops.length:=(iL (n:=1) (fun _=>rfl) _).trans (by omega);rw[h];simp;omega) fun H6 hS6=> ?_
  simp only[RT]at hS6
  simp(disch:=omega) only[↓RA,RZ,simprocAttr,hn,hS6.ag 0 rfl]
  refine hS6.aa 2 rfl [r,(.int .u64 rg.cpl),(.int .u64 rg.off)] rfl (by simp[OC,(hS6.rd 3 rfl).cells.2.1]) mP (by simp) fun H7 hS7=> ?_
  simp only[RT]at hS7
  simp(disch:=omega) only[↓RA,RZ,simprocAttr,hn,c1u,hS7.ag 2 rfl]
  refine⟨r,by rw[kW,if_pos k1],?_⟩
  have e2:(kW rg c).stops.flatMap (one u64)=(rg.stops.flatMap (one u64)).set d (.int .u64 (tO (iB rg.stops d) i:Nat)):=by
   rw[kW,if_pos k1,a2s,a2s,hd,hi]
   show(rg.stops.set d _).map u64=_
   rw[fN]
   rfl
  rw[e2]
  exact hS7.pick [3] (by decide) rfl
 simp(disch:=omega) only[↓RA,RZ,simprocAttr,hn,k1]
 refine iA (fun k2=> ?_) (fun k2=> ?_)
 ·obtain⟨hi0,hi1⟩:=hc.2.1 k2
  obtain⟨i,hi⟩:∃i:Nat,c.ix=i:=⟨c.ix.toNat,by omega⟩
  have e1:=c1s rg.cpl i (by omega)
  simp only[hi]at hS5
  simp(disch:=omega) only[↓RA,RZ,simprocAttr,k2]
  refine Wp.drw jZ (by kernel_rfl) ?_
  simp(disch:=omega) only[↓RA,RZ,simprocAttr,hn,hS5.ld 0 rfl,hS5.ld 1 rfl,k2,e1]
  refine hS5.aa 0 rfl [_] rfl rfl a5d (by simp) fun H8 hS8=> ?_
  simp only[RT]at hS8
  simp(disch:=omega) only[↓RA,RZ,simprocAttr,hn,hS8.ag 0 rfl]
  refine hS8.aa 2 rfl [r,_,(.int .u64 rg.off)] rfl (by simp[OC,(hS8.rd 3 rfl).cells.2.1]) mP (by simp) fun H9 hS9=> ?_
  simp only[RT]at hS9
  simp(disch:=omega) only[↓RA,RZ,simprocAttr,hn,c1u,hS9.ag 2 rfl]
  refine⟨r,by rw[kW,if_neg k1,if_pos k2,hi],?_⟩
  have e2:(kW rg c).stops=rg.stops:=by rw[kW,if_neg k1,if_pos k2]
  rw[e2]
  exact hS9.pick [3] (by decide) rfl
 obtain⟨hi0,hi1⟩:=hc.2.2 k1 k2
 obtain⟨i,hi⟩:∃i:Nat,c.dv=i:=⟨c.dv.toNat,by omega⟩
 have e1:=c1s rg.off i (by omega)
 simp only[hi]at hS5
 simp(disch:=omega) only[↓RA,RZ,simprocAttr,k1,k2]
 refine Wp.drw jZ (by kernel_rfl) ?_
 simp(disch:=omega) only[↓RA,RZ,simprocAttr,hn,hS5.ld 0 rfl,hS5.ld 1 rfl,e1]
 refine hS5.aa 0 rfl [_] rfl rfl a5d (by simp) fun H10 hS10=> ?_
 simp only[RT]at hS10
 simp(disch:=omega) only[↓RA,RZ,simprocAttr,hn,hS10.ag 0 rfl]
 refine hS10.aa 2 rfl [r,(.int .u64 rg.cpl),_] rfl (by simp[OC,(hS10.rd 3 rfl).cells.2.1]) mP (by simp) fun H11 hS11=> ?_
 simp only[RT]at hS11
 simp(disch:=omega) only[↓RA,RZ,simprocAttr,hn,c1u,hS11.ag 2 rfl]
 refine⟨r,by rw[kW,if_neg k1,if_neg k2,hi],?_⟩
 have e2:(kW rg c).stops=rg.stops:=by rw[kW,if_neg k1,if_neg k2]
 rw[e2]
 exact hS11.pick [3] (by decide) rfl
theorem wZ{α:Type}[Inhabited α]{xs ys:List α}(hl:xs.length=ys.length)(h:∀j,j<xs.length→iB xs j=iB ys j):xs=ys:=by
 apply List.ext_getElem hl
 intro j h1 h2
 have:=h j h1
 rwa [jR xs j h1,jR ys j h2]at this
theorem b6F(v w:Value)(xs ys:List Ct)(hv:Sl 2 jS H v xs)(hw:Sl 2 jS H w ys)(hl:xs.length<1000000000)(hl2:ys.length<1000000000):
 Fn prog 21 [v,w] H fun r H'=>r=.bool (decide (xs=ys))∧St prog H H' []:=by
 refine .aD func21 rfl (by kernel_rfl) (m:=26) rfl fun l hn g0 g1=> ?_
 simp(disch:=omega) only[↓RA,RZ,simprocAttr,hn,g0,g1,((sR H).sl hv).len,((sR H).sl hw).len]
 refine iA (fun h1=> ?_) (fun h1=> ?_)
 ·simp(disch:=omega) only[↓RA,RZ,simprocAttr,hn,c2l,h1]
  exact⟨by rw[decide_eq_false];intro e;rw[e]at h1;exact h1 rfl,(sR H)⟩
 simp(disch:=omega) only[↓RA,RZ,simprocAttr,hn,g0,((sR H).sl hv).len,h1]
 refine Wp.al (fun n l H'=>l.length=26∧get l 0=v∧get l 1=w∧get l 12=I xs.length∧∃(j:Nat),(n+j=xs.length∧∀q,q<j→iB xs q=iB ys q)∧get l 13=I j∧St prog H H' []) xs.length ?_ ?_
 ·simp(disch:=omega) only[RB,RC,simprocAttr,hn,g0,g1]
  exact⟨0,⟨by omega,fun q hq=>absurd hq (dL _)⟩,rfl,(sR H)⟩
 rintro n l H1⟨hn,g0,g1,g12,j,⟨hj,hz⟩,g13,hS1⟩
 simp(disch:=omega) only[↓RA,RB,simprocAttr,hn,g12,g13]
 refine iA (fun q1=> ?_) (fun q1=> ?_)
 ·simp(disch:=omega) only[↓RA,RZ,simprocAttr,hn,g13,q1]
  refine Wp.drw jZ (by kernel_rfl) ?_
  simp(disch:=omega) only[↓RA,RZ,simprocAttr,hn,g0,g1,(hS1.sl hv).idx,(hS1.sl hv).ag,jS,(hS1.sl hw).idx,(hS1.sl hw).ag]
  refine iA (fun q2=> ?_) (fun q2=> ?_)
  ·simp(disch:=omega) only[↓RA,RZ,simprocAttr,hn,c2l,q2]
   refine⟨?_,hS1⟩
   rw[decide_eq_false]
   intro e
   rw[e]at q2
   exact q2 ⟨rfl,rfl⟩
  have q3:=dG.1 q2
  simp(disch:=omega) only[↓RA,RZ,simprocAttr,hn,g0,g1,g12,g13,q2]
  exact⟨n-1,by omega,j+1,⟨by omega,fun q hq=>by rcases du.1 hq with e|e;(· exact hz q e);(· rw[e];exact gz q3.1 q3.2)⟩,by simp,hS1⟩
 simp(disch:=omega) only[↓RA,RZ,simprocAttr,hn,c2l,q1]
 exact⟨by rw[decide_eq_true];exact wZ (by omega) fun q hq=>hz q (by omega),hS1⟩
theorem b1s(v w:Value)(xs ys:List Ct)(hv:Sl 2 jS H v xs)(hw:Sl 2 jS H w ys)(hl:xs.length<1000000000)(hl2:ys.length<1000000000):
 Fn prog 106 [v,w] H fun r H'=>r=.bool (decide (xs=ys))∧St prog H H' []:=by
 refine .aD func106 rfl (by kernel_rfl) (m:=8) rfl fun l hn g0 g1=> ?_
 simp(disch:=omega) only[↓RA,RZ,simprocAttr,hn,g0,g1]
 refine(sR H).cF (b6F v w xs ys ((sR H).sl hv) ((sR H).sl hw) hl hl2) fun H1 hS1=> ?_
 simp(disch:=omega) only[↓RA,RZ,simprocAttr,hn,c4w]
 exact hS1
def Pv.In(H:Heap)(p:Pv):Prop:=Sl 2 jS H p.v p.l
theorem b7e(v w:Value)(ps qs:List Pv)(hv:Sl 1 Pv.cells H v ps)(hw:Sl 1 Pv.cells H w qs)(hp:∀p∈ps,p.In H)(hq:∀p∈qs,p.In H)(hl:ps.length<1000000000)(hl2:qs.length<1000000000)(hb:∀p∈ps,p.l.length<1000000000)(hb2:∀p∈qs,p.l.length<1000000000):
 Fn prog 105 [v,w,.func (.func 106) #[] #[]] H fun r H'=>r=.bool (decide (ps.map (·.l)=qs.map (·.l)))∧St prog H H' []:=by
 have hne:∀j,j<ps.length→j<qs.length→(iB ps j).l≠(iB qs j).l→ps.map (·.l)≠qs.map (·.l):=fun j h1 h2 hne e=>by
  apply hne
  have:=congrArg (fun l=>iB l j) e
  simp only at this
  rwa [vL _ h1,vL _ h2]at this
 refine .bO func105 rfl (by kernel_rfl) (m:=32) rfl fun l hn g0 g1 g2=> ?_
 simp(disch:=omega) only[↓RA,RZ,simprocAttr,hn,g0,g1,((sR H).sl hv).len,((sR H).sl hw).len]
 refine iA (fun h1=> ?_) (fun h1=> ?_)
 ·simp(disch:=omega) only[↓RA,RZ,simprocAttr,hn,b5U,h1]
  refine⟨?_,(sR H)⟩
  rw[decide_eq_false]
  intro e
  have:=congrArg List.length e
  rw[dF,dF]at this
  omega
 simp(disch:=omega) only[↓RA,RZ,simprocAttr,hn,g0,((sR H).sl hv).len,h1]
 refine Wp.al (fun n l H'=>l.length=32∧get l 1=w∧get l 2=(.func (.func 106) #[] #[])∧get l 15=v∧get l 16=I ps.length∧∃(j:Nat),(n+j=ps.length∧∀q,q<j→(iB ps q).l=(iB qs q).l)∧get l 17=I j∧St prog H H' []) ps.length ?_ ?_
 ·simp(disch:=omega) only[RB,RC,simprocAttr,hn,g1,g2]
  exact⟨0,⟨by omega,fun q hq=>absurd hq (dL _)⟩,rfl,(sR H)⟩
 rintro n l H1⟨hn,g1,g2,g15,g16,j,⟨hj,hz⟩,g17,hS1⟩
 simp(disch:=omega) only[↓RA,RB,simprocAttr,hn,g16,g17]
 refine iA (fun q1=> ?_) (fun q1=> ?_)
 ·simp(disch:=omega) only[↓RA,RZ,simprocAttr,hn,g1,g2,g15,g17,(hS1.sl hv).idx,(hS1.sl hv).ld,Pv.cells,(hS1.sl hw).idx,(hS1.sl hw).ld,q1]
  refine hS1.cF (b1s (iB ps j).v (iB qs j).v (iB ps j).l (iB qs j).l (hS1.sl (hp _ (iE (by omega)))) (hS1.sl (hq _ (iE (by omega)))) (hb _ (iE (by omega))) (hb2 _ (iE (by omega)))) fun H2 hS2=> ?_
  simp(disch:=omega) only[↓RA,RZ,simprocAttr,hn,q1]
  refine jE (fun q2=> ?_) (fun q2=> ?_)
  ·simp(disch:=omega) only[↓RA,RZ,simprocAttr,hn,b5U,q1,q2]
   exact⟨by rw[decide_eq_false (hne j (by omega) (by omega) (by simpa using q2))],hS2⟩
  simp(disch:=omega) only[↓RA,RZ,simprocAttr,hn,g1,g2,g15,g16,g17,q1,q2]
  exact⟨n-1,by omega,j+1,⟨by omega,fun q hq=>by rcases du.1 hq with e|e;(· exact hz q e);(· rw[e];simpa using q2)⟩,by simp,hS2⟩
 simp(disch:=omega) only[↓RA,RZ,simprocAttr,hn,b5U,q1]
 refine⟨?_,hS1⟩
 rw[decide_eq_true]
 refine wZ (by simp;omega) fun q hq=> ?_
 rw[dF]at hq
 rw[vL _ hq,vL _ (by omega)]
 exact hz q (by omega)
theorem b9e(v:Value)(xs:List Ctl)(hv:Sl 3 Ctl.cells H v xs)(hl:xs.length<1000000000)(k:FuncId)(caps:List Value)(p:Nat→Bool)
 (hf:∀j H1,j<xs.length→St prog H H1 []→Fn prog k (.agg #[I (iB xs j).kind,I (iB xs j).dv,I (iB xs j).ix]::caps) H1 fun r H2=>r=.bool (p j)∧St prog H1 H2 []):
 Fn prog 152 [v,.func (.func k) #[] caps.toArray] H fun r H'=>r=I (mZ p xs.length)∧St prog H H' []:=by
 refine .aD func152 rfl (by kernel_rfl) (m:=19) rfl fun l hn g0 g1=> ?_
 simp(disch:=omega) only[↓RA,RZ,simprocAttr,hn,g0,((sR H).sl hv).len]
 refine Wp.al (fun n l H'=>l.length=19∧get l 0=v∧get l 1=.func (.func k) #[] caps.toArray∧get l 7=I xs.length∧∃(j:Nat),(n+j=xs.length∧∀q,q<j→p q=false)∧get l 8=I j∧St prog H H' []) xs.length ?_ ?_
 ·simp(disch:=omega) only[RB,RC,simprocAttr,hn,g0,g1]
  exact⟨0,⟨by omega,fun q hq=>absurd hq (dL _)⟩,rfl,(sR H)⟩
 rintro n l H1⟨hn,g0,g1,g7,j,⟨hi,h0⟩,g8,hS1⟩
 simp(disch:=omega) only[↓RA,RB,simprocAttr,hn,g7,g8]
 refine iA (fun h=> ?_) (fun h=> ?_)
 ·simp(disch:=omega) only[↓RA,RZ,simprocAttr,hn,g0,g1,g8,(hS1.sl hv).idx,(hS1.sl hv).ag,Ctl.cells,h]
  refine hS1.cF (hf j _ (by omega) hS1) fun H2 hS2=> ?_
  simp(disch:=omega) only[↓RA,RZ,simprocAttr,hn,h]
  refine jE (fun hp=> ?_) (fun hp=> ?_)
  ·simp(disch:=omega) only[↓RA,RZ,simprocAttr,hn,b9Q,h,hp]
   exact⟨by rw[vK p xs.length j (by omega) hp h0],hS2⟩
  simp(disch:=omega) only[↓RA,RZ,simprocAttr,hn,g0,g1,g7,g8,h,hp]
  exact⟨n-1,by omega,j+1,⟨by omega,fun q hq=>by rcases du.1 hq with e|e;(· exact h0 q e);(· rw[e];exact hp)⟩,by simp,hS2⟩
 simp(disch:=omega) only[↓RA,RZ,simprocAttr,hn,b9Q,h]
 exact⟨by rw[vD p xs.length fun q hq=>h0 q (by omega)],hS1⟩
theorem c3h:a3E prog 97=some (2+1):=by kernel_rfl
theorem rJ(a b:List Ctl):mB (a++b)=mB a++mB b:=dN
theorem b7P{B:Base}{v:Value}{xs:List Ctl}(hS:St prog B H [⟨v,3,mB xs⟩])(hl:xs.length<100000)(k:FuncId)(caps:List Value)(p:Ctl→Bool)
 (hf:∀c∈xs,∀{H1:Heap}{os:List Ob},St prog B H1 os→Fn prog k (.agg #[I c.kind,I c.dv,I c.ix]::caps) H1 fun r H2=>r=.bool (p c)∧St prog H1 H2 []):
 Fn prog 102 [v,.func (.func k) #[] caps.toArray] H fun r H'=>∃rest:List Value,(∀b,kI r=some b→kI v=some b)∧(∀H2,RdAt H2 v 3 (mB (xs.filter fun c=> !p c)++rest)→RdAt H2 r 3 (mB (xs.filter fun c=> !p c)))∧
  St prog B H' [⟨v,3,mB (xs.filter fun c=> !p c)++rest⟩]:=by
 refine .aD func102 rfl (by kernel_rfl) (m:=42) rfl fun l hn g0 g1=> ?_
 simp(disch:=omega) only[↓RA,RZ,simprocAttr,hn,g0,g1]
 refine hS.cF (b9e v xs (hS.av 0 rfl (fun _=>rfl)) (by omega) k caps (fun j=>p (iB xs j)) (fun j H1 hj hS'=>hf _ (iE hj) (hS.trans hS'))) fun H1 hS1=> ?_
 simp(disch:=omega) only[↓RA,RB,simprocAttr,hn]
 refine iA (fun h1=> ?_) (fun h1=> ?_)
 ·have hno:∀c∈xs,p c=false:=by
   intro c hc
   obtain⟨j,hj,rfl⟩:=dR.1 hc
   have h2:¬0≤mZ (fun j=>p (iB xs j)) xs.length:=by omega
   rw[yU]at h2
   rw[←jR xs j hj,←eM]
   exact fun hp=>h2 ⟨j,hj,hp⟩
  have hfe:(xs.filter fun c=> !p c)=xs:=gL.2 fun c hc=>by rw[hno c hc];rfl
  simp(disch:=omega) only[↓RA,RZ,simprocAttr,hn,g0,b9B,h1]
  exact⟨[],fun _ h=>h,by rw[hfe,dr];exact fun _ h=>h,by rw[hfe,dr];exact hS1⟩
 have hge:0≤mZ (fun j=>p (iB xs j)) xs.length:=by
  unfold mZ at h1 ⊢
  split
  ·omega
  ·rename_i hq
   rw[hq]at h1
   exact absurd rfl h1
 obtain⟨i0,hi0⟩:∃i0:Nat,mZ (fun j=>p (iB xs j)) xs.length=i0:=⟨_,(fi hge).symm⟩
 have hi0l:=zC hi0
 have hi0b:(∀j,j<i0→p (iB xs j)=false)∧p (iB xs i0)=true:=by
  unfold mZ at hi0
  split at hi0
  ·rename_i q hq
   have hqi:q=i0:=by omega
   subst hqi
   rw[List.find?_range_eq_some]at hq
   exact⟨fun j hj=>by have:=hq.2.2 j hj;simpa using this,hq.1⟩
  ·omega
 have hD0:((xs.take (i0+1)).filter fun c=> !p c)=xs.take i0:=by
  rw[kJ xs i0 hi0l,ew]
  have e1:([iB xs i0].filter fun c=> !p c)=[]:=by simp[hi0b.2]
  rw[e1,dr]
  refine gL.2 fun c hc=> ?_
  obtain⟨j,hj,rfl⟩:=dR.1 hc
  have hj2:j<i0:=by rw[eI]at hj;omega
  have:=hi0b.1 j hj2
  rw[jR xs j (by omega)]at this
  rw[List.getElem_take,this]
  rfl
 simp(disch:=omega) only[↓RA,RZ,simprocAttr,hn,hi0]
 have hrow:St prog B H1 [⟨v,3,mB (((xs.take (i0+1)).filter fun c=> !p c)++xs.drop ((xs.take (i0+1)).filter fun c=> !p c).length)⟩]:=by
  rw[hD0,eI,ff (by omega),fL]
  exact hS1
 have hlt0:((xs.take (i0+1)).filter fun c=> !p c).length<i0+1:=by
  rw[hD0,eI]
  omega
 refine Wp.al (fun n l H'=>l.length=42∧get l 0=v∧get l 1=.func (.func k) #[] caps.toArray∧∃j:Nat,(n+j=xs.length∧((xs.take j).filter fun c=> !p c).length<j)∧get l 5=I ((xs.take j).filter fun c=> !p c).length∧get l 6=I j∧St prog B H' [⟨v,3,mB (((xs.take j).filter fun c=> !p c)++xs.drop ((xs.take j).filter fun c=> !p c).length)⟩]) (xs.length-(i0+1)) ?_ ?_
 ·simp(disch:=omega) only[RB,RC,simprocAttr,hn,g0,g1]
  refine⟨i0+1,⟨by omega,hlt0⟩,?_,by simp,hrow⟩
  rw[hD0,eI,ff (by omega)]
 clear hrow hlt0
 rintro n l H9⟨hn,g0,g1,j,⟨hj,hlt⟩,g5,g6,hS9⟩
 have hsucc:j<xs.length→((xs.take (j+1)).filter fun c=> !p c)=((xs.take j).filter fun c=> !p c)++(if p (iB xs j)=true then[]else[iB xs j]):=fun h=>by
  rw[kJ xs j h,ew]
  congr 1
  by_cases hp:p (iB xs j)=true
  ·rw[if_pos hp];simp[hp]
  ·rw[if_neg hp];simp[hp]
 have hall:j=xs.length→((xs.take j).filter fun c=> !p c)=xs.filter fun c=> !p c:=fun h=>by rw[h,ek]
 generalize hD:((xs.take j).filter fun c=> !p c)=D at g5 hlt hS9 hsucc hall
 have hjl:j≤xs.length:=by omega
 have hrl:(D++xs.drop D.length).length=xs.length:=by rw[dh,eD];omega
 have hat:∀q,D.length≤q→iB (D++xs.drop D.length) q=iB xs q:=fun q hq=>by
  unfold iB
  rw[dg,dZ hq,dH,dg]
  congr 2;omega
 have hatj:=hat j (by omega)
 simp(disch:=omega) only[↓RA,RZ,simprocAttr,hn,g0,g6,(hS9.av 0 rfl (fun _=>rfl)).len,hrl]
 refine iA (fun h4=> ?_) (fun h4=> ?_)
 ·have hjx:j<xs.length:=by omega
  have hsu:=hsucc hjx
  simp(disch:=omega) only[↓RA,RZ,simprocAttr,hn,g0,g6,(hS9.av 0 rfl (fun _=>rfl)).idx,(hS9.av 0 rfl (fun _=>rfl)).ag,Ctl.cells,hatj,h4]
  refine hS9.eNew 3 [I 0,I 0,I 0] rfl rfl rfl a0P fun A1 H2 hS2=> ?_
  simp only[RT]at hS2
  simp(disch:=omega) only[↓RA,RZ,simprocAttr,hn,h4]
  refine hS2.aa 1 rfl [I (iB xs j).kind,I (iB xs j).dv,I (iB xs j).ix] rfl rfl a0P (by simp) fun H3 hS3=> ?_
  simp only[RT]at hS3
  simp(disch:=omega) only[↓RA,RZ,simprocAttr,hn,g1,hS3.ag 1 rfl,h4]
  refine hS3.cF (hf (iB xs j) (iE hjx) hS3) fun H4 hS4=> ?_
  simp(disch:=omega) only[↓RA,RZ,simprocAttr,hn,h4]
  refine jE (fun h5=> ?_) (fun h5=> ?_)
  ·have hpf:¬p (iB xs j)=true:=by simpa using h5
   rw[if_neg hpf]at hsu
   simp(disch:=omega) only[↓RA,RZ,simprocAttr,hn,g0,g5,hS4.ag 1 rfl,(hS4.av 0 rfl (fun _=>rfl)).idx,h4,h5]
   refine hS4.aR 0 rfl [I (iB xs j).kind,I (iB xs j).dv,I (iB xs j).ix] rfl rfl a0P (by simp) (by rw[mG,hrl];simp;omega) fun H5 hS5=> ?_
   simp only[RT]at hS5
   simp(disch:=omega) only[↓RA,RZ,simprocAttr,hn,g0,g1,g5,g6,h4,h5]
   refine⟨n-1,by omega,j+1,?_⟩
   rw[hsu]
   refine⟨⟨by omega,by simp;omega⟩,by simp,by simp,?_⟩
   have e3:mB (D++[iB xs j]++xs.drop (D++[iB xs j]).length)=(((mB (D++xs.drop D.length)).set (D.length*3) (I (iB xs j).kind)).set (D.length*3+1) (I (iB xs j).dv)).set (D.length*3+1+1) (I (iB xs j).ix):=by
    have hx:xs.drop D.length=iB xs D.length::xs.drop (D.length+1):=by
     rw[jR xs _ (by omega)]
     exact eQ (by omega)
    rw[hx,dh,gp,rJ,rJ,rJ]
    have e4:mB (iB xs D.length::xs.drop (D.length+1))=I (iB xs D.length).kind::I (iB xs D.length).dv::I (iB xs D.length).ix::mB (xs.drop (D.length+1)):=rfl
    have e5:mB [iB xs j]=[I (iB xs j).kind,I (iB xs j).dv,I (iB xs j).ix]:=rfl
    have e6:(mB D).length=D.length*3:=mG D
    rw[e4,e5,dX _ _ (by omega),dX _ _ (by omega),dX _ _ (by omega),e6,gF,fy,show D.length*3+1+1-D.length*3=2 from by omega]
    simp
   rw[e3]
   exact hS5.pick [0] (by decide) rfl
  have hpt:p (iB xs j)=true:=by simpa using h5
  rw[if_pos hpt,dr]at hsu
  simp(disch:=omega) only[↓RA,RZ,simprocAttr,hn,g0,g1,g5,g6,h4,h5]
  refine⟨n-1,by omega,j+1,?_⟩
  rw[hsu]
  exact⟨⟨by omega,by omega⟩,rfl,by simp,hS4.pick [0] (by decide) rfl⟩
 have hje:j=xs.length:=by omega
 have hDe:=hall hje
 have hcl:(mB (D++xs.drop D.length)).length=xs.length*(2+1):=by rw[mG,hrl]
 have hDn:D.length≤xs.length:=by omega
 simp(disch:=omega) only[↓RA,RZ,simprocAttr,hn,g0,g5,(hS9.av 0 rfl (fun _=>rfl)).aL,hrl,h4]
 rw[show((xs.length:Int)-D.length).toNat=xs.length-D.length from by omega]
 refine hS9.bq (size:=2) 0 rfl D.length (xs.length-D.length) (by rw[hcl];omega) (by
  intro e
  have h2:(mB (D++xs.drop D.length)).length=0:=by rw[e];rfl
  rw[hcl]at h2;omega) c3h fun z H3 hz hSc=> ?_
 simp only[RT]at hSc
 have e3:iZ (mB (D++xs.drop D.length)) (D.length*3) z=mB D++z:=by
  rw[rJ,show D.length*3=(mB D).length from(mG D).symm,mC z (mB D) (mB (xs.drop D.length)) (by rw[mG,eD];omega)]
  rw[gh (by rw[mG,eD];omega),dr]
 rw[show D.length*(2+1)=D.length*3 from rfl,e3]at hSc
 have hw:RdAt H3 v (2+1) (mB D++z):=hSc.rd 0 rfl
 have hwl:(mB D++z).length=xs.length*(2+1):=by rw[dh,mG,hz];omega
 simp(disch:=omega) only[↓RA,RZ,simprocAttr,hn,g0,g5,hw.aM hwl,b9B,h4]
 refine⟨z,fun b h=>uI h,fun H2 h2=> ?_,by rw[←hDe];exact hSc⟩
 rw[←hDe]at h2 ⊢
 have h5:=RdAt.sub h2 0 D.length (by rw[hwl];omega) (by
  intro e
  rw[e]at hwl
  simp at hwl;omega)
 rw[Nat.zero_mul,gY,show D.length*3=(mB D).length from(mG D).symm,List.take_left' rfl]at h5
 exact h5
theorem a3J(rg:Reg)(c:Ctl):(kW rg c).stops.length=rg.stops.length:=by
 unfold kW
 split
 ·simp
 ·split<;>rfl
theorem yF{rg:Reg}(h:rg.Ok)(c:Ctl):(kW rg c).Ok:=by
 obtain⟨h1,h2,h3,h4⟩:=h
 unfold kW
 split
 ·refine⟨by simpa using h1,?_,h3,h4⟩
  intro x hx
  rcases List.mem_or_eq_of_mem_set hx with h|h
  ·exact h2 x h
  ·rw[h];exact a5a _ _
 ·split
  ·exact⟨h1,h2,a5a _ _,h4⟩
  ·exact⟨h1,h2,h3,a5a _ _⟩
theorem a1q{o:Org}(hf:o.Fine)(rg:Reg)(c:Ct):(lI o rg c).length≤1000000:=by
 unfold lI
 split
 ·rename_i h
  have hc:=(a3y h).2
  unfold uG a5I
  refine dI (b4R _) ?_
  rw[pA]
  have hm:∀x∈[c],rM o x=true:=by intro x hx;rw[dC.1 hx];exact hc
  have h1:=vI hf rg (uT o rg [c]) (a2H hm)
  have h2:=a1u hf (rg:=rg) (l:=[c]) (by simp)
  omega
 ·simp
theorem a4s{o:Org}(hf:o.Fine)(rg:Reg):∀l∈pX o rg,l.length≤1000000:=by
 intro l hl
 obtain⟨c,_,rfl⟩:=dy.1 hl
 exact a1q hf rg c
theorem a2R{rg:Reg}(h64:rg.stops.length≤64):∀c∈pD rg,c.cP rg:=by
 intro c hc
 unfold pD at hc
 have hb:∀(x i:Nat),i∈oQ x→i<64:=fun x i hi=>by
  unfold oQ at hi
  exact dB.1 (eo.1 hi).1
 rcases dJ.1 hc with hc|hc
 ·rcases dJ.1 hc with hc|hc
  ·obtain⟨d,hd,hc⟩:=eC.1 hc
   obtain⟨i,hi,rfl⟩:=dy.1 hc
   have hd:=dB.1 hd
   have hi:=hb _ _ hi
   refine⟨fun _=> ?_,fun h=> ?_,fun h=> ?_⟩
   ·simp only[a0d];omega
   ·simp only[a0d]at h;omega
   ·exact absurd rfl h
  ·obtain⟨i,hi,rfl⟩:=dy.1 hc
   have hi:=hb _ _ hi
   refine⟨fun h=> ?_,fun _=> ?_,fun _ h=> ?_⟩
   ·simp only[wN]at h;omega
   ·simp only[wN];omega
   ·exact absurd rfl h
 ·obtain⟨i,hi,rfl⟩:=dy.1 hc
  have hi:=hb _ _ hi
  refine⟨fun h=> ?_,fun h=> ?_,fun _ _=> ?_⟩
  ·simp only[a4H]at h;omega
  ·simp only[a4H]at h;omega
  ·simp only[a4H];omega
theorem b4X(o:Org)(ho:o.In H)(hf:o.Fine)(rg:Reg)(sv:Value)(hr:rg.In H sv)(h0:0<rg.stops.length)(h1:rg.stops.length<100000)(c:Ctl)(hc:c.cP rg)(AO AR AW:Nat)
 (hAO:Var H AO 4 [.string o.name,o.rv,o.dv,o.cv]) (hAR:Var H AR 3 [sv,.int .u64 rg.cpl,.int .u64 rg.off]) (wv:Value) (own:List Pv) (hAW:Var H AW 1 [wv]) (hw:Sl 1 Pv.cells H wv own) (hwi:∀p∈own,p.In H) (hwl:own.length<1000000000) (hwb:∀p∈own,p.l.length<1000000000):
 Fn prog 104 [.agg #[I c.kind,I c.dv,I c.ix],ptr AO 0 4,ptr AR 0 3,ptr AW 0 1] H fun r H'=>r=.bool (!(decide (pX o (kW rg c)=own.map (·.l))))∧St prog H H' []:=by
 refine .cT func104 rfl (by kernel_rfl) (m:=14) rfl fun l hn g0 g1 g2 g3=> ?_
 simp(disch:=omega) only[↓RA,RB,simprocAttr,g0]
 refine(sR H).eNew 3 [I c.kind,I c.dv,I c.ix] rfl rfl rfl a0P fun A1 H1 hS1=> ?_
 simp only[RT]at hS1
 simp(disch:=omega) only[↓RA,RB,simprocAttr]
 refine Wp.aO jZ [(0,4),(5,0),(5,4)] (by kernel_rfl) (by kernel_rfl) ?_
 simp(disch:=omega) only[↓RA,RZ,simprocAttr,hn,g1,g2,(hS1.va hAO).ag,(hS1.va hAR).ag,hS1.ag 0 rfl]
 refine iJ (b0G rg sv (hr.ab hS1) h0 h1 c hc) ?_
 rintro r H2⟨nv,rfl,hT1⟩
 have hS2:=hS1.trans hT1
 simp only[RT]at hS2
 simp(disch:=omega) only[↓RA,RZ,simprocAttr,hn]
 have hln:=a3J rg c
 refine iJ (a4f o (ho.ab hS2) hf (kW rg c) nv ⟨hS2.av 1 rfl (fun _=>rfl),yF hr.2 c⟩) ?_
 rintro r H3⟨ps,hps,hpx,hpi,hT2⟩
 have hS3:=hS2.trans hT2
 simp only[RT]at hS3
 have hpl:ps.length<1000000000:=by
  have h2:=congrArg List.length hps
  rw[dF]at h2
  have h3:=rA hf
  unfold pX at h2
  rw[dF]at h2
  omega
 have hpb:∀p∈ps,p.l.length<1000000000:=fun p hp=>by
  have:=a4s hf (kW rg c) p.l (by rw[←hps];exact eV hp)
  omega
 simp(disch:=omega) only[↓RA,RZ,simprocAttr,hn,g3,(hS3.va hAW).ld]
 refine hS3.cF (b7e r wv ps own hpx.1 (hS3.sl hw) (fun p hp=>(hpi p hp).1) (fun p hp=>hS3.sl (hwi p hp)) hpl hwl hpb hwb) fun H4 hS4=> ?_
 simp(disch:=omega) only[↓RA,RZ,simprocAttr,hn,g1,g3,(hS2.va hAO).ag,(hS1.va hAW).ld,(hS2.va hAW).ld,c3j]
 exact⟨by rw[hps],hS4.forget⟩
theorem a2g{rg:Reg}(h60:rg.stops.length≤60):(pD rg).length<100000:=by
 have e:pD rg=yB rg rg.stops.length++(nF rg.cpl 64).map wN++(nF rg.off 64).map a4H:=rfl
 rw[e,dh,dh,dF,dF]
 have h1:=a1e rg rg.stops.length
 have h2:=nH rg.cpl 64
 have h3:=nH rg.off 64
 omega
theorem a7C(o:Org)(rg:Reg):((pD rg).filter fun c=> !(!(decide (pX o (kW rg c)=pX o rg))))=mK o rg:=by
 unfold mK
 congr 1
 funext c
 rw[Bool.not_not]
theorem b0p(o:Org)(ho:o.In H)(hf:o.Fine)(rg:Reg)(sv:Value)(hr:rg.In H sv)(h0:0<rg.stops.length)(h60:rg.stops.length≤60):
 Fn prog 66 [.agg #[.string o.name,o.rv,o.dv,o.cv],.agg #[sv,.int .u64 rg.cpl,.int .u64 rg.off]] H fun r H'=>Slx 3 Ctl.cells H' (fun B=>H.length≤B) r (mK o rg)∧St prog H H' []:=by
 refine .aD func66 rfl (by kernel_rfl) (m:=13) rfl fun l hn g0 g1=> ?_
 simp(disch:=omega) only[↓RA,RB,simprocAttr,g0]
 refine(sR H).eNew 4 [(.string o.name),o.rv,o.dv,o.cv] rfl rfl (by simp[OC,((sR H).sl ho.1).cells.2.1,((sR H).sl ho.2.2.1).cells.2.1,((sR H).sl ho.2.2.2.2.1).cells.2.1]) mV fun A1 H1 hS1=> ?_
 simp only[RT]at hS1
 simp(disch:=omega) only[↓RA,RB,simprocAttr,g1]
 refine hS1.eNew 3 [sv,(.int .u64 rg.cpl),(.int .u64 rg.off)] rfl rfl (by simp[OC,(hS1.sl hr.1).cells.2.1]) mP fun A2 H2 hS2=> ?_
 simp only[RT]at hS2
 simp(disch:=omega) only[↓RA,RZ,simprocAttr,hn,hS2.ag 0 rfl,hS2.ag 1 rfl]
 have hS0:=hS2
 refine iJ (a4f o (ho.ab hS2) hf rg sv (hr.ab hS2)) ?_
 rintro r H3⟨ps,hps,hpx,hpi,hT1⟩
 have hS3:=hS2.trans hT1
 simp only[RT]at hS3
 obtain⟨wv,rfl⟩:∃w,w=r:=⟨r,rfl⟩
 have hpl:ps.length<1000000000:=by
  have h2:=congrArg List.length hps
  rw[dF]at h2
  have h3:=rA hf
  unfold pX at h2
  rw[dF]at h2
  omega
 have hpb:∀p∈ps,p.l.length<1000000000:=fun p hp=>by
  have:=a4s hf rg p.l (by rw[←hps];exact eV hp)
  omega
 have hkn:=hS0.aJ (H':=H3)
 have hpx2:=hpx.step hkn
 have hpi2:=fun p hp=>(hpi p hp).step hkn
 have hS1:=hS3
 obtain⟨X,hBX,hS4⟩:=hS3.ax (os:=[⟨ptr A1 0 4,0,_⟩,⟨ptr A2 0 3,0,_⟩])
 simp(disch:=omega) only[↓RA,RZ,simprocAttr]
 refine hS4.eNew 1 [(.slice none 0 0)] rfl rfl rfl a7U fun A3 H4 hS5=> ?_
 simp only[RT]at hS5
 simp(disch:=omega) only[↓RA,RB,simprocAttr,hn]
 refine hS5.aa 2 rfl [wv] (by rw[hpx.1.cells.1]) (by simp[hpx.1.cells.2.1]) a7U (by simp) fun H5 hS6=> ?_
 simp only[RT]at hS6
 simp(disch:=omega) only[↓RA,RZ,simprocAttr,hn,hS6.ag 1 rfl]
 refine iJ ((b2L rg sv (hr.ab (hS3.aj hBX hS6)) h60).tr) ?_
 rintro r H6⟨-,hT2⟩
 have hS7:=hS6.trans hT2
 simp only[RT]at hS7
 obtain⟨cw,rfl⟩:∃w,w=r:=⟨r,rfl⟩
 simp(disch:=omega) only[↓RA,RZ,simprocAttr,hn]
 have hM1:=hS7.pick (os':=[⟨cw,3,_⟩]) [3] (by decide) rfl
 have hR1:=hS7.pick (os':=[⟨cw,3,_⟩,⟨ptr A1 0 4,0,_⟩,⟨ptr A2 0 3,0,_⟩,⟨ptr A3 0 1,0,_⟩]) [3,0,1,2] (by decide) rfl
 refine iJ (b7P (xs:=pD rg) hM1.aH (a2g h60) 104 [ptr A1 0 4,ptr A2 0 3,ptr A3 0 1] (fun c=> !(decide (pX o (kW rg c)=pX o rg))) (fun c hc{H9 os}h=>by
  have q1:=hR1.frame h.forget
  have q2:=hS1.aj hBX q1
  have q3:=q1.kept hBX
  have q4:=b4X o (ho.ab q2) hf rg sv (hr.ab q2) h0 (by omega) c (a2R (by omega) c hc) A1 A2 A3 (q1.var 0 rfl) (q1.var 1 rfl) wv ps (q1.var 2 rfl) (hpx2.step q3).1 (fun p hp=>((hpi2 p hp).step q3).1) hpl hpb
  rw[hps]at q4
  exact q4)) ?_
 rintro r H7⟨rest,hb,hrd,hT3⟩
 have hS8:=hR1.frame hT3
 simp only[RT]at hS8
 rw[a7C]at hrd
 have hrr:=hrd _ (by rw[←a7C];exact hS8.rd 0 rfl)
 have hrc:=hrr.cells
 simp(disch:=omega) only[↓RA,RB,simprocAttr,hn,c6t]
 refine⟨⟨⟨hrr,fun _=>rfl,by decide⟩,fun b h=> ?_⟩,(hS3.aj hBX hS8).forget⟩
 rcases(hS3.aj hBX hS8).new _ (dU ..) b (hb b h)with h|h
 ·exact h
 ·exact h.elim
theorem rF(o:Org)(ho:o.In H)(rg:Reg)(sv:Value)(hr:rg.In H sv):
 Fn prog 37 [.agg #[.string o.name,o.rv,o.dv,o.cv],.agg #[sv,.int .u64 rg.cpl,.int .u64 rg.off]] H fun r H'=>r=I (mA o rg)∧St prog H H' []:=by
 refine .aD func37 rfl (by kernel_rfl) (m:=14) rfl fun l hn g0 g1=> ?_
 simp(disch:=omega) only[↓RA,RB,simprocAttr,g0]
 refine(sR H).eNew 4 [(.string o.name),o.rv,o.dv,o.cv] rfl rfl (by simp[OC,((sR H).sl ho.1).cells.2.1,((sR H).sl ho.2.2.1).cells.2.1,((sR H).sl ho.2.2.2.2.1).cells.2.1]) mV fun A1 H1 hS1=> ?_
 simp only[RT]at hS1
 simp(disch:=omega) only[↓RA,RB,simprocAttr,g1]
 refine hS1.eNew 3 [sv,(.int .u64 rg.cpl),(.int .u64 rg.off)] rfl rfl (by simp[OC,(hS1.sl hr.1).cells.2.1]) mP fun A2 H2 hS2=> ?_
 simp only[RT]at hS2
 simp(disch:=omega) only[↓RA,RZ,simprocAttr,hn,hS2.ag 0 rfl]
 refine hS2.cF (yV o (ho.ab hS2)) fun H3 hS3=> ?_
 simp(disch:=omega) only[↓RA,RB,simprocAttr,hn]
 refine iA (fun h1=> ?_) (fun h1=> ?_)
 ·simp(disch:=omega) only[↓RA,RZ,simprocAttr,hn,c3w,h1]
  exact⟨by rw[mA,if_pos h1],hS3.forget⟩
 simp(disch:=omega) only[↓RA,RZ,simprocAttr,hn,hS3.ag 0 rfl,hS3.ag 1 rfl,h1]
 refine hS3.cF (b6g o (ho.ab hS3) rg sv (hr.ab hS3)) fun H4 hS4=> ?_
 simp(disch:=omega) only[↓RA,RZ,simprocAttr,hn,c3w,h1]
 exact hS4.forget
theorem b8t(o:Org)(ho:o.In H)(rg:Reg)(sv:Value)(hr:rg.In H sv):
 Fn prog 32 [.agg #[.string o.name,o.rv,o.dv,o.cv],.agg #[sv,.int .u64 rg.cpl,.int .u64 rg.off]] H fun r H'=>∃lv,r=.tuple #[lv,I (mA o rg)]∧Slx 3 Ctl.cells H' (fun B=>H.length≤B) lv (if mA o rg=0 then mK o rg else[])∧St prog H H' []:=by
 refine .aD func32 rfl (by kernel_rfl) (m:=16) rfl fun l hn g0 g1=> ?_
 simp(disch:=omega) only[↓RA,RB,simprocAttr,g0]
 refine(sR H).eNew 4 [(.string o.name),o.rv,o.dv,o.cv] rfl rfl (by simp[OC,((sR H).sl ho.1).cells.2.1,((sR H).sl ho.2.2.1).cells.2.1,((sR H).sl ho.2.2.2.2.1).cells.2.1]) mV fun A1 H1 hS1=> ?_
 simp only[RT]at hS1
 simp(disch:=omega) only[↓RA,RB,simprocAttr,g1]
 refine hS1.eNew 3 [sv,(.int .u64 rg.cpl),(.int .u64 rg.off)] rfl rfl (by simp[OC,(hS1.sl hr.1).cells.2.1]) mP fun A2 H2 hS2=> ?_
 simp only[RT]at hS2
 simp(disch:=omega) only[↓RA,RZ,simprocAttr,hn,hS2.ag 0 rfl,hS2.ag 1 rfl]
 refine hS2.cF (rF o (ho.ab hS2) rg sv (hr.ab hS2)) fun H3 hS3=> ?_
 simp(disch:=omega) only[↓RA,RB,simprocAttr,hn]
 refine iA (fun h1=> ?_) (fun h1=> ?_)
 ·simp(disch:=omega) only[↓RA,RZ,simprocAttr,hn,c4E,h1]
  exact⟨.slice none 0 0,rfl,⟨⟨.inl ⟨rfl,rfl⟩,fun _=>rfl,by decide⟩,fun b h=>by simp[kI]at h⟩,hS3.forget⟩
 have h0:=dG.1 h1
 obtain⟨hz3,hz4⟩:=oW h0
 have hf:=Org.bg hz3
 have hd1:=hf.dpos
 have hd2:=hf.dlen
 simp(disch:=omega) only[↓RA,RZ,simprocAttr,hn,hS3.ag 0 rfl,hS3.ag 1 rfl,h1]
 have hSd:=hS3
 refine iJ (b0p o (ho.ab hS3) hf rg sv (hr.ab hS3) (by omega) (by omega)) ?_
 rintro r H4⟨hx,hT2⟩
 have hS4:=hS3.trans hT2
 simp only[RT]at hS4
 have hnt:=hx.1.bB
 simp(disch:=omega) only[↓RA,RZ,simprocAttr,hn,c4E,h1,hnt]
 refine⟨r,by rw[h0],⟨by rw[if_pos h0];exact hx.1,fun b h=> ?_⟩,hS4.forget⟩
 have:=hx.2 b h
 have:H.length≤_:=hSd.len
 omega
theorem b6o(x i j:Nat)(hx:x<18446744073709551616)(hi:i<64):(tO x i).testBit j=(x.testBit j&& !decide (j=i)):=by
 have hx':x<2^64:=by simpa using hx
 unfold tO
 rw[fj,ik,Nat.testBit_and,gS,fT hx']
 by_cases hj:j<64
 ·have e:(~~~ BitVec.ofNat 64 (2^i)).toNat.testBit j= !decide (j=i):=by
   have h1:(~~~ BitVec.ofNat 64 (2^i)).toNat.testBit j=(~~~ BitVec.ofNat 64 (2^i)).getLsbD j:=rfl
   rw[h1,BitVec.getLsbD_not,decide_eq_true hj,gO,BitVec.getLsbD_ofNat,decide_eq_true hj,gO,gK]
   congr 1
   exact decide_eq_decide.2 ⟨fun h=>h.symm,fun h=>h.symm⟩
  rw[e]
 ·have h1:x.testBit j=false:=Nat.testBit_lt_two_pow (dO hx' (fz (by decide) (by omega)))
  rw[h1,fQ,fQ]
def pc(x:Nat):Nat:=(oQ x).length
theorem b3Q(x:Nat):pc x≤64:=nH x 64
theorem a4K(x i:Nat)(hx:x<18446744073709551616)(hi:i<64)(hb:x.testBit i=true):pc (tO x i)<pc x:=by
 have e:oQ (tO x i)=(oQ x).filter fun j=> !decide (j=i):=by
  unfold oQ
  rw[List.filter_filter]
  refine List.filter_congr fun j _=> ?_
  rw[b6o x i j hx hi,Bool.and_comm]
 unfold pc
 rw[e,List.length_filter_lt_length_iff_exists]
 exact⟨i,eo.2 ⟨dB.2 hi,hb⟩,by simp⟩
def mu(g:Reg):Nat:=(g.stops.map pc).sum+pc g.cpl+pc g.off
theorem c3f(g:Reg):mu g≤64*g.stops.length+128:=by
 have h:∀l:List Nat,(l.map pc).sum≤64*l.length:=by
  intro l
  induction l with
  | nil=>simp
  | cons a l ih=>
    have:=b3Q a
    simp only[ef,List.sum_cons,ed]
    omega
 have:=h g.stops
 have:=b3Q g.cpl
 have:=b3Q g.off
 unfold mu
 omega
theorem a1V:∀(l:List Nat)(d y:Nat),d<l.length→y<iB l d→(l.set d y).sum<l.sum
 | [],d,y,h,_=>by simp at h
 | a::l,0,y,_,hy=>by
   have:iB (a::l) 0=a:=rfl
   rw[this]at hy
   simp only[fw,List.sum_cons]
   omega
 | a::l,d+1,y,h,hy=>by
   have h1:iB (a::l) (d+1)=iB l d:=rfl
   rw[h1]at hy
   have:=a1V l d y (by simpa using h) hy
   simp only[gQ,List.sum_cons]
   omega
theorem b0B{g:Reg}(hg:g.Ok){c:Ctl}(hc:c∈pD g):mu (kW g c)<mu g:=by
 obtain⟨_,hg2,hg3,hg4⟩:=hg
 unfold pD at hc
 have hb:∀(x i:Nat),i∈oQ x→i<64∧x.testBit i=true:=fun x i hi=>by
  unfold oQ at hi
  exact⟨dB.1 (eo.1 hi).1,(eo.1 hi).2⟩
 rcases dJ.1 hc with hc|hc
 ·rcases dJ.1 hc with hc|hc
  ·obtain⟨d,hd,hc⟩:=eC.1 hc
   obtain⟨i,hi,rfl⟩:=dy.1 hc
   have hd:=dB.1 hd
   obtain⟨hi,hbit⟩:=hb _ _ hi
   have e:kW g (a0d d i)={g with stops:=g.stops.set d (tO (iB g.stops d) i)}:=rfl
   rw[e]
   have hp:=a4K _ i (hg2 _ (iE hd)) hi hbit
   have:=a1V (g.stops.map pc) d (pc (tO (iB g.stops d) i)) (by simpa using hd) (by rw[vL _ hd];exact hp)
   unfold mu
   simp only[fN]
   omega
  ·obtain⟨i,hi,rfl⟩:=dy.1 hc
   obtain⟨hi,hbit⟩:=hb _ _ hi
   have e:kW g (wN i)={g with cpl:=tO g.cpl i}:=rfl
   rw[e]
   have:=a4K _ i hg3 hi hbit
   unfold mu
   simp only
   omega
 ·obtain⟨i,hi,rfl⟩:=dy.1 hc
  obtain⟨hi,hbit⟩:=hb _ _ hi
  have e:kW g (a4H i)={g with off:=tO g.off i}:=rfl
  rw[e]
  have:=a4K _ i hg4 hi hbit
  unfold mu
  simp only
  omega
def mD(o:Org):Nat→Reg→List Ctl→Reg×List Ctl
 | 0,g,l=>(g,l)
 | n+1,g,l=>if(mK o g).length=0 then(g,l)else mD o n (kW g (iB (mK o g) ((mK o g).length-1))) (l++[iB (mK o g) ((mK o g).length-1)])
theorem a3H{o:Org}{g:Reg}{c:Ctl}(h:c∈mK o g):c∈pD g:=(eo.1 h).1
theorem b4s(o:Org)(g:Reg):(mK o g).length≤(pD g).length:=dS _ _
theorem a0R(o:Org):∀(n m:Nat)(g:Reg)(l:List Ctl),g.Ok→mu g<n→mu g<m→mD o n g l=mD o m g l
 | 0,_,_,_,_,h,_=>absurd h (dL _)
 | _,0,_,_,_,_,h=>absurd h (dL _)
 | n+1,m+1,g,l,hg,hn,hm=>by
   rw[mD,mD]
   split
   ·rfl
   ·rename_i h
    have hc:=a3H (iE (xs:=mK o g) (j:=(mK o g).length-1) (by omega))
    have hlt:=b0B hg hc
    exact a0R o n m _ _ (yF hg _) (by omega) (by omega)
theorem c3x(l:List Value)(H:Heap):iC prog Tryz.f31 l H=(oF (jM prog 41) (iD prog 41) H (get l 4)).bind fun v=>if(jP v&&(jP (get l 5)&&(jP (get l 6)&&true)))=true then some (.tuple #[v,get l 5,get l 6])else none:=by
 show(Option.bind (Option.bind (lH prog H 41 (get l 4)) fun v=>some [v,get l 5,get l 6]) fun vs=>_)=_
 rw[kQ]
 cases oF _ _ H (get l 4)<;>rfl
theorem b6L(o:Org)(ho:o.In H)(rg:Reg)(sv:Value)(hr:rg.In H sv):
 Fn prog 31 [.agg #[.string o.name,o.rv,o.dv,o.cv],.agg #[sv,.int .u64 rg.cpl,.int .u64 rg.off]] H fun r H'=>∃nv lv,(mA o rg≠0∧r=.tuple #[.agg #[.slice none 0 0,.int .u64 0,.int .u64 0],.slice none 0 0,I (mA o rg)]∧St prog H H' [])∨
  ∃g gone,mA o rg=0∧(g,gone)=mD o (mu rg+1) rg []∧r=.tuple #[.agg #[nv,.int .u64 g.cpl,.int .u64 g.off],lv,I 0]∧g.Ok∧g.stops.length=rg.stops.length∧St prog H H' [⟨nv,1,g.stops.flatMap (one u64)⟩,⟨lv,3,mB gone⟩]:=by
 refine .aD func31 rfl (by kernel_rfl) (m:=43) rfl fun l hn g0 g1=> ?_
 simp(disch:=omega) only[↓RA,RB,simprocAttr,g0]
 refine(sR H).eNew 4 [(.string o.name),o.rv,o.dv,o.cv] rfl rfl (by simp[OC,((sR H).sl ho.1).cells.2.1,((sR H).sl ho.2.2.1).cells.2.1,((sR H).sl ho.2.2.2.2.1).cells.2.1]) mV fun A1 H1 hS1=> ?_
 simp only[RT]at hS1
 simp(disch:=omega) only[↓RA,RB,simprocAttr,g1]
 refine hS1.eNew 3 [sv,(.int .u64 rg.cpl),(.int .u64 rg.off)] rfl rfl (by simp[OC,(hS1.sl hr.1).cells.2.1]) mP fun A2 H2 hS2=> ?_
 simp only[RT]at hS2
 simp(disch:=omega) only[↓RA,RZ,simprocAttr]
 refine hS2.eNew 3 [(.slice none 0 0),(.int .u64 0),(.int .u64 0)] rfl rfl rfl mP fun A3 H3 hS3=> ?_
 simp only[RT]at hS3
 simp(disch:=omega) only[↓RA,RZ,simprocAttr,hn,hS3.ag 0 rfl,hS3.ag 1 rfl]
 refine hS3.cF (rF o (ho.ab hS3) rg sv (hr.ab hS3)) fun H4 hS4=> ?_
 simp(disch:=omega) only[↓RA,RB,simprocAttr,hn]
 refine iA (fun h1=> ?_) (fun h1=> ?_)
 ·simp(disch:=omega) only[↓RA,RZ,simprocAttr,hn,c2D,h1]
  refine hS4.aa 2 rfl [(.slice none 0 0),(.int .u64 0),(.int .u64 0)] rfl rfl mP (by simp) fun H5 hS5=> ?_
  simp only[RT]at hS5
  simp(disch:=omega) only[↓RA,RZ,simprocAttr,hn,c3x,hS5.ag 2 rfl,h1]
  exact⟨.slice none 0 0,.slice none 0 0,.inl ⟨h1,hS5.forget⟩⟩
 have h0:=dG.1 h1
 obtain⟨hz3,hz4⟩:=oW h0
 have hf:=Org.bg hz3
 have hd1:=hf.dpos
 have hd2:=hf.dlen
 simp(disch:=omega) only[↓RA,RZ,simprocAttr,hn,hS4.ld 1 rfl,h1]
 refine iJ ((a7a sv rg.stops (hS4.sl hr.1) (by omega) (by omega)).tr) ?_
 rintro r H6⟨-,hT2⟩
 have hS6:=hS4.trans hT2
 simp only[RT]at hS6
 simp(disch:=omega) only[↓RA,RZ,simprocAttr,hn,h1]
 refine hS6.aa 1 rfl [r] (by rw[(hS6.rd 3 rfl).cells.1]) (by simp[(hS6.rd 3 rfl).cells.2.1]) b8y (by simp) fun H7 hS7=> ?_
 simp only[RT]at hS7
 simp(disch:=omega) only[↓RA,RZ,simprocAttr,h1]
 have hS8:=hS7.nil 2
 simp only[RT]at hS8
 refine Wp.al (fun n l H'=>l.length=43∧get l 2=(ptr A1 0 4)∧get l 3=(ptr A2 0 3)∧get l 4=(ptr A3 0 3)∧∃(g:Reg)(gone:List Ctl)(nv ov:Value),(g.Ok∧mu g≤n∧g.stops.length=rg.stops.length∧gone.length+mu g≤mu rg∧mD o (mu g+1) g gone=mD o (mu rg+1) rg [])∧get l 8=ov∧St prog H H' [⟨ptr A1 0 4,0,[(.string o.name),o.rv,o.dv,o.cv]⟩,⟨ptr A2 0 3,0,[nv,.int .u64 g.cpl,.int .u64 g.off]⟩,⟨ptr A3 0 3,0,[(.slice none 0 0),(.int .u64 0),(.int .u64 0)]⟩,⟨nv,1,g.stops.flatMap (one u64)⟩,⟨ov,3,mB gone⟩]) (mu rg) ?_ ?_
 ·simp(disch:=omega) only[RB,RC,simprocAttr,hn]
  exact⟨rg,[],r,.slice none 0 0,⟨hr.2,dm _,rfl,by simp,rfl⟩,rfl,hS8⟩
 rintro n l H8⟨hn,g2,g3,g4,g,gone,nv,ov,⟨hgo,hgn,hgl,hgm,hgs⟩,g8,hS9⟩
 simp(disch:=omega) only[↓RA,RZ,simprocAttr,hn,g2,g3,hS9.ag 0 rfl,hS9.ag 1 rfl]
 have hSi:=hS9
 refine iJ (b0p o (ho.ab hS9) hf g nv ⟨hS9.av 3 rfl (fun _=>rfl),hgo⟩ (by omega) (by omega)) ?_
 rintro r H9⟨hx,hT3⟩
 have hS10:=hS9.trans hT3
 simp only[RT]at hS10
 have hil:=b4s o g
 have hil2:=a2g (rg:=g) (by omega)
 simp(disch:=omega) only[↓RA,RZ,simprocAttr,hn,hx.1.len]
 refine iA (fun q1=> ?_) (fun q1=> ?_)
 ·have hi0:(mK o g).length=0:=by omega
  rw[mD,if_pos hi0]at hgs
  have hnt:jP ov=true:=(hS10.av (cel:=Ctl.cells) 4 rfl (fun _=>rfl)).bB
  simp(disch:=omega) only[↓RA,RZ,simprocAttr,hn,g3,g4,g8,hS10.ag 1 rfl,q1]
  refine hS10.aa 2 rfl [nv,(.int .u64 g.cpl),(.int .u64 g.off)] rfl (by simp[OC,(hS10.rd 3 rfl).cells.2.1]) mP (by simp) fun H10 hS11=> ?_
  simp only[RT]at hS11
  simp(disch:=omega) only[↓RA,RZ,simprocAttr,hn,g4,c3x,hS11.ag 2 rfl,q1,hnt]
  exact⟨nv,ov,.inr ⟨g,gone,h0,hgs,rfl,hgo,hgl,hS11.pick [3,4] (by decide) rfl⟩⟩
 have hpre:((mK o g).length:Int)-1=(((mK o g).length-1:Nat):Int):=by omega
 have hcm:=a3H (iE (xs:=mK o g) (j:=(mK o g).length-1) (by omega))
 have hmu:=b0B hgo hcm
 have hcf:=a2R (rg:=g) (by omega) _ hcm
 simp(disch:=omega) only[↓RA,RZ,simprocAttr,hn,hx.1.len,q1,hpre]
 generalize hcc:iB (mK o g) ((mK o g).length-1)=c at hcm hmu hcf
 have hgs2:mD o (mu (kW g c)+1) (kW g c) (gone++[c])=mD o (mu rg+1) rg []:=by
  have hstep:mD o (mu g+1) g gone=mD o (mu g) (kW g c) (gone++[c]):=by rw[mD,if_neg (by omega),hcc]
  rw[←hgs,hstep]
  exact a0R o _ _ _ _ (yF hgo c) (by omega) (by omega)
 have hgl2:=a3J g c
 simp(disch:=omega) only[↓RA,RZ,simprocAttr,hn,hx.1.idx,hx.1.ag,Ctl.cells,q1,hcc]
 refine hS10.eNew 3 [I 0,I 0,I 0] rfl rfl rfl a0P fun A4 H11 hS12=> ?_
 simp only[RT]at hS12
 simp(disch:=omega) only[↓RA,RZ,simprocAttr,hn,q1]
 refine hS12.aa 5 rfl [I c.kind,I c.dv,I c.ix] rfl rfl a0P (by simp) fun H12 hS13=> ?_
 simp only[RT]at hS13
 simp(disch:=omega) only[↓RA,RZ,simprocAttr,q1]
 refine Wp.aO jZ [(4,0)] (by kernel_rfl) (by kernel_rfl) ?_
 simp(disch:=omega) only[↓RA,RZ,simprocAttr,hn,g3,hS13.ag 1 rfl,hS13.ag 5 rfl]
 refine iJ (b0G g nv ⟨hS13.av 3 rfl (fun _=>rfl),hgo⟩ (by omega) (by omega) c hcf) ?_
 rintro r H13⟨nw,rfl,hT4⟩
 have hS14:=hS13.trans hT4
 simp only[RT]at hS14
 have hmr:=c3f rg
 simp(disch:=omega) only[↓RA,RZ,simprocAttr,hn,g8,hS14.ag 5 rfl]
 refine hS14.ai [I c.kind,I c.dv,I c.ix] a7w b9y rfl rfl (by simp[Value.cells]) rfl rfl (by decide) (by decide) fun w1 H14 hS15=> ?_
 simp only[RT]at hS15
 simp(disch:=omega) only[↓RA,RZ,simprocAttr,hn]
 refine hS15.aq 4 rfl (hS15.rd 7 rfl) a7w (by rw[mG];simp only[ed,ey];omega) fun w2 H15 hS16=> ?_
 simp only[RT]at hS16
 simp(disch:=omega) only[↓RA,RB,simprocAttr,hn,g3]
 refine hS16.aa 1 rfl [nw,(.int .u64 (kW g c).cpl),(.int .u64 (kW g c).off)] rfl (by simp[OC,(hS16.rd 6 rfl).cells.2.1]) mP (by simp) fun H16 hS17=> ?_
 simp only[RT]at hS17
 simp(disch:=omega) only[↓RA,RZ,simprocAttr,hn,g2,g3,g4,hS13.ag 5 rfl]
 refine⟨mu (kW g c),by omega,kW g c,gone++[c],nw,w2,⟨yF hgo c,dm _,by omega,by simp;omega,hgs2⟩,rfl,?_⟩
 rw[zE]
 exact hS17.pick [0,1,2,6,4] (by decide) rfl
theorem b0w(o:Org)(ho:o.In H)(rg:Reg)(sv:Value)(hr:rg.In H sv)(c:Ct):
 Fn prog 14 [.agg #[.string o.name,o.rv,o.dv,o.cv],.agg #[sv,.int .u64 rg.cpl,.int .u64 rg.off],.agg #[I c.1,I c.2]] H fun r H'=>Slx 2 jS H' (fun B=>H.length≤B) r (lI o rg c)∧St prog H H' []:=by
 refine .bO func14 rfl (by kernel_rfl) (m:=17) rfl fun l hn g0 g1 g2=> ?_
 simp(disch:=omega) only[↓RA,RB,simprocAttr,g0]
 refine(sR H).eNew 4 [(.string o.name),o.rv,o.dv,o.cv] rfl rfl (by simp[OC,((sR H).sl ho.1).cells.2.1,((sR H).sl ho.2.2.1).cells.2.1,((sR H).sl ho.2.2.2.2.1).cells.2.1]) mV fun A1 H1 hS1=> ?_
 simp only[RT]at hS1
 simp(disch:=omega) only[↓RA,RB,simprocAttr,g1]
 refine hS1.eNew 3 [sv,(.int .u64 rg.cpl),(.int .u64 rg.off)] rfl rfl (by simp[OC,(hS1.sl hr.1).cells.2.1]) mP fun A2 H2 hS2=> ?_
 simp only[RT]at hS2
 simp(disch:=omega) only[↓RA,RB,simprocAttr,g2]
 refine hS2.eNew 2 [I c.1,I c.2] rfl rfl rfl pQ fun A3 H3 hS3=> ?_
 simp only[RT]at hS3
 simp(disch:=omega) only[↓RA,RZ,simprocAttr,hn,hS3.ag 0 rfl,hS3.ag 1 rfl,hS3.ag 2 rfl]
 have hSd:=hS3
 refine iJ (c3N o (ho.ab hS3) rg sv (hr.ab hS3) c) ?_
 rintro r H4⟨pv,rfl,hx,hT1⟩
 have hS4:=hS3.trans hT1
 simp only[RT]at hS4
 simp(disch:=omega) only[↓RA,RB,simprocAttr,hn,c5Z]
 refine⟨⟨hx.1,fun b h=> ?_⟩,hS4.forget⟩
 have:=hx.2 b h
 have:H.length≤_:=hSd.len
 omega
theorem a3k(o:Org)(ho:o.In H)(hf:o.Fine):Fn prog 12 [.agg #[.string o.name,o.rv,o.dv,o.cv]] H fun r H'=>St prog H H' [⟨r,2,pr (kG o)⟩]:=by
 have hdl:=ho.2.2.2.2.2.2.1
 have hd8:=hf.dlen
 refine .aY func12 rfl (by kernel_rfl) (m:=38) rfl fun l hn g0=> ?_
 simp(disch:=omega) only[↓RA,RB,simprocAttr,g0]
 refine(sR H).eNew 4 [(.string o.name),o.rv,o.dv,o.cv] rfl rfl (by simp[OC,((sR H).sl ho.1).cells.2.1,((sR H).sl ho.2.2.1).cells.2.1,((sR H).sl ho.2.2.2.2.1).cells.2.1]) mV fun A1 H1 hS1=> ?_
 simp only[RT]at hS1
 simp(disch:=omega) only[↓RA,RB,simprocAttr]
 have hS2:=hS1.nil 1
 simp only[RT]at hS2
 refine Wp.al (fun n l H'=>l.length=38∧get l 1=(ptr A1 0 4)∧get l 2=(.slice none 0 0)∧∃(i:Nat)(ov:Value),(n+i=o.dvs.length)∧get l 4=I i∧get l 3=ov∧St prog H H' [⟨ptr A1 0 4,0,[(.string o.name),o.rv,o.dv,o.cv]⟩,⟨ov,2,pr ((List.range i).flatMap (sC o))⟩]) o.dvs.length ?_ ?_
 ·simp(disch:=omega) only[RB,RC,simprocAttr,hn]
  exact⟨0,.slice none 0 0,by omega,rfl,rfl,hS2⟩
 rintro n l H2⟨hn,g1,g2,i,ov,hi,g4,g3,hS3⟩
 simp(disch:=omega) only[↓RA,RZ,simprocAttr,hn,g1,g4,hS3.ld 0 rfl,(hS3.sl ho.2.2.1).len]
 refine iA (fun q1=> ?_) (fun q1=> ?_)
 ·have hki:=hf.keys i (by omega)
  have hcn:(rS o i:Int)=(iB o.dvs i).hi-(iB o.dvs i).lo+1:=by unfold rS;omega
  have hpre:yI o i 0=(List.range i).flatMap (sC o):=by unfold yI;simp
  have hlen:∀k,k≤rS o i→(yI o i k).length≤1024:=by
   intro k hk
   have h1:=rA hf
   by_cases hkk:k<rS o i
   ·obtain⟨e,he⟩:=a1z o (i:=i) (k:=k) (by omega) hkk
    rw[he,dh]at h1
    omega
   ·have hk2:k=rS o i:=by omega
    rw[hk2,zY]
    obtain⟨t,ht⟩:∃t,List.range o.dvs.length=List.range (i+1)++t:=⟨(List.range o.dvs.length).drop (i+1),by rw[show List.range (i+1)=(List.range o.dvs.length).take (i+1)from by rw[List.take_range,ff (by omega)],fL]⟩
    unfold kG at h1
    rw[ht,dN,dh]at h1
    omega
  simp(disch:=omega) only[↓RA,RZ,simprocAttr,hn,g1,g4,hS3.ld 0 rfl,(hS3.sl ho.2.2.1).idx,(hS3.sl ho.2.2.1).bh,(hS3.sl ho.2.2.1).ld,Dvn.cells,q1]
  refine Wp.al (fun n l H'=>l.length=38∧get l 1=(ptr A1 0 4)∧get l 2=(.slice none 0 0)∧get l 4=I i∧∃(k:Nat)(ow:Value),(n+k=rS o i)∧get l 5=I ((iB o.dvs i).lo+k)∧get l 3=ow∧St prog H H' [⟨ptr A1 0 4,0,[(.string o.name),o.rv,o.dv,o.cv]⟩,⟨ow,2,pr (yI o i k)⟩]) (rS o i) ?_ ?_
  ·simp(disch:=omega) only[RB,RC,simprocAttr,hn,g1,g2,g4,g3]
   refine⟨0,ov,by omega,by simp,rfl,?_⟩
   rw[hpre]
   exact hS3
  rintro n l H3⟨hn,g1,g2,g4,k,ow,hk,g5,g3,hS4⟩
  simp(disch:=omega) only[↓RA,RZ,simprocAttr,hn,g1,g4,g5,hS4.ld 0 rfl,(hS4.sl ho.2.2.1).idx,(hS4.sl ho.2.2.1).bh,(hS4.sl ho.2.2.1).ld,Dvn.cells]
  refine iA (fun q2=> ?_) (fun q2=> ?_)
  ·have hl:=hlen k (by omega)
   simp(disch:=omega) only[↓RA,RZ,simprocAttr,hn,g4,g5,g3,yR,q2]
   refine hS4.ai [I i,I ((iB o.dvs i).lo+k)] a0V b2h rfl rfl (by simp[Value.cells]) rfl rfl (by decide) (by decide) fun w1 H4 hS5=> ?_
   simp only[RT]at hS5
   simp(disch:=omega) only[↓RA,RZ,simprocAttr,hn,q2]
   refine hS5.aq 1 rfl (hS5.rd 2 rfl) a0V (by rw[iF];simp;omega) fun w2 H5 hS6=> ?_
   simp only[RT]at hS6
   simp(disch:=omega) only[↓RA,RZ,simprocAttr,hn,g1,g2,g4,g5,q2]
   refine⟨n-1,by omega,k+1,w2,by omega,by congr 1;omega,rfl,?_⟩
   rw[a4c,jN]
   exact hS6.pick [0,1] (by decide) rfl
  simp(disch:=omega) only[↓RA,RZ,simprocAttr,hn,g1,g2,g4,g3,q2]
  have hkk:k=rS o i:=by omega
  refine⟨o.dvs.length-(i+1),by omega,i+1,ow,by omega,by simp,rfl,?_⟩
  rw[←zY,←hkk]
  exact hS4
 simp(disch:=omega) only[↓RA,RZ,simprocAttr,hn,g3,c6h,q1]
 have hii:i=o.dvs.length:=by omega
 subst hii
 exact hS3.pick [1] (by decide) rfl
end Go.Ds
namespace Go.Ds
open Go.Proofs
variable {H:Heap}
set_option maxRecDepth 10000
set_option maxHeartbeats 1000000
end Go.Ds
namespace Go.Ds
open Go.Proofs Go.Proofs.Tryz
variable {H:Heap}
set_option maxRecDepth 10000
set_option maxHeartbeats 1000000
theorem b2p(v w:Value)(xs ys:List Ct)(hv:Sl 2 jS H v xs)(hw:Sl 2 jS H w ys)(hl:xs.length<1000000000)(hl2:ys.length<1000000000):
 Fn prog 16 [v,w] H fun r H'=>r=.bool (decide (xs=ys))∧St prog H H' []:=by
 refine .aD func16 rfl (by kernel_rfl) (m:=26) rfl fun l hn g0 g1=> ?_
 simp(disch:=omega) only[↓RA,RZ,simprocAttr,hn,g0,g1,((sR H).sl hv).len,((sR H).sl hw).len]
 refine iA (fun h1=> ?_) (fun h1=> ?_)
 ·simp(disch:=omega) only[↓RA,RZ,simprocAttr,hn,c1B,h1]
  exact⟨by rw[decide_eq_false];intro e;rw[e]at h1;exact h1 rfl,(sR H)⟩
 simp(disch:=omega) only[↓RA,RZ,simprocAttr,h1]
 refine Wp.al (fun n l H'=>l.length=26∧get l 0=v∧get l 1=w∧∃(j:Nat),(n+j=xs.length∧∀q,q<j→iB xs q=iB ys q)∧get l 5=I j∧St prog H H' []) xs.length ?_ ?_
 ·simp(disch:=omega) only[RB,RC,simprocAttr,hn,g0,g1]
  exact⟨0,⟨by omega,fun q hq=>absurd hq (dL _)⟩,rfl,(sR H)⟩
 rintro n l H1⟨hn,g0,g1,j,⟨hj,hz⟩,g5,hS1⟩
 simp(disch:=omega) only[↓RA,RZ,simprocAttr,hn,g0,g5,(hS1.sl hv).len]
 refine iA (fun q1=> ?_) (fun q1=> ?_)
 ·simp(disch:=omega) only[↓RA,RC,simprocAttr,q1]
  refine Wp.drw jZ (by kernel_rfl) ?_
  simp(disch:=omega) only[↓RA,RZ,simprocAttr,hn,g0,g1,g5,(hS1.sl hv).idx,(hS1.sl hv).ag,jS,(hS1.sl hw).idx,(hS1.sl hw).ag]
  refine iA (fun q2=> ?_) (fun q2=> ?_)
  ·simp(disch:=omega) only[↓RA,RZ,simprocAttr,hn,c1B,q2]
   refine⟨?_,hS1⟩
   rw[decide_eq_false]
   intro e
   rw[e]at q2
   exact q2 ⟨rfl,rfl⟩
  have q3:=dG.1 q2
  simp(disch:=omega) only[↓RA,RZ,simprocAttr,hn,g0,g1,g5,q2]
  exact⟨n-1,by omega,j+1,⟨by omega,fun q hq=>by rcases du.1 hq with e|e;(· exact hz q e);(· rw[e];exact gz q3.1 q3.2)⟩,by simp,hS1⟩
 simp(disch:=omega) only[↓RA,RZ,simprocAttr,hn,c1B,q1]
 exact⟨by rw[decide_eq_true];exact wZ (by omega) fun q hq=>hz q (by omega),hS1⟩
end Go.Ds
namespace Go.Ds
open Go.Proofs
variable {H:Heap}
set_option maxRecDepth 10000
set_option maxHeartbeats 1000000
end Go.Ds
