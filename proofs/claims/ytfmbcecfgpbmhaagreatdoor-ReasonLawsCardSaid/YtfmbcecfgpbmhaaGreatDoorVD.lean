/-
  A part of the proof of ReasonLaws.
-/
import Derived.Test.YtfmbcecfgpbmhaaGreatDoorVC
import Derived.Test.YtfmbcecfgpbmhaaGreatDoorVB
import Derived.Shelf.SlSortCmp.NoneTotal
import Derived.Shelf.SlGeneric
import Derived.Shelf.SlLaysF0
import Derived.Test.YtfmbcecfgpbmhaaGreatDoorProg
set_option linter.unusedVariables false
set_option linter.unusedSimpArgs false
set_option linter.defProp false
set_option linter.unusedSectionVars false
namespace Go.Ds
open Go.Proofs Go.Proofs.Tryz
variable {H:Heap}
def pG(l:List Rk)(j:Nat):Int:=if rankE (jB l j)≠0 then rankE (jB l j)else if ∃q,q<j∧(jB l q).name=(jB l j).name then 9 else 0
def vN(rs:List Rk)(l:List Dvn)(j:Nat):Int:=if lO (jB l j).name=false then 8 else if ∃q,q<j∧(jB l q).name=(jB l j).name then 9 else divE rs (jB l j)
def kps(l:List Dvn):List (Int×Int):=l.map fun d=>(d.lo,d.hi)
def organE(o:Org):Int:=if lO o.name=false then 8 else if 60<o.ranks.length then 4 else if mX (pG o.ranks) o.ranks.length≠0 then mX (pG o.ranks) o.ranks.length else
 if o.dvs.length=0 then 13 else if 8<o.dvs.length then 4 else if mX (vN o.ranks o.dvs) o.dvs.length≠0 then mX (vN o.ranks o.dvs) o.dvs.length else tX (kps o.dvs) o.cpls
theorem yW(k:Int×Int):(kpc k).length=2:=rfl
theorem c0q(l:List Dvn)(i:Nat)(h:i<l.length):(kps (l.take (i+1))).flatMap kpc=(kps (l.take i)).flatMap kpc++[I (jB l i).lo,I (jB l i).hi]:=by
 unfold kps
 rw[a5j l i h,dY,dV]
 rfl
theorem b0z(o:Org)(ho:o.In H):Fn prog 47 [.agg #[.string o.name,o.rv,o.dv,o.cv]] H fun v H'=>v=I (organE o)∧St prog H H' []:=by
 have hlr:=ho.2.2.2.2.2.1
 have hld:=ho.2.2.2.2.2.2.1
 have hlc:=ho.2.2.2.2.2.2.2
 refine .aN func47 rfl (by kernel_rfl) (m:=89) rfl fun l hn g0=> ?_
 simp(disch:=omega) only[↓RA,RB,simprocAttr,g0]
 refine(sR H).eNew 4 [(.string o.name),o.rv,o.dv,o.cv] rfl rfl (by simp[OC,((sR H).sl ho.1).cells.2.1,((sR H).sl ho.2.2.1).cells.2.1,((sR H).sl ho.2.2.2.2.1).cells.2.1]) zD fun A1 H1 hS1=> ?_
 simp only[RT]at hS1
 simp(disch:=omega) only[↓RA,RZ,simprocAttr,hn,hS1.ld 0 rfl]
 refine hS1.cF (sP _) fun H2 hS2=> ?_
 simp(disch:=omega) only[↓RA,RB,simprocAttr,hn]
 refine kA (fun p1=> ?_) (fun p1=> ?_)
 ·simp(disch:=omega) only[↓RA,RB,simprocAttr,hn,a5n,p1]
  exact⟨by rw[organE,if_pos (by simpa using p1)],hS2.forget⟩
 have p1':¬lO o.name=false:=by simpa using p1
 simp(disch:=omega) only[↓RA,RZ,simprocAttr,hn,hS2.ld 0 rfl,(hS2.sl ho.1).len,p1]
 refine jA (fun p2=> ?_) (fun p2=> ?_)
 ·simp(disch:=omega) only[↓RA,RZ,simprocAttr,hn,a5n,p1,p2]
  exact⟨by rw[organE,if_neg p1',if_pos (by omega)],hS2.forget⟩
 simp(disch:=omega) only[↓RA,simprocAttr]
 refine hS2.cd a8A fun M1 H3 hS3=> ?_
 simp only[RT]at hS3
 simp(disch:=omega) only[↓RA,RZ,simprocAttr,hn,hS3.ld 0 rfl,(hS3.sl ho.1).len,p1,p2]
 refine Wp.ak (fun n l H'=>l.length=89∧get l 1=(ptr A1 0 4)∧get l 3=(.map (some M1))∧get l 25=o.rv∧get l 26=I o.ranks.length∧∃(i:Nat)(kvs:List (ByteArray×Bool)),(n+i=o.ranks.length∧(∀j,j<i→pG o.ranks j=0)∧(∀t,sJ kvs t=true↔∃q,q<i∧(jB o.ranks q).name=t))∧get l 27=I i∧St prog H H' [⟨ptr A1 0 4,0,[(.string o.name),o.rv,o.dv,o.cv]⟩,⟨.map (some M1),0,KS kvs⟩]) o.ranks.length ?_ ?_
 ·simp(disch:=omega) only[RB,RC,simprocAttr,hn]
  exact⟨0,[],⟨by omega,by simp,by simp[a4J]⟩,rfl,hS3⟩
 rintro n l H4⟨hn,g1,g3,g25,g26,i,kvs,⟨hi1,hz,hk⟩,g27,hS4⟩
 simp(disch:=omega) only[↓RA,RB,simprocAttr,hn,g26,g27]
 refine jA (fun q1=> ?_) (fun q1=> ?_)
 ·have key:pG o.ranks i≠0→organE o=pG o.ranks i:=fun hne=>by rw[organE,if_neg p1',if_neg (by omega),rO _ _ i (by omega) hne hz,if_pos hne]
  simp(disch:=omega) only[↓RA,RZ,simprocAttr,hn,g25,g27,(hS4.sl ho.1).idx,(hS4.sl ho.1).ae,Rk.cells,q1]
  refine hS4.eNew 6 [(.string ⟨#[]⟩),(.string ⟨#[]⟩),I 0,I 0,I 0,(.slice none 0 0)] rfl rfl rfl wH fun A2 H5 hS5=> ?_
  simp only[RT]at hS5
  simp(disch:=omega) only[↓RA,RZ,simprocAttr,hn,q1]
  refine hS5.aa 2 rfl [(.string (jB o.ranks i).name),(.string (jB o.ranks i).tone),I (jB o.ranks i).num,I (jB o.ranks i).den,I (jB o.ranks i).first,(jB o.ranks i).wv] rfl (by simp[OC,(hS5.sl (ho.2.1 (jB o.ranks i) (jE (by omega))).1).cells.2.1]) wH (by simp) fun H6 hS6=> ?_
  simp only[RT]at hS6
  simp(disch:=omega) only[↓RA,RZ,simprocAttr,hn,hS6.ae 2 rfl,q1]
  refine hS6.cF (b4s (jB o.ranks i) ((ho.2.1 _ (jE (by omega))).ag hS6)) fun H7 hS7=> ?_
  simp(disch:=omega) only[↓RA,RZ,simprocAttr,hn,q1]
  refine jA (fun q2=> ?_) (fun q2=> ?_)
  ·have e1:pG o.ranks i=rankE (jB o.ranks i):=by rw[pG,if_pos q2]
   simp(disch:=omega) only[↓RA,RZ,simprocAttr,hn,a5n,q1,q2]
   exact⟨by rw[key (by rw[e1];exact q2),e1],hS7.forget⟩
  simp(disch:=omega) only[↓RA,RZ,simprocAttr,hn,g3,hS7.ld 2 rfl,q1,q2]
  have hM1:=hS7.pick (os':=[⟨.map (some M1),0,_⟩]) [1] (by decide) rfl
  have hR1:=hS7.pick (os':=[⟨.map (some M1),0,_⟩,⟨ptr A1 0 4,0,_⟩,⟨ptr A2 0 6,0,_⟩]) [1,0,2] (by decide) rfl
  refine jG (a3G _ M1 kvs (jB o.ranks i).name hM1.aR) ?_
  rintro r H8⟨rfl,kvs',hk',hT3⟩
  have hS8:=hR1.frame hT3
  simp only[RT]at hS8
  simp(disch:=omega) only[↓RA,RZ,simprocAttr,hn,q1,q2]
  refine jA (fun q3=> ?_) (fun q3=> ?_)
  ·have q3':sJ kvs (jB o.ranks i).name=true:=by
    by_cases hh:sJ kvs (jB o.ranks i).name=true
    ·exact hh
    ·rw[if_neg hh]at q3;exact absurd rfl q3
   have e1:pG o.ranks i=9:=by rw[pG,if_neg q2,if_pos ((hk _).1 q3')]
   simp(disch:=omega) only[↓RA,RZ,simprocAttr,hn,a5n,q1,q2,q3]
   exact⟨by rw[key (by rw[e1];decide),e1,if_pos q3'],hS8.forget⟩
  have q3':¬sJ kvs (jB o.ranks i).name=true:=fun hh=>q3 (by rw[if_pos hh];decide)
  have e0:pG o.ranks i=0:=by rw[pG,if_neg q2,if_neg (fun hh=>q3' ((hk _).2 hh))]
  simp(disch:=omega) only[↓RA,RZ,simprocAttr,hn,g1,g3,g25,g26,g27,q1,q2,q3]
  exact⟨n-1,by omega,i+1,kvs',⟨by omega,fun j hj=>by rcases dK.1 hj with e|e;(· exact hz j e);(· rw[e];exact e0),a1V (f:=fun q=>(jB o.ranks q).name) hk hk'⟩,by simp,hS8.pick [1,0] (by decide) rfl⟩
 have hR:mX (pG o.ranks) o.ranks.length=0:=lZ _ _ fun j hj=>hz j (by omega)
 clear hk hz
 simp(disch:=omega) only[↓RA,RZ,simprocAttr,hn,g1,hS4.ld 0 rfl,(hS4.sl ho.2.2.1).len,q1]
 refine jA (fun p4=> ?_) (fun p4=> ?_)
 ·simp(disch:=omega) only[↓RA,RZ,simprocAttr,hn,a5n,q1,p4]
  exact⟨by rw[organE,if_neg p1',if_neg (by omega),if_neg (by rw[hR];simp),if_pos (by omega)],hS4.forget⟩
 simp(disch:=omega) only[↓RA,RZ,simprocAttr,hn,g1,hS4.ld 0 rfl,(hS4.sl ho.2.2.1).len,q1,p4]
 refine jA (fun p5=> ?_) (fun p5=> ?_)
 ·simp(disch:=omega) only[↓RA,RZ,simprocAttr,hn,a5n,q1,p4,p5]
  exact⟨by rw[organE,if_neg p1',if_neg (by omega),if_neg (by rw[hR];simp),if_neg (by omega),if_pos (by omega)],hS4.forget⟩
 have hE:organE o=if mX (vN o.ranks o.dvs) o.dvs.length≠0 then mX (vN o.ranks o.dvs) o.dvs.length else tX (kps o.dvs) o.cpls:=by
  rw[organE,if_neg p1',if_neg (by omega),if_neg (by rw[hR];simp),if_neg (by omega),if_neg (by omega)]
 clear hR
 simp(disch:=omega) only[↓RA,simprocAttr]
 refine hS4.cd a8A fun M2 H9 hS9=> ?_
 simp only[RT]at hS9
 simp(disch:=omega) only[↓RA,RZ,simprocAttr,hn,g1,hS9.ld 0 rfl,(hS9.sl ho.2.2.1).len,q1,p4,p5]
 have hS10:=hS9.pick (os':=[⟨ptr A1 0 4,0,_⟩,⟨.map (some M2),0,_⟩]) [0,2] (by decide) rfl
 have hS11:=hS10.nil 1
 simp only[RT]at hS11
 refine Wp.ak (fun n l H'=>l.length=89∧get l 1=(ptr A1 0 4)∧get l 3=(.map (some M2))∧get l 56=o.dv∧get l 57=I o.dvs.length∧∃(i:Nat)(kvs:List (ByteArray×Bool))(w:Value),(n+i=o.dvs.length∧(∀j,j<i→vN o.ranks o.dvs j=0)∧(∀t,sJ kvs t=true↔∃q,q<i∧(jB o.dvs q).name=t))∧get l 58=I i∧get l 8=w∧St prog H H' [⟨ptr A1 0 4,0,[(.string o.name),o.rv,o.dv,o.cv]⟩,⟨.map (some M2),0,KS kvs⟩,⟨w,2,(kps (o.dvs.take i)).flatMap kpc⟩]) o.dvs.length ?_ ?_
 ·simp(disch:=omega) only[RB,RC,simprocAttr,hn,g1]
  exact⟨0,[],_,⟨by omega,by simp,by simp[a4J]⟩,rfl,rfl,hS11⟩
 rintro n l H10⟨hn,g1,g3,g56,g57,i,kvs,w,⟨hi1,hz,hk⟩,g58,g8,hS12⟩
 simp(disch:=omega) only[↓RA,RB,simprocAttr,hn,g57,g58]
 refine jA (fun q1=> ?_) (fun q1=> ?_)
 ·have key:vN o.ranks o.dvs i≠0→organE o=vN o.ranks o.dvs i:=fun hne=>by rw[hE,rO _ _ i (by omega) hne hz,if_pos hne]
  simp(disch:=omega) only[↓RA,RZ,simprocAttr,hn,g56,g58,(hS12.sl ho.2.2.1).idx,(hS12.sl ho.2.2.1).ae,Dvn.cells,q1]
  refine hS12.eNew 5 [(.string ⟨#[]⟩),(.bool false),I 0,I 0,(.slice none 0 0)] rfl rfl rfl sB fun A3 H11 hS13=> ?_
  simp only[RT]at hS13
  simp(disch:=omega) only[↓RA,RZ,simprocAttr,hn,q1]
  refine hS13.aa 3 rfl [(.string (jB o.dvs i).name),(.bool (jB o.dvs i).pedal),I (jB o.dvs i).lo,I (jB o.dvs i).hi,(jB o.dvs i).sv] rfl (by simp[OC,(hS13.sl (ho.2.2.2.1 (jB o.dvs i) (jE (by omega))).1).cells.2.1]) sB (by simp) fun H12 hS14=> ?_
  simp only[RT]at hS14
  simp(disch:=omega) only[↓RA,RZ,simprocAttr,hn,hS14.ld 3 rfl,q1]
  refine hS14.cF (sP _) fun H13 hS15=> ?_
  simp(disch:=omega) only[↓RA,RZ,simprocAttr,hn,q1]
  refine kA (fun q2=> ?_) (fun q2=> ?_)
  ·have e1:vN o.ranks o.dvs i=8:=by rw[vN,if_pos (by simpa using q2)]
   simp(disch:=omega) only[↓RA,RZ,simprocAttr,hn,a5n,q1,q2]
   exact⟨by rw[key (by rw[e1];decide),e1],hS15.forget⟩
  have q2':¬lO (jB o.dvs i).name=false:=by simpa using q2
  simp(disch:=omega) only[↓RA,RZ,simprocAttr,hn,g3,hS15.ld 3 rfl,q1,q2]
  have hM2:=hS15.pick (os':=[⟨.map (some M2),0,_⟩]) [1] (by decide) rfl
  have hR2:=hS15.pick (os':=[⟨.map (some M2),0,_⟩,⟨ptr A1 0 4,0,_⟩,⟨w,2,_⟩,⟨ptr A3 0 5,0,_⟩]) [1,0,2,3] (by decide) rfl
  refine jG (a3G _ M2 kvs (jB o.dvs i).name hM2.aR) ?_
  rintro r H14⟨rfl,kvs',hk',hT5⟩
  have hS16:=hR2.frame hT5
  simp only[RT]at hS16
  simp(disch:=omega) only[↓RA,RZ,simprocAttr,hn,q1,q2]
  refine jA (fun q3=> ?_) (fun q3=> ?_)
  ·have q3':sJ kvs (jB o.dvs i).name=true:=by
    by_cases hh:sJ kvs (jB o.dvs i).name=true
    ·exact hh
    ·rw[if_neg hh]at q3;exact absurd rfl q3
   have e1:vN o.ranks o.dvs i=9:=by rw[vN,if_neg q2',if_pos ((hk _).1 q3')]
   simp(disch:=omega) only[↓RA,RZ,simprocAttr,hn,a5n,q1,q2,q3]
   exact⟨by rw[key (by rw[e1];decide),e1,if_pos q3'],hS16.forget⟩
  have q3':¬sJ kvs (jB o.dvs i).name=true:=fun hh=>q3 (by rw[if_pos hh];decide)
  simp(disch:=omega) only[↓RA,RZ,simprocAttr,hn,g1,hS16.ae 1 rfl,hS16.ae 3 rfl,q1,q2,q3]
  refine hS16.cF (c6z o (ho.ag hS16) (jB o.dvs i) ((ho.2.2.2.1 _ (jE (by omega))).ag hS16)) fun H15 hS17=> ?_
  have e0:vN o.ranks o.dvs i=divE o.ranks (jB o.dvs i):=by rw[vN,if_neg q2',if_neg (fun hh=>q3' ((hk _).2 hh))]
  simp(disch:=omega) only[↓RA,RZ,simprocAttr,hn,q1,q2,q3]
  refine jA (fun q4=> ?_) (fun q4=> ?_)
  ·simp(disch:=omega) only[↓RA,RZ,simprocAttr,hn,a5n,q1,q2,q3,q4]
   exact⟨by rw[key (by rw[e0];exact q4),e0],hS17.forget⟩
  have e2:vN o.ranks o.dvs i=0:=by rw[e0];exact dX.1 q4
  simp(disch:=omega) only[↓RA,RZ,simprocAttr,hn,g8,hS17.ae 3 rfl,q1,q2,q3,q4]
  refine hS17.aj [I (jB o.dvs i).lo,I (jB o.dvs i).hi] c5k d0A rfl rfl (by simp[Value.cells]) rfl rfl (by decide) (by decide) fun w1 H16 hS18=> ?_
  simp only[RT]at hS18
  simp(disch:=omega) only[↓RA,RZ,simprocAttr,hn,q1,q2,q3,q4]
  refine hS18.aq 2 rfl (hS18.rd 4 rfl) c5k (by rw[jJ yW];simp[kps];omega) fun w2 H17 hS19=> ?_
  simp only[RT]at hS19
  simp(disch:=omega) only[↓RA,RZ,simprocAttr,hn,g1,g3,g56,g57,g58,q1,q2,q3,q4]
  refine⟨n-1,by omega,i+1,kvs',_,⟨by omega,fun j hj=>by rcases dK.1 hj with e|e;(· exact hz j e);(· rw[e];exact e2),a1V (f:=fun q=>(jB o.dvs q).name) hk hk'⟩,by simp,rfl,?_⟩
  rw[c0q _ _ (by omega)]
  exact hS19.pick [1,0,2] (by decide) rfl
 have hD:mX (vN o.ranks o.dvs) o.dvs.length=0:=lZ _ _ fun j hj=>hz j (by omega)
 have hi:i=o.dvs.length:=by omega
 subst hi
 rw[eS]at hS12
 simp(disch:=omega) only[↓RA,RZ,simprocAttr,hn,g1,g8,hS12.ld 0 rfl,q1]
 refine hS12.cF (a9w w o.cv (kps o.dvs) o.cpls (hS12.az 2 rfl yW) (hS12.sl ho.2.2.2.2.1) (by simp[kps];omega) hlc) fun H18 hS20=> ?_
 simp(disch:=omega) only[↓RA,RZ,simprocAttr,hn,a5n,q1]
 exact⟨by rw[hE,if_neg (by rw[hD];simp)],hS20.forget⟩
def mM:List (Int×Int):=[(8,1),(4,1),(16,1),(8,3),(2,1),(8,5)]
def nR:List (Int×Int):=[(8,1),(4,1),(16,1),(2,1),(8,3),(8,5),(4,3),(1,1),(32,1),(16,3),(16,5),(32,3),(8,7),(2,3),(1,2),(64,1)]
theorem b0J(k:Nat):Fn prog 120 [.int .u8 k] H fun r H'=>r=.agg #[I (jB mM (k%6)).1,I (jB mM (k%6)).2]∧St prog H H' []:=by
 refine .aN func120 rfl (by kernel_rfl) (m:=14) rfl fun l hn g0=> ?_
 simp(disch:=omega) only[↓RA,RZ,simprocAttr]
 refine(sR H).eNew 2 [I 0,I 0] rfl rfl rfl uK fun A1 H1 hS1=> ?_
 simp only[RT]at hS1
 simp(disch:=omega) only[↓RA,RB,simprocAttr,hn,yK]
 refine hS1.aj [I 8,I 1,I 4,I 1,I 16,I 1,I 8,I 3,I 2,I 1,I 8,I 5] c5g c5D rfl rfl (by simp[Value.cells]) rfl rfl (by decide) (by decide) fun w1 H2 hS2=> ?_
 simp only[RT]at hS2
 simp(disch:=omega) only[↓RA,RZ,simprocAttr,hn,g0]
 have hR:St prog H H2 [⟨ptr A1 0 2,0,_⟩,⟨w1,2,mM.flatMap kpc⟩]:=hS2
 have hL:mM.length=6:=rfl
 have hk:k%6<6:=fz _ (by decide)
 have hk2:(k:Int).tmod 6=((k%6:Nat):Int):=(fq k 6).symm
 try rw[hk2]
 simp(disch:=omega) only[↓RA,RZ,simprocAttr,hn,(hR.az 1 rfl yW).idx,(hR.az 1 rfl yW).ae,kpc]
 refine hR.aa 0 rfl [I (jB mM (k%6:Nat)).1,I (jB mM (k%6:Nat)).2] rfl rfl uK (by simp) fun H3 hS3=> ?_
 simp only[RT]at hS3
 simp(disch:=omega) only[↓RA,RZ,simprocAttr,hn,c9K,hS3.ae 0 rfl]
 first|exact hS3.forget|exact⟨rfl,hS3.forget⟩
theorem a8D(k:Nat):Fn prog 119 [.int .u8 k] H fun r H'=>r=.agg #[I (jB nR (k%16)).1,I (jB nR (k%16)).2]∧St prog H H' []:=by
 refine .aN func119 rfl (by kernel_rfl) (m:=24) rfl fun l hn g0=> ?_
 simp(disch:=omega) only[↓RA,RZ,simprocAttr]
 refine(sR H).eNew 2 [I 0,I 0] rfl rfl rfl uK fun A1 H1 hS1=> ?_
 simp only[RT]at hS1
 simp(disch:=omega) only[↓RA,RB,simprocAttr,hn,yK]
 refine hS1.aj [I 8,I 1,I 4,I 1,I 16,I 1,I 2,I 1,I 8,I 3,I 8,I 5,I 4,I 3,I 1,I 1,I 32,I 1,I 16,I 3,I 16,I 5,I 32,I 3,I 8,I 7,I 2,I 3,I 1,I 2,I 64,I 1] c5g c5D rfl rfl (by simp[Value.cells]) rfl rfl (by decide) (by decide) fun w1 H2 hS2=> ?_
 simp only[RT]at hS2
 simp(disch:=omega) only[↓RA,RZ,simprocAttr,hn,g0]
 have hR:St prog H H2 [⟨ptr A1 0 2,0,_⟩,⟨w1,2,nR.flatMap kpc⟩]:=hS2
 have hL:nR.length=16:=rfl
 have hk:k%16<16:=fz _ (by decide)
 have hk2:(k:Int).tmod 16=((k%16:Nat):Int):=(fq k 16).symm
 try rw[hk2]
 simp(disch:=omega) only[↓RA,RZ,simprocAttr,hn,(hR.az 1 rfl yW).idx,(hR.az 1 rfl yW).ae,kpc]
 refine hR.aa 0 rfl [I (jB nR (k%16:Nat)).1,I (jB nR (k%16:Nat)).2] rfl rfl uK (by simp) fun H3 hS3=> ?_
 simp only[RT]at hS3
 simp(disch:=omega) only[↓RA,RZ,simprocAttr,hn,c9Q,hS3.ae 0 rfl]
 first|exact hS3.forget|exact⟨rfl,hS3.forget⟩
end Go.Ds
namespace Go.Ds
open Go.Proofs Go.Proofs.Tryz
variable {H:Heap}
set_option maxRecDepth 10000
structure RPl where
 tone:Nat
 feet:Nat
 first:Int
 pipes:Nat
 w0:Nat
 w1:Nat
 w2:Nat
 w3:Nat
 w4:Nat
 deriving Inhabited
def RPl.cells(p:RPl):List Value:=[.int .u8 p.tone,.int .u8 p.feet,.int .i8 p.first,.int .u8 p.pipes,.int .u8 p.w0,.int .u8 p.w1,.int .u8 p.w2,.int .u8 p.w3,.int .u8 p.w4]
def RPl.Ok(p:RPl):Prop:=p.tone<256∧p.feet<256∧-128≤p.first∧p.first<128∧p.pipes<256∧p.w0<256∧p.w1<256∧p.w2<256∧p.w3<256∧p.w4<256
def RPl.wind(p:RPl)(j:Nat):Nat:=jB [p.w0,p.w1,p.w2,p.w3,p.w4] (j%5)
theorem RPl.Ok.wind{p:RPl}(hp:p.Ok)(j:Nat):p.wind j<256:=by
 obtain⟨_,_,_,_,_,h0,h1,h2,h3,h4⟩:=hp
 have:j%5=0∨j%5=1∨j%5=2∨j%5=3∨j%5=4:=by omega
 unfold RPl.wind
 rcases this with e|e|e|e|e<;>rw[e]<;>assumption
def wM:List ByteArray:=[⟨#[79,112,101,110]⟩,⟨#[70,108,117,116,101]⟩,⟨#[82,101,101,100]⟩]
theorem b6b(p:RPl)(hp:p.Ok)(i:Nat)(hi:i<10):Fn prog 85 [.agg #[.int .u8 p.tone,.int .u8 p.feet,.int .i8 p.first,.int .u8 p.pipes,.int .u8 p.w0,.int .u8 p.w1,.int .u8 p.w2,.int .u8 p.w3,.int .u8 p.w4],I i] H fun r H'=>
 ∃wv,r=.agg #[.string ⟨#[82,UInt8.ofNat (48+i)]⟩,.string (jB wM (p.tone%3)),I (jB nR (p.feet%16)).1,I (jB nR (p.feet%16)).2,I p.first,wv]∧
  St prog H H' [⟨wv,1,(List.range (1+p.pipes%25)).map fun j=>I (p.wind j)⟩]:=by
 have hwb:=fun j=>hp.wind j
 obtain⟨h1,h2,h3,h4,h5,_⟩:=hp
 refine .aE func85 rfl (by kernel_rfl) (m:=48) rfl fun l hn g0 g1=> ?_
 have hm:(i:Int).tmod 10=i:=((fq i 10).symm).trans (by rw[gE hi])
 have ht:(p.tone:Int).tmod 3=((p.tone%3:Nat):Int):=(fq p.tone 3).symm
 have ht3:p.tone%3<3:=fz _ (by decide)
 have htl:wM.length=3:=rfl
 simp(disch:=omega) only[↓RA,RB,simprocAttr,g0]
 refine(sR H).eNew 9 [(.int .u8 p.tone),(.int .u8 p.feet),(.int .i8 p.first),(.int .u8 p.pipes),(.int .u8 p.w0),(.int .u8 p.w1),(.int .u8 p.w2),(.int .u8 p.w3),(.int .u8 p.w4)] rfl rfl rfl b9f fun A1 H1 hS1=> ?_
 simp only[RT]at hS1
 simp(disch:=omega) only[↓RA,RZ,simprocAttr]
 refine hS1.eNew 6 [(.string ⟨#[]⟩),(.string ⟨#[]⟩),I 0,I 0,I 0,(.slice none 0 0)] rfl rfl rfl wH fun A2 H2 hS2=> ?_
 simp only[RT]at hS2
 simp(disch:=omega) only[↓RA,simprocAttr]
 refine Wp.cV kQ [13,14,15,16,17,18,0,1,2,3,4,5,6,7,8,9,10,11,12,19,20,21] [6,7,8,9,10,11,12,13,14,15,16,17,18,0,1,2,3,4,5,19,20,21] ⟨true,[],[(11,10),(17,13),(18,13)]⟩ [(4,0),(5,0),(9,0),(15,0),(15,3)] (by kernel_rfl) (by kernel_rfl) (by kernel_rfl) ?_
 simp(disch:=omega) only[↓RA,RZ,simprocAttr,hn,hS2.ld 0 rfl]
 refine hS2.cF (a8D p.feet) fun H3 hS3=> ?_
 simp(disch:=omega) only[↓RA,RZ,simprocAttr,hn,g1,hS3.ld 0 rfl,hm]
 refine hS3.aj [_] b3S b3O rfl rfl (by simp[Value.cells]) rfl rfl (by decide) (by decide) fun w1 H4 hS4=> ?_
 simp only[RT]at hS4
 simp(disch:=omega) only[↓RA,RB,simprocAttr,hn,yJ (hS4.rd 2 rfl) pE.1 pE.2.1 pE.2.2,wD]
 refine hS4.aj [(.string ⟨#[79,112,101,110]⟩),(.string ⟨#[70,108,117,116,101]⟩),(.string ⟨#[82,101,101,100]⟩)] b3W c1m rfl rfl (by simp[Value.cells]) rfl rfl (by decide) (by decide) fun w2 H5 hS5=> ?_
 simp only[RT]at hS5
 simp(disch:=omega) only[↓RA,RZ,simprocAttr,hn,hS5.ld 0 rfl,ht]
 have hR:St prog H H5 [⟨ptr A1 0 9,0,_⟩,⟨ptr A2 0 6,0,_⟩,⟨w1,1,_⟩,⟨w2,1,wM.flatMap (one Value.string)⟩]:=hS5
 simp(disch:=omega) only[↓RA,RZ,simprocAttr,hn,(hR.az 3 rfl (rF _)).idx,(hR.az 3 rfl (rF _)).ld,one,a4T]
 refine hR.eNew 6 [(.string ⟨#[]⟩),(.string ⟨#[]⟩),I 0,I 0,I 0,(.slice none 0 0)] rfl rfl rfl wH fun A3 H6 hS6=> ?_
 simp only[RT]at hS6
 simp(disch:=omega) only[↓RA,RB,simprocAttr,hn]
 refine hS6.aa 4 rfl [(.string ⟨#[82,UInt8.ofNat (48+(i:Int)).toNat]⟩),(.string (jB wM (p.tone%3:Nat))),I (jB nR (p.feet%16)).1,I (jB nR (p.feet%16)).2,_,(.slice none 0 0)] rfl rfl wH (by simp) fun H7 hS7=> ?_
 simp only[RT]at hS7
 simp(disch:=omega) only[↓RA,RZ,simprocAttr,hn,hS2.ld 0 rfl,hS3.ld 0 rfl]
 have hN:St prog H H7 [⟨ptr A1 0 9,0,_⟩,⟨ptr A2 0 6,0,_⟩,⟨ptr A3 0 6,0,[.string ⟨#[82,UInt8.ofNat (48+(i:Int)).toNat]⟩,.string (jB wM (p.tone%3)),I (jB nR (p.feet%16)).1,I (jB nR (p.feet%16)).2,I p.first,.slice none 0 0]⟩,⟨.slice none 0 0,1,[]⟩]:=(hS7.nil 0).pick [0,1,4,5] (by decide) rfl
 refine Wp.ak (fun n l H'=>l.length=48∧get l 2=(ptr A1 0 9)∧get l 4=(ptr A2 0 6)∧get l 5=(ptr A3 0 6)∧∃(j:Nat)(wv:Value),(n+j=1+p.pipes%25)∧get l 6=I j∧St prog H H' [⟨ptr A1 0 9,0,[(.int .u8 p.tone),(.int .u8 p.feet),(.int .i8 p.first),(.int .u8 p.pipes),(.int .u8 p.w0),(.int .u8 p.w1),(.int .u8 p.w2),(.int .u8 p.w3),(.int .u8 p.w4)]⟩,⟨ptr A2 0 6,0,[(.string ⟨#[]⟩),(.string ⟨#[]⟩),I 0,I 0,I 0,(.slice none 0 0)]⟩,⟨ptr A3 0 6,0,[.string ⟨#[82,UInt8.ofNat (48+(i:Int)).toNat]⟩,.string (jB wM (p.tone%3)),I (jB nR (p.feet%16)).1,I (jB nR (p.feet%16)).2,I p.first,wv]⟩,⟨wv,1,(List.range j).map fun q=>I (p.wind q)⟩]) (1+p.pipes%25) ?_ ?_
 ·simp(disch:=omega) only[RB,RC,simprocAttr,hn]
  exact⟨0,_,by omega,rfl,hN⟩
 rintro n l H8⟨hn,g2,g4,g5,j,wv,hj,g6,hS8⟩
 have hpp:(p.pipes:Int).tmod 25=((p.pipes%25:Nat):Int):=(fq p.pipes 25).symm
 have hj5:(j:Int).tmod 5=((j%5:Nat):Int):=(fq j 5).symm
 have hw:(p.cells)[4+j%5]? =some (.int .u8 (p.wind j)):=by
  have:j%5=0∨j%5=1∨j%5=2∨j%5=3∨j%5=4:=by omega
  unfold RPl.wind
  rcases this with e|e|e|e|e<;>rw[e]<;>rfl
 simp only[RPl.cells]at hw
 have hwj:=hwb j
 simp(disch:=omega) only[↓RA,RZ,simprocAttr,hn,g2,g6,hS8.ld 0 rfl,hpp]
 refine jA (fun q=> ?_) (fun q=> ?_)
 ·simp(disch:=omega) only[↓RA,RC,simprocAttr,q]
  refine Wp.aJ kQ [(1,9)] (by kernel_rfl) (by kernel_rfl) ?_
  simp(disch:=omega) only[↓RA,RZ,simprocAttr,hn,g2,g5,g6,hS8.ld 2 rfl,hS8.ld 0 rfl,hw,hj5]
  refine hS8.aj [_] uE a2h rfl rfl (by simp[Value.cells]) rfl rfl (by decide) (by decide) fun w3 H9 hS9=> ?_
  simp only[RT]at hS9
  simp(disch:=omega) only[↓RA,RZ,simprocAttr,hn]
  refine hS9.aq 3 rfl (hS9.rd 4 rfl) uE (by first|(simp;done)|(simp;omega)) fun w4 H10 hS10=> ?_
  simp only[RT]at hS10
  simp(disch:=omega) only[↓RA,RZ,simprocAttr,hn,g5]
  refine hS10.aa 2 rfl [w4] (by rw[(hS10.rd 3 rfl).cells.1]) (by simp[(hS10.rd 3 rfl).cells.2.1]) b6Y (by simp) fun H11 hS11=> ?_
  simp only[RT]at hS11
  simp(disch:=omega) only[↓RA,RZ,simprocAttr,hn,g2,g4,g5,g6,hS9.ld 2 rfl]
  refine⟨n-1,by omega,j+1,w4,by omega,rfl,?_⟩
  rw[eR,dY]
  exact hS11.pick [0,1,2,3] (by decide) rfl
 simp(disch:=omega) only[↓RA,RZ,simprocAttr,hn,g4,g5,hS8.ae 2 rfl,q]
 refine hS8.aa 1 rfl [(.string ⟨#[82,UInt8.ofNat (48+(i:Int)).toNat]⟩),(.string (jB wM (p.tone%3))),I (jB nR (p.feet%16)).1,I (jB nR (p.feet%16)).2,I p.first,wv] rfl (by simp[OC,(hS8.rd 3 rfl).cells.2.1]) wH (by simp) fun H12 hS12=> ?_
 simp only[RT]at hS12
 simp(disch:=omega) only[↓RA,RZ,simprocAttr,g4,d1e,hS12.ae 1 rfl,q]
 have hjj:j=1+p.pipes%25:=by omega
 subst hjj
 have he:(48+(i:Int)).toNat=48+i:=by omega
 exact⟨wv,by rw[he],hS12.pick [3] (by decide) rfl⟩
end Go.Ds
namespace Go.Ds
open Go.Proofs
variable {P:Program} {H:Heap} {α:Type} {n:Nat} {cel:α→List Value} {v:Value} {xs:List α} {X Y:Nat→Prop}
theorem RdAt.lt{size:Nat}{cs:List Value}(h:RdAt H v size cs){B:Nat}(hb:kX v=some B):B<H.length:=by
 rcases h with⟨h1,_⟩|⟨A,i,e,row,ty,rw,lo,ver,n,h,_,_,_,_,_,h7⟩
 ·rw[h1]at hb;simp[kX]at hb
 ·rw[h7]at hb
  simp[kX]at hb
  exact hb▸kL h
theorem RdAt.cW{H':Heap}{size:Nat}{cs:List Value}(h:RdAt H v size cs)(hk:∀B,kX v=some B→jS H' B=jS H B):RdAt H' v size cs:=by
 rcases h with h|⟨A,i,e,row,ty,rw,lo,ver,n,h,h2,h3,h4,h5,h6,h7⟩
 ·exact .inl h
 ·exact .inr ⟨A,i,e,row,ty,rw,lo,ver,n,by rw[hk A (by rw[h7];rfl),h],h2,h3,h4,h5,h6,h7⟩
theorem St.aA{B0:Base}{os:List Ob}(hS:St P B0 H os):∃B:Base,B=⟨H,tE os⟩∧St P B H os:=⟨_,rfl,hS.aR⟩
theorem St.ab{B0 B:Base}{H1:Heap}{os os1:List Ob}(hS:St P B0 H os)(hB:B=⟨H,tE os⟩)(h1:St P B H1 os1):St P B0 H1 os1:=by
 subst hB
 exact hS.bG h1
def Slx(n:Nat)(cel:α→List Value)(H:Heap)(X:Nat→Prop)(v:Value)(xs:List α):Prop:=Sl n cel H v xs∧∀B,kX v=some B→X B
def Kept(H:Heap)(X:Nat→Prop)(H':Heap)(Y:Nat→Prop):Prop:=∀B,X B→B<H.length→jS H' B=jS H B∧Y B
theorem Slx.step{H':Heap}(h:Slx n cel H X v xs)(hk:Kept H X H' Y):Slx n cel H' Y v xs:=
 ⟨⟨h.1.rd.cW fun B hb=>(hk B (h.2 B hb) (h.1.rd.lt hb)).1,h.1.hc,h.1.pos⟩,fun B hb=>(hk B (h.2 B hb) (h.1.rd.lt hb)).2⟩
def nb(vs:List Value):Nat→Prop:=fun B=>∀v∈vs,kX v≠some B
theorem a6V(os:List Ob)(B:Nat):nb (os.map (·.v)) B↔¬tE os B:=by
 unfold nb tE
 constructor
 ·rintro h⟨o,ho,hb⟩
  exact h o.v (gP ho) hb
 ·intro h v hv hb
  obtain⟨o,ho,rfl⟩:=dP.1 hv
  exact h ⟨o,ho,hb⟩
theorem St.kept{B:Base}{H':Heap}{os os':List Ob}(hS:St P B H' os')(hB:B=⟨H,tE os⟩):Kept H (nb (os.map (·.v))) H' (nb (os'.map (·.v))):=by
 subst hB
 intro B hX hB
 rw[a6V]at hX ⊢
 exact⟨hS.old B hB hX,fun⟨o,ho,hb⟩=>by
  rcases hS.new o ho B hb with h|h
  ·have h:H.length≤B:=h
   omega
  ·exact hX h⟩
theorem St.bq{H0:Base}{H':Heap}{os:List Ob}(hS:St P H0 H os):Kept H' (fun B=>H.length≤B) H' (nb (os.map (·.v))):=by
 intro B hX hB
 rw[a6V]
 exact⟨rfl,fun⟨o,ho,hb⟩=>by
  have:=(hS.own o ho).lt hb
  omega⟩
theorem Kept.trans{H' H'':Heap}{X Y Z:Nat→Prop}(h:Kept H X H' Y)(h':Kept H' Y H'' Z)(hl:H.length≤H'.length):Kept H X H'' Z:=
 fun B hX hB=>by
  obtain⟨e,hY⟩:=h B hX hB
  obtain⟨e',hZ⟩:=h' B hY (eH hB hl)
  exact⟨e'.trans e,hZ⟩
theorem Slx.any(h:Slx n cel H X v xs):Slx n cel H (fun _=>True) v xs:=⟨h.1,fun _ _=>trivial⟩
theorem St.du{H0:Base}{os os':List Ob}(hS:St P H0 H os)(i:Nat){m:Nat}(ho:os[i]? =some ⟨v,m+1,xs.flatMap cel⟩)(hc:∀x,(cel x).length=m+1)(idx:List Nat)(hi:i∉idx)(h:idx.map (os[·]?)=os'.map some):
 Slx (m+1) cel H (nb (os'.map (·.v))) v xs:=by
 refine⟨hS.az i ho hc,fun B hb=> ?_⟩
 rw[a6V]
 rintro⟨o,hmem,hob⟩
 have:some o∈idx.map (os[·]?):=by rw[h];exact gP hmem
 obtain⟨j,hj,hj2⟩:=dP.1 this
 have hne:i≠j:=fun e=>hi (e▸hj)
 have hpw:=eQ.1 hS.sep
 obtain⟨hi1,ei⟩:=dQ.1 ho
 obtain⟨hj1,ej⟩:=dQ.1 hj2
 rcases gU hne with hh|hh
 ·have:=hpw i j hi1 hj1 hh B (by rw[ei];exact hb)
  rw[ej]at this
  exact this hob
 ·have:=hpw j i hj1 hi1 hh B (by rw[ej];exact hob)
  rw[ei]at this
  exact this hb
theorem St.bY{H0:Heap}{os:List Ob}(hS:St P H0 H os)(i:Nat){m:Nat}(ho:os[i]? =some ⟨v,m+1,xs.flatMap cel⟩)(hc:∀x,(cel x).length=m+1):Slx (m+1) cel H (fun B=>H0.length≤B) v xs:=
 ⟨hS.az i ho hc,fun B hb=>by
  rcases hS.new _ (dR ho) B hb with h|h
  ·exact h
  ·exact h.elim⟩
def Seg.Ix(H:Heap)(X:Nat→Prop)(s:Seg):Prop:=Slx 2 Drw.cells H X s.dv s.draws∧s.draws.length<1000000000
def Stp.Ix(H:Heap)(X:Nat→Prop)(s:Stp):Prop:=Slx 3 Seg.cells H X s.gv s.segs∧(∀g∈s.segs,g.Ix H X)∧s.segs.length<1000000000
def Dvn.Ix(H:Heap)(X:Nat→Prop)(d:Dvn):Prop:=Slx 4 Stp.cells H X d.sv d.stops∧(∀s∈d.stops,s.Ix H X)∧d.stops.length<1000000000
def Rk.Ix(H:Heap)(X:Nat→Prop)(r:Rk):Prop:=Slx 1 (one I) H X r.wv r.wind∧r.wind.length<1000000000
section
variable {H':Heap}
theorem Seg.Ix.step{s:Seg}(h:s.Ix H X)(hk:Kept H X H' Y):s.Ix H' Y:=⟨h.1.step hk,h.2⟩
theorem Stp.Ix.step{s:Stp}(h:s.Ix H X)(hk:Kept H X H' Y):s.Ix H' Y:=⟨h.1.step hk,fun g hg=>(h.2.1 g hg).step hk,h.2.2⟩
theorem Dvn.Ix.step{d:Dvn}(h:d.Ix H X)(hk:Kept H X H' Y):d.Ix H' Y:=⟨h.1.step hk,fun g hg=>(h.2.1 g hg).step hk,h.2.2⟩
theorem Rk.Ix.step{r:Rk}(h:r.Ix H X)(hk:Kept H X H' Y):r.Ix H' Y:=⟨h.1.step hk,h.2⟩
theorem Seg.Ix.in{s:Seg}(h:s.Ix H X):s.In H:=⟨h.1.1,h.2⟩
theorem Stp.Ix.in{s:Stp}(h:s.Ix H X):s.In H:=⟨h.1.1,fun g hg=>(h.2.1 g hg).in,h.2.2⟩
theorem Dvn.Ix.in{d:Dvn}(h:d.Ix H X):d.In H:=⟨h.1.1,fun g hg=>(h.2.1 g hg).in,h.2.2⟩
theorem Rk.Ix.in{r:Rk}(h:r.Ix H X):r.In H:=⟨h.1.1,h.2⟩
end
theorem nF{α:Type}(f:α→Value)(l:List α):l.flatMap (one f)=l.map f:=by
 induction l with
 | nil=>rfl
 | cons a l ih=>rw[ec,ih];rfl
end Go.Ds
namespace Go.Ds
open Go.Proofs
theorem b2x(m:Nat)(n s:Int)(h0:0≤n)(h1:n<m)(h2: -127≤s)(h3:s≤127):mS m [⟨n,s⟩]=0:=by
 rw[mS,if_neg (by simp)]
 refine lZ _ _ fun j hj=> ?_
 have hj0:j=0:=by simpa using hj
 subst hj0
 have e:jB ([⟨n,s⟩]:List Drw) 0=⟨n,s⟩:=rfl
 unfold lN
 rw[e,if_neg (by simp only;omega),if_neg (by simp only;omega),if_neg (by simp)]
theorem c7x(m:Nat)(n s t:Int)(h0:0≤n)(h1:n<m)(h2: -127≤s)(h3:s≤127)(h4: -127≤t)(h5:t≤127)(hne:s≠t):mS m [⟨n,s⟩,⟨n,t⟩]=0:=by
 rw[mS,if_neg (by simp)]
 refine lZ _ _ fun j hj=> ?_
 have hj0:j=0∨j=1:=by
  have:j<2:=by simpa using hj
  omega
 rcases hj0 with rfl|rfl
 ·have e:jB ([⟨n,s⟩,⟨n,t⟩]:List Drw) 0=⟨n,s⟩:=rfl
  unfold lN
  rw[e,if_neg (by simp only;omega),if_neg (by simp only;omega),if_neg (by simp)]
 ·have e:jB ([⟨n,s⟩,⟨n,t⟩]:List Drw) 1=⟨n,t⟩:=rfl
  unfold lN
  rw[e,if_neg (by simp only;omega),if_neg (by simp only;omega),if_neg (by simp[fP hne])]
theorem a8d(lo hi a b:Int)(m:Nat)(dv:Value)(ds:List Drw)(h1:lo≤a)(h2:a≤b)(h3:b≤hi)(hd:mS m ds=0):mX (mD lo hi m [⟨a,b,dv,ds⟩]) 1=0:=by
 refine lZ _ _ fun j hj=> ?_
 have hj0:j=0:=by omega
 subst hj0
 have e:jB ([⟨a,b,dv,ds⟩]:List Seg) 0=⟨a,b,dv,ds⟩:=rfl
 unfold mD
 rw[e,if_neg (by simp only;omega),if_neg (by simp only;omega)]
 exact hd
theorem c5O(lo hi c:Int)(m:Nat)(dv dv':Value)(ds ds':List Drw)(h1:lo<c)(h2:c≤hi)(hd:mS m ds=0)(hd':mS m ds'=0):mX (mD lo hi m [⟨lo,c-1,dv,ds⟩,⟨c,hi,dv',ds'⟩]) 2=0:=by
 refine lZ _ _ fun j hj=> ?_
 have e0:jB ([⟨lo,c-1,dv,ds⟩,⟨c,hi,dv',ds'⟩]:List Seg) 0=⟨lo,c-1,dv,ds⟩:=rfl
 have e1:jB ([⟨lo,c-1,dv,ds⟩,⟨c,hi,dv',ds'⟩]:List Seg) 1=⟨c,hi,dv',ds'⟩:=rfl
 have hj0:j=0∨j=1:=by omega
 rcases hj0 with rfl|rfl
 ·unfold mD
  rw[e0,if_neg (by simp only;omega),if_neg (by simp only;omega)]
  exact hd
 ·unfold mD
  rw[e1,show(1:Nat)-1=0 from rfl,e0,if_neg (by simp only;omega),if_neg (by simp only;omega)]
  exact hd'
def nm(c:UInt8)(i:Nat):ByteArray:=⟨#[c,UInt8.ofNat (48+i)]⟩
theorem a7a{c:UInt8}{i j:Nat}(hi:i<10)(hj:j<10)(h:nm c i=nm c j):i=j:=by
 unfold nm at h
 have h2:(#[c,UInt8.ofNat (48+i)]:Array UInt8)=#[c,UInt8.ofNat (48+j)]:=congrArg ByteArray.data h
 have h3:UInt8.ofNat (48+i)=UInt8.ofNat (48+j):=by simpa using h2
 have h4:=congrArg UInt8.toNat h3
 simp only[UInt8.toNat_ofNat']at h4
 omega
theorem a2T{c:UInt8}(hc:c=82∨c=68∨c=83∨c=67){i:Nat}(hi:i<10):lO (nm c i)=true:=by
 have h:i=0∨i=1∨i=2∨i=3∨i=4∨i=5∨i=6∨i=7∨i=8∨i=9:=by omega
 rcases hc with rfl|rfl|rfl|rfl<;>rcases h with rfl|rfl|rfl|rfl|rfl|rfl|rfl|rfl|rfl|rfl<;>decide
structure StpOk(m:Nat)(lo hi:Int)(i:Nat)(s:Stp):Prop where
 name:s.name=nm 83 i
 feet:(s.num,s.den)∈mM
 pos:0<s.segs.length
 len:s.segs.length≤2
 segs:mX (mD lo hi m s.segs) s.segs.length=0
theorem c0O{p:Int×Int}(h:p∈mM):pA p.1 p.2=0:=by
 have:mM.all (fun p=>decide (pA p.1 p.2=0))=true:=by decide
 exact of_decide_eq_true (dT.1 this p h)
theorem c0L{p:Int×Int}(h:p∈nR):pA p.1 p.2=0:=by
 have:nR.all (fun p=>decide (pA p.1 p.2=0))=true:=by decide
 exact of_decide_eq_true (dT.1 this p h)
theorem StpOk.stopE{rs:List Rk}{lo hi:Int}{i:Nat}{s:Stp}(h:StpOk rs.length lo hi i s)(hi10:i<10)(hp:vL rs lo hi=0):stopE rs lo hi s=0:=by
 unfold Go.Ds.stopE
 rw[if_neg (by rw[hp];simp),if_neg (by rw[h.name,a2T (by simp) hi10];simp),if_neg (by rw[c0O h.feet];simp),if_neg (by have:=h.pos;omega),if_neg (by have:=h.len;omega)]
 exact h.segs
structure RkOk(i:Nat)(r:Rk):Prop where
 name:r.name=nm 82 i
 tone:r.tone∈wM
 feet:(r.num,r.den)∈nR
 first: -128≤r.first∧r.first<128
 pos:0<r.wind.length
 len:r.wind.length≤25
 wind:∀x∈r.wind,0≤x∧x<256
theorem b8Y{s:ByteArray}(h:s∈wM):lO s=true:=by
 have:wM.all (fun s=>lO s)=true:=by decide
 exact dT.1 this s h
theorem RkOk.rankE{i:Nat}{r:Rk}(h:RkOk i r)(hi:i<10):rankE r=0:=by
 have hf:=h.first
 have hp:=h.pos
 have hl:=h.len
 have hw:a1P r.wind=0:=by
  unfold a1P
  rw[if_neg]
  intro hh
  rw[iN]at hh
  obtain⟨x,hx,hp⟩:=hh
  have:=h.wind x hx
  simp only[fi,decide_eq_true_eq]at hp
  omega
 unfold Go.Ds.rankE
 rw[if_neg (by rw[h.name,a2T (by simp) hi,b8Y h.tone];simp),if_neg (by rw[c0L h.feet];simp),if_neg (by omega),if_neg (by omega),if_neg (by omega),hw]
theorem a3L{lo hi:Int}(h0:0≤lo)(h1:lo≤hi)(h2:hi≤127):tG lo hi=0:=by
 unfold tG
 rw[if_neg (by omega),if_neg (by omega)]
theorem c7c{rs:List Rk}{lo hi:Int}(hl:rs.length≤3)(hr:∀j,j<rs.length→RkOk j (jB rs j))(h0:0≤lo)(h1:lo≤hi)(h2:hi≤127):vL rs lo hi=0:=by
 have e:=lZ (fun j=>Go.Ds.rankE (jB rs j)) rs.length fun j hj=>(hr j hj).rankE (by omega)
 unfold vL
 rw[if_neg (by omega),if_neg (by rw[e];simp)]
 exact a3L h0 h1 h2
structure DvOk(m i:Nat)(d:Dvn):Prop where
 name:d.name=nm 68 i
 lo:36≤d.lo
 le:d.lo≤d.hi
 hi:d.hi≤60
 wide:d.hi≤d.lo+8
 len:d.stops.length≤3
 stops:∀k,k<d.stops.length→StpOk m d.lo d.hi k (jB d.stops k)
structure CpOk(n i:Nat)(c:Cpl):Prop where
 name:c.name=nm 67 i
 src:0≤c.src∧c.src<n
 dst:0≤c.dst∧c.dst<n
 shift: -24≤c.shift∧c.shift≤24
 ne:¬(c.src=c.dst∧c.shift=0)
def c0g:ByteArray:=⟨#[79,114,103,97,110]⟩
structure OrgOk(o:Org):Prop where
 name:o.name=c0g
 rpos:0<o.ranks.length
 rlen:o.ranks.length≤3
 ranks:∀j,j<o.ranks.length→RkOk j (jB o.ranks j)
 dpos:0<o.dvs.length
 dlen:o.dvs.length≤3
 dvs:∀j,j<o.dvs.length→DvOk o.ranks.length j (jB o.dvs j)
 clen:o.cpls.length≤3
 cpls:∀j,j<o.cpls.length→CpOk o.dvs.length j (jB o.cpls j)
theorem b6W:lO c0g=true:=by decide
theorem DvOk.divE{rs:List Rk}{i:Nat}{d:Dvn}(h:DvOk rs.length i d)(hl:rs.length≤3)(hr:∀j,j<rs.length→RkOk j (jB rs j)):divE rs d=0:=by
 have h1:=h.lo
 have h2:=h.le
 have h3:=h.hi
 have h4:=h.len
 unfold Go.Ds.divE
 rw[if_neg (by rw[a3L (by omega) h2 (by omega)];simp),if_neg (by omega)]
 refine lZ _ _ fun j hj=> ?_
 have hs:=h.stops j hj
 unfold pT
 rw[if_neg (by rw[hs.stopE (by omega) (c7c hl hr (by omega) h2 (by omega))];simp),if_neg]
 rintro⟨q,hq,e⟩
 rw[hs.name,(h.stops q (by omega)).name]at e
 have:=a7a (by omega) (by omega) e
 omega
theorem OrgOk.organE{o:Org}(h:OrgOk o):organE o=0:=by
 have h1:=h.rpos
 have h2:=h.rlen
 have h3:=h.dpos
 have h4:=h.dlen
 have h5:=h.clen
 have e1:mX (pG o.ranks) o.ranks.length=0:=lZ _ _ fun j hj=>by
  unfold pG
  rw[if_neg (by rw[(h.ranks j hj).rankE (by omega)];simp),if_neg]
  rintro⟨q,hq,e⟩
  rw[(h.ranks j hj).name,(h.ranks q (by omega)).name]at e
  have:=a7a (by omega) (by omega) e
  omega
 have e2:mX (vN o.ranks o.dvs) o.dvs.length=0:=lZ _ _ fun j hj=>by
  unfold vN
  rw[if_neg (by rw[(h.dvs j hj).name,a2T (by simp) (by omega)];simp),if_neg]
  ·exact(h.dvs j hj).divE h2 h.ranks
  rintro⟨q,hq,e⟩
  rw[(h.dvs j hj).name,(h.dvs q (by omega)).name]at e
  have:=a7a (by omega) (by omega) e
  omega
 have e3:tX (kps o.dvs) o.cpls=0:=by
  have hk:(kps o.dvs).length=o.dvs.length:=by simp[kps]
  unfold tX
  rw[if_neg (by omega),if_neg]
  ·refine lZ _ _ fun j hj=> ?_
   have hc:=h.cpls j hj
   have c1:=hc.src
   have c2:=hc.dst
   have c3:=hc.shift
   unfold nV
   simp only
   rw[if_neg (by rw[hc.name,a2T (by simp) (by omega)];simp),if_neg,if_neg (by rw[hk];omega),if_neg (by omega),if_neg hc.ne]
   rintro⟨q,hq,e⟩
   rw[hc.name,(h.cpls q (by omega)).name]at e
   have:=a7a (by omega) (by omega) e
   omega
  ·rintro⟨k,hk,hne⟩
   unfold kps at hk
   obtain⟨d,hd,rfl⟩:=dP.1 hk
   obtain⟨j,hj,rfl⟩:=eF.1 hd
   have hd:=h.dvs j hj
   rw[jR o.dvs j hj]at hd
   have h1:=hd.lo
   have h2:=hd.le
   have h3:=hd.hi
   exact hne (a3L (by omega) h2 (by omega))
 unfold Go.Ds.organE
 rw[if_neg (by rw[h.name,b6W];simp),if_neg (by omega),if_neg (by rw[e1];simp),if_neg (by omega),if_neg (by omega),if_neg (by rw[e2];simp)]
 exact e3
def mJ(x:Int×Int):List Value:=[I x.1,I x.2]
def pr(l:List (Int×Int)):List Value:=l.flatMap mJ
theorem lG(x:Int×Int):(mJ x).length=2:=rfl
theorem jN(l:List (Int×Int)):(pr l).length=l.length*2:=jJ lG l
def le2(x y:Int×Int):Bool:=decide (x.1<y.1)||(decide (x.1=y.1)&&decide (x.2≤y.2))
theorem b4f(x y:Int×Int):le2 x y=true↔x.1<y.1∨(x.1=y.1∧x.2≤y.2):=by
 unfold le2
 simp only[fi,dB,decide_eq_true_eq]
def srt(es:List (Int×Int)):List (Int×Int):=es.mergeSort le2
theorem uN(es:List (Int×Int)):(srt es).Perm es:=List.mergeSort_perm _ _
theorem a3o(es:List (Int×Int)):(srt es).length=es.length:=(uN es).length_eq
def cf2(x y:Int×Int):Int:=if x.1<y.1 then -1 else if y.1<x.1 then 1 else if x.2<y.2 then -1 else if y.2<x.2 then 1 else 0
def wS{α:Type}[Inhabited α][DecidableEq α](es:List α)(m:Nat):List α:=((List.range m).filter fun i=>decide (i=0∨jB es i≠jB es (i-1))).map fun i=>jB es i
def dd{α:Type}[Inhabited α][DecidableEq α](es:List α):List α:=wS es es.length
section
variable {α:Type} [Inhabited α] [DecidableEq α]
theorem pZ(es:List α)(m:Nat):wS es (m+1)=wS es m++(if m=0∨jB es m≠jB es (m-1)then[jB es m]else[]):=by
 unfold wS
 rw[eR,fJ,dY]
 congr 1
 by_cases h:m=0∨jB es m≠jB es (m-1)
 ·rw[if_pos h]
  simp only[List.filter_cons,List.filter_nil,decide_eq_true h,if_true,eN,gy]
 ·rw[if_neg h]
  simp only[List.filter_cons,List.filter_nil,decide_eq_false h,eV,if_false,gy]
theorem b8a(es:List α)(m:Nat):(wS es m).length≤m:=by
 unfold wS
 rw[dU]
 refine dZ (fy _ _) ?_
 simp
theorem nJ(es:List α)(m:Nat)(h:m<es.length):es.take (m+1)=es.take m++[jB es m]:=by
 rw[jR es m h,ib h]
theorem rE(es:List α):∀m,m≤es.length→(∀j,0<j→j<m→jB es j≠jB es (j-1))→wS es m=es.take m
 | 0,_,_=>by simp[wS]
 | m+1,hm,h=>by
   have ih:=rE es m (by omega) fun j h1 h2=>h j h1 (by omega)
   rw[pZ,ih,nJ es m (by omega),if_pos]
   by_cases h0:m=0
   ·exact .inl h0
   ·exact .inr (h m (by omega) (by omega))
end
theorem a4p{v:Value}{n lo k b:Nat}(h:kX (lP v n lo k)=some b):kX v=some b:=by
 unfold lP at h
 split at h<;>exact h
theorem mK(a b:List (Int×Int)):pr (a++b)=pr a++pr b:=dV
structure Reg where
 stops:List Nat
 cpl:Nat
 off:Nat
 deriving Inhabited,DecidableEq
def u64(n:Nat):Value:=.int .u64 n
def Reg.cells(r:Reg)(sv:Value):List Value:=[sv,u64 r.cpl,u64 r.off]
def Reg.Ok(r:Reg):Prop:=r.stops.length<1000000000∧(∀x∈r.stops,x<18446744073709551616)∧r.cpl<18446744073709551616∧r.off<18446744073709551616
def Reg.In(H:Heap)(r:Reg)(sv:Value):Prop:=Sl 1 (one u64) H sv r.stops∧r.Ok
theorem Reg.In.ag{P:Program}{H H0:Heap}{os:List Ob}{r:Reg}{sv:Value}(h:r.In H0 sv)(hS:St P H0 H os):r.In H sv:=⟨hS.sl h.1,h.2⟩
abbrev Ct:=Int×Int
abbrev vS(n:Int):Int:=IntKind.wrap .i64 n
def nB(o:Org)(c:Ct):Bool:=decide (0≤c.1)&&decide (c.1<o.dvs.length)&&decide ((jB o.dvs c.1.toNat).lo≤c.2)&&decide (c.2≤(jB o.dvs c.1.toNat).hi)
def b0W(o:Org)(c:Ct):Int:=if c.1<0∨o.dvs.length≤c.1 then 10 else if c.2<(jB o.dvs c.1.toNat).lo∨(jB o.dvs c.1.toNat).hi<c.2 then 23 else 0
def to1(x:Cpl)(c:Ct):Ct:=(x.dst,vS (c.2+x.shift))
def Que(o:Org)(q:List Ct):Prop:=q.Nodup∧∀c∈q,nB o c=true
theorem Que.nil(o:Org):Que o []:=⟨.nil,by simp⟩
theorem a4g:∀(N:Nat)(l:List Nat),l.Nodup→(∀i∈l,i<N)→l.length≤N
 | 0,l,hn,h=>by
   cases l with
   | nil=>simp
   | cons a l=>exact absurd (h a (by simp)) (eu _)
 | N+1,l,hn,h=>by
   have h1:(l.erase N).length≤N:=by
    refine a4g N _ (hn.erase N) fun i hi=> ?_
    have h2:=(List.Nodup.mem_erase_iff hn).1 hi
    have:=h i h2.2
    omega
   rw[List.length_erase]at h1
   split at h1<;>omega
theorem pP{f:Nat→Int}{n:Nat}(h:mX f n=0):∀j,j<n→f j=0:=by
 intro j hj
 unfold mX at h
 cases hf:(List.range n).find? (fun j=>decide (f j≠0))with
 | some i=>
   rw[hf]at h
   have:=iV hf
   simp only[decide_eq_true_eq]at this
   exact absurd h this
 | none=>
   rw[gp]at hf
   have:=hf j (dS.2 hj)
   simpa using this
structure Org.Fine(o:Org):Prop where
 dpos:0<o.dvs.length
 dlen:o.dvs.length≤8
 rlen:o.ranks.length≤60
 keys:∀j,j<o.dvs.length→0≤(jB o.dvs j).lo∧(jB o.dvs j).lo≤(jB o.dvs j).hi∧(jB o.dvs j).hi≤127
 stops:∀j,j<o.dvs.length→(jB o.dvs j).stops.length≤60
 clen:o.cpls.length≤40
 draws:∀j,j<o.dvs.length→∀s∈(jB o.dvs j).stops,∀g∈s.segs,g.draws.length≤8
theorem Org.aK{o:Org}(h:organE o=0):o.Fine:=by
 unfold organE at h
 split at h
 ·omega
 split at h
 ·omega
 rename_i _ h2
 split at h
 ·rename_i hh;exact absurd h hh
 split at h
 ·omega
 rename_i h4
 split at h
 ·omega
 rename_i h5
 split at h
 ·rename_i hh;exact absurd h hh
 rename_i h6
 have h6:=dX.1 h6
 have hd:∀j,j<o.dvs.length→(0≤(jB o.dvs j).lo∧(jB o.dvs j).lo≤(jB o.dvs j).hi∧(jB o.dvs j).hi≤127)∧(jB o.dvs j).stops.length≤60∧∀s∈(jB o.dvs j).stops,∀g∈s.segs,g.draws.length≤8:=by
  intro j hj
  have e:=pP h6 j hj
  unfold vN at e
  split at e
  ·omega
  split at e
  ·omega
  unfold divE at e
  split at e
  ·rename_i hh;exact absurd e hh
  rename_i hc
  have hc:=dX.1 hc
  split at e
  ·omega
  unfold tG at hc
  split at hc
  ·omega
  split at hc
  ·omega
  refine⟨by omega,by omega,fun s hs g hg=> ?_⟩
  obtain⟨k,hk,rfl⟩:=eF.1 hs
  obtain⟨i,hi,rfl⟩:=eF.1 hg
  have e2:=pP e k hk
  unfold pT at e2
  rw[jR _ k hk]at e2
  split at e2
  ·rename_i hh;exact absurd e2 hh
  rename_i e3
  have e3:=dX.1 e3
  unfold stopE at e3
  split at e3
  ·rename_i hh;exact absurd e3 hh
  split at e3
  ·omega
  split at e3
  ·rename_i hh;exact absurd e3 hh
  split at e3
  ·omega
  split at e3
  ·omega
  have e4:=pP e3 i hi
  unfold mD at e4
  rw[jR _ i hi]at e4
  split at e4
  ·omega
  split at e4
  ·omega
  unfold mS at e4
  split at e4
  ·omega
  omega
 refine⟨by omega,by omega,by omega,fun j hj=>(hd j hj).1,fun j hj=>(hd j hj).2.1,?_,fun j hj=>(hd j hj).2.2⟩
 unfold tX at h
 split at h<;>omega
theorem lF(o:Org)(c:Ct):nB o c=true↔0≤c.1∧c.1<o.dvs.length∧(jB o.dvs c.1.toNat).lo≤c.2∧c.2≤(jB o.dvs c.1.toNat).hi:=by
 unfold nB
 simp only[dB,decide_eq_true_eq,and_assoc]
theorem a3n{o:Org}(ho:o.Fine){c:Ct}(h:nB o c=true):0≤c.1∧c.1<8∧0≤c.2∧c.2≤127:=by
 have h:=(lF o c).1 h
 have hk:=ho.keys c.1.toNat (by omega)
 have:=ho.dlen
 omega
theorem Que.len{o:Org}{q:List Ct}(h:Que o q)(ho:o.Fine):q.length≤1024:=by
 have h1:=a4g 1024 (q.map fun c=>c.1.toNat*128+c.2.toNat) ?_ ?_
 ·simpa using h1
 ·unfold List.Nodup
  rw[fS]
  refine List.Pairwise.imp_of_mem (fun{a b}ha hb hne e=>hne ?_) h.1
  have h1:=a3n ho (h.2 a ha)
  have h2:=a3n ho (h.2 b hb)
  apply iJ<;>omega
 ·intro i hi
  obtain⟨c,hc,rfl⟩:=dP.1 hi
  have h1:=a3n ho (h.2 c hc)
  omega
def sA(rs:List Rk)(d:Drw)(key:Int):Ct:=if d.rank<0∨rs.length≤d.rank then(0,0)else(d.rank,vS (vS (key+d.shift)-(jB rs d.rank.toNat).first))
def a2K(rs:List Rk)(d:Drw)(key:Int):Bool:= !decide (d.rank<0∨rs.length≤d.rank)&&decide (0≤(sA rs d key).2)&&decide ((sA rs d key).2<(jB rs d.rank.toNat).wind.length)
def b3p(s:Stp)(key:Int)(j:Nat):Bool:=decide ((jB s.segs j).lo≤key)&&decide (key≤(jB s.segs j).hi)
def b5m(s:Stp)(key:Int):List Drw:=if qS (b3p s key) s.segs.length<0 then[]else(jB s.segs (qS (b3p s key) s.segs.length).toNat).draws
def a2c(rs:List Rk)(s:Stp)(key:Int):List Ct:=dd (srt (((b5m s key).filter fun d=>a2K rs d key).map fun d=>sA rs d key))
end Go.Ds
namespace Go.Ds
open Go.Proofs Go.Proofs.Tryz
variable {H:Heap}
theorem b1x(a b:Nat)(h:a<18446744073709551616):((a:Nat):Int).fdiv (2^min b (IntKind.bits .u64))=((a>>>b:Nat):Int):=by
 have e:IntKind.bits .u64=64:=rfl
 rw[e]
 have h1:((a:Nat):Int).fdiv (2^min b 64)=((a/2^min b 64:Nat):Int):=by
  rw[iK _ (by exact Int.le_of_lt (Int.pow_pos (by decide)))]
  simp
 rw[h1,fF]
 by_cases hb:b≤64
 ·rw[ia hb]
 ·rw[Nat.min_eq_right (by omega)]
  have h2:a/2^64=0:=iq (by simpa using h)
  have h3:a/2^b=0:=iq (eH (by simpa using h) (fY (by decide) (show 64≤b by omega)))
  rw[h2,h3]
theorem b4N(n:Nat)(h:n<18446744073709551616):IntKind.wrap .u64 ((BitVec.ofInt (IntKind.bits .u64) (n:Int)&&&BitVec.ofInt (IntKind.bits .u64) 1).toNat:Int)=((n%2:Nat):Int):=by
 have e:(BitVec.ofInt (IntKind.bits .u64) (n:Int)&&&BitVec.ofInt (IntKind.bits .u64) 1).toNat=n%2:=by
  show(BitVec.ofInt 64 (n:Int)&&&BitVec.ofInt 64 1).toNat=n%2
  rw[gS]
  have h1:(BitVec.ofInt 64 (n:Int)).toNat=n:=by
   rw[gu,iz]
   exact gE (by simpa using h)
  have h2:(BitVec.ofInt 64 1).toNat=1:=rfl
  rw[h1,h2,Nat.and_one_is_mod]
 rw[e]
 have:n%2<2:=fz _ (by decide)
 have hh:n%2=0∨n%2=1:=by omega
 rcases hh with h|h<;>rw[h]<;>rfl
theorem tb(a i:Nat):a.testBit i=decide (a>>>i%2=1):=by
 rw[Nat.testBit_eq_decide_div_mod_eq,fF]
theorem a7j{a:Nat}(b:Nat)(h:a<18446744073709551616):a>>>b<18446744073709551616:=by
 rw[fF]
 exact Nat.lt_of_le_of_lt (Nat.div_le_self _ _) h
theorem c6T(o:Org)(ho:o.In H)(c:Ct):Fn prog 163 [.agg #[.string o.name,o.rv,o.dv,o.cv],.agg #[I c.1,I c.2]] H fun r H'=>r=I (b0W o c)∧St prog H H' []:=by
 have hl:=ho.2.2.2.2.2.2.1
 refine .aE func163 rfl (by kernel_rfl) (m:=36) rfl fun l hn g0 g1=> ?_
 simp(disch:=omega) only[↓RA,RB,simprocAttr,g0]
 refine(sR H).eNew 4 [(.string o.name),o.rv,o.dv,o.cv] rfl rfl (by simp[OC,((sR H).sl ho.1).cells.2.1,((sR H).sl ho.2.2.1).cells.2.1,((sR H).sl ho.2.2.2.2.1).cells.2.1]) zD fun A1 H1 hS1=> ?_
 simp only[RT]at hS1
 simp(disch:=omega) only[↓RA,RB,simprocAttr,g1]
 refine hS1.eNew 2 [I c.1,I c.2] rfl rfl rfl mP fun A2 H2 hS2=> ?_
 simp only[RT]at hS2
 simp(disch:=omega) only[↓RA,RZ,simprocAttr,hn,hS2.ld 1 rfl]
 refine jL (fun h1=> ?_) (fun h1=> ?_)
 ·simp(disch:=omega) only[↓RA,RZ,simprocAttr,hn,a9z,h1]
  exact⟨by rw[b0W,if_pos (by omega)],hS2.forget⟩
 simp(disch:=omega) only[↓RA,RZ,simprocAttr,hn,hS2.ld 1 rfl,hS2.ld 0 rfl,(hS2.sl ho.2.2.1).len,h1]
 refine jA (fun h2=> ?_) (fun h2=> ?_)
 ·simp(disch:=omega) only[↓RA,RZ,simprocAttr,hn,a9z,h1,h2]
  exact⟨by rw[b0W,if_pos (by omega)],hS2.forget⟩
 obtain⟨j,hj⟩:∃j:Nat,c.1=j:=⟨c.1.toNat,by omega⟩
 have hc:b0W o c=if c.2<(jB o.dvs j).lo∨(jB o.dvs j).hi<c.2 then 23 else 0:=by
  rw[b0W,if_neg (by omega),hj]
  rfl
 rw[hj]at h1 h2
 simp(disch:=omega) only[↓RA,RZ,simprocAttr,hn,hS2.ld 0 rfl,h1,h2,hj]
 simp(disch:=omega) only[↓RA,RZ,simprocAttr,hn,hS2.ld 1 rfl,(hS2.sl ho.2.2.1).idx,(hS2.sl ho.2.2.1).aZ,(hS2.sl ho.2.2.1).cK 2,Dvn.cells,h1,h2,hj]
 refine hS2.eNew 2 [I 0,I 0] rfl rfl rfl rZ fun A3 H3 hS3=> ?_
 simp only[RT]at hS3
 simp(disch:=omega) only[↓RA,RZ,simprocAttr,hn,h1,h2,hj]
 refine hS3.aa 2 rfl [I (jB o.dvs j).lo,I (jB o.dvs j).hi] rfl rfl rZ (by simp) fun H4 hS4=> ?_
 simp only[RT]at hS4
 simp(disch:=omega) only[↓RA,RZ,simprocAttr,hn,hS4.ld 1 rfl,hS4.ld 2 rfl,h1,h2,hj]
 refine jL (fun h3=> ?_) (fun h3=> ?_)
 ·simp(disch:=omega) only[↓RA,RZ,simprocAttr,hn,a9z,h1,h2,hj,h3]
  exact⟨by rw[hc,if_pos (by omega)],hS4.forget⟩
 simp(disch:=omega) only[↓RA,RZ,simprocAttr,hn,hS4.ld 1 rfl,hS4.ld 2 rfl,h1,h2,hj,h3]
 refine jA (fun h4=> ?_) (fun h4=> ?_)
 ·simp(disch:=omega) only[↓RA,RZ,simprocAttr,hn,a9z,h1,h2,hj,h3,h4]
  exact⟨by rw[hc,if_pos (by omega)],hS4.forget⟩
 simp(disch:=omega) only[↓RA,RZ,simprocAttr,hn,a9z,h1,h2,hj,h3,h4]
 exact⟨by rw[hc,if_neg (by omega)],hS4.forget⟩
def uH(o:Org)(r:Reg):Int:=if organE o≠0 then organE o else if r.stops.length≠o.dvs.length then 5 else if ∃j,j<o.dvs.length∧jB r.stops j>>>(jB o.dvs j).stops.length≠0 then 3 else if r.cpl>>>o.cpls.length≠0∨r.off>>>o.dvs.length≠0 then 3 else 0
theorem c7e(o:Org)(ho:o.In H)(r:Reg)(sv:Value)(hr:r.In H sv):Fn prog 48 [.agg #[.string o.name,o.rv,o.dv,o.cv],.agg #[sv,.int .u64 r.cpl,.int .u64 r.off]] H fun v H'=>v=I (uH o r)∧St prog H H' []:=by
 have hl:=ho.2.2.2.2.2.2.1
 have hlc:=ho.2.2.2.2.2.2.2
 obtain⟨hr1,hr2,hr3,hr4,hr5⟩:=hr
 refine .aE func48 rfl (by kernel_rfl) (m:=55) rfl fun l hn g0 g1=> ?_
 simp(disch:=omega) only[↓RA,RB,simprocAttr,g0]
 refine(sR H).eNew 4 [(.string o.name),o.rv,o.dv,o.cv] rfl rfl (by simp[OC,((sR H).sl ho.1).cells.2.1,((sR H).sl ho.2.2.1).cells.2.1,((sR H).sl ho.2.2.2.2.1).cells.2.1]) zD fun A1 H1 hS1=> ?_
 simp only[RT]at hS1
 simp(disch:=omega) only[↓RA,RB,simprocAttr,g1]
 refine hS1.eNew 3 [sv,(.int .u64 r.cpl),(.int .u64 r.off)] rfl rfl (by simp[OC,(hS1.sl hr1).cells.2.1]) tT fun A2 H2 hS2=> ?_
 simp only[RT]at hS2
 simp(disch:=omega) only[↓RA,RZ,simprocAttr,hn,hS2.ae 0 rfl]
 refine hS2.cF (b0z o (ho.ag hS2)) fun H3 hS3=> ?_
 simp(disch:=omega) only[↓RA,RB,simprocAttr,hn]
 refine jA (fun h1=> ?_) (fun h1=> ?_)
 ·simp(disch:=omega) only[↓RA,RZ,simprocAttr,hn,b5O,h1]
  exact⟨by rw[uH,if_pos h1],hS3.forget⟩
 simp(disch:=omega) only[↓RA,RZ,simprocAttr,hn,hS3.ld 1 rfl,(hS3.sl hr1).len,hS3.ld 0 rfl,(hS3.sl ho.2.2.1).len,h1]
 refine jA (fun h2=> ?_) (fun h2=> ?_)
 ·simp(disch:=omega) only[↓RA,RZ,simprocAttr,hn,b5O,h1,h2]
  exact⟨by rw[uH,if_neg h1,if_pos (by omega)],hS3.forget⟩
 simp(disch:=omega) only[↓RA,RZ,simprocAttr,hn,hS3.ld 0 rfl,(hS3.sl ho.2.2.1).len,h1,h2]
 have hE:uH o r=if ∃j,j<o.dvs.length∧jB r.stops j>>>(jB o.dvs j).stops.length≠0 then 3 else if r.cpl>>>o.cpls.length≠0∨r.off>>>o.dvs.length≠0 then 3 else 0:=by rw[uH,if_neg h1,if_neg (by omega)]
 refine Wp.ak (fun n l H'=>l.length=55∧get l 2=(ptr A1 0 4)∧get l 3=(ptr A2 0 3)∧get l 21=o.dv∧get l 22=I o.dvs.length∧∃(j:Nat),(n+j=o.dvs.length∧∀q,q<j→jB r.stops q>>>(jB o.dvs q).stops.length=0)∧get l 23=I j∧St prog H H' [⟨ptr A1 0 4,0,[(.string o.name),o.rv,o.dv,o.cv]⟩,⟨ptr A2 0 3,0,[sv,(.int .u64 r.cpl),(.int .u64 r.off)]⟩]) o.dvs.length ?_ ?_
 ·simp(disch:=omega) only[RB,RC,simprocAttr,hn]
  exact⟨0,⟨by omega,fun q hq=>absurd hq (eu _)⟩,rfl,hS3⟩
 rintro n l H4⟨hn,g2,g3,g21,g22,j,⟨hj,hz⟩,g23,hS4⟩
 have e1:=b1x r.cpl o.cpls.length hr4
 have e2:=b1x r.off o.dvs.length hr5
 simp(disch:=omega) only[↓RA,RB,simprocAttr,hn,g22,g23]
 refine jA (fun q1=> ?_) (fun q1=> ?_)
 ·have hst:=(ho.2.2.2.1 _ (jE (xs:=o.dvs) (j:=j) (by omega))).2.2
  have e3:=b1x (jB r.stops j) (jB o.dvs j).stops.length (hr3 _ (jE (by omega)))
  simp(disch:=omega) only[↓RA,RZ,simprocAttr,hn,g21,g23,(hS4.sl ho.2.2.1).idx,(hS4.sl ho.2.2.1).ae,Dvn.cells,q1]
  refine hS4.eNew 5 [(.string ⟨#[]⟩),(.bool false),I 0,I 0,(.slice none 0 0)] rfl rfl rfl sB fun A3 H5 hS5=> ?_
  simp only[RT]at hS5
  simp(disch:=omega) only[↓RA,RZ,simprocAttr,hn,q1]
  refine hS5.aa 2 rfl [(.string (jB o.dvs j).name),(.bool (jB o.dvs j).pedal),I (jB o.dvs j).lo,I (jB o.dvs j).hi,(jB o.dvs j).sv] rfl (by simp[OC,(hS5.sl (ho.2.2.2.1 (jB o.dvs j) (jE (by omega))).1).cells.2.1]) sB (by simp) fun H6 hS6=> ?_
  simp only[RT]at hS6
  simp(disch:=omega) only[↓RA,RZ,simprocAttr,q1]
  refine Wp.drw kQ (by kernel_rfl) ?_
  simp(disch:=omega) only[↓RA,RZ,simprocAttr,hn,g3,hS6.ld 1 rfl,(hS6.sl hr1).idx,(hS6.sl hr1).ld,one,u64,hS6.ld 2 rfl,(hS6.sl (ho.2.2.2.1 (jB o.dvs j) (jE (by omega))).1).len,e3]
  refine jA (fun q2=> ?_) (fun q2=> ?_)
  ·simp(disch:=omega) only[↓RA,RZ,simprocAttr,hn,b5O,q2]
   exact⟨by rw[hE,if_pos ⟨j,by omega,by omega⟩],hS6.forget⟩
  simp(disch:=omega) only[↓RA,RZ,simprocAttr,hn,g2,g3,g21,g22,g23,q2]
  exact⟨n-1,by omega,j+1,⟨by omega,fun q hq=>by rcases dK.1 hq with e|e;(· exact hz q e);(· rw[e];omega)⟩,by simp,hS6.sub (by simp)⟩
 simp(disch:=omega) only[↓RA,RZ,simprocAttr,hn,g2,g3,hS4.ld 1 rfl,hS4.ld 0 rfl,(hS4.sl ho.2.2.2.2.1).len,q1,e1]
 have hno:¬∃j,j<o.dvs.length∧jB r.stops j>>>(jB o.dvs j).stops.length≠0:=by
  rintro⟨q,hq,hne⟩
  exact hne (hz q (by omega))
 rw[if_neg hno]at hE
 clear hno
 refine jL (fun q3=> ?_) (fun q3=> ?_)
 ·simp(disch:=omega) only[↓RA,RZ,simprocAttr,hn,b5O,q1,q3]
  exact⟨by rw[hE,if_pos (by omega)],hS4.forget⟩
 simp(disch:=omega) only[↓RA,RZ,simprocAttr,hn,g2,g3,hS4.ld 1 rfl,hS4.ld 0 rfl,(hS4.sl ho.2.2.1).len,q1,e2,q3]
 refine jA (fun q4=> ?_) (fun q4=> ?_)
 ·simp(disch:=omega) only[↓RA,RZ,simprocAttr,hn,b5O,q1,q3,q4]
  exact⟨by rw[hE,if_pos (by omega)],hS4.forget⟩
 simp(disch:=omega) only[↓RA,RZ,simprocAttr,hn,b5O,q1,q3,q4]
 exact⟨by rw[hE,if_neg (by omega)],hS4.forget⟩
def qX(o:Org)(b:Nat→Nat):Reg:=⟨(List.range o.dvs.length).map fun i=>b (i%3)%2^(jB o.dvs i).stops.length,b 3%2^o.cpls.length,b 4%2^o.dvs.length⟩
theorem xF(n:Nat)(h:n<18446744073709551616):(BitVec.ofInt (IntKind.bits .u64) (n:Int)).toNat=n:=by
 show(BitVec.ofInt 64 (n:Int)).toNat=n
 rw[gu,iz]
 exact gE (by simpa using h)
theorem b9k(b n:Nat)(h:n≤8)(hb:b<256):IntKind.wrap .u64 ((BitVec.ofInt (IntKind.bits .u64) (b:Int)&&&BitVec.ofInt (IntKind.bits .u64) (IntKind.wrap .u64 (IntKind.wrap .u64 (1*2^min n (IntKind.bits .u64))-1))).toNat:Int)=((b%2^n:Nat):Int):=by
 have key:IntKind.wrap .u64 (IntKind.wrap .u64 (1*2^min n (IntKind.bits .u64))-1)=((2^n-1:Nat):Int):=by
  have:n=0∨n=1∨n=2∨n=3∨n=4∨n=5∨n=6∨n=7∨n=8:=by omega
  rcases this with rfl|rfl|rfl|rfl|rfl|rfl|rfl|rfl|rfl<;>rfl
 have hp:2^n≤2^8:=fY (by decide) h
 have e8:2^8=256:=rfl
 rw[key,gS,xF b (by omega),xF _ (by omega),Nat.and_two_pow_sub_one_eq_mod]
 have:b%2^n≤b:=Nat.mod_le _ _
 exact qC _ (by omega) (by omega)
theorem b6g{o:Org}(b:Nat→Nat)(ho:organE o=0):uH o (qX o b)=0:=by
 have hz:∀x n:Nat,(x%2^n)>>>n=0:=fun x n=>by
  rw[fF]
  exact iq (fz _ (Nat.two_pow_pos n))
 unfold uH qX
 rw[if_neg (by rw[ho];simp),if_neg (by simp),if_neg,if_neg (by simp only[hz];simp)]
 rintro⟨j,hj,hne⟩
 simp only at hne
 rw[jR _ j (by simpa using hj)]at hne
 simp only[jm,iA,hz,ne_eq,not_true_eq_false]at hne
theorem b1q(o:Org)(ho:o.In H)(h1:o.cpls.length≤3)(h2:o.dvs.length≤3)(h3:∀j,j<o.dvs.length→(jB o.dvs j).stops.length≤3)(b:Nat→Nat)(hb:∀i,b i<256):
 Fn prog 16 [.agg #[.string o.name,o.rv,o.dv,o.cv],.agg #[.int .u8 (b 0),.int .u8 (b 1),.int .u8 (b 2),.int .u8 (b 3),.int .u8 (b 4)]] H fun r H'=>
  ∃sv,r=.agg #[sv,.int .u64 (qX o b).cpl,.int .u64 (qX o b).off]∧St prog H H' [⟨sv,1,((qX o b).stops).flatMap (one u64)⟩]:=by
 have k0:=hb 0
 have k1:=hb 1
 have k2:=hb 2
 have k3:=hb 3
 have k4:=hb 4
 refine .aE func16 rfl (by kernel_rfl) (m:=57) rfl fun l hn g0 g1=> ?_
 simp(disch:=omega) only[↓RA,RB,simprocAttr,g0]
 refine(sR H).eNew 4 [(.string o.name),o.rv,o.dv,o.cv] rfl rfl (by simp[OC,((sR H).sl ho.1).cells.2.1,((sR H).sl ho.2.2.1).cells.2.1,((sR H).sl ho.2.2.2.2.1).cells.2.1]) zD fun A1 H1 hS1=> ?_
 simp only[RT]at hS1
 simp(disch:=omega) only[↓RA,RB,simprocAttr,g1]
 refine hS1.eNew 5 [(.int .u8 (b 0)),(.int .u8 (b 1)),(.int .u8 (b 2)),(.int .u8 (b 3)),(.int .u8 (b 4))] rfl rfl rfl c9j fun A2 H2 hS2=> ?_
 simp only[RT]at hS2
 simp(disch:=omega) only[↓RA,RZ,simprocAttr]
 refine hS2.eNew 3 [(.slice none 0 0),(.int .u64 0),(.int .u64 0)] rfl rfl rfl tT fun A3 H3 hS3=> ?_
 simp only[RT]at hS3
 simp(disch:=omega) only[↓RA,RZ,simprocAttr,hn,hS3.ld 1 rfl,hS3.ld 0 rfl,(hS3.sl ho.2.2.2.2.1).len,(hS3.sl ho.2.2.1).len,b9V]
 refine hS3.eNew 3 [(.slice none 0 0),(.int .u64 0),(.int .u64 0)] rfl rfl rfl tT fun A4 H4 hS4=> ?_
 simp only[RT]at hS4
 simp(disch:=omega) only[↓RA,RB,simprocAttr,hn]
 refine hS4.aa 3 rfl [(.slice none 0 0),_,_] rfl rfl tT (by simp) fun H5 hS5=> ?_
 simp only[RT]at hS5
 simp(disch:=omega) only[↓RA,RB,simprocAttr]
 have m1:=b9k (b 3) o.cpls.length (by omega) (hb 3)
 have m2:=b9k (b 4) o.dvs.length (by omega) (hb 4)
 have hS6:=hS5.nil 0
 simp only[RT]at hS6
 simp only[m1,m2]at hS6
 refine Wp.ak (fun n l H'=>l.length=57∧get l 2=(ptr A1 0 4)∧get l 3=(ptr A2 0 5)∧get l 4=(ptr A3 0 3)∧get l 5=(ptr A4 0 3)∧∃(i:Nat)(sv:Value),(n+i=o.dvs.length)∧get l 6=I i∧St prog H H' [⟨ptr A1 0 4,0,[(.string o.name),o.rv,o.dv,o.cv]⟩,⟨ptr A2 0 5,0,[(.int .u8 (b 0)),(.int .u8 (b 1)),(.int .u8 (b 2)),(.int .u8 (b 3)),(.int .u8 (b 4))]⟩,⟨ptr A3 0 3,0,[(.slice none 0 0),(.int .u64 0),(.int .u64 0)]⟩,⟨ptr A4 0 3,0,[sv,.int .u64 (b 3%2^o.cpls.length:Nat),.int .u64 (b 4%2^o.dvs.length:Nat)]⟩,⟨sv,1,((List.range i).map fun i=>b (i%3)%2^(jB o.dvs i).stops.length).flatMap (one u64)⟩]) o.dvs.length ?_ ?_
 ·simp(disch:=omega) only[RB,RC,simprocAttr,hn]
  exact⟨0,_,by omega,rfl,hS6⟩
 rintro n l H6⟨hn,g2,g3,g4,g5,i,sv,hi,g6,hS7⟩
 simp(disch:=omega) only[↓RA,RZ,simprocAttr,hn,g2,g6,hS7.ld 0 rfl,(hS7.sl ho.2.2.1).len]
 refine jA (fun q=> ?_) (fun q=> ?_)
 ·have hi3:(i:Int).tmod 3=((i%3:Nat):Int):=(fq i 3).symm
  have hw:([Value.int .u8 (b 0),.int .u8 (b 1),.int .u8 (b 2),.int .u8 (b 3),.int .u8 (b 4)]:List Value)[i%3]? =some (.int .u8 (b (i%3))):=by
   have:i%3=0∨i%3=1∨i%3=2:=by omega
   rcases this with e|e|e<;>rw[e]<;>rfl
  have hst:=h3 i (by omega)
  have hbi:=hb (i%3)
  have m3:=b9k (b (i%3)) (jB o.dvs i).stops.length (by omega) (hb _)
  simp(disch:=omega) only[↓RA,RC,simprocAttr,q]
  refine Wp.aJ kQ [(1,19)] (by kernel_rfl) (by kernel_rfl) ?_
  simp(disch:=omega) only[↓RA,RZ,simprocAttr,hn,g2,g3,g5,g6,hS7.ld 3 rfl,hS7.ld 1 rfl,hw,hS7.ld 0 rfl,(hS7.sl ho.2.2.1).idx,(hS7.sl ho.2.2.1).aZ,(hS7.sl ho.2.2.1).ld,Dvn.cells,(hS7.sl (ho.2.2.2.1 (jB o.dvs i) (jE (by omega))).1).len,hi3,m3]
  refine hS7.aj [_] b8l c8S rfl rfl (by simp[Value.cells]) rfl rfl (by decide) (by decide) fun w1 H7 hS8=> ?_
  simp only[RT]at hS8
  simp(disch:=omega) only[↓RA,RZ,simprocAttr,hn]
  refine hS8.aq 4 rfl (hS8.rd 5 rfl) b8l (by rw[jJ (n:=1) (cel:=one u64) (fun _=>rfl)];simp;omega) fun w2 H8 hS9=> ?_
  simp only[RT]at hS9
  simp(disch:=omega) only[↓RA,RZ,simprocAttr,hn,g5]
  refine hS9.aa 3 rfl [w2] (by rw[(hS9.rd 4 rfl).cells.1]) (by simp[(hS9.rd 4 rfl).cells.2.1]) c7f (by simp) fun H9 hS10=> ?_
  simp only[RT]at hS10
  simp(disch:=omega) only[↓RA,RZ,simprocAttr,hn,g2,g3,g4,g5,g6,hS8.ld 3 rfl]
  refine⟨n-1,by omega,i+1,w2,by omega,rfl,?_⟩
  rw[eR,dY,dV]
  exact hS10.pick [0,1,2,3,4] (by decide) rfl
 simp(disch:=omega) only[↓RA,RZ,simprocAttr,hn,g4,g5,hS7.ae 3 rfl,q]
 refine hS7.aa 2 rfl [sv,(.int .u64 (b 3%2^o.cpls.length:Nat)),(.int .u64 (b 4%2^o.dvs.length:Nat))] rfl (by simp[OC,(hS7.rd 4 rfl).cells.2.1]) tT (by simp) fun H10 hS11=> ?_
 simp only[RT]at hS11
 simp(disch:=omega) only[↓RA,RZ,simprocAttr,g4,d1P,hS11.ae 2 rfl,q]
 have hii:i=o.dvs.length:=by omega
 subst hii
 exact⟨sv,rfl,hS11.pick [4] (by decide) rfl⟩
end Go.Ds
namespace Go.Ds
open Go.Proofs Go.Proofs.Tryz
variable {H:Heap}
set_option maxRecDepth 10000
theorem RdAt.sub_self{v:Value}{size n:Nat}{cs:List Value}(h:RdAt H v (size+1) cs)(hn:cs.length=n*(size+1)):lP v (size+1) 0 n=v:=by
 rcases h with⟨rfl,_⟩|⟨A,i,e,row,ty,rw,lo,ver,m,_,_,_,_,_,h6,rfl⟩
 ·rfl
 ·have:m=n:=fD (fM size) (h6.symm.trans hn)
  subst this
  simp[lP]
theorem a8e{v:Value}{xs:List (Int×Int)}{rest:List Value}(h:RdAt H v 2 (pr xs++rest)):RdAt H (lP v 2 0 xs.length) 2 (pr xs):=by
 by_cases h0:pr xs++rest=[]
 ·have hx:xs.length=0:=by
   have:=congrArg List.length h0
   rw[dM,jN,eT]at this
   omega
  have e:=RdAt.sub_self (size:=1) (n:=0) h (by rw[h0];rfl)
  obtain rfl:=eG.1 hx
  show RdAt H (lP v 2 0 0) 2 []
  rw[show lP v 2 0 0=v from e]
  rwa [h0]at h
 ·have h5:=RdAt.sub h 0 xs.length (by rw[dM,jN];omega) h0
  rw[Nat.zero_mul,jg,show xs.length*2=(pr xs).length from(jN xs).symm,List.take_left' rfl]at h5
  exact h5
theorem c6q:a9l prog 140=some (1+1):=by kernel_rfl
theorem c9F:a9l prog 97=some (1+1):=by kernel_rfl
theorem a6L{B:Base}{v:Value}{es:List (Int×Int)}(hS:St prog B H [⟨v,2,pr es⟩])(hl:es.length<100000000000):
 Fn prog 166 [v] H fun r H'=>∃rest:List Value,r=lP v 2 0 (dd es).length∧St prog B H' [⟨v,2,pr (dd es)++rest⟩]:=by
 refine .aN func166 rfl (by kernel_rfl) (m:=61) rfl fun l hn g0=> ?_
 simp(disch:=omega) only[↓RA,RZ,simprocAttr,hn,g0,(hS.az 0 rfl (fun _=>rfl)).len]
 refine jA (fun h=> ?_) (fun h=> ?_)
 ·have hd:=rE es es.length (dG _) fun j h1 h2=>by omega
  rw[eS]at hd
  simp(disch:=omega) only[↓RA,RZ,simprocAttr,hn,g0,b8D,h]
  exact⟨[],by unfold dd;rw[hd];exact(RdAt.sub_self (size:=1) (hS.rd 0 rfl) (jN es)).symm,by unfold dd;rw[hd,dO];exact hS⟩
 simp(disch:=omega) only[↓RA,RZ,simprocAttr,h]
 refine Wp.ak (fun n l H'=>l.length=61∧get l 0=v∧∃(k:Nat),(0<k∧n+k=es.length∧∀j,0<j→j<k→jB es j≠jB es (j-1))∧get l 3=I k∧St prog B H' [⟨v,2,pr es⟩]) (es.length-1) ?_ ?_
 ·simp(disch:=omega) only[RB,RC,simprocAttr,hn,g0]
  exact⟨1,⟨by omega,by omega,fun j h1 h2=>by omega⟩,rfl,hS⟩
 rintro n l H1⟨hn,g0,k,⟨hk0,hk,hdis⟩,g3,hS1⟩
 simp(disch:=omega) only[↓RA,RZ,simprocAttr,hn,g0,g3,(hS1.az 0 rfl (fun _=>rfl)).len]
 refine jA (fun h2=> ?_) (fun h2=> ?_)
 ·have hkl:k<es.length:=by omega
  have hpre:(k:Int)-1=((k-1:Nat):Int):=by omega
  simp(disch:=omega) only[↓RA,RC,simprocAttr,h2]
  refine Wp.drw kQ (by kernel_rfl) ?_
  simp(disch:=omega) only[↓RA,RZ,simprocAttr,hn,g0,g3,(hS1.az 0 rfl (fun _=>rfl)).idx,(hS1.az 0 rfl (fun _=>rfl)).ae,mJ,hpre]
  refine jA (fun h3=> ?_) (fun h3=> ?_)
  ·have h3:jB es k=jB es (k-1):=iJ h3.1 h3.2
   have hlen:(pr es).length=es.length*(1+1):=jN es
   have hpos:0<es.length:=by omega
   have hdk:=rE es k (by omega) hdis
   have hdk1:wS es (k+1)=es.take k:=by rw[pZ,hdk,if_neg (by rintro(h4|h4);omega;exact h4 h3),dO]
   have hrow:St prog B H1 [⟨v,2,pr (wS es (k+1)++es.drop k)⟩]:=by rw[hdk1,fR];exact hS1
   have hdl:(wS es (k+1)).length=k:=by rw[hdk1,fQ];omega
   simp(disch:=omega) only[↓RA,RZ,simprocAttr,hn,g0,g3,(hS1.az 0 rfl (fun _=>rfl)).aF,h3]
   refine Wp.ak (fun n l H'=>l.length=61∧get l 0=v∧∃k2:Nat,(0<k2∧n+k+k2=es.length∧(wS es (k+k2)).length<k+k2)∧get l 3=I (wS es (k+k2)).length∧get l 4=lP v 2 k (es.length-k)∧get l 5=I k2∧St prog B H' [⟨v,2,pr (wS es (k+k2)++es.drop (wS es (k+k2)).length)⟩]) (es.length-k-1) ?_ ?_
   ·simp(disch:=omega) only[RB,RC,simprocAttr,hn,g0,g3]
    refine⟨1,⟨by omega,by omega,by omega⟩,by rw[hdl],by congr 1;omega,rfl,?_⟩
    rw[hdl]
    exact hrow
   clear hrow hdk hdk1 hdl hdis
   rintro n l H9⟨hn,g0,k2,⟨hk20,hk2,hlt⟩,g3,g4,g5,hS9⟩
   have hsucc:=pZ es (k+k2)
   generalize hD:wS es (k+k2)=D at g3 hlt hS9 hsucc
   have hrl:(D++es.drop D.length).length=es.length:=by rw[dM,fo];omega
   have hv:Sl 2 mJ H9 v (D++es.drop D.length):=hS9.az 0 rfl lG
   have hat:∀j,D.length≤j→jB (D++es.drop D.length) j=jB es j:=fun j hj=>by
    unfold jB
    rw[dE,eI hj,ed,dE]
    congr 2;omega
   have hsub:Sl 2 mJ H9 (lP v 2 k ((D++es.drop D.length).length-k)) ((D++es.drop D.length).drop k):=hv.cg k (by omega) (by omega)
   rw[hrl]at hsub
   have hsl:((D++es.drop D.length).drop k).length=es.length-k:=by rw[fo,hrl]
   have hsat:∀j,D.length≤k+j→jB ((D++es.drop D.length).drop k) j=jB es (k+j):=fun j hj=>by
    rw[←hat (k+j) hj]
    unfold jB
    rw[dE,ed,dE]
   have hbd:((es.length-k:Nat):Int)=(es.length:Int)-k:=by omega
   simp(disch:=omega) only[↓RA,RZ,simprocAttr,hn,g4,g5,hsub.len,hsl,hbd]
   refine jA (fun h4=> ?_) (fun h4=> ?_)
   ·have hj:k+k2<es.length:=by omega
    have hpre2:(k2:Int)-1=((k2-1:Nat):Int):=by omega
    have e1:=hsat k2 (by omega)
    have e2:=hsat (k2-1) (by omega)
    rw[show k+(k2-1)=k+k2-1 from by omega]at e2
    simp(disch:=omega) only[↓RA,RC,simprocAttr,h4]
    refine Wp.drw kQ (by kernel_rfl) ?_
    simp(disch:=omega) only[↓RA,RZ,simprocAttr,hn,g4,g5,hsub.idx,hsub.ae,mJ,hpre2,e1,e2]
    refine jA (fun h5=> ?_) (fun h5=> ?_)
    ·have hne:jB es (k+k2)≠jB es (k+k2-1):=fun e=>h5 (by rw[e];exact⟨rfl,rfl⟩)
     rw[if_pos (.inr hne)]at hsucc
     simp(disch:=omega) only[↓RA,RZ,simprocAttr,hn,g0,g3,g4,g5,hsub.idx,hsub.ae,mJ,e1,h5]
     simp(disch:=omega) only[↓RA,RZ,simprocAttr,hn,(hS9.az 0 rfl (fun _=>rfl)).idx,h5]
     refine hS9.ba 0 rfl [I (jB es (k+k2)).1,I (jB es (k+k2)).2] rfl rfl mP (by simp) (by rw[jN,hrl];simp;omega) fun H2 hS2=> ?_
     simp only[RT]at hS2
     simp(disch:=omega) only[↓RA,RZ,simprocAttr,hn,g0,g3,g4,g5,h5]
     refine⟨n-1,by omega,k2+1,?_⟩
     rw[show k+(k2+1)=k+k2+1 from by omega,hsucc]
     refine⟨⟨by omega,by omega,by simp;omega⟩,by simp,by simp,?_⟩
     have e3:pr (D++[jB es (k+k2)]++es.drop (D++[jB es (k+k2)]).length)=((pr (D++es.drop D.length)).set (D.length*2) (I (jB es (k+k2)).1)).set (D.length*2+1) (I (jB es (k+k2)).2):=by
      have hx:es.drop D.length=jB es D.length::es.drop (D.length+1):=by
       rw[jR es _ (by omega)]
       exact ga (by omega)
      rw[hx,dM,List.length_singleton,mK,mK,mK]
      have e4:pr (jB es D.length::es.drop (D.length+1))=I (jB es D.length).1::I (jB es D.length).2::pr (es.drop (D.length+1)):=rfl
      have e5:pr [jB es (k+k2)]=[I (jB es (k+k2)).1,I (jB es (k+k2)).2]:=rfl
      have e6:(pr D).length=D.length*2:=jN D
      rw[e4,e5,fL _ _ (by omega),fL _ _ (by omega),e6,jf,fE]
      simp
     rw[e3]
     exact hS2
    have heq:jB es (k+k2)=jB es (k+k2-1):=by
     have h6:=dX.1 h5
     exact iJ h6.1 h6.2
    rw[if_neg (by rintro(h6|h6);omega;exact h6 heq),dO]at hsucc
    simp(disch:=omega) only[↓RA,RZ,simprocAttr,hn,g0,g3,g4,g5,h5]
    refine⟨n-1,by omega,k2+1,?_⟩
    rw[show k+(k2+1)=k+k2+1 from by omega,hsucc]
    exact⟨⟨by omega,by omega,by omega⟩,rfl,by simp,hS9⟩
   have hke:k+k2=es.length:=by omega
   rw[hke]at hD
   have hcl:(pr (D++es.drop D.length)).length=es.length*(1+1):=by rw[jN,hrl]
   have hDn:D.length≤es.length:=by omega
   simp(disch:=omega) only[↓RA,RZ,simprocAttr,hn,g0,g3,(hS9.az 0 rfl (fun _=>rfl)).aF,h4]
   rw[show(((D++es.drop D.length).length:Int)-D.length).toNat=es.length-D.length from by rw[hrl];omega]
   refine hS9.bH (size:=1) 0 rfl D.length (es.length-D.length) (by rw[hcl];omega) (by
    intro e
    have h2:(pr (D++es.drop D.length)).length=0:=by rw[e];rfl
    rw[jN,hrl]at h2;omega) c6q fun z H3 hz hSc=> ?_
   simp only[RT]at hSc
   have e3:kD (pr (D++es.drop D.length)) (D.length*2) z=pr D++z:=by
    rw[mK,show D.length*2=(pr D).length from(jN D).symm,nG z (pr D) (pr (es.drop D.length)) (by rw[jN,fo];omega)]
    rw[iB (by rw[jN,fo];omega),dO]
   rw[show D.length*(1+1)=D.length*2 from rfl,e3]at hSc
   have hw:RdAt H3 v (1+1) (pr D++z):=hSc.rd 0 rfl
   have hwl:(pr D++z).length=es.length*(1+1):=by rw[dM,jN,hz];omega
   simp(disch:=omega) only[↓RA,RZ,simprocAttr,hn,g0,g3,hw.aS hwl,b8D,h4]
   exact⟨z,by unfold dd;rw[hD],by unfold dd;rw[hD];exact hSc⟩
  have hne:jB es k≠jB es (k-1):=fun e=>h3 (by rw[e];exact⟨rfl,rfl⟩)
  simp(disch:=omega) only[↓RA,RZ,simprocAttr,hn,g0,g3,h3]
  refine⟨n-1,by omega,k+1,⟨by omega,by omega,fun j h4 h5=> ?_⟩,by simp,hS1⟩
  by_cases e:j=k
  ·rw[e];exact hne
  ·exact hdis j h4 (by omega)
 have hke:k=es.length:=by omega
 have hd:=rE es es.length (dG _) (hke▸hdis)
 rw[eS]at hd
 simp(disch:=omega) only[↓RA,RZ,simprocAttr,hn,g0,b8D,h2]
 exact⟨[],by unfold dd;rw[hd];exact(RdAt.sub_self (size:=1) (hS.rd 0 rfl) (jN es)).symm,by unfold dd;rw[hd,dO];exact hS1⟩
theorem c5r{B:Base}{v:Value}{es:List (Int×Int)}(hS:St prog B H [⟨v,2,pr es⟩])(hl:es.length<100000000000):
 Fn prog 166 [v] H fun r H'=>∃rest:List Value,(∀b,kX r=some b→kX v=some b)∧(∀H2,RdAt H2 v 2 (pr (dd es)++rest)→RdAt H2 r 2 (pr (dd es)))∧St prog B H' [⟨v,2,pr (dd es)++rest⟩]:=
 (a6L hS hl).mono fun _ _⟨rest,e,h⟩=>⟨rest,fun _ h=>a4p (e▸h),fun _ h=>e▸a8e h,h⟩
theorem a6Q{B:Base}{v:Value}{es:List (Int×Int)}(hS:St prog B H [⟨v,2,pr es⟩])(hl:es.length<100000000000):
 Fn prog 161 [v] H fun r H'=>∃rest:List Value,r=lP v 2 0 (dd es).length∧St prog B H' [⟨v,2,pr (dd es)++rest⟩]:=by
 refine .aN func161 rfl (by kernel_rfl) (m:=61) rfl fun l hn g0=> ?_
 simp(disch:=omega) only[↓RA,RZ,simprocAttr,hn,g0,(hS.az 0 rfl (fun _=>rfl)).len]
 refine jA (fun h=> ?_) (fun h=> ?_)
 ·have hd:=rE es es.length (dG _) fun j h1 h2=>by omega
  rw[eS]at hd
  simp(disch:=omega) only[↓RA,RZ,simprocAttr,hn,g0,b7X,h]
  exact⟨[],by unfold dd;rw[hd];exact(RdAt.sub_self (size:=1) (hS.rd 0 rfl) (jN es)).symm,by unfold dd;rw[hd,dO];exact hS⟩
 simp(disch:=omega) only[↓RA,RZ,simprocAttr,h]
 refine Wp.ak (fun n l H'=>l.length=61∧get l 0=v∧∃(k:Nat),(0<k∧n+k=es.length∧∀j,0<j→j<k→jB es j≠jB es (j-1))∧get l 3=I k∧St prog B H' [⟨v,2,pr es⟩]) (es.length-1) ?_ ?_
 ·simp(disch:=omega) only[RB,RC,simprocAttr,hn,g0]
  exact⟨1,⟨by omega,by omega,fun j h1 h2=>by omega⟩,rfl,hS⟩
 rintro n l H1⟨hn,g0,k,⟨hk0,hk,hdis⟩,g3,hS1⟩
 simp(disch:=omega) only[↓RA,RZ,simprocAttr,hn,g0,g3,(hS1.az 0 rfl (fun _=>rfl)).len]
 refine jA (fun h2=> ?_) (fun h2=> ?_)
 ·have hkl:k<es.length:=by omega
  have hpre:(k:Int)-1=((k-1:Nat):Int):=by omega
  simp(disch:=omega) only[↓RA,RC,simprocAttr,h2]
  refine Wp.drw kQ (by kernel_rfl) ?_
  simp(disch:=omega) only[↓RA,RZ,simprocAttr,hn,g0,g3,(hS1.az 0 rfl (fun _=>rfl)).idx,(hS1.az 0 rfl (fun _=>rfl)).ae,mJ,hpre]
  refine jA (fun h3=> ?_) (fun h3=> ?_)
  ·have h3:jB es k=jB es (k-1):=iJ h3.1 h3.2
   have hlen:(pr es).length=es.length*(1+1):=jN es
   have hpos:0<es.length:=by omega
   have hdk:=rE es k (by omega) hdis
   have hdk1:wS es (k+1)=es.take k:=by rw[pZ,hdk,if_neg (by rintro(h4|h4);omega;exact h4 h3),dO]
   have hrow:St prog B H1 [⟨v,2,pr (wS es (k+1)++es.drop k)⟩]:=by rw[hdk1,fR];exact hS1
   have hdl:(wS es (k+1)).length=k:=by rw[hdk1,fQ];omega
   simp(disch:=omega) only[↓RA,RZ,simprocAttr,hn,g0,g3,(hS1.az 0 rfl (fun _=>rfl)).aF,h3]
   refine Wp.ak (fun n l H'=>l.length=61∧get l 0=v∧∃k2:Nat,(0<k2∧n+k+k2=es.length∧(wS es (k+k2)).length<k+k2)∧get l 3=I (wS es (k+k2)).length∧get l 4=lP v 2 k (es.length-k)∧get l 5=I k2∧St prog B H' [⟨v,2,pr (wS es (k+k2)++es.drop (wS es (k+k2)).length)⟩]) (es.length-k-1) ?_ ?_
   ·simp(disch:=omega) only[RB,RC,simprocAttr,hn,g0,g3]
    refine⟨1,⟨by omega,by omega,by omega⟩,by rw[hdl],by congr 1;omega,rfl,?_⟩
    rw[hdl]
    exact hrow
   clear hrow hdk hdk1 hdl hdis
   rintro n l H9⟨hn,g0,k2,⟨hk20,hk2,hlt⟩,g3,g4,g5,hS9⟩
   have hsucc:=pZ es (k+k2)
   generalize hD:wS es (k+k2)=D at g3 hlt hS9 hsucc
   have hrl:(D++es.drop D.length).length=es.length:=by rw[dM,fo];omega
   have hv:Sl 2 mJ H9 v (D++es.drop D.length):=hS9.az 0 rfl lG
   have hat:∀j,D.length≤j→jB (D++es.drop D.length) j=jB es j:=fun j hj=>by
    unfold jB
    rw[dE,eI hj,ed,dE]
    congr 2;omega
   have hsub:Sl 2 mJ H9 (lP v 2 k ((D++es.drop D.length).length-k)) ((D++es.drop D.length).drop k):=hv.cg k (by omega) (by omega)
   rw[hrl]at hsub
   have hsl:((D++es.drop D.length).drop k).length=es.length-k:=by rw[fo,hrl]
   have hsat:∀j,D.length≤k+j→jB ((D++es.drop D.length).drop k) j=jB es (k+j):=fun j hj=>by
    rw[←hat (k+j) hj]
    unfold jB
    rw[dE,ed,dE]
   have hbd:((es.length-k:Nat):Int)=(es.length:Int)-k:=by omega
   simp(disch:=omega) only[↓RA,RZ,simprocAttr,hn,g4,g5,hsub.len,hsl,hbd]
   refine jA (fun h4=> ?_) (fun h4=> ?_)
   ·have hj:k+k2<es.length:=by omega
    have hpre2:(k2:Int)-1=((k2-1:Nat):Int):=by omega
    have e1:=hsat k2 (by omega)
    have e2:=hsat (k2-1) (by omega)
    rw[show k+(k2-1)=k+k2-1 from by omega]at e2
    simp(disch:=omega) only[↓RA,RC,simprocAttr,h4]
    refine Wp.drw kQ (by kernel_rfl) ?_
    simp(disch:=omega) only[↓RA,RZ,simprocAttr,hn,g4,g5,hsub.idx,hsub.ae,mJ,hpre2,e1,e2]
    refine jA (fun h5=> ?_) (fun h5=> ?_)
    ·have hne:jB es (k+k2)≠jB es (k+k2-1):=fun e=>h5 (by rw[e];exact⟨rfl,rfl⟩)
     rw[if_pos (.inr hne)]at hsucc
     simp(disch:=omega) only[↓RA,RZ,simprocAttr,hn,g0,g3,g4,g5,hsub.idx,hsub.ae,mJ,e1,h5]
     simp(disch:=omega) only[↓RA,RZ,simprocAttr,hn,(hS9.az 0 rfl (fun _=>rfl)).idx,h5]
     refine hS9.ba 0 rfl [I (jB es (k+k2)).1,I (jB es (k+k2)).2] rfl rfl a0m (by simp) (by rw[jN,hrl];simp;omega) fun H2 hS2=> ?_
     simp only[RT]at hS2
     simp(disch:=omega) only[↓RA,RZ,simprocAttr,hn,g0,g3,g4,g5,h5]
     refine⟨n-1,by omega,k2+1,?_⟩
     rw[show k+(k2+1)=k+k2+1 from by omega,hsucc]
     refine⟨⟨by omega,by omega,by simp;omega⟩,by simp,by simp,?_⟩
     have e3:pr (D++[jB es (k+k2)]++es.drop (D++[jB es (k+k2)]).length)=((pr (D++es.drop D.length)).set (D.length*2) (I (jB es (k+k2)).1)).set (D.length*2+1) (I (jB es (k+k2)).2):=by
      have hx:es.drop D.length=jB es D.length::es.drop (D.length+1):=by
       rw[jR es _ (by omega)]
       exact ga (by omega)
      rw[hx,dM,List.length_singleton,mK,mK,mK]
      have e4:pr (jB es D.length::es.drop (D.length+1))=I (jB es D.length).1::I (jB es D.length).2::pr (es.drop (D.length+1)):=rfl
      have e5:pr [jB es (k+k2)]=[I (jB es (k+k2)).1,I (jB es (k+k2)).2]:=rfl
      have e6:(pr D).length=D.length*2:=jN D
      rw[e4,e5,fL _ _ (by omega),fL _ _ (by omega),e6,jf,fE]
      simp
     rw[e3]
     exact hS2
    have heq:jB es (k+k2)=jB es (k+k2-1):=by
     have h6:=dX.1 h5
     exact iJ h6.1 h6.2
    rw[if_neg (by rintro(h6|h6);omega;exact h6 heq),dO]at hsucc
    simp(disch:=omega) only[↓RA,RZ,simprocAttr,hn,g0,g3,g4,g5,h5]
    refine⟨n-1,by omega,k2+1,?_⟩
    rw[show k+(k2+1)=k+k2+1 from by omega,hsucc]
    exact⟨⟨by omega,by omega,by omega⟩,rfl,by simp,hS9⟩
   have hke:k+k2=es.length:=by omega
   rw[hke]at hD
   have hcl:(pr (D++es.drop D.length)).length=es.length*(1+1):=by rw[jN,hrl]
   have hDn:D.length≤es.length:=by omega
   simp(disch:=omega) only[↓RA,RZ,simprocAttr,hn,g0,g3,(hS9.az 0 rfl (fun _=>rfl)).aF,h4]
   rw[show(((D++es.drop D.length).length:Int)-D.length).toNat=es.length-D.length from by rw[hrl];omega]
   refine hS9.bH (size:=1) 0 rfl D.length (es.length-D.length) (by rw[hcl];omega) (by
    intro e
    have h2:(pr (D++es.drop D.length)).length=0:=by rw[e];rfl
    rw[jN,hrl]at h2;omega) c9F fun z H3 hz hSc=> ?_
   simp only[RT]at hSc
   have e3:kD (pr (D++es.drop D.length)) (D.length*2) z=pr D++z:=by
    rw[mK,show D.length*2=(pr D).length from(jN D).symm,nG z (pr D) (pr (es.drop D.length)) (by rw[jN,fo];omega)]
    rw[iB (by rw[jN,fo];omega),dO]
   rw[show D.length*(1+1)=D.length*2 from rfl,e3]at hSc
   have hw:RdAt H3 v (1+1) (pr D++z):=hSc.rd 0 rfl
   have hwl:(pr D++z).length=es.length*(1+1):=by rw[dM,jN,hz];omega
   simp(disch:=omega) only[↓RA,RZ,simprocAttr,hn,g0,g3,hw.aS hwl,b7X,h4]
   exact⟨z,by unfold dd;rw[hD],by unfold dd;rw[hD];exact hSc⟩
  have hne:jB es k≠jB es (k-1):=fun e=>h3 (by rw[e];exact⟨rfl,rfl⟩)
  simp(disch:=omega) only[↓RA,RZ,simprocAttr,hn,g0,g3,h3]
  refine⟨n-1,by omega,k+1,⟨by omega,by omega,fun j h4 h5=> ?_⟩,by simp,hS1⟩
  by_cases e:j=k
  ·rw[e];exact hne
  ·exact hdis j h4 (by omega)
 have hke:k=es.length:=by omega
 have hd:=rE es es.length (dG _) (hke▸hdis)
 rw[eS]at hd
 simp(disch:=omega) only[↓RA,RZ,simprocAttr,hn,g0,b7X,h2]
 exact⟨[],by unfold dd;rw[hd];exact(RdAt.sub_self (size:=1) (hS.rd 0 rfl) (jN es)).symm,by unfold dd;rw[hd,dO];exact hS1⟩
theorem a9D{B:Base}{v:Value}{es:List (Int×Int)}(hS:St prog B H [⟨v,2,pr es⟩])(hl:es.length<100000000000):
 Fn prog 161 [v] H fun r H'=>∃rest:List Value,(∀b,kX r=some b→kX v=some b)∧(∀H2,RdAt H2 v 2 (pr (dd es)++rest)→RdAt H2 r 2 (pr (dd es)))∧St prog B H' [⟨v,2,pr (dd es)++rest⟩]:=
 (a6Q hS hl).mono fun _ _⟨rest,e,h⟩=>⟨rest,fun _ h=>a4p (e▸h),fun _ h=>e▸a8e h,h⟩
end Go.Ds
namespace Go.Ds
open Go.Proofs Go.Proofs.Tryz
variable {H:Heap}
theorem a8s(a:Int):Fn prog 84 [I a] H fun r H'=>r=.bool false∧St prog H H' []:=by
 refine .aN func84 rfl (by kernel_rfl) (m:=6) rfl fun l hn g0=> ?_
 simp(disch:=omega) only[↓RA,RZ,simprocAttr,hn,g0,d1j]
 exact .refl _ _
def kU(a b:Int):Int:=if a<b then -1 else if b<a then 1 else 0
theorem pC(a b:Int):Fn prog 40 [I a,I b] H fun r H'=>r=I (kU a b)∧St prog H H' []:=by
 refine .aE func40 rfl (by kernel_rfl) (m:=20) rfl fun l hn g0 g1=> ?_
 simp(disch:=omega) only[↓RA,RZ,simprocAttr,hn,g0]
 refine(sR H).cF (a8s _) fun H1 hS1=> ?_
 simp(disch:=omega) only[↓RA,RZ,simprocAttr,hn,g1]
 refine hS1.cF (a8s _) fun H2 hS2=> ?_
 simp(disch:=omega) only[↓RA,RB,simprocAttr,hn,g0,g1]
 refine jA (fun h=> ?_) (fun h=> ?_)
 ·simp(disch:=omega) only[↓RA,RZ,simprocAttr,hn,c6u,h]
  exact⟨by simp[kU,h],hS2⟩
 simp(disch:=omega) only[↓RA,RZ,simprocAttr,hn,g0,g1,h]
 refine jA (fun h2=> ?_) (fun h2=> ?_)
 ·simp(disch:=omega) only[↓RA,RZ,simprocAttr,hn,c6u,h,h2]
  exact⟨by simp[kU,h,h2],hS2⟩
 simp(disch:=omega) only[↓RA,RZ,simprocAttr,hn,c6u,h,h2]
 exact⟨by simp[kU,h,h2],hS2⟩
def orI:List Int→Int
 | []=>0
 | a::l=>if a=0 then orI l else a
theorem a3X(xs:List Int):∀i,i≤xs.length→(∀j,j<i→jB xs j=0)→orI xs=orI (xs.drop i)
 | 0,_,_=>rfl
 | i+1,hi,h=>by
   rw[a3X xs i (by omega) (fun j hj=>h j (by omega)),qB xs i (by omega),orI,if_pos (h i (by omega))]
theorem b0E(v:Value)(xs:List Int)(hv:Sl 1 (one I) H v xs)(hl:xs.length<1000000):Fn prog 39 [v] H fun r H'=>r=I (orI xs)∧St prog H H' []:=by
 refine .aN func39 rfl (by kernel_rfl) (m:=18) rfl fun l hn g0=> ?_
 simp(disch:=omega) only[↓RA,RZ,simprocAttr,hn,g0,((sR H).sl hv).len]
 refine Wp.ak (fun n l H'=>l.length=18∧get l 3=I 0∧get l 6=v∧get l 7=I xs.length∧∃(i:Nat),(n+i=xs.length∧∀j,j<i→jB xs j=0)∧get l 8=I i∧St prog H H' []) xs.length ?_ ?_
 ·simp(disch:=omega) only[RB,RC,simprocAttr,hn]
  exact⟨0,⟨by omega,by simp⟩,rfl,(sR H)⟩
 rintro n l H1⟨hn,g3,g6,g7,i,⟨hi,h0⟩,g8,hS1⟩
 simp(disch:=omega) only[↓RA,RB,simprocAttr,hn,g7,g8]
 refine jA (fun h=> ?_) (fun h=> ?_)
 ·simp(disch:=omega) only[↓RA,RZ,simprocAttr,hn,g3,g6,g8,(hS1.sl hv).idx,(hS1.sl hv).ld,one,h]
  refine jA (fun h2=> ?_) (fun h2=> ?_)
  ·simp(disch:=omega) only[↓RA,RZ,simprocAttr,hn,c8M,h,h2]
   refine⟨?_,hS1⟩
   rw[a3X xs i (by omega) h0,qB xs i (by omega),orI,if_neg h2]
  simp(disch:=omega) only[↓RA,RZ,simprocAttr,hn,g3,g6,g7,g8,h,h2]
  exact⟨n-1,by omega,i+1,⟨by omega,fun j hj=>by by_cases e:j=i;(· subst e;exact dX.1 h2);exact h0 j (by omega)⟩,by simp,hS1⟩
 simp(disch:=omega) only[↓RA,RZ,simprocAttr,hn,g3,c8M,h]
 refine⟨?_,hS1⟩
 rw[a3X xs i (by omega) h0,List.drop_eq_nil_of_le (by omega),orI]
theorem c0n(x y:Int×Int):orI [kU x.1 y.1,kU x.2 y.2]=cf2 x y:=by
 unfold cf2 kU orI orI orI
 split
 ·simp
 ·split
  ·simp
  ·simp
   intro h
   exact h.symm
theorem d0M(x y:Int×Int):Fn prog 165 [.agg #[I x.1,I x.2],.agg #[I y.1,I y.2]] H fun r H'=>r=I (cf2 x y)∧St prog H H' []:=by
 refine .aE func165 rfl (by kernel_rfl) (m:=17) rfl fun l hn g0 g1=> ?_
 simp(disch:=omega) only[↓RA,RB,simprocAttr,g0]
 refine(sR H).eNew 2 [I x.1,I x.2] rfl rfl rfl mP fun A1 H1 hS1=> ?_
 simp only[RT]at hS1
 simp(disch:=omega) only[↓RA,RB,simprocAttr,g1]
 refine hS1.eNew 2 [I y.1,I y.2] rfl rfl rfl mP fun A2 H2 hS2=> ?_
 simp only[RT]at hS2
 simp(disch:=omega) only[↓RA,RB,simprocAttr]
 refine Wp.aJ kQ [(6,0),(8,0)] (by kernel_rfl) (by kernel_rfl) ?_
 simp(disch:=omega) only[↓RA,RZ,simprocAttr,hn,hS2.ld 0 rfl,hS2.ld 1 rfl]
 refine hS2.cF (pC x.1 y.1) fun H3 hS3=> ?_
 simp(disch:=omega) only[↓RA,RZ,simprocAttr,hn,hS3.ld 0 rfl,hS3.ld 1 rfl]
 refine hS3.cF (pC x.2 y.2) fun H4 hS4=> ?_
 simp(disch:=omega) only[↓RA,RB,simprocAttr,hn]
 refine hS4.aj [I (kU x.1 y.1),I (kU x.2 y.2)] uE a2h rfl rfl (by simp[Value.cells]) rfl rfl (by decide) (by decide) fun w1 H5 hS5=> ?_
 simp only[RT]at hS5
 simp(disch:=omega) only[↓RA,RZ,simprocAttr,hn]
 refine hS5.cF (b0E w1 [kU x.1 y.1,kU x.2 y.2] (hS5.az 2 rfl (rF _)) (by simp)) fun H6 hS6=> ?_
 simp(disch:=omega) only[↓RA,RZ,simprocAttr,hn,hS2.ld 0 rfl,hS2.ld 1 rfl,c9p]
 exact⟨by rw[c0n],hS6.forget⟩
theorem c3o(x y:Int×Int):Fn prog 187 [.agg #[I x.1,I x.2],.agg #[I y.1,I y.2]] H fun r H'=>r=I (cf2 x y)∧St prog H H' []:=by
 refine .aE func187 rfl (by kernel_rfl) (m:=17) rfl fun l hn g0 g1=> ?_
 simp(disch:=omega) only[↓RA,RB,simprocAttr,g0]
 refine(sR H).eNew 2 [I x.1,I x.2] rfl rfl rfl a0m fun A1 H1 hS1=> ?_
 simp only[RT]at hS1
 simp(disch:=omega) only[↓RA,RB,simprocAttr,g1]
 refine hS1.eNew 2 [I y.1,I y.2] rfl rfl rfl a0m fun A2 H2 hS2=> ?_
 simp only[RT]at hS2
 simp(disch:=omega) only[↓RA,RB,simprocAttr]
 refine Wp.aJ kQ [(6,0),(8,0)] (by kernel_rfl) (by kernel_rfl) ?_
 simp(disch:=omega) only[↓RA,RZ,simprocAttr,hn,hS2.ld 0 rfl,hS2.ld 1 rfl]
 refine hS2.cF (pC x.1 y.1) fun H3 hS3=> ?_
 simp(disch:=omega) only[↓RA,RZ,simprocAttr,hn,hS3.ld 0 rfl,hS3.ld 1 rfl]
 refine hS3.cF (pC x.2 y.2) fun H4 hS4=> ?_
 simp(disch:=omega) only[↓RA,RB,simprocAttr,hn]
 refine hS4.aj [I (kU x.1 y.1),I (kU x.2 y.2)] uE a2h rfl rfl (by simp[Value.cells]) rfl rfl (by decide) (by decide) fun w1 H5 hS5=> ?_
 simp only[RT]at hS5
 simp(disch:=omega) only[↓RA,RZ,simprocAttr,hn]
 refine hS5.cF (b0E w1 [kU x.1 y.1,kU x.2 y.2] (hS5.az 2 rfl (rF _)) (by simp)) fun H6 hS6=> ?_
 simp(disch:=omega) only[↓RA,RZ,simprocAttr,hn,hS2.ld 0 rfl,hS2.ld 1 rfl,c9G]
 exact⟨by rw[c0n],hS6.forget⟩
end Go.Ds
namespace Go.Ds
open Go.Proofs
open Go.Shelf Go.RowKit Go.Lib Go.Sort
theorem lt2(x y:Int×Int):ltOf cf2 x y=decide (x.1<y.1∨(x.1=y.1∧x.2<y.2)):=by
 unfold ltOf cf2
 congr 1
 apply propext
 split
 ·omega
 ·split
  ·omega
  ·split
   ·omega
   ·split<;>omega
theorem d0V:SWO (ltOf cf2) where
 irrefl x:=by rw[lt2];simp
 trans x y z h1 h2:=by rw[lt2]at*;simp at*;omega
 ntrans x y z h1 h2:=by rw[lt2]at*;simp at*;omega
theorem d1B(x y:Int×Int)(h1:ltOf cf2 x y=false)(h2:ltOf cf2 y x=false):x=y:=by
 rw[lt2]at*
 simp at h1 h2
 apply iJ<;>omega
theorem c7d:(fun x y=> !(ltOf cf2) y x)=le2:=by
 funext x y
 rw[lt2]
 by_cases h:le2 x y=true
 ·rw[h]
  rw[b4f]at h
  rw[eK,decide_eq_false_iff_not]
  omega
 ·rw[gF]at h
  rw[h]
  rw[←gF,b4f]at h
  rw[Bool.not_eq_false',decide_eq_true_eq]
  omega
def b1U(P:Program)(K kc:FuncId)(sm:Int×Int→Prop):Prop:=∀(kX off cap:Nat)(d:Array (Int×Int))(w:World),(∀x∈d.toList,sm x)→HoldsK mJ 2 w kX off d→kX<w.heap.size→d.size<4611686018427387904→
    Calls P K #[.slice (some ⟨kX,off,none⟩) d.size cap,.func (.func kc) #[] #[]] w fun e w'=>e=.returned (.tuple #[])∧∃n os,w'=sortWorldK mJ 2 w kX off n (d.toList.mergeSort le2).toArray os
def uJ(P:Program)(K:FuncId):Prop:=∀(p:Option Addr)(cap:Nat)(fv:Value)(w:World),Calls P K #[.slice p 0 cap,fv] w fun e w'=>e=.returned (.tuple #[])∧w'=w
theorem b8E{P:Program}{kc:FuncId}{α:Type}[Inhabited α](val:α→Int×Int)(cf:α→α→Int)(hf:∀x y,Fn P kc [.agg #[I (val x).1,I (val x).2],.agg #[I (val y).1,I (val y).2]] .nil fun r H'=>r=I (cf x y)∧St P (.nil:Heap) H' [])(kX off size:Nat)(w:World):CmpLays P kc #[] (fun x=>mJ (val x)) 2 cf kX off size w:=by
 intro m os dk hdk x y
 generalize sortWorldK (fun x=>mJ (val x)) 2 w kX off m dk os=W
 obtain⟨_,v,H1,h1,hr,_⟩:=hf x y
 have ha:All2 (V (fun _ _=>none)) [.agg #[I (val x).1,I (val x).2],.agg #[I (val y).1,I (val y).2]] (#[.agg #[I (val x).1,I (val x).2],.agg #[I (val y).1,I (val y).2]]:Array Value).toList:=⟨.of_flat rfl,.of_flat rfl,trivial⟩
 have hc:=CallOk.calls (f:=kc) h1 (HRel.none W) ha
 have hargs:(#[.agg (mJ (val x)).toArray,.agg (mJ (val y)).toArray]++#[]:Array Value)=#[.agg #[I (val x).1,I (val x).2],.agg #[I (val y).1,I (val y).2]]:=rfl
 rw[hargs]
 refine hc.mono ?_
 rintro e w'⟨ρ',v',rfl,hp,hv⟩
 subst hr
 have hfr:∀b,b<W.heap.size→w'.heap[b]? =W.heap[b]?:=fun b hb=>(hp.frame b hb (by rintro⟨A,e,p,kX,hq,_⟩;cases hq)).1
 refine⟨by rw[hv.ai rfl],w'.drawn-W.drawn,w'.heap.extract W.heap.size w'.heap.size,?_⟩
 have h1:=hp.os
 have h2:=hp.tape
 have h3:=hp.output
 have h4:=hp.size
 clear hp hv
 obtain⟨wh,wt,wd,wo,wu⟩:=W
 obtain⟨ah,at',ad,ao,au⟩:=w'
 simp only at h1 h2 h3 h4 hfr
 simp only[grow,World.drewN,World.mk.injEq]
 refine⟨?_,h2.1,by omega,h1,h3⟩
 apply gT
 intro i
 rw[Array.getElem?_append]
 split
 ·exact hfr i (by assumption)
 ·rw[Array.getElem?_extract]
  split
  ·congr 1;omega
  ·rw[Array.getElem?_eq_none (by omega)]
theorem b7S{P:Program}{kc:FuncId}(hf:∀x y,Fn P kc [.agg #[I x.1,I x.2],.agg #[I y.1,I y.2]] .nil fun r H'=>r=I (cf2 x y)∧St P (.nil:Heap) H' [])(kX off size:Nat)(w:World):CmpLays P kc #[] mJ 2 cf2 kX off size w:=b8E (fun x=>x) cf2 hf kX off size w
section
variable {P:Program} {H:Heap} {ρ ρ':Rho} {H':Heap} {w w1 w2:World}
theorem Post.cE(h:Post P ρ H w ρ' H' w1)(hsz:w1.heap.size≤w2.heap.size)(hb:∀b,b<w1.heap.size→w2.heap[b]? =w1.heap[b]?)(h1:w2.os=w1.os)(h2:w2.tape=w1.tape∧w1.drawn≤w2.drawn)(h3:w2.output=w1.output):Post P ρ H w ρ' H' w2 where
 le:=h.le
 rel:=h.rel.other hsz fun A e p hp=>hb _ (h.rel.dom _ _ _ hp).2
 len:=h.len
 size:=dZ h.size hsz
 os:=h1.trans h.os
 tape:=⟨h2.1.trans h.tape.1,dZ h.tape.2 h2.2⟩
 output:=h3.trans h.output
 frame b hlt hw:=by
  obtain⟨e,hw'⟩:=h.frame b hlt hw
  exact⟨(hb b (eH hlt h.size)).trans e,hw'⟩
 loops b r hr:=by
  obtain⟨r',hr'⟩:=h.loops b r hr
  exact⟨r',by rw[hb b (nK hr')];exact hr'⟩
 img:=h.img
theorem c5m:∀(l:List (Int×Int))(j:Nat),j<l.length*2→(mJ (l.toArray[j/2]!))[j%2]! =(pr l).getD j undef:=by
 intro l
 induction l with
 | nil=>intro j hj;simp at hj
 | cons x l ih=>
   intro j hj
   have e:pr (x::l)=I x.1::I x.2::pr l:=rfl
   rw[e]
   match j with
   | 0=>rfl
   | 1=>rfl
   | j+2=>
     have h1:(j+2)/2=j/2+1:=by omega
     have h2:(j+2)%2=j%2:=by omega
     have:=ih j (by simp at hj;omega)
     rw[h1,h2]
     simp only[List.getD_cons_succ]
     rw[←this]
     congr 2
     simp only[List.getElem!_toArray]
     simp
end
theorem V.func0{ρ:Rho}{k:FuncId}{v':Value}(h:V ρ (.func (.func k) #[] #[]) v'):v'=.func (.func k) #[] #[]:=by
 cases h with
 | v1 h=>cases h with
   | c1 h=>cases h with
     | c0 h=>cases h with
       | flat h=>rfl
     | fn ha hb=>
       rename_i a' b'
       have e1:a'=#[]:=by
        obtain⟨l⟩:=a'
        cases l with
        | nil=>rfl
        | cons=>exact ha.elim
       have e2:b'=#[]:=by
        obtain⟨l⟩:=b'
        cases l with
        | nil=>rfl
        | cons=>exact hb.elim
       rw[e1,e2]
theorem b1I(es:List (Int×Int)):lL (pr es)=true:=by
 unfold lL
 rw[dT]
 intro c hc
 obtain⟨x,_,hx⟩:=eM.1 hc
 simp only[mJ,ew,eO,or_false]at hx
 rcases hx with rfl|rfl<;>rfl
set_option maxRecDepth 10000 in
theorem c4w{P:Program}{K kc:FuncId}{sm:Int×Int→Prop}(hso:b1U P K kc sm){H:Heap}{A i lo ver n:Nat}{ty:TypeId}{pre:List Value}{es:List (Int×Int)}(hg:jS H A=some (.cells (pre++pr es) ty true lo ver))(hlo:lo≤i+(pr es).length)(hpre:pre.length=i)
 (hn:(pr es).length=n*2) (hty:jD P ty=some 2) (hl:es.length<100000000000) (h0:es≠[]) (hsm:∀x∈es,sm x):
 CallOk P K [.slice (some ⟨A,i,some (i+(pr es).length)⟩) n 2,.func (.func kc) #[] #[]] H (.tuple #[]) (hset H A (.cells (kD (pre++pr es) i (pr (srt es))) ty true (pre++pr es).length ver)):=by
 intro k ρ w args' hr ha
 obtain⟨l⟩:=args'
 match l,ha with
 | [x,f],⟨hx,hf,_⟩=>
   obtain rfl:=V.func0 hf
   have hlen:(pre++pr es).length=i+(pr es).length:=by rw[dM,hpre]
   obtain⟨p,c',a,hp,h0',hin,hnc,hac,hpk,rfl⟩:=hx.av
   rw[jN]at hn
   have hne:0<es.length:=fh.2 h0
   have hnn:n=es.length:=by omega
   subst hnn
   have ha':a=⟨p.b,p.at i,none⟩:=by
    rcases hac with h|h
    ·exact h.1
    ·omega
   subst ha'
   have hp2:ρ A (pre++pr es).length=some p:=by rw[hlen];exact hp
   obtain⟨_,_,hfit,cur,ty',fr,hw,hsz,hfr,hcell⟩:=(hr.cells _ _ _ _ _ _ hg).2 _ _ hp2
   obtain⟨rfl,hd0,_⟩:=hfr rfl
   let d:Array (Int×Int):=es.toArray
   have hds:d.size=es.length:=by simp[d]
   have hfl:=fun j hj=>c5m es j (by simpa using hj)
   have hH:Go.Sort.HoldsK mJ 2 w p.b (p.at i) d:=by
    intro j hj
    rw[Go.Sort.size_flatK,hds]at hj
    constructor
    ·have hc:(pre++pr es)[i+j]? =some ((pr es).getD j undef):=by
      rw[eI (by omega),hpre,fE,dE,dH (by rw[jN];omega)]
      rfl
     obtain⟨c2,hc2,hrel⟩:=hcell (by rw[hlen];exact hlo) (i+j) _ (by rw[hlen,jN];omega) (by omega) hc
     have hsc:jZ ((pr es).getD j undef)=true:=by
      have:=b1I es
      unfold lL at this
      rw[dT]at this
      apply this
      rw[dE,dH (by rw[jN];omega)]
      exact gR _
     have:=hrel.ar hsc
     subst this
     have hat:p.at (i+j)=p.at i+j:=by unfold Place.at;omega
     rw[hat]at hc2
     simp only[World.cell?,hw]
     rw[Go.Sort.get_flatK _ _ _ _ (by rw[hds];exact hj),hfl j hj]
     exact hc2
    ·simp only[World.frozen?,hw]
     simp
   have hcon:=hso p.b (p.at i) c' d w (by simpa [d]using hsm) hH (hr.dom _ _ _ hp).2 (by rw[hds];omega)
   rw[hds]at hcon
   obtain⟨w1,hrun,hpost⟩:=tP hr hg hp2 h0' (.aH (b1I (srt es))) (by rw[hlen,jN,jN,(uN es).length_eq];omega) (by rw[hlen];exact hlo)
   have hcsz:p.at i+(pr (srt es)).length≤cur.size:=by
    rw[jN,(uN es).length_eq,hsz]
    unfold Place.at
    rw[hlen,jN]at hfit
    omega
   have hst:=run_storeCells_at (P:=P) p.b (p.at i) ty' (pr (srt es)) 0 cur w hw (by simpa using hcsz) (All2.aH (ρ:=ρ) (b1I (srt es))).aI
   rw[hst]at hrun
   injection hrun with _ hw1
   subst hw1
   refine callsIn_wide.2 (hcon.mono ?_)
   rintro e w'⟨rfl,m,os,rfl⟩
   refine⟨ρ,_,rfl,?_,.tuple trivial⟩
   have hsl:(srt es).length=es.length:=(uN es).length_eq
   have hml:((d.toList.mergeSort le2)).length=es.length:=by simp[d]
   have hfs:∀j,j<es.length*2→(Go.Sort.flatK mJ 2 (d.toList.mergeSort le2).toArray)[j]! =(pr (srt es)).getD j undef:=fun j hj=>by
    rw[Go.Sort.get_flatK _ _ _ _ (by simpa [d]using hj)]
    exact c5m (d.toList.mergeSort le2) j (by rw[hml];exact hj)
   have hFs:(Go.Sort.flatK mJ 2 (d.toList.mergeSort le2).toArray).size=es.length*2:=by simp[d]
   unfold sortWorldK Go.Sort.putRowK
   generalize Go.Sort.flatK mJ 2 (d.toList.mergeSort le2).toArray=F at hfs hFs ⊢
   have hlt:=nK hw
   have hh:∀b,b<w.heap.size→(Go.Sort.grow (Go.Sort.putRow id (Go.Sort.ahead w m) p.b (p.at i) F) os).heap[b]? =(Go.Sort.putRow id (Go.Sort.ahead w m) p.b (p.at i) F).heap[b]?:=fun b hb=>by
    have:b<(Go.Sort.putRow id (Go.Sort.ahead w m) p.b (p.at i) F).heap.size:=by simpa [Go.Sort.putRow,Go.Sort.mapBlock,Go.Sort.ahead]using hb
    unfold Go.Sort.grow
    exact fC this
   refine hpost.cE ?_ ?_ rfl ⟨rfl,Nat.le_add_right _ _⟩ rfl
   ·simp[Go.Sort.grow,Go.Sort.putRow,Go.Sort.mapBlock,Go.Sort.ahead]
   ·intro b hbs
    rw[setRow_size]at hbs
    rw[hh b hbs]
    by_cases e:b=p.b
    ·subst e
     rw[setRow_heap w p.b cur _ ty' (0,0) hw]
     have e2:(Go.Sort.putRow id (Go.Sort.ahead w m) p.b (p.at i) F).heap[p.b]? =some (.cells (Go.Sort.putCells id (p.at i) F cur) ty' (0,0)):=by
      simp[Go.Sort.putRow,Go.Sort.mapBlock,Go.Sort.ahead,fK,hw,Go.Sort.onCells]
     rw[e2]
     congr 2
     apply gT
     intro j
     have hseg:=a0B cur.toList (pr (srt es)) (p.at i) j (by simpa using hcsz)
     have e3:((List.take (p.at i+0) cur.toList++pr (srt es)++List.drop (p.at i+0+(pr (srt es)).length) cur.toList).toArray)[j]? =(List.take (p.at i) cur.toList++pr (srt es)++List.drop (p.at i+(pr (srt es)).length) cur.toList)[j]?:=by simp
     rw[e3,hseg]
     simp only[Go.Sort.putCells,Array.getElem?_mapIdx,gC]
     rw[jN,hsl]at hcsz ⊢
     by_cases h1:p.at i≤j∧j<p.at i+es.length*2
     ·rw[if_pos h1]
      have hjc:j<cur.size:=by omega
      rw[fO hjc]
      simp only[ez]
      rw[if_pos (by rw[hFs];exact h1),hfs _ (by omega),dE,dH (by rw[jN,hsl];omega)]
      rfl
     ·rw[if_neg h1]
      cases hc:cur[j]? with
      | none=>simp
      | some c=>
        simp only[ez]
        rw[if_neg (by rw[hFs];exact h1)]
    ·rw[setRow_other _ _ _ _ e]
     simp[Go.Sort.putRow,Go.Sort.mapBlock,Go.Sort.ahead,fK,fP e]
theorem c1k{P:Program}{K kc:FuncId}{sm:Int×Int→Prop}(hso:b1U P K kc sm)(hno:uJ P K)(hent0:pD P K){H:Heap}{H0:Base}{os:List Ob}(hS:St P H0 H os)(i:Nat){v:Value}{es:List (Int×Int)}(ho:os[i]? =some ⟨v,2,pr es⟩)(hl:es.length<100000000000)(hsm:∀x∈es,sm x){Q:Value→Heap→Prop}
 (h:∀H1,St P H0 H1 (os.set i ⟨v,2,pr (srt es)⟩)→Q (.tuple #[]) H1):tM P K [v,.func (.func kc) #[] #[]] H Q:=by
 have hent:pD P K:=hent0
 by_cases h0:es=[]
 ·subst h0
  refine⟨.tuple #[],H,hent,?_,h H ?_⟩
  ·intro k ρ w args' hr ha
   obtain⟨l⟩:=args'
   match l,ha with
   | [x,f],⟨hx,hf,_⟩=>
     obtain rfl:=V.func0 hf
     have hown:=hS.own _ (dR ho)
     unfold OwnAt at hown
     rw[if_neg (by simp)]at hown
     have hx0:∃p cap,x=.slice p 0 cap:=by
      rcases hown with⟨h2,_⟩|⟨A,j,ty,lo',ver,pre,m,h2,h3,h4,h5,h6,h7⟩
      ·simp only at h2
       subst h2
       rcases hx.ay with⟨_,_,_,rfl⟩|⟨A,j,e,p,c',a,hh,_⟩
       ·exact⟨_,_,rfl⟩
       ·cases hh
      ·simp only at h5 h6
       subst h6
       have hm:m=0:=by have:(pr []).length=0:=rfl;omega
       subst hm
       obtain⟨p,c',a,_,_,_,_,_,_,rfl⟩:=hx.av
       exact⟨_,_,rfl⟩
     obtain⟨p,cap,rfl⟩:=hx0
     refine callsIn_wide.2 ((hno p cap _ w).mono ?_)
     rintro e w'⟨rfl,rfl⟩
     exact⟨ρ,_,rfl,.refl hr,.tuple trivial⟩
  ·obtain⟨hi,hoi⟩:=dQ.1 ho
   have e:srt []=[]:=List.Perm.eq_nil (uN [])
   rw[e,←hoi,gX]
   exact hS
 ·have hown:=hS.own _ (dR ho)
  unfold OwnAt at hown
  rw[if_neg (by simp)]at hown
  have hne:0<es.length:=fh.2 h0
  rcases hown with⟨_,h3⟩|⟨A,j,ty,lo',ver,pre,m,h2,h3,h4,h5,h6,h7⟩
  ·simp only at h3
   have:=congrArg List.length h3
   rw[jN,eT]at this
   omega
  ·simp only at h2 h3 h5 h6
   have hsl:(pr (srt es)).length=(pr es).length:=by rw[jN,jN,(uN es).length_eq]
   have hcall:=c4w hso h2 h3 h4 h5 h7 hl h0 hsm
   rw[←h6]at hcall
   refine⟨_,_,hent,hcall,h _ (hS.put i ho ?_ ?_ ?_ ?_)⟩
   ·unfold OwnAt
    rw[if_neg (by simp)]
    refine .inr ⟨A,j,ty,(pre++pr es).length,ver,pre,m,?_,?_,h4,?_,?_,h7⟩
    ·rw[jQ _ (kL h2)]
     have:=nG (pr (srt es)) pre (pr es) (by rw[hsl];exact dG _)
     rw[h4]at this
     rw[this,hsl,iR,dO]
    ·simp only[dM,h4,hsl];exact dG _
    ·simp only[hsl];exact h5
    ·simp only[hsl];exact h6
   ·rw[kN];exact dG _
   ·intro B' hB hne'
    refine rT fun hh=>hne' ?_
    simp[kX,h6,hh]
   ·intro B' hB
    exact .inl hB
end Go.Ds
namespace Go.Proofs
open Go.Shelf
def Tryz.bI:Go.Shelf.Ren:=⟨fun|6=>159|15=>99|14=>189|28=>139|29=>140|20=>205|21=>206|22=>207|23=>208|24=>209|25=>210|26=>211|27=>212|46=>234|47=>176|48=>177|49=>235|50=>236|57=>249|n=>n,fun|22=>97|24=>54|25=>269|3=>3|39=>64|0=>0|53=>252|55=>48|4=>4|46=>246|45=>245|50=>202|5=>5|9=>9|66=>281|70=>285|76=>308|77=>309|n=>n,fun|n=>n⟩
theorem Tryz.bV:Go.Proofs.SlLaysF0.n6 Tryz.prog Tryz.bI:={
 mixed:=by kernel_rfl
 f6:=⟨Tryz.f159.name,by decide,Tryz.func159.trans (congrArg some (by kernel_rfl))⟩
 f14:=⟨Tryz.f189.name,by decide,Tryz.func189.trans (congrArg some (by kernel_rfl))⟩
 f15:=Tryz.func99.trans (congrArg some (by kernel_rfl))
 f20:=⟨Tryz.f205.name,by decide,Tryz.func205.trans (congrArg some (by kernel_rfl))⟩
 f21:=⟨Tryz.f206.name,by decide,Tryz.func206.trans (congrArg some (by kernel_rfl))⟩
 f22:=⟨Tryz.f207.name,by decide,Tryz.func207.trans (congrArg some (by kernel_rfl))⟩
 f23:=⟨Tryz.f208.name,by decide,Tryz.func208.trans (congrArg some (by kernel_rfl))⟩
 f24:=⟨Tryz.f209.name,by decide,Tryz.func209.trans (congrArg some (by kernel_rfl))⟩
 f25:=⟨Tryz.f210.name,by decide,Tryz.func210.trans (congrArg some (by kernel_rfl))⟩
 f26:=⟨Tryz.f211.name,by decide,Tryz.func211.trans (congrArg some (by kernel_rfl))⟩
 f27:=⟨Tryz.f212.name,by decide,Tryz.func212.trans (congrArg some (by kernel_rfl))⟩
 f28:=Tryz.func139.trans (congrArg some (by kernel_rfl))
 f29:=Tryz.func140.trans (congrArg some (by kernel_rfl))
 f46:=⟨Tryz.f234.name,by decide,Tryz.func234.trans (congrArg some (by kernel_rfl))⟩
 f47:=Tryz.func176.trans (congrArg some (by kernel_rfl))
 f48:=Tryz.func177.trans (congrArg some (by kernel_rfl))
 f49:=⟨Tryz.f235.name,by decide,Tryz.func235.trans (congrArg some (by kernel_rfl))⟩
 f50:=⟨Tryz.f236.name,by decide,Tryz.func236.trans (congrArg some (by kernel_rfl))⟩
 f57:=⟨Tryz.f249.name,by decide,Tryz.func249.trans (congrArg some (by kernel_rfl))⟩
 t0:=Tryz.underlying0
 a0:=Tryz.isAgg0
 z0:=Tryz.sizeOf0
 v0:=Tryz.zeroValue0
 t3:=Tryz.underlying3
 a3:=Tryz.isAgg3
 z3:=Tryz.sizeOf3
 v3:=Tryz.zeroValue3
 t4:=Tryz.underlying4
 a4:=Tryz.isAgg4
 z4:=Tryz.sizeOf4
 v4:=Tryz.zeroValue4
 t5:=Tryz.underlying5
 a5:=Tryz.isAgg5
 z5:=Tryz.sizeOf5
 v5:=Tryz.zeroValue5
 t9:=Tryz.underlying9
 a9:=Tryz.isAgg9
 z9:=Tryz.sizeOf9
 v9:=Tryz.zeroValue9
 t22:=Tryz.underlying97
 a22:=Tryz.isAgg97
 z22:=Tryz.sizeOf97
 v22:=Tryz.zeroValue97
 t25:=Tryz.underlying269
 a25:=Tryz.isAgg269
 z25:=Tryz.sizeOf269
 v25:=Tryz.zeroValue269
 t39:=Tryz.underlying64
 a39:=Tryz.isAgg64
 z39:=Tryz.sizeOf64
 v39:=Tryz.zeroValue64
 t45:=Tryz.underlying245
 a45:=Tryz.isAgg245
 z45:=Tryz.sizeOf245
 v45:=Tryz.zeroValue245
 t46:=Tryz.underlying246
 a46:=Tryz.isAgg246
 z46:=Tryz.sizeOf246
 v46:=Tryz.zeroValue246
 t50:=Tryz.underlying202
 a50:=Tryz.isAgg202
 z50:=Tryz.sizeOf202
 v50:=Tryz.zeroValue202
 t53:=Tryz.underlying252
 a53:=Tryz.isAgg252
 z53:=Tryz.sizeOf252
 v53:=Tryz.zeroValue252
 t55:=Tryz.underlying48
 a55:=Tryz.isAgg48
 z55:=Tryz.sizeOf48
 v55:=Tryz.zeroValue48
 t66:=Tryz.underlying281
 a66:=Tryz.isAgg281
 z66:=Tryz.sizeOf281
 v66:=Tryz.zeroValue281
 t70:=Tryz.underlying285
 a70:=Tryz.isAgg285
 z70:=Tryz.sizeOf285
 v70:=Tryz.zeroValue285
 t76:=Tryz.underlying308
 a76:=Tryz.isAgg308
 z76:=Tryz.sizeOf308
 v76:=Tryz.zeroValue308
 t77:=Tryz.underlying309
 a77:=Tryz.isAgg309
 z77:=Tryz.sizeOf309
 v77:=Tryz.zeroValue309}
end Go.Proofs
namespace Go.Ds
open Go.Proofs Go.Proofs.Tryz Go.Shelf Go.RowKit Go.Lib Go.Sort
theorem c0N(x:Int×Int):∀v∈mJ x,v.oneCell'=true:=by
 intro v hv
 simp[mJ]at hv
 rcases hv with rfl|rfl<;>rfl
theorem d1u(kc:FuncId)(eg:∀args w,(callFunc kc args).run prog w=.ok (.enter kc args) w)(hf:∀x y,Fn prog kc [.agg #[I x.1,I x.2],.agg #[I y.1,I y.2]] .nil fun r H'=>r=I (cf2 x y)∧St prog (.nil:Heap) H' []):b1U prog 159 kc (fun _=>True):=
 fun kX off cap d w _ hH hblk hsz=>by
  have h:=AnyQ.slices_SortFunc_total Tryz.bV 2 Tryz.isAgg54 Tryz.sizeOf54 mJ (fun _=>rfl) c0N cf2 d0V kc #[] kX off cap d w eg (b7S hf kX off d.size w) hH hblk hsz d1B
  rw[c7d]at h
  exact h
theorem d1z:uJ prog 159:=fun p cap fv w=>AnyF.slices_SortFunc_none {Tryz.bV with} p cap fv w
def c7Z(K kc:FuncId):Prop:=∀{H:Heap}{B:Base}{os:List Ob}(hS:St prog B H os)(i:Nat){v:Value}{es:List (Int×Int)}(ho:os[i]? =some ⟨v,2,pr es⟩)(hl:es.length<100000000000){Q:Value→Heap→Prop}
    (h:∀H1,St prog B H1 (os.set i ⟨v,2,pr (srt es)⟩)→Q (.tuple #[]) H1),tM prog K [v,.func (.func kc) #[] #[]] H Q
theorem d1N:pD prog 159:=⟨Tryz.f159,func159,by kernel_rfl,by kernel_rfl⟩
theorem c8v:c7Z 159 187:=fun hS i _ _ ho hl _ h=>c1k (d1u 187 (enters_of func187 (by kernel_rfl) rfl) fun x y=>c3o x y) d1z d1N hS i ho hl (fun _ _=>trivial) h
end Go.Ds
namespace Go.Ds
open Go.Proofs Go.Proofs.Tryz
variable {H:Heap}
set_option maxRecDepth 10000
theorem a7b{p:Nat→Bool}{n j:Nat}(h:qS p n=(j:Int)):j<n:=by
 unfold qS at h
 split at h
 ·rename_i q hq
  have:=dS.1 (gB hq)
  omega
 ·omega
theorem c2Q(g:Seg)(hg:g.In H)(key:Int)(A:Nat)(hA:Var H A 1 [I key]):Fn prog 186 [.agg #[I g.lo,I g.hi,g.dv],ptr A 0 1] H fun r H'=>r=.bool (decide (g.lo≤key)&&decide (key≤g.hi))∧St prog H H' []:=by
 refine .aE func186 rfl (by kernel_rfl) (m:=14) rfl fun l hn g0 g1=> ?_
 simp(disch:=omega) only[↓RA,RB,simprocAttr,g0]
 refine(sR H).eNew 3 [I g.lo,I g.hi,g.dv] rfl rfl (by simp[OC,((sR H).sl hg.1).cells.2.1]) a3E fun A1 H1 hS1=> ?_
 simp only[RT]at hS1
 simp(disch:=omega) only[↓RA,RZ,simprocAttr,hn,g1,hS1.ld 0 rfl,(hS1.va hA).ld]
 refine jW (fun h1=> ?_) (fun h1=> ?_)
 ·simp(disch:=omega) only[↓RA,RZ,simprocAttr,hn,g1,(hS1.va hA).ld,hS1.ld 0 rfl,c5o,h1]
  first|exact hS1.forget|exact⟨by simp[h1],hS1.forget⟩
 simp(disch:=omega) only[↓RA,RZ,simprocAttr,hn,c5o,h1]
 first|exact hS1.forget|exact⟨by simp[],hS1.forget⟩
theorem c2F(v:Value)(xs:List Seg)(hv:Sl 3 Seg.cells H v xs)(hl:xs.length<1000000000)(k:FuncId)(caps:List Value)(p:Nat→Bool)
 (hf:∀j H1,j<xs.length→St prog H H1 []→Fn prog k (.agg #[I (jB xs j).lo,I (jB xs j).hi,(jB xs j).dv]::caps) H1 fun r H2=>r=.bool (p j)∧St prog H1 H2 []):
 Fn prog 185 [v,.func (.func k) #[] caps.toArray] H fun r H'=>r=I (qS p xs.length)∧St prog H H' []:=by
 refine .aE func185 rfl (by kernel_rfl) (m:=19) rfl fun l hn g0 g1=> ?_
 simp(disch:=omega) only[↓RA,RZ,simprocAttr,hn,g0,((sR H).sl hv).len]
 refine Wp.ak (fun n l H'=>l.length=19∧get l 0=v∧get l 1=.func (.func k) #[] caps.toArray∧get l 7=I xs.length∧∃(j:Nat),(n+j=xs.length∧∀q,q<j→p q=false)∧get l 8=I j∧St prog H H' []) xs.length ?_ ?_
 ·simp(disch:=omega) only[RB,RC,simprocAttr,hn,g0,g1]
  exact⟨0,⟨by omega,fun q hq=>absurd hq (eu _)⟩,rfl,(sR H)⟩
 rintro n l H1⟨hn,g0,g1,g7,j,⟨hi,h0⟩,g8,hS1⟩
 simp(disch:=omega) only[↓RA,RB,simprocAttr,hn,g7,g8]
 refine jA (fun h=> ?_) (fun h=> ?_)
 ·simp(disch:=omega) only[↓RA,RZ,simprocAttr,hn,g0,g1,g8,(hS1.sl hv).idx,(hS1.sl hv).ae,Seg.cells,h]
  refine hS1.cF (hf j _ (by omega) hS1) fun H2 hS2=> ?_
  simp(disch:=omega) only[↓RA,RZ,simprocAttr,hn,h]
  refine kA (fun hp=> ?_) (fun hp=> ?_)
  ·simp(disch:=omega) only[↓RA,RZ,simprocAttr,hn,c5J,h,hp]
   exact⟨by rw[vZ p xs.length j (by omega) hp h0],hS2⟩
  simp(disch:=omega) only[↓RA,RZ,simprocAttr,hn,g0,g1,g7,g8,h,hp]
  exact⟨n-1,by omega,j+1,⟨by omega,fun q hq=>by rcases dK.1 hq with e|e;(· exact h0 q e);(· rw[e];exact hp)⟩,by simp,hS2⟩
 simp(disch:=omega) only[↓RA,RZ,simprocAttr,hn,c5J,h]
 exact⟨by rw[vO p xs.length fun q hq=>h0 q (by omega)],hS1⟩
theorem b3c{H0:Heap}{os0:List Ob}(hS0:St prog H0 H os0)(s:Stp)(hs0:s.In H0)(key:Int):Fn prog 152 [.agg #[.string s.name,I s.num,I s.den,s.gv],I key] H fun r H'=>∃g:Seg,r=.agg #[I g.lo,I g.hi,g.dv]∧g.In H0∧g.draws=b5m s key∧St prog H H' []:=by
 have hs:=hs0.ag hS0
 have hl:=hs.2.2
 refine .aE func152 rfl (by kernel_rfl) (m:=18) rfl fun l hn g0 g1=> ?_
 simp(disch:=omega) only[↓RA,RB,simprocAttr,g0]
 refine(sR H).eNew 4 [(.string s.name),I s.num,I s.den,s.gv] rfl rfl (by simp[OC,((sR H).sl hs.1).cells.2.1]) sC fun A1 H1 hS1=> ?_
 simp only[RT]at hS1
 simp(disch:=omega) only[↓RA,RB,simprocAttr,g1]
 refine hS1.eNew 1 [I key] rfl rfl rfl tS3 fun A2 H2 hS2=> ?_
 simp only[RT]at hS2
 simp(disch:=omega) only[↓RA,RZ,simprocAttr]
 refine hS2.eNew 3 [I 0,I 0,(.slice none 0 0)] rfl rfl rfl a3E fun A3 H3 hS3=> ?_
 simp only[RT]at hS3
 simp(disch:=omega) only[↓RA,RZ,simprocAttr,hn,hS3.ld 0 rfl]
 have hA:=hS3.var 1 rfl
 have hSc:=hS3
 refine hS3.cF (c2F s.gv s.segs (hS3.sl hs.1) hs.2.2 186 [ptr A2 0 1] (b3p s key) (fun j H1 hj hS'=>c2Q _ ((hs.2.1 _ (jE hj)).ag (hSc.trans hS')) key A2 (hA.ag hS'.ag))) fun H4 hS4=> ?_
 simp(disch:=omega) only[↓RA,RB,simprocAttr,hn]
 refine jA (fun h=> ?_) (fun h=> ?_)
 ·simp(disch:=omega) only[↓RA,RZ,simprocAttr,hn,c7q,h]
  refine hS4.aa 2 rfl [I 0,I 0,(.slice none 0 0)] rfl rfl a3E (by simp) fun H5 hS5=> ?_
  simp only[RT]at hS5
  simp(disch:=omega) only[↓RA,RZ,simprocAttr,hn,c5X,hS5.ae 2 rfl,h]
  exact⟨⟨0,0,.slice none 0 0,[]⟩,rfl,⟨⟨.inl ⟨rfl,rfl⟩,fun _=>rfl,by decide⟩,by simp⟩,by rw[b5m,if_pos h],hS5.forget⟩
 obtain⟨j,hj⟩:∃j:Nat,qS (b3p s key) s.segs.length=j:=⟨(qS (b3p s key) s.segs.length).toNat,by omega⟩
 have hjl:j<s.segs.length:=a7b hj
 simp(disch:=omega) only[↓RA,RZ,simprocAttr,hn,hS4.ld 0 rfl,(hS4.sl hs.1).idx,(hS4.sl hs.1).ae,Seg.cells,hj]
 refine hS4.aa 2 rfl [I (jB s.segs j).lo,I (jB s.segs j).hi,(jB s.segs j).dv] rfl (by simp[OC,(hS4.sl (hs.2.1 (jB s.segs j) (jE (by omega))).1).cells.2.1]) a3E (by simp) fun H6 hS6=> ?_
 simp only[RT]at hS6
 simp(disch:=omega) only[↓RA,RZ,simprocAttr,hn,c5X,hS6.ae 2 rfl,hj]
 exact⟨jB s.segs j,rfl,hs0.2.1 _ (jE hjl),by rw[b5m,if_neg h,hj];rfl,hS6.forget⟩
theorem c4G(rv:Value)(rks:List Rk)(hr:Sl 6 Rk.cells H rv rks)(hrk:∀r∈rks,r.In H)(hl:rks.length<1000000000)(d:Drw)(key:Int):
 Fn prog 153 [rv,.agg #[I d.rank,I d.shift],I key] H fun r H'=>r=.tuple #[.agg #[I (sA rks d key).1,I (sA rks d key).2],.bool (a2K rks d key)]∧St prog H H' []:=by
 refine .cJ func153 rfl (by kernel_rfl) (m:=48) rfl fun l hn g0 g1 g2=> ?_
 simp(disch:=omega) only[↓RA,RB,simprocAttr,g1]
 refine(sR H).eNew 2 [I d.rank,I d.shift] rfl rfl rfl a2C fun A1 H1 hS1=> ?_
 simp only[RT]at hS1
 simp(disch:=omega) only[↓RA,RZ,simprocAttr]
 refine hS1.eNew 2 [I 0,I 0] rfl rfl rfl a0m fun A2 H2 hS2=> ?_
 simp only[RT]at hS2
 simp(disch:=omega) only[↓RA,RZ,simprocAttr,hn,hS2.ld 0 rfl]
 refine jL (fun h1=> ?_) (fun h1=> ?_)
 ·simp(disch:=omega) only[↓RA,RZ,simprocAttr,hn,c5Q,h1]
  refine hS2.aa 1 rfl [I 0,I 0] rfl rfl a0m (by simp) fun H3 hS3=> ?_
  simp only[RT]at hS3
  simp(disch:=omega) only[↓RA,RZ,simprocAttr,hn,b5e,hS3.ae 1 rfl,h1]
  exact⟨by rw[sA,a2K,if_pos (by omega),decide_eq_true (by omega)];rfl,hS3.forget⟩
 simp(disch:=omega) only[↓RA,RZ,simprocAttr,hn,g0,hS2.ld 0 rfl,(hS2.sl hr).len,h1]
 refine jA (fun h2=> ?_) (fun h2=> ?_)
 ·simp(disch:=omega) only[↓RA,RZ,simprocAttr,hn,c5Q,h1,h2]
  refine hS2.aa 1 rfl [I 0,I 0] rfl rfl a0m (by simp) fun H4 hS4=> ?_
  simp only[RT]at hS4
  simp(disch:=omega) only[↓RA,RZ,simprocAttr,hn,b5e,hS4.ae 1 rfl,h1,h2]
  exact⟨by rw[sA,a2K,if_pos (by omega),decide_eq_true (by omega)];rfl,hS4.forget⟩
 obtain⟨j,hj⟩:∃j:Nat,d.rank=j:=⟨d.rank.toNat,by omega⟩
 have hjl:j<rks.length:=by omega
 have hp:sA rks d key=((j:Int),vS (vS (key+d.shift)-(jB rks j).first)):=by rw[sA,if_neg (by omega),hj];rfl
 have hh:a2K rks d key=(decide (0≤vS (vS (key+d.shift)-(jB rks j).first))&&decide (vS (vS (key+d.shift)-(jB rks j).first)<(jB rks j).wind.length)):=by
  rw[a2K,hp,decide_eq_false (by omega),hj]
  rfl
 rw[hp,hh]
 have hw:=(hrk _ (jE hjl)).2
 simp(disch:=omega) only[↓RA,simprocAttr,hj]
 refine Wp.drw kQ (by kernel_rfl) ?_
 simp(disch:=omega) only[↓RA,RZ,simprocAttr,hn,g2]
 simp(disch:=omega) only[↓RA,RZ,simprocAttr,hn,g0,hS2.ld 0 rfl,(hS2.sl hr).idx,(hS2.sl hr).aZ,(hS2.sl hr).ld,Rk.cells,hj]
 refine Wp.aJ kQ [(10,18),(13,18),(14,18)] (by kernel_rfl) (by kernel_rfl) ?_
 simp(disch:=omega) only[↓RA,RZ,simprocAttr,hn,hS2.ld 0 rfl,b0K,hj]
 refine jW (fun h3=> ?_) (fun h3=> ?_)
 ·skip
  simp(disch:=omega) only[↓RA,RZ,simprocAttr,hn,g0,hS2.ld 0 rfl,(hS2.sl hr).idx,(hS2.sl hr).aZ,(hS2.sl hr).ld,Rk.cells,(hS2.sl (hrk (jB rks j) (jE (by omega))).1).len,hj,h3]
  refine hS2.aa 1 rfl [I j,_] rfl rfl a0m (by simp) fun H5 hS5=> ?_
  simp only[RT]at hS5
  simp(disch:=omega) only[↓RA,RZ,simprocAttr,hn,hS5.ld 0 rfl,Rk.cells,(hS5.sl hr).ld,(hS5.sl (hrk (jB rks j) (jE (by omega))).1).len,b5e,hS5.ae 1 rfl,hj,h3]
  exact hS5.forget
 simp(disch:=omega) only[↓RA,RZ,simprocAttr,hn,h3]
 refine hS2.aa 1 rfl [I j,_] rfl rfl a0m (by simp) fun H6 hS6=> ?_
 simp only[RT]at hS6
 simp(disch:=omega) only[↓RA,RZ,simprocAttr,hn,b5e,hS6.ae 1 rfl,h3]
 first|exact hS6.forget|exact⟨by rw[fX],hS6.forget⟩
theorem b7g{B:Base}{v:Value}{es:List (Int×Int)}(hS:St prog B H [⟨v,2,pr es⟩])(hl:es.length<1000000):
 Fn prog 154 [v] H fun r H'=>∃rest:List Value,(∀b,kX r=some b→kX v=some b)∧(∀H2,RdAt H2 v 2 (pr (dd (srt es))++rest)→RdAt H2 r 2 (pr (dd (srt es))))∧St prog B H' [⟨v,2,pr (dd (srt es))++rest⟩]:=by
 refine .aN func154 rfl (by kernel_rfl) (m:=7) rfl fun l hn g0=> ?_
 simp(disch:=omega) only[↓RA,RZ,simprocAttr,hn,g0]
 refine c8v hS 0 rfl (Nat.lt_trans hl (by decide)) fun H1 hS1=> ?_
 simp only[gV]at hS1
 simp(disch:=omega) only[↓RA,RZ,simprocAttr,hn,g0]
 refine jG (a9D hS1 (by rw[a3o];exact Nat.lt_trans hl (by decide))) ?_
 rintro r H2⟨rest,hb,hrd,hS2⟩
 have hrc:=(hrd H2 (hS2.rd 0 rfl)).cells
 simp(disch:=omega) only[↓RA,RB,simprocAttr,hn,d0z]
 exact⟨rest,hb,hrd,hS2⟩
theorem c1c{a b:Int}{v:Value}{α:Type}{n:Nat}{cel:α→List Value}{xs:List α}(h:Sl n cel H v xs):a0t prog 179 (.agg #[I a,I b,v]) 2=some v:=by
 rcases h.rd with⟨rfl,_⟩|⟨A,i,e,row,ty,rw,lo,ver,n,_,_,_,_,_,_,rfl⟩<;>kernel_rfl
theorem b9y(rv:Value)(rks:List Rk)(hr:Sl 6 Rk.cells H rv rks)(hrk:∀r∈rks,r.In H)(hl:rks.length<1000000000)(s:Stp)(hs:s.In H)(hs2:∀g∈s.segs,g.draws.length≤8)(key:Int):
 Fn prog 108 [rv,.agg #[.string s.name,I s.num,I s.den,s.gv],I key] H fun r H'=>Slx 2 mJ H' (fun B=>H.length≤B) r (a2c rks s key)∧St prog H H' []:=by
 refine .cJ func108 rfl (by kernel_rfl) (m:=36) rfl fun l hn g0 g1 g2=> ?_
 simp(disch:=omega) only[↓RA,RB,simprocAttr,g1]
 refine(sR H).eNew 4 [(.string s.name),I s.num,I s.den,s.gv] rfl rfl (by simp[OC,((sR H).sl hs.1).cells.2.1]) sC fun A1 H1 hS1=> ?_
 simp only[RT]at hS1
 simp(disch:=omega) only[↓RA,RZ,simprocAttr,hn,g2,hS1.ae 0 rfl]
 refine jG (b3c hS1 s hs key) ?_
 rintro r H2⟨g,rfl,hgi,hgd,hT1⟩
 have hS2:=hS1.trans hT1
 simp only[RT]at hS2
 have hgl:=hgi.2
 have hg8:g.draws.length≤8:=by
  rw[hgd]
  unfold b5m
  split
  ·simp
  ·rename_i h
   exact hs2 _ (jE (a7b (p:=b3p s key) (n:=s.segs.length) (by omega)))
 simp(disch:=omega) only[↓RA,RZ,simprocAttr,hn,c1c (hS2.sl hgi.1),(hS2.sl hgi.1).len]
 have hS3:=hS2.nil 1
 simp only[RT]at hS3
 refine Wp.ak (fun n l H'=>l.length=36∧get l 0=rv∧get l 2=I key∧get l 6=(.slice none 0 0)∧get l 15=g.dv∧get l 16=I g.draws.length∧∃(i:Nat)(ov:Value),(n+i=g.draws.length)∧get l 17=I i∧get l 7=ov∧St prog H H' [⟨ptr A1 0 4,0,[(.string s.name),I s.num,I s.den,s.gv]⟩,⟨ov,2,pr (((g.draws.take i).filter fun d=>a2K rks d key).map fun d=>sA rks d key)⟩]) g.draws.length ?_ ?_
 ·simp(disch:=omega) only[RB,RC,simprocAttr,hn,g0,g2]
  exact⟨0,_,by omega,rfl,rfl,hS3⟩
 rintro n l H3⟨hn,g0,g2,g6,g15,g16,i,ov,hi,g17,g7,hS4⟩
 simp(disch:=omega) only[↓RA,RB,simprocAttr,hn,g16,g17]
 refine jA (fun q1=> ?_) (fun q1=> ?_)
 ·simp(disch:=omega) only[↓RA,RZ,simprocAttr,hn,g15,g17,(hS4.sl hgi.1).idx,(hS4.sl hgi.1).ae,Drw.cells,q1]
  refine hS4.eNew 2 [I 0,I 0] rfl rfl rfl a2C fun A2 H4 hS5=> ?_
  simp only[RT]at hS5
  simp(disch:=omega) only[↓RA,RZ,simprocAttr,hn,q1]
  refine hS5.aa 2 rfl [I (jB g.draws i).rank,I (jB g.draws i).shift] rfl rfl a2C (by simp) fun H5 hS6=> ?_
  simp only[RT]at hS6
  simp(disch:=omega) only[↓RA,RZ,simprocAttr,hn,g0,g2,hS6.ae 2 rfl,q1]
  refine hS6.cF (c4G rv rks (hS6.sl hr) (fun r hr'=>(hrk r hr').ag hS6) hl (jB g.draws i) key) fun H6 hS7=> ?_
  have htk:=nJ g.draws i (by omega)
  have hfl:((g.draws.take i).filter fun d=>a2K rks d key).length≤i:=by
   refine dZ (fy _ _) ?_
   simp
   omega
  simp(disch:=omega) only[↓RA,RZ,simprocAttr,hn,q1]
  refine hS7.eNew 2 [I 0,I 0] rfl rfl rfl a0m fun A3 H7 hS8=> ?_
  simp only[RT]at hS8
  simp(disch:=omega) only[↓RA,RZ,simprocAttr,hn,q1]
  refine hS8.aa 3 rfl [I (sA rks (jB g.draws i) key).1,I (sA rks (jB g.draws i) key).2] rfl rfl a0m (by simp) fun H8 hS9=> ?_
  simp only[RT]at hS9
  simp(disch:=omega) only[↓RA,RZ,simprocAttr,hn,q1]
  refine kA (fun q2=> ?_) (fun q2=> ?_)
  ·skip
   simp(disch:=omega) only[↓RA,RZ,simprocAttr,hn,g7,hS9.ae 3 rfl,q1,q2]
   refine hS9.aj [I (sA rks (jB g.draws i) key).1,I (sA rks (jB g.draws i) key).2] c9l d2c rfl rfl (by simp[Value.cells]) rfl rfl (by decide) (by decide) fun w1 H9 hS10=> ?_
   simp only[RT]at hS10
   simp(disch:=omega) only[↓RA,RZ,simprocAttr,hn,q1,q2]
   refine hS10.aq 1 rfl (hS10.rd 4 rfl) c9l (by rw[jN];simp;omega) fun w2 H10 hS11=> ?_
   simp only[RT]at hS11
   simp(disch:=omega) only[↓RA,RZ,simprocAttr,hn,g0,g2,g6,g15,g16,g17,q1,q2]
   refine⟨n-1,by omega,i+1,w2,by omega,by simp,rfl,?_⟩
   rw[htk,fJ,dY,mK]
   have e:([jB g.draws i].filter fun d=>a2K rks d key)=[jB g.draws i]:=by simp[q2]
   rw[e]
   exact hS11.pick [0,1] (by decide) rfl
  simp(disch:=omega) only[↓RA,RZ,simprocAttr,hn,g0,g2,g6,g15,g16,g17,g7,q1,q2]
  refine⟨n-1,by omega,i+1,ov,by omega,by simp,rfl,?_⟩
  rw[htk,fJ,dY,mK]
  have e:([jB g.draws i].filter fun d=>a2K rks d key)=[]:=by simp[q2]
  rw[e]
  simp only[pr,gy,fw,dO]
  exact hS9.pick [0,1] (by decide) rfl
 simp(disch:=omega) only[↓RA,RZ,simprocAttr,hn,g7,q1]
 have hii:i=g.draws.length:=by omega
 subst hii
 have hfl:((g.draws.filter fun d=>a2K rks d key).map fun d=>sA rks d key).length≤8:=by
  rw[dU]
  exact dZ (fy _ _) hg8
 rw[eS]at hS4
 have hM1:=hS4.pick (os':=[⟨ov,2,_⟩]) [1] (by decide) rfl
 have hR1:=hS4.pick (os':=[⟨ov,2,_⟩,⟨ptr A1 0 4,0,_⟩]) [1,0] (by decide) rfl
 refine jG (b7g (es:=(g.draws.filter fun d=>a2K rks d key).map fun d=>sA rks d key) hM1.aR (by omega)) ?_
 rintro r H11⟨rest,hb,hrd,hT3⟩
 have hS12:=hR1.frame hT3
 simp only[RT]at hS12
 have hrr:=hrd _ (hS12.rd 0 rfl)
 have hrc:=hrr.cells
 simp(disch:=omega) only[↓RA,RZ,simprocAttr,hn,c8D,q1]
 refine⟨⟨⟨?_,lG,by decide⟩,fun b h=> ?_⟩,hS12.forget⟩
 ·unfold a2c
  rw[←hgd]
  exact hrr
 ·rcases hS12.new _ (eW ..) b (hb b h)with h|h
  ·exact h
  ·exact h.elim
end Go.Ds
namespace Go.Ds
open Go.Proofs
variable {H:Heap}
set_option maxRecDepth 10000
set_option maxHeartbeats 1000000
theorem c8l{α:Type}[Inhabited α][DecidableEq α](l:List α):(dd l).length≤l.length:=b8a l l.length
theorem b6O(rs:List Rk)(s:Stp)(key:Int)(h:∀g∈s.segs,g.draws.length≤8):(a2c rs s key).length≤8:=by
 unfold a2c
 refine dZ (c8l _) ?_
 rw[a3o,dU]
 refine dZ (fy _ _) ?_
 unfold b5m
 split
 ·simp
 ·exact h _ (jE (a7b (p:=b3p s key) (n:=s.segs.length) (by omega)))
end Go.Ds
namespace Go.Ds
open Go.Proofs
variable {H:Heap}
set_option maxRecDepth 10000
theorem Sl.bC{α:Type}{n:Nat}{cel:α→List Value}{v:Value}{xs:List α}(h:Sl n cel H v xs):kF v=true:=by
 rcases h.rd with⟨rfl,_⟩|⟨A,i,e,row,ty,rw,lo,ver,n,_,_,_,_,_,_,rfl⟩<;>rfl
theorem a0j{o:Org}{rg:Reg}(h:uH o rg=0):organE o=0∧rg.stops.length=o.dvs.length:=by
 unfold uH at h
 split at h
 ·rename_i hh;exact absurd h hh
 rename_i h1
 split at h
 ·omega
 exact⟨dX.1 h1,by omega⟩
end Go.Ds
namespace Go.Ds
open Go.Proofs
structure Ctl where
 kind:Int
 dv:Int
 ix:Int
 deriving Inhabited,DecidableEq
def Ctl.cells(c:Ctl):List Value:=[I c.kind,I c.dv,I c.ix]
def qO(n:Nat):List Nat:=(List.range 64).filter fun i=>n.testBit i
def uO(n:Nat)(i:Int):Nat:=(BitVec.ofNat 64 n&&&~~~ BitVec.ofNat 64 (2^i.toNat)).toNat
def mE(r:Reg)(c:Ctl):Reg:=if c.kind=1 then{r with stops:=r.stops.set c.dv.toNat (uO (jB r.stops c.dv.toNat) c.ix)}else if c.kind=2 then{r with cpl:=uO r.cpl c.ix}else{r with off:=uO r.off c.dv}
def tH(o:Org)(i:Nat):List Ct:=(List.range ((jB o.dvs i).hi-(jB o.dvs i).lo+1).toNat).map fun(k:Nat)=>((i:Int),(jB o.dvs i).lo+(k:Int))
def pM(o:Org):List Ct:=(List.range o.dvs.length).flatMap (tH o)
end Go.Ds
namespace Go.Ds
open Go.Proofs
variable {H:Heap}
set_option maxRecDepth 10000
set_option maxHeartbeats 1000000
theorem Wp.bW{P:Program}{c c':Code}{l l':List Value}{Q:oH}(hc:c'=c)(hl:l'=l)(h:SW P c l H Q):Wp P c' l' H Q:=by
 subst hc hl;exact h.wp
theorem Wp.cX{P:Program}{c:Code}{l:List Value}{Q:oH}(h:∀l',l'=l→Wp P c l' H Q):Wp P c l H Q:=h l rfl
theorem Wp.cG{P:Program}{t:Tmp}{ps:Array Tmp}{assign body:Code}{l:List Value}{Q:oH}{k:FuncId}{captured:List Value}(hg:get l t=.func (.func k) #[] captured.toArray)
 (h:∀r:Loop,r.state=.ready→r.pending=none→r.tmps=l.toArray→r.params=ps→r.assign=assign→r.body=body→
   FnS P k ([.func (.yield H.length) #[] #[]]++captured) (H.cons (.loop r)) (b8i P l H.length Q)):Wp P (.rangeFunc (.tmp t) ps assign body) l H Q:=
 Wp.range (first:=[]) rfl hg (h (b4c l ps assign body) rfl rfl rfl rfl rfl rfl)
theorem Lp.left{P:Program}{B:Base}{L:Nat}{r:Loop}{ls rest:List Ob}(h:Lp P B L r H (ls++rest)):Lp P B L r H ls:=h.sub (List.sublist_append_left _ _)
theorem OwnAt.var{P:Program}{A n:Nat}{cs:List Value}(h:OwnAt P H ⟨ptr A 0 n,0,cs⟩):Var H A n cs:=by
 unfold OwnAt at h
 rw[if_pos rfl]at h
 rcases h with⟨A',ty,lo,ver,h1,h2,h3⟩|⟨A',es,ck,ver,_,_,h3,_⟩
 ·simp only[ptr,Value.pointer.injEq,ee,jr]at h3
  obtain⟨rfl,_,hn⟩:=h3
  exact⟨hn,ty,true,lo,ver,h1,h2⟩
 ·cases h3
theorem yF{n i:Nat}(h:i<n):∃t,List.range n=List.range i++i::t:=by
 refine⟨(List.range n).drop (i+1),?_⟩
 have h1:(List.range n).take i=List.range i:=by rw[List.take_range,ia (by omega)]
 have h2:=ga (l:=List.range n) (i:=i) (by simpa using h)
 rw[iA]at h2
 rw[←h1,←h2,fR]
def zR(o:Org)(i:Nat):Nat:=((jB o.dvs i).hi-(jB o.dvs i).lo+1).toNat
def kAt(o:Org)(i k:Nat):Ct:=((i:Int),(jB o.dvs i).lo+(k:Int))
def wA(o:Org)(i k:Nat):List Ct:=(List.range i).flatMap (tH o)++(List.range k).map (kAt o i)
theorem b7a(o:Org)(i k:Nat):wA o i (k+1)=wA o i k++[kAt o i k]:=by
 unfold wA
 rw[eR,dY,ef]
 rfl
theorem a1A(o:Org)(i:Nat):wA o i (zR o i)=(List.range (i+1)).flatMap (tH o):=by
 unfold wA
 rw[eR,dV,ec,fw,dO]
 rfl
theorem b3z(o:Org){i k:Nat}(hi:i<o.dvs.length)(hk:k<zR o i):∃e,pM o=wA o i k++kAt o i k::e:=by
 obtain⟨t1,e1⟩:=yF hi
 obtain⟨t2,e2⟩:=yF hk
 refine⟨t2.map (kAt o i)++t1.flatMap (tH o),?_⟩
 unfold pM wA
 rw[e1,dV,ec]
 have:tH o i=(List.range (zR o i)).map (kAt o i):=rfl
 rw[this,e2,dY,eN]
 simp
def c1n(x n:Nat):List Nat:=(List.range n).filter fun i=>x.testBit i
theorem a9B(x n:Nat):(c1n x n).length≤n:=by
 unfold c1n
 refine dZ (fy _ _) ?_
 simp
abbrev oC(l:List Ctl):List Value:=l.flatMap Ctl.cells
theorem nA(l:List Ctl):(oC l).length=l.length*3:=jJ (n:=3) (fun _=>rfl) l
structure Pv where
 v:Value
 l:List Ct
 deriving Inhabited
def Pv.cells(p:Pv):List Value:=[p.v]
def Pv.Ix(H:Heap)(X:Nat→Prop)(p:Pv):Prop:=Slx 2 mJ H X p.v p.l
theorem Pv.Ix.step{H':Heap}{X Y:Nat→Prop}{p:Pv}(h:p.Ix H X)(hk:Kept H X H' Y):p.Ix H' Y:=Slx.step h hk
theorem Kept.and{H':Heap}{X Y:Nat→Prop}(Q:Nat→Prop)(h:Kept H X H' Y):Kept H (fun B=>Q B∧X B) H' (fun B=>Q B∧Y B):=
 fun B hX hB=>⟨(h B hX.2 hB).1,hX.1,(h B hX.2 hB).2⟩
theorem b9G{o:Org}(hf:o.Fine):(pM o).length≤1024:=by
 have key:∀n,n≤o.dvs.length→((List.range n).flatMap (tH o)).length≤n*128:=by
  intro n
  induction n with
  | zero=>intro _;simp
  | succ n ih=>
    intro hn
    have h1:=ih (by omega)
    have h2:=hf.keys n (by omega)
    have h3:(tH o n).length=zR o n:=by simp[tH,zR]
    have h4:zR o n≤128:=by unfold zR;omega
    rw[eR,dV,ec,fw,dO,dM]
    omega
 have:=key o.dvs.length (dG _)
 have:=hf.dlen
 unfold pM
 omega
end Go.Ds
namespace Go.Ds
open Go.Proofs Go.Proofs.Tryz
variable {H:Heap}
set_option maxRecDepth 10000
set_option maxHeartbeats 1000000
theorem Fn.tr{P:Program}{k:FuncId}{args:List Value}{R:Value→Heap→Prop}(h:Fn P k args H R):Fn P k args H fun v H'=>True∧R v H':=by
 simpa using h
theorem St.bu{P:Program}{H0:Base}{os:List Ob}(hS:St P H0 H os){t:TypeId}{size bytes:Nat}{K:Value→Heap→Prop}(ha:nX P t=some (size+1,bytes))(h:∀v H1,St P H0 H1 (os++[⟨v,size+1,[]⟩])→K v H1):uW P H t 0 [] K:=by
 unfold nX at ha
 cases he:jI P t with
 | none=>rw[he]at ha;cases ha
 | some elem=>
 rw[he]at ha
 simp only[dC]at ha
 cases hsz2:jD P elem with
 | none=>rw[hsz2]at ha;cases ha
 | some sz=>
 rw[hsz2]at ha
 simp only[dC]at ha
 cases hby:pF P elem with
 | none=>rw[hby]at ha;cases ha
 | some by'=>
 rw[hby]at ha
 simp only[dC]at ha
 cases hz2:kB P elem with
 | none=>rw[hz2]at ha;cases ha
 | some z=>
 rw[hz2]at ha
 simp only[dC]at ha
 split at ha
 case isFalse=>cases ha
 simp only[ee,iE]at ha
 obtain⟨rfl,rfl⟩:=ha
 refine⟨.slice (some ⟨H.length,0,some 0⟩) 0 (size+1),uI H elem [],?_,h _ _ (hS.add ?_ ?_ ?_ ?_)⟩
 ·unfold a1e
  simp only[he,hsz2,hz2,dC]
  rw[if_pos (by simp)]
 ·rw[mR]
  unfold OwnAt
  rw[if_neg (fB _)]
  exact .inr ⟨_,0,elem,_,0,[],0,jP H _,by simp,rfl,by simp,by simp,hsz2⟩
 ·rw[mR];simp[rD]
 ·rw[mR];exact fun B hB=>kS _ hB
 ·intro B hB
  simp[kX]at hB
  omega
theorem c3V(a:Addr)(m c:Nat):lJ prog .eql 47 47 false true (.slice (some a) m c) (.slice none 0 0)=some (.bool false):=by kernel_rfl
theorem a7k{v:Value}{a:Addr}{m c:Nat}(h:v=.slice (some a) m c)(K:Value→Prop):lV prog .eql 47 47 false true v (.slice none 0 0) K=oR (.bool false) K:=by
 subst h
 show kP (lJ prog .eql 47 47 false true (.slice (some a) m c) (.slice none 0 0)) K=_
 rw[c3V]
 rfl
theorem Sl.cH{α:Type}{n:Nat}{cel:α→List Value}{v:Value}{xs:List α}(h:Sl n cel H v xs)(h0:0<xs.length):∃a m c,v=.slice (some a) m c:=by
 rcases h.rd with⟨_,h2⟩|⟨A,i,e,row,ty,rw,lo,ver,m,_,_,_,_,_,_,h7⟩
 ·have:=congrArg List.length h2
  rw[jJ h.hc,eT]at this
  have:=h.pos
  have:0<xs.length*n:=iH h0 h.pos
  omega
 ·exact⟨_,_,_,h7⟩
theorem b8X(v:Value)(xs:List Nat)(hv:Sl 1 (one u64) H v xs)(hl:xs.length<100000)(h0:0<xs.length):Fn prog 45 [v] H fun r H'=>St prog H H' [⟨r,1,xs.flatMap (one u64)⟩]:=by
 refine .aN func45 rfl (by kernel_rfl) (m:=8) rfl fun l hn g0=> ?_
 obtain⟨a,m,c,hvv⟩:=hv.cH h0
 simp(disch:=omega) only[↓RA,RB,simprocAttr,hn,g0,a7k hvv]
 have hlen:(xs.flatMap (one u64)).length=xs.length:=by rw[jJ (n:=1) (fun _=>rfl)];omega
 refine(sR H).bu b8l fun w1 H1 hS1=> ?_
 simp only[RT]at hS1
 simp(disch:=omega) only[↓RA,RZ,simprocAttr,hn,g0]
 refine hS1.aq 0 rfl (hS1.sl hv).rd b8l (by rw[hlen];simp;omega) fun w2 H2 hS2=> ?_
 simp only[RT]at hS2
 simp(disch:=omega) only[↓RA,RB,simprocAttr,hn,d1K]
 exact hS2
theorem c5u(i:Nat)(hi:i<64):IntKind.wrap .u64 (1*2^min i (IntKind.bits .u64))=((2^i:Nat):Int):=by
 have e:IntKind.bits .u64=64:=rfl
 rw[e,ia (by omega),Int.one_mul]
 have h1:((2^i:Nat):Int)=2^i:=by simp
 rw[←h1]
 have h2:2^i≤2^63:=fY (by decide) (by omega)
 have h5:((2^i:Nat):Int)≤((2^63:Nat):Int):=Int.ofNat_le.2 h2
 exact qC _ (Int.natCast_nonneg _) (Int.lt_of_le_of_lt h5 (by decide))
theorem c9f(n i:Nat)(hi:i<64):IntKind.wrap .u64 ((BitVec.ofInt (IntKind.bits .u64) (n:Int)&&&~~~ BitVec.ofInt (IntKind.bits .u64) (IntKind.wrap .u64 (1*2^min i (IntKind.bits .u64)))).toNat:Int)=((uO n i:Nat):Int):=by
 rw[c5u i hi]
 have e:(BitVec.ofInt (IntKind.bits .u64) (n:Int)&&&~~~ BitVec.ofInt (IntKind.bits .u64) ((2^i:Nat):Int)).toNat=uO n i:=by
  show(BitVec.ofInt 64 (n:Int)&&&~~~ BitVec.ofInt 64 ((2^i:Nat):Int)).toNat=uO n i
  rw[gu,gu]
  rfl
 rw[e]
 have:uO n i<2^64:=BitVec.isLt _
 have h3:2^64=18446744073709551616:=rfl
 exact qC _ (by omega) (by omega)
theorem a7p(n:Nat)(i:Int):uO n i<18446744073709551616:=BitVec.isLt _
end Go.Ds
namespace Go.Ds
open Go.Proofs
variable {H:Heap}
set_option maxRecDepth 10000
set_option maxHeartbeats 1000000
def Pv.In(H:Heap)(p:Pv):Prop:=Sl 2 mJ H p.v p.l
theorem pN(a b:List Ctl):oC (a++b)=oC a++oC b:=dV
theorem a2k(rg:Reg)(c:Ctl):(mE rg c).stops.length=rg.stops.length:=by
 unfold mE
 split
 ·simp
 ·split<;>rfl
theorem a8i{rg:Reg}(h:rg.Ok)(c:Ctl):(mE rg c).Ok:=by
 obtain⟨h1,h2,h3,h4⟩:=h
 unfold mE
 split
 ·refine⟨by simpa using h1,?_,h3,h4⟩
  intro x hx
  rcases List.mem_or_eq_of_mem_set hx with h|h
  ·exact h2 x h
  ·rw[h];exact a7p _ _
 ·split
  ·exact⟨h1,h2,a7p _ _,h4⟩
  ·exact⟨h1,h2,h3,a7p _ _⟩
theorem a9j(x i j:Nat)(hx:x<18446744073709551616)(hi:i<64):(uO x i).testBit j=(x.testBit j&& !decide (j=i)):=by
 have hx':x<2^64:=by simpa using hx
 unfold uO
 rw[eh,gS,Nat.testBit_and,iz,gE hx']
 by_cases hj:j<64
 ·have e:(~~~ BitVec.ofNat 64 (2^i)).toNat.testBit j= !decide (j=i):=by
   have h1:(~~~ BitVec.ofNat 64 (2^i)).toNat.testBit j=(~~~ BitVec.ofNat 64 (2^i)).getLsbD j:=rfl
   rw[h1,BitVec.getLsbD_not,decide_eq_true hj,gm,BitVec.getLsbD_ofNat,decide_eq_true hj,gm,gO]
   congr 1
   exact decide_eq_decide.2 ⟨fun h=>h.symm,fun h=>h.symm⟩
  rw[e]
 ·have h1:x.testBit j=false:=Nat.testBit_lt_two_pow (eH hx' (fY (by decide) (by omega)))
  rw[h1,fX,fX]
theorem b6S{o:Org}{rg:Reg}(h:uH o rg=0):(∀j,j<o.dvs.length→jB rg.stops j>>>(jB o.dvs j).stops.length=0)∧rg.cpl>>>o.cpls.length=0∧rg.off>>>o.dvs.length=0:=by
 unfold uH at h
 split at h
 ·rename_i hh;exact absurd h hh
 split at h
 ·omega
 split at h
 ·omega
 rename_i h1
 split at h
 ·omega
 rename_i h2
 refine⟨fun j hj=> ?_,by omega,by omega⟩
 by_cases hh:jB rg.stops j>>>(jB o.dvs j).stops.length=0
 ·exact hh
 ·exact absurd ⟨j,hj,hh⟩ h1
end Go.Ds
