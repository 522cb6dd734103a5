/-
  A part of the proof of ReasonCompares.
-/
import Derived.Test.YtfmbcecfgpbmhaaGreatDoorVC
import Derived.Test.YtfmbcecfgpbmhaaGreatDoorVB
import Derived.Shelf.SlSortCmp.NoneTotal
import Derived.Shelf.SlGeneric
import Derived.Shelf.SlLaysF0
import Derived.Test.YtfmbcecfgpbmhaaGreatDoorProg
set_option linter.unusedVariables false
set_option linter.unusedSimpArgs false
set_option linter.defProp false
set_option linter.unusedSectionVars false
namespace Go.Ds
open Go.Proofs
structure Reg where
 stops:List Nat
 cpl:Nat
 off:Nat
 deriving Inhabited,DecidableEq
def u64(n:Nat):Value:=.int .u64 n
def Reg.cells(r:Reg)(sv:Value):List Value:=[sv,u64 r.cpl,u64 r.off]
def Reg.Ok(r:Reg):Prop:=r.stops.length<1000000000∧(∀x∈r.stops,x<18446744073709551616)∧r.cpl<18446744073709551616∧r.off<18446744073709551616
def Reg.In(H:Heap)(r:Reg)(sv:Value):Prop:=Sl 1 (one u64) H sv r.stops∧r.Ok
theorem Reg.In.ag{P:Program}{H H0:Heap}{os:List Ob}{r:Reg}{sv:Value}(h:r.In H0 sv)(hS:St P H0 H os):r.In H sv:=⟨hS.sl h.1,h.2⟩
abbrev Ct:=Int×Int
abbrev sZ(n:Int):Int:=IntKind.wrap .i64 n
def mB(o:Org)(c:Ct):Bool:=decide (0≤c.1)&&decide (c.1<o.dvs.length)&&decide ((iG o.dvs c.1.toNat).lo≤c.2)&&decide (c.2≤(iG o.dvs c.1.toNat).hi)
def a7p(o:Org)(c:Ct):Int:=if c.1<0∨o.dvs.length≤c.1 then 10 else if c.2<(iG o.dvs c.1.toNat).lo∨(iG o.dvs c.1.toNat).hi<c.2 then 23 else 0
def to1(x:Cpl)(c:Ct):Ct:=(x.dst,sZ (c.2+x.shift))
def Que(o:Org)(q:List Ct):Prop:=q.Nodup∧∀c∈q,mB o c=true
theorem Que.nil(o:Org):Que o []:=⟨.nil,by simp⟩
theorem a6V:∀(N:Nat)(l:List Nat),l.Nodup→(∀i∈l,i<N)→l.length≤N
 | 0,l,hn,h=>by
   cases l with
   | nil=>simp
   | cons a l=>exact absurd (h a (by simp)) (dX _)
 | N+1,l,hn,h=>by
   have h1:(l.erase N).length≤N:=by
    refine a6V N _ (hn.erase N) fun i hi=> ?_
    have h2:=(List.Nodup.mem_erase_iff hn).1 hi
    have:=h i h2.2
    omega
   rw[List.length_erase]at h1
   split at h1<;>omega
theorem oW{f:Nat→Int}{n:Nat}(h:mL f n=0):∀j,j<n→f j=0:=by
 intro j hj
 unfold mL at h
 cases hf:(List.range n).find? (fun j=>decide (f j≠0))with
 | some i=>
   rw[hf]at h
   have:=List.find?_some hf
   simp only[decide_eq_true_eq]at this
   exact absurd h this
 | none=>
   rw[gh]at hf
   have:=hf j (dG.2 hj)
   simpa using this
structure Org.Fine(o:Org):Prop where
 dpos:0<o.dvs.length
 dlen:o.dvs.length≤8
 rlen:o.ranks.length≤60
 keys:∀j,j<o.dvs.length→0≤(iG o.dvs j).lo∧(iG o.dvs j).lo≤(iG o.dvs j).hi∧(iG o.dvs j).hi≤127
 stops:∀j,j<o.dvs.length→(iG o.dvs j).stops.length≤60
 clen:o.cpls.length≤40
 draws:∀j,j<o.dvs.length→∀s∈(iG o.dvs j).stops,∀g∈s.segs,g.draws.length≤8
theorem Org.aT{o:Org}(h:organE o=0):o.Fine:=by
 unfold organE at h
 split at h
 ·omega
 split at h
 ·omega
 rename_i _ h2
 split at h
 ·rename_i hh;exact absurd h hh
 split at h
 ·omega
 rename_i h4
 split at h
 ·omega
 rename_i h5
 split at h
 ·rename_i hh;exact absurd h hh
 rename_i h6
 have h6:=dI.1 h6
 have hd:∀j,j<o.dvs.length→(0≤(iG o.dvs j).lo∧(iG o.dvs j).lo≤(iG o.dvs j).hi∧(iG o.dvs j).hi≤127)∧(iG o.dvs j).stops.length≤60∧∀s∈(iG o.dvs j).stops,∀g∈s.segs,g.draws.length≤8:=by
  intro j hj
  have e:=oW h6 j hj
  unfold tG at e
  split at e
  ·omega
  split at e
  ·omega
  unfold divE at e
  split at e
  ·rename_i hh;exact absurd e hh
  rename_i hc
  have hc:=dI.1 hc
  split at e
  ·omega
  unfold qV at hc
  split at hc
  ·omega
  split at hc
  ·omega
  refine⟨by omega,by omega,fun s hs g hg=> ?_⟩
  obtain⟨k,hk,rfl⟩:=ek.1 hs
  obtain⟨i,hi,rfl⟩:=ek.1 hg
  have e2:=oW e k hk
  unfold oL at e2
  rw[jV _ k hk]at e2
  split at e2
  ·rename_i hh;exact absurd e2 hh
  rename_i e3
  have e3:=dI.1 e3
  unfold stopE at e3
  split at e3
  ·rename_i hh;exact absurd e3 hh
  split at e3
  ·omega
  split at e3
  ·rename_i hh;exact absurd e3 hh
  split at e3
  ·omega
  split at e3
  ·omega
  have e4:=oW e3 i hi
  unfold lS at e4
  rw[jV _ i hi]at e4
  split at e4
  ·omega
  split at e4
  ·omega
  unfold oD at e4
  split at e4
  ·omega
  omega
 refine⟨by omega,by omega,by omega,fun j hj=>(hd j hj).1,fun j hj=>(hd j hj).2.1,?_,fun j hj=>(hd j hj).2.2⟩
 unfold rJ at h
 split at h<;>omega
theorem kU(o:Org)(c:Ct):mB o c=true↔0≤c.1∧c.1<o.dvs.length∧(iG o.dvs c.1.toNat).lo≤c.2∧c.2≤(iG o.dvs c.1.toNat).hi:=by
 unfold mB
 simp only[de,decide_eq_true_eq,and_assoc]
theorem a1y{o:Org}(ho:o.Fine){c:Ct}(h:mB o c=true):0≤c.1∧c.1<8∧0≤c.2∧c.2≤127:=by
 have h:=(kU o c).1 h
 have hk:=ho.keys c.1.toNat (by omega)
 have:=ho.dlen
 omega
theorem Que.len{o:Org}{q:List Ct}(h:Que o q)(ho:o.Fine):q.length≤1024:=by
 have h1:=a6V 1024 (q.map fun c=>c.1.toNat*128+c.2.toNat) ?_ ?_
 ·simpa using h1
 ·unfold List.Nodup
  rw[fO]
  refine List.Pairwise.imp_of_mem (fun{a b}ha hb hne e=>hne ?_) h.1
  have h1:=a1y ho (h.2 a ha)
  have h2:=a1y ho (h.2 b hb)
  apply gV<;>omega
 ·intro i hi
  obtain⟨c,hc,rfl⟩:=dE.1 hi
  have h1:=a1y ho (h.2 c hc)
  omega
def qB(rs:List Rk)(d:Drw)(key:Int):Ct:=if d.rank<0∨rs.length≤d.rank then(0,0)else(d.rank,sZ (sZ (key+d.shift)-(iG rs d.rank.toNat).first))
def a0R(rs:List Rk)(d:Drw)(key:Int):Bool:= !decide (d.rank<0∨rs.length≤d.rank)&&decide (0≤(qB rs d key).2)&&decide ((qB rs d key).2<(iG rs d.rank.toNat).wind.length)
def a8E(s:Stp)(key:Int)(j:Nat):Bool:=decide ((iG s.segs j).lo≤key)&&decide (key≤(iG s.segs j).hi)
def b2S(s:Stp)(key:Int):List Drw:=if oY (a8E s key) s.segs.length<0 then[]else(iG s.segs (oY (a8E s key) s.segs.length).toNat).draws
def a0c(rs:List Rk)(s:Stp)(key:Int):List Ct:=dd (srt (((b2S s key).filter fun d=>a0R rs d key).map fun d=>qB rs d key))
end Go.Ds
namespace Go.Ds
open Go.Proofs Go.Proofs.Tryz
variable {H:Heap}
theorem b3j(a b:Nat)(h:a<18446744073709551616):((a:Nat):Int).fdiv (2^min b (IntKind.bits .u64))=((a>>>b:Nat):Int):=by
 have e:IntKind.bits .u64=64:=rfl
 rw[e]
 have h1:((a:Nat):Int).fdiv (2^min b 64)=((a/2^min b 64:Nat):Int):=by
  rw[Int.fdiv_eq_ediv_of_nonneg _ (by exact Int.le_of_lt (Int.pow_pos (by decide)))]
  simp
 rw[h1,gp]
 by_cases hb:b≤64
 ·rw[gD hb]
 ·rw[Nat.min_eq_right (by omega)]
  have h2:a/2^64=0:=Nat.div_eq_of_lt (by simpa using h)
  have h3:a/2^b=0:=Nat.div_eq_of_lt (dV (by simpa using h) (gJ (by decide) (show 64≤b by omega)))
  rw[h2,h3]
theorem b4I(n:Nat)(h:n<18446744073709551616):IntKind.wrap .u64 ((BitVec.ofInt (IntKind.bits .u64) (n:Int)&&&BitVec.ofInt (IntKind.bits .u64) 1).toNat:Int)=((n%2:Nat):Int):=by
 have e:(BitVec.ofInt (IntKind.bits .u64) (n:Int)&&&BitVec.ofInt (IntKind.bits .u64) 1).toNat=n%2:=by
  show(BitVec.ofInt 64 (n:Int)&&&BitVec.ofInt 64 1).toNat=n%2
  rw[BitVec.toNat_and]
  have h1:(BitVec.ofInt 64 (n:Int)).toNat=n:=by
   rw[gK,BitVec.toNat_ofNat]
   exact iz (by simpa using h)
  have h2:(BitVec.ofInt 64 1).toNat=1:=rfl
  rw[h1,h2,Nat.and_one_is_mod]
 rw[e]
 have:n%2<2:=iD _ (by decide)
 have hh:n%2=0∨n%2=1:=by omega
 rcases hh with h|h<;>rw[h]<;>rfl
theorem tb(a i:Nat):a.testBit i=decide (a>>>i%2=1):=by
 rw[Nat.testBit_eq_decide_div_mod_eq,gp]
theorem a8c{a:Nat}(b:Nat)(h:a<18446744073709551616):a>>>b<18446744073709551616:=by
 rw[gp]
 exact Nat.lt_of_le_of_lt (Nat.div_le_self _ _) h
theorem c0R(o:Org)(ho:o.In H)(c:Ct):Fn prog 163 [.agg #[.string o.name,o.rv,o.dv,o.cv],.agg #[I c.1,I c.2]] H fun r H'=>r=I (a7p o c)∧St prog H H' []:=by
 have hl:=ho.2.2.2.2.2.2.1
 refine .aH func163 rfl (by kernel_rfl) (m:=36) rfl fun l hn g0 g1=> ?_
 simp(disch:=omega) only[↓RA,RB,simprocAttr,g0]
 refine(sR H).eNew 4 [(.string o.name),o.rv,o.dv,o.cv] rfl rfl (by simp[OC,((sR H).sl ho.1).cells.2.1,((sR H).sl ho.2.2.1).cells.2.1,((sR H).sl ho.2.2.2.2.1).cells.2.1]) a5Y fun A1 H1 hS1=> ?_
 simp only[RT]at hS1
 simp(disch:=omega) only[↓RA,RB,simprocAttr,g1]
 refine hS1.eNew 2 [I c.1,I c.2] rfl rfl rfl lG fun A2 H2 hS2=> ?_
 simp only[RT]at hS2
 simp(disch:=omega) only[↓RA,RZ,simprocAttr,hn,hS2.ld 1 rfl]
 refine iS (fun h1=> ?_) (fun h1=> ?_)
 ·simp(disch:=omega) only[↓RA,RZ,simprocAttr,hn,a5N,h1]
  exact⟨by rw[a7p,if_pos (by omega)],hS2.forget⟩
 simp(disch:=omega) only[↓RA,RZ,simprocAttr,hn,hS2.ld 1 rfl,hS2.ld 0 rfl,(hS2.sl ho.2.2.1).len,h1]
 refine iF (fun h2=> ?_) (fun h2=> ?_)
 ·simp(disch:=omega) only[↓RA,RZ,simprocAttr,hn,a5N,h1,h2]
  exact⟨by rw[a7p,if_pos (by omega)],hS2.forget⟩
 obtain⟨j,hj⟩:∃j:Nat,c.1=j:=⟨c.1.toNat,by omega⟩
 have hc:a7p o c=if c.2<(iG o.dvs j).lo∨(iG o.dvs j).hi<c.2 then 23 else 0:=by
  rw[a7p,if_neg (by omega),hj]
  rfl
 rw[hj]at h1 h2
 simp(disch:=omega) only[↓RA,RZ,simprocAttr,hn,hS2.ld 0 rfl,h1,h2,hj]
 simp(disch:=omega) only[↓RA,RZ,simprocAttr,hn,hS2.ld 1 rfl,(hS2.sl ho.2.2.1).idx,(hS2.sl ho.2.2.1).bp,(hS2.sl ho.2.2.1).cR 2,Dvn.cells,h1,h2,hj]
 refine hS2.eNew 2 [I 0,I 0] rfl rfl rfl sG fun A3 H3 hS3=> ?_
 simp only[RT]at hS3
 simp(disch:=omega) only[↓RA,RZ,simprocAttr,hn,h1,h2,hj]
 refine hS3.aa 2 rfl [I (iG o.dvs j).lo,I (iG o.dvs j).hi] rfl rfl sG (by simp) fun H4 hS4=> ?_
 simp only[RT]at hS4
 simp(disch:=omega) only[↓RA,RZ,simprocAttr,hn,hS4.ld 1 rfl,hS4.ld 2 rfl,h1,h2,hj]
 refine iS (fun h3=> ?_) (fun h3=> ?_)
 ·simp(disch:=omega) only[↓RA,RZ,simprocAttr,hn,a5N,h1,h2,hj,h3]
  exact⟨by rw[hc,if_pos (by omega)],hS4.forget⟩
 simp(disch:=omega) only[↓RA,RZ,simprocAttr,hn,hS4.ld 1 rfl,hS4.ld 2 rfl,h1,h2,hj,h3]
 refine iF (fun h4=> ?_) (fun h4=> ?_)
 ·simp(disch:=omega) only[↓RA,RZ,simprocAttr,hn,a5N,h1,h2,hj,h3,h4]
  exact⟨by rw[hc,if_pos (by omega)],hS4.forget⟩
 simp(disch:=omega) only[↓RA,RZ,simprocAttr,hn,a5N,h1,h2,hj,h3,h4]
 exact⟨by rw[hc,if_neg (by omega)],hS4.forget⟩
def a2D(o:Org)(r:Reg):Int:=if organE o≠0 then organE o else if r.stops.length≠o.dvs.length then 5 else if ∃j,j<o.dvs.length∧iG r.stops j>>>(iG o.dvs j).stops.length≠0 then 3 else if r.cpl>>>o.cpls.length≠0∨r.off>>>o.dvs.length≠0 then 3 else 0
theorem c2p(o:Org)(ho:o.In H)(r:Reg)(sv:Value)(hr:r.In H sv):Fn prog 48 [.agg #[.string o.name,o.rv,o.dv,o.cv],.agg #[sv,.int .u64 r.cpl,.int .u64 r.off]] H fun v H'=>v=I (a2D o r)∧St prog H H' []:=by
 have hl:=ho.2.2.2.2.2.2.1
 have hlc:=ho.2.2.2.2.2.2.2
 obtain⟨hr1,hr2,hr3,hr4,hr5⟩:=hr
 refine .aH func48 rfl (by kernel_rfl) (m:=55) rfl fun l hn g0 g1=> ?_
 simp(disch:=omega) only[↓RA,RB,simprocAttr,g0]
 refine(sR H).eNew 4 [(.string o.name),o.rv,o.dv,o.cv] rfl rfl (by simp[OC,((sR H).sl ho.1).cells.2.1,((sR H).sl ho.2.2.1).cells.2.1,((sR H).sl ho.2.2.2.2.1).cells.2.1]) a5Y fun A1 H1 hS1=> ?_
 simp only[RT]at hS1
 simp(disch:=omega) only[↓RA,RB,simprocAttr,g1]
 refine hS1.eNew 3 [sv,(.int .u64 r.cpl),(.int .u64 r.off)] rfl rfl (by simp[OC,(hS1.sl hr1).cells.2.1]) c2I fun A2 H2 hS2=> ?_
 simp only[RT]at hS2
 simp(disch:=omega) only[↓RA,RZ,simprocAttr,hn,hS2.ae 0 rfl]
 refine hS2.cF (a6P o (ho.ag hS2)) fun H3 hS3=> ?_
 simp(disch:=omega) only[↓RA,RB,simprocAttr,hn]
 refine iF (fun h1=> ?_) (fun h1=> ?_)
 ·simp(disch:=omega) only[↓RA,RZ,simprocAttr,hn,b1S,h1]
  exact⟨by rw[a2D,if_pos h1],hS3.forget⟩
 simp(disch:=omega) only[↓RA,RZ,simprocAttr,hn,hS3.ld 1 rfl,(hS3.sl hr1).len,hS3.ld 0 rfl,(hS3.sl ho.2.2.1).len,h1]
 refine iF (fun h2=> ?_) (fun h2=> ?_)
 ·simp(disch:=omega) only[↓RA,RZ,simprocAttr,hn,b1S,h1,h2]
  exact⟨by rw[a2D,if_neg h1,if_pos (by omega)],hS3.forget⟩
 simp(disch:=omega) only[↓RA,RZ,simprocAttr,hn,hS3.ld 0 rfl,(hS3.sl ho.2.2.1).len,h1,h2]
 have hE:a2D o r=if ∃j,j<o.dvs.length∧iG r.stops j>>>(iG o.dvs j).stops.length≠0 then 3 else if r.cpl>>>o.cpls.length≠0∨r.off>>>o.dvs.length≠0 then 3 else 0:=by rw[a2D,if_neg h1,if_neg (by omega)]
 refine Wp.aj (fun n l H'=>l.length=55∧get l 2=(ptr A1 0 4)∧get l 3=(ptr A2 0 3)∧get l 21=o.dv∧get l 22=I o.dvs.length∧∃(j:Nat),(n+j=o.dvs.length∧∀q,q<j→iG r.stops q>>>(iG o.dvs q).stops.length=0)∧get l 23=I j∧St prog H H' [⟨ptr A1 0 4,0,[(.string o.name),o.rv,o.dv,o.cv]⟩,⟨ptr A2 0 3,0,[sv,(.int .u64 r.cpl),(.int .u64 r.off)]⟩]) o.dvs.length ?_ ?_
 ·simp(disch:=omega) only[RB,RC,simprocAttr,hn]
  exact⟨0,⟨by omega,fun q hq=>absurd hq (dX _)⟩,rfl,hS3⟩
 rintro n l H4⟨hn,g2,g3,g21,g22,j,⟨hj,hz⟩,g23,hS4⟩
 have e1:=b3j r.cpl o.cpls.length hr4
 have e2:=b3j r.off o.dvs.length hr5
 simp(disch:=omega) only[↓RA,RB,simprocAttr,hn,g22,g23]
 refine iF (fun q1=> ?_) (fun q1=> ?_)
 ·have hst:=(ho.2.2.2.1 _ (iM (xs:=o.dvs) (j:=j) (by omega))).2.2
  have e3:=b3j (iG r.stops j) (iG o.dvs j).stops.length (hr3 _ (iM (by omega)))
  simp(disch:=omega) only[↓RA,RZ,simprocAttr,hn,g21,g23,(hS4.sl ho.2.2.1).idx,(hS4.sl ho.2.2.1).ae,Dvn.cells,q1]
  refine hS4.eNew 5 [(.string ⟨#[]⟩),(.bool false),I 0,I 0,(.slice none 0 0)] rfl rfl rfl rF fun A3 H5 hS5=> ?_
  simp only[RT]at hS5
  simp(disch:=omega) only[↓RA,RZ,simprocAttr,hn,q1]
  refine hS5.aa 2 rfl [(.string (iG o.dvs j).name),(.bool (iG o.dvs j).pedal),I (iG o.dvs j).lo,I (iG o.dvs j).hi,(iG o.dvs j).sv] rfl (by simp[OC,(hS5.sl (ho.2.2.2.1 (iG o.dvs j) (iM (by omega))).1).cells.2.1]) rF (by simp) fun H6 hS6=> ?_
  simp only[RT]at hS6
  simp(disch:=omega) only[↓RA,RZ,simprocAttr,q1]
  refine Wp.drw kJ (by kernel_rfl) ?_
  simp(disch:=omega) only[↓RA,RZ,simprocAttr,hn,g3,hS6.ld 1 rfl,(hS6.sl hr1).idx,(hS6.sl hr1).ld,one,u64,hS6.ld 2 rfl,(hS6.sl (ho.2.2.2.1 (iG o.dvs j) (iM (by omega))).1).len,e3]
  refine iF (fun q2=> ?_) (fun q2=> ?_)
  ·simp(disch:=omega) only[↓RA,RZ,simprocAttr,hn,b1S,q2]
   exact⟨by rw[hE,if_pos ⟨j,by omega,by omega⟩],hS6.forget⟩
  simp(disch:=omega) only[↓RA,RZ,simprocAttr,hn,g2,g3,g21,g22,g23,q2]
  exact⟨n-1,by omega,j+1,⟨by omega,fun q hq=>by rcases dw.1 hq with e|e;(· exact hz q e);(· rw[e];omega)⟩,by simp,hS6.sub (by simp)⟩
 simp(disch:=omega) only[↓RA,RZ,simprocAttr,hn,g2,g3,hS4.ld 1 rfl,hS4.ld 0 rfl,(hS4.sl ho.2.2.2.2.1).len,q1,e1]
 have hno:¬∃j,j<o.dvs.length∧iG r.stops j>>>(iG o.dvs j).stops.length≠0:=by
  rintro⟨q,hq,hne⟩
  exact hne (hz q (by omega))
 rw[if_neg hno]at hE
 clear hno
 refine iS (fun q3=> ?_) (fun q3=> ?_)
 ·simp(disch:=omega) only[↓RA,RZ,simprocAttr,hn,b1S,q1,q3]
  exact⟨by rw[hE,if_pos (by omega)],hS4.forget⟩
 simp(disch:=omega) only[↓RA,RZ,simprocAttr,hn,g2,g3,hS4.ld 1 rfl,hS4.ld 0 rfl,(hS4.sl ho.2.2.1).len,q1,e2,q3]
 refine iF (fun q4=> ?_) (fun q4=> ?_)
 ·simp(disch:=omega) only[↓RA,RZ,simprocAttr,hn,b1S,q1,q3,q4]
  exact⟨by rw[hE,if_pos (by omega)],hS4.forget⟩
 simp(disch:=omega) only[↓RA,RZ,simprocAttr,hn,b1S,q1,q3,q4]
 exact⟨by rw[hE,if_neg (by omega)],hS4.forget⟩
end Go.Ds
namespace Go.Ds
open Go.Proofs
variable {H:Heap}
theorem zM(n:Nat)(h:n<18446744073709551616):(BitVec.ofInt (IntKind.bits .u64) (n:Int)).toNat=n:=by
 show(BitVec.ofInt 64 (n:Int)).toNat=n
 rw[gK,BitVec.toNat_ofNat]
 exact iz (by simpa using h)
end Go.Ds
namespace Go.Ds
open Go.Proofs Go.Proofs.Tryz
variable {H:Heap}
set_option maxRecDepth 10000
theorem RdAt.sub_self{v:Value}{size n:Nat}{cs:List Value}(h:RdAt H v (size+1) cs)(hn:cs.length=n*(size+1)):kS v (size+1) 0 n=v:=by
 rcases h with⟨rfl,_⟩|⟨A,i,e,row,ty,rw,lo,ver,m,_,_,_,_,_,h6,rfl⟩
 ·rfl
 ·have:m=n:=eP (fh size) (h6.symm.trans hn)
  subst this
  simp[kS]
theorem a7U{v:Value}{xs:List (Int×Int)}{rest:List Value}(h:RdAt H v 2 (pr xs++rest)):RdAt H (kS v 2 0 xs.length) 2 (pr xs):=by
 by_cases h0:pr xs++rest=[]
 ·have hx:xs.length=0:=by
   have:=congrArg List.length h0
   rw[du,iO,dZ]at this
   omega
  have e:=RdAt.sub_self (size:=1) (n:=0) h (by rw[h0];rfl)
  obtain rfl:=ed.1 hx
  show RdAt H (kS v 2 0 0) 2 []
  rw[show kS v 2 0 0=v from e]
  rwa [h0]at h
 ·have h5:=RdAt.sub h 0 xs.length (by rw[du,iO];omega) h0
  rw[Nat.zero_mul,ir,show xs.length*2=(pr xs).length from(iO xs).symm,List.take_left' rfl]at h5
  exact h5
theorem c1q:a7j prog 140=some (1+1):=by kernel_rfl
theorem c3z:a7j prog 97=some (1+1):=by kernel_rfl
theorem a5f{B:Base}{v:Value}{es:List (Int×Int)}(hS:St prog B H [⟨v,2,pr es⟩])(hl:es.length<100000000000):
 Fn prog 166 [v] H fun r H'=>∃rest:List Value,r=kS v 2 0 (dd es).length∧St prog B H' [⟨v,2,pr (dd es)++rest⟩]:=by
 refine .aS func166 rfl (by kernel_rfl) (m:=61) rfl fun l hn g0=> ?_
 simp(disch:=omega) only[↓RA,RZ,simprocAttr,hn,g0,(hS.az 0 rfl (fun _=>rfl)).len]
 refine iF (fun h=> ?_) (fun h=> ?_)
 ·have hd:=pC es es.length (dm _) fun j h1 h2=>by omega
  rw[eo]at hd
  simp(disch:=omega) only[↓RA,RZ,simprocAttr,hn,g0,b4g,h]
  exact⟨[],by unfold dd;rw[hd];exact(RdAt.sub_self (size:=1) (hS.rd 0 rfl) (iO es)).symm,by unfold dd;rw[hd,dA];exact hS⟩
 simp(disch:=omega) only[↓RA,RZ,simprocAttr,h]
 refine Wp.aj (fun n l H'=>l.length=61∧get l 0=v∧∃(k:Nat),(0<k∧n+k=es.length∧∀j,0<j→j<k→iG es j≠iG es (j-1))∧get l 3=I k∧St prog B H' [⟨v,2,pr es⟩]) (es.length-1) ?_ ?_
 ·simp(disch:=omega) only[RB,RC,simprocAttr,hn,g0]
  exact⟨1,⟨by omega,by omega,fun j h1 h2=>by omega⟩,rfl,hS⟩
 rintro n l H1⟨hn,g0,k,⟨hk0,hk,hdis⟩,g3,hS1⟩
 simp(disch:=omega) only[↓RA,RZ,simprocAttr,hn,g0,g3,(hS1.az 0 rfl (fun _=>rfl)).len]
 refine iF (fun h2=> ?_) (fun h2=> ?_)
 ·have hkl:k<es.length:=by omega
  have hpre:(k:Int)-1=((k-1:Nat):Int):=by omega
  simp(disch:=omega) only[↓RA,RC,simprocAttr,h2]
  refine Wp.drw kJ (by kernel_rfl) ?_
  simp(disch:=omega) only[↓RA,RZ,simprocAttr,hn,g0,g3,(hS1.az 0 rfl (fun _=>rfl)).idx,(hS1.az 0 rfl (fun _=>rfl)).ae,lE,hpre]
  refine iF (fun h3=> ?_) (fun h3=> ?_)
  ·have h3:iG es k=iG es (k-1):=gV h3.1 h3.2
   have hlen:(pr es).length=es.length*(1+1):=iO es
   have hpos:0<es.length:=by omega
   have hdk:=pC es k (by omega) hdis
   have hdk1:tQ es (k+1)=es.take k:=by rw[oI,hdk,if_neg (by rintro(h4|h4);omega;exact h4 h3),dA]
   have hrow:St prog B H1 [⟨v,2,pr (tQ es (k+1)++es.drop k)⟩]:=by rw[hdk1,fQ];exact hS1
   have hdl:(tQ es (k+1)).length=k:=by rw[hdk1,fy];omega
   simp(disch:=omega) only[↓RA,RZ,simprocAttr,hn,g0,g3,(hS1.az 0 rfl (fun _=>rfl)).aD,h3]
   refine Wp.aj (fun n l H'=>l.length=61∧get l 0=v∧∃k2:Nat,(0<k2∧n+k+k2=es.length∧(tQ es (k+k2)).length<k+k2)∧get l 3=I (tQ es (k+k2)).length∧get l 4=kS v 2 k (es.length-k)∧get l 5=I k2∧St prog B H' [⟨v,2,pr (tQ es (k+k2)++es.drop (tQ es (k+k2)).length)⟩]) (es.length-k-1) ?_ ?_
   ·simp(disch:=omega) only[RB,RC,simprocAttr,hn,g0,g3]
    refine⟨1,⟨by omega,by omega,by omega⟩,by rw[hdl],by congr 1;omega,rfl,?_⟩
    rw[hdl]
    exact hrow
   clear hrow hdk hdk1 hdl hdis
   rintro n l H9⟨hn,g0,k2,⟨hk20,hk2,hlt⟩,g3,g4,g5,hS9⟩
   have hsucc:=oI es (k+k2)
   generalize hD:tQ es (k+k2)=D at g3 hlt hS9 hsucc
   have hrl:(D++es.drop D.length).length=es.length:=by rw[du,eE];omega
   have hv:Sl 2 lE H9 v (D++es.drop D.length):=hS9.az 0 rfl kI
   have hat:∀j,D.length≤j→iG (D++es.drop D.length) j=iG es j:=fun j hj=>by
    unfold iG
    rw[dj,dQ hj,dF,dj]
    congr 2;omega
   have hsub:Sl 2 lE H9 (kS v 2 k ((D++es.drop D.length).length-k)) ((D++es.drop D.length).drop k):=hv.bW k (by omega) (by omega)
   rw[hrl]at hsub
   have hsl:((D++es.drop D.length).drop k).length=es.length-k:=by rw[eE,hrl]
   have hsat:∀j,D.length≤k+j→iG ((D++es.drop D.length).drop k) j=iG es (k+j):=fun j hj=>by
    rw[←hat (k+j) hj]
    unfold iG
    rw[dj,dF,dj]
   have hbd:((es.length-k:Nat):Int)=(es.length:Int)-k:=by omega
   simp(disch:=omega) only[↓RA,RZ,simprocAttr,hn,g4,g5,hsub.len,hsl,hbd]
   refine iF (fun h4=> ?_) (fun h4=> ?_)
   ·have hj:k+k2<es.length:=by omega
    have hpre2:(k2:Int)-1=((k2-1:Nat):Int):=by omega
    have e1:=hsat k2 (by omega)
    have e2:=hsat (k2-1) (by omega)
    rw[show k+(k2-1)=k+k2-1 from by omega]at e2
    simp(disch:=omega) only[↓RA,RC,simprocAttr,h4]
    refine Wp.drw kJ (by kernel_rfl) ?_
    simp(disch:=omega) only[↓RA,RZ,simprocAttr,hn,g4,g5,hsub.idx,hsub.ae,lE,hpre2,e1,e2]
    refine iF (fun h5=> ?_) (fun h5=> ?_)
    ·have hne:iG es (k+k2)≠iG es (k+k2-1):=fun e=>h5 (by rw[e];exact⟨rfl,rfl⟩)
     rw[if_pos (.inr hne)]at hsucc
     simp(disch:=omega) only[↓RA,RZ,simprocAttr,hn,g0,g3,g4,g5,hsub.idx,hsub.ae,lE,e1,h5]
     simp(disch:=omega) only[↓RA,RZ,simprocAttr,hn,(hS9.az 0 rfl (fun _=>rfl)).idx,h5]
     refine hS9.bm 0 rfl [I (iG es (k+k2)).1,I (iG es (k+k2)).2] rfl rfl lG (by simp) (by rw[iO,hrl];simp;omega) fun H2 hS2=> ?_
     simp only[RT]at hS2
     simp(disch:=omega) only[↓RA,RZ,simprocAttr,hn,g0,g3,g4,g5,h5]
     refine⟨n-1,by omega,k2+1,?_⟩
     rw[show k+(k2+1)=k+k2+1 from by omega,hsucc]
     refine⟨⟨by omega,by omega,by simp;omega⟩,by simp,by simp,?_⟩
     have e3:pr (D++[iG es (k+k2)]++es.drop (D++[iG es (k+k2)]).length)=((pr (D++es.drop D.length)).set (D.length*2) (I (iG es (k+k2)).1)).set (D.length*2+1) (I (iG es (k+k2)).2):=by
      have hx:es.drop D.length=iG es D.length::es.drop (D.length+1):=by
       rw[jV es _ (by omega)]
       exact fz (by omega)
      rw[hx,du,List.length_singleton,lF,lF,lF]
      have e4:pr (iG es D.length::es.drop (D.length+1))=I (iG es D.length).1::I (iG es D.length).2::pr (es.drop (D.length+1)):=rfl
      have e5:pr [iG es (k+k2)]=[I (iG es (k+k2)).1,I (iG es (k+k2)).2]:=rfl
      have e6:(pr D).length=D.length*2:=iO D
      rw[e4,e5,fb _ _ (by omega),fb _ _ (by omega),e6,iq,eR]
      simp
     rw[e3]
     exact hS2
    have heq:iG es (k+k2)=iG es (k+k2-1):=by
     have h6:=dI.1 h5
     exact gV h6.1 h6.2
    rw[if_neg (by rintro(h6|h6);omega;exact h6 heq),dA]at hsucc
    simp(disch:=omega) only[↓RA,RZ,simprocAttr,hn,g0,g3,g4,g5,h5]
    refine⟨n-1,by omega,k2+1,?_⟩
    rw[show k+(k2+1)=k+k2+1 from by omega,hsucc]
    exact⟨⟨by omega,by omega,by omega⟩,rfl,by simp,hS9⟩
   have hke:k+k2=es.length:=by omega
   rw[hke]at hD
   have hcl:(pr (D++es.drop D.length)).length=es.length*(1+1):=by rw[iO,hrl]
   have hDn:D.length≤es.length:=by omega
   simp(disch:=omega) only[↓RA,RZ,simprocAttr,hn,g0,g3,(hS9.az 0 rfl (fun _=>rfl)).aD,h4]
   rw[show(((D++es.drop D.length).length:Int)-D.length).toNat=es.length-D.length from by rw[hrl];omega]
   refine hS9.bD (size:=1) 0 rfl D.length (es.length-D.length) (by rw[hcl];omega) (by
    intro e
    have h2:(pr (D++es.drop D.length)).length=0:=by rw[e];rfl
    rw[iO,hrl]at h2;omega) c1q fun z H3 hz hSc=> ?_
   simp only[RT]at hSc
   have e3:jC (pr (D++es.drop D.length)) (D.length*2) z=pr D++z:=by
    rw[lF,show D.length*2=(pr D).length from(iO D).symm,lX z (pr D) (pr (es.drop D.length)) (by rw[iO,eE];omega)]
    rw[List.drop_of_length_le (by rw[iO,eE];omega),dA]
   rw[show D.length*(1+1)=D.length*2 from rfl,e3]at hSc
   have hw:RdAt H3 v (1+1) (pr D++z):=hSc.rd 0 rfl
   have hwl:(pr D++z).length=es.length*(1+1):=by rw[du,iO,hz];omega
   simp(disch:=omega) only[↓RA,RZ,simprocAttr,hn,g0,g3,hw.aP hwl,b4g,h4]
   exact⟨z,by unfold dd;rw[hD],by unfold dd;rw[hD];exact hSc⟩
  have hne:iG es k≠iG es (k-1):=fun e=>h3 (by rw[e];exact⟨rfl,rfl⟩)
  simp(disch:=omega) only[↓RA,RZ,simprocAttr,hn,g0,g3,h3]
  refine⟨n-1,by omega,k+1,⟨by omega,by omega,fun j h4 h5=> ?_⟩,by simp,hS1⟩
  by_cases e:j=k
  ·rw[e];exact hne
  ·exact hdis j h4 (by omega)
 have hke:k=es.length:=by omega
 have hd:=pC es es.length (dm _) (hke▸hdis)
 rw[eo]at hd
 simp(disch:=omega) only[↓RA,RZ,simprocAttr,hn,g0,b4g,h2]
 exact⟨[],by unfold dd;rw[hd];exact(RdAt.sub_self (size:=1) (hS.rd 0 rfl) (iO es)).symm,by unfold dd;rw[hd,dA];exact hS1⟩
theorem c0j{B:Base}{v:Value}{es:List (Int×Int)}(hS:St prog B H [⟨v,2,pr es⟩])(hl:es.length<100000000000):
 Fn prog 166 [v] H fun r H'=>∃rest:List Value,(∀b,jY r=some b→jY v=some b)∧(∀H2,RdAt H2 v 2 (pr (dd es)++rest)→RdAt H2 r 2 (pr (dd es)))∧St prog B H' [⟨v,2,pr (dd es)++rest⟩]:=
 (a5f hS hl).mono fun _ _⟨rest,e,h⟩=>⟨rest,fun _ h=>a1A (e▸h),fun _ h=>e▸a7U h,h⟩
theorem a4i{B:Base}{v:Value}{es:List (Int×Int)}(hS:St prog B H [⟨v,2,pr es⟩])(hl:es.length<100000000000):
 Fn prog 161 [v] H fun r H'=>∃rest:List Value,r=kS v 2 0 (dd es).length∧St prog B H' [⟨v,2,pr (dd es)++rest⟩]:=by
 refine .aS func161 rfl (by kernel_rfl) (m:=61) rfl fun l hn g0=> ?_
 simp(disch:=omega) only[↓RA,RZ,simprocAttr,hn,g0,(hS.az 0 rfl (fun _=>rfl)).len]
 refine iF (fun h=> ?_) (fun h=> ?_)
 ·have hd:=pC es es.length (dm _) fun j h1 h2=>by omega
  rw[eo]at hd
  simp(disch:=omega) only[↓RA,RZ,simprocAttr,hn,g0,b6H,h]
  exact⟨[],by unfold dd;rw[hd];exact(RdAt.sub_self (size:=1) (hS.rd 0 rfl) (iO es)).symm,by unfold dd;rw[hd,dA];exact hS⟩
 simp(disch:=omega) only[↓RA,RZ,simprocAttr,h]
 refine Wp.aj (fun n l H'=>l.length=61∧get l 0=v∧∃(k:Nat),(0<k∧n+k=es.length∧∀j,0<j→j<k→iG es j≠iG es (j-1))∧get l 3=I k∧St prog B H' [⟨v,2,pr es⟩]) (es.length-1) ?_ ?_
 ·simp(disch:=omega) only[RB,RC,simprocAttr,hn,g0]
  exact⟨1,⟨by omega,by omega,fun j h1 h2=>by omega⟩,rfl,hS⟩
 rintro n l H1⟨hn,g0,k,⟨hk0,hk,hdis⟩,g3,hS1⟩
 simp(disch:=omega) only[↓RA,RZ,simprocAttr,hn,g0,g3,(hS1.az 0 rfl (fun _=>rfl)).len]
 refine iF (fun h2=> ?_) (fun h2=> ?_)
 ·have hkl:k<es.length:=by omega
  have hpre:(k:Int)-1=((k-1:Nat):Int):=by omega
  simp(disch:=omega) only[↓RA,RC,simprocAttr,h2]
  refine Wp.drw kJ (by kernel_rfl) ?_
  simp(disch:=omega) only[↓RA,RZ,simprocAttr,hn,g0,g3,(hS1.az 0 rfl (fun _=>rfl)).idx,(hS1.az 0 rfl (fun _=>rfl)).ae,lE,hpre]
  refine iF (fun h3=> ?_) (fun h3=> ?_)
  ·have h3:iG es k=iG es (k-1):=gV h3.1 h3.2
   have hlen:(pr es).length=es.length*(1+1):=iO es
   have hpos:0<es.length:=by omega
   have hdk:=pC es k (by omega) hdis
   have hdk1:tQ es (k+1)=es.take k:=by rw[oI,hdk,if_neg (by rintro(h4|h4);omega;exact h4 h3),dA]
   have hrow:St prog B H1 [⟨v,2,pr (tQ es (k+1)++es.drop k)⟩]:=by rw[hdk1,fQ];exact hS1
   have hdl:(tQ es (k+1)).length=k:=by rw[hdk1,fy];omega
   simp(disch:=omega) only[↓RA,RZ,simprocAttr,hn,g0,g3,(hS1.az 0 rfl (fun _=>rfl)).aD,h3]
   refine Wp.aj (fun n l H'=>l.length=61∧get l 0=v∧∃k2:Nat,(0<k2∧n+k+k2=es.length∧(tQ es (k+k2)).length<k+k2)∧get l 3=I (tQ es (k+k2)).length∧get l 4=kS v 2 k (es.length-k)∧get l 5=I k2∧St prog B H' [⟨v,2,pr (tQ es (k+k2)++es.drop (tQ es (k+k2)).length)⟩]) (es.length-k-1) ?_ ?_
   ·simp(disch:=omega) only[RB,RC,simprocAttr,hn,g0,g3]
    refine⟨1,⟨by omega,by omega,by omega⟩,by rw[hdl],by congr 1;omega,rfl,?_⟩
    rw[hdl]
    exact hrow
   clear hrow hdk hdk1 hdl hdis
   rintro n l H9⟨hn,g0,k2,⟨hk20,hk2,hlt⟩,g3,g4,g5,hS9⟩
   have hsucc:=oI es (k+k2)
   generalize hD:tQ es (k+k2)=D at g3 hlt hS9 hsucc
   have hrl:(D++es.drop D.length).length=es.length:=by rw[du,eE];omega
   have hv:Sl 2 lE H9 v (D++es.drop D.length):=hS9.az 0 rfl kI
   have hat:∀j,D.length≤j→iG (D++es.drop D.length) j=iG es j:=fun j hj=>by
    unfold iG
    rw[dj,dQ hj,dF,dj]
    congr 2;omega
   have hsub:Sl 2 lE H9 (kS v 2 k ((D++es.drop D.length).length-k)) ((D++es.drop D.length).drop k):=hv.bW k (by omega) (by omega)
   rw[hrl]at hsub
   have hsl:((D++es.drop D.length).drop k).length=es.length-k:=by rw[eE,hrl]
   have hsat:∀j,D.length≤k+j→iG ((D++es.drop D.length).drop k) j=iG es (k+j):=fun j hj=>by
    rw[←hat (k+j) hj]
    unfold iG
    rw[dj,dF,dj]
   have hbd:((es.length-k:Nat):Int)=(es.length:Int)-k:=by omega
   simp(disch:=omega) only[↓RA,RZ,simprocAttr,hn,g4,g5,hsub.len,hsl,hbd]
   refine iF (fun h4=> ?_) (fun h4=> ?_)
   ·have hj:k+k2<es.length:=by omega
    have hpre2:(k2:Int)-1=((k2-1:Nat):Int):=by omega
    have e1:=hsat k2 (by omega)
    have e2:=hsat (k2-1) (by omega)
    rw[show k+(k2-1)=k+k2-1 from by omega]at e2
    simp(disch:=omega) only[↓RA,RC,simprocAttr,h4]
    refine Wp.drw kJ (by kernel_rfl) ?_
    simp(disch:=omega) only[↓RA,RZ,simprocAttr,hn,g4,g5,hsub.idx,hsub.ae,lE,hpre2,e1,e2]
    refine iF (fun h5=> ?_) (fun h5=> ?_)
    ·have hne:iG es (k+k2)≠iG es (k+k2-1):=fun e=>h5 (by rw[e];exact⟨rfl,rfl⟩)
     rw[if_pos (.inr hne)]at hsucc
     simp(disch:=omega) only[↓RA,RZ,simprocAttr,hn,g0,g3,g4,g5,hsub.idx,hsub.ae,lE,e1,h5]
     simp(disch:=omega) only[↓RA,RZ,simprocAttr,hn,(hS9.az 0 rfl (fun _=>rfl)).idx,h5]
     refine hS9.bm 0 rfl [I (iG es (k+k2)).1,I (iG es (k+k2)).2] rfl rfl wH (by simp) (by rw[iO,hrl];simp;omega) fun H2 hS2=> ?_
     simp only[RT]at hS2
     simp(disch:=omega) only[↓RA,RZ,simprocAttr,hn,g0,g3,g4,g5,h5]
     refine⟨n-1,by omega,k2+1,?_⟩
     rw[show k+(k2+1)=k+k2+1 from by omega,hsucc]
     refine⟨⟨by omega,by omega,by simp;omega⟩,by simp,by simp,?_⟩
     have e3:pr (D++[iG es (k+k2)]++es.drop (D++[iG es (k+k2)]).length)=((pr (D++es.drop D.length)).set (D.length*2) (I (iG es (k+k2)).1)).set (D.length*2+1) (I (iG es (k+k2)).2):=by
      have hx:es.drop D.length=iG es D.length::es.drop (D.length+1):=by
       rw[jV es _ (by omega)]
       exact fz (by omega)
      rw[hx,du,List.length_singleton,lF,lF,lF]
      have e4:pr (iG es D.length::es.drop (D.length+1))=I (iG es D.length).1::I (iG es D.length).2::pr (es.drop (D.length+1)):=rfl
      have e5:pr [iG es (k+k2)]=[I (iG es (k+k2)).1,I (iG es (k+k2)).2]:=rfl
      have e6:(pr D).length=D.length*2:=iO D
      rw[e4,e5,fb _ _ (by omega),fb _ _ (by omega),e6,iq,eR]
      simp
     rw[e3]
     exact hS2
    have heq:iG es (k+k2)=iG es (k+k2-1):=by
     have h6:=dI.1 h5
     exact gV h6.1 h6.2
    rw[if_neg (by rintro(h6|h6);omega;exact h6 heq),dA]at hsucc
    simp(disch:=omega) only[↓RA,RZ,simprocAttr,hn,g0,g3,g4,g5,h5]
    refine⟨n-1,by omega,k2+1,?_⟩
    rw[show k+(k2+1)=k+k2+1 from by omega,hsucc]
    exact⟨⟨by omega,by omega,by omega⟩,rfl,by simp,hS9⟩
   have hke:k+k2=es.length:=by omega
   rw[hke]at hD
   have hcl:(pr (D++es.drop D.length)).length=es.length*(1+1):=by rw[iO,hrl]
   have hDn:D.length≤es.length:=by omega
   simp(disch:=omega) only[↓RA,RZ,simprocAttr,hn,g0,g3,(hS9.az 0 rfl (fun _=>rfl)).aD,h4]
   rw[show(((D++es.drop D.length).length:Int)-D.length).toNat=es.length-D.length from by rw[hrl];omega]
   refine hS9.bD (size:=1) 0 rfl D.length (es.length-D.length) (by rw[hcl];omega) (by
    intro e
    have h2:(pr (D++es.drop D.length)).length=0:=by rw[e];rfl
    rw[iO,hrl]at h2;omega) c3z fun z H3 hz hSc=> ?_
   simp only[RT]at hSc
   have e3:jC (pr (D++es.drop D.length)) (D.length*2) z=pr D++z:=by
    rw[lF,show D.length*2=(pr D).length from(iO D).symm,lX z (pr D) (pr (es.drop D.length)) (by rw[iO,eE];omega)]
    rw[List.drop_of_length_le (by rw[iO,eE];omega),dA]
   rw[show D.length*(1+1)=D.length*2 from rfl,e3]at hSc
   have hw:RdAt H3 v (1+1) (pr D++z):=hSc.rd 0 rfl
   have hwl:(pr D++z).length=es.length*(1+1):=by rw[du,iO,hz];omega
   simp(disch:=omega) only[↓RA,RZ,simprocAttr,hn,g0,g3,hw.aP hwl,b6H,h4]
   exact⟨z,by unfold dd;rw[hD],by unfold dd;rw[hD];exact hSc⟩
  have hne:iG es k≠iG es (k-1):=fun e=>h3 (by rw[e];exact⟨rfl,rfl⟩)
  simp(disch:=omega) only[↓RA,RZ,simprocAttr,hn,g0,g3,h3]
  refine⟨n-1,by omega,k+1,⟨by omega,by omega,fun j h4 h5=> ?_⟩,by simp,hS1⟩
  by_cases e:j=k
  ·rw[e];exact hne
  ·exact hdis j h4 (by omega)
 have hke:k=es.length:=by omega
 have hd:=pC es es.length (dm _) (hke▸hdis)
 rw[eo]at hd
 simp(disch:=omega) only[↓RA,RZ,simprocAttr,hn,g0,b6H,h2]
 exact⟨[],by unfold dd;rw[hd];exact(RdAt.sub_self (size:=1) (hS.rd 0 rfl) (iO es)).symm,by unfold dd;rw[hd,dA];exact hS1⟩
theorem a5V{B:Base}{v:Value}{es:List (Int×Int)}(hS:St prog B H [⟨v,2,pr es⟩])(hl:es.length<100000000000):
 Fn prog 161 [v] H fun r H'=>∃rest:List Value,(∀b,jY r=some b→jY v=some b)∧(∀H2,RdAt H2 v 2 (pr (dd es)++rest)→RdAt H2 r 2 (pr (dd es)))∧St prog B H' [⟨v,2,pr (dd es)++rest⟩]:=
 (a4i hS hl).mono fun _ _⟨rest,e,h⟩=>⟨rest,fun _ h=>a1A (e▸h),fun _ h=>e▸a7U h,h⟩
end Go.Ds
namespace Go.Ds
open Go.Proofs Go.Proofs.Tryz
variable {H:Heap}
theorem a5W(a:Int):Fn prog 84 [I a] H fun r H'=>r=.bool false∧St prog H H' []:=by
 refine .aS func84 rfl (by kernel_rfl) (m:=6) rfl fun l hn g0=> ?_
 simp(disch:=omega) only[↓RA,RZ,simprocAttr,hn,g0,c5i]
 exact .refl _ _
def kA(a b:Int):Int:=if a<b then -1 else if b<a then 1 else 0
theorem nM(a b:Int):Fn prog 40 [I a,I b] H fun r H'=>r=I (kA a b)∧St prog H H' []:=by
 refine .aH func40 rfl (by kernel_rfl) (m:=20) rfl fun l hn g0 g1=> ?_
 simp(disch:=omega) only[↓RA,RZ,simprocAttr,hn,g0]
 refine(sR H).cF (a5W _) fun H1 hS1=> ?_
 simp(disch:=omega) only[↓RA,RZ,simprocAttr,hn,g1]
 refine hS1.cF (a5W _) fun H2 hS2=> ?_
 simp(disch:=omega) only[↓RA,RB,simprocAttr,hn,g0,g1]
 refine iF (fun h=> ?_) (fun h=> ?_)
 ·simp(disch:=omega) only[↓RA,RZ,simprocAttr,hn,c2l,h]
  exact⟨by simp[kA,h],hS2⟩
 simp(disch:=omega) only[↓RA,RZ,simprocAttr,hn,g0,g1,h]
 refine iF (fun h2=> ?_) (fun h2=> ?_)
 ·simp(disch:=omega) only[↓RA,RZ,simprocAttr,hn,c2l,h,h2]
  exact⟨by simp[kA,h,h2],hS2⟩
 simp(disch:=omega) only[↓RA,RZ,simprocAttr,hn,c2l,h,h2]
 exact⟨by simp[kA,h,h2],hS2⟩
def orI:List Int→Int
 | []=>0
 | a::l=>if a=0 then orI l else a
theorem a2m(xs:List Int):∀i,i≤xs.length→(∀j,j<i→iG xs j=0)→orI xs=orI (xs.drop i)
 | 0,_,_=>rfl
 | i+1,hi,h=>by
   rw[a2m xs i (by omega) (fun j hj=>h j (by omega)),oB xs i (by omega),orI,if_pos (h i (by omega))]
theorem a7q(v:Value)(xs:List Int)(hv:Sl 1 (one I) H v xs)(hl:xs.length<1000000):Fn prog 39 [v] H fun r H'=>r=I (orI xs)∧St prog H H' []:=by
 refine .aS func39 rfl (by kernel_rfl) (m:=18) rfl fun l hn g0=> ?_
 simp(disch:=omega) only[↓RA,RZ,simprocAttr,hn,g0,((sR H).sl hv).len]
 refine Wp.aj (fun n l H'=>l.length=18∧get l 3=I 0∧get l 6=v∧get l 7=I xs.length∧∃(i:Nat),(n+i=xs.length∧∀j,j<i→iG xs j=0)∧get l 8=I i∧St prog H H' []) xs.length ?_ ?_
 ·simp(disch:=omega) only[RB,RC,simprocAttr,hn]
  exact⟨0,⟨by omega,by simp⟩,rfl,(sR H)⟩
 rintro n l H1⟨hn,g3,g6,g7,i,⟨hi,h0⟩,g8,hS1⟩
 simp(disch:=omega) only[↓RA,RB,simprocAttr,hn,g7,g8]
 refine iF (fun h=> ?_) (fun h=> ?_)
 ·simp(disch:=omega) only[↓RA,RZ,simprocAttr,hn,g3,g6,g8,(hS1.sl hv).idx,(hS1.sl hv).ld,one,h]
  refine iF (fun h2=> ?_) (fun h2=> ?_)
  ·simp(disch:=omega) only[↓RA,RZ,simprocAttr,hn,c2F,h,h2]
   refine⟨?_,hS1⟩
   rw[a2m xs i (by omega) h0,oB xs i (by omega),orI,if_neg h2]
  simp(disch:=omega) only[↓RA,RZ,simprocAttr,hn,g3,g6,g7,g8,h,h2]
  exact⟨n-1,by omega,i+1,⟨by omega,fun j hj=>by by_cases e:j=i;(· subst e;exact dI.1 h2);exact h0 j (by omega)⟩,by simp,hS1⟩
 simp(disch:=omega) only[↓RA,RZ,simprocAttr,hn,g3,c2F,h]
 refine⟨?_,hS1⟩
 rw[a2m xs i (by omega) h0,fY (by omega),orI]
theorem b6L(x y:Int×Int):orI [kA x.1 y.1,kA x.2 y.2]=cf2 x y:=by
 unfold cf2 kA orI orI orI
 split
 ·simp
 ·split
  ·simp
  ·simp
   intro h
   exact h.symm
theorem c4C(x y:Int×Int):Fn prog 165 [.agg #[I x.1,I x.2],.agg #[I y.1,I y.2]] H fun r H'=>r=I (cf2 x y)∧St prog H H' []:=by
 refine .aH func165 rfl (by kernel_rfl) (m:=17) rfl fun l hn g0 g1=> ?_
 simp(disch:=omega) only[↓RA,RB,simprocAttr,g0]
 refine(sR H).eNew 2 [I x.1,I x.2] rfl rfl rfl lG fun A1 H1 hS1=> ?_
 simp only[RT]at hS1
 simp(disch:=omega) only[↓RA,RB,simprocAttr,g1]
 refine hS1.eNew 2 [I y.1,I y.2] rfl rfl rfl lG fun A2 H2 hS2=> ?_
 simp only[RT]at hS2
 simp(disch:=omega) only[↓RA,RB,simprocAttr]
 refine Wp.aL kJ [(6,0),(8,0)] (by kernel_rfl) (by kernel_rfl) ?_
 simp(disch:=omega) only[↓RA,RZ,simprocAttr,hn,hS2.ld 0 rfl,hS2.ld 1 rfl]
 refine hS2.cF (nM x.1 y.1) fun H3 hS3=> ?_
 simp(disch:=omega) only[↓RA,RZ,simprocAttr,hn,hS3.ld 0 rfl,hS3.ld 1 rfl]
 refine hS3.cF (nM x.2 y.2) fun H4 hS4=> ?_
 simp(disch:=omega) only[↓RA,RB,simprocAttr,hn]
 refine hS4.ak [I (kA x.1 y.1),I (kA x.2 y.2)] pZ wS rfl rfl (by simp[Value.cells]) rfl rfl (by decide) (by decide) fun w1 H5 hS5=> ?_
 simp only[RT]at hS5
 simp(disch:=omega) only[↓RA,RZ,simprocAttr,hn]
 refine hS5.cF (a7q w1 [kA x.1 y.1,kA x.2 y.2] (hS5.az 2 rfl (vE _)) (by simp)) fun H6 hS6=> ?_
 simp(disch:=omega) only[↓RA,RZ,simprocAttr,hn,hS2.ld 0 rfl,hS2.ld 1 rfl,c2U]
 exact⟨by rw[b6L],hS6.forget⟩
theorem b8J(x y:Int×Int):Fn prog 187 [.agg #[I x.1,I x.2],.agg #[I y.1,I y.2]] H fun r H'=>r=I (cf2 x y)∧St prog H H' []:=by
 refine .aH func187 rfl (by kernel_rfl) (m:=17) rfl fun l hn g0 g1=> ?_
 simp(disch:=omega) only[↓RA,RB,simprocAttr,g0]
 refine(sR H).eNew 2 [I x.1,I x.2] rfl rfl rfl wH fun A1 H1 hS1=> ?_
 simp only[RT]at hS1
 simp(disch:=omega) only[↓RA,RB,simprocAttr,g1]
 refine hS1.eNew 2 [I y.1,I y.2] rfl rfl rfl wH fun A2 H2 hS2=> ?_
 simp only[RT]at hS2
 simp(disch:=omega) only[↓RA,RB,simprocAttr]
 refine Wp.aL kJ [(6,0),(8,0)] (by kernel_rfl) (by kernel_rfl) ?_
 simp(disch:=omega) only[↓RA,RZ,simprocAttr,hn,hS2.ld 0 rfl,hS2.ld 1 rfl]
 refine hS2.cF (nM x.1 y.1) fun H3 hS3=> ?_
 simp(disch:=omega) only[↓RA,RZ,simprocAttr,hn,hS3.ld 0 rfl,hS3.ld 1 rfl]
 refine hS3.cF (nM x.2 y.2) fun H4 hS4=> ?_
 simp(disch:=omega) only[↓RA,RB,simprocAttr,hn]
 refine hS4.ak [I (kA x.1 y.1),I (kA x.2 y.2)] pZ wS rfl rfl (by simp[Value.cells]) rfl rfl (by decide) (by decide) fun w1 H5 hS5=> ?_
 simp only[RT]at hS5
 simp(disch:=omega) only[↓RA,RZ,simprocAttr,hn]
 refine hS5.cF (a7q w1 [kA x.1 y.1,kA x.2 y.2] (hS5.az 2 rfl (vE _)) (by simp)) fun H6 hS6=> ?_
 simp(disch:=omega) only[↓RA,RZ,simprocAttr,hn,hS2.ld 0 rfl,hS2.ld 1 rfl,c3d]
 exact⟨by rw[b6L],hS6.forget⟩
end Go.Ds
namespace Go.Ds
open Go.Proofs
open Go.Shelf Go.RowKit Go.Lib Go.Sort
theorem lt2(x y:Int×Int):ltOf cf2 x y=decide (x.1<y.1∨(x.1=y.1∧x.2<y.2)):=by
 unfold ltOf cf2
 congr 1
 apply propext
 split
 ·omega
 ·split
  ·omega
  ·split
   ·omega
   ·split<;>omega
theorem c5O:SWO (ltOf cf2) where
 irrefl x:=by rw[lt2];simp
 trans x y z h1 h2:=by rw[lt2]at*;simp at*;omega
 ntrans x y z h1 h2:=by rw[lt2]at*;simp at*;omega
theorem c4N(x y:Int×Int)(h1:ltOf cf2 x y=false)(h2:ltOf cf2 y x=false):x=y:=by
 rw[lt2]at*
 simp at h1 h2
 apply gV<;>omega
theorem c2a:(fun x y=> !(ltOf cf2) y x)=le2:=by
 funext x y
 rw[lt2]
 by_cases h:le2 x y=true
 ·rw[h]
  rw[b0Z]at h
  rw[dW,decide_eq_false_iff_not]
  omega
 ·rw[gA]at h
  rw[h]
  rw[←gA,b0Z]at h
  rw[Bool.not_eq_false',decide_eq_true_eq]
  omega
def a8s(P:Program)(K kc:FuncId)(sm:Int×Int→Prop):Prop:=∀(jY off cap:Nat)(d:Array (Int×Int))(w:World),(∀x∈d.toList,sm x)→HoldsK lE 2 w jY off d→jY<w.heap.size→d.size<4611686018427387904→
    Calls P K #[.slice (some ⟨jY,off,none⟩) d.size cap,.func (.func kc) #[] #[]] w fun e w'=>e=.returned (.tuple #[])∧∃n os,w'=sortWorldK lE 2 w jY off n (d.toList.mergeSort le2).toArray os
def rZ(P:Program)(K:FuncId):Prop:=∀(p:Option Addr)(cap:Nat)(fv:Value)(w:World),Calls P K #[.slice p 0 cap,fv] w fun e w'=>e=.returned (.tuple #[])∧w'=w
theorem b5R{P:Program}{kc:FuncId}{α:Type}[Inhabited α](val:α→Int×Int)(cf:α→α→Int)(hf:∀x y,Fn P kc [.agg #[I (val x).1,I (val x).2],.agg #[I (val y).1,I (val y).2]] .nil fun r H'=>r=I (cf x y)∧St P (.nil:Heap) H' [])(jY off size:Nat)(w:World):CmpLays P kc #[] (fun x=>lE (val x)) 2 cf jY off size w:=by
 intro m os dk hdk x y
 generalize sortWorldK (fun x=>lE (val x)) 2 w jY off m dk os=W
 obtain⟨_,v,H1,h1,hr,_⟩:=hf x y
 have ha:All2 (V (fun _ _=>none)) [.agg #[I (val x).1,I (val x).2],.agg #[I (val y).1,I (val y).2]] (#[.agg #[I (val x).1,I (val x).2],.agg #[I (val y).1,I (val y).2]]:Array Value).toList:=⟨.of_flat rfl,.of_flat rfl,trivial⟩
 have hc:=CallOk.calls (f:=kc) h1 (HRel.none W) ha
 have hargs:(#[.agg (lE (val x)).toArray,.agg (lE (val y)).toArray]++#[]:Array Value)=#[.agg #[I (val x).1,I (val x).2],.agg #[I (val y).1,I (val y).2]]:=rfl
 rw[hargs]
 refine hc.mono ?_
 rintro e w'⟨ρ',v',rfl,hp,hv⟩
 subst hr
 have hfr:∀b,b<W.heap.size→w'.heap[b]? =W.heap[b]?:=fun b hb=>(hp.frame b hb (by rintro⟨A,e,p,jY,hq,_⟩;cases hq)).1
 refine⟨by rw[hv.ab rfl],w'.drawn-W.drawn,w'.heap.extract W.heap.size w'.heap.size,?_⟩
 have h1:=hp.os
 have h2:=hp.tape
 have h3:=hp.output
 have h4:=hp.size
 clear hp hv
 obtain⟨wh,wt,wd,wo,wu⟩:=W
 obtain⟨ah,at',ad,ao,au⟩:=w'
 simp only at h1 h2 h3 h4 hfr
 simp only[grow,World.drewN,World.mk.injEq]
 refine⟨?_,h2.1,by omega,h1,h3⟩
 apply gb
 intro i
 rw[Array.getElem?_append]
 split
 ·exact hfr i (by assumption)
 ·rw[Array.getElem?_extract]
  split
  ·congr 1;omega
  ·rw[Array.getElem?_eq_none (by omega)]
theorem b6g{P:Program}{kc:FuncId}(hf:∀x y,Fn P kc [.agg #[I x.1,I x.2],.agg #[I y.1,I y.2]] .nil fun r H'=>r=I (cf2 x y)∧St P (.nil:Heap) H' [])(jY off size:Nat)(w:World):CmpLays P kc #[] lE 2 cf2 jY off size w:=b5R (fun x=>x) cf2 hf jY off size w
section
variable {P:Program} {H:Heap} {ρ ρ':Rho} {H':Heap} {w w1 w2:World}
theorem Post.cz(h:Post P ρ H w ρ' H' w1)(hsz:w1.heap.size≤w2.heap.size)(hb:∀b,b<w1.heap.size→w2.heap[b]? =w1.heap[b]?)(h1:w2.os=w1.os)(h2:w2.tape=w1.tape∧w1.drawn≤w2.drawn)(h3:w2.output=w1.output):Post P ρ H w ρ' H' w2 where
 le:=h.le
 rel:=h.rel.other hsz fun A e p hp=>hb _ (h.rel.dom _ _ _ hp).2
 len:=h.len
 size:=dK h.size hsz
 os:=h1.trans h.os
 tape:=⟨h2.1.trans h.tape.1,dK h.tape.2 h2.2⟩
 output:=h3.trans h.output
 frame b hlt hw:=by
  obtain⟨e,hw'⟩:=h.frame b hlt hw
  exact⟨(hb b (dV hlt h.size)).trans e,hw'⟩
 loops b r hr:=by
  obtain⟨r',hr'⟩:=h.loops b r hr
  exact⟨r',by rw[hb b (lZ hr')];exact hr'⟩
 img:=h.img
theorem c0u:∀(l:List (Int×Int))(j:Nat),j<l.length*2→(lE (l.toArray[j/2]!))[j%2]! =(pr l).getD j undef:=by
 intro l
 induction l with
 | nil=>intro j hj;simp at hj
 | cons x l ih=>
   intro j hj
   have e:pr (x::l)=I x.1::I x.2::pr l:=rfl
   rw[e]
   match j with
   | 0=>rfl
   | 1=>rfl
   | j+2=>
     have h1:(j+2)/2=j/2+1:=by omega
     have h2:(j+2)%2=j%2:=by omega
     have:=ih j (by simp at hj;omega)
     rw[h1,h2]
     simp only[List.getD_cons_succ]
     rw[←this]
     congr 2
     simp only[List.getElem!_toArray]
     simp
end
theorem V.func0{ρ:Rho}{k:FuncId}{v':Value}(h:V ρ (.func (.func k) #[] #[]) v'):v'=.func (.func k) #[] #[]:=by
 cases h with
 | v1 h=>cases h with
   | c1 h=>cases h with
     | c0 h=>cases h with
       | flat h=>rfl
     | fn ha hb=>
       rename_i a' b'
       have e1:a'=#[]:=by
        obtain⟨l⟩:=a'
        cases l with
        | nil=>rfl
        | cons=>exact ha.elim
       have e2:b'=#[]:=by
        obtain⟨l⟩:=b'
        cases l with
        | nil=>rfl
        | cons=>exact hb.elim
       rw[e1,e2]
theorem b0e(es:List (Int×Int)):kM (pr es)=true:=by
 unfold kM
 rw[dJ]
 intro c hc
 obtain⟨x,_,hx⟩:=eT.1 hc
 simp only[lE,ej,eF,or_false]at hx
 rcases hx with rfl|rfl<;>rfl
set_option maxRecDepth 10000 in
theorem b8s{P:Program}{K kc:FuncId}{sm:Int×Int→Prop}(hso:a8s P K kc sm){H:Heap}{A i lo ver n:Nat}{ty:TypeId}{pre:List Value}{es:List (Int×Int)}(hg:iT H A=some (.cells (pre++pr es) ty true lo ver))(hlo:lo≤i+(pr es).length)(hpre:pre.length=i)
 (hn:(pr es).length=n*2) (hty:iJ P ty=some 2) (hl:es.length<100000000000) (h0:es≠[]) (hsm:∀x∈es,sm x):
 CallOk P K [.slice (some ⟨A,i,some (i+(pr es).length)⟩) n 2,.func (.func kc) #[] #[]] H (.tuple #[]) (hset H A (.cells (jC (pre++pr es) i (pr (srt es))) ty true (pre++pr es).length ver)):=by
 intro k ρ w args' hr ha
 obtain⟨l⟩:=args'
 match l,ha with
 | [x,f],⟨hx,hf,_⟩=>
   obtain rfl:=V.func0 hf
   have hlen:(pre++pr es).length=i+(pr es).length:=by rw[du,hpre]
   obtain⟨p,c',a,hp,h0',hin,hnc,hac,hpk,rfl⟩:=hx.aq
   rw[iO]at hn
   have hne:0<es.length:=fg.2 h0
   have hnn:n=es.length:=by omega
   subst hnn
   have ha':a=⟨p.b,p.at i,none⟩:=by
    rcases hac with h|h
    ·exact h.1
    ·omega
   subst ha'
   have hp2:ρ A (pre++pr es).length=some p:=by rw[hlen];exact hp
   obtain⟨_,_,hfit,cur,ty',fr,hw,hsz,hfr,hcell⟩:=(hr.cells _ _ _ _ _ _ hg).2 _ _ hp2
   obtain⟨rfl,hd0,_⟩:=hfr rfl
   let d:Array (Int×Int):=es.toArray
   have hds:d.size=es.length:=by simp[d]
   have hfl:=fun j hj=>c0u es j (by simpa using hj)
   have hH:Go.Sort.HoldsK lE 2 w p.b (p.at i) d:=by
    intro j hj
    rw[Go.Sort.size_flatK,hds]at hj
    constructor
    ·have hc:(pre++pr es)[i+j]? =some ((pr es).getD j undef):=by
      rw[dQ (by omega),hpre,eR,dj,dx (by rw[iO];omega)]
      rfl
     obtain⟨c2,hc2,hrel⟩:=hcell (by rw[hlen];exact hlo) (i+j) _ (by rw[hlen,iO];omega) (by omega) hc
     have hsc:iZ ((pr es).getD j undef)=true:=by
      have:=b0e es
      unfold kM at this
      rw[dJ]at this
      apply this
      rw[dj,dx (by rw[iO];omega)]
      exact ga _
     have:=hrel.al hsc
     subst this
     have hat:p.at (i+j)=p.at i+j:=by unfold Place.at;omega
     rw[hat]at hc2
     simp only[World.cell?,hw]
     rw[Go.Sort.get_flatK _ _ _ _ (by rw[hds];exact hj),hfl j hj]
     exact hc2
    ·simp only[World.frozen?,hw]
     simp
   have hcon:=hso p.b (p.at i) c' d w (by simpa [d]using hsm) hH (hr.dom _ _ _ hp).2 (by rw[hds];omega)
   rw[hds]at hcon
   obtain⟨w1,hrun,hpost⟩:=qR hr hg hp2 h0' (.aF (b0e (srt es))) (by rw[hlen,iO,iO,(sF es).length_eq];omega) (by rw[hlen];exact hlo)
   have hcsz:p.at i+(pr (srt es)).length≤cur.size:=by
    rw[iO,(sF es).length_eq,hsz]
    unfold Place.at
    rw[hlen,iO]at hfit
    omega
   have hst:=run_storeCells_at (P:=P) p.b (p.at i) ty' (pr (srt es)) 0 cur w hw (by simpa using hcsz) (All2.aF (ρ:=ρ) (b0e (srt es))).aG
   rw[hst]at hrun
   injection hrun with _ hw1
   subst hw1
   refine callsIn_wide.2 (hcon.mono ?_)
   rintro e w'⟨rfl,m,os,rfl⟩
   refine⟨ρ,_,rfl,?_,.tuple trivial⟩
   have hsl:(srt es).length=es.length:=(sF es).length_eq
   have hml:((d.toList.mergeSort le2)).length=es.length:=by simp[d]
   have hfs:∀j,j<es.length*2→(Go.Sort.flatK lE 2 (d.toList.mergeSort le2).toArray)[j]! =(pr (srt es)).getD j undef:=fun j hj=>by
    rw[Go.Sort.get_flatK _ _ _ _ (by simpa [d]using hj)]
    exact c0u (d.toList.mergeSort le2) j (by rw[hml];exact hj)
   have hFs:(Go.Sort.flatK lE 2 (d.toList.mergeSort le2).toArray).size=es.length*2:=by simp[d]
   unfold sortWorldK Go.Sort.putRowK
   generalize Go.Sort.flatK lE 2 (d.toList.mergeSort le2).toArray=F at hfs hFs ⊢
   have hlt:=lZ hw
   have hh:∀b,b<w.heap.size→(Go.Sort.grow (Go.Sort.putRow id (Go.Sort.ahead w m) p.b (p.at i) F) os).heap[b]? =(Go.Sort.putRow id (Go.Sort.ahead w m) p.b (p.at i) F).heap[b]?:=fun b hb=>by
    have:b<(Go.Sort.putRow id (Go.Sort.ahead w m) p.b (p.at i) F).heap.size:=by simpa [Go.Sort.putRow,Go.Sort.mapBlock,Go.Sort.ahead]using hb
    unfold Go.Sort.grow
    exact eO this
   refine hpost.cz ?_ ?_ rfl ⟨rfl,Nat.le_add_right _ _⟩ rfl
   ·simp[Go.Sort.grow,Go.Sort.putRow,Go.Sort.mapBlock,Go.Sort.ahead]
   ·intro b hbs
    rw[setRow_size]at hbs
    rw[hh b hbs]
    by_cases e:b=p.b
    ·subst e
     rw[setRow_heap w p.b cur _ ty' (0,0) hw]
     have e2:(Go.Sort.putRow id (Go.Sort.ahead w m) p.b (p.at i) F).heap[p.b]? =some (.cells (Go.Sort.putCells id (p.at i) F cur) ty' (0,0)):=by
      simp[Go.Sort.putRow,Go.Sort.mapBlock,Go.Sort.ahead,eY,hw,Go.Sort.onCells]
     rw[e2]
     congr 2
     apply gb
     intro j
     have hseg:=xH cur.toList (pr (srt es)) (p.at i) j (by simpa using hcsz)
     have e3:((List.take (p.at i+0) cur.toList++pr (srt es)++List.drop (p.at i+0+(pr (srt es)).length) cur.toList).toArray)[j]? =(List.take (p.at i) cur.toList++pr (srt es)++List.drop (p.at i+(pr (srt es)).length) cur.toList)[j]?:=by simp
     rw[e3,hseg]
     simp only[Go.Sort.putCells,Array.getElem?_mapIdx,fP]
     rw[iO,hsl]at hcsz ⊢
     by_cases h1:p.at i≤j∧j<p.at i+es.length*2
     ·rw[if_pos h1]
      have hjc:j<cur.size:=by omega
      rw[fj hjc]
      simp only[dS]
      rw[if_pos (by rw[hFs];exact h1),hfs _ (by omega),dj,dx (by rw[iO,hsl];omega)]
      rfl
     ·rw[if_neg h1]
      cases hc:cur[j]? with
      | none=>simp
      | some c=>
        simp only[dS]
        rw[if_neg (by rw[hFs];exact h1)]
    ·rw[setRow_other _ _ _ _ e]
     simp[Go.Sort.putRow,Go.Sort.mapBlock,Go.Sort.ahead,eY,fm e]
theorem b3V{P:Program}{K kc:FuncId}{sm:Int×Int→Prop}(hso:a8s P K kc sm)(hno:rZ P K)(hent0:nN P K){H:Heap}{H0:Base}{os:List Ob}(hS:St P H0 H os)(i:Nat){v:Value}{es:List (Int×Int)}(ho:os[i]? =some ⟨v,2,pr es⟩)(hl:es.length<100000000000)(hsm:∀x∈es,sm x){Q:Value→Heap→Prop}
 (h:∀H1,St P H0 H1 (os.set i ⟨v,2,pr (srt es)⟩)→Q (.tuple #[]) H1):qW P K [v,.func (.func kc) #[] #[]] H Q:=by
 have hent:nN P K:=hent0
 by_cases h0:es=[]
 ·subst h0
  refine⟨.tuple #[],H,hent,?_,h H ?_⟩
  ·intro k ρ w args' hr ha
   obtain⟨l⟩:=args'
   match l,ha with
   | [x,f],⟨hx,hf,_⟩=>
     obtain rfl:=V.func0 hf
     have hown:=hS.own _ (dB ho)
     unfold OwnAt at hown
     rw[if_neg (by simp)]at hown
     have hx0:∃p cap,x=.slice p 0 cap:=by
      rcases hown with⟨h2,_⟩|⟨A,j,ty,lo',ver,pre,m,h2,h3,h4,h5,h6,h7⟩
      ·simp only at h2
       subst h2
       rcases hx.ay with⟨_,_,_,rfl⟩|⟨A,j,e,p,c',a,hh,_⟩
       ·exact⟨_,_,rfl⟩
       ·cases hh
      ·simp only at h5 h6
       subst h6
       have hm:m=0:=by have:(pr []).length=0:=rfl;omega
       subst hm
       obtain⟨p,c',a,_,_,_,_,_,_,rfl⟩:=hx.aq
       exact⟨_,_,rfl⟩
     obtain⟨p,cap,rfl⟩:=hx0
     refine callsIn_wide.2 ((hno p cap _ w).mono ?_)
     rintro e w'⟨rfl,rfl⟩
     exact⟨ρ,_,rfl,.refl hr,.tuple trivial⟩
  ·obtain⟨hi,hoi⟩:=dy.1 ho
   have e:srt []=[]:=List.Perm.eq_nil (sF [])
   rw[e,←hoi,gi]
   exact hS
 ·have hown:=hS.own _ (dB ho)
  unfold OwnAt at hown
  rw[if_neg (by simp)]at hown
  have hne:0<es.length:=fg.2 h0
  rcases hown with⟨_,h3⟩|⟨A,j,ty,lo',ver,pre,m,h2,h3,h4,h5,h6,h7⟩
  ·simp only at h3
   have:=congrArg List.length h3
   rw[iO,dZ]at this
   omega
  ·simp only at h2 h3 h5 h6
   have hsl:(pr (srt es)).length=(pr es).length:=by rw[iO,iO,(sF es).length_eq]
   have hcall:=b8s hso h2 h3 h4 h5 h7 hl h0 hsm
   rw[←h6]at hcall
   refine⟨_,_,hent,hcall,h _ (hS.put i ho ?_ ?_ ?_ ?_)⟩
   ·unfold OwnAt
    rw[if_neg (by simp)]
    refine .inr ⟨A,j,ty,(pre++pr es).length,ver,pre,m,?_,?_,h4,?_,?_,h7⟩
    ·rw[iU _ (jP h2)]
     have:=lX (pr (srt es)) pre (pr es) (by rw[hsl];exact dm _)
     rw[h4]at this
     rw[this,hsl,gP,dA]
    ·simp only[du,h4,hsl];exact dm _
    ·simp only[hsl];exact h5
    ·simp only[hsl];exact h6
   ·rw[jR];exact dm _
   ·intro B' hB hne'
    refine pM fun hh=>hne' ?_
    simp[jY,h6,hh]
   ·intro B' hB
    exact .inl hB
end Go.Ds
namespace Go.Proofs
open Go.Shelf
def Tryz.bE:Go.Shelf.Ren:=⟨fun|6=>159|15=>99|14=>189|28=>139|29=>140|20=>205|21=>206|22=>207|23=>208|24=>209|25=>210|26=>211|27=>212|46=>234|47=>176|48=>177|49=>235|50=>236|57=>249|n=>n,fun|22=>97|24=>54|25=>269|3=>3|39=>64|0=>0|53=>252|55=>48|4=>4|46=>246|45=>245|50=>202|5=>5|9=>9|66=>281|70=>285|76=>308|77=>309|n=>n,fun|n=>n⟩
theorem Tryz.bQ:Go.Proofs.SlLaysF0.n6 Tryz.prog Tryz.bE:={
 mixed:=by kernel_rfl
 f6:=⟨Tryz.f159.name,by decide,Tryz.func159.trans (congrArg some (by kernel_rfl))⟩
 f14:=⟨Tryz.f189.name,by decide,Tryz.func189.trans (congrArg some (by kernel_rfl))⟩
 f15:=Tryz.func99.trans (congrArg some (by kernel_rfl))
 f20:=⟨Tryz.f205.name,by decide,Tryz.func205.trans (congrArg some (by kernel_rfl))⟩
 f21:=⟨Tryz.f206.name,by decide,Tryz.func206.trans (congrArg some (by kernel_rfl))⟩
 f22:=⟨Tryz.f207.name,by decide,Tryz.func207.trans (congrArg some (by kernel_rfl))⟩
 f23:=⟨Tryz.f208.name,by decide,Tryz.func208.trans (congrArg some (by kernel_rfl))⟩
 f24:=⟨Tryz.f209.name,by decide,Tryz.func209.trans (congrArg some (by kernel_rfl))⟩
 f25:=⟨Tryz.f210.name,by decide,Tryz.func210.trans (congrArg some (by kernel_rfl))⟩
 f26:=⟨Tryz.f211.name,by decide,Tryz.func211.trans (congrArg some (by kernel_rfl))⟩
 f27:=⟨Tryz.f212.name,by decide,Tryz.func212.trans (congrArg some (by kernel_rfl))⟩
 f28:=Tryz.func139.trans (congrArg some (by kernel_rfl))
 f29:=Tryz.func140.trans (congrArg some (by kernel_rfl))
 f46:=⟨Tryz.f234.name,by decide,Tryz.func234.trans (congrArg some (by kernel_rfl))⟩
 f47:=Tryz.func176.trans (congrArg some (by kernel_rfl))
 f48:=Tryz.func177.trans (congrArg some (by kernel_rfl))
 f49:=⟨Tryz.f235.name,by decide,Tryz.func235.trans (congrArg some (by kernel_rfl))⟩
 f50:=⟨Tryz.f236.name,by decide,Tryz.func236.trans (congrArg some (by kernel_rfl))⟩
 f57:=⟨Tryz.f249.name,by decide,Tryz.func249.trans (congrArg some (by kernel_rfl))⟩
 t0:=Tryz.underlying0
 a0:=Tryz.isAgg0
 z0:=Tryz.sizeOf0
 v0:=Tryz.zeroValue0
 t3:=Tryz.underlying3
 a3:=Tryz.isAgg3
 z3:=Tryz.sizeOf3
 v3:=Tryz.zeroValue3
 t4:=Tryz.underlying4
 a4:=Tryz.isAgg4
 z4:=Tryz.sizeOf4
 v4:=Tryz.zeroValue4
 t5:=Tryz.underlying5
 a5:=Tryz.isAgg5
 z5:=Tryz.sizeOf5
 v5:=Tryz.zeroValue5
 t9:=Tryz.underlying9
 a9:=Tryz.isAgg9
 z9:=Tryz.sizeOf9
 v9:=Tryz.zeroValue9
 t22:=Tryz.underlying97
 a22:=Tryz.isAgg97
 z22:=Tryz.sizeOf97
 v22:=Tryz.zeroValue97
 t25:=Tryz.underlying269
 a25:=Tryz.isAgg269
 z25:=Tryz.sizeOf269
 v25:=Tryz.zeroValue269
 t39:=Tryz.underlying64
 a39:=Tryz.isAgg64
 z39:=Tryz.sizeOf64
 v39:=Tryz.zeroValue64
 t45:=Tryz.underlying245
 a45:=Tryz.isAgg245
 z45:=Tryz.sizeOf245
 v45:=Tryz.zeroValue245
 t46:=Tryz.underlying246
 a46:=Tryz.isAgg246
 z46:=Tryz.sizeOf246
 v46:=Tryz.zeroValue246
 t50:=Tryz.underlying202
 a50:=Tryz.isAgg202
 z50:=Tryz.sizeOf202
 v50:=Tryz.zeroValue202
 t53:=Tryz.underlying252
 a53:=Tryz.isAgg252
 z53:=Tryz.sizeOf252
 v53:=Tryz.zeroValue252
 t55:=Tryz.underlying48
 a55:=Tryz.isAgg48
 z55:=Tryz.sizeOf48
 v55:=Tryz.zeroValue48
 t66:=Tryz.underlying281
 a66:=Tryz.isAgg281
 z66:=Tryz.sizeOf281
 v66:=Tryz.zeroValue281
 t70:=Tryz.underlying285
 a70:=Tryz.isAgg285
 z70:=Tryz.sizeOf285
 v70:=Tryz.zeroValue285
 t76:=Tryz.underlying308
 a76:=Tryz.isAgg308
 z76:=Tryz.sizeOf308
 v76:=Tryz.zeroValue308
 t77:=Tryz.underlying309
 a77:=Tryz.isAgg309
 z77:=Tryz.sizeOf309
 v77:=Tryz.zeroValue309}
end Go.Proofs
namespace Go.Ds
open Go.Proofs Go.Proofs.Tryz Go.Shelf Go.RowKit Go.Lib Go.Sort
theorem b7p(x:Int×Int):∀v∈lE x,v.oneCell'=true:=by
 intro v hv
 simp[lE]at hv
 rcases hv with rfl|rfl<;>rfl
theorem c5t(kc:FuncId)(eg:∀args w,(callFunc kc args).run prog w=.ok (.enter kc args) w)(hf:∀x y,Fn prog kc [.agg #[I x.1,I x.2],.agg #[I y.1,I y.2]] .nil fun r H'=>r=I (cf2 x y)∧St prog (.nil:Heap) H' []):a8s prog 159 kc (fun _=>True):=
 fun jY off cap d w _ hH hblk hsz=>by
  have h:=AnyQ.slices_SortFunc_total Tryz.bQ 2 Tryz.isAgg54 Tryz.sizeOf54 lE (fun _=>rfl) b7p cf2 c5O kc #[] jY off cap d w eg (b6g hf jY off d.size w) hH hblk hsz c4N
  rw[c2a]at h
  exact h
theorem c5s:rZ prog 159:=fun p cap fv w=>AnyF.slices_SortFunc_none {Tryz.bQ with} p cap fv w
def c1A(K kc:FuncId):Prop:=∀{H:Heap}{B:Base}{os:List Ob}(hS:St prog B H os)(i:Nat){v:Value}{es:List (Int×Int)}(ho:os[i]? =some ⟨v,2,pr es⟩)(hl:es.length<100000000000){Q:Value→Heap→Prop}
    (h:∀H1,St prog B H1 (os.set i ⟨v,2,pr (srt es)⟩)→Q (.tuple #[]) H1),qW prog K [v,.func (.func kc) #[] #[]] H Q
theorem c5Z:nN prog 159:=⟨Tryz.f159,func159,by kernel_rfl,by kernel_rfl⟩
theorem c3b:c1A 159 187:=fun hS i _ _ ho hl _ h=>b3V (c5t 187 (enters_of func187 (by kernel_rfl) rfl) fun x y=>b8J x y) c5s c5Z hS i ho hl (fun _ _=>trivial) h
end Go.Ds
namespace Go.Ds
open Go.Proofs Go.Proofs.Tryz
variable {H:Heap}
set_option maxRecDepth 10000
theorem a4Z{p:Nat→Bool}{n j:Nat}(h:oY p n=(j:Int)):j<n:=by
 unfold oY at h
 split at h
 ·rename_i q hq
  have:=dG.1 (gQ hq)
  omega
 ·omega
theorem b8p(g:Seg)(hg:g.In H)(key:Int)(A:Nat)(hA:Var H A 1 [I key]):Fn prog 186 [.agg #[I g.lo,I g.hi,g.dv],ptr A 0 1] H fun r H'=>r=.bool (decide (g.lo≤key)&&decide (key≤g.hi))∧St prog H H' []:=by
 refine .aH func186 rfl (by kernel_rfl) (m:=14) rfl fun l hn g0 g1=> ?_
 simp(disch:=omega) only[↓RA,RB,simprocAttr,g0]
 refine(sR H).eNew 3 [I g.lo,I g.hi,g.dv] rfl rfl (by simp[OC,((sR H).sl hg.1).cells.2.1]) a2s fun A1 H1 hS1=> ?_
 simp only[RT]at hS1
 simp(disch:=omega) only[↓RA,RZ,simprocAttr,hn,g1,hS1.ld 0 rfl,(hS1.va hA).ld]
 refine jQ (fun h1=> ?_) (fun h1=> ?_)
 ·simp(disch:=omega) only[↓RA,RZ,simprocAttr,hn,g1,(hS1.va hA).ld,hS1.ld 0 rfl,c0G,h1]
  first|exact hS1.forget|exact⟨by simp[h1],hS1.forget⟩
 simp(disch:=omega) only[↓RA,RZ,simprocAttr,hn,c0G,h1]
 first|exact hS1.forget|exact⟨by simp[],hS1.forget⟩
theorem b9j(v:Value)(xs:List Seg)(hv:Sl 3 Seg.cells H v xs)(hl:xs.length<1000000000)(k:FuncId)(caps:List Value)(p:Nat→Bool)
 (hf:∀j H1,j<xs.length→St prog H H1 []→Fn prog k (.agg #[I (iG xs j).lo,I (iG xs j).hi,(iG xs j).dv]::caps) H1 fun r H2=>r=.bool (p j)∧St prog H1 H2 []):
 Fn prog 185 [v,.func (.func k) #[] caps.toArray] H fun r H'=>r=I (oY p xs.length)∧St prog H H' []:=by
 refine .aH func185 rfl (by kernel_rfl) (m:=19) rfl fun l hn g0 g1=> ?_
 simp(disch:=omega) only[↓RA,RZ,simprocAttr,hn,g0,((sR H).sl hv).len]
 refine Wp.aj (fun n l H'=>l.length=19∧get l 0=v∧get l 1=.func (.func k) #[] caps.toArray∧get l 7=I xs.length∧∃(j:Nat),(n+j=xs.length∧∀q,q<j→p q=false)∧get l 8=I j∧St prog H H' []) xs.length ?_ ?_
 ·simp(disch:=omega) only[RB,RC,simprocAttr,hn,g0,g1]
  exact⟨0,⟨by omega,fun q hq=>absurd hq (dX _)⟩,rfl,(sR H)⟩
 rintro n l H1⟨hn,g0,g1,g7,j,⟨hi,h0⟩,g8,hS1⟩
 simp(disch:=omega) only[↓RA,RB,simprocAttr,hn,g7,g8]
 refine iF (fun h=> ?_) (fun h=> ?_)
 ·simp(disch:=omega) only[↓RA,RZ,simprocAttr,hn,g0,g1,g8,(hS1.sl hv).idx,(hS1.sl hv).ae,Seg.cells,h]
  refine hS1.cF (hf j _ (by omega) hS1) fun H2 hS2=> ?_
  simp(disch:=omega) only[↓RA,RZ,simprocAttr,hn,h]
  refine jD (fun hp=> ?_) (fun hp=> ?_)
  ·simp(disch:=omega) only[↓RA,RZ,simprocAttr,hn,c0l,h,hp]
   exact⟨by rw[sP p xs.length j (by omega) hp h0],hS2⟩
  simp(disch:=omega) only[↓RA,RZ,simprocAttr,hn,g0,g1,g7,g8,h,hp]
  exact⟨n-1,by omega,j+1,⟨by omega,fun q hq=>by rcases dw.1 hq with e|e;(· exact h0 q e);(· rw[e];exact hp)⟩,by simp,hS2⟩
 simp(disch:=omega) only[↓RA,RZ,simprocAttr,hn,c0l,h]
 exact⟨by rw[sV p xs.length fun q hq=>h0 q (by omega)],hS1⟩
theorem a9i{H0:Heap}{os0:List Ob}(hS0:St prog H0 H os0)(s:Stp)(hs0:s.In H0)(key:Int):Fn prog 152 [.agg #[.string s.name,I s.num,I s.den,s.gv],I key] H fun r H'=>∃g:Seg,r=.agg #[I g.lo,I g.hi,g.dv]∧g.In H0∧g.draws=b2S s key∧St prog H H' []:=by
 have hs:=hs0.ag hS0
 have hl:=hs.2.2
 refine .aH func152 rfl (by kernel_rfl) (m:=18) rfl fun l hn g0 g1=> ?_
 simp(disch:=omega) only[↓RA,RB,simprocAttr,g0]
 refine(sR H).eNew 4 [(.string s.name),I s.num,I s.den,s.gv] rfl rfl (by simp[OC,((sR H).sl hs.1).cells.2.1]) a3I fun A1 H1 hS1=> ?_
 simp only[RT]at hS1
 simp(disch:=omega) only[↓RA,RB,simprocAttr,g1]
 refine hS1.eNew 1 [I key] rfl rfl rfl tS3 fun A2 H2 hS2=> ?_
 simp only[RT]at hS2
 simp(disch:=omega) only[↓RA,RZ,simprocAttr]
 refine hS2.eNew 3 [I 0,I 0,(.slice none 0 0)] rfl rfl rfl a2s fun A3 H3 hS3=> ?_
 simp only[RT]at hS3
 simp(disch:=omega) only[↓RA,RZ,simprocAttr,hn,hS3.ld 0 rfl]
 have hA:=hS3.var 1 rfl
 have hSc:=hS3
 refine hS3.cF (b9j s.gv s.segs (hS3.sl hs.1) hs.2.2 186 [ptr A2 0 1] (a8E s key) (fun j H1 hj hS'=>b8p _ ((hs.2.1 _ (iM hj)).ag (hSc.trans hS')) key A2 (hA.ag hS'.ag))) fun H4 hS4=> ?_
 simp(disch:=omega) only[↓RA,RB,simprocAttr,hn]
 refine iF (fun h=> ?_) (fun h=> ?_)
 ·simp(disch:=omega) only[↓RA,RZ,simprocAttr,hn,c1x,h]
  refine hS4.aa 2 rfl [I 0,I 0,(.slice none 0 0)] rfl rfl a2s (by simp) fun H5 hS5=> ?_
  simp only[RT]at hS5
  simp(disch:=omega) only[↓RA,RZ,simprocAttr,hn,c0L,hS5.ae 2 rfl,h]
  exact⟨⟨0,0,.slice none 0 0,[]⟩,rfl,⟨⟨.inl ⟨rfl,rfl⟩,fun _=>rfl,by decide⟩,by simp⟩,by rw[b2S,if_pos h],hS5.forget⟩
 obtain⟨j,hj⟩:∃j:Nat,oY (a8E s key) s.segs.length=j:=⟨(oY (a8E s key) s.segs.length).toNat,by omega⟩
 have hjl:j<s.segs.length:=a4Z hj
 simp(disch:=omega) only[↓RA,RZ,simprocAttr,hn,hS4.ld 0 rfl,(hS4.sl hs.1).idx,(hS4.sl hs.1).ae,Seg.cells,hj]
 refine hS4.aa 2 rfl [I (iG s.segs j).lo,I (iG s.segs j).hi,(iG s.segs j).dv] rfl (by simp[OC,(hS4.sl (hs.2.1 (iG s.segs j) (iM (by omega))).1).cells.2.1]) a2s (by simp) fun H6 hS6=> ?_
 simp only[RT]at hS6
 simp(disch:=omega) only[↓RA,RZ,simprocAttr,hn,c0L,hS6.ae 2 rfl,hj]
 exact⟨iG s.segs j,rfl,hs0.2.1 _ (iM hjl),by rw[b2S,if_neg h,hj];rfl,hS6.forget⟩
theorem b9b(rv:Value)(rks:List Rk)(hr:Sl 6 Rk.cells H rv rks)(hrk:∀r∈rks,r.In H)(hl:rks.length<1000000000)(d:Drw)(key:Int):
 Fn prog 153 [rv,.agg #[I d.rank,I d.shift],I key] H fun r H'=>r=.tuple #[.agg #[I (qB rks d key).1,I (qB rks d key).2],.bool (a0R rks d key)]∧St prog H H' []:=by
 refine .cB func153 rfl (by kernel_rfl) (m:=48) rfl fun l hn g0 g1 g2=> ?_
 simp(disch:=omega) only[↓RA,RB,simprocAttr,g1]
 refine(sR H).eNew 2 [I d.rank,I d.shift] rfl rfl rfl a0F fun A1 H1 hS1=> ?_
 simp only[RT]at hS1
 simp(disch:=omega) only[↓RA,RZ,simprocAttr]
 refine hS1.eNew 2 [I 0,I 0] rfl rfl rfl wH fun A2 H2 hS2=> ?_
 simp only[RT]at hS2
 simp(disch:=omega) only[↓RA,RZ,simprocAttr,hn,hS2.ld 0 rfl]
 refine iS (fun h1=> ?_) (fun h1=> ?_)
 ·simp(disch:=omega) only[↓RA,RZ,simprocAttr,hn,c0i,h1]
  refine hS2.aa 1 rfl [I 0,I 0] rfl rfl wH (by simp) fun H3 hS3=> ?_
  simp only[RT]at hS3
  simp(disch:=omega) only[↓RA,RZ,simprocAttr,hn,b0i,hS3.ae 1 rfl,h1]
  exact⟨by rw[qB,a0R,if_pos (by omega),decide_eq_true (by omega)];rfl,hS3.forget⟩
 simp(disch:=omega) only[↓RA,RZ,simprocAttr,hn,g0,hS2.ld 0 rfl,(hS2.sl hr).len,h1]
 refine iF (fun h2=> ?_) (fun h2=> ?_)
 ·simp(disch:=omega) only[↓RA,RZ,simprocAttr,hn,c0i,h1,h2]
  refine hS2.aa 1 rfl [I 0,I 0] rfl rfl wH (by simp) fun H4 hS4=> ?_
  simp only[RT]at hS4
  simp(disch:=omega) only[↓RA,RZ,simprocAttr,hn,b0i,hS4.ae 1 rfl,h1,h2]
  exact⟨by rw[qB,a0R,if_pos (by omega),decide_eq_true (by omega)];rfl,hS4.forget⟩
 obtain⟨j,hj⟩:∃j:Nat,d.rank=j:=⟨d.rank.toNat,by omega⟩
 have hjl:j<rks.length:=by omega
 have hp:qB rks d key=((j:Int),sZ (sZ (key+d.shift)-(iG rks j).first)):=by rw[qB,if_neg (by omega),hj];rfl
 have hh:a0R rks d key=(decide (0≤sZ (sZ (key+d.shift)-(iG rks j).first))&&decide (sZ (sZ (key+d.shift)-(iG rks j).first)<(iG rks j).wind.length)):=by
  rw[a0R,hp,decide_eq_false (by omega),hj]
  rfl
 rw[hp,hh]
 have hw:=(hrk _ (iM hjl)).2
 simp(disch:=omega) only[↓RA,simprocAttr,hj]
 refine Wp.drw kJ (by kernel_rfl) ?_
 simp(disch:=omega) only[↓RA,RZ,simprocAttr,hn,g2]
 simp(disch:=omega) only[↓RA,RZ,simprocAttr,hn,g0,hS2.ld 0 rfl,(hS2.sl hr).idx,(hS2.sl hr).bp,(hS2.sl hr).ld,Rk.cells,hj]
 refine Wp.aL kJ [(10,18),(13,18),(14,18)] (by kernel_rfl) (by kernel_rfl) ?_
 simp(disch:=omega) only[↓RA,RZ,simprocAttr,hn,hS2.ld 0 rfl,a5t,hj]
 refine jQ (fun h3=> ?_) (fun h3=> ?_)
 ·skip
  simp(disch:=omega) only[↓RA,RZ,simprocAttr,hn,g0,hS2.ld 0 rfl,(hS2.sl hr).idx,(hS2.sl hr).bp,(hS2.sl hr).ld,Rk.cells,(hS2.sl (hrk (iG rks j) (iM (by omega))).1).len,hj,h3]
  refine hS2.aa 1 rfl [I j,_] rfl rfl wH (by simp) fun H5 hS5=> ?_
  simp only[RT]at hS5
  simp(disch:=omega) only[↓RA,RZ,simprocAttr,hn,hS5.ld 0 rfl,Rk.cells,(hS5.sl hr).ld,(hS5.sl (hrk (iG rks j) (iM (by omega))).1).len,b0i,hS5.ae 1 rfl,hj,h3]
  exact hS5.forget
 simp(disch:=omega) only[↓RA,RZ,simprocAttr,hn,h3]
 refine hS2.aa 1 rfl [I j,_] rfl rfl wH (by simp) fun H6 hS6=> ?_
 simp only[RT]at hS6
 simp(disch:=omega) only[↓RA,RZ,simprocAttr,hn,b0i,hS6.ae 1 rfl,h3]
 first|exact hS6.forget|exact⟨by rw[gg],hS6.forget⟩
theorem b1x{B:Base}{v:Value}{es:List (Int×Int)}(hS:St prog B H [⟨v,2,pr es⟩])(hl:es.length<1000000):
 Fn prog 154 [v] H fun r H'=>∃rest:List Value,(∀b,jY r=some b→jY v=some b)∧(∀H2,RdAt H2 v 2 (pr (dd (srt es))++rest)→RdAt H2 r 2 (pr (dd (srt es))))∧St prog B H' [⟨v,2,pr (dd (srt es))++rest⟩]:=by
 refine .aS func154 rfl (by kernel_rfl) (m:=7) rfl fun l hn g0=> ?_
 simp(disch:=omega) only[↓RA,RZ,simprocAttr,hn,g0]
 refine c3b hS 0 rfl (Nat.lt_trans hl (by decide)) fun H1 hS1=> ?_
 simp only[gf]at hS1
 simp(disch:=omega) only[↓RA,RZ,simprocAttr,hn,g0]
 refine iR (a5V hS1 (by rw[a1o];exact Nat.lt_trans hl (by decide))) ?_
 rintro r H2⟨rest,hb,hrd,hS2⟩
 have hrc:=(hrd H2 (hS2.rd 0 rfl)).cells
 simp(disch:=omega) only[↓RA,RB,simprocAttr,hn,c2K]
 exact⟨rest,hb,hrd,hS2⟩
theorem b3P{a b:Int}{v:Value}{α:Type}{n:Nat}{cel:α→List Value}{xs:List α}(h:Sl n cel H v xs):wE prog 179 (.agg #[I a,I b,v]) 2=some v:=by
 rcases h.rd with⟨rfl,_⟩|⟨A,i,e,row,ty,rw,lo,ver,n,_,_,_,_,_,_,rfl⟩<;>kernel_rfl
theorem b7b(rv:Value)(rks:List Rk)(hr:Sl 6 Rk.cells H rv rks)(hrk:∀r∈rks,r.In H)(hl:rks.length<1000000000)(s:Stp)(hs:s.In H)(hs2:∀g∈s.segs,g.draws.length≤8)(key:Int):
 Fn prog 108 [rv,.agg #[.string s.name,I s.num,I s.den,s.gv],I key] H fun r H'=>Slx 2 lE H' (fun B=>H.length≤B) r (a0c rks s key)∧St prog H H' []:=by
 refine .cB func108 rfl (by kernel_rfl) (m:=36) rfl fun l hn g0 g1 g2=> ?_
 simp(disch:=omega) only[↓RA,RB,simprocAttr,g1]
 refine(sR H).eNew 4 [(.string s.name),I s.num,I s.den,s.gv] rfl rfl (by simp[OC,((sR H).sl hs.1).cells.2.1]) a3I fun A1 H1 hS1=> ?_
 simp only[RT]at hS1
 simp(disch:=omega) only[↓RA,RZ,simprocAttr,hn,g2,hS1.ae 0 rfl]
 refine iR (a9i hS1 s hs key) ?_
 rintro r H2⟨g,rfl,hgi,hgd,hT1⟩
 have hS2:=hS1.trans hT1
 simp only[RT]at hS2
 have hgl:=hgi.2
 have hg8:g.draws.length≤8:=by
  rw[hgd]
  unfold b2S
  split
  ·simp
  ·rename_i h
   exact hs2 _ (iM (a4Z (p:=a8E s key) (n:=s.segs.length) (by omega)))
 simp(disch:=omega) only[↓RA,RZ,simprocAttr,hn,b3P (hS2.sl hgi.1),(hS2.sl hgi.1).len]
 have hS3:=hS2.nil 1
 simp only[RT]at hS3
 refine Wp.aj (fun n l H'=>l.length=36∧get l 0=rv∧get l 2=I key∧get l 6=(.slice none 0 0)∧get l 15=g.dv∧get l 16=I g.draws.length∧∃(i:Nat)(ov:Value),(n+i=g.draws.length)∧get l 17=I i∧get l 7=ov∧St prog H H' [⟨ptr A1 0 4,0,[(.string s.name),I s.num,I s.den,s.gv]⟩,⟨ov,2,pr (((g.draws.take i).filter fun d=>a0R rks d key).map fun d=>qB rks d key)⟩]) g.draws.length ?_ ?_
 ·simp(disch:=omega) only[RB,RC,simprocAttr,hn,g0,g2]
  exact⟨0,_,by omega,rfl,rfl,hS3⟩
 rintro n l H3⟨hn,g0,g2,g6,g15,g16,i,ov,hi,g17,g7,hS4⟩
 simp(disch:=omega) only[↓RA,RB,simprocAttr,hn,g16,g17]
 refine iF (fun q1=> ?_) (fun q1=> ?_)
 ·simp(disch:=omega) only[↓RA,RZ,simprocAttr,hn,g15,g17,(hS4.sl hgi.1).idx,(hS4.sl hgi.1).ae,Drw.cells,q1]
  refine hS4.eNew 2 [I 0,I 0] rfl rfl rfl a0F fun A2 H4 hS5=> ?_
  simp only[RT]at hS5
  simp(disch:=omega) only[↓RA,RZ,simprocAttr,hn,q1]
  refine hS5.aa 2 rfl [I (iG g.draws i).rank,I (iG g.draws i).shift] rfl rfl a0F (by simp) fun H5 hS6=> ?_
  simp only[RT]at hS6
  simp(disch:=omega) only[↓RA,RZ,simprocAttr,hn,g0,g2,hS6.ae 2 rfl,q1]
  refine hS6.cF (b9b rv rks (hS6.sl hr) (fun r hr'=>(hrk r hr').ag hS6) hl (iG g.draws i) key) fun H6 hS7=> ?_
  have htk:=mS g.draws i (by omega)
  have hfl:((g.draws.take i).filter fun d=>a0R rks d key).length≤i:=by
   refine dK (fc _ _) ?_
   simp
   omega
  simp(disch:=omega) only[↓RA,RZ,simprocAttr,hn,q1]
  refine hS7.eNew 2 [I 0,I 0] rfl rfl rfl wH fun A3 H7 hS8=> ?_
  simp only[RT]at hS8
  simp(disch:=omega) only[↓RA,RZ,simprocAttr,hn,q1]
  refine hS8.aa 3 rfl [I (qB rks (iG g.draws i) key).1,I (qB rks (iG g.draws i) key).2] rfl rfl wH (by simp) fun H8 hS9=> ?_
  simp only[RT]at hS9
  simp(disch:=omega) only[↓RA,RZ,simprocAttr,hn,q1]
  refine jD (fun q2=> ?_) (fun q2=> ?_)
  ·skip
   simp(disch:=omega) only[↓RA,RZ,simprocAttr,hn,g7,hS9.ae 3 rfl,q1,q2]
   refine hS9.ak [I (qB rks (iG g.draws i) key).1,I (qB rks (iG g.draws i) key).2] c2D c4V rfl rfl (by simp[Value.cells]) rfl rfl (by decide) (by decide) fun w1 H9 hS10=> ?_
   simp only[RT]at hS10
   simp(disch:=omega) only[↓RA,RZ,simprocAttr,hn,q1,q2]
   refine hS10.av 1 rfl (hS10.rd 4 rfl) c2D (by rw[iO];simp;omega) fun w2 H10 hS11=> ?_
   simp only[RT]at hS11
   simp(disch:=omega) only[↓RA,RZ,simprocAttr,hn,g0,g2,g6,g15,g16,g17,q1,q2]
   refine⟨n-1,by omega,i+1,w2,by omega,by simp,rfl,?_⟩
   rw[htk,fw,dN,lF]
   have e:([iG g.draws i].filter fun d=>a0R rks d key)=[iG g.draws i]:=by simp[q2]
   rw[e]
   exact hS11.pick [0,1] (by decide) rfl
  simp(disch:=omega) only[↓RA,RZ,simprocAttr,hn,g0,g2,g6,g15,g16,g17,g7,q1,q2]
  refine⟨n-1,by omega,i+1,ov,by omega,by simp,rfl,?_⟩
  rw[htk,fw,dN,lF]
  have e:([iG g.draws i].filter fun d=>a0R rks d key)=[]:=by simp[q2]
  rw[e]
  simp only[pr,fN,eU,dA]
  exact hS9.pick [0,1] (by decide) rfl
 simp(disch:=omega) only[↓RA,RZ,simprocAttr,hn,g7,q1]
 have hii:i=g.draws.length:=by omega
 subst hii
 have hfl:((g.draws.filter fun d=>a0R rks d key).map fun d=>qB rks d key).length≤8:=by
  rw[dC]
  exact dK (fc _ _) hg8
 rw[eo]at hS4
 have hM1:=hS4.pick (os':=[⟨ov,2,_⟩]) [1] (by decide) rfl
 have hR1:=hS4.pick (os':=[⟨ov,2,_⟩,⟨ptr A1 0 4,0,_⟩]) [1,0] (by decide) rfl
 refine iR (b1x (es:=(g.draws.filter fun d=>a0R rks d key).map fun d=>qB rks d key) hM1.aO (by omega)) ?_
 rintro r H11⟨rest,hb,hrd,hT3⟩
 have hS12:=hR1.frame hT3
 simp only[RT]at hS12
 have hrr:=hrd _ (hS12.rd 0 rfl)
 have hrc:=hrr.cells
 simp(disch:=omega) only[↓RA,RZ,simprocAttr,hn,c3s,q1]
 refine⟨⟨⟨?_,kI,by decide⟩,fun b h=> ?_⟩,hS12.forget⟩
 ·unfold a0c
  rw[←hgd]
  exact hrr
 ·rcases hS12.new _ (eX ..) b (hb b h)with h|h
  ·exact h
  ·exact h.elim
end Go.Ds
namespace Go.Ds
open Go.Proofs
variable {H:Heap}
set_option maxRecDepth 10000
set_option maxHeartbeats 1000000
theorem c3k{α:Type}[Inhabited α][DecidableEq α](l:List α):(dd l).length≤l.length:=b6O l l.length
theorem b2T(rs:List Rk)(s:Stp)(key:Int)(h:∀g∈s.segs,g.draws.length≤8):(a0c rs s key).length≤8:=by
 unfold a0c
 refine dK (c3k _) ?_
 rw[a1o,dC]
 refine dK (fc _ _) ?_
 unfold b2S
 split
 ·simp
 ·exact h _ (iM (a4Z (p:=a8E s key) (n:=s.segs.length) (by omega)))
end Go.Ds
namespace Go.Ds
open Go.Proofs
variable {H:Heap}
set_option maxRecDepth 10000
theorem Sl.bu{α:Type}{n:Nat}{cel:α→List Value}{v:Value}{xs:List α}(h:Sl n cel H v xs):jL v=true:=by
 rcases h.rd with⟨rfl,_⟩|⟨A,i,e,row,ty,rw,lo,ver,n,_,_,_,_,_,_,rfl⟩<;>rfl
theorem a2k{o:Org}{rg:Reg}(h:a2D o rg=0):organE o=0∧rg.stops.length=o.dvs.length:=by
 unfold a2D at h
 split at h
 ·rename_i hh;exact absurd h hh
 rename_i h1
 split at h
 ·omega
 exact⟨dI.1 h1,by omega⟩
end Go.Ds
namespace Go.Ds
open Go.Proofs
structure Ctl where
 kind:Int
 dv:Int
 ix:Int
 deriving Inhabited,DecidableEq
def Ctl.cells(c:Ctl):List Value:=[I c.kind,I c.dv,I c.ix]
def oU(n:Nat):List Nat:=(List.range 64).filter fun i=>n.testBit i
def qZ(o:Org)(i:Nat):List Ct:=(List.range ((iG o.dvs i).hi-(iG o.dvs i).lo+1).toNat).map fun(k:Nat)=>((i:Int),(iG o.dvs i).lo+(k:Int))
def nV(o:Org):List Ct:=(List.range o.dvs.length).flatMap (qZ o)
end Go.Ds
namespace Go.Ds
open Go.Proofs
variable {H:Heap}
set_option maxRecDepth 10000
set_option maxHeartbeats 1000000
theorem Wp.bR{P:Program}{c c':Code}{l l':List Value}{Q:nA}(hc:c'=c)(hl:l'=l)(h:SW P c l H Q):Wp P c' l' H Q:=by
 subst hc hl;exact h.wp
theorem Wp.cL{P:Program}{c:Code}{l:List Value}{Q:nA}(h:∀l',l'=l→Wp P c l' H Q):Wp P c l H Q:=h l rfl
theorem Wp.cA{P:Program}{t:Tmp}{ps:Array Tmp}{assign body:Code}{l:List Value}{Q:nA}{k:FuncId}{captured:List Value}(hg:get l t=.func (.func k) #[] captured.toArray)
 (h:∀r:Loop,r.state=.ready→r.pending=none→r.tmps=l.toArray→r.params=ps→r.assign=assign→r.body=body→
   FnS P k ([.func (.yield H.length) #[] #[]]++captured) (H.cons (.loop r)) (b5Q P l H.length Q)):Wp P (.rangeFunc (.tmp t) ps assign body) l H Q:=
 Wp.range (first:=[]) rfl hg (h (b1b l ps assign body) rfl rfl rfl rfl rfl rfl)
theorem Lp.left{P:Program}{B:Base}{L:Nat}{r:Loop}{ls rest:List Ob}(h:Lp P B L r H (ls++rest)):Lp P B L r H ls:=h.sub (List.sublist_append_left _ _)
theorem OwnAt.var{P:Program}{A n:Nat}{cs:List Value}(h:OwnAt P H ⟨ptr A 0 n,0,cs⟩):Var H A n cs:=by
 unfold OwnAt at h
 rw[if_pos rfl]at h
 rcases h with⟨A',ty,lo,ver,h1,h2,h3⟩|⟨A',es,ck,ver,_,_,h3,_⟩
 ·simp only[ptr,Value.pointer.injEq,dH,iE]at h3
  obtain⟨rfl,_,hn⟩:=h3
  exact⟨hn,ty,true,lo,ver,h1,h2⟩
 ·cases h3
theorem uG{n i:Nat}(h:i<n):∃t,List.range n=List.range i++i::t:=by
 refine⟨(List.range n).drop (i+1),?_⟩
 have h1:(List.range n).take i=List.range i:=by rw[List.take_range,gD (by omega)]
 have h2:=fz (l:=List.range n) (i:=i) (by simpa using h)
 rw[List.getElem_range]at h2
 rw[←h1,←h2,fQ]
def wP(o:Org)(i:Nat):Nat:=((iG o.dvs i).hi-(iG o.dvs i).lo+1).toNat
def kAt(o:Org)(i k:Nat):Ct:=((i:Int),(iG o.dvs i).lo+(k:Int))
def sU(o:Org)(i k:Nat):List Ct:=(List.range i).flatMap (qZ o)++(List.range k).map (kAt o i)
theorem b1B(o:Org)(i k:Nat):sU o i (k+1)=sU o i k++[kAt o i k]:=by
 unfold sU
 rw[eN,dN,ee]
 rfl
theorem a0q(o:Org)(i:Nat):sU o i (wP o i)=(List.range (i+1)).flatMap (qZ o):=by
 unfold sU
 rw[eN,dD,dL,eU,dA]
 rfl
theorem a9N(o:Org){i k:Nat}(hi:i<o.dvs.length)(hk:k<wP o i):∃e,nV o=sU o i k++kAt o i k::e:=by
 obtain⟨t1,e1⟩:=uG hi
 obtain⟨t2,e2⟩:=uG hk
 refine⟨t2.map (kAt o i)++t1.flatMap (qZ o),?_⟩
 unfold nV sU
 rw[e1,dD,dL]
 have:qZ o i=(List.range (wP o i)).map (kAt o i):=rfl
 rw[this,e2,dN,dY]
 simp
def b5g(x n:Nat):List Nat:=(List.range n).filter fun i=>x.testBit i
theorem a6Y(x n:Nat):(b5g x n).length≤n:=by
 unfold b5g
 refine dK (fc _ _) ?_
 simp
abbrev mZ(l:List Ctl):List Value:=l.flatMap Ctl.cells
theorem lP(l:List Ctl):(mZ l).length=l.length*3:=jF (n:=3) (fun _=>rfl) l
structure Pv where
 v:Value
 l:List Ct
 deriving Inhabited
def Pv.cells(p:Pv):List Value:=[p.v]
def Pv.Ix(H:Heap)(X:Nat→Prop)(p:Pv):Prop:=Slx 2 lE H X p.v p.l
theorem Pv.Ix.step{H':Heap}{X Y:Nat→Prop}{p:Pv}(h:p.Ix H X)(hk:Kept H X H' Y):p.Ix H' Y:=Slx.step h hk
theorem Kept.and{H':Heap}{X Y:Nat→Prop}(Q:Nat→Prop)(h:Kept H X H' Y):Kept H (fun B=>Q B∧X B) H' (fun B=>Q B∧Y B):=
 fun B hX hB=>⟨(h B hX.2 hB).1,hX.1,(h B hX.2 hB).2⟩
theorem b6B{o:Org}(hf:o.Fine):(nV o).length≤1024:=by
 have key:∀n,n≤o.dvs.length→((List.range n).flatMap (qZ o)).length≤n*128:=by
  intro n
  induction n with
  | zero=>intro _;simp
  | succ n ih=>
    intro hn
    have h1:=ih (by omega)
    have h2:=hf.keys n (by omega)
    have h3:(qZ o n).length=wP o n:=by simp[qZ,wP]
    have h4:wP o n≤128:=by unfold wP;omega
    rw[eN,dD,dL,eU,dA,du]
    omega
 have:=key o.dvs.length (dm _)
 have:=hf.dlen
 unfold nV
 omega
theorem Fn.tr{P:Program}{k:FuncId}{args:List Value}{R:Value→Heap→Prop}(h:Fn P k args H R):Fn P k args H fun v H'=>True∧R v H':=by
 simpa using h
theorem St.bH{P:Program}{H0:Base}{os:List Ob}(hS:St P H0 H os){t:TypeId}{size bytes:Nat}{K:Value→Heap→Prop}(ha:nF P t=some (size+1,bytes))(h:∀v H1,St P H0 H1 (os++[⟨v,size+1,[]⟩])→K v H1):rS P H t 0 [] K:=by
 unfold nF at ha
 cases he:iL P t with
 | none=>rw[he]at ha;cases ha
 | some elem=>
 rw[he]at ha
 simp only[dh]at ha
 cases hsz2:iJ P elem with
 | none=>rw[hsz2]at ha;cases ha
 | some sz=>
 rw[hsz2]at ha
 simp only[dh]at ha
 cases hby:nQ P elem with
 | none=>rw[hby]at ha;cases ha
 | some by'=>
 rw[hby]at ha
 simp only[dh]at ha
 cases hz2:jG P elem with
 | none=>rw[hz2]at ha;cases ha
 | some z=>
 rw[hz2]at ha
 simp only[dh]at ha
 split at ha
 case isFalse=>cases ha
 simp only[dH,gE]at ha
 obtain⟨rfl,rfl⟩:=ha
 refine⟨.slice (some ⟨H.length,0,some 0⟩) 0 (size+1),rN H elem [],?_,h _ _ (hS.add ?_ ?_ ?_ ?_)⟩
 ·unfold xG
  simp only[he,hsz2,hz2,dh]
  rw[if_pos (by simp)]
 ·rw[lL]
  unfold OwnAt
  rw[if_neg (eM _)]
  exact .inr ⟨_,0,elem,_,0,[],0,iQ H _,by simp,rfl,by simp,by simp,hsz2⟩
 ·rw[lL];simp[pD]
 ·rw[lL];exact fun B hB=>jU _ hB
 ·intro B hB
  simp[jY]at hB
  omega
theorem c3v(i:Nat)(hi:i<64):IntKind.wrap .u64 (1*2^min i (IntKind.bits .u64))=((2^i:Nat):Int):=by
 have e:IntKind.bits .u64=64:=rfl
 rw[e,gD (by omega),Int.one_mul]
 have h1:((2^i:Nat):Int)=2^i:=by simp
 rw[←h1]
 have h2:2^i≤2^63:=gJ (by decide) (by omega)
 have h5:((2^i:Nat):Int)≤((2^63:Nat):Int):=Int.ofNat_le.2 h2
 exact qS _ (Int.natCast_nonneg _) (Int.lt_of_le_of_lt h5 (by decide))
def Pv.In(H:Heap)(p:Pv):Prop:=Sl 2 lE H p.v p.l
theorem pQ(a b:List Ctl):mZ (a++b)=mZ a++mZ b:=dD
end Go.Ds
