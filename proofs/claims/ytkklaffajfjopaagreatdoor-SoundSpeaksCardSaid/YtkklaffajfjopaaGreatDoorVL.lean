/-
  A part of the proof of SoundSpeaks.
-/
import Derived.Test.YtkklaffajfjopaaGreatDoorVP
import Derived.Test.YtkklaffajfjopaaGreatDoorVI
set_option linter.unusedVariables false
set_option linter.unusedSimpArgs false
set_option linter.defProp false
set_option linter.unusedSectionVars false
namespace Go.Ds
open Go.Proofs Go.Proofs.Tryz
variable {H:Heap}
set_option maxRecDepth 10000
set_option maxHeartbeats 1000000
theorem a7O{α:Type}[Inhabited α](lt:α→α→Bool)(N:Nat):∀(n a:Nat)(xs:List α),(xU lt N n a xs).length=xs.length
 | 0,a,xs=>by unfold xU;first|exact vB ..|rfl
 | n+1,a,xs=>by
   unfold xU
   split
   ·rw[a7O lt N n,vB]
   ·exact vB ..
theorem a6s{α:Type}[Inhabited α](lt:α→α→Bool)(N s:Nat):∀(n a:Nat)(xs:List α),(a0G lt N s n a xs).length=xs.length
 | 0,a,xs=>by unfold a0G;first|rfl|(split;(· exact pL ..);(· rfl))
 | n+1,a,xs=>by
   unfold a0G
   split
   ·rw[a6s lt N s n,pL]
   ·first|rfl|(split;(· exact pL ..);(· rfl))
theorem a3N{α:Type}[Inhabited α](lt:α→α→Bool)(N:Nat):∀(n s:Nat)(xs:List α),(sI lt N n s xs).length=xs.length
 | 0,s,xs=>by unfold sI;rfl
 | n+1,s,xs=>by
   unfold sI
   split
   ·rw[a3N lt N n,a6s]
   ·rfl
theorem b2W{α:Type}[Inhabited α](lt:α→α→Bool)(xs:List α):(uX lt xs).length=xs.length:=by
 unfold uX
 rw[a3N,a7O]
theorem OrgOk.cJ{o:Org}(hk:OrgOk o):c5Y o:=fun r hr=>by
 obtain⟨j,hj,rfl⟩:=dO.1 hr
 have hk:=hk.ranks j hj
 rw[kC _ _ hj]at hk
 have:=hk.first
 exact⟨hk.feet,by omega,by omega⟩
theorem b9W(x y:Hr)(h1: -1000000≤x.2)(h2:x.2≤1000000)(h3: -1000000≤y.2)(h4:y.2≤1000000):Fn prog 24 [.agg #[I x.1.1,I x.1.2,I x.2],.agg #[I y.1.1,I y.1.2,I y.2]] H fun r H'=>r=I (x.2-y.2)∧St prog H H' []:=by
 refine .aF func24 rfl (by kernel_rfl) (m:=10) rfl fun l hn g0 g1=> ?_
 simp(disch:=omega) only[↓RA,RB,simprocAttr,g0]
 refine(sR H).eNew 3 [I x.1.1,I x.1.2,I x.2] rfl rfl rfl zX fun A1 H1 hS1=> ?_
 simp only[RT]at hS1
 simp(disch:=omega) only[↓RA,RB,simprocAttr,g1]
 refine hS1.eNew 3 [I y.1.1,I y.1.2,I y.2] rfl rfl rfl zX fun A2 H2 hS2=> ?_
 simp only[RT]at hS2
 simp(disch:=omega) only[↓RA,RZ,simprocAttr,hn,hS2.ld 0 rfl,hS2.ld 1 rfl,c7o]
 first|exact hS2.forget|exact⟨rfl,hS2.forget⟩
theorem c6k{B:Base}:CmpK B 24 [] (fun x=>-1000000≤x.2∧x.2≤1000000) ltN:=by
 refine⟨fun x y=>x.2-y.2,fun x y _ _=> ?_,fun x y hx hy{H1 os}_=>b9W x y hx.1 hx.2 hy.1 hy.2⟩
 show(x.2-y.2<0↔decide (x.2<y.2)=true)
 rw[decide_eq_true_eq]
 omega
theorem a5c(hG:Glob gH H)(p:Pln)(hp:p.In H)(hk:p.Ok)(b:Nat→Nat)(hb:∀i,b i<256)(c:Nat→Nat)(hc:∀i,c i<65536):
 Fn prog 4 [.agg #[p.rv,p.dv,p.cv],.agg #[.int .u8 (b 0),.int .u8 (b 1),.int .u8 (b 2),.int .u8 (b 3),.int .u8 (b 4)],.agg #[.int .u16 (c 0),.int .u16 (c 1),.int .u16 (c 2)]] H fun r H'=>r=.bool true∧St prog H H' []:=by
 refine .bk func4 rfl (by kernel_rfl) (m:=98) rfl fun l hn g0 g1 g2=> ?_
 simp(disch:=omega) only[↓RA,RB,simprocAttr,g0]
 refine(sR H).eNew 3 [p.rv,p.dv,p.cv] rfl rfl (by simp[((sR H).sl hp.1).cells.2.1,((sR H).sl hp.2.1).cells.2.1,((sR H).sl hp.2.2.2.1).cells.2.1]) b8U fun A1 H1 hS1=> ?_
 simp only[RT]at hS1
 simp(disch:=omega) only[↓RA,RB,simprocAttr,g1]
 refine hS1.eNew 5 [(.int .u8 (b 0)),(.int .u8 (b 1)),(.int .u8 (b 2)),(.int .u8 (b 3)),(.int .u8 (b 4))] rfl rfl rfl c3t fun A2 H2 hS2=> ?_
 simp only[RT]at hS2
 simp(disch:=omega) only[↓RA,RB,simprocAttr,g2]
 refine hS2.eNew 3 [(.int .u16 (c 0)),(.int .u16 (c 1)),(.int .u16 (c 2))] rfl rfl rfl c1V fun A3 H3 hS3=> ?_
 simp only[RT]at hS3
 simp(disch:=omega) only[↓RA,RZ,simprocAttr]
 refine hS3.cF (a1Q (hS3.gl hG)) fun H4 hS4=> ?_
 simp(disch:=omega) only[↓RA,RZ,simprocAttr,hn,hS4.ai 0 rfl]
 refine hS4.cF (c0j p (hp.ak hS4)) fun H5 hS5=> ?_
 simp(disch:=omega) only[↓RA,RZ,simprocAttr,hn]
 refine jJ (fun h1=> ?_) (fun h1=> ?_)
 ·simp(disch:=omega) only[↓RA,RZ,simprocAttr]
  refine hS5.cF (a1Q (hS5.gl hG)) fun H6 hS6=> ?_
  simp(disch:=omega) only[↓RA,RZ,simprocAttr,hn,tR4,h1]
  exact hS6.forget
 have hf:vZ p=true:=by simpa using h1
 simp(disch:=omega) only[↓RA,RZ,simprocAttr,hn,hS5.ai 0 rfl,h1]
 refine iG (b2X (hS5.gl hG) p (hp.ak hS5) hk hf) ?_
 rintro r H7⟨o,rfl,ho,hm,hT4⟩
 have hS7:=hS5.trans hT4
 simp only[RT]at hS7
 have hS0:=hS7
 have hG2:=hS0.gl hG
 have hoe:=hm.ok.organE
 have hrg:=b4p b hoe
 have hf0:=Org.ba hoe
 obtain⟨k1,k2,k3⟩:=hm.small hf
 have hok:=b2y (o:=o) hb k2
 have hkl:=sS o c
 have hkO:=a7c hf0 c
 have hkE:=a9a hoe c
 simp(disch:=omega) only[↓RA,RZ,simprocAttr]
 refine(sR H7).eNew 4 [(.string ⟨#[]⟩),(.slice none 0 0),(.slice none 0 0),(.slice none 0 0)] rfl rfl rfl mX fun A4 H8 hS8=> ?_
 simp only[RT]at hS8
 simp(disch:=omega) only[↓RA,RB,simprocAttr,hn,h1]
 refine hS8.aa 0 rfl [(.string o.name),o.rv,o.dv,o.cv] rfl (by simp[OC,(hS8.sl ho.1).cells.2.1,(hS8.sl ho.2.2.1).cells.2.1,(hS8.sl ho.2.2.2.2.1).cells.2.1]) mX (by simp) fun H9 hS9=> ?_
 simp only[RT]at hS9
 simp(disch:=omega) only[↓RA,RB,simprocAttr,h1]
 refine Wp.aQ jW [(3,0),(4,0)] (by kernel_rfl) (by kernel_rfl) ?_
 simp(disch:=omega) only[↓RA,RZ,simprocAttr,hn,hS9.ai 0 rfl,((hS0.var 1 rfl).ak hS9.ak).ai]
 have hD:=a9k o (ho.ak hS9) k1 k2 k3 b hb
 generalize hrgE:uS o b=rg at hrg hok hD
 refine iG (hD) ?_
 rintro r H10⟨sv,rfl,hT5⟩
 have hS10:=hS9.trans hT5
 simp only[RT]at hS10
 simp(disch:=omega) only[↓RA,RZ,simprocAttr,hn,hS10.ai 0 rfl,((hS0.var 2 rfl).ak hS10.ak).ai]
 have hP:=a9l o (ho.ak hS10) hf0 c hc
 generalize hksE:pM o c=ks at hkl hkO hkE hP
 refine iG (hP.tr) ?_
 rintro r H11⟨-,hT6⟩
 have hS11:=hS10.trans hT6
 simp only[RT]at hS11
 obtain⟨kv,rfl⟩:∃w,w=r:=⟨r,rfl⟩
 simp(disch:=omega) only[↓RA,RZ,simprocAttr]
 refine hS11.eNew 3 [(.slice none 0 0),(.int .u64 0),(.int .u64 0)] rfl rfl rfl qV fun A5 H12 hS12=> ?_
 simp only[RT]at hS12
 simp(disch:=omega) only[↓RA,RB,simprocAttr,hn]
 refine hS12.aa 3 rfl [sv,(.int .u64 rg.cpl),(.int .u64 rg.off)] rfl (by simp[OC,(hS12.rd 1 rfl).cells.2.1]) qV (by simp) fun H13 hS13=> ?_
 simp only[RT]at hS13
 simp(disch:=omega) only[↓RA,RZ,simprocAttr,hn,hS9.ai 0 rfl,hS13.ai 0 rfl,((hS0.var 2 rfl).ak hS9.ak).ai,hS13.ai 3 rfl]
 have hrk:rkE o rg ks=0:=by unfold rkE;rw[if_neg (by rw[hrg];simp)];exact hkE
 have hrl:rg.stops.length=o.dvs.length:=(xG hrg).2
 have hplc:=sA hkO hkE
 have hpll:=sE hkE
 have hsp:a0v o rg ks=jP o rg (iF ks):=by unfold a0v;rw[if_pos hrk]
 obtain⟨hlp,hll⟩:=b3U hoe rg (iF ks)
 have hrkP:=hm.ok.cJ
 have hla:(jP o rg (iF ks)).length<100000000:=by omega
 have hS1:=hS13
 refine iG (rM (hS13.gl hG2) o (ho.ak hS13) rg sv ⟨hS13.av 1 rfl (fun _=>rfl),hok⟩ kv ks ⟨hS13.av 2 rfl (fun _=>rfl),by omega,hkO⟩) ?_
 rintro r H14⟨pv,rfl,hpx,hT7⟩
 have hS14:=hS13.trans hT7
 simp only[RT]at hS14
 rw[hrk]
 rw[hsp]at hpx
 have hpx2:=hpx.step (hS1.aW (H':=H14))
 obtain⟨X,hBX,hS15⟩:=hS14.aB (os:=[⟨ptr A4 0 4,0,_⟩,⟨sv,1,_⟩,⟨kv,2,_⟩,⟨ptr A5 0 3,0,_⟩])
 simp(disch:=omega) only[↓RA,RZ,simprocAttr,hn,hS15.ai 0 rfl,hS15.ai 3 rfl]
 refine iG (b4H ((hS14.ab hBX hS15).gl hG2) o (ho.ak (hS14.ab hBX hS15)) hrkP rg sv ⟨hS15.av 1 rfl (fun _=>rfl),hok⟩ kv ks ⟨hS15.av 2 rfl (fun _=>rfl),by omega,hkO⟩ hrk (jP o rg (iF ks)) hsp hll hlp) ?_
 rintro r H15⟨hv,rfl,hT8⟩
 have hS16:=hS15.trans hT8
 simp only[RT]at hS16
 simp(disch:=omega) only[↓RA,RZ,simprocAttr,hn,hS16.ai 0 rfl,hS16.ai 3 rfl]
 have hS2:=hS16
 refine iG (a3w o (ho.ak (hS14.ab hBX hS16)) hoe rg sv ⟨hS16.av 1 rfl (fun _=>rfl),hok⟩ hrl kv ks ⟨hS16.av 2 rfl (fun _=>rfl),by omega,hkO⟩ hkE) ?_
 rintro r H16⟨hq,hT9⟩
 have hS17:=hS16.trans hT9
 simp only[RT]at hS17
 obtain⟨qv,rfl⟩:∃w,w=r:=⟨r,rfl⟩
 have hpx3:=hpx2.step (hS17.kept hBX)
 have hq2:=hq.step (hS2.aW (H':=H16))
 obtain⟨Y,hBY,hS18⟩:=hS17.aB (os:=[⟨ptr A4 0 4,0,_⟩,⟨sv,1,_⟩,⟨kv,2,_⟩,⟨ptr A5 0 3,0,_⟩,⟨hv,3,_⟩])
 simp(disch:=omega) only[↓RA,RZ,simprocAttr,hn]
 refine hS18.cF (a6D pv qv (jP o rg (iF ks)) (jP o rg (iF ks)) (hpx3.step (hS18.kept hBY)).1 (hq2.step (hS18.kept hBY)).1 (by omega) (by omega)) fun H17 hS19=> ?_
 rw[decide_eq_true rfl]
 simp(disch:=omega) only[↓RA,RZ,simprocAttr,hn,(hq2.step (hS19.kept hBY)).1.len]
 have hS20:=hS19.nil 2
 simp only[RT]at hS20
 refine Wp.aj (fun n l H'=>l.length=98∧get l 6=(.bool false)∧get l 7=(ptr A4 0 4)∧get l 12=hv∧get l 65=qv∧get l 66=I (jP o rg (iF ks)).length∧∃(j:Nat)(ov:Value),(n+j=(jP o rg (iF ks)).length)∧get l 67=I j∧get l 15=ov∧St prog Y H' [⟨ptr A4 0 4,0,[(.string o.name),o.rv,o.dv,o.cv]⟩,⟨sv,1,rg.stops.flatMap (one u64)⟩,⟨kv,2,ks.flatMap ntc⟩,⟨ptr A5 0 3,0,[sv,(.int .u64 rg.cpl),(.int .u64 rg.off)]⟩,⟨hv,3,(uX ltN ((jP o rg (iF ks)).map (yH o))).flatMap jS⟩,⟨ov,3,(((jP o rg (iF ks)).take j).map (yH o)).flatMap jS⟩]) (jP o rg (iF ks)).length ?_ ?_
 ·simp(disch:=omega) only[RB,RC,simprocAttr,hn]
  exact⟨0,.slice none 0 0,by omega,rfl,rfl,hS20⟩
 rintro n l H18⟨hn,g6,g7,g12,g65,g66,j,ov,hj,g67,g15,hS21⟩
 simp(disch:=omega) only[↓RA,RB,simprocAttr,hn,g66,g67]
 refine iA (fun q1=> ?_) (fun q1=> ?_)
 ·have hpj:=hlp _ (iD (xs:=jP o rg (iF ks)) (j:=j) (by omega))
  obtain⟨e,he⟩:∃e:Nat,(iB (jP o rg (iF ks)) j).1=e:=⟨(iB (jP o rg (iF ks)) j).1.toNat,by have:=hpj.1;omega⟩
  obtain⟨m,hm9⟩:∃m:Nat,(iB (jP o rg (iF ks)) j).2=m:=⟨(iB (jP o rg (iF ks)) j).2.toNat,by have:=hpj.2.2.1;omega⟩
  have hel:e<o.ranks.length:=by have:=hpj.2.1;omega
  have hml:m<1000:=by have:=hpj.2.2.2;omega
  have hre:=hrkP _ (iD hel)
  have hlt:((((jP o rg (iF ks)).take j).map (yH o)).flatMap jS).length=j*3:=by rw[iL (n:=3) (cel:=jS) (fun _=>rfl),dK,fz];omega
  simp(disch:=omega) only[↓RA,RZ,simprocAttr,hn,g65,g67,(hq2.step (hS21.kept hBY)).1.idx,(hq2.step (hS21.kept hBY)).1.ai,jV,q1,he,hm9]
  refine hS21.eNew 2 [I 0,I 0] rfl rfl rfl rQ fun A6 H19 hS22=> ?_
  simp only[RT]at hS22
  simp(disch:=omega) only[↓RA,RZ,simprocAttr,hn,q1]
  refine hS22.aa 6 rfl [I e,I m] rfl rfl rQ (by simp) fun H20 hS23=> ?_
  simp only[RT]at hS23
  simp(disch:=omega) only[↓RA,RZ,simprocAttr,hn,g7,hS23.ld 0 rfl,hS23.ld 6 rfl,((hS14.ab hBX (hS17.ab hBY hS23)).sl ho.1).idx,((hS14.ab hBX (hS17.ab hBY hS23)).sl ho.1).ai,Rk.cells,q1]
  refine hS23.eNew 6 [(.string ⟨#[]⟩),(.string ⟨#[]⟩),I 0,I 0,I 0,(.slice none 0 0)] rfl rfl rfl tX fun A7 H21 hS24=> ?_
  simp only[RT]at hS24
  simp(disch:=omega) only[↓RA,RZ,simprocAttr,hn,q1]
  refine hS24.aa 7 rfl [(.string (iB o.ranks e).name),(.string (iB o.ranks e).tone),I (iB o.ranks e).num,I (iB o.ranks e).den,I (iB o.ranks e).first,(iB o.ranks e).wv] rfl (by simp[OC,((hS14.ab hBX (hS17.ab hBY hS24)).sl (ho.2.1 (iB o.ranks e) (iD (by omega))).1).cells.2.1]) tX (by simp) fun H22 hS25=> ?_
  simp only[RT]at hS25
  simp(disch:=omega) only[↓RA,RZ,simprocAttr,q1]
  refine Wp.aQ jW [(1,11),(3,11),(5,11)] (by kernel_rfl) (by kernel_rfl) ?_
  simp(disch:=omega) only[↓RA,RZ,simprocAttr,hn,g15,hS25.ai 6 rfl,hS25.ld 7 rfl,hS25.ld 6 rfl,hS25.ai 7 rfl,qQ]
  refine iG (c3o ((hS14.ab hBX (hS17.ab hBY hS25)).gl hG2) (a:=((iB o.ranks e).num,(iB o.ranks e).den)) hre.1) ?_
  rintro r H23⟨⟨rfl,hn1,hn2⟩,hT11⟩
  have hS26:=hS25.trans hT11
  simp only[RT]at hS26
  simp(disch:=omega) only[↓RA,RB,simprocAttr,hn,zU]
  refine hS26.ag [I e,I m,_] b1g b8D rfl rfl (by simp[Value.cells]) rfl rfl (by decide) (by decide) fun w1 H24 hS27=> ?_
  simp only[RT]at hS27
  simp(disch:=omega) only[↓RA,RZ,simprocAttr,hn]
  refine hS27.aq 5 rfl (hS27.rd 8 rfl) b1g (by rw[hlt];simp;omega) fun w2 H25 hS28=> ?_
  simp only[RT]at hS28
  simp(disch:=omega) only[↓RA,RZ,simprocAttr,hn,g6,g7,g12,g65,g66,g67,hS26.ai 6 rfl,hS26.ld 7 rfl,hS26.ld 6 rfl]
  have hpe:iB (jP o rg (iF ks)) j=((e:Int),(m:Int)):=fN he hm9
  have hap:(((jP o rg (iF ks)).take j).map (yH o)).flatMap jS++[I e,I m,I ((iB o.ranks e).first+m+zV ((iB o.ranks e).num,(iB o.ranks e).den) (8,1))]=(((jP o rg (iF ks)).take (j+1)).map (yH o)).flatMap jS:=by
   rw[rO (jP o rg (iF ks)) j (by omega),dM,dz,hpe]
   rfl
  rw[hap]at hS28
  exact⟨n-1,by omega,j+1,w2,by omega,by simp,rfl,hS28.pick [0,1,2,3,4,5] (by decide) rfl⟩
 have hj1:j=(jP o rg (iF ks)).length:=by omega
 have hQ:∀x∈(jP o rg (iF ks)).map (yH o),-1000000≤x.2∧x.2≤1000000:=fun x hx=>by
  obtain⟨q,hq9,rfl⟩:=dr.1 hx
  obtain⟨z1,z2,z3,z4⟩:=hlp q hq9
  obtain⟨y1,y2,y3⟩:=hrkP _ (iD (xs:=o.ranks) (j:=q.1.toNat) (by omega))
  obtain⟨x1,x2⟩:=c1Q y1
  show -1000000≤(iB o.ranks q.1.toNat).first+q.2+zV ((iB o.ranks q.1.toNat).num,(iB o.ranks q.1.toNat).den) (8,1)∧(iB o.ranks q.1.toNat).first+q.2+zV ((iB o.ranks q.1.toNat).num,(iB o.ranks q.1.toNat).den) (8,1)≤1000000
  omega
 simp(disch:=omega) only[↓RA,RZ,simprocAttr,hn,g15,q1]
 rw[hj1,dU]at hS21
 have hM1:=hS21.pick (os':=[⟨ov,3,_⟩]) [5] (by decide) rfl
 have hR1:=hS21.pick (os':=[⟨ov,3,_⟩,⟨ptr A4 0 4,0,_⟩,⟨sv,1,_⟩,⟨kv,2,_⟩,⟨ptr A5 0 3,0,_⟩,⟨hv,3,_⟩]) [5,0,1,2,3,4] (by decide) rfl
 refine iG (a2Y hM1.ay (by rw[dK];exact hll) 24 [] c6k hQ) ?_
 rintro r H26⟨rfl,hT12⟩
 have hS29:=hR1.frame hT12
 simp only[RT]at hS29
 simp(disch:=omega) only[↓RA,RZ,simprocAttr,hn,g12,g15,q1]
 have hsl9:(uX ltN ((jP o rg (iF ks)).map (yH o))).length<1000000000:=by rw[b2W,dK];omega
 refine hS29.cF (a2O hv ov (uX ltN ((jP o rg (iF ks)).map (yH o))) (uX ltN ((jP o rg (iF ks)).map (yH o))) (hS29.av 5 rfl (fun _=>rfl)) (hS29.av 0 rfl (fun _=>rfl)) hsl9 hsl9) fun H27 hS30=> ?_
 rw[decide_eq_true rfl]
 simp(disch:=omega) only[↓RA,RZ,simprocAttr,hn,tR4,q1]
 exact hS0.forget.trans (hS14.ab hBX (hS17.ab hBY hS30)).forget
end Go.Ds
