/-
  A part of the proof of DemandShrinks.
-/
import Derived.Test.YteeidkllchpplaaGreatDoorVK
set_option linter.unusedVariables false
set_option linter.unusedSimpArgs false
set_option linter.defProp false
set_option linter.unusedSectionVars false
namespace Go.Ds
open Go.Proofs Go.Proofs.Tryz
variable {H:Heap}
set_option maxRecDepth 10000
set_option maxHeartbeats 1000000
def cSh(b:Nat→Nat):Nat→Nat
 | 0=>b 2*5
 | 1=>b 1*3
 | _=>b 0
def bSh(b:Nat→Nat)(m:Nat):Nat→Nat
 | 3=>m
 | i=>b i
theorem b3o(z:Int):∃m:Nat,m<256∧IntKind.wrap .u8 z=(m:Int):=by
 have h:0≤IntKind.wrap .u8 z∧IntKind.wrap .u8 z<256:=by
  unfold IntKind.wrap
  simp only[IntKind.bits,IntKind.signed,fo,dW,if_false]
  omega
 exact⟨(IntKind.wrap .u8 z).toNat,by omega,by omega⟩
theorem a3X(hG:Glob gH H)(p:Pln)(hp:p.In H)(hk:p.Ok)(b:Nat→Nat)(hb:∀i,b i<256)(aa ab:Nat)(ha:aa<256)(hab:ab<256):
 Fn prog 3 [.agg #[p.rv,p.dv,p.cv],.agg #[.int .u8 (b 0),.int .u8 (b 1),.int .u8 (b 2),.int .u8 (b 3),.int .u8 (b 4)],.agg #[.int .u8 aa,.int .u8 ab]] H fun r H'=>r=.bool true∧St prog H H' []:=by
 refine .bg func3 rfl (by kernel_rfl) (m:=172) rfl fun l hn g0 g1 g2=> ?_
 simp(disch:=omega) only[↓RA,RB,simprocAttr,g0]
 refine(sR H).eNew 3 [p.rv,p.dv,p.cv] rfl rfl (by simp[((sR H).sl hp.1).cells.2.1,((sR H).sl hp.2.1).cells.2.1,((sR H).sl hp.2.2.2.1).cells.2.1]) b9P fun A1 H1 hS1=> ?_
 simp only[RT]at hS1
 simp(disch:=omega) only[↓RA,RB,simprocAttr,g1]
 refine hS1.eNew 5 [(.int .u8 (b 0)),(.int .u8 (b 1)),(.int .u8 (b 2)),(.int .u8 (b 3)),(.int .u8 (b 4))] rfl rfl rfl c4f fun A2 H2 hS2=> ?_
 simp only[RT]at hS2
 simp(disch:=omega) only[↓RA,RB,simprocAttr,g2]
 refine hS2.eNew 2 [(.int .u8 aa),(.int .u8 ab)] rfl rfl rfl c5H fun A3 H3 hS3=> ?_
 simp only[RT]at hS3
 simp(disch:=omega) only[↓RA,RZ,simprocAttr]
 refine hS3.cF (a2O (hS3.gl hG)) fun H4 hS4=> ?_
 simp(disch:=omega) only[↓RA,RZ,simprocAttr,hn,hS4.ai 0 rfl]
 refine hS4.cF (c0F p (hp.ag hS4)) fun H5 hS5=> ?_
 simp(disch:=omega) only[↓RA,RZ,simprocAttr,hn]
 refine jO (fun h1=> ?_) (fun h1=> ?_)
 ·simp(disch:=omega) only[↓RA,RZ,simprocAttr]
  refine hS5.cF (a2O (hS5.gl hG)) fun H6 hS6=> ?_
  simp(disch:=omega) only[↓RA,RZ,simprocAttr,hn,tR3,h1]
  exact hS6.forget
 have hf:xC p=true:=by simpa using h1
 simp(disch:=omega) only[↓RA,RZ,simprocAttr,hn,hS5.ai 0 rfl,h1]
 refine iG (b3F (hS5.gl hG) p (hp.ag hS5) hk hf) ?_
 rintro r H7⟨o,rfl,ho,hm,hT4⟩
 have hS7:=hS5.trans hT4
 simp only[RT]at hS7
 have hS0:=hS7
 have hG2:=hS0.gl hG
 have hoe:=hm.ok.organE
 have hrg:=a5c b hoe
 have hf0:=Org.aJ hoe
 obtain⟨k1,k2,k3⟩:=hm.small hf
 have hok:=a4J (o:=o) hb k2
 have h2:=hb 2
 have h0b:=hb 0
 have h1b:=hb 1
 have hc:∀i,cSh b i<65536:=fun i=>by
  unfold cSh
  split<;>omega
 have hkl:=oX o (cSh b)
 have hkO:=a1z hf0 (cSh b)
 have hkE:=a2Y hoe (cSh b)
 simp(disch:=omega) only[↓RA,RZ,simprocAttr]
 refine(sR H7).eNew 4 [(.string ⟨#[]⟩),(.slice none 0 0),(.slice none 0 0),(.slice none 0 0)] rfl rfl rfl lP fun A4 H8 hS8=> ?_
 simp only[RT]at hS8
 simp(disch:=omega) only[↓RA,RB,simprocAttr,hn,h1]
 refine hS8.ae 0 rfl [(.string o.name),o.rv,o.dv,o.cv] rfl (by simp[OC,(hS8.sl ho.1).cells.2.1,(hS8.sl ho.2.2.1).cells.2.1,(hS8.sl ho.2.2.2.2.1).cells.2.1]) lP (by simp) fun H9 hS9=> ?_
 simp only[RT]at hS9
 simp(disch:=omega) only[↓RA,RB,simprocAttr,h1]
 refine Wp.aO jZ [(3,0),(5,0),(6,0),(9,0),(10,0),(13,0),(14,0)] (by kernel_rfl) (by kernel_rfl) ?_
 simp(disch:=omega) only[↓RA,RZ,simprocAttr,hn,hS9.ai 0 rfl,((hS0.var 1 rfl).ag hS9.ag).ai]
 have hD:=a3g o (ho.ag hS9) k1 k2 k3 b hb
 generalize uF o b=rg at hrg hok hD
 refine iG (hD) ?_
 rintro r H10⟨sv,rfl,hT5⟩
 have hS10:=hS9.trans hT5
 simp only[RT]at hS10
 have w1:=sS (b 2) (by omega) (by omega)
 have w3:=sS (b 0) (by omega) (by omega)
 have w4:=sS (b 1) (by omega) (by omega)
 have w5:IntKind.wrap .u16 ((b 2:Int)*5)=((b 2*5:Nat):Int):=sS ((b 2*5:Nat):Int) (by omega) (by omega)
 have w6:IntKind.wrap .u16 ((b 1:Int)*3)=((b 1*3:Nat):Int):=sS ((b 1*3:Nat):Int) (by omega) (by omega)
 simp(disch:=omega) only[↓RA,RZ,simprocAttr,hn,hS10.ai 0 rfl,((hS0.var 1 rfl).ag hS10.ag).ld,a2m,w1,w3,w4,w5,w6]
 have hP:=a2v o (ho.ag hS10) hf0 (cSh b) hc
 have e0:((cSh b 0:Nat):Int)=((b 2*5:Nat):Int):=rfl
 have e1:((cSh b 1:Nat):Int)=((b 1*3:Nat):Int):=rfl
 have e2:((cSh b 2:Nat):Int)=(b 0:Int):=rfl
 rw[e0,e1,e2]at hP
 generalize mB o (cSh b)=ks at hkl hkO hkE hP
 refine iG (hP.tr) ?_
 rintro r H11⟨-,hT6⟩
 have hS11:=hS10.trans hT6
 simp only[RT]at hS11
 obtain⟨kv,rfl⟩:∃w,w=r:=⟨r,rfl⟩
 have hdp:=hf0.dpos
 have hd8:=hf0.dlen
 obtain⟨d,hd,hdl⟩:∃d,aa%o.dvs.length=d∧d<o.dvs.length:=⟨_,rfl,eU _ hdp⟩
 have t1:(aa:Int).tmod o.dvs.length=(d:Int):=by rw[←hd];exact(ey _ _).symm
 have hky:=hf0.keys d hdl
 obtain⟨q,hq,hq0,hq1⟩:∃q,(ab:Int).tmod ((iB o.dvs d).hi-(iB o.dvs d).lo+1)=q∧0≤q∧q<(iB o.dvs d).hi-(iB o.dvs d).lo+1:=⟨_,rfl,Int.tmod_nonneg _ (by omega),Int.tmod_lt_of_pos _ (by omega)⟩
 have hcc:kV o ((d:Int),(iB o.dvs d).lo+q)=true:=by
  rw[kK]
  simp only[dN]
  omega
 have v0:IntKind.wrap .i64 (aa:Int)=aa:=a5H (by omega) (by omega)
 have v1:IntKind.wrap .i64 (ab:Int)=ab:=a5H (by omega) (by omega)
 have hrk:rkE o rg ks=0:=by unfold rkE;rw[if_neg (by rw[hrg];simp)];exact hkE
 have hrl:rg.stops.length=o.dvs.length:=(lX hrg).2
 have hdv:o.dvs.length≤7:=by omega
 have hplc:=pX hkO hkE
 have hpll:=qV hkE
 have hone:a0t o rg ((d:Int),(iB o.dvs d).lo+q)=0:=by unfold a0t;rw[if_neg (by rw[hrg];simp)];exact(mT o _).2 hcc
 have hadd:yY o rg ks ((d:Int),(iB o.dvs d).lo+q)=0:=by unfold yY;rw[if_neg (by rw[hrk];simp)];exact(mT o _).2 hcc
 have hkF:sY o rg ((d:Int),(iB o.dvs d).lo+q)=nT o (jK o rg [((d:Int),(iB o.dvs d).lo+q)]):=by
  unfold sY ofF
  rw[if_pos hone,b2E hoe (fun p hp=>pM hp) (a0V hf0 rg hcc)]
 have hm1:=c4D hoe hdv hkO hrk hcc
 rw[←hkF]at hm1
 have hlA:=oX o pS
 have hOA:=a1z hf0 pS
 have hEA:=a2Y hoe pS
 have hrA:rkE o rg (mB o pS)=0:=by unfold rkE;rw[if_neg (by rw[hrg];simp)];exact hEA
 have haA:yY o rg (mB o pS) ((d:Int),(iB o.dvs d).lo+q)=0:=by unfold yY;rw[if_neg (by rw[hrA];simp)];exact(mT o _).2 hcc
 have hm2:=b6g hoe hdv hOA hrA hcc ((c0d hf0 hm.wide).2 hcc)
 simp(disch:=omega) only[↓RA,RZ,simprocAttr]
 refine hS11.eNew 3 [(.slice none 0 0),(.int .u64 0),(.int .u64 0)] rfl rfl rfl mK fun A5 H12 hS12=> ?_
 simp only[RT]at hS12
 simp(disch:=omega) only[↓RA,RB,simprocAttr,hn]
 refine hS12.ae 3 rfl [sv,(.int .u64 rg.cpl),(.int .u64 rg.off)] rfl (by simp[OC,(hS12.rd 1 rfl).cells.2.1]) mK (by simp) fun H13 hS13=> ?_
 simp only[RT]at hS13
 simp(disch:=omega) only[↓RA,RZ,simprocAttr,hn,hS9.ai 0 rfl,((hS0.var 1 rfl).ag hS9.ag).ld,((hS0.var 2 rfl).ag hS13.ag).ld,hS13.ld 0 rfl,(hS13.sl ho.2.2.1).len,w1,w3,w4,v0,t1]
 simp(disch:=omega) only[↓RA,RZ,simprocAttr,hn,(hS13.sl ho.2.2.1).idx,(hS13.sl ho.2.2.1).ba,(hS13.sl ho.2.2.1).cD 2,Dvn.cells]
 refine hS13.eNew 2 [I 0,I 0] rfl rfl rfl yT fun A6 H14 hS14=> ?_
 simp only[RT]at hS14
 simp(disch:=omega) only[↓RA,RB,simprocAttr,hn]
 refine hS14.ae 4 rfl [_,_] rfl rfl yT (by simp) fun H15 hS15=> ?_
 simp only[RT]at hS15
 simp(disch:=omega) only[↓RA,RB,simprocAttr]
 refine Wp.drw jZ (by kernel_rfl) ?_
 simp(disch:=omega) only[↓RA,RZ,simprocAttr,hn,hS15.ld 4 rfl,((hS0.var 2 rfl).ag hS15.ag).ld,oQ,v1,hq]
 refine hS15.eNew 2 [I 0,I 0] rfl rfl rfl kY fun A7 H16 hS16=> ?_
 simp only[RT]at hS16
 simp(disch:=omega) only[↓RA,RB,simprocAttr,hn]
 refine hS16.ae 5 rfl [_,_] rfl rfl kY (by simp) fun H17 hS17=> ?_
 simp only[RT]at hS17
 simp(disch:=omega) only[↓RA,RZ,simprocAttr,hn,hS17.ai 0 rfl,hS17.ai 3 rfl,hS17.ai 5 rfl]
 refine hS17.cF (b2m o (ho.ag hS17) rg sv ⟨hS17.ay 1 rfl (fun _=>rfl),hok⟩ ((d:Int),(iB o.dvs d).lo+q)) fun H18 hS18=> ?_
 rw[hone]
 simp(disch:=omega) only[↓RA,RZ,simprocAttr,hn,hS18.ai 0 rfl,hS18.ai 3 rfl,hS18.ai 5 rfl]
 refine hS18.cF (a1F (hS18.gl hG2) o (ho.ag hS18) (by omega) rg sv ⟨hS18.ay 1 rfl (fun _=>rfl),hok⟩ kv ks ⟨hS18.ay 2 rfl (fun _=>rfl),by omega,hkO⟩ ((d:Int),(iB o.dvs d).lo+q)) fun H19 hS19=> ?_
 rw[hadd]
 simp(disch:=omega) only[↓RA,RB,simprocAttr,hn]
 refine Wp.aO jZ [(0,4),(1,4),(4,0)] (by kernel_rfl) (by kernel_rfl) ?_
 simp(disch:=omega) only[↓RA,RZ,simprocAttr,hn,hS19.ai 0 rfl,hS19.ai 3 rfl]
 refine iG ((b6x o (ho.ag hS19) hf0).tr) ?_
 rintro r H20⟨-,hT9⟩
 have hS20:=hS19.trans hT9
 simp only[RT]at hS20
 obtain⟨av,rfl⟩:∃w,w=r:=⟨r,rfl⟩
 simp(disch:=omega) only[↓RA,RZ,simprocAttr,hn,hS20.ai 5 rfl]
 refine hS20.cF (a1F (hS20.gl hG2) o (ho.ag hS20) (by omega) rg sv ⟨hS20.ay 1 rfl (fun _=>rfl),hok⟩ av (mB o pS) ⟨hS20.ay 6 rfl (fun _=>rfl),by omega,hOA⟩ ((d:Int),(iB o.dvs d).lo+q)) fun H21 hS21=> ?_
 rw[haA,hm2]
 simp(disch:=omega) only[↓RA,RZ,simprocAttr,hn,hS20.ai 0 rfl,hS20.ai 3 rfl,hS19.ai 5 rfl]
 refine iL (fun g1=> ?_) (fun g1=> ?_)
 ·exfalso;first|omega|(simp at g1;omega)
 simp(disch:=omega) only[↓RA,RZ,simprocAttr,hn,g1]
 refine iA (fun g2=> ?_) (fun g2=> ?_)
 ·exfalso;first|omega|(simp at g2;omega)
 simp(disch:=omega) only[↓RA,RZ,simprocAttr,hn,hS21.ai 0 rfl,((hS0.var 1 rfl).ag hS21.ag).ld,a2r,g1,g2]
 obtain⟨m3,hm3,hm3e⟩:=b3o ((BitVec.ofInt (IntKind.bits .u8) (b 3:Int)&&&BitVec.ofInt (IntKind.bits .u8) (IntKind.wrap .u8 ((b 3:Int)-1))).toNat:Int)
 rw[hm3e]
 have hb2:∀i,bSh b m3 i<256:=fun i=>by
  unfold bSh
  split
  ·exact hm3
  ·exact hb i
 have hsg:=a5c (bSh b m3) hoe
 have hok2:=a4J (o:=o) hb2 k2
 have hD2:=a3g o (ho.ag hS21) k1 k2 k3 (bSh b m3) hb2
 have i0:((bSh b m3 0:Nat):Int)=(b 0:Int):=rfl
 have i1:((bSh b m3 1:Nat):Int)=(b 1:Int):=rfl
 have i2:((bSh b m3 2:Nat):Int)=(b 2:Int):=rfl
 have i3:((bSh b m3 3:Nat):Int)=(m3:Int):=rfl
 have i4:((bSh b m3 4:Nat):Int)=(b 4:Int):=rfl
 rw[i0,i1,i2,i3,i4]at hD2
 generalize uF o (bSh b m3)=tg at hsg hok2 hD2
 have hsl:tg.stops.length=o.dvs.length:=(lX hsg).2
 have hsk:rkE o tg ks=0:=by unfold rkE;rw[if_neg (by rw[hsg];simp)];exact hkE
 have hdF:a3Z o rg ks=tB o (jK o rg (iF ks)):=by unfold a3Z oA;rw[if_pos hrk]
 have hdG:a3Z o tg ks=tB o (jK o tg (iF ks)):=by unfold a3Z oA;rw[if_pos hsk]
 refine iG (hD2) ?_
 rintro r H22⟨tv,rfl,hT11⟩
 have hS22:=hS21.trans hT11
 simp only[RT]at hS22
 simp(disch:=omega) only[↓RA,RZ,simprocAttr]
 refine hS22.eNew 3 [(.slice none 0 0),(.int .u64 0),(.int .u64 0)] rfl rfl rfl mK fun A8 H23 hS23=> ?_
 simp only[RT]at hS23
 simp(disch:=omega) only[↓RA,RZ,simprocAttr,hn,g1,g2]
 refine hS23.ae 8 rfl [tv,(.int .u64 tg.cpl),(.int .u64 tg.off)] rfl (by simp[OC,(hS23.rd 7 rfl).cells.2.1]) mK (by simp) fun H24 hS24=> ?_
 simp only[RT]at hS24
 simp(disch:=omega) only[↓RA,RZ,simprocAttr,hn,hS24.ai 0 rfl,hS24.ai 3 rfl,g1,g2]
 refine hS24.cF (b0D (hS24.gl hG2) o (ho.ag hS24) rg sv ⟨hS24.ay 1 rfl (fun _=>rfl),hok⟩ kv ks ⟨hS24.ay 2 rfl (fun _=>rfl),by omega,hkO⟩) fun H25 hS25=> ?_
 rw[hrk,hdF]
 simp(disch:=omega) only[↓RA,RZ,simprocAttr,hn,hS25.ai 0 rfl,hS25.ai 8 rfl,g1,g2]
 refine hS25.cF (b0D (hS25.gl hG2) o (ho.ag hS25) tg tv ⟨hS25.ay 7 rfl (fun _=>rfl),hok2⟩ kv ks ⟨hS25.ay 2 rfl (fun _=>rfl),by omega,hkO⟩) fun H26 hS26=> ?_
 rw[hsk,hdG]
 simp(disch:=omega) only[↓RA,RZ,simprocAttr,hn,hS26.ai 0 rfl,hS26.ai 3 rfl,hS26.ai 8 rfl,g1,g2]
 refine iG (b0J o (ho.ag hS26) hoe rg sv ⟨hS26.ay 1 rfl (fun _=>rfl),hok⟩ hrl tg tv ⟨hS26.ay 7 rfl (fun _=>rfl),hok2⟩ hsl) ?_
 rintro r H27⟨e,rfl,heq,hT14⟩
 have hS27:=hS26.trans hT14
 simp only[RT]at hS27
 simp(disch:=omega) only[↓RA,RZ,simprocAttr,hn,g1,g2]
 refine pL (fun q5=> ?_) (fun q5=> ?_)
 ·simp(disch:=omega) only[↓RA,RZ,simprocAttr,hn,tR3,g1,g2,q5]
  exact hS0.forget.trans hS27.forget
 have q6:e=true:=by simpa using q5
 have hu:jK o rg (iF ks)=jK o tg (iF ks):=b1s hf0 fun x hx=>heq q6 x (b5p (hplc x hx))
 rw[hu]
 simp(disch:=omega) only[↓RA,RZ,simprocAttr,hn,tR3,g1,g2,q5]
 exact hS0.forget.trans hS27.forget
end Go.Ds
