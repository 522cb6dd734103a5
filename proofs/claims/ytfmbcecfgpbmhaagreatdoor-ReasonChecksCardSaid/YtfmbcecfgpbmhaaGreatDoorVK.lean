/-
  A part of the proof of ReasonChecks.
-/
import Derived.Test.YtfmbcecfgpbmhaaGreatDoorVI
import Derived.Test.YtfmbcecfgpbmhaaGreatDoorVD
import Derived.Test.YtfmbcecfgpbmhaaGreatDoorVB
import Derived.Test.YtfmbcecfgpbmhaaGreatDoorVC
set_option linter.unusedVariables false
set_option linter.unusedSimpArgs false
set_option linter.defProp false
set_option linter.unusedSectionVars false
namespace Go.Ds
open Go.Proofs Go.Proofs.Tryz Go.ChangeShapes Go.WideShapes Go.RowKit Go.Deep
set_option maxRecDepth 10000
theorem ce3:prog.cellsOf 3=1:=by kernel_rfl
theorem d1d:prog.cellsOf 36=1:=by kernel_rfl
theorem c8j:prog.cellsOf 37=3:=by kernel_rfl
section
variable {H0:Type} {enc:TypeId×Value→H0} {w:World} {base n:Nat} {spare:Nat→Bool} {lJ:Bool} {x:DataW H0×List MemPlace}
theorem b9h{v:Value}(h:DataW.trod enc prog w base spare lJ n 3 [v]=some x):∃m:Int,v=I m∧-9223372036854775808≤m∧m<9223372036854775808:=by
 obtain⟨m,hv,_,hw⟩:=jd underlying3 h
 have hv:v=I m:=by simpa using hv
 have hm: -9223372036854775808≤m∧m≤9223372036854775807:=by simpa [Lit.wf,IntKind.min,IntKind.max,IntKind.signed,IntKind.bits]using hw
 exact⟨m,hv,hm.1,by omega⟩
theorem b1V{v:Value}(h:DataW.trod enc prog w base spare lJ n 36 [v]=some x):∃m:Nat,v=.int .u16 m∧m<65536:=by
 obtain⟨m,hv,_,hw⟩:=jd underlying36 h
 have hv:v=.int .u16 m:=by simpa using hv
 have hm:0≤m∧m≤65535:=by simpa [Lit.wf,IntKind.min,IntKind.max,IntKind.signed,IntKind.bits]using hw
 exact⟨m.toNat,by rw[hv,fQ hm.1],by omega⟩
theorem c4R{cs:List Value}(h:DataW.trod enc prog w base spare lJ n 37 cs=some x):∃b:Nat→Nat,(∀i,b i<65536)∧cs=[.int .u16 (b 0),.int .u16 (b 1),.int .u16 (b 2)]:=by
 obtain⟨xs,m,_,_,hl,hxl,hf⟩:=DataW.trod_array underlying37 h
 rw[c8j]at hl
 match cs,hl with
 | [c0,c1,c2],_=>
   have hy:∀i,i<3→∃y,DataW.trod enc prog w base spare lJ m 36 ((([c0,c1,c2]:List Value).drop (i*1)).take 1)=some y:=fun i hi=>by
    have:=hf i hi
    rw[d1d]at this
    exact⟨xs[i],by rw[this,dM (by omega)]⟩
   obtain⟨_,h0⟩:=hy 0 (by decide)
   obtain⟨_,h1⟩:=hy 1 (by decide)
   obtain⟨_,h2⟩:=hy 2 (by decide)
   obtain⟨b0,rfl,k0⟩:=b1V h0
   obtain⟨b1,rfl,k1⟩:=b1V h1
   obtain⟨b2,rfl,k2⟩:=b1V h2
   exact⟨fun i=>match i with|0=>b0|1=>b1|_=>b2,fun i=>by
    match i with
    | 0=>exact k0
    | 1=>exact k1
    | _+2=>exact k2,rfl⟩
end
section
variable {H0:Type} {enc:TypeId×Value→H0} {w:World} {base:Nat} {lJ:Bool}
end
end Go.Ds
namespace Go.Ds
open Go.Proofs Go.Proofs.Tryz
variable {H:Heap}
set_option maxRecDepth 10000
set_option maxHeartbeats 1000000
abbrev Nt:=Nat×Nat
def ntc(x:Nt):List Value:=[.int .u64 x.1,.int .u64 x.2]
def Nt.Ok(x:Nt):Prop:=x.1<18446744073709551616∧x.2<18446744073709551616
def vO(x:Nt)(n:Int):Nt:=if n<64 then(x.1|||2^n.toNat,x.2)else(x.1,x.2|||2^(n-64).toNat)
theorem a6g(i:Nat)(h:i<64):2^i<18446744073709551616:=by
 have:2^i≤2^63:=gi (by decide) (by omega)
 have e:2^63=9223372036854775808:=rfl
 omega
theorem b8Z{a b:Nat}(ha:a<18446744073709551616)(hb:b<18446744073709551616):a|||b<18446744073709551616:=Nat.or_lt_two_pow (n:=64) ha hb
theorem orB(a b:Nat)(ha:a<18446744073709551616)(hb:b<18446744073709551616):IntKind.wrap .u64 ((BitVec.ofInt (IntKind.bits .u64) (a:Int)|||BitVec.ofInt (IntKind.bits .u64) (b:Int)).toNat:Int)=((a|||b:Nat):Int):=by
 have e:(BitVec.ofInt (IntKind.bits .u64) (a:Int)|||BitVec.ofInt (IntKind.bits .u64) (b:Int)).toNat=a|||b:=by
  rw[BitVec.toNat_or,xK a ha,xK b hb]
 rw[e]
 have:=b8Z ha hb
 exact rE _ (by omega) (by omega)
theorem orN(n i:Nat)(hn:n<18446744073709551616)(hi:i<64):IntKind.wrap .u64 ((BitVec.ofInt (IntKind.bits .u64) (n:Int)|||BitVec.ofInt (IntKind.bits .u64) (IntKind.wrap .u64 (1*2^min i (IntKind.bits .u64)))).toNat:Int)=((n|||2^i:Nat):Int):=by
 rw[c9m i hi]
 exact orB n (2^i) hn (a6g i hi)
theorem c1X{x:Nt}(hx:Nt.Ok x){z:Int}(h0:0≤z)(h1:z<128):Nt.Ok (vO x z):=by
 unfold vO
 split
 ·exact⟨b8Z hx.1 (a6g _ (by omega)),hx.2⟩
 ·exact⟨hx.1,b8Z hx.2 (a6g _ (by omega))⟩
theorem a7R(x:Nt)(hx:Nt.Ok x)(z:Int)(h0:0≤z)(h1:z<128):Fn prog 113 [.agg #[.int .u64 x.1,.int .u64 x.2],I z] H fun r H'=>r=.agg #[.int .u64 (vO x z).1,.int .u64 (vO x z).2]∧St prog H H' []:=by
 obtain⟨m,rfl⟩:=gh h0
 refine .aE func113 rfl (by kernel_rfl) (m:=21) rfl fun l hn g0 g1=> ?_
 simp(disch:=omega) only[↓RA,RB,simprocAttr,g0]
 refine(sR H).eNew 2 [(.int .u64 x.1),(.int .u64 x.2)] rfl rfl rfl pH fun A1 H1 hS1=> ?_
 simp only[RT]at hS1
 simp(disch:=omega) only[↓RA,RZ,simprocAttr]
 refine hS1.eNew 2 [(.int .u64 0),(.int .u64 0)] rfl rfl rfl pH fun A2 H2 hS2=> ?_
 simp only[RT]at hS2
 simp(disch:=omega) only[↓RA,RB,simprocAttr,hn,g1]
 refine jA (fun q1=> ?_) (fun q1=> ?_)
 ·have e1:=orN x.1 m hx.1 (by omega)
  have e2:vO x (m:Int)=(x.1|||2^m,x.2):=by unfold vO;rw[if_pos q1];rfl
  simp(disch:=omega) only[↓RA,RC,simprocAttr,q1]
  refine Wp.drw kS (by kernel_rfl) ?_
  simp(disch:=omega) only[↓RA,RZ,simprocAttr,hn,g1,hS2.ld 0 rfl,e1]
  refine hS2.ab 0 rfl [(.int .u64 (x.1|||2^m:Nat))] rfl rfl c3d (by simp) fun H3 hS3=> ?_
  simp only[RT]at hS3
  simp(disch:=omega) only[↓RA,RZ,simprocAttr,hn,hS3.aj 0 rfl]
  refine hS3.ab 1 rfl [(.int .u64 (x.1|||2^m:Nat)),(.int .u64 x.2)] rfl rfl pH (by simp) fun H4 hS4=> ?_
  simp only[RT]at hS4
  simp(disch:=omega) only[↓RA,RZ,simprocAttr,hn,c3Y,hS4.aj 1 rfl]
  rw[e2]
  exact⟨rfl,hS4.forget⟩
 have e1:=orN x.2 (m-64) hx.2 (by omega)
 have e3:(m:Int)-64=((m-64:Nat):Int):=by omega
 have e2:vO x (m:Int)=(x.1,x.2|||2^(m-64)):=by unfold vO;rw[if_neg q1,e3];rfl
 simp(disch:=omega) only[↓RA,RC,simprocAttr,q1]
 refine Wp.drw kS (by kernel_rfl) ?_
 simp(disch:=omega) only[↓RA,RZ,simprocAttr,hn,g1,hS2.ld 0 rfl,e1,e3]
 refine hS2.ab 0 rfl [(.int .u64 (x.2|||2^(m-64):Nat))] rfl rfl c3d (by simp) fun H5 hS5=> ?_
 simp only[RT]at hS5
 simp(disch:=omega) only[↓RA,RZ,simprocAttr,hn,hS5.aj 0 rfl]
 refine hS5.ab 1 rfl [(.int .u64 x.1),(.int .u64 (x.2|||2^(m-64):Nat))] rfl rfl pH (by simp) fun H6 hS6=> ?_
 simp only[RT]at hS6
 simp(disch:=omega) only[↓RA,RZ,simprocAttr,hn,c3Y,hS6.aj 1 rfl]
 rw[e2]
 exact⟨rfl,hS6.forget⟩
def lF(xs:List Int):Nt:=xs.foldl vO (0,0)
def isN(z:Int):Prop:=0≤z∧z<128
theorem xU:∀(xs:List Int)(x:Nt),(∀z∈xs,isN z)→Nt.Ok x→Nt.Ok (xs.foldl vO x)
 | [],_,_,h=>h
 | z::xs,x,hz,h=>by
   rw[gf]
   exact xU xs _ (fun y hy=>hz y (fb _ hy)) (c1X h (hz z (fh ..)).1 (hz z (fh ..)).2)
theorem a8M(xs:List Int){j:Nat}(hj:j<xs.length):lF (xs.take (j+1))=vO (lF (xs.take j)) (jB xs j):=by
 unfold lF
 rw[List.take_add_one,dM hj,Option.toList_some,gY,←kN _ j hj]
 rfl
theorem b6s(z:Int)(h:isN z):Fn prog 112 [I z] H fun r H'=>r=.bool true∧St prog H H' []:=by
 have h0:=h.1
 have h1:=h.2
 refine .aL func112 rfl (by kernel_rfl) (m:=9) rfl fun l hn g0=> ?_
 simp(disch:=omega) only[↓RA,RZ,simprocAttr,hn,g0]
 refine kG (fun q1=> ?_) (fun q1=> ?_)
 rotate_left
 ·exfalso;first|omega|(simp at q1;omega)
 simp(disch:=omega) only[↓RA,RZ,simprocAttr,hn,g0,c8q,q1]
 simpa using⟨(by omega:z≤127),(sR H)⟩
theorem yV(xs:List Int)(hz:∀z∈xs,isN z)(v:Value)(hv:Sl 1 (one I) H v xs)(hl:xs.length<1000000000):
 Fn prog 83 [v] H fun r H'=>r=.tuple #[.agg #[.int .u64 (lF xs).1,.int .u64 (lF xs).2],I 0]∧St prog H H' []:=by
 refine .aL func83 rfl (by kernel_rfl) (m:=22) rfl fun l hn g0=> ?_
 simp(disch:=omega) only[↓RA,RZ,simprocAttr]
 refine(sR H).eNew 2 [(.int .u64 0),(.int .u64 0)] rfl rfl rfl pH fun A1 H1 hS1=> ?_
 simp only[RT]at hS1
 simp(disch:=omega) only[↓RA,RZ,simprocAttr]
 refine hS1.eNew 2 [(.int .u64 0),(.int .u64 0)] rfl rfl rfl pH fun A2 H2 hS2=> ?_
 simp only[RT]at hS2
 simp(disch:=omega) only[↓RA,RZ,simprocAttr,hn,g0,(hS2.sl hv).len]
 refine Wp.aq (fun n l H'=>l.length=22∧get l 2=(ptr A1 0 2)∧get l 4=(ptr A2 0 2)∧get l 7=v∧get l 8=I xs.length∧∃(j:Nat),(n+j=xs.length)∧get l 9=I j∧St prog H H' [⟨ptr A1 0 2,0,[(.int .u64 0),(.int .u64 0)]⟩,⟨ptr A2 0 2,0,[.int .u64 (lF (xs.take j)).1,.int .u64 (lF (xs.take j)).2]⟩]) xs.length ?_ ?_
 ·simp(disch:=omega) only[RB,RC,simprocAttr,hn]
  exact⟨0,by omega,rfl,hS2⟩
 rintro n l H3⟨hn,g2,g4,g7,g8,j,hj,g9,hS3⟩
 simp(disch:=omega) only[↓RA,RB,simprocAttr,hn,g8,g9]
 refine jA (fun q1=> ?_) (fun q1=> ?_)
 ·have hx:=hz _ (jE (xs:=xs) (j:=j) (by omega))
  have hok:Nt.Ok (lF (xs.take j)):=xU _ _ (fun z h=>hz z (iB h)) ⟨by decide,by decide⟩
  simp(disch:=omega) only[↓RA,RZ,simprocAttr,hn,g7,g9,(hS3.sl hv).idx,(hS3.sl hv).ld,one,q1]
  refine hS3.cF (b6s (jB xs j) hx) fun H4 hS4=> ?_
  simp(disch:=omega) only[↓RA,RZ,simprocAttr,hn,g4,hS4.aj 1 rfl,q1]
  refine hS4.cF (a7R (lF (xs.take j)) hok (jB xs j) hx.1 hx.2) fun H5 hS5=> ?_
  simp(disch:=omega) only[↓RA,RZ,simprocAttr,hn,g4,q1]
  refine hS5.ab 1 rfl [(.int .u64 (vO (lF (xs.take j)) (jB xs j)).1),(.int .u64 (vO (lF (xs.take j)) (jB xs j)).2)] rfl rfl pH (by simp) fun H6 hS6=> ?_
  simp only[RT]at hS6
  simp(disch:=omega) only[↓RA,RZ,simprocAttr,hn,g2,g4,g7,g8,g9,q1]
  refine⟨n-1,by omega,j+1,by omega,by simp,?_⟩
  rw[a8M xs (by omega)]
  exact hS6.pick [0,1] (by decide) rfl
 have hjj:j=xs.length:=by omega
 simp(disch:=omega) only[↓RA,RZ,simprocAttr,hn,g2,g4,hS3.aj 1 rfl,q1]
 refine hS3.ab 0 rfl [(.int .u64 (lF (xs.take j)).1),(.int .u64 (lF (xs.take j)).2)] rfl rfl pH (by simp) fun H7 hS7=> ?_
 simp only[RT]at hS7
 simp(disch:=omega) only[↓RA,RZ,simprocAttr,hn,g2,d0S,hS7.aj 0 rfl,q1]
 rw[hjj,eZ]
 exact⟨rfl,hS7.forget⟩
end Go.Ds
namespace Go.Ds
open Go.Proofs
variable {H:Heap}
set_option maxRecDepth 10000
set_option maxHeartbeats 1000000
end Go.Ds
namespace Go.Ds
open Go.Proofs Go.Proofs.Tryz
variable {H:Heap}
set_option maxRecDepth 10000
set_option maxHeartbeats 1000000
def ctz(x:Nat):Nat:=((List.range 64).find? fun i=>x.testBit i).getD 64
theorem a3U{x:Nat}(h0:x≠0)(h1:x<18446744073709551616):ctz x<64∧x.testBit (ctz x)=true∧∀j,j<ctz x→x.testBit j=false:=by
 have hx:∃i,i<64∧x.testBit i=true:=by
  refine fC fun hn=>h0 ?_
  refine gZ fun i=> ?_
  rw[ji]
  by_cases hi:i<64
  ·by_cases hb:x.testBit i=true
   ·exact absurd ⟨i,hi,hb⟩ hn
   ·simpa using hb
  ·exact Nat.testBit_lt_two_pow (eG (show x<2^64 by simpa using h1) (gi (by decide) (by omega)))
 unfold ctz
 cases hf:(List.range 64).find? fun i=>x.testBit i with
 | none=>
   obtain⟨i,hi,hb⟩:=hx
   have:=gO.1 hf i (dY.2 hi)
   exact absurd hb (by simpa using this)
 | some i=>
   obtain⟨hb,ys,bs,he,hn⟩:=List.find?_eq_some_iff_append.1 hf
   have hi:i<64:=dY.1 (he▸(by simp:i∈ys++i::bs))
   refine⟨hi,hb,fun j hj0=> ?_⟩
   have hj:j<i:=hj0
   have hl:ys.length=i:=by
    have h2:(List.range 64)[ys.length]? =some i:=by rw[he];simp
    have h3:ys.length<64:=by
     have:=congrArg List.length he
     simp at this
     omega
    rw[iN h3]at h2
    exact dA h2
   have hm:j∈ys:=by
    have h2:(List.range 64)[j]? =some j:=iN (by omega)
    rw[he,eW (by simpa using(hl▸hj))]at h2
    exact dR h2
   simpa using hn j hm
theorem a5V{x:Nat}(h0:x≠0)(h1:x<18446744073709551616):∃m,x=2^ctz x*(2*m+1):=by
 obtain⟨c1,c2,c3⟩:=a3U h0 h1
 generalize ctz x=k at c1 c2 c3
 have hd:x%2^k=0:=by
  refine gZ fun i=> ?_
  rw[Nat.testBit_mod_two_pow,ji]
  by_cases hi:i<k
  ·rw[c3 i hi,Bool.and_false]
  ·rw[decide_eq_false hi,gq]
 have h2:x/2^k%2=1:=by
  rw[←fL]
  have:=c2
  rw[tb]at this
  exact of_decide_eq_true this
 refine⟨x/2^k/2,?_⟩
 have h3:=Nat.div_add_mod x (2^k)
 have h4:=Nat.div_add_mod (x/2^k) 2
 rw[hd,iD]at h3
 rw[←h3]
 congr 1
 rw[h3]
 omega
theorem c3w{x:Nat}(h0:x≠0)(h1:x<18446744073709551616):x&&&(18446744073709551616-x)=2^ctz x:=by
 obtain⟨m,hm⟩:=a5V h0 h1
 obtain⟨c1,_,_⟩:=a3U h0 h1
 generalize ctz x=k at hm c1
 have e64:(18446744073709551616:Nat)=2^k*(2*2^(63-k)):=by
  have:2^k*(2*2^(63-k))=2^64:=by rw[←Nat.pow_succ',←Nat.pow_add];congr 1;omega
  rw[this]
 have hml:m<2^(63-k):=by
  rw[e64,hm]at h1
  have:=Nat.lt_of_mul_lt_mul_left h1
  omega
 have e2:18446744073709551616-x=2^k*(2*(2^(63-k)-(m+1))+1):=by
  rw[e64,hm,←Nat.mul_sub]
  congr 1
  omega
 rw[e2,hm]
 refine gZ fun i=> ?_
 rw[Nat.testBit_and,ib]
 have hs:∀y:Nat,(2^k*y).testBit i=(decide (k≤i)&&y.testBit (i-k)):=fun y=>by rw[jc,Nat.testBit_mul_two_pow]
 rw[hs,hs]
 by_cases hi:k≤i
 ·rw[decide_eq_true hi,gB,gB]
  by_cases he:i=k
  ·subst he
   rw[jb,Nat.testBit_zero,Nat.testBit_zero]
   simp
  ·obtain⟨j,hj⟩:∃j,i-k=j+1:=⟨i-k-1,by omega⟩
   rw[hj,Nat.testBit_succ,Nat.testBit_succ,show(2*m+1)/2=m by omega,show(2*(2^(63-k)-(m+1))+1)/2=2^(63-k)-(m+1) by omega,Nat.testBit_two_pow_sub_succ hml,decide_eq_false (by omega:¬k=i)]
   cases m.testBit j<;>simp
 ·rw[decide_eq_false hi,gq,decide_eq_false (by omega)]
  rfl
theorem c7Y:((List.range 64).all fun k=>decide (2^k*285870213051353865%18446744073709551616/288230376151711744<64)&&decide (t64.getD (2^k*285870213051353865%18446744073709551616/288230376151711744) 99=k))=true:=by kernel_rfl
theorem c0p{P:Program}{t:TypeId}{n:Nat}{elem:TypeId}{size:Nat}(ha:P.underlying t=some (.array n elem))(hs:jD P elem=some size)(A i:Nat)(k:IntKind)(j:Int)(h0:0≤j)(h1:j<n):
 wI (jV P t) P t (.pointer (some ⟨A,i,none⟩)) (.int k j)=some (.pointer (some ⟨A,i+j.toNat*size,none⟩)):=by
 have hn:jV P t=none:=by simp[jV,jJ,ha]
 rw[hn]
 simp only[wI,a3j,ha,hs,dC]
 rw[if_pos (by simp[h0,h1])]
theorem c5x(k:IntKind)(j:Int)(h0:0≤j)(h1:j<64):wI (jV prog 294) prog 294 (.pointer (some ⟨0,0,none⟩)) (.int k j)=some (.pointer (some ⟨0,0+j.toNat*1,none⟩)):=
 c0p (n:=64) (elem:=5) (size:=1) (by kernel_rfl) (by kernel_rfl) 0 0 k j h0 h1
theorem b4e(g:Nat)(l:List Value)(K:Value→Prop):kK (.global g) l K=K (.pointer (some ⟨g,0,none⟩)):=by simp[kK,jT,ev]
theorem gld(hG:Glob gH H)(j:Nat)(hj:j<64)(s:Option Nat):oU (some false) s H (.pointer (some ⟨0,j,none⟩))=some (.int .u8 (t64.getD j 0:Nat)):=by
 have h0:jS H 0=some (.cells (t64.map fun(n:Nat)=>Value.int .u8 (.ofNat n)) 5 false 0 1):=by
  rw[hG.same 0 (by decide)]
  rfl
 simp only[oU,kF,h0]
 have hl:(t64.map fun(n:Nat)=>Value.int .u8 (.ofNat n)).length=64:=by rw[dU];rfl
 rw[if_pos (by rw[hl];simp;omega)]
 simp only[dC]
 rw[eI (by omega),ee,iD,fo,dM (show j<t64.length from hj)]
 rw[ew,dE,dM (show j<t64.length from hj)]
 rfl
theorem b1S(m:Int):IntKind.wrap .u64 m=m%18446744073709551616:=by
 show(if(false&&decide (m%18446744073709551616≥9223372036854775808))=true then m%18446744073709551616-18446744073709551616 else m%18446744073709551616)=_
 simp
theorem c7Q(hG:Glob gH H)(x:Nat)(h0:x≠0)(h1:x<18446744073709551616):Fn prog 157 [.int .u64 x] H fun r H'=>r=I (ctz x)∧St prog H H' []:=by
 obtain⟨c1,_,_⟩:=a3U h0 h1
 have hd:=dT.1 c7Y (ctz x) (dY.2 c1)
 rw[dB,decide_eq_true_eq,decide_eq_true_eq]at hd
 have eA:IntKind.wrap .u64 (0-(x:Int))=((18446744073709551616-x:Nat):Int):=by
  rw[b1S]
  omega
 have eB:IntKind.wrap .u64 ((BitVec.ofInt (IntKind.bits .u64) (x:Int)&&&BitVec.ofInt (IntKind.bits .u64) ((18446744073709551616-x:Nat):Int)).toNat:Int)=((2^ctz x:Nat):Int):=by
  rw[iJ,xK x h1,xK _ (by omega),c3w h0 h1]
  exact rE _ (by omega) (by have:=a6g (ctz x) c1;omega)
 have eC:IntKind.wrap .u64 (((2^ctz x:Nat):Int)*285870213051353865)=((2^ctz x*285870213051353865%18446744073709551616:Nat):Int):=by
  rw[b1S]
  rfl
 have eD:((2^ctz x*285870213051353865%18446744073709551616:Nat):Int).fdiv (2^min 58 (IntKind.bits .u64))=((2^ctz x*285870213051353865%18446744073709551616/288230376151711744:Nat):Int):=by
  rw[show(2:Int)^min 58 (IntKind.bits .u64)=((288230376151711744:Nat):Int)from rfl]
  exact iA _ (by omega)
 have hd1:=hd.1
 have hd2:=hd.2
 generalize 2^ctz x*285870213051353865%18446744073709551616/288230376151711744=i at eD hd1 hd2
 refine .aL func157 rfl (by kernel_rfl) (m:=14) rfl fun l hn g0=> ?_
 have jS:=gld hG i hd1 (some 1)
 rw[show t64.getD i 0=ctz x from by rw[←hd2,dE,dE,dM (show i<t64.length from hd1)];rfl]at jS
 have hidx:=c5x .u64 (i:Int) (by omega) (by omega)
 rw[eT,iw,fR]at hidx
 simp(disch:=omega) only[↓RA,RB,simprocAttr,hn,g0]
 refine jA (fun q=> ?_) (fun q=> ?_)
 ·exfalso;omega
 simp(disch:=omega) only[↓RA,RZ,simprocAttr,hn,g0,c7B,eA,eB,eC,eD,b4e,jS,hidx,q]
 first|exact(sR H)|exact⟨rfl,(sR H)⟩
theorem a6i{x:Nat}(h0:x≠0)(h1:x<18446744073709551616)(j:Nat):(x&&&(x-1)).testBit j=(x.testBit j&& !decide (j=ctz x)):=by
 obtain⟨m,hm⟩:=a5V h0 h1
 generalize ctz x=k at hm
 have hp:0<2^k:=Nat.two_pow_pos k
 have e1:x=2^(k+1)*m+2^k:=by rw[hm,Nat.pow_succ,Nat.mul_add,iw,Nat.mul_assoc]
 have e2:x-1=2^(k+1)*m+(2^k-1):=by omega
 have hl:2^k<2^(k+1):=Nat.pow_lt_pow_right (by decide) (by omega)
 rw[Nat.testBit_and,e2]
 rw[e1,Nat.testBit_two_pow_mul_add m hl,Nat.testBit_two_pow_mul_add m (by omega:2^k-1<2^(k+1))]
 by_cases hj:j<k+1
 ·rw[if_pos hj,if_pos hj,ib,Nat.testBit_two_pow_sub_one]
  by_cases he:j=k
  ·simp[he]
  ·simp[show¬k=j by omega]
 ·rw[if_neg hj,if_neg hj,show decide (j=k)=false from decide_eq_false (by omega)]
  simp
theorem b5H{x:Nat}(h0:x≠0)(h1:x<18446744073709551616):qO x=ctz x::qO (x&&&(x-1)):=by
 obtain⟨c1,c2,c3⟩:=a3U h0 h1
 have hb:=a6i h0 h1
 generalize ctz x=k at c1 c2 c3 hb
 obtain⟨t,ht⟩:=xL c1
 have hnd:(List.range 64).Nodup:=List.nodup_range
 unfold qO
 rw[ht,fM,fM,List.filter_cons_of_pos (by simpa using c2),List.filter_cons_of_neg (by rw[hb];simp)]
 rw[ht]at hnd
 have e1:(List.range k).filter (fun i=>x.testBit i)=[]:=List.filter_eq_nil_iff.2 fun i hi=>by simpa using c3 i (dY.1 hi)
 have e2:(List.range k).filter (fun i=>(x&&&(x-1)).testBit i)=[]:=List.filter_eq_nil_iff.2 fun i hi=>by rw[hb,c3 i (dY.1 hi)];simp
 rw[e1,e2,fJ,fJ]
 congr 1
 refine List.filter_congr fun i hi=> ?_
 have hne:i≠k:=fun e=>by
  subst e
  exact(iP.1 (List.nodup_append.1 hnd).2.1).1 hi
 rw[hb,decide_eq_false hne]
 simp
theorem b1l:qO 0=[]:=List.filter_eq_nil_iff.2 fun i _=>by simp
def rN(x:Nt):List Int:=(qO x.1).map (fun(i:Nat)=>(i:Int))++(qO x.2).map fun(i:Nat)=>64+(i:Int)
def a9m(x:Nt)(i:Nat):Nat:=if i=0 then x.1 else x.2
def a6A(x:Nt)(i:Nat):List Int:=(qO (a9m x i)).map fun(j:Nat)=>64*(i:Int)+(j:Int)
def a7f(x:Nt)(i:Nat):List Int:=(List.range i).flatMap (a6A x)
theorem a1c(x:Nt)(i:Nat):a7f x (i+1)=a7f x i++a6A x i:=by
 unfold a7f
 rw[eV,dP,ed,fx,dQ]
theorem a8R(x:Nt):a7f x 2=rN x:=by
 rw[a1c,a1c]
 unfold rN a7f a6A a9m
 simp
theorem c1u{x:Nt}(hx:Nt.Ok x)(i:Nat):a9m x i<18446744073709551616:=by
 unfold a9m
 split
 ·exact hx.1
 ·exact hx.2
theorem c8P(a b:Int):qT prog 267 (.agg #[.int .u64 a,.int .u64 b]) (I 0)=some (.int .u64 a):=by kernel_rfl
theorem c7x(a b:Int):qT prog 267 (.agg #[.int .u64 a,.int .u64 b]) (I 1)=some (.int .u64 b):=by kernel_rfl
theorem d0u(x:Nt)(i:Nat)(h:i<2):a4b (pO prog 267) prog 267 (.agg #[.int .u64 x.1,.int .u64 x.2]) (I i)=some (.int .u64 (a9m x i)):=by
 rw[←a8y]
 rcases(by omega:i=0∨i=1)with rfl|rfl
 ·exact c8P _ _
 ·exact c7x _ _
theorem c5r(x:Nt)(hx:Nt.Ok x)(A:Nat)(f:Value)(J:List Int→Heap→Prop)(h0:J [] H)(hg:∀d H1,J d H1→Var H1 A 2 [.int .u64 x.1,.int .u64 x.2]∧Glob gH H1)
 (hst:∀d H1 H2,J d H1→St prog H1 H2 []→J d H2)
 (hf:∀d c e H1,rN x=d++c::e→J d H1→uG prog f [I c] H1 fun v H2=>v=.bool true∧J (d++[c]) H2):
 FnS prog 156 [f,ptr A 0 2] H fun _ H'=>J (rN x) H':=by
 have hV0:=(hg _ _ h0).1
 refine FnS.bl func156 rfl (by kernel_rfl) fun l hl=> ?_
 have hn:l.length=29:=by rw[hl];rfl
 have g0:get l 0=f:=by rw[hl];rfl
 have g1:get l 1=(ptr A 0 2):=by rw[hl];rfl
 clear hl
 simp(disch:=omega) only[↓RA,RZ,simprocAttr,hn,g1,hV0.ld,b5L]
 refine Wp.aq (fun n l H'=>l.length=29∧get l 0=f∧get l 1=ptr A 0 2∧get l 9=.agg #[.int .u64 x.1,.int .u64 x.2]∧∃i:Nat,n+i=2∧get l 10=I i∧J (a7f x i) H') 2 ?_ ?_
 ·simp(disch:=omega) only[RB,RC,simprocAttr,hn,g0,g1]
  exact⟨0,rfl,rfl,h0⟩
 rintro n l H9⟨hn,g0,g1,g9,i,hi,yC,hJ⟩
 simp(disch:=omega) only[↓RA,RB,simprocAttr,hn,yC]
 refine jA (fun q1=> ?_) (fun q1=> ?_)
 ·have hix:=d0u x i (by omega)
  have hwl:=c1u hx i
  simp(disch:=omega) only[↓RA,RZ,simprocAttr,hn,g9,yC,q1,hix]
  refine Wp.aq (fun n2 l H'=>l.length=29∧get l 0=f∧get l 1=ptr A 0 2∧get l 9=.agg #[.int .u64 x.1,.int .u64 x.2]∧get l 10=I i∧get l 3=I i∧∃(y:Nat)(d:List Nat),(n2=(qO y).length∧y<18446744073709551616∧qO (a9m x i)=d++qO y)∧get l 4=.int .u64 y∧J (a7f x i++d.map fun(j:Nat)=>64*(i:Int)+(j:Int)) H') (qO (a9m x i)).length ?_ ?_
  ·simp(disch:=omega) only[RB,RC,simprocAttr,hn,g0,g1,g9,yC]
   exact⟨a9m x i,[],⟨rfl,hwl,rfl⟩,rfl,by rw[gn,dQ];exact hJ⟩
  rintro n2 l H8⟨hn,g0,g1,g9,yC,g3,y,d,⟨hn2,hy,hbd⟩,g4,hJ2⟩
  simp(disch:=omega) only[↓RA,RB,simprocAttr,hn,g4]
  refine jA (fun q2=> ?_) (fun q2=> ?_)
  ·have hy0:y≠0:=by omega
   have hc:=a3U hy0 hy
   have hlow:=b5H hy0 hy
   have hGl:=(hg _ _ hJ2).2
   have eY1:IntKind.wrap .u64 ((y:Int)-1)=((y-1:Nat):Int):=by
    rw[b1S]
    omega
   have eY2:IntKind.wrap .u64 ((BitVec.ofInt (IntKind.bits .u64) (y:Int)&&&BitVec.ofInt (IntKind.bits .u64) ((y-1:Nat):Int)).toNat:Int)=((y&&&(y-1):Nat):Int):=by
    rw[iJ,xK y hy,xK _ (by omega)]
    have:=Nat.and_le_left (n:=y) (m:=y-1)
    exact rE _ (by omega) (by omega)
   have hyl:y&&&(y-1)<18446744073709551616:=Nat.lt_of_le_of_lt Nat.and_le_left hy
   have hmem:rN x=(a7f x i++d.map fun(j:Nat)=>64*(i:Int)+(j:Int))++(64*(i:Int)+(ctz y:Int))::((qO (y&&&(y-1))).map (fun(j:Nat)=>64*(i:Int)+(j:Int))++((List.range 2).drop (i+1)).flatMap (a6A x)):=by
    rw[←a8R]
    unfold a7f
    have e:List.range 2=List.range i++i::(List.range 2).drop (i+1):=by
     rcases(by omega:i=0∨i=1)with rfl|rfl<;>rfl
    rw[congrArg (List.flatMap (a6A x)) e,dP,ed]
    rw[show a6A x i=(d++qO y).map (fun(j:Nat)=>64*(i:Int)+(j:Int))from by unfold a6A;rw[hbd]]
    rw[hlow,ec,eK]
    simp only[eS,fO]
   have hc1:=hc.1
   simp(disch:=omega) only[↓RA,RZ,simprocAttr,hn,g0,g3,g4,q2]
   refine(sR H8).cF (c7Q ((sR H8).gl hGl) y hy0 hy) fun H1 hS1=> ?_
   simp(disch:=omega) only[↓RA,RZ,simprocAttr,hn,q2]
   refine b2K (hf _ _ _ _ hmem (hst _ _ _ hJ2 hS1)) ?_
   rintro r H10⟨rfl,hJ3⟩
   simp(disch:=omega) only[↓RA,RZ,simprocAttr,hn,g0,g1,g9,yC,g3,g4,q2,eY1,eY2]
   refine⟨(qO (y&&&(y-1))).length,by rw[hn2,hlow];simp,y&&&(y-1),d++[ctz y],⟨rfl,hyl,by rw[hbd,hlow];simp⟩,rfl,?_⟩
   rw[ec,eK,gn,←eS]
   exact hJ3
  simp(disch:=omega) only[↓RA,RZ,simprocAttr,hn,g0,g1,g9,yC,q2]
  have hy0:y=0:=by omega
  subst hy0
  refine⟨n-1,by omega,i+1,by omega,by simp,?_⟩
  rw[a1c]
  have:a6A x i=d.map fun(j:Nat)=>64*(i:Int)+(j:Int):=by
   unfold a6A
   rw[hbd,b1l,dQ]
  rw[this]
  exact hJ2
 simp(disch:=omega) only[↓RA,RZ,simprocAttr,c9z,q1]
 have e:i=2:=by omega
 subst e
 rw[←a8R]
 exact hJ
theorem a3i(x:Nt):(rN x).length≤128:=by
 unfold rN
 rw[dH,dU,dU]
 have h1:=a9O x.1 64
 have h2:=a9O x.2 64
 unfold b8A at h1 h2
 unfold qO
 omega
theorem b5O(hG:Glob gH H)(x:Nt)(hx:Nt.Ok x)(A:Nat)(hA:Var H A 2 [.int .u64 x.1,.int .u64 x.2]):
 Fn prog 155 [.slice none 0 0,.func (.func 156) #[] #[ptr A 0 2]] H fun r H'=>St prog H H' [⟨r,1,(rN x).flatMap (one I)⟩]:=by
 refine .aE func155 rfl (by kernel_rfl) (m:=13) rfl fun l hn g0 g1=> ?_
 simp(disch:=omega) only[↓RA,RB,simprocAttr,g0]
 refine(sR H).eNew 1 [(.slice none 0 0)] rfl rfl rfl b0N fun A1 H1 hS1=> ?_
 simp only[RT]at hS1
 simp(disch:=omega) only[↓RA,RB,simprocAttr,g1]
 have hS2:=hS1.nil 0
 simp only[RT]at hS2
 refine Wp.cZ fun lrg1 hlrg1=> ?_
 have hnrg1:lrg1.length=13:=by rw[hlrg1];simp(disch:=omega) only[RB,simprocAttr,hn]
 have g2rg1:get lrg1 2=(ptr A1 0 1):=by rw[hlrg1];simp(disch:=omega) only[RB,simprocAttr,hn]
 have g4rg1:get lrg1 4=(.slice none 0 0):=by rw[hlrg1];simp(disch:=omega) only[RB,simprocAttr,hn]
 have gfrg1:get lrg1 6=.func (.func 156) #[] [(ptr A 0 2)].toArray:=by rw[hlrg1];simp(disch:=omega) only[RB,simprocAttr,hn]
 clear hlrg1
 refine Wp.cO gfrg1 fun rg1 hstrg1 hpdrg1 htmrg1 hpsrg1 hasrg1 hbdrg1=> ?_
 have hreqrg1:({rg1 with state:=.ready,pending:=none}:Loop)=rg1:=by
  cases rg1
  simp only at hstrg1 hpdrg1
  subst hstrg1 hpdrg1
  rfl
 have hLprg1:=Lp.enter hS2 rg1
 generalize H1.cons (.loop rg1)=Hcrg1 at hLprg1 ⊢
 generalize H1.length=Lrg1 at hLprg1 ⊢
 refine(c5r x hx A (.func (.yield Lrg1) #[] #[]) (fun d H1=>∃ow,Lp prog H Lrg1 rg1 H1 [⟨ptr A1 0 1,0,[ow]⟩,⟨ow,1,d.flatMap (one I)⟩]) ⟨.slice none 0 0,hLprg1⟩ ?_ ?_ ?_).mono ?_
 ·rintro d H1⟨ow,h⟩
  exact⟨hA.ag h.st.ag,h.st.gl hG⟩
 ·rintro d H1 H2⟨ow,h⟩hS
  exact⟨ow,by simpa using h.ext hS⟩
 ·rintro d c e H20 hm⟨ow,hLpj⟩
  have hml:=a3i x
  have hdl:d.length<128:=by
   rw[hm,dH,dS]at hml
   omega
  refine a2g hLpj.get (by rw[hpsrg1];rfl) hstrg1 ?_
  refine Wp.bZ (l:=put lrg1 (some 7) (I c)) hasrg1 (by rw[hpsrg1,htmrg1];first|exact(oQ ..).symm|rfl|simp[put,oQ]) ?_
  simp(disch:=omega) only[↓RA,RZ,simprocAttr,hnrg1]
  refine⟨rg1,hLpj.get,hstrg1,?_⟩
  have hYBs1:=hLpj.set (fun h=>h) {rg1 with state:=.busy}
  have hKBs1:∀B,B≠Lrg1→jS (hset H20 Lrg1 (.loop {rg1 with state:=.busy})) B=jS H20 B:=fun B h=>kD _ (fN h)
  have hNBs1:(hset H20 Lrg1 (.loop {rg1 with state:=.busy})).length=H20.length:=kO ..
  generalize hset H20 Lrg1 (.loop {rg1 with state:=.busy})=HBs1 at hYBs1 hKBs1 hNBs1 ⊢
  refine Wp.bZ hbdrg1 rfl ?_
  have hZBs1:=hYBs1.st
  obtain⟨Bs1,hBBs1,hS3⟩:=hZBs1.aB (os:=[⟨ptr A1 0 1,0,_⟩,⟨ow,1,_⟩])
  simp(disch:=omega) only[↓RA,RZ,simprocAttr,hnrg1,g2rg1,hS3.ld 0 rfl]
  refine hS3.ai [I c] qK wM rfl rfl (by simp[Value.cells]) rfl rfl (by decide) (by decide) fun w1 H2 hS4=> ?_
  simp only[RT]at hS4
  simp(disch:=omega) only[↓RA,RZ,simprocAttr,hnrg1]
  refine hS4.al 1 rfl (hS4.rd 2 rfl) qK (by rw[mQ,dU];simp;omega) fun w2 H3 hS5=> ?_
  simp only[RT]at hS5
  simp(disch:=omega) only[↓RA,RB,simprocAttr,hnrg1,g2rg1]
  refine hS5.ab 0 rfl [w2] (by rw[(hS5.rd 1 rfl).cells.1]) (by simp[(hS5.rd 1 rfl).cells.2.1]) b0N (by simp) fun H4 hS6=> ?_
  simp only[RT]at hS6
  simp(disch:=omega) only[↓RA,simprocAttr]
  have hS7:=hS6.pick (os':=[⟨ptr A1 0 1,0,_⟩,⟨w2,1,_⟩]) [0,1] (by decide) rfl
  have hWBs1:=(hYBs1.body (hBBs1▸hS7)).set (fun h=>h) rg1
  rw[←hreqrg1]at hWBs1
  refine⟨_,(hYBs1.body (hBBs1▸hS7)).get,rfl,w2,?_⟩
  rw[dP]
  exact hreqrg1▸hWBs1
 ·rintro _ H21⟨ow,hLp2⟩
  refine⟨_,hLp2.get,(by rw[hstrg1];exact fun h=>by cases h),fun _=> ?_,fun c hc=>by rw[hpdrg1]at hc;cases hc⟩
  have hAAf1:=(hLp2.set (fun h=>h) {rg1 with state:=.exhausted}).st
  have hKAf1:∀B,B≠Lrg1→jS (hset H21 Lrg1 (.loop {rg1 with state:=.exhausted})) B=jS H21 B:=fun B h=>kD _ (fN h)
  generalize hset H21 Lrg1 (.loop {rg1 with state:=.exhausted})=HAf1 at hAAf1 hKAf1 ⊢
  simp(disch:=omega) only[↓RA,RZ,simprocAttr,hnrg1,g2rg1,hAAf1.ld 0 rfl,c7T]
  exact hAAf1.pick [1] (by decide) rfl
theorem b0v(hG:Glob gH H)(x:Nt)(hx:Nt.Ok x)(A:Nat)(hA:Var H A 2 [.int .u64 x.1,.int .u64 x.2]):
 Fn prog 109 [.func (.func 156) #[] #[ptr A 0 2]] H fun r H'=>St prog H H' [⟨r,1,(rN x).flatMap (one I)⟩]:=by
 refine .aL func109 rfl (by kernel_rfl) (m:=5) rfl fun l hn g0=> ?_
 simp(disch:=omega) only[↓RA,RZ,simprocAttr,hn,g0]
 refine jI ((b5O ((sR H).gl hG) x hx A (hA.ag (sR H).ag)).tr) ?_
 rintro r H1⟨-,hT1⟩
 have hS1:=(sR H).trans hT1
 simp only[RT]at hS1
 simp(disch:=omega) only[↓RA,RB,simprocAttr,hn,c7L]
 exact hS1
theorem c1S(x:Nt):Fn prog 110 [.agg #[.int .u64 x.1,.int .u64 x.2]] H fun r H'=>∃A,r=.func (.func 156) #[] #[ptr A 0 2]∧St prog H H' [⟨ptr A 0 2,0,[.int .u64 x.1,.int .u64 x.2]⟩]:=by
 refine .aL func110 rfl (by kernel_rfl) (m:=4) rfl fun l hn g0=> ?_
 simp(disch:=omega) only[↓RA,RB,simprocAttr,g0]
 refine(sR H).eNew 2 [(.int .u64 x.1),(.int .u64 x.2)] rfl rfl rfl pH fun A1 H1 hS1=> ?_
 simp only[RT]at hS1
 simp(disch:=omega) only[↓RA,RZ,simprocAttr,hn,c8Y]
 exact⟨A1,rfl,hS1⟩
theorem b1W(hG:Glob gH H)(x:Nt)(hx:Nt.Ok x):
 Fn prog 69 [.agg #[.int .u64 x.1,.int .u64 x.2]] H fun r H'=>St prog H H' [⟨r,1,(rN x).flatMap (one I)⟩]:=by
 refine .aL func69 rfl (by kernel_rfl) (m:=6) rfl fun l hn g0=> ?_
 simp(disch:=omega) only[↓RA,RB,simprocAttr,g0]
 refine(sR H).eNew 2 [(.int .u64 x.1),(.int .u64 x.2)] rfl rfl rfl pH fun A1 H1 hS1=> ?_
 simp only[RT]at hS1
 simp(disch:=omega) only[↓RA,RZ,simprocAttr,hn,hS1.aj 0 rfl]
 refine jI (c1S x) ?_
 rintro r H2⟨A2,rfl,hT1⟩
 have hS2:=hS1.trans hT1
 simp only[RT]at hS2
 simp(disch:=omega) only[↓RA,RZ,simprocAttr,hn]
 refine jI ((b0v (hS2.gl hG) x hx A2 (hS2.var 1 rfl)).tr) ?_
 rintro r H3⟨-,hT2⟩
 have hS3:=hS2.trans hT2
 simp only[RT]at hS3
 simp(disch:=omega) only[↓RA,RB,simprocAttr,hn,c9K]
 exact hS3.pick [2] (by decide) rfl
def b0i(a b:Nat):Nat:=(BitVec.ofNat 64 a&&&~~~ BitVec.ofNat 64 b).toNat
theorem a5Z(a b:Nat):b0i a b<18446744073709551616:=(BitVec.ofNat 64 a&&&~~~ BitVec.ofNat 64 b).isLt
theorem c4y(a b:Nat):IntKind.wrap .u64 ((BitVec.ofInt (IntKind.bits .u64) (a:Int)&&&~~~ BitVec.ofInt (IntKind.bits .u64) (b:Int)).toNat:Int)=((b0i a b:Nat):Int):=by
 have e:(BitVec.ofInt (IntKind.bits .u64) (a:Int)&&&~~~ BitVec.ofInt (IntKind.bits .u64) (b:Int)).toNat=b0i a b:=by
  unfold b0i
  rw[gX,gX]
  rfl
 rw[e]
 have:=a5Z a b
 exact rE _ (by omega) (by omega)
theorem a8O(a b j:Nat)(ha:a<18446744073709551616)(hj:j<64):(b0i a b).testBit j=(a.testBit j&& !b.testBit j):=by
 unfold b0i
 have h1:(BitVec.ofNat 64 a&&&~~~ BitVec.ofNat 64 b).toNat.testBit j=(BitVec.ofNat 64 a&&&~~~ BitVec.ofNat 64 b).getLsbD j:=rfl
 rw[h1,BitVec.getLsbD_and,BitVec.getLsbD_not,BitVec.getLsbD_ofNat,BitVec.getLsbD_ofNat]
 simp[hj]
def woF(x y:Nt):Nt:=(b0i x.1 y.1,b0i x.2 y.2)
theorem c6S(x y:Nt):Nt.Ok (woF x y):=⟨a5Z _ _,a5Z _ _⟩
theorem c5N(x y:Nt):Fn prog 130 [.agg #[.int .u64 x.1,.int .u64 x.2],.agg #[.int .u64 y.1,.int .u64 y.2]] H fun r H'=>r=.agg #[.int .u64 (woF x y).1,.int .u64 (woF x y).2]∧St prog H H' []:=by
 have e1:=c4y x.1 y.1
 have e2:=c4y x.2 y.2
 refine .aE func130 rfl (by kernel_rfl) (m:=16) rfl fun l hn g0 g1=> ?_
 simp(disch:=omega) only[↓RA,RB,simprocAttr,g0]
 refine(sR H).eNew 2 [(.int .u64 x.1),(.int .u64 x.2)] rfl rfl rfl pH fun A1 H1 hS1=> ?_
 simp only[RT]at hS1
 simp(disch:=omega) only[↓RA,RB,simprocAttr,g1]
 refine hS1.eNew 2 [(.int .u64 y.1),(.int .u64 y.2)] rfl rfl rfl pH fun A2 H2 hS2=> ?_
 simp only[RT]at hS2
 simp(disch:=omega) only[↓RA,RZ,simprocAttr]
 refine hS2.eNew 2 [(.int .u64 0),(.int .u64 0)] rfl rfl rfl pH fun A3 H3 hS3=> ?_
 simp only[RT]at hS3
 simp(disch:=omega) only[↓RA,RZ,simprocAttr,hn,hS3.ld 0 rfl,hS3.ld 1 rfl,b7M,e1,e2]
 refine hS3.ab 2 rfl [_,_] rfl rfl pH (by simp) fun H4 hS4=> ?_
 simp only[RT]at hS4
 simp(disch:=omega) only[↓RA,RZ,simprocAttr,hn,c8K,hS4.aj 2 rfl]
 exact⟨rfl,hS4.forget⟩
theorem b1P(x y:Nt):Fn prog 93 [.agg #[.int .u64 x.1,.int .u64 x.2],.agg #[.int .u64 y.1,.int .u64 y.2]] H fun r H'=>r=.bool (decide (woF x y=(0,0)))∧St prog H H' []:=by
 refine .aE func93 rfl (by kernel_rfl) (m:=10) rfl fun l hn g0 g1=> ?_
 simp(disch:=omega) only[↓RA,RB,simprocAttr,g0]
 refine(sR H).eNew 2 [(.int .u64 x.1),(.int .u64 x.2)] rfl rfl rfl pH fun A1 H1 hS1=> ?_
 simp only[RT]at hS1
 simp(disch:=omega) only[↓RA,RB,simprocAttr,g1]
 refine hS1.eNew 2 [(.int .u64 y.1),(.int .u64 y.2)] rfl rfl rfl pH fun A2 H2 hS2=> ?_
 simp only[RT]at hS2
 simp(disch:=omega) only[↓RA,RZ,simprocAttr,hn,hS2.aj 0 rfl,hS2.aj 1 rfl]
 refine hS2.cF (c5N x y) fun H3 hS3=> ?_
 simp(disch:=omega) only[↓RA,RZ,simprocAttr,hn,b7b,d0e]
 refine⟨?_,hS3.forget⟩
 congr 1
 rw[decide_eq_decide]
 constructor
 ·rintro⟨h1,h2⟩
  exact iz (by simpa using h1) (by simpa using h2)
 ·intro h
  rw[h]
  exact⟨rfl,rfl⟩
def a1T(lo hi:Int):Nt:=lF ((List.range (hi-lo+1).toNat).map fun(k:Nat)=>lo+(k:Int))
theorem b4c(lo hi:Int)(h0:0≤lo)(h1:lo≤hi)(h2:hi≤127):Fn prog 92 [.agg #[I lo,I hi]] H fun r H'=>r=.tuple #[.agg #[.int .u64 (a1T lo hi).1,.int .u64 (a1T lo hi).2],I 0]∧St prog H H' []:=by
 have hce:sZ lo hi=0:=by
  unfold sZ
  rw[if_neg (by omega),if_neg (by omega)]
 refine .aL func92 rfl (by kernel_rfl) (m:=25) rfl fun l hn g0=> ?_
 simp(disch:=omega) only[↓RA,RB,simprocAttr,g0]
 refine(sR H).eNew 2 [I lo,I hi] rfl rfl rfl rI fun A1 H1 hS1=> ?_
 simp only[RT]at hS1
 simp(disch:=omega) only[↓RA,RZ,simprocAttr]
 refine hS1.eNew 2 [(.int .u64 0),(.int .u64 0)] rfl rfl rfl pH fun A2 H2 hS2=> ?_
 simp only[RT]at hS2
 simp(disch:=omega) only[↓RA,RZ,simprocAttr]
 refine hS2.eNew 2 [(.int .u64 0),(.int .u64 0)] rfl rfl rfl pH fun A3 H3 hS3=> ?_
 simp only[RT]at hS3
 simp(disch:=omega) only[↓RA,RZ,simprocAttr,hn,hS3.aj 0 rfl]
 refine hS3.cF (a2E lo hi) fun H4 hS4=> ?_
 rw[hce]
 simp(disch:=omega) only[↓RA,RZ,simprocAttr,hn,hS4.ld 0 rfl]
 refine Wp.aq (fun n l H'=>l.length=25∧get l 1=(ptr A1 0 2)∧get l 2=(ptr A2 0 2)∧get l 3=I 0∧get l 4=(ptr A3 0 2)∧∃(j:Nat),(n+j=(hi-lo+1).toNat)∧get l 6=I (lo+(j:Int))∧St prog H H' [⟨ptr A1 0 2,0,[I lo,I hi]⟩,⟨ptr A2 0 2,0,[(.int .u64 0),(.int .u64 0)]⟩,⟨ptr A3 0 2,0,[.int .u64 (lF ((List.range j).map fun(k:Nat)=>lo+(k:Int))).1,.int .u64 (lF ((List.range j).map fun(k:Nat)=>lo+(k:Int))).2]⟩]) (hi-lo+1).toNat ?_ ?_
 ·simp(disch:=omega) only[RB,RC,simprocAttr,hn]
  exact⟨0,by omega,by simp,hS4⟩
 rintro n l H5⟨hn,g1,g2,g3,g4,j,hj,g6,hS5⟩
 simp(disch:=omega) only[↓RA,RZ,simprocAttr,hn,g1,g6,hS5.ld 0 rfl]
 refine jA (fun q1=> ?_) (fun q1=> ?_)
 ·have hok:Nt.Ok (lF ((List.range j).map fun(k:Nat)=>lo+(k:Int))):=xU _ _ (fun z h=>by
   obtain⟨k,hk,rfl⟩:=dX.1 h
   have:=dY.1 hk
   exact⟨by omega,by omega⟩) ⟨by decide,by decide⟩
  have hsu:lF ((List.range (j+1)).map fun(k:Nat)=>lo+(k:Int))=vO (lF ((List.range j).map fun(k:Nat)=>lo+(k:Int))) (lo+(j:Int)):=by
   unfold lF
   rw[eV,ec,gY]
   rfl
  simp(disch:=omega) only[↓RA,RZ,simprocAttr,hn,g4,g6,hS5.aj 2 rfl,q1]
  refine hS5.cF (a7R (lF ((List.range j).map fun(k:Nat)=>lo+(k:Int))) hok (lo+(j:Int)) (by omega) (by omega)) fun H6 hS6=> ?_
  simp(disch:=omega) only[↓RA,RZ,simprocAttr,hn,g4,q1]
  refine hS6.ab 2 rfl [(.int .u64 (vO (lF ((List.range j).map fun(k:Nat)=>lo+(k:Int))) (lo+(j:Int))).1),(.int .u64 (vO (lF ((List.range j).map fun(k:Nat)=>lo+(k:Int))) (lo+(j:Int))).2)] rfl rfl pH (by simp) fun H7 hS7=> ?_
  simp only[RT]at hS7
  simp(disch:=omega) only[↓RA,RZ,simprocAttr,hn,g1,g2,g3,g4,g6,q1]
  refine⟨n-1,by omega,j+1,by omega,by congr 1;omega,?_⟩
  rw[hsu]
  exact hS7.pick [0,1,2] (by decide) rfl
 have hjj:j=(hi-lo+1).toNat:=by omega
 simp(disch:=omega) only[↓RA,RZ,simprocAttr,hn,g2,g4,hS5.aj 2 rfl,q1]
 refine hS5.ab 1 rfl [(.int .u64 (lF ((List.range j).map fun(k:Nat)=>lo+(k:Int))).1),(.int .u64 (lF ((List.range j).map fun(k:Nat)=>lo+(k:Int))).2)] rfl rfl pH (by simp) fun H8 hS8=> ?_
 simp only[RT]at hS8
 simp(disch:=omega) only[↓RA,RZ,simprocAttr,hn,g2,d0s,hS8.aj 1 rfl,q1]
 rw[hjj]
 exact⟨rfl,hS8.forget⟩
structure Ks(H:Heap)(kv:Value)(ks:List Nt):Prop where
 sl:Sl 2 ntc H kv ks
 len:ks.length<1000000000
 ok:∀x∈ks,Nt.Ok x
theorem Ks.ag{P:Program}{H':Heap}{kv:Value}{ks:List Nt}{os:List Ob}(h:Ks H kv ks)(hS:St P H H' os):Ks H' kv ks:=⟨hS.sl h.sl,h.len,h.ok⟩
def tI(o:Org)(ks:List Nt):Int:=if organE o≠0 then organE o else if ks.length≠o.dvs.length then 5 else if ∃j,j<o.dvs.length∧woF (jB ks j) (a1T (jB o.dvs j).lo (jB o.dvs j).hi)≠(0,0)then 23 else 0
theorem a7M(o:Org)(ho:o.In H)(kv:Value)(ks:List Nt)(hk:Ks H kv ks):Fn prog 49 [.agg #[.string o.name,o.rv,o.dv,o.cv],kv] H fun r H'=>r=I (tI o ks)∧St prog H H' []:=by
 have hkl:=hk.len
 have hdl:=ho.2.2.2.2.2.2.1
 refine .aE func49 rfl (by kernel_rfl) (m:=43) rfl fun l hn g0 g1=> ?_
 simp(disch:=omega) only[↓RA,RB,simprocAttr,g0]
 refine(sR H).eNew 4 [(.string o.name),o.rv,o.dv,o.cv] rfl rfl (by simp[OC,((sR H).sl ho.1).cells.2.1,((sR H).sl ho.2.2.1).cells.2.1,((sR H).sl ho.2.2.2.2.1).cells.2.1]) tO fun A1 H1 hS1=> ?_
 simp only[RT]at hS1
 simp(disch:=omega) only[↓RA,RZ,simprocAttr,hn,hS1.aj 0 rfl]
 refine hS1.cF (a4i o (ho.ag hS1)) fun H2 hS2=> ?_
 simp(disch:=omega) only[↓RA,RB,simprocAttr,hn]
 refine jA (fun h1=> ?_) (fun h1=> ?_)
 ·simp(disch:=omega) only[↓RA,RZ,simprocAttr,hn,c2A,h1]
  exact⟨by unfold tI;rw[if_pos h1],hS2.forget⟩
 have hz:organE o=0:=dW.1 h1
 have hf:=Org.aP hz
 simp(disch:=omega) only[↓RA,RZ,simprocAttr,hn,g1,(hS2.sl hk.sl).len,hS2.ld 0 rfl,(hS2.sl ho.2.2.1).len,h1]
 refine jA (fun h2=> ?_) (fun h2=> ?_)
 ·simp(disch:=omega) only[↓RA,RZ,simprocAttr,hn,c2A,h1,h2]
  exact⟨by unfold tI;rw[if_neg h1,if_pos (by omega)],hS2.forget⟩
 have hlen:ks.length=o.dvs.length:=by omega
 simp(disch:=omega) only[↓RA,RZ,simprocAttr,hn,hS2.ld 0 rfl,(hS2.sl ho.2.2.1).len,h1,h2]
 refine Wp.aq (fun n l H'=>l.length=43∧get l 1=kv∧get l 22=o.dv∧get l 23=I o.dvs.length∧∃(j:Nat),(n+j=o.dvs.length∧∀q,q<j→woF (jB ks q) (a1T (jB o.dvs q).lo (jB o.dvs q).hi)=(0,0))∧get l 24=I j∧St prog H H' [⟨ptr A1 0 4,0,[(.string o.name),o.rv,o.dv,o.cv]⟩]) o.dvs.length ?_ ?_
 ·simp(disch:=omega) only[RB,RC,simprocAttr,hn,g1]
  exact⟨0,⟨by omega,fun q hq=>absurd hq (ez _)⟩,rfl,hS2⟩
 rintro n l H3⟨hn,g1,g22,g23,j,⟨hj,hq⟩,g24,hS3⟩
 simp(disch:=omega) only[↓RA,RB,simprocAttr,hn,g23,g24]
 refine jA (fun h3=> ?_) (fun h3=> ?_)
 ·have hky:=hf.keys j (by omega)
  simp(disch:=omega) only[↓RA,RZ,simprocAttr,hn,g22,g24,(hS3.sl ho.2.2.1).idx,(hS3.sl ho.2.2.1).aj,Dvn.cells,h3]
  refine hS3.eNew 5 [(.string ⟨#[]⟩),(.bool false),I 0,I 0,(.slice none 0 0)] rfl rfl rfl qC fun A2 H4 hS4=> ?_
  simp only[RT]at hS4
  simp(disch:=omega) only[↓RA,RZ,simprocAttr,hn,h3]
  refine hS4.ab 1 rfl [(.string (jB o.dvs j).name),(.bool (jB o.dvs j).pedal),I (jB o.dvs j).lo,I (jB o.dvs j).hi,(jB o.dvs j).sv] rfl (by simp[OC,(hS4.sl (ho.2.2.2.1 (jB o.dvs j) (jE (by omega))).1).cells.2.1]) qC (by simp) fun H5 hS5=> ?_
  simp only[RT]at hS5
  simp(disch:=omega) only[↓RA,RZ,simprocAttr,hn,hS5.aj 1 rfl,h3]
  refine hS5.cF (b4c (jB o.dvs j).lo (jB o.dvs j).hi hky.1 hky.2.1 hky.2.2) fun H6 hS6=> ?_
  simp(disch:=omega) only[↓RA,RZ,simprocAttr,hn,h3]
  refine hS6.eNew 2 [(.int .u64 0),(.int .u64 0)] rfl rfl rfl pH fun A3 H7 hS7=> ?_
  simp only[RT]at hS7
  simp(disch:=omega) only[↓RA,RZ,simprocAttr,hn,h3]
  refine hS7.ab 2 rfl [(.int .u64 (a1T (jB o.dvs j).lo (jB o.dvs j).hi).1),(.int .u64 (a1T (jB o.dvs j).lo (jB o.dvs j).hi).2)] rfl rfl pH (by simp) fun H8 hS8=> ?_
  simp only[RT]at hS8
  simp(disch:=omega) only[↓RA,RZ,simprocAttr,hn,h3]
  refine Wp.drw kS (by kernel_rfl) ?_
  simp(disch:=omega) only[↓RA,RZ,simprocAttr,hn,g1,(hS8.sl hk.sl).idx,(hS8.sl hk.sl).aj,ntc,hS8.aj 2 rfl]
  refine hS8.cF (b1P (jB ks j) (a1T (jB o.dvs j).lo (jB o.dvs j).hi)) fun H9 hS9=> ?_
  simp(disch:=omega) only[↓RA,RB,simprocAttr,hn]
  refine kC (fun h4=> ?_) (fun h4=> ?_)
  ·have h5:¬woF (jB ks j) (a1T (jB o.dvs j).lo (jB o.dvs j).hi)=(0,0):=by simpa using h4
   simp(disch:=omega) only[↓RA,RB,simprocAttr,hn,c2A,h4]
   exact⟨by unfold tI;rw[if_neg h1,if_neg (by omega),if_pos ⟨j,by omega,h5⟩],hS9.forget⟩
  have h5:woF (jB ks j) (a1T (jB o.dvs j).lo (jB o.dvs j).hi)=(0,0):=by simpa using h4
  simp(disch:=omega) only[↓RA,RZ,simprocAttr,hn,g1,g22,g23,g24,h4]
  exact⟨n-1,by omega,j+1,⟨by omega,fun q hq'=>by rcases dN.1 hq' with e|e;(· exact hq q e);(· rw[e];exact h5)⟩,by simp,hS9.pick [0] (by decide) rfl⟩
 simp(disch:=omega) only[↓RA,RZ,simprocAttr,hn,c2A,h3]
 refine⟨?_,hS3.forget⟩
 unfold tI
 rw[if_neg h1,if_neg (by omega),if_neg]
 rintro⟨q,hq1,hq2⟩
 exact hq2 (hq q (by omega))
def plD(ks:List Nt)(i:Nat):List Ct:=(rN (jB ks i)).map fun z=>((i:Int),z)
def jG(ks:List Nt):List Ct:=(List.range ks.length).flatMap (plD ks)
theorem c6k(ks:List Nt)(i:Nat):(plD ks i).length≤128:=by
 unfold plD
 rw[dU]
 exact a3i _
theorem b8w(ks:List Nt):∀i,((List.range i).flatMap (plD ks)).length≤i*128
 | 0=>by simp
 | i+1=>by
   have:=b8w ks i
   have:=c6k ks i
   rw[eV,dP,dH,ed,fx,dQ]
   omega
end Go.Ds
namespace Go.Ds
open Go.Proofs Go.Proofs.Tryz Go.ChangeShapes Go.WideShapes Go.RowKit Go.Deep
set_option maxRecDepth 10000
structure RgI(H:Heap)(r:Reg)(sv:Value):Prop where
 sl:Sl 1 (one u64) H sv r.stops
 len:r.stops.length<9223372036854775808
 ok:∀x∈r.stops,x<18446744073709551616
 cpl:r.cpl<18446744073709551616
 off:r.off<18446744073709551616
structure KsI(H:Heap)(kv:Value)(ks:List Nt):Prop where
 sl:Sl 2 ntc H kv ks
 len:ks.length<9223372036854775808
 ok:∀x∈ks,Nt.Ok x
theorem RgI.ext{ρ ρ':Rho}{H H':Heap}{r:Reg}{sv:Value}(h:RgI H r sv)(e:ExtW ρ H ρ' H'):RgI H' r sv:=⟨h.sl.ext e,h.len,h.ok,h.cpl,h.off⟩
theorem RgI.ag{P:Program}{H H0:Heap}{os:List Ob}{r:Reg}{sv:Value}(h:RgI H0 r sv)(hS:St P H0 H os):RgI H r sv:=⟨hS.sl h.sl,h.len,h.ok,h.cpl,h.off⟩
theorem KsI.ag{P:Program}{H H0:Heap}{os:List Ob}{kv:Value}{ks:List Nt}(h:KsI H0 kv ks)(hS:St P H0 H os):KsI H kv ks:=⟨hS.sl h.sl,h.len,h.ok⟩
theorem RgI.reg{H:Heap}{r:Reg}{sv:Value}(h:RgI H r sv)(hl:r.stops.length<1000000000):r.In H sv:=⟨h.sl,hl,h.ok,h.cpl,h.off⟩
theorem KsI.ks{H:Heap}{kv:Value}{ks:List Nt}(h:KsI H kv ks)(hl:ks.length<1000000000):Ks H kv ks:=⟨h.sl,hl,h.ok⟩
theorem Pln.In.ext{ρ ρ':Rho}{H H':Heap}{p:Pln}(h:p.In H)(e:ExtW ρ H ρ' H'):p.In H':=⟨h.1.ext e,h.2.1.ext e,fun b hb=>⟨(h.2.2.1 b hb).1.ext e,(h.2.2.1 b hb).2⟩,h.2.2.2.1.ext e,h.2.2.2.2⟩
section
variable {H0:Type} {enc:TypeId×Value→H0} {w:World} {base n:Nat} {spare:Nat→Bool} {lJ:Bool} {x:DataW H0×List MemPlace}
theorem c1F{cs:List Value}(h:DataW.trod enc prog w base spare lJ n 48 cs=some x):∃m:Nat,cs=one u64 m∧m<18446744073709551616:=by
 obtain⟨m,hv,_,hw⟩:=jd underlying48 h
 have hm:0≤m∧m≤18446744073709551615:=by simpa [Lit.wf,IntKind.min,IntKind.max,IntKind.signed,IntKind.bits]using hw
 refine⟨m.toNat,?_,by omega⟩
 rw[hv]
 show _=[Value.int .u64 ((m.toNat:Nat):Int)]
 rw[fQ hm.1]
theorem u64_in{v:Value}(h:DataW.trod enc prog w base spare lJ n 48 [v]=some x):∃m:Nat,v=.int .u64 m∧m<18446744073709551616:=by
 obtain⟨m,hv,hm⟩:=c1F h
 exact⟨m,by simpa [one,u64]using hv,hm⟩
end
section
variable {H0:Type} {enc:TypeId×Value→H0} {w:World} {base fuel:Nat} {lJ:Bool} {x:DataW H0×List MemPlace} {ρ:Rho} {H:Heap}
end
end Go.Ds
namespace Go.Ds
open Go.Proofs Go.ChangeShapes Go.WideShapes Go.RowKit Go.Deep
set_option maxRecDepth 10000
variable {H0:Type} {enc:TypeId×Value→H0} {w:World} {base:Nat} {lJ:Bool}
end Go.Ds
namespace Go.Ds
open Go.Proofs Go.ChangeShapes Go.WideShapes Go.RowKit Go.Deep
set_option maxRecDepth 10000
section
variable {H0:Type} {enc:TypeId×Value→H0} {w:World} {base:Nat} {lJ:Bool}
end
end Go.Ds
namespace Go.Ds
open Go.Proofs
set_option maxRecDepth 10000
def sM(x:Nt)(z:Int):Bool:=if z<64 then x.1.testBit z.toNat else x.2.testBit (z-64).toNat
theorem tV{x i:Nat}:i∈qO x↔i<64∧x.testBit i=true:=by
 unfold qO
 rw[fW,dY]
theorem b9q{x:Nt}{z:Int}:z∈rN x↔isN z∧sM x z=true:=by
 unfold rN sM isN
 rw[eo,dX,dX]
 constructor
 ·rintro(⟨i,hi,rfl⟩|⟨i,hi,rfl⟩)
  ·obtain⟨h1,h2⟩:=tV.1 hi
   exact⟨by omega,by rw[if_pos (by omega)];exact h2⟩
  ·obtain⟨h1,h2⟩:=tV.1 hi
   refine⟨by omega,?_⟩
   rw[if_neg (by omega),show(64+(i:Int)-64).toNat=i by omega]
   exact h2
 ·rintro⟨h1,h2⟩
  by_cases h:z<64
  ·rw[if_pos h]at h2
   exact .inl ⟨z.toNat,tV.2 ⟨by omega,h2⟩,by omega⟩
  ·rw[if_neg h]at h2
   exact .inr ⟨(z-64).toNat,tV.2 ⟨by omega,h2⟩,by omega⟩
theorem b7J(x:Nt)(n z:Int)(hn:isN n)(hz:isN z):sM (vO x n) z=(sM x z||decide (z=n)):=by
 unfold sM vO isN at*
 by_cases h1:n<64
 ·rw[if_pos h1]
  by_cases h2:z<64
  ·rw[if_pos h2,if_pos h2,Nat.testBit_or,ib]
   congr 1
   rw[decide_eq_decide]
   omega
  ·rw[if_neg h2,if_neg h2,decide_eq_false (by omega),Bool.or_false]
 ·rw[if_neg h1]
  by_cases h2:z<64
  ·rw[if_pos h2,if_pos h2,decide_eq_false (by omega),Bool.or_false]
  ·rw[if_neg h2,if_neg h2,Nat.testBit_or,ib]
   congr 1
   rw[decide_eq_decide]
   omega
theorem a5o(z:Int):sM (0,0) z=false:=by
 unfold sM
 split<;>simp
theorem a5N:∀(xs:List Int)(x:Nt)(z:Int),(∀n∈xs,isN n)→isN z→sM (xs.foldl vO x) z=(sM x z||decide (z∈xs))
 | [],x,z,_,_=>by simp
 | n::xs,x,z,h,hz=>by
   rw[gf,a5N xs _ z (fun y hy=>h y (fb _ hy)) hz,b7J x n z (h n (fh ..)) hz,Bool.or_assoc]
   congr 1
   rw[eY]
   simp
theorem a4g{xs:List Int}{z:Int}(h:∀n∈xs,isN n)(hz:isN z):sM (lF xs) z=decide (z∈xs):=by
 unfold lF
 rw[a5N xs _ z h hz,a5o,Bool.false_or]
theorem a7y{lo hi z:Int}(h0:0≤lo)(h2:hi≤127)(hz:isN z):sM (a1T lo hi) z=(decide (lo≤z)&&decide (z≤hi)):=by
 unfold a1T
 rw[a4g (fun n hn=>by
  obtain⟨k,hk,rfl⟩:=dX.1 hn
  have:=dY.1 hk
  exact⟨by omega,by omega⟩) hz,eY,dB,decide_eq_true_eq,decide_eq_true_eq,decide_eq_true_eq,dX]
 constructor
 ·rintro⟨k,hk,rfl⟩
  have:=dY.1 hk
  omega
 ·rintro⟨h3,h4⟩
  exact⟨(z-lo).toNat,dY.2 (by omega),by omega⟩
theorem b3R{x y:Nt}(hx:Nt.Ok x){z:Int}(hz:isN z):sM (woF x y) z=(sM x z&& !sM y z):=by
 obtain⟨h1,h2⟩:=hz
 unfold sM woF
 by_cases h:z<64
 ·rw[if_pos h,if_pos h,if_pos h,a8O _ _ _ hx.1 (by omega)]
 ·rw[if_neg h,if_neg h,if_neg h,a8O _ _ _ hx.2 (by omega)]
theorem b0t{x y:Nt}(hx:Nt.Ok x)(h:woF x y=(0,0)){z:Int}(hz:isN z)(hh:sM x z=true):sM y z=true:=by
 have:=b3R (y:=y) hx hz
 rw[h,a5o,hh]at this
 simpa using this.symm
theorem zB{o:Org}{ks:List Nt}(h:tI o ks=0):organE o=0∧ks.length=o.dvs.length∧∀j,j<o.dvs.length→woF (jB ks j) (a1T (jB o.dvs j).lo (jB o.dvs j).hi)=(0,0):=by
 unfold tI at h
 split at h
 ·rename_i hh;exact absurd h hh
 rename_i h1
 split at h
 ·omega
 rename_i h2
 split at h
 ·omega
 rename_i h3
 refine⟨dW.1 h1,by omega,fun j hj=> ?_⟩
 by_cases hh:woF (jB ks j) (a1T (jB o.dvs j).lo (jB o.dvs j).hi)=(0,0)
 ·exact hh
 ·exact absurd ⟨j,hj,hh⟩ h3
theorem uI{o:Org}{ks:List Nt}(hok:∀x∈ks,Nt.Ok x)(h:tI o ks=0):∀c∈jG ks,nJ o c=true:=by
 obtain⟨h1,h2,h3⟩:=zB h
 have hf:=Org.aP h1
 intro c hc
 unfold jG at hc
 obtain⟨i,hi,hc⟩:=fp.1 hc
 have hi:=dY.1 hi
 unfold plD at hc
 obtain⟨z,hz,rfl⟩:=dX.1 hc
 obtain⟨hz1,hz2⟩:=b9q.1 hz
 have hky:=hf.keys i (by omega)
 have hw:=b0t (hok _ (jE hi)) (h3 i (by omega)) hz1 hz2
 rw[a7y hky.1 hky.2.2 hz1]at hw
 simp only[dB,decide_eq_true_eq]at hw
 unfold nJ
 simp only[dB,decide_eq_true_eq,eT]
 omega
theorem a1t{o:Org}{ks:List Nt}(h:tI o ks=0):(jG ks).length≤1024:=by
 obtain⟨h1,h2,_⟩:=zB h
 have h8:=(Org.aP h1).dlen
 have:=b8w ks ks.length
 unfold jG
 omega
end Go.Ds
namespace Go.Ds
open Go.Proofs
variable {H:Heap}
set_option maxRecDepth 10000
set_option maxHeartbeats 1000000
end Go.Ds
namespace Go.Ds
open Go.Proofs
variable {H:Heap}
set_option maxRecDepth 10000
structure Sn where
 o:Org
 sv:Value
 rg:Reg
 kv:Value
 ks:List Nt
 p:Ct
 deriving Inhabited
abbrev Sn.v(s:Sn):Value:=.agg #[.string s.o.name,s.o.rv,s.o.dv,s.o.cv,s.sv,.int .u64 s.rg.cpl,.int .u64 s.rg.off,s.kv,I s.p.1,I s.p.2]
def Sn.cells(s:Sn):List Value:=[.string s.o.name,s.o.rv,s.o.dv,s.o.cv,s.sv,.int .u64 s.rg.cpl,.int .u64 s.rg.off,s.kv,I s.p.1,I s.p.2]
structure Sn.In(H:Heap)(s:Sn):Prop where
 o:s.o.In H
 rg:s.rg.In H s.sv
 ks:Ks H s.kv s.ks
theorem Sn.In.ag{s:Sn}{H0 H:Heap}{P:Program}{os:List Ob}(h:s.In H0)(hS:St P H0 H os):s.In H:=⟨h.o.ag hS,h.rg.ag hS,h.ks.ag hS⟩
def pOk(s:Sn):Bool:=decide (0≤s.p.1)&&decide (s.p.1<s.o.ranks.length)&&decide (0≤s.p.2)&&decide (s.p.2<(jB s.o.ranks s.p.1.toNat).wind.length)
def tT(s:Sn):Int:=if a0A s.o s.rg≠0 then a0A s.o s.rg else if tI s.o s.ks≠0 then tI s.o s.ks else if pOk s then 0 else 10
structure Sn.Fit(s:Sn):Prop where
 reg:a0A s.o s.rg=0
 keys:tI s.o s.ks=0
 p:pOk s=true
theorem zZ{s:Sn}:tT s=0↔s.Fit:=by
 unfold tT
 constructor
 ·intro h
  split at h
  ·rename_i h1;exact absurd h h1
  ·split at h
   ·rename_i h1;exact absurd h h1
   ·rename_i h1 h2
    split at h
    ·rename_i h3;exact⟨dW.1 h1,dW.1 h2,h3⟩
    ·cases h
 ·rintro⟨h1,h2,h3⟩
  rw[if_neg (by simp[h1]),if_neg (by simp[h2]),if_pos h3]
theorem Sn.Fit.o{s:Sn}(h:s.Fit):organE s.o=0:=(a2P h.reg).1
theorem Sn.Fit.aP{s:Sn}(h:s.Fit):s.o.Fine:=Org.aP h.o
theorem Sn.Fit.sl{s:Sn}(h:s.Fit):s.rg.stops.length=s.o.dvs.length:=(a2P h.reg).2
theorem Sn.Fit.rank{s:Sn}(h:s.Fit):0≤s.p.1∧s.p.1<s.o.ranks.length∧0≤s.p.2∧s.p.2<(jB s.o.ranks s.p.1.toNat).wind.length:=by
 have:=h.p
 unfold pOk at this
 simp only[dB,decide_eq_true_eq]at this
 omega
theorem Org.bp{o:Org}(h:organE o=0){j:Nat}(hj:j<o.cpls.length):(0≤(jB o.cpls j).src∧(jB o.cpls j).src<o.dvs.length)∧(0≤(jB o.cpls j).dst∧(jB o.cpls j).dst<o.dvs.length)∧(-127≤(jB o.cpls j).shift∧(jB o.cpls j).shift≤127)∧¬((jB o.cpls j).src=(jB o.cpls j).dst∧(jB o.cpls j).shift=0):=by
 have hl:(kps o.dvs).length=o.dvs.length:=by simp[kps]
 unfold organE at h
 split at h
 ·omega
 split at h
 ·omega
 split at h
 ·rename_i hh;exact absurd h hh
 split at h
 ·omega
 split at h
 ·omega
 split at h
 ·rename_i hh;exact absurd h hh
 unfold tG at h
 split at h
 ·omega
 split at h
 ·omega
 have e:=pT h j hj
 unfold oC at e
 dsimp only at e
 rw[hl]at e
 split at e
 ·omega
 split at e
 ·omega
 split at e
 ·omega
 split at e
 ·omega
 split at e
 ·omega
 omega
theorem c4Z{o:Org}(h:organE o=0){j:Nat}(hj:j<o.cpls.length):∃d:Nat,(jB o.cpls j).dst=d∧d<o.dvs.length:=
 have hc:=Org.bp h hj
 ⟨(jB o.cpls j).dst.toNat,by omega,by omega⟩
theorem c6T{o:Org}(h:organE o=0){j:Nat}(hj:j<o.cpls.length):∃d:Nat,(jB o.cpls j).src=d∧d<o.dvs.length:=
 have hc:=Org.bp h hj
 ⟨(jB o.cpls j).src.toNat,by omega,by omega⟩
def a1J(s:Sn)(i:Int):Bool:=decide (0≤i)&&decide (i<s.o.cpls.length)&&s.rg.cpl.testBit i.toNat
def ldB(s:Sn)(i:Int)(c:Ct)(first:Bool):Bool:=
 a1J s i&&decide ((jB s.o.cpls i.toNat).src=c.1)&&(first||(jB s.o.cpls i.toNat).thr)&&decide ((jB s.o.dvs (jB s.o.cpls i.toNat).dst.toNat).lo≤(to1 (jB s.o.cpls i.toNat) c).2)&&decide ((to1 (jB s.o.cpls i.toNat) c).2≤(jB s.o.dvs (jB s.o.cpls i.toNat).dst.toNat).hi)
def nA(s:Sn)(i:Int)(c:Ct):Ct:=if a1J s i then to1 (jB s.o.cpls i.toNat) c else(0,0)
def a1d(s:Sn)(i:Int)(c:Ct):Bool:=
 decide (0≤i)&&decide (i<(jB s.o.dvs c.1.toNat).stops.length)&&(jB s.rg.stops c.1.toNat).testBit i.toNat&&decide (s.p∈a1g s.o.ranks (jB (jB s.o.dvs c.1.toNat).stops i.toNat) c.2)
def a6Y(s:Sn)(c:Ct)(n:Nat):List Int:=((List.range n).filter fun(i:Nat)=>a1d s i c).map fun(i:Nat)=>(i:Int)
def mT(s:Sn)(c:Ct):List Int:=a6Y s c (jB s.o.dvs c.1.toNat).stops.length
theorem b4f(s:Sn)(c:Ct)(n:Nat):a6Y s c (n+1)=a6Y s c n++(if a1d s n c then[(n:Int)]else[]):=by
 unfold a6Y
 rw[eV,fM,ec]
 congr 1
 by_cases h:a1d s n c=true
 ·rw[if_pos h];simp[h]
 ·rw[if_neg h];simp[h]
theorem b3f(s:Sn)(c:Ct)(n:Nat):(a6Y s c n).length≤n:=by
 unfold a6Y
 rw[dU]
 refine eh (fA _ _) ?_
 simp
def a1q(s:Sn)(d:Int):Bool:=s.rg.off.testBit d.toNat
end Go.Ds
namespace Go.Ds
open Go.Proofs
variable {H:Heap}
set_option maxRecDepth 10000
set_option maxHeartbeats 1000000
end Go.Ds
namespace Go.Ds
open Go.Proofs Go.Proofs.Tryz
variable {H:Heap}
set_option maxRecDepth 10000
set_option maxHeartbeats 1000000
theorem zD(hG:Glob gH H)(s:Sn)(hs:s.In H)(hf:s.Fit):Fn prog 51 [s.v] H fun r H'=>St prog H H' [⟨r,2,pr (jG s.ks)⟩]:=by
 have h8:s.ks.length≤8:=by
  obtain⟨h1,h2,_⟩:=zB hf.keys
  have:=(Org.aP h1).dlen
  omega
 refine .aL func51 rfl (by kernel_rfl) (m:=32) rfl fun l hn g0=> ?_
 simp(disch:=omega) only[↓RA,RB,simprocAttr,g0]
 refine(sR H).eNew 10 [(.string s.o.name),s.o.rv,s.o.dv,s.o.cv,s.sv,(.int .u64 s.rg.cpl),(.int .u64 s.rg.off),s.kv,I s.p.1,I s.p.2] rfl rfl (by simp[OC,((sR H).sl hs.o.1).cells.2.1,((sR H).sl hs.o.2.2.1).cells.2.1,((sR H).sl hs.o.2.2.2.2.1).cells.2.1,((sR H).sl hs.rg.1).cells.2.1,((sR H).sl hs.ks.sl).cells.2.1]) oI fun A1 H1 hS1=> ?_
 simp only[RT]at hS1
 simp(disch:=omega) only[↓RA,RZ,simprocAttr,hn,hS1.ld 0 rfl,(hS1.sl hs.ks.sl).len]
 have hS2:=hS1.nil 1
 simp only[RT]at hS2
 refine Wp.aq (fun n l H'=>l.length=32∧get l 2=(.slice none 0 0)∧get l 9=s.kv∧get l 10=I s.ks.length∧∃(i:Nat)(ov:Value),(n+i=s.ks.length)∧get l 11=I i∧get l 3=ov∧St prog H H' [⟨ptr A1 0 10,0,[(.string s.o.name),s.o.rv,s.o.dv,s.o.cv,s.sv,(.int .u64 s.rg.cpl),(.int .u64 s.rg.off),s.kv,I s.p.1,I s.p.2]⟩,⟨ov,2,pr ((List.range i).flatMap (plD s.ks))⟩]) s.ks.length ?_ ?_
 ·simp(disch:=omega) only[RB,RC,simprocAttr,hn]
  exact⟨0,.slice none 0 0,by omega,rfl,rfl,hS2⟩
 rintro n l H2⟨hn,g2,g9,yC,i,ov,hi,g11,g3,hS3⟩
 simp(disch:=omega) only[↓RA,RB,simprocAttr,hn,yC,g11]
 refine jA (fun q1=> ?_) (fun q1=> ?_)
 ·have hmo:=hs.ks.ok _ (jE (xs:=s.ks) (j:=i) (by omega))
  have hml:=a3i (jB s.ks i)
  have hpl:=b8w s.ks i
  simp(disch:=omega) only[↓RA,RZ,simprocAttr,hn,g9,g11,(hS3.sl hs.ks.sl).idx,(hS3.sl hs.ks.sl).aj,ntc,q1]
  refine hS3.eNew 2 [(.int .u64 0),(.int .u64 0)] rfl rfl rfl pH fun A2 H3 hS4=> ?_
  simp only[RT]at hS4
  simp(disch:=omega) only[↓RA,RZ,simprocAttr,hn,q1]
  refine hS4.ab 2 rfl [(.int .u64 (jB s.ks i).1),(.int .u64 (jB s.ks i).2)] rfl rfl pH (by simp) fun H4 hS5=> ?_
  simp only[RT]at hS5
  simp(disch:=omega) only[↓RA,RZ,simprocAttr,hn,hS5.aj 2 rfl,q1]
  refine jI ((b1W (hS5.gl hG) (jB s.ks i) hmo).tr) ?_
  rintro r H5⟨-,hT1⟩
  have hS6:=hS5.trans hT1
  simp only[RT]at hS6
  obtain⟨mw,rfl⟩:∃w,w=r:=⟨r,rfl⟩
  simp(disch:=omega) only[↓RA,RZ,simprocAttr,hn,(hS6.av 3 rfl (fun _=>rfl)).len,q1]
  refine Wp.aq (fun n l H'=>l.length=32∧get l 2=(.slice none 0 0)∧get l 4=I i∧get l 9=s.kv∧get l 10=I s.ks.length∧get l 11=I i∧get l 17=mw∧get l 18=I (rN (jB s.ks i)).length∧∃(j:Nat)(ow:Value),(n+j=(rN (jB s.ks i)).length)∧get l 19=I j∧get l 3=ow∧St prog H H' [⟨ptr A1 0 10,0,[(.string s.o.name),s.o.rv,s.o.dv,s.o.cv,s.sv,(.int .u64 s.rg.cpl),(.int .u64 s.rg.off),s.kv,I s.p.1,I s.p.2]⟩,⟨ow,2,pr ((List.range i).flatMap (plD s.ks)++((rN (jB s.ks i)).take j).map fun z=>((i:Int),z))⟩,⟨ptr A2 0 2,0,[(.int .u64 (jB s.ks i).1),(.int .u64 (jB s.ks i).2)]⟩,⟨mw,1,(rN (jB s.ks i)).flatMap (one I)⟩]) (rN (jB s.ks i)).length ?_ ?_
  ·simp(disch:=omega) only[RB,RC,simprocAttr,hn,g2,g9,yC,g11,g3]
   refine⟨0,ov,by omega,rfl,rfl,?_⟩
   rw[List.take_zero,gn,dQ]
   exact hS6
  rintro n l H6⟨hn,g2,g4,g9,yC,g11,g17,g18,j,ow,hj,g19,g3,hS7⟩
  simp(disch:=omega) only[↓RA,RB,simprocAttr,hn,g18,g19]
  refine jA (fun q2=> ?_) (fun q2=> ?_)
  ·have hroom:(pr ((List.range i).flatMap (plD s.ks)++((rN (jB s.ks i)).take j).map fun z=>((i:Int),z))).length≤4000:=by
    rw[jN,dH,dU,fP]
    omega
   simp(disch:=omega) only[↓RA,RZ,simprocAttr,hn,g4,g17,g19,g3,(hS7.av 3 rfl (fun _=>rfl)).idx,(hS7.av 3 rfl (fun _=>rfl)).ld,one,a0u,q2]
   refine hS7.ai [I i,I (jB (rN (jB s.ks i)) j)] vU a7z rfl rfl (by simp[Value.cells]) rfl rfl (by decide) (by decide) fun w1 H7 hS8=> ?_
   simp only[RT]at hS8
   simp(disch:=omega) only[↓RA,RZ,simprocAttr,hn,q2]
   refine hS8.al 1 rfl (hS8.rd 4 rfl) vU (by have h:=hroom;simp only[dS,dV];omega) fun w2 H8 hS9=> ?_
   simp only[RT]at hS9
   simp(disch:=omega) only[↓RA,RZ,simprocAttr,hn,g2,g4,g9,yC,g11,g17,g18,g19,q2]
   refine⟨n-1,by omega,j+1,w2,by omega,by simp,rfl,?_⟩
   rw[List.take_add_one,dM (by omega),Option.toList_some,ec,←eS,mI]
   rw[show(rN (jB s.ks i))[j]=jB (rN (jB s.ks i)) j from(kN _ _ (by omega)).symm]
   exact hS9.pick [0,1,2,3] (by decide) rfl
  simp(disch:=omega) only[↓RA,RZ,simprocAttr,hn,g2,g9,yC,g11,g3,q2]
  have hjj:j=(rN (jB s.ks i)).length:=by omega
  refine⟨s.ks.length-(i+1),by omega,i+1,ow,by omega,by simp,rfl,?_⟩
  rw[eV,dP,ed,fx,dQ]
  rw[show plD s.ks i=((rN (jB s.ks i)).take j).map (fun z=>((i:Int),z))from by rw[hjj,eZ];rfl]
  exact hS7.pick [0,1] (by decide) rfl
 have hii:i=s.ks.length:=by omega
 simp(disch:=omega) only[↓RA,RZ,simprocAttr,hn,g3,d1a,q1]
 unfold jG
 rw[←hii]
 exact hS3.pick [1] (by decide) rfl
theorem pS(s:Sn)(hs:s.In H):Fn prog 20 [s.v] H fun r H'=>r=I (tT s)∧St prog H H' []:=by
 have hrl:=hs.o.2.2.2.2.2.1
 refine .aL func20 rfl (by kernel_rfl) (m:=55) rfl fun l hn g0=> ?_
 simp(disch:=omega) only[↓RA,RB,simprocAttr,g0]
 refine(sR H).eNew 10 [(.string s.o.name),s.o.rv,s.o.dv,s.o.cv,s.sv,(.int .u64 s.rg.cpl),(.int .u64 s.rg.off),s.kv,I s.p.1,I s.p.2] rfl rfl (by simp[OC,((sR H).sl hs.o.1).cells.2.1,((sR H).sl hs.o.2.2.1).cells.2.1,((sR H).sl hs.o.2.2.2.2.1).cells.2.1,((sR H).sl hs.rg.1).cells.2.1,((sR H).sl hs.ks.sl).cells.2.1]) oI fun A1 H1 hS1=> ?_
 simp only[RT]at hS1
 simp(disch:=omega) only[↓RA,RZ,simprocAttr,hn,hS1.aj 0 rfl]
 refine hS1.cF (c0s s.o (hs.o.ag hS1) s.rg s.sv (hs.rg.ag hS1)) fun H2 hS2=> ?_
 simp(disch:=omega) only[↓RA,RB,simprocAttr,hn]
 refine jA (fun h1=> ?_) (fun h1=> ?_)
 ·simp(disch:=omega) only[↓RA,RZ,simprocAttr,hn,b1Y,h1]
  exact⟨by rw[tT,if_pos h1],hS2.forget⟩
 simp(disch:=omega) only[↓RA,RZ,simprocAttr,hn,hS2.aj 0 rfl,hS2.ld 0 rfl,h1]
 refine hS2.cF (a7M s.o (hs.o.ag hS2) s.kv s.ks (hs.ks.ag hS2)) fun H3 hS3=> ?_
 simp(disch:=omega) only[↓RA,RZ,simprocAttr,hn,h1]
 refine jA (fun h2=> ?_) (fun h2=> ?_)
 ·simp(disch:=omega) only[↓RA,RZ,simprocAttr,hn,b1Y,h1,h2]
  exact⟨by rw[tT,if_neg h1,if_pos h2],hS3.forget⟩
 have hE:tT s=if pOk s then 0 else 10:=by rw[tT,if_neg h1,if_neg h2]
 simp(disch:=omega) only[↓RA,RZ,simprocAttr,hn,hS3.aj 0 rfl,h1,h2]
 refine hS3.eNew 2 [I 0,I 0] rfl rfl rfl yE fun A2 H4 hS4=> ?_
 simp only[RT]at hS4
 simp(disch:=omega) only[↓RA,RZ,simprocAttr,hn,h1,h2]
 refine hS4.ab 1 rfl [I s.p.1,I s.p.2] rfl rfl yE (by simp) fun H5 hS5=> ?_
 simp only[RT]at hS5
 simp(disch:=omega) only[↓RA,RZ,simprocAttr,h1,h2]
 refine Wp.drw kS (by kernel_rfl) ?_
 simp(disch:=omega) only[↓RA,RZ,simprocAttr,hn,hS5.ld 1 rfl]
 refine jK (fun h3=> ?_) (fun h3=> ?_)
 ·simp(disch:=omega) only[↓RA,RZ,simprocAttr,hn,b1Y,h3]
  exact⟨by rw[hE,if_neg];unfold pOk;simp;omega,hS5.forget⟩
 simp(disch:=omega) only[↓RA,RZ,simprocAttr,hn,hS5.ld 1 rfl,hS5.ld 0 rfl,(hS5.sl hs.o.1).len,h3]
 refine jK (fun h4=> ?_) (fun h4=> ?_)
 ·simp(disch:=omega) only[↓RA,RZ,simprocAttr,hn,b1Y,h3,h4]
  exact⟨by rw[hE,if_neg];unfold pOk;simp;omega,hS5.forget⟩
 simp(disch:=omega) only[↓RA,RZ,simprocAttr,hn,hS5.ld 1 rfl,h3,h4]
 refine jK (fun h5=> ?_) (fun h5=> ?_)
 ·simp(disch:=omega) only[↓RA,RZ,simprocAttr,hn,b1Y,h3,h4,h5]
  exact⟨by rw[hE,if_neg];unfold pOk;simp;omega,hS5.forget⟩
 obtain⟨k,hk⟩:∃k:Nat,s.p.1=k:=⟨s.p.1.toNat,by omega⟩
 simp(disch:=omega) only[↓RA,RZ,simprocAttr,hn,hS5.ld 1 rfl,hS5.ld 0 rfl,(hS5.sl hs.o.1).idx,(hS5.sl hs.o.1).bd,(hS5.sl hs.o.1).ld,Rk.cells,(hS5.sl (hs.o.2.1 (jB s.o.ranks k) (jE (by omega))).1).len,h5,hk]
 refine jA (fun h6=> ?_) (fun h6=> ?_)
 ·simp(disch:=omega) only[↓RA,RZ,simprocAttr,hn,b1Y,h5,hk,h6]
  exact⟨by rw[hE,if_neg];unfold pOk;rw[hk];simp;omega,hS5.forget⟩
 simp(disch:=omega) only[↓RA,RZ,simprocAttr,hn,b1Y,h5,hk,h6]
 exact⟨by rw[hE,if_pos];unfold pOk;rw[hk];simp;omega,hS5.forget⟩
theorem c6R(s:Sn)(hs:s.In H)(d:Nat):Fn prog 67 [s.v,I d] H fun r H'=>r=.bool (a1q s d)∧St prog H H' []:=by
 have e1:=b4G s.rg.off d hs.rg.2.2.2.2
 have e2:=c0h (s.rg.off>>>d) (b0s _ hs.rg.2.2.2.2)
 have e3:a1q s d=decide (s.rg.off>>>d%2=1):=tb _ _
 refine .aE func67 rfl (by kernel_rfl) (m:=12) rfl fun l hn g0 g1=> ?_
 simp(disch:=omega) only[↓RA,RB,simprocAttr,g0]
 refine(sR H).eNew 10 [(.string s.o.name),s.o.rv,s.o.dv,s.o.cv,s.sv,(.int .u64 s.rg.cpl),(.int .u64 s.rg.off),s.kv,I s.p.1,I s.p.2] rfl rfl (by simp[OC,((sR H).sl hs.o.1).cells.2.1,((sR H).sl hs.o.2.2.1).cells.2.1,((sR H).sl hs.o.2.2.2.2.1).cells.2.1,((sR H).sl hs.rg.1).cells.2.1,((sR H).sl hs.ks.sl).cells.2.1]) oI fun A1 H1 hS1=> ?_
 simp only[RT]at hS1
 simp(disch:=omega) only[↓RA,RZ,simprocAttr,hn,g1,hS1.ld 0 rfl,d0B,e1,e2]
 exact⟨by rw[e3];congr 1;exact decide_eq_decide.2 (by omega),hS1.forget⟩
theorem a9h{s:Sn}{i:Int}(h:¬(0≤i∧i<s.o.cpls.length)):a1J s i=false:=by
 unfold a1J
 by_cases h1:0≤i
 ·rw[decide_eq_false (show¬(i<s.o.cpls.length) by omega)]
  simp
 ·rw[decide_eq_false h1]
  simp
theorem zV{s:Sn}{i:Int}(h:a1J s i=true):0≤i∧i<s.o.cpls.length∧s.rg.cpl.testBit i.toNat=true:=by
 unfold a1J at h
 simp only[dB,decide_eq_true_eq]at h
 exact⟨h.1.1,h.1.2,h.2⟩
theorem b4q(s:Sn)(hs:s.In H)(i:Int):Fn prog 46 [s.v,I i] H fun r H'=>r=.bool (a1J s i)∧St prog H H' []:=by
 refine .aE func46 rfl (by kernel_rfl) (m:=24) rfl fun l hn g0 g1=> ?_
 simp(disch:=omega) only[↓RA,RB,simprocAttr,g0]
 refine(sR H).eNew 10 [(.string s.o.name),s.o.rv,s.o.dv,s.o.cv,s.sv,(.int .u64 s.rg.cpl),(.int .u64 s.rg.off),s.kv,I s.p.1,I s.p.2] rfl rfl (by simp[OC,((sR H).sl hs.o.1).cells.2.1,((sR H).sl hs.o.2.2.1).cells.2.1,((sR H).sl hs.o.2.2.2.2.1).cells.2.1,((sR H).sl hs.rg.1).cells.2.1,((sR H).sl hs.ks.sl).cells.2.1]) oI fun A1 H1 hS1=> ?_
 simp only[RT]at hS1
 simp(disch:=omega) only[↓RA,RZ,simprocAttr,hn,g1]
 refine kG (fun h1=> ?_) (fun h1=> ?_)
 ·simp(disch:=omega) only[↓RA,RZ,simprocAttr,hn,g1,hS1.ld 0 rfl,(hS1.sl hs.o.2.2.2.2.1).len,h1]
  refine kG (fun h2=> ?_) (fun h2=> ?_)
  ·obtain⟨k,rfl⟩:∃k:Nat,i=k:=⟨i.toNat,by omega⟩
   have e1:=b4G s.rg.cpl k hs.rg.2.2.2.1
   have e2:=c0h (s.rg.cpl>>>k) (b0s _ hs.rg.2.2.2.1)
   have e3:a1J s k=decide (s.rg.cpl>>>k%2=1):=by
    unfold a1J
    rw[decide_eq_true (show(0:Int)≤k by omega),decide_eq_true h2,eT]
    simp only[gB]
    exact tb _ _
   simp(disch:=omega) only[↓RA,RZ,simprocAttr,hn,g1,hS1.ld 0 rfl,c6B,h1,h2,e1,e2]
   exact⟨by rw[e3];congr 1;exact decide_eq_decide.2 (by omega),hS1.forget⟩
  simp(disch:=omega) only[↓RA,RZ,simprocAttr,hn,c6B,h1,h2]
  exact⟨by rw[a9h (by omega)],hS1.forget⟩
 simp(disch:=omega) only[↓RA,RZ,simprocAttr,hn,c6B,h1]
 exact⟨by rw[a9h (by omega)],hS1.forget⟩
end Go.Ds
namespace Go.Ds
open Go.Proofs
set_option maxRecDepth 10000
def ltP(x y:Int×Int):Prop:=x.1<y.1∨(x.1=y.1∧x.2<y.2)
theorem b3s{x:Int×Int}:¬ltP x x:=by unfold ltP;omega
inductive Star{α:Type}(R:α→α→Prop):α→α→Prop
 | refl (a:α):Star R a a
 | tail {a b c:α}:Star R a b→R b c→Star R a c
def IsP(o:Org)(p:Ct):Prop:=0≤p.1∧p.1<o.ranks.length∧0≤p.2∧p.2<(jB o.ranks p.1.toNat).wind.length
theorem IsP.small{o:Org}{H:Heap}(hf:o.Fine)(ho:o.In H){p:Ct}(h:IsP o p): -1000000000≤p.1∧p.1≤1000000000∧-1000000000≤p.2∧p.2≤1000000000:=by
 obtain⟨h1,h2,h3,h4⟩:=h
 have hr:=(ho.2.1 _ (jE (xs:=o.ranks) (j:=p.1.toNat) (by omega))).2
 have:=hf.rlen
 exact⟨by omega,by omega,by omega,by omega⟩
structure SegsOk(m:Nat)(lo hi:Int)(gs:List Seg):Prop where
 ord:∀i,i<gs.length→(jB gs i).lo≤(jB gs i).hi
 up:∀i,i<gs.length→0<i→(jB gs (i-1)).hi<(jB gs i).lo
 within:∀i,i<gs.length→lo≤(jB gs i).lo∧(jB gs i).hi≤hi
 draws:∀i,i<gs.length→mR m (jB gs i).draws=0
 len:gs.length≤12
theorem SegsOk.lt{m:Nat}{lo hi:Int}{gs:List Seg}(h:SegsOk m lo hi gs){i:Nat}:∀k,i+1+k<gs.length→(jB gs i).hi<(jB gs (i+1+k)).lo
 | 0,hk=>h.up (i+1) hk (by omega)
 | k+1,hk=>by
   have h1:=h.lt (i:=i) k (by omega)
   have h2:=h.ord (i+1+k) (by omega)
   have h3:=h.up (i+1+(k+1)) hk (by omega)
   rw[show i+1+(k+1)-1=i+1+k by omega]at h3
   omega
theorem SegsOk.one{m:Nat}{lo hi:Int}{gs:List Seg}(h:SegsOk m lo hi gs){key:Int}{i j:Nat}(hi':i<gs.length)(hj:j<gs.length)(h1:(jB gs i).lo≤key∧key≤(jB gs i).hi)(h2:(jB gs j).lo≤key∧key≤(jB gs j).hi):i=j:=by
 rcases iY i j with e|e|e
 ·have:=h.lt (i:=i) (j-i-1) (by omega)
  rw[show i+1+(j-i-1)=j by omega]at this
  omega
 ·exact e
 ·have:=h.lt (i:=j) (i-j-1) (by omega)
  rw[show j+1+(i-j-1)=i by omega]at this
  omega
theorem zK{f:Nat→List Ct}(h1:∀i,(f i).Pairwise ltP)(h2:∀i,∀c∈f i,c.1=(i:Int)):∀n,((List.range n).flatMap f).Pairwise ltP
 | 0=>.nil
 | n+1=>by
   rw[eV,dP,ed,fx,dQ,fD]
   refine⟨zK h1 h2 n,h1 n,fun a ha b hb=> ?_⟩
   obtain⟨i,hi,ha⟩:=fp.1 ha
   have hi:=dY.1 hi
   unfold ltP
   rw[h2 i a ha,h2 n b hb]
   omega
theorem a8Y(x:Nt):(rN x).Pairwise (·<·):=by
 unfold rN
 rw[fD,gr,gr]
 have h:∀n,(qO n).Pairwise (·<·):=fun n=>List.Pairwise.filter _ List.pairwise_lt_range
 refine⟨(h _).imp (by intro a b h;omega),(h _).imp (by intro a b h;omega),fun a ha b hb=> ?_⟩
 obtain⟨i,hi,rfl⟩:=dX.1 ha
 obtain⟨j,_,rfl⟩:=dX.1 hb
 have:=(tV.1 hi).1
 omega
theorem c4L(ks:List Nt)(i:Nat):(plD ks i).Pairwise ltP:=by
 unfold plD
 rw[gr]
 exact(a8Y _).imp fun h=>.inr ⟨rfl,h⟩
theorem b6w(ks:List Nt):(jG ks).Pairwise ltP:=zK (c4L ks) (fun i c hc=>by
 unfold plD at hc
 obtain⟨z,_,rfl⟩:=dX.1 hc
 rfl) _
end Go.Ds
namespace Go.Ds
open Go.Proofs Go.Proofs.Tryz
variable {H:Heap}
set_option maxRecDepth 10000
set_option maxHeartbeats 1000000
def a3Y(lo:Int)(w m:Nat):List Int:=((List.range m).filter fun j=>w.testBit j).map fun(j:Nat)=>lo+(j:Int)
def yB(lo hi:Int):Nat:=min 16 (hi-lo+1).toNat
def zY(o:Org)(b:Nat→Nat)(i:Nat):Nt:=lF (a3Y (jB o.dvs i).lo (b (i%3)) (yB (jB o.dvs i).lo (jB o.dvs i).hi))
def qA(o:Org)(b:Nat→Nat):List Nt:=(List.range o.dvs.length).map (zY o b)
theorem c5K(a b:Nat)(h:a<65536):((a:Nat):Int).fdiv (2^min b (IntKind.bits .u16))=((a>>>b:Nat):Int):=by
 have e:IntKind.bits .u16=16:=rfl
 rw[e]
 have h1:((a:Nat):Int).fdiv (2^min b 16)=((a/2^min b 16:Nat):Int):=by
  rw[iA _ (by exact Int.le_of_lt (Int.pow_pos (by decide)))]
  simp
 rw[h1,fL]
 by_cases hb:b≤16
 ·rw[gV hb]
 ·rw[Nat.min_eq_right (by omega)]
  have h2:a/2^16=0:=ij (by simpa using h)
  have h3:a/2^b=0:=ij (eG (by simpa using h) (gi (by decide) (show 16≤b by omega)))
  rw[h2,h3]
theorem c1h(n:Nat)(h:n<65536):IntKind.wrap .u16 ((BitVec.ofInt (IntKind.bits .u16) (n:Int)&&&BitVec.ofInt (IntKind.bits .u16) 1).toNat:Int)=((n%2:Nat):Int):=by
 have e:(BitVec.ofInt (IntKind.bits .u16) (n:Int)&&&BitVec.ofInt (IntKind.bits .u16) 1).toNat=n%2:=by
  show(BitVec.ofInt 16 (n:Int)&&&BitVec.ofInt 16 1).toNat=n%2
  rw[iJ]
  have h1:(BitVec.ofInt 16 (n:Int)).toNat=n:=by
   rw[gX,BitVec.toNat_ofNat]
   exact ig (by simpa using h)
  have h2:(BitVec.ofInt 16 1).toNat=1:=rfl
  rw[h1,h2,Nat.and_one_is_mod]
 rw[e]
 have:n%2<2:=eU _ (by decide)
 have hh:n%2=0∨n%2=1:=by omega
 rcases hh with h|h<;>rw[h]<;>rfl
theorem b8O{a:Nat}(b:Nat)(h:a<65536):a>>>b<65536:=by
 rw[fL]
 exact Nat.lt_of_le_of_lt (Nat.div_le_self _ _) h
theorem b5E(lo:Int)(w m:Nat):a3Y lo w (m+1)=a3Y lo w m++(if w.testBit m then[lo+(m:Int)]else[]):=by
 unfold a3Y
 rw[eV,fM,ec]
 congr 1
 cases h:w.testBit m<;>simp[h]
theorem b9H(lo:Int)(w m:Nat):(a3Y lo w m).length≤m:=by
 unfold a3Y
 rw[dU]
 exact eh (fA _ _) (by simp)
theorem c2t(lo hi:Int):yB lo hi≤16:=Nat.min_le_left _ _
theorem xB{o:Org}(hf:o.Fine)(w:Nat){i:Nat}(hi:i<o.dvs.length):∀z∈a3Y (jB o.dvs i).lo w (yB (jB o.dvs i).lo (jB o.dvs i).hi),isN z∧(jB o.dvs i).lo≤z∧z≤(jB o.dvs i).hi:=by
 intro z hz
 have hk:=hf.keys i hi
 unfold a3Y yB at hz
 obtain⟨j,hj,rfl⟩:=dX.1 hz
 have hj:=dY.1 (fW.1 hj).1
 exact⟨⟨by omega,by omega⟩,by omega,by omega⟩
theorem b0r(o:Org)(ho:o.In H)(hf:o.Fine)(b:Nat→Nat)(hb:∀i,b i<65536):
 Fn prog 44 [.agg #[.string o.name,o.rv,o.dv,o.cv],.agg #[.int .u16 (b 0),.int .u16 (b 1),.int .u16 (b 2)]] H fun r H'=>
  St prog H H' [⟨r,2,(qA o b).flatMap ntc⟩]:=by
 have hd8:=hf.dlen
 refine .aE func44 rfl (by kernel_rfl) (m:=66) rfl fun l hn g0 g1=> ?_
 simp(disch:=omega) only[↓RA,RB,simprocAttr,g0]
 refine(sR H).eNew 4 [(.string o.name),o.rv,o.dv,o.cv] rfl rfl (by simp[OC,((sR H).sl ho.1).cells.2.1,((sR H).sl ho.2.2.1).cells.2.1,((sR H).sl ho.2.2.2.2.1).cells.2.1]) tO fun A1 H1 hS1=> ?_
 simp only[RT]at hS1
 simp(disch:=omega) only[↓RA,RB,simprocAttr,g1]
 refine hS1.eNew 3 [(.int .u16 (b 0)),(.int .u16 (b 1)),(.int .u16 (b 2))] rfl rfl rfl c7s fun A2 H2 hS2=> ?_
 simp only[RT]at hS2
 simp(disch:=omega) only[↓RA,RB,simprocAttr]
 have hS3:=hS2.nil 1
 simp only[RT]at hS3
 refine Wp.aq (fun n l H'=>l.length=66∧get l 2=(ptr A1 0 4)∧get l 3=(ptr A2 0 3)∧get l 4=(.slice none 0 0)∧∃(i:Nat)(kv:Value),(n+i=o.dvs.length)∧get l 6=I i∧get l 5=kv∧St prog H H' [⟨ptr A1 0 4,0,[(.string o.name),o.rv,o.dv,o.cv]⟩,⟨ptr A2 0 3,0,[(.int .u16 (b 0)),(.int .u16 (b 1)),(.int .u16 (b 2))]⟩,⟨kv,2,((List.range i).map (zY o b)).flatMap ntc⟩]) o.dvs.length ?_ ?_
 ·simp(disch:=omega) only[RB,RC,simprocAttr,hn]
  exact⟨0,.slice none 0 0,by omega,rfl,rfl,hS3⟩
 rintro n l H3⟨hn,g2,g3,g4,i,kv,hi,g6,g5,hS4⟩
 simp(disch:=omega) only[↓RA,RZ,simprocAttr,hn,g2,g6,hS4.ld 0 rfl,(hS4.sl ho.2.2.1).len]
 refine jA (fun q=> ?_) (fun q=> ?_)
 ·have hk:=hf.keys i (by omega)
  simp(disch:=omega) only[↓RA,RZ,simprocAttr,hn,g2,g6,hS4.ld 0 rfl,(hS4.sl ho.2.2.1).idx,(hS4.sl ho.2.2.1).bd,(hS4.sl ho.2.2.1).cP 2,Dvn.cells,q]
  refine hS4.eNew 2 [I 0,I 0] rfl rfl rfl rI fun A3 H4 hS5=> ?_
  simp only[RT]at hS5
  simp(disch:=omega) only[↓RA,RZ,simprocAttr,hn,q]
  refine hS5.ab 3 rfl [I (jB o.dvs i).lo,I (jB o.dvs i).hi] rfl rfl rI (by simp) fun H5 hS6=> ?_
  simp only[RT]at hS6
  simp(disch:=omega) only[↓RA,RZ,simprocAttr,hn,hS6.ld 3 rfl,q]
  have hS7:=hS6.nil 0
  simp only[RT]at hS7
  refine Wp.aq (fun n l H'=>l.length=66∧get l 2=(ptr A1 0 4)∧get l 3=(ptr A2 0 3)∧get l 4=(.slice none 0 0)∧get l 5=kv∧get l 6=I i∧get l 8=(ptr A3 0 2)∧∃(m:Nat)(lv:Value),(n+m=yB (jB o.dvs i).lo (jB o.dvs i).hi)∧get l 9=I ((jB o.dvs i).lo+m)∧get l 7=lv∧St prog H H' [⟨ptr A1 0 4,0,[(.string o.name),o.rv,o.dv,o.cv]⟩,⟨ptr A2 0 3,0,[(.int .u16 (b 0)),(.int .u16 (b 1)),(.int .u16 (b 2))]⟩,⟨kv,2,((List.range i).map (zY o b)).flatMap ntc⟩,⟨ptr A3 0 2,0,[I (jB o.dvs i).lo,I (jB o.dvs i).hi]⟩,⟨lv,1,(a3Y (jB o.dvs i).lo (b (i%3)) m).flatMap (one I)⟩]) (yB (jB o.dvs i).lo (jB o.dvs i).hi) ?_ ?_
  ·simp(disch:=omega) only[RB,RC,simprocAttr,hn,g2,g3,g4,g6,g5]
   exact⟨0,.slice none 0 0,by omega,by simp,rfl,hS7⟩
  rintro n l H6⟨hn,g2,g3,g4,g5,g6,g8,m,lv,hm,g9,g7,hS8⟩
  simp(disch:=omega) only[↓RA,RZ,simprocAttr,hn,g8,g9,hS8.ld 3 rfl]
  have hM:=c2t (jB o.dvs i).lo (jB o.dvs i).hi
  have hi3:(i:Int).tmod 3=((i%3:Nat):Int):=(eF i 3).symm
  have hw:([Value.int .u16 (b 0),.int .u16 (b 1),.int .u16 (b 2)]:List Value)[i%3]? =some (.int .u16 (b (i%3))):=by
   have:i%3=0∨i%3=1∨i%3=2:=by omega
   rcases this with e|e|e<;>rw[e]<;>rfl
  have hsub:(jB o.dvs i).lo+(m:Int)-(jB o.dvs i).lo=(m:Int):=by omega
  have e1:=c5K (b (i%3)) m (hb _)
  have e2:=c1h (b (i%3)>>>m) (b8O m (hb _))
  have e3:=tb (b (i%3)) m
  have hsu:=b5E (jB o.dvs i).lo (b (i%3)) m
  have hpl:=b9H (jB o.dvs i).lo (b (i%3)) m
  refine kG (fun q1=> ?_) (fun q1=> ?_)
  ·simp(disch:=omega) only[↓RA,RZ,simprocAttr,hn,g8,g9,hS8.ld 3 rfl,q1]
   refine jA (fun q2=> ?_) (fun q2=> ?_)
   ·skip
    simp(disch:=omega) only[↓RA,RC,simprocAttr,q1,q2]
    refine Wp.drw kS (by kernel_rfl) ?_
    simp(disch:=omega) only[↓RA,RZ,simprocAttr,hn,g3,g6,g8,g9,hS8.ld 1 rfl,hw,hS8.ld 3 rfl,hi3,hsub,e1,e2]
    refine jA (fun q3=> ?_) (fun q3=> ?_)
    ·rw[e3,decide_eq_true (by omega),if_pos rfl]at hsu
     simp(disch:=omega) only[↓RA,RZ,simprocAttr,hn,g9,g7,q3]
     refine hS8.ai [I ((jB o.dvs i).lo+m)] qK wM rfl rfl (by simp[Value.cells]) rfl rfl (by decide) (by decide) fun w1 H7 hS9=> ?_
     simp only[RT]at hS9
     simp(disch:=omega) only[↓RA,RZ,simprocAttr,hn,q3]
     refine hS9.al 4 rfl (hS9.rd 5 rfl) qK (by rw[jF (n:=1) (cel:=one I) (fun _=>rfl)];simp;omega) fun w2 H8 hS10=> ?_
     simp only[RT]at hS10
     simp(disch:=omega) only[↓RA,RZ,simprocAttr,hn,g2,g3,g4,g5,g6,g8,g9,q3]
     refine⟨n-1,by unfold yB at hm;omega,m+1,w2,by unfold yB at hm ⊢;omega,by simp;omega,rfl,?_⟩
     rw[hsu,dP]
     exact hS10.pick [0,1,2,3,4] (by decide) rfl
    rw[e3,decide_eq_false (by omega),if_neg (by simp),dQ]at hsu
    simp(disch:=omega) only[↓RA,RZ,simprocAttr,hn,g2,g3,g4,g5,g6,g8,g9,g7,q3]
    refine⟨n-1,by unfold yB at hm;omega,m+1,lv,by unfold yB at hm ⊢;omega,by simp;omega,rfl,?_⟩
    rw[hsu]
    exact hS8.pick [0,1,2,3,4] (by decide) rfl
   have hmM:m=yB (jB o.dvs i).lo (jB o.dvs i).hi:=by unfold yB at hm hM ⊢;omega
   have hz:=xB hf (b (i%3)) (show i<o.dvs.length by omega)
   subst hmM
   simp(disch:=omega) only[↓RA,RZ,simprocAttr,hn,g7,q1,q2]
   refine hS8.cF (yV (a3Y (jB o.dvs i).lo (b (i%3)) (yB (jB o.dvs i).lo (jB o.dvs i).hi)) (fun z h=>(hz z h).1) lv (hS8.av 4 rfl (mC _)) (by omega)) fun H9 hS11=> ?_
   simp(disch:=omega) only[↓RA,RZ,simprocAttr,hn,q1,q2]
   refine hS11.eNew 2 [(.int .u64 0),(.int .u64 0)] rfl rfl rfl pH fun A4 H10 hS12=> ?_
   simp only[RT]at hS12
   simp(disch:=omega) only[↓RA,RZ,simprocAttr,hn,q1,q2]
   refine hS12.ab 5 rfl [(.int .u64 (zY o b i).1),(.int .u64 (zY o b i).2)] rfl rfl pH (by simp) fun H11 hS13=> ?_
   simp only[RT]at hS13
   simp(disch:=omega) only[↓RA,RZ,simprocAttr,hn,g5,hS13.aj 5 rfl,q1,q2]
   refine hS13.ai [(.int .u64 (zY o b i).1),(.int .u64 (zY o b i).2)] b2u c1H rfl rfl (by simp[Value.cells]) rfl rfl (by decide) (by decide) fun w3 H12 hS14=> ?_
   simp only[RT]at hS14
   simp(disch:=omega) only[↓RA,RZ,simprocAttr,hn,q1,q2]
   refine hS14.al 2 rfl (hS14.rd 6 rfl) b2u (by rw[jF (n:=2) (cel:=ntc) (fun _=>rfl)];simp;omega) fun w4 H13 hS15=> ?_
   simp only[RT]at hS15
   simp(disch:=omega) only[↓RA,RZ,simprocAttr,hn,g2,g3,g4,g6,q1,q2]
   refine⟨o.dvs.length-(i+1),by omega,i+1,w4,by omega,by simp,rfl,?_⟩
   rw[eV,ec,dP]
   exact hS15.pick [0,1,2] (by decide) rfl
  have hmM:m=yB (jB o.dvs i).lo (jB o.dvs i).hi:=by unfold yB at hm hM ⊢;omega
  have hz:=xB hf (b (i%3)) (show i<o.dvs.length by omega)
  subst hmM
  simp(disch:=omega) only[↓RA,RZ,simprocAttr,hn,g7,q1]
  refine hS8.cF (yV (a3Y (jB o.dvs i).lo (b (i%3)) (yB (jB o.dvs i).lo (jB o.dvs i).hi)) (fun z h=>(hz z h).1) lv (hS8.av 4 rfl (mC _)) (by omega)) fun H14 hS16=> ?_
  simp(disch:=omega) only[↓RA,RZ,simprocAttr,hn,q1]
  refine hS16.eNew 2 [(.int .u64 0),(.int .u64 0)] rfl rfl rfl pH fun A5 H15 hS17=> ?_
  simp only[RT]at hS17
  simp(disch:=omega) only[↓RA,RZ,simprocAttr,hn,q1]
  refine hS17.ab 5 rfl [(.int .u64 (zY o b i).1),(.int .u64 (zY o b i).2)] rfl rfl pH (by simp) fun H16 hS18=> ?_
  simp only[RT]at hS18
  simp(disch:=omega) only[↓RA,RZ,simprocAttr,hn,g5,hS18.aj 5 rfl,q1]
  refine hS18.ai [(.int .u64 (zY o b i).1),(.int .u64 (zY o b i).2)] b2u c1H rfl rfl (by simp[Value.cells]) rfl rfl (by decide) (by decide) fun w5 H17 hS19=> ?_
  simp only[RT]at hS19
  simp(disch:=omega) only[↓RA,RZ,simprocAttr,hn,q1]
  refine hS19.al 2 rfl (hS19.rd 6 rfl) b2u (by rw[jF (n:=2) (cel:=ntc) (fun _=>rfl)];simp;omega) fun w6 H18 hS20=> ?_
  simp only[RT]at hS20
  simp(disch:=omega) only[↓RA,RZ,simprocAttr,hn,g2,g3,g4,g6,q1]
  refine⟨o.dvs.length-(i+1),by omega,i+1,w6,by omega,by simp,rfl,?_⟩
  rw[eV,ec,dP]
  exact hS20.pick [0,1,2] (by decide) rfl
 simp(disch:=omega) only[↓RA,RZ,simprocAttr,hn,g5,d0w,q]
 have hii:i=o.dvs.length:=by omega
 subst hii
 exact hS4.pick [2] (by decide) rfl
theorem sE(o:Org)(b:Nat→Nat):(qA o b).length=o.dvs.length:=by simp[qA]
theorem a6s{o:Org}{b:Nat→Nat}{i:Nat}(hi:i<o.dvs.length):jB (qA o b) i=zY o b i:=by
 rw[kN _ i (by rw[sE];exact hi)]
 simp[qA]
theorem b2T{o:Org}(hf:o.Fine)(b:Nat→Nat){i:Nat}(hi:i<o.dvs.length):Nt.Ok (zY o b i):=xU _ _ (fun z h=>(xB hf (b (i%3)) hi z h).1) ⟨by decide,by decide⟩
theorem a9V{o:Org}(hf:o.Fine)(b:Nat→Nat):∀x∈qA o b,Nt.Ok x:=by
 intro x hx
 obtain⟨i,hi,rfl⟩:=dX.1 hx
 exact b2T hf b (dY.1 hi)
theorem b6S{x y:Nt}(hx:Nt.Ok x)(h:∀z,isN z→sM x z=true→sM y z=true):woF x y=(0,0):=by
 have k:∀z,isN z→sM (woF x y) z=false:=fun z hz=>by
  rw[b3R hx hz]
  cases e:sM x z with
  | false=>rfl
  | true=>rw[h z hz e];rfl
 have big:∀a:Nat,a<18446744073709551616→∀j,64≤j→a.testBit j=false:=fun a ha j hj=>
  Nat.testBit_lt_two_pow (eG (show a<2^64 from ha) (gi (by decide) hj))
 obtain⟨h1,h2⟩:=c6S x y
 apply iz
 ·apply gZ
  intro j
  rw[ji]
  by_cases hj:64≤j
  ·exact big _ h1 j hj
  ·have:=k (j:Int) ⟨by omega,by omega⟩
   unfold sM at this
   rw[if_pos (by omega)]at this
   exact this
 ·apply gZ
  intro j
  rw[ji]
  by_cases hj:64≤j
  ·exact big _ h2 j hj
  ·have:=k (64+j:Int) ⟨by omega,by omega⟩
   unfold sM at this
   rw[if_neg (by omega),show(64+(j:Int)-64).toNat=j by omega]at this
   exact this
theorem b1b{o:Org}(h0:organE o=0)(b:Nat→Nat):tI o (qA o b)=0:=by
 have hf:=Org.aP h0
 unfold tI
 rw[if_neg (by rw[h0];simp),if_neg (by rw[sE];simp),if_neg]
 rintro⟨j,hj,hne⟩
 apply hne
 have hk:=hf.keys j hj
 rw[a6s hj]
 refine b6S (b2T hf b hj) fun z hz hh=> ?_
 rw[zY,a4g (fun n hn=>(xB hf (b (j%3)) hj n hn).1) hz]at hh
 have:=xB hf (b (j%3)) hj z (of_decide_eq_true hh)
 rw[a7y hk.1 hk.2.2 hz,decide_eq_true this.2.1,decide_eq_true this.2.2]
 rfl
end Go.Ds
namespace Go.Ds
open Go.Proofs
set_option maxRecDepth 10000
theorem Star.mono{α:Type}{R R':α→α→Prop}(h:∀a b,R a b→R' a b){a b:α}(hs:Star R a b):Star R' a b:=by
 induction hs with
 | refl=>exact .refl _
 | tail _ h2 ih=>exact .tail ih (h _ _ h2)
end Go.Ds
namespace Go.Ds
open Go.Proofs Go.Shelf Go.RowKit Go.Lib Go.Sort
def sm(x:Int×Int):Prop:=-1000000000≤x.1∧x.1≤1000000000∧-1000000000≤x.2∧x.2≤1000000000
abbrev Sm:={x:Int×Int//sm x}
instance:Inhabited Sm:=⟨⟨(0,0),by unfold sm;decide⟩⟩
section
variable {H:Heap}
end
end Go.Ds
namespace Go.Ds
open Go.Proofs
variable {H:Heap}
set_option maxRecDepth 10000
set_option maxHeartbeats 1000000
end Go.Ds
namespace Go.Ds
open Go.Proofs Go.Shelf Go.RowKit Go.Lib Go.Sort
section
variable {H:Heap}
end
end Go.Ds
namespace Go.Ds
open Go.Proofs Go.Proofs.Tryz
variable {H:Heap}
set_option maxRecDepth 10000
set_option maxHeartbeats 1000000
theorem Ct.de(a b:Ct):(a.1=b.1∧a.2=b.2)↔b=a:=⟨fun h=>iz h.1.symm h.2.symm,fun h=>by rw[h];exact⟨rfl,rfl⟩⟩
theorem b0H(v:Value)(xs:List Ct)(hv:Sl 2 mD H v xs)(hl:xs.length<1000000000)(d:Ct):
 Fn prog 106 [v,.agg #[I d.1,I d.2]] H fun r H'=>r=I (qW (fun j=>decide (jB xs j=d)) xs.length)∧St prog H H' []:=by
 refine .aE func106 rfl (by kernel_rfl) (m:=19) rfl fun l hn g0 g1=> ?_
 simp(disch:=omega) only[↓RA,RB,simprocAttr,g1]
 refine(sR H).eNew 2 [I d.1,I d.2] rfl rfl rfl mM fun A1 H1 hS1=> ?_
 simp only[RT]at hS1
 simp(disch:=omega) only[↓RA,RZ,simprocAttr,hn,g0,(hS1.sl hv).len]
 refine Wp.aq (fun n l H'=>l.length=19∧get l 0=v∧get l 3=(ptr A1 0 2)∧get l 7=I xs.length∧∃(j:Nat),(n+j=xs.length∧∀q,q<j→decide (jB xs q=d)=false)∧get l 8=I j∧St prog H H' [⟨ptr A1 0 2,0,[I d.1,I d.2]⟩]) xs.length ?_ ?_
 ·simp(disch:=omega) only[RB,RC,simprocAttr,hn,g0]
  exact⟨0,⟨by omega,fun q hq=>absurd hq (ez _)⟩,rfl,hS1⟩
 rintro n l H2⟨hn,g0,g3,g7,j,⟨hi,h0⟩,g8,hS2⟩
 simp(disch:=omega) only[↓RA,RB,simprocAttr,hn,g7,g8]
 refine jA (fun h=> ?_) (fun h=> ?_)
 ·simp(disch:=omega) only[↓RA,RZ,simprocAttr,hn,g8,h]
  refine Wp.drw kS (by kernel_rfl) ?_
  simp(disch:=omega) only[↓RA,RZ,simprocAttr,hn,g0,g3,hS2.aj 0 rfl,(hS2.sl hv).idx,(hS2.sl hv).aj,mD]
  refine jA (fun hp=> ?_) (fun hp=> ?_)
  ·simp(disch:=omega) only[↓RA,RZ,simprocAttr,hn,c4C,hp]
   exact⟨by rw[uV _ xs.length j (by omega) (by simpa using(Ct.de _ _).1 hp) h0],hS2.forget⟩
  simp(disch:=omega) only[↓RA,RZ,simprocAttr,hn,g0,g3,g7,g8,hp]
  exact⟨n-1,by omega,j+1,⟨by omega,fun q hq=>by rcases dN.1 hq with e|e;(· exact h0 q e);(· rw[e];simpa using fun hh=>hp ((Ct.de _ _).2 hh))⟩,by simp,hS2⟩
 simp(disch:=omega) only[↓RA,RZ,simprocAttr,hn,c4C,h]
 exact⟨by rw[vF _ xs.length fun q hq=>h0 q (by omega)],hS2.forget⟩
theorem a3m(v:Value)(xs:List Ct)(hv:Sl 2 mD H v xs)(hl:xs.length<1000000000)(d:Ct):
 Fn prog 66 [v,.agg #[I d.1,I d.2]] H fun r H'=>r=.bool (decide (d∈xs))∧St prog H H' []:=by
 have e:decide (0≤qW (fun j=>decide (jB xs j=d)) xs.length)=decide (d∈xs):=by
  rw[eY,decide_eq_true_iff,decide_eq_true_iff,xV]
  constructor
  ·rintro⟨j,hj,hp⟩
   rw[←of_decide_eq_true hp];exact jE hj
  ·intro hx
   obtain⟨j,hj,rfl⟩:=eM.1 hx
   exact⟨j,hj,by rw[kN xs j hj];simp⟩
 refine .aE func66 rfl (by kernel_rfl) (m:=9) rfl fun l hn g0 g1=> ?_
 simp(disch:=omega) only[↓RA,RB,simprocAttr,g1]
 refine(sR H).eNew 2 [I d.1,I d.2] rfl rfl rfl mM fun A1 H1 hS1=> ?_
 simp only[RT]at hS1
 simp(disch:=omega) only[↓RA,RZ,simprocAttr,hn,g0,hS1.aj 0 rfl]
 refine hS1.cF (b0H v xs (hS1.sl hv) hl d) fun H2 hS2=> ?_
 simp(disch:=omega) only[↓RA,RB,simprocAttr,hn,d0f]
 rw[←e]
 first|exact hS2.forget|exact⟨rfl,hS2.forget⟩
end Go.Ds
namespace Go.Ds
open Go.Proofs
variable {H:Heap}
set_option maxRecDepth 10000
set_option maxHeartbeats 1000000
end Go.Ds
namespace Go.Ds
open Go.Proofs Go.Proofs.Tryz
variable {H:Heap}
set_option maxRecDepth 10000
set_option maxHeartbeats 1000000
theorem b0F(v:Value)(xs:List Ct)(hv:Sl 2 mD H v xs)(hl:xs.length<1000000000)(d:Ct):
 Fn prog 151 [v,.agg #[I d.1,I d.2]] H fun r H'=>r=I (qW (fun j=>decide (jB xs j=d)) xs.length)∧St prog H H' []:=by
 refine .aE func151 rfl (by kernel_rfl) (m:=19) rfl fun l hn g0 g1=> ?_
 simp(disch:=omega) only[↓RA,RB,simprocAttr,g1]
 refine(sR H).eNew 2 [I d.1,I d.2] rfl rfl rfl yE fun A1 H1 hS1=> ?_
 simp only[RT]at hS1
 simp(disch:=omega) only[↓RA,RZ,simprocAttr,hn,g0,(hS1.sl hv).len]
 refine Wp.aq (fun n l H'=>l.length=19∧get l 0=v∧get l 3=(ptr A1 0 2)∧get l 7=I xs.length∧∃(j:Nat),(n+j=xs.length∧∀q,q<j→decide (jB xs q=d)=false)∧get l 8=I j∧St prog H H' [⟨ptr A1 0 2,0,[I d.1,I d.2]⟩]) xs.length ?_ ?_
 ·simp(disch:=omega) only[RB,RC,simprocAttr,hn,g0]
  exact⟨0,⟨by omega,fun q hq=>absurd hq (ez _)⟩,rfl,hS1⟩
 rintro n l H2⟨hn,g0,g3,g7,j,⟨hi,h0⟩,g8,hS2⟩
 simp(disch:=omega) only[↓RA,RB,simprocAttr,hn,g7,g8]
 refine jA (fun h=> ?_) (fun h=> ?_)
 ·simp(disch:=omega) only[↓RA,RZ,simprocAttr,hn,g8,h]
  refine Wp.drw kS (by kernel_rfl) ?_
  simp(disch:=omega) only[↓RA,RZ,simprocAttr,hn,g0,g3,hS2.aj 0 rfl,(hS2.sl hv).idx,(hS2.sl hv).aj,mD]
  refine jA (fun hp=> ?_) (fun hp=> ?_)
  ·simp(disch:=omega) only[↓RA,RZ,simprocAttr,hn,c4t,hp]
   exact⟨by rw[uV _ xs.length j (by omega) (by simpa using(Ct.de _ _).1 hp) h0],hS2.forget⟩
  simp(disch:=omega) only[↓RA,RZ,simprocAttr,hn,g0,g3,g7,g8,hp]
  exact⟨n-1,by omega,j+1,⟨by omega,fun q hq=>by rcases dN.1 hq with e|e;(· exact h0 q e);(· rw[e];simpa using fun hh=>hp ((Ct.de _ _).2 hh))⟩,by simp,hS2⟩
 simp(disch:=omega) only[↓RA,RZ,simprocAttr,hn,c4t,h]
 exact⟨by rw[vF _ xs.length fun q hq=>h0 q (by omega)],hS2.forget⟩
theorem b9m(v:Value)(xs:List Ct)(hv:Sl 2 mD H v xs)(hl:xs.length<1000000000)(d:Ct):
 Fn prog 107 [v,.agg #[I d.1,I d.2]] H fun r H'=>r=.bool (decide (d∈xs))∧St prog H H' []:=by
 have e:decide (0≤qW (fun j=>decide (jB xs j=d)) xs.length)=decide (d∈xs):=by
  rw[eY,decide_eq_true_iff,decide_eq_true_iff,xV]
  constructor
  ·rintro⟨j,hj,hp⟩
   rw[←of_decide_eq_true hp];exact jE hj
  ·intro hx
   obtain⟨j,hj,rfl⟩:=eM.1 hx
   exact⟨j,hj,by rw[kN xs j hj];simp⟩
 refine .aE func107 rfl (by kernel_rfl) (m:=9) rfl fun l hn g0 g1=> ?_
 simp(disch:=omega) only[↓RA,RB,simprocAttr,g1]
 refine(sR H).eNew 2 [I d.1,I d.2] rfl rfl rfl yE fun A1 H1 hS1=> ?_
 simp only[RT]at hS1
 simp(disch:=omega) only[↓RA,RZ,simprocAttr,hn,g0,hS1.aj 0 rfl]
 refine hS1.cF (b0F v xs (hS1.sl hv) hl d) fun H2 hS2=> ?_
 simp(disch:=omega) only[↓RA,RB,simprocAttr,hn,c7u]
 rw[←e]
 first|exact hS2.forget|exact⟨rfl,hS2.forget⟩
theorem c1z{s:Sn}{i:Int}{c:Ct}{f:Bool}(h:a1J s i=false):ldB s i c f=false:=by unfold ldB;rw[h];rfl
theorem a0R{s:Sn}{i:Int}{c:Ct}{f:Bool}:ldB s i c f=true↔a1J s i=true∧(jB s.o.cpls i.toNat).src=c.1∧(f=true∨(jB s.o.cpls i.toNat).thr=true)∧(jB s.o.dvs (jB s.o.cpls i.toNat).dst.toNat).lo≤(to1 (jB s.o.cpls i.toNat) c).2∧(to1 (jB s.o.cpls i.toNat) c).2≤(jB s.o.dvs (jB s.o.cpls i.toNat).dst.toNat).hi:=by
 unfold ldB
 simp only[dB,fj,decide_eq_true_eq,and_assoc]
theorem uE(s:Sn)(hs:s.In H)(hf:s.Fit)(i:Int)(c:Ct)(f:Bool):Fn prog 95 [s.v,I i,.agg #[I c.1,I c.2],.bool f] H fun r H'=>r=.tuple #[.agg #[I (nA s i c).1,I (nA s i c).2],.bool (ldB s i c f)]∧St prog H H' []:=by
 have hdl:=hs.o.2.2.2.2.2.2.1
 refine .dg func95 rfl (by kernel_rfl) (m:=67) rfl fun l hn g0 g1 g2 g3=> ?_
 simp(disch:=omega) only[↓RA,RB,simprocAttr,g0]
 refine(sR H).eNew 10 [(.string s.o.name),s.o.rv,s.o.dv,s.o.cv,s.sv,(.int .u64 s.rg.cpl),(.int .u64 s.rg.off),s.kv,I s.p.1,I s.p.2] rfl rfl (by simp[OC,((sR H).sl hs.o.1).cells.2.1,((sR H).sl hs.o.2.2.1).cells.2.1,((sR H).sl hs.o.2.2.2.2.1).cells.2.1,((sR H).sl hs.rg.1).cells.2.1,((sR H).sl hs.ks.sl).cells.2.1]) oI fun A1 H1 hS1=> ?_
 simp only[RT]at hS1
 simp(disch:=omega) only[↓RA,RB,simprocAttr,g2]
 refine hS1.eNew 2 [I c.1,I c.2] rfl rfl rfl mM fun A2 H2 hS2=> ?_
 simp only[RT]at hS2
 simp(disch:=omega) only[↓RA,RZ,simprocAttr]
 refine hS2.eNew 2 [I 0,I 0] rfl rfl rfl mM fun A3 H3 hS3=> ?_
 simp only[RT]at hS3
 simp(disch:=omega) only[↓RA,RZ,simprocAttr,hn,g1,hS3.aj 0 rfl]
 refine hS3.cF (b4q s (hs.ag hS3) i) fun H4 hS4=> ?_
 simp(disch:=omega) only[↓RA,RB,simprocAttr,hn]
 refine kC (fun h1=> ?_) (fun h1=> ?_)
 ·have h1':a1J s i=false:=by simpa using h1
  simp(disch:=omega) only[↓RA,RB,simprocAttr,hn,c8G,h1]
  refine hS4.ab 2 rfl [I 0,I 0] rfl rfl mM (by simp) fun H5 hS5=> ?_
  simp only[RT]at hS5
  simp(disch:=omega) only[↓RA,RZ,simprocAttr,hn,b1o,hS5.aj 2 rfl,h1]
  exact⟨by rw[nA,if_neg (by simp[h1']),c1z h1'],hS5.forget⟩
 have h1':a1J s i=true:=by simpa using h1
 obtain⟨hc0,hc1,hc2⟩:=zV h1'
 obtain⟨k,rfl⟩:∃k:Nat,i=k:=⟨i.toNat,by omega⟩
 have hkl:k<s.o.cpls.length:=by omega
 obtain⟨d,hd,hdd⟩:=c4Z hf.o hkl
 have hst:nA s k c=((d:Int),vB (c.2+(jB s.o.cpls k).shift)):=by rw[nA,if_pos h1',eT,←hd];rfl
 have hld:ldB s k c f=(decide ((jB s.o.cpls k).src=c.1)&&(f||(jB s.o.cpls k).thr)&&decide ((jB s.o.dvs d).lo≤vB (c.2+(jB s.o.cpls k).shift))&&decide (vB (c.2+(jB s.o.cpls k).shift)≤(jB s.o.dvs d).hi)):=by
  unfold ldB
  rw[h1',eT,hd,eT]
  simp only[gB]
  rfl
 rw[hst,hld]
 simp(disch:=omega) only[↓RA,RZ,simprocAttr,hn,g1,hS4.ld 0 rfl,(hS4.sl hs.o.2.2.2.2.1).idx,(hS4.sl hs.o.2.2.2.2.1).aj,Cpl.cells,h1]
 refine hS4.eNew 5 [(.string ⟨#[]⟩),I 0,I 0,I 0,(.bool false)] rfl rfl rfl yI fun A4 H6 hS6=> ?_
 simp only[RT]at hS6
 simp(disch:=omega) only[↓RA,RB,simprocAttr,hn,h1]
 refine hS6.ab 3 rfl [(.string (jB s.o.cpls k).name),I (jB s.o.cpls k).src,I (jB s.o.cpls k).dst,I (jB s.o.cpls k).shift,(.bool (jB s.o.cpls k).thr)] rfl rfl yI (by simp) fun H7 hS7=> ?_
 simp only[RT]at hS7
 simp(disch:=omega) only[↓RA,RZ,simprocAttr,hn,hS7.ld 0 rfl,h1]
 simp(disch:=omega) only[↓RA,RZ,simprocAttr,hn,hS7.ld 3 rfl,(hS7.sl hs.o.2.2.1).idx,(hS7.sl hs.o.2.2.1).bd,(hS7.sl hs.o.2.2.1).cP 2,Dvn.cells,h1,hd]
 refine hS7.eNew 2 [I 0,I 0] rfl rfl rfl rI fun A5 H8 hS8=> ?_
 simp only[RT]at hS8
 simp(disch:=omega) only[↓RA,RB,simprocAttr,hn,h1,hd]
 refine hS8.ab 4 rfl [I (jB s.o.dvs d).lo,I (jB s.o.dvs d).hi] rfl rfl rI (by simp) fun H9 hS9=> ?_
 simp only[RT]at hS9
 simp(disch:=omega) only[↓RA,RZ,simprocAttr,hn,hS9.ld 3 rfl,hS9.ld 1 rfl,a0u,h1,hd]
 refine hS9.eNew 2 [I 0,I 0] rfl rfl rfl mM fun A6 H10 hS10=> ?_
 simp only[RT]at hS10
 simp(disch:=omega) only[↓RA,RB,simprocAttr,hn,h1,hd]
 refine hS10.ab 5 rfl [I d,_] rfl rfl mM (by simp) fun H11 hS11=> ?_
 simp only[RT]at hS11
 simp(disch:=omega) only[↓RA,RB,simprocAttr,h1,hd]
 refine Wp.aF kS [(22,28),(24,28)] (by kernel_rfl) (by kernel_rfl) ?_
 simp(disch:=omega) only[↓RA,RZ,simprocAttr,hn,hS11.aj 5 rfl,hS11.ld 3 rfl,hS11.ld 1 rfl,hd]
 refine kG (fun h1=> ?_) (fun h1=> ?_)
 ·simp(disch:=omega) only[↓RA,RZ,simprocAttr,hn,g3,h1]
  refine lL (fun h2=> ?_) (fun h2=> ?_)
  ·simp(disch:=omega) only[↓RA,RZ,simprocAttr,hn,hS11.ld 5 rfl,hS11.ld 4 rfl,h1,h2]
   refine kG (fun h3=> ?_) (fun h3=> ?_)
   ·simp(disch:=omega) only[↓RA,RZ,simprocAttr,hn,hS11.ld 5 rfl,hS11.ld 4 rfl,h1,h2,h3]
    refine hS11.ab 2 rfl [I d,_] rfl rfl mM (by simp) fun H12 hS12=> ?_
    simp only[RT]at hS12
    simp(disch:=omega) only[↓RA,RZ,simprocAttr,hn,hS12.ld 5 rfl,hS12.ld 4 rfl,b1o,hS12.aj 2 rfl,h1,h2,h3]
    exact⟨by simp[],hS12.forget⟩
   simp(disch:=omega) only[↓RA,RZ,simprocAttr,hn,h1,h2,h3]
   refine hS11.ab 2 rfl [I d,_] rfl rfl mM (by simp) fun H13 hS13=> ?_
   simp only[RT]at hS13
   simp(disch:=omega) only[↓RA,RZ,simprocAttr,hn,b1o,hS13.aj 2 rfl,h1,h2,h3]
   exact⟨by simp[],hS13.forget⟩
  simp(disch:=omega) only[↓RA,RZ,simprocAttr,hn,hS11.ld 3 rfl,hd,h1,h2]
  refine lL (fun h4=> ?_) (fun h4=> ?_)
  ·simp(disch:=omega) only[↓RA,RZ,simprocAttr,hn,hS11.ld 5 rfl,hS11.ld 4 rfl,h1,h2,h4]
   refine kG (fun h5=> ?_) (fun h5=> ?_)
   ·simp(disch:=omega) only[↓RA,RZ,simprocAttr,hn,hS11.ld 5 rfl,hS11.ld 4 rfl,h1,h2,h4,h5]
    refine hS11.ab 2 rfl [I d,_] rfl rfl mM (by simp) fun H14 hS14=> ?_
    simp only[RT]at hS14
    simp(disch:=omega) only[↓RA,RZ,simprocAttr,hn,hS14.ld 5 rfl,hS14.ld 4 rfl,b1o,hS14.aj 2 rfl,h1,h2,h4,h5]
    exact⟨by simp[],hS14.forget⟩
   simp(disch:=omega) only[↓RA,RZ,simprocAttr,hn,h1,h2,h4,h5]
   refine hS11.ab 2 rfl [I d,_] rfl rfl mM (by simp) fun H15 hS15=> ?_
   simp only[RT]at hS15
   simp(disch:=omega) only[↓RA,RZ,simprocAttr,hn,b1o,hS15.aj 2 rfl,h1,h2,h4,h5]
   exact⟨by simp[],hS15.forget⟩
  simp(disch:=omega) only[↓RA,RZ,simprocAttr,hn,h1,h2,h4]
  refine hS11.ab 2 rfl [I d,_] rfl rfl mM (by simp) fun H16 hS16=> ?_
  simp only[RT]at hS16
  simp(disch:=omega) only[↓RA,RZ,simprocAttr,hn,b1o,hS16.aj 2 rfl,h1,h2,h4]
  exact⟨by simp[],hS16.forget⟩
 simp(disch:=omega) only[↓RA,RZ,simprocAttr,hn,h1]
 refine hS11.ab 2 rfl [I d,_] rfl rfl mM (by simp) fun H17 hS17=> ?_
 simp only[RT]at hS17
 simp(disch:=omega) only[↓RA,RZ,simprocAttr,hn,b1o,hS17.aj 2 rfl,h1]
 exact⟨by simp[],hS17.forget⟩
theorem a9B{s:Sn}{i:Int}{c:Ct}(h:¬(0≤i∧i<(jB s.o.dvs c.1.toNat).stops.length)):a1d s i c=false:=by
 unfold a1d
 by_cases h1:0≤i
 ·rw[decide_eq_false (show¬(i<(jB s.o.dvs c.1.toNat).stops.length) by omega)]
  simp
 ·rw[decide_eq_false h1]
  simp
theorem a5q(s:Sn)(hs:s.In H)(hf:s.Fit)(i:Int)(d:Nat)(z:Int)(hd:d<s.o.dvs.length):Fn prog 68 [s.v,I i,.agg #[I d,I z]] H fun r H'=>r=.bool (a1d s i ((d:Int),z))∧St prog H H' []:=by
 have hdl:=hs.o.2.2.2.2.2.2.1
 have hsl:=hf.sl
 have hdv:=hs.o.2.2.2.1 _ (jE hd)
 refine .cJ func68 rfl (by kernel_rfl) (m:=53) rfl fun l hn g0 g1 g2=> ?_
 simp(disch:=omega) only[↓RA,RB,simprocAttr,g0]
 refine(sR H).eNew 10 [(.string s.o.name),s.o.rv,s.o.dv,s.o.cv,s.sv,(.int .u64 s.rg.cpl),(.int .u64 s.rg.off),s.kv,I s.p.1,I s.p.2] rfl rfl (by simp[OC,((sR H).sl hs.o.1).cells.2.1,((sR H).sl hs.o.2.2.1).cells.2.1,((sR H).sl hs.o.2.2.2.2.1).cells.2.1,((sR H).sl hs.rg.1).cells.2.1,((sR H).sl hs.ks.sl).cells.2.1]) oI fun A1 H1 hS1=> ?_
 simp only[RT]at hS1
 simp(disch:=omega) only[↓RA,RB,simprocAttr,g2]
 refine hS1.eNew 2 [I d,I z] rfl rfl rfl mM fun A2 H2 hS2=> ?_
 simp only[RT]at hS2
 simp(disch:=omega) only[↓RA,RZ,simprocAttr,hn,hS2.ld 0 rfl,hS2.ld 1 rfl,(hS2.sl hs.o.2.2.1).idx,(hS2.sl hs.o.2.2.1).aj,Dvn.cells]
 refine hS2.eNew 5 [(.string ⟨#[]⟩),(.bool false),I 0,I 0,(.slice none 0 0)] rfl rfl rfl qC fun A3 H3 hS3=> ?_
 simp only[RT]at hS3
 simp(disch:=omega) only[↓RA,RB,simprocAttr,hn]
 refine hS3.ab 2 rfl [(.string (jB s.o.dvs d).name),(.bool (jB s.o.dvs d).pedal),I (jB s.o.dvs d).lo,I (jB s.o.dvs d).hi,(jB s.o.dvs d).sv] rfl (by simp[OC,(hS3.sl (hs.o.2.2.2.1 (jB s.o.dvs d) (jE (by omega))).1).cells.2.1]) qC (by simp) fun H4 hS4=> ?_
 simp only[RT]at hS4
 simp(disch:=omega) only[↓RA,RB,simprocAttr]
 refine Wp.aF kS [(35,0)] (by kernel_rfl) (by kernel_rfl) ?_
 simp(disch:=omega) only[↓RA,RZ,simprocAttr,hn,g1]
 refine kG (fun h1=> ?_) (fun h1=> ?_)
 ·simp(disch:=omega) only[↓RA,RZ,simprocAttr,hn,g1,hS4.ld 2 rfl,(hS4.sl (hs.o.2.2.2.1 (jB s.o.dvs d) (jE (by omega))).1).len,h1]
  refine kG (fun h2=> ?_) (fun h2=> ?_)
  ·obtain⟨k,rfl⟩:∃k:Nat,i=k:=⟨i.toNat,by omega⟩
   have hkl:k<(jB s.o.dvs d).stops.length:=by omega
   have hsm:=hs.rg.2.2.1 _ (jE (xs:=s.rg.stops) (j:=d) (by omega))
   have e1:=b4G (jB s.rg.stops d) k hsm
   have e2:=c0h (jB s.rg.stops d>>>k) (b0s _ hsm)
   have e3:=tb (jB s.rg.stops d) k
   have hE:a1d s k ((d:Int),z)=((jB s.rg.stops d).testBit k&&decide (s.p∈a1g s.o.ranks (jB (jB s.o.dvs d).stops k) z)):=by
    unfold a1d
    simp only[eT]
    rw[decide_eq_true (show(0:Int)≤k by omega),decide_eq_true (show(k:Int)<(jB s.o.dvs d).stops.length by omega)]
    simp only[gB]
   have hpl:=b6c s.o.ranks (jB (jB s.o.dvs d).stops k) z (hf.aP.draws d hd _ (jE hkl))
   simp(disch:=omega) only[↓RA,RZ,simprocAttr,hn,g1,hS4.ld 0 rfl,hS4.ld 1 rfl,(hS4.sl hs.rg.1).idx,(hS4.sl hs.rg.1).ld,one,u64,h1,h2,e1,e2]
   refine kG (fun h3=> ?_) (fun h3=> ?_)
   ·simp(disch:=omega) only[↓RA,RZ,simprocAttr,hn,g1,hS4.ld 0 rfl,hS4.ld 2 rfl,(hS4.sl (hs.o.2.2.2.1 (jB s.o.dvs d) (jE (by omega))).1).idx,(hS4.sl (hs.o.2.2.2.1 (jB s.o.dvs d) (jE (by omega))).1).aj,Stp.cells,hS4.ld 1 rfl,h1,h2,h3]
    refine jI (b7t s.o.rv s.o.ranks (hS4.sl hs.o.1) (fun r hr=>(hs.o.2.1 r hr).ag hS4) hs.o.2.2.2.2.2.1 _ ((hdv.2.1 _ (jE hkl)).ag hS4) (hf.aP.draws d hd _ (jE hkl)) z) ?_
    rintro r H5⟨hx,hT1⟩
    have hS5:=hS4.trans hT1
    simp only[RT]at hS5
    obtain⟨pv,rfl⟩:∃w,w=r:=⟨r,rfl⟩
    simp(disch:=omega) only[↓RA,RZ,simprocAttr,hn,hS5.aj 0 rfl,h1,h2,h3]
    refine hS5.cF (b9m pv _ hx.1 (by omega) s.p) fun H6 hS6=> ?_
    simp(disch:=omega) only[↓RA,RZ,simprocAttr,hn,hS4.aj 0 rfl,c1A,h1,h2,h3]
    exact⟨by rw[hE,e3,decide_eq_true (show jB s.rg.stops d>>>k%2=1 by omega)];simp,hS6.forget⟩
   simp(disch:=omega) only[↓RA,RZ,simprocAttr,hn,c1A,h1,h2,h3]
   exact⟨by rw[hE,e3,decide_eq_false (show¬jB s.rg.stops d>>>k%2=1 by omega)];simp,hS4.forget⟩
  simp(disch:=omega) only[↓RA,RZ,simprocAttr,hn,c1A,h1,h2]
  exact⟨by rw[a9B (by simp;omega)],hS4.forget⟩
 simp(disch:=omega) only[↓RA,RZ,simprocAttr,hn,c1A,h1]
 exact⟨by rw[a9B (by simp;omega)],hS4.forget⟩
def okD(s:Sn)(c:Ct):Prop:=0≤c.1∧c.1<s.o.dvs.length
theorem zF{s:Sn}{c:Ct}(h:nJ s.o c=true):okD s c:=by
 have:=(lQ s.o c).1 h
 exact⟨by omega,by omega⟩
theorem a4n(s:Sn)(hs:s.In H)(hf:s.Fit)(i:Int)(c:Ct)(hc:okD s c):Fn prog 68 [s.v,I i,.agg #[I c.1,I c.2]] H fun r H'=>r=.bool (a1d s i c)∧St prog H H' []:=by
 obtain⟨d,z⟩:=c
 obtain⟨j,rfl⟩:=gh hc.1
 exact a5q s hs hf i j z (by have:=hc.2;simp only at this;omega)
theorem b4j(s:Sn)(hs:s.In H)(hf:s.Fit)(d:Nat)(z:Int)(hd:d<s.o.dvs.length):Fn prog 94 [s.v,.agg #[I d,I z]] H fun r H'=>St prog H H' [⟨r,1,(mT s ((d:Int),z)).flatMap (one I)⟩]:=by
 have hst:=hf.aP.stops d hd
 have hLe:=b3f s ((d:Int),z)
 have hL:mT s ((d:Int),z)=a6Y s ((d:Int),z) (jB s.o.dvs d).stops.length:=rfl
 refine .aE func94 rfl (by kernel_rfl) (m:=29) rfl fun l hn g0 g1=> ?_
 simp(disch:=omega) only[↓RA,RB,simprocAttr,g0]
 refine(sR H).eNew 10 [(.string s.o.name),s.o.rv,s.o.dv,s.o.cv,s.sv,(.int .u64 s.rg.cpl),(.int .u64 s.rg.off),s.kv,I s.p.1,I s.p.2] rfl rfl (by simp[OC,((sR H).sl hs.o.1).cells.2.1,((sR H).sl hs.o.2.2.1).cells.2.1,((sR H).sl hs.o.2.2.2.2.1).cells.2.1,((sR H).sl hs.rg.1).cells.2.1,((sR H).sl hs.ks.sl).cells.2.1]) oI fun A1 H1 hS1=> ?_
 simp only[RT]at hS1
 simp(disch:=omega) only[↓RA,RB,simprocAttr,g1]
 refine hS1.eNew 2 [I d,I z] rfl rfl rfl mM fun A2 H2 hS2=> ?_
 simp only[RT]at hS2
 simp(disch:=omega) only[↓RA,RZ,simprocAttr,hn,hS2.ld 0 rfl,hS2.ld 1 rfl,(hS2.sl hs.o.2.2.1).idx,(hS2.sl hs.o.2.2.1).bd,(hS2.sl hs.o.2.2.1).ld,Dvn.cells,(hS2.sl (hs.o.2.2.2.1 (jB s.o.dvs d) (jE (by omega))).1).len]
 have hS3:=hS2.nil 0
 simp only[RT]at hS3
 refine Wp.aq (fun n l H'=>l.length=29∧get l 2=(ptr A1 0 10)∧get l 3=(ptr A2 0 2)∧get l 4=(.slice none 0 0)∧get l 15=I (jB s.o.dvs d).stops.length∧∃(i:Nat)(ov:Value),(n+i=(jB s.o.dvs d).stops.length)∧get l 16=I i∧get l 5=ov∧St prog H H' [⟨ptr A1 0 10,0,[(.string s.o.name),s.o.rv,s.o.dv,s.o.cv,s.sv,(.int .u64 s.rg.cpl),(.int .u64 s.rg.off),s.kv,I s.p.1,I s.p.2]⟩,⟨ptr A2 0 2,0,[I d,I z]⟩,⟨ov,1,(a6Y s ((d:Int),z) i).flatMap (one I)⟩]) (jB s.o.dvs d).stops.length ?_ ?_
 ·simp(disch:=omega) only[RB,RC,simprocAttr,hn]
  exact⟨0,.slice none 0 0,by omega,rfl,rfl,hS3⟩
 rintro n l H3⟨hn,g2,g3,g4,g15,i,ov,hi,g16,g5,hS4⟩
 simp(disch:=omega) only[↓RA,RB,simprocAttr,hn,g15,g16]
 refine jA (fun q1=> ?_) (fun q1=> ?_)
 ·have hsu:=b4f s ((d:Int),z) i
  have hle:=hLe i
  simp(disch:=omega) only[↓RA,RZ,simprocAttr,hn,g2,g3,g16,hS4.aj 0 rfl,hS4.aj 1 rfl,q1]
  refine hS4.cF (a5q s (hs.ag hS4) hf i d z hd) fun H4 hS5=> ?_
  simp(disch:=omega) only[↓RA,RZ,simprocAttr,hn,q1]
  refine kC (fun q2=> ?_) (fun q2=> ?_)
  ·skip
   simp(disch:=omega) only[↓RA,RZ,simprocAttr,hn,g5,q1,q2]
   refine hS5.ai [I i] qK wM rfl rfl (by simp[Value.cells]) rfl rfl (by decide) (by decide) fun w1 H5 hS6=> ?_
   simp only[RT]at hS6
   simp(disch:=omega) only[↓RA,RZ,simprocAttr,hn,q1,q2]
   refine hS6.al 2 rfl (hS6.rd 3 rfl) qK (by rw[mQ,dU];simp;omega) fun w2 H6 hS7=> ?_
   simp only[RT]at hS7
   simp(disch:=omega) only[↓RA,RZ,simprocAttr,hn,g2,g3,g4,g15,g16,q1,q2]
   refine⟨n-1,by omega,i+1,w2,by omega,by simp,rfl,?_⟩
   rw[hsu,if_pos (by simpa using q2),dP]
   exact hS7.pick [0,1,2] (by decide) rfl
  simp(disch:=omega) only[↓RA,RZ,simprocAttr,hn,g2,g3,g4,g15,g16,g5,q1,q2]
  refine⟨n-1,by omega,i+1,ov,by omega,by simp,rfl,?_⟩
  rw[hsu,if_neg (by simpa using q2),dQ]
  exact hS5.pick [0,1,2] (by decide) rfl
 have hii:i=(jB s.o.dvs d).stops.length:=by omega
 simp(disch:=omega) only[↓RA,RZ,simprocAttr,hn,g5,d1l,q1]
 rw[hL,←hii]
 exact hS4.pick [2] (by decide) rfl
theorem wQ(s:Sn)(hs:s.In H)(hf:s.Fit)(c:Ct)(hc:okD s c):Fn prog 94 [s.v,.agg #[I c.1,I c.2]] H fun r H'=>St prog H H' [⟨r,1,(mT s c).flatMap (one I)⟩]:=by
 obtain⟨d,z⟩:=c
 obtain⟨j,rfl⟩:=gh hc.1
 exact b4j s hs hf j z (by have:=hc.2;simp only at this;omega)
structure Rn where
 pl:Ct
 cv:Value
 cps:List Int
 tc:Ct
 stop:Int
 deriving Inhabited
abbrev Rn.v(r:Rn):Value:=.agg #[I r.pl.1,I r.pl.2,r.cv,I r.tc.1,I r.tc.2,I r.stop]
def Rn.cells(r:Rn):List Value:=[I r.pl.1,I r.pl.2,r.cv,I r.tc.1,I r.tc.2,I r.stop]
def Rn.In(H:Heap)(r:Rn):Prop:=Sl 1 (one I) H r.cv r.cps∧r.cps.length<100000000
theorem Rn.In.ag{r:Rn}{H0 H:Heap}{P:Program}{os:List Ob}(h:r.In H0)(hS:St P H0 H os):r.In H:=⟨hS.sl h.1,h.2⟩
def mL(s:Sn)(p:Ct)(cps:List Int):Nat→Option (List Ct×Ct)
 | 0=>some ([],p)
 | n+1=>match mL s p cps n with
   | none=>none
   | some (out,a)=>if ldB s (jB cps n) a (decide (n=0))&& !decide (nA s (jB cps n) a∈out)then some (out++[nA s (jB cps n) a],nA s (jB cps n) a)else none
def nF(s:Sn)(r:Rn):List Ct×Bool:=match mL s r.pl r.cps r.cps.length with
 | none=>([],false)
 | some (out,a)=>(out,decide (a=r.tc))
theorem a2i{s:Sn}{p:Ct}{cps:List Int}{n:Nat}(h:mL s p cps n=none):∀k,mL s p cps (n+k)=none
 | 0=>h
 | k+1=>by
   show mL s p cps ((n+k)+1)=none
   unfold mL
   rw[a2i h k]
theorem zU{s:Sn}{p:Ct}{cps:List Int}:∀{n:Nat}{out:List Ct}{a:Ct},mL s p cps n=some (out,a)→out.length=n
 | 0,out,a,h=>by
   unfold mL at h
   injection h with h
   obtain⟨rfl,rfl⟩:=iC h
   rfl
 | n+1,out,a,h=>by
   unfold mL at h
   cases h2:mL s p cps n with
   | none=>rw[h2]at h;cases h
   | some q=>
     obtain⟨o2,a2⟩:=q
     rw[h2]at h
     simp only at h
     split at h
     ·injection h with h
      obtain⟨rfl,rfl⟩:=iC h
      rw[dH,zU h2]
      rfl
     ·cases h
theorem a8D(s:Sn)(hs:s.In H)(hf:s.Fit)(r:Rn)(hr:r.In H):Fn prog 56 [s.v,r.v] H fun q H'=>∃w,q=.tuple #[w,.bool (nF s r).2]∧St prog H H' [⟨w,2,pr (nF s r).1⟩]:=by
 have hrl:=hr.2
 refine .aE func56 rfl (by kernel_rfl) (m:=49) rfl fun l hn g0 g1=> ?_
 simp(disch:=omega) only[↓RA,RB,simprocAttr,g0]
 refine(sR H).eNew 10 [(.string s.o.name),s.o.rv,s.o.dv,s.o.cv,s.sv,(.int .u64 s.rg.cpl),(.int .u64 s.rg.off),s.kv,I s.p.1,I s.p.2] rfl rfl (by simp[OC,((sR H).sl hs.o.1).cells.2.1,((sR H).sl hs.o.2.2.1).cells.2.1,((sR H).sl hs.o.2.2.2.2.1).cells.2.1,((sR H).sl hs.rg.1).cells.2.1,((sR H).sl hs.ks.sl).cells.2.1]) oI fun A1 H1 hS1=> ?_
 simp only[RT]at hS1
 simp(disch:=omega) only[↓RA,RB,simprocAttr,g1]
 refine hS1.eNew 6 [I r.pl.1,I r.pl.2,r.cv,I r.tc.1,I r.tc.2,I r.stop] rfl rfl (by simp[OC,(hS1.sl hr.1).cells.2.1]) nW fun A2 H2 hS2=> ?_
 simp only[RT]at hS2
 simp(disch:=omega) only[↓RA,RZ,simprocAttr,hn,hS2.aj 1 rfl]
 refine hS2.eNew 2 [I 0,I 0] rfl rfl rfl mM fun A3 H3 hS3=> ?_
 simp only[RT]at hS3
 simp(disch:=omega) only[↓RA,RB,simprocAttr,hn]
 refine hS3.ab 2 rfl [I r.pl.1,I r.pl.2] rfl rfl mM (by simp) fun H4 hS4=> ?_
 simp only[RT]at hS4
 simp(disch:=omega) only[↓RA,RZ,simprocAttr,hn,hS4.ld 1 rfl,(hS4.sl hr.1).len]
 have hS5:=hS4.nil 1
 simp only[RT]at hS5
 refine Wp.aq (fun n l H'=>l.length=49∧get l 2=(ptr A1 0 10)∧get l 3=(ptr A2 0 6)∧get l 7=(ptr A3 0 2)∧get l 15=r.cv∧get l 16=I r.cps.length∧∃(j:Nat)(ov:Value)(out:List Ct)(a:Ct),(n+j=r.cps.length∧mL s r.pl r.cps j=some (out,a))∧get l 17=I j∧get l 6=ov∧St prog H H' [⟨ptr A1 0 10,0,[(.string s.o.name),s.o.rv,s.o.dv,s.o.cv,s.sv,(.int .u64 s.rg.cpl),(.int .u64 s.rg.off),s.kv,I s.p.1,I s.p.2]⟩,⟨ptr A2 0 6,0,[I r.pl.1,I r.pl.2,r.cv,I r.tc.1,I r.tc.2,I r.stop]⟩,⟨ptr A3 0 2,0,[I a.1,I a.2]⟩,⟨ov,2,pr out⟩]) r.cps.length ?_ ?_
 ·simp(disch:=omega) only[RB,RC,simprocAttr,hn]
  exact⟨0,.slice none 0 0,[],r.pl,⟨by omega,rfl⟩,rfl,rfl,hS5⟩
 rintro n l H5⟨hn,g2,g3,g7,g15,g16,j,ov,out,a,⟨hj,hc⟩,g17,g6,hS6⟩
 simp(disch:=omega) only[↓RA,RB,simprocAttr,hn,g16,g17]
 refine jA (fun q1=> ?_) (fun q1=> ?_)
 ·have hol:=zU hc
  have hsu:mL s r.pl r.cps (j+1)=if ldB s (jB r.cps j) a (decide (j=0))&& !decide (nA s (jB r.cps j) a∈out)then some (out++[nA s (jB r.cps j) a],nA s (jB r.cps j) a)else none:=by
   rw[mL,hc]
  have hj0:decide ((j:Int)=0)=decide (j=0):=decide_eq_decide.2 (by omega)
  have hnone:mL s r.pl r.cps (j+1)=none→(nF s r)=([],false):=fun h=>by
   unfold nF
   have:=a2i h (r.cps.length-(j+1))
   rw[show j+1+(r.cps.length-(j+1))=r.cps.length from by omega]at this
   rw[this]
  simp(disch:=omega) only[↓RA,RZ,simprocAttr,hn,g2,g7,g15,g17,(hS6.sl hr.1).idx,(hS6.sl hr.1).ld,one,hS6.aj 0 rfl,hS6.aj 2 rfl,q1,hj0]
  refine hS6.cF (uE s (hs.ag hS6) hf (jB r.cps j) a (decide (j=0))) fun H6 hS7=> ?_
  simp(disch:=omega) only[↓RA,RZ,simprocAttr,hn,q1]
  refine hS7.eNew 2 [I 0,I 0] rfl rfl rfl mM fun A4 H7 hS8=> ?_
  simp only[RT]at hS8
  simp(disch:=omega) only[↓RA,RZ,simprocAttr,hn,q1]
  refine hS8.ab 4 rfl [I (nA s (jB r.cps j) a).1,I (nA s (jB r.cps j) a).2] rfl rfl mM (by simp) fun H8 hS9=> ?_
  simp only[RT]at hS9
  simp(disch:=omega) only[↓RA,RZ,simprocAttr,hn,q1]
  refine lL (fun q2=> ?_) (fun q2=> ?_)
  ·have hno:=hnone (by rw[hsu,show ldB s (jB r.cps j) a (decide (j=0))=false from by simpa using q2];rfl)
   simp(disch:=omega) only[↓RA,RZ,simprocAttr,hn,c6c,q1,q2]
   rw[hno]
   refine⟨.slice none 0 0,rfl,?_⟩
   exact(hS9.forget).nil 1
  have q2':ldB s (jB r.cps j) a (decide (j=0))=true:=by simpa using q2
  simp(disch:=omega) only[↓RA,RZ,simprocAttr,hn,g6,hS9.aj 4 rfl,q1,q2]
  refine hS9.cF (a3m ov out (hS9.av 3 rfl lB) (by omega) (nA s (jB r.cps j) a)) fun H9 hS10=> ?_
  simp(disch:=omega) only[↓RA,RZ,simprocAttr,hn,q1,q2]
  refine jA (fun q3=> ?_) (fun q3=> ?_)
  ·have hno:=hnone (by rw[hsu,decide_eq_true q3,q2'];rfl)
   simp(disch:=omega) only[↓RA,RZ,simprocAttr,hn,c6c,q1,q2,q3]
   rw[hno]
   refine⟨.slice none 0 0,rfl,?_⟩
   exact(hS10.forget).nil 1
  have q3':decide (nA s (jB r.cps j) a∈out)=false:=decide_eq_false q3
  simp(disch:=omega) only[↓RA,RZ,simprocAttr,hn,g7,hS10.aj 4 rfl,q1,q2,q3]
  refine hS10.ab 2 rfl [I (nA s (jB r.cps j) a).1,I (nA s (jB r.cps j) a).2] rfl rfl mM (by simp) fun H10 hS11=> ?_
  simp only[RT]at hS11
  simp(disch:=omega) only[↓RA,RZ,simprocAttr,hn,g6,hS11.aj 4 rfl,q1,q2,q3]
  refine hS11.ai [I (nA s (jB r.cps j) a).1,I (nA s (jB r.cps j) a).2] vU a7z rfl rfl (by simp[Value.cells]) rfl rfl (by decide) (by decide) fun w1 H11 hS12=> ?_
  simp only[RT]at hS12
  simp(disch:=omega) only[↓RA,RZ,simprocAttr,hn,q1,q2,q3]
  refine hS12.al 3 rfl (hS12.rd 5 rfl) vU (by rw[jN];simp;omega) fun w2 H12 hS13=> ?_
  simp only[RT]at hS13
  simp(disch:=omega) only[↓RA,RZ,simprocAttr,hn,g2,g3,g7,g15,g16,g17,q1,q2,q3]
  refine⟨n-1,by omega,j+1,w2,out++[nA s (jB r.cps j) a],nA s (jB r.cps j) a,⟨by omega,by rw[hsu,q2',q3'];rfl⟩,by simp,rfl,?_⟩
  rw[mI]
  exact hS13.pick [0,1,2,3] (by decide) rfl
 have hjj:j=r.cps.length:=by omega
 have hR:nF s r=(out,decide (a=r.tc)):=by unfold nF;rw[←hjj,hc]
 have hnt:=(hS6.av (cel:=mD) 3 rfl lB).bD
 have hpe:decide (a.1=r.tc.1∧a.2=r.tc.2)=decide (a=r.tc):=decide_eq_decide.2 Prod.ext_iff.symm
 simp(disch:=omega) only[↓RA,RC,simprocAttr,q1]
 refine Wp.drw kS (by kernel_rfl) ?_
 simp(disch:=omega) only[↓RA,RZ,simprocAttr,hn,g3,g7,g6,hS6.aj 2 rfl,hS6.aj 1 rfl,c6c,hnt,hpe]
 rw[hR]
 exact⟨ov,rfl,hS6.pick [3] (by decide) rfl⟩
def vfE(s:Sn)(r:Rn):Int:=
 if tT s≠0 then tT s else if r.pl∉jG s.ks then 10 else if(nF s r).2=false∨(r.cps.length=0∧a1q s r.pl.1=true)then 7 else if a1d s r.stop r.tc=false then 11 else 0
theorem a7o(s:Sn)(hs:s.In H)(d:Int)(h0:0≤d):Fn prog 67 [s.v,I d] H fun r H'=>r=.bool (a1q s d)∧St prog H H' []:=by
 obtain⟨j,rfl⟩:=gh h0
 exact c6R s hs j
theorem a5j{s:Sn}{r:Rn}(hf:s.Fit)(hp:nJ s.o r.pl=true)(h:(nF s r).2=true):nJ s.o r.tc=true:=by
 have key:∀n out a,mL s r.pl r.cps n=some (out,a)→nJ s.o a=true:=by
  intro n
  induction n with
  | zero=>
    intro out a h
    unfold mL at h
    injection h with h
    obtain⟨_,rfl⟩:=iC h
    exact hp
  | succ n ih=>
    intro out a h
    unfold mL at h
    cases h2:mL s r.pl r.cps n with
    | none=>rw[h2]at h;cases h
    | some q=>
      obtain⟨o2,a2⟩:=q
      rw[h2]at h
      simp only at h
      split at h
      ·rename_i hb
       injection h with h
       obtain⟨_,rfl⟩:=iC h
       rw[dB]at hb
       have h5:=a0R.1 hb.1
       obtain⟨h6,h7,_⟩:=zV h5.1
       have hc:=Org.bp hf.o (j:=(jB r.cps n).toNat) (by omega)
       rw[nA,if_pos h5.1,lQ]
       exact⟨hc.2.1.1,hc.2.1.2,h5.2.2.2.1,h5.2.2.2.2⟩
      ·cases h
 unfold nF at h
 cases h2:mL s r.pl r.cps r.cps.length with
 | none=>rw[h2]at h;cases h
 | some q=>
   obtain⟨o2,a2⟩:=q
   rw[h2]at h
   simp only[decide_eq_true_eq]at h
   rw[←h]
   exact key _ _ _ h2
theorem b5f(hG:Glob gH H)(s:Sn)(hs:s.In H)(x:Rn)(hx:x.In H):Fn prog 28 [s.v,x.v] H fun q H'=>q=I (vfE s x)∧St prog H H' []:=by
 have hrl:=hx.2
 refine .aE func28 rfl (by kernel_rfl) (m:=47) rfl fun l hn g0 g1=> ?_
 simp(disch:=omega) only[↓RA,RB,simprocAttr,g0]
 refine(sR H).eNew 10 [(.string s.o.name),s.o.rv,s.o.dv,s.o.cv,s.sv,(.int .u64 s.rg.cpl),(.int .u64 s.rg.off),s.kv,I s.p.1,I s.p.2] rfl rfl (by simp[OC,((sR H).sl hs.o.1).cells.2.1,((sR H).sl hs.o.2.2.1).cells.2.1,((sR H).sl hs.o.2.2.2.2.1).cells.2.1,((sR H).sl hs.rg.1).cells.2.1,((sR H).sl hs.ks.sl).cells.2.1]) oI fun A1 H1 hS1=> ?_
 simp only[RT]at hS1
 simp(disch:=omega) only[↓RA,RB,simprocAttr,g1]
 refine hS1.eNew 6 [I x.pl.1,I x.pl.2,x.cv,I x.tc.1,I x.tc.2,I x.stop] rfl rfl (by simp[OC,(hS1.sl hx.1).cells.2.1]) nW fun A2 H2 hS2=> ?_
 simp only[RT]at hS2
 simp(disch:=omega) only[↓RA,RZ,simprocAttr,hn,hS2.aj 0 rfl]
 refine hS2.cF (pS s (hs.ag hS2)) fun H3 hS3=> ?_
 simp(disch:=omega) only[↓RA,RB,simprocAttr,hn]
 refine jA (fun h1=> ?_) (fun h1=> ?_)
 ·simp(disch:=omega) only[↓RA,RZ,simprocAttr,hn,a6R,h1]
  exact⟨by rw[vfE,if_pos h1],hS3.forget⟩
 have hf:=zZ.1 (dW.1 h1)
 have hpl:=a1t hf.keys
 have hct:=uI hs.ks.ok hf.keys
 simp(disch:=omega) only[↓RA,RC,simprocAttr,h1]
 refine Wp.aF kS [(3,0)] (by kernel_rfl) (by kernel_rfl) ?_
 simp(disch:=omega) only[↓RA,RZ,simprocAttr,hn,hS3.aj 0 rfl]
 refine jI ((zD (hS3.gl hG) s (hs.ag hS3) hf).tr) ?_
 rintro r H4⟨-,hT2⟩
 have hS4:=hS3.trans hT2
 simp only[RT]at hS4
 obtain⟨pw,rfl⟩:∃w,w=r:=⟨r,rfl⟩
 simp(disch:=omega) only[↓RA,RZ,simprocAttr,hn,hS4.aj 1 rfl]
 refine hS4.cF (a3m pw (jG s.ks) (hS4.av 2 rfl lB) (by omega) x.pl) fun H5 hS5=> ?_
 simp(disch:=omega) only[↓RA,RZ,simprocAttr,hn,hS3.aj 1 rfl]
 refine kC (fun h2=> ?_) (fun h2=> ?_)
 ·simp(disch:=omega) only[↓RA,RB,simprocAttr,hn,a6R,h2]
  exact⟨by rw[vfE,if_neg h1,if_pos (by simpa using h2)],hS5.forget⟩
 have hm:x.pl∈jG s.ks:=by simpa using h2
 have hE:vfE s x=if(nF s x).2=false∨(x.cps.length=0∧a1q s x.pl.1=true)then 7 else if a1d s x.stop x.tc=false then 11 else 0:=by rw[vfE,if_neg h1,if_neg (by simpa using hm)]
 simp(disch:=omega) only[↓RA,RZ,simprocAttr,hn,hS5.aj 0 rfl,hS5.aj 1 rfl,h2]
 refine jI (a8D s (hs.ag hS5) hf x (hx.ag hS5)) ?_
 rintro r H6⟨cw,rfl,hT4⟩
 have hS6:=hS5.trans hT4
 simp only[RT]at hS6
 simp(disch:=omega) only[↓RA,RZ,simprocAttr,hn,h2]
 refine lL (fun h3=> ?_) (fun h3=> ?_)
 ·simp(disch:=omega) only[↓RA,RZ,simprocAttr,hn,a6R,h2,h3]
  exact⟨by rw[hE,if_pos (Or.inl (by simpa using h3))],hS6.forget⟩
 have hc:(nF s x).2=true:=by simpa using h3
 have hok:=a5j hf (hct _ hm) hc
 simp(disch:=omega) only[↓RA,RZ,simprocAttr,hn,hS6.ld 1 rfl,(hS6.sl hx.1).len,h2,h3]
 refine kG (fun h4=> ?_) (fun h4=> ?_)
 ·simp(disch:=omega) only[↓RA,RZ,simprocAttr,hn,hS6.aj 0 rfl,hS6.ld 1 rfl,h2,h3,h4]
  refine hS6.cF (a7o s (hs.ag hS6) x.pl.1 ((zF (hct _ hm)).1)) fun H7 hS7=> ?_
  simp(disch:=omega) only[↓RA,RZ,simprocAttr,hn,h2,h3,h4]
  refine kC (fun h5=> ?_) (fun h5=> ?_)
  ·simp(disch:=omega) only[↓RA,RZ,simprocAttr,hn,a6R,h2,h3,h4,h5]
   exact⟨by rw[hE,if_pos (Or.inr ⟨by omega,by simpa using h5⟩)],hS7.forget⟩
  have h5':a1q s x.pl.1=false:=by simpa using h5
  simp(disch:=omega) only[↓RA,RZ,simprocAttr,hn,hS7.aj 0 rfl,hS7.ld 1 rfl,hS7.aj 1 rfl,h2,h3,h4,h5]
  refine hS7.cF (a4n s (hs.ag hS7) hf x.stop x.tc (zF hok)) fun H8 hS8=> ?_
  simp(disch:=omega) only[↓RA,RZ,simprocAttr,hn,h2,h3,h4,h5]
  refine kC (fun h6=> ?_) (fun h6=> ?_)
  ·simp(disch:=omega) only[↓RA,RZ,simprocAttr,hn,a6R,h2,h3,h4,h5,h6]
   exact⟨by rw[hE,if_neg (by rw[hc,h5'];simp),if_pos (by simpa using h6)],hS8.forget⟩
  simp(disch:=omega) only[↓RA,RZ,simprocAttr,hn,a6R,h2,h3,h4,h5,h6]
  exact⟨by rw[hE,if_neg (by rw[hc,h5'];simp),if_neg (by simpa using h6)],hS8.forget⟩
 simp(disch:=omega) only[↓RA,RZ,simprocAttr,hn,hS6.aj 0 rfl,hS6.ld 1 rfl,hS6.aj 1 rfl,h2,h3,h4]
 refine hS6.cF (a4n s (hs.ag hS6) hf x.stop x.tc (zF hok)) fun H9 hS9=> ?_
 simp(disch:=omega) only[↓RA,RZ,simprocAttr,hn,h2,h3,h4]
 refine kC (fun h6=> ?_) (fun h6=> ?_)
 ·simp(disch:=omega) only[↓RA,RZ,simprocAttr,hn,a6R,h2,h3,h4,h6]
  exact⟨by rw[hE,if_neg (by rw[hc];rintro(h|h);(· cases h);(· omega)),if_pos (by simpa using h6)],hS9.forget⟩
 simp(disch:=omega) only[↓RA,RZ,simprocAttr,hn,a6R,h2,h3,h4,h6]
 exact⟨by rw[hE,if_neg (by rw[hc];rintro(h|h);(· cases h);(· omega)),if_neg (by simpa using h6)],hS9.forget⟩
end Go.Ds
namespace Go.Ds
open Go.Proofs Go.Proofs.Tryz Go.ChangeShapes Go.WideShapes Go.RowKit Go.Deep
set_option maxRecDepth 10000
theorem c7o:prog.cellsOf 54=2:=by kernel_rfl
theorem b8u:prog.cellsOf 68=2:=by kernel_rfl
theorem c7h:prog.cellsOf 39=10:=by kernel_rfl
theorem c8Z:prog.cellsOf 70=5:=by kernel_rfl
theorem c8T:prog.cellsOf 35=5:=by kernel_rfl
structure RnI(H:Heap)(r:Rn):Prop where
 sl:Sl 1 (one I) H r.cv r.cps
 len:r.cps.length<9223372036854775808
theorem RnI.ext{ρ ρ':Rho}{H H':Heap}{r:Rn}(h:RnI H r)(e:ExtW ρ H ρ' H'):RnI H' r:=⟨h.sl.ext e,h.len⟩
theorem RnI.ag{P:Program}{H H0:Heap}{os:List Ob}{r:Rn}(h:RnI H0 r)(hS:St P H0 H os):RnI H r:=⟨hS.sl h.sl,h.len⟩
theorem RnI.rn{H:Heap}{r:Rn}(h:RnI H r)(hl:r.cps.length<100000000):r.In H:=⟨h.sl,hl⟩
structure CtI(H:Heap)(v:Value)(l:List Ctl):Prop where
 sl:Sl 3 Ctl.cells H v l
 len:l.length<9223372036854775808
theorem CtI.ext{ρ ρ':Rho}{H H':Heap}{v:Value}{l:List Ctl}(h:CtI H v l)(e:ExtW ρ H ρ' H'):CtI H' v l:=⟨h.sl.ext e,h.len⟩
theorem CtI.ag{P:Program}{H H0:Heap}{os:List Ob}{v:Value}{l:List Ctl}(h:CtI H0 v l)(hS:St P H0 H os):CtI H v l:=⟨hS.sl h.sl,h.len⟩
section
variable {H0:Type} {enc:TypeId×Value→H0} {w:World} {base n:Nat} {spare:Nat→Bool} {lJ:Bool} {x:DataW H0×List MemPlace}
theorem c5G{cs:List Value}(h:DataW.trod enc prog w base spare lJ n 54 cs=some x):∃c:Ct,cs=[I c.1,I c.2]:=by
 obtain⟨hl,m,hf⟩:=uX underlying54 h
 rw[c7o]at hl
 match cs,hl with
 | [x,y],_=>
   obtain⟨_,h0⟩:=hf 0 ⟨_,3,0,_,_,_,_⟩ rfl
   obtain⟨_,h1⟩:=hf 1 ⟨_,3,1,_,_,_,_⟩ rfl
   simp only[ce3]at h0 h1
   obtain⟨a,rfl,_⟩:=b9h h0
   obtain⟨b,rfl,_⟩:=b9h h1
   exact⟨(a,b),rfl⟩
theorem c0K{cs:List Value}(h:DataW.trod enc prog w base spare lJ n 68 cs=some x):∃a b:Nat,a<256∧b<256∧cs=[.int .u8 a,.int .u8 b]:=by
 obtain⟨hl,m,hf⟩:=uX underlying68 h
 rw[b8u]at hl
 match cs,hl with
 | [x,y],_=>
   obtain⟨_,h0⟩:=hf 0 ⟨_,5,0,_,_,_,_⟩ rfl
   obtain⟨_,h1⟩:=hf 1 ⟨_,5,1,_,_,_,_⟩ rfl
   simp only[ce5]at h0 h1
   obtain⟨a,rfl,ha⟩:=oY h0
   obtain⟨b,rfl,hb⟩:=oY h1
   exact⟨a,b,ha,hb,rfl⟩
end
section
variable {H0:Type} {enc:TypeId×Value→H0} {w:World} {base fuel:Nat} {lJ:Bool} {x:DataW H0×List MemPlace} {ρ:Rho} {H:Heap}
theorem c5i{v0:Value}{d0:DataW H0}{p0:List MemPlace}{c0:Nat}(h0:DataW.Trod enc prog w base (fun _=>true) lJ 39 v0 d0 p0)(hval:Value.okWide prog w .any c0 39 v0):
 ∃(b k:Nat→Nat)(r n:Nat),(∀i,b i<256)∧(∀i,k i<65536)∧r<256∧n<256∧v0=.agg #[.int .u8 (b 0),.int .u8 (b 1),.int .u8 (b 2),.int .u8 (b 3),.int .u8 (b 4),.int .u16 (k 0),.int .u16 (k 1),.int .u16 (k 2),.int .u8 r,.int .u8 n]:=by
 obtain⟨cs,rfl,hsz⟩:=okWide_struct underlying39 hval
 rw[c7h]at hsz
 obtain⟨fuel,hf⟩:=h0
 obtain⟨l⟩:=cs
 have hl:l.length=10:=hsz
 match l,hl with
 | [x0,x1,x2,x3,x4,x5,x6,x7,x8,x9],_=>
   obtain⟨_,m,hf⟩:=uX (cs:=[x0,x1,x2,x3,x4,x5,x6,x7,x8,x9]) underlying39 hf
   obtain⟨_,h0⟩:=hf 0 ⟨_,35,0,_,_,_,_⟩ rfl
   obtain⟨_,h1⟩:=hf 1 ⟨_,37,5,_,_,_,_⟩ rfl
   obtain⟨_,h2⟩:=hf 2 ⟨_,5,8,_,_,_,_⟩ rfl
   obtain⟨_,h3⟩:=hf 3 ⟨_,5,9,_,_,_,_⟩ rfl
   simp only[c8T,c8j,ce5]at h0 h1 h2 h3
   obtain⟨b,hb,eb⟩:=b2S h0
   obtain⟨k,hk,ek⟩:=c4R h1
   obtain⟨r,er,hr⟩:=oY h2
   obtain⟨n,en,hn⟩:=oY h3
   simp only[iy,gI,iM,List.take_zero,ft,and_true]at eb ek
   obtain⟨rfl,rfl,rfl,rfl,rfl⟩:=eb
   obtain⟨rfl,rfl,rfl⟩:=ek
   subst er en
   exact⟨b,k,r,n,hb,hk,hr,hn,rfl⟩
theorem c6s{v0:Value}{d0:DataW H0}{p0:List MemPlace}{c0:Nat}(h0:DataW.Trod enc prog w base (fun _=>true) lJ 70 v0 d0 p0)(hval:Value.okWide prog w .any c0 70 v0):
 ∃(hw a b:Nat)(p:Ct),hw<256∧a<256∧b<256∧v0=.agg #[.int .u8 hw,.int .u8 a,.int .u8 b,I p.1,I p.2]:=by
 obtain⟨cs,rfl,hsz⟩:=okWide_struct underlying70 hval
 rw[c8Z]at hsz
 obtain⟨fuel,hf⟩:=h0
 obtain⟨l⟩:=cs
 have hl:l.length=5:=hsz
 match l,hl with
 | [x0,x1,x2,x3,x4],_=>
   obtain⟨_,m,hf⟩:=uX (cs:=[x0,x1,x2,x3,x4]) underlying70 hf
   obtain⟨_,h0⟩:=hf 0 ⟨_,5,0,_,_,_,_⟩ rfl
   obtain⟨_,h1⟩:=hf 1 ⟨_,68,1,_,_,_,_⟩ rfl
   obtain⟨_,h2⟩:=hf 2 ⟨_,54,3,_,_,_,_⟩ rfl
   simp only[ce5,b8u,c7o]at h0 h1 h2
   obtain⟨u,eu,hu⟩:=oY h0
   obtain⟨a,b,ha,hb,eab⟩:=c0K h1
   obtain⟨p,ep⟩:=c5G h2
   simp only[iy,gI,iM,List.take_zero,ft,and_true]at eab ep
   obtain⟨rfl,rfl⟩:=eab
   obtain⟨rfl,rfl⟩:=ep
   subst eu
   exact⟨u,a,b,p,hu,ha,hb,rfl⟩
end
end Go.Ds
namespace Go.Ds
open Go.Proofs
variable {H:Heap}
set_option maxRecDepth 10000
set_option maxHeartbeats 1000000
end Go.Ds
namespace Go.Ds
open Go.Proofs Go.Proofs.Tryz
variable {H:Heap}
set_option maxRecDepth 10000
set_option maxHeartbeats 1000000
theorem a2x(a:Addr)(m c:Nat):lK prog .eql 140 140 false true (.slice (some a) m c) (.slice none 0 0)=some (.bool false):=by kernel_rfl
theorem wS{v:Value}{a:Addr}{m c:Nat}(h:v=.slice (some a) m c)(K:Value→Prop):lZ prog .eql 140 140 false true v (.slice none 0 0) K=oX (.bool false) K:=by
 subst h
 show kU (lK prog .eql 140 140 false true (.slice (some a) m c) (.slice none 0 0)) K=_
 rw[a2x]
 rfl
theorem a1h:lK prog .eql 140 140 false true (.slice none 0 0) (.slice none 0 0)=some (.bool true):=by kernel_rfl
theorem qN(K:Value→Prop):lZ prog .eql 140 140 false true (.slice none 0 0) (.slice none 0 0) K=oX (.bool true) K:=by
 show kU (lK prog .eql 140 140 false true (.slice none 0 0) (.slice none 0 0)) K=_
 rw[a1h]
 rfl
theorem b1K(v:Value)(xs:List Ct)(hv:Sl 2 mD H v xs)(hl:xs.length<100000000):Fn prog 97 [v] H fun r H'=>St prog H H' [⟨r,2,xs.flatMap mD⟩]:=by
 rcases hv.rd with⟨rfl,h2⟩|⟨A,i,e,row,ty,rw',lo,ver,m,_,_,_,_,_,_,hvv⟩
 ·have hx:xs=[]:=by
   have:=congrArg List.length h2
   rw[show(xs.flatMap mD).length=xs.length*2 from jF (n:=2) (cel:=mD) (fun _=>rfl) xs,dV]at this
   exact eR.1 (by omega)
  subst hx
  refine .aL func97 rfl (by kernel_rfl) (m:=8) rfl fun l hn g0=> ?_
  have hbe:=qN
  simp(disch:=omega) only[↓RA,RB,simprocAttr,hn,g0,qN]
  have hS1:=(sR H).nil 1
  simp only[RT]at hS1
  simp(disch:=omega) only[RB,simprocAttr,hn,c8R]
  exact hS1
 ·refine .aL func97 rfl (by kernel_rfl) (m:=8) rfl fun l hn g0=> ?_
  simp(disch:=omega) only[↓RA,RB,simprocAttr,hn,g0,wS hvv]
  refine(sR H).ba vU fun w1 H1 hS1=> ?_
  simp only[RT]at hS1
  simp(disch:=omega) only[↓RA,RZ,simprocAttr,hn,g0]
  refine hS1.al 0 rfl (hS1.sl hv).rd vU (by rw[show(xs.flatMap mD).length=xs.length*2 from jF (n:=2) (cel:=mD) (fun _=>rfl) xs];simp;omega) fun w2 H2 hS2=> ?_
  simp only[RT]at hS2
  simp(disch:=omega) only[↓RA,RB,simprocAttr,hn,c8R]
  exact hS2
end Go.Ds
namespace Go.Ds
open Go.Proofs
set_option maxRecDepth 10000
section
variable {o:Org} {b:Nat→Nat} {l:List Ct}
end
theorem c6h(a:Int):vB a=if a%18446744073709551616≥9223372036854775808 then a%18446744073709551616-18446744073709551616 else a%18446744073709551616:=by
 show IntKind.wrap .i64 a=_
 unfold IntKind.wrap
 simp[IntKind.bits,IntKind.signed]
theorem a3C{a:Int}(h1: -9223372036854775808≤a)(h2:a<9223372036854775808):vB a=a:=by
 rw[c6h]
 split<;>omega
end Go.Ds
namespace Go.Ds
open Go.Proofs
variable {H:Heap}
set_option maxRecDepth 10000
set_option maxHeartbeats 1000000
end Go.Ds
namespace Go.Ds
open Go.Proofs
set_option maxRecDepth 10000
end Go.Ds
namespace Go.Ds
open Go.Proofs
variable {H:Heap}
set_option maxRecDepth 10000
set_option maxHeartbeats 1000000
structure Kv where
 v:Value
 l:List Nt
 deriving Inhabited
def Kv.cells(k:Kv):List Value:=[k.v]
def Kv.In(H:Heap)(k:Kv):Prop:=Ks H k.v k.l
theorem Kv.In.ag{P:Program}{H':Heap}{k:Kv}{os:List Ob}(h:k.In H)(hS:St P H H' os):k.In H':=Ks.ag h hS
end Go.Ds
namespace Go.Ds
open Go.Proofs
set_option maxRecDepth 10000
end Go.Ds
namespace Go.Ds
open Go.Proofs
variable {H:Heap}
set_option maxRecDepth 10000
set_option maxHeartbeats 1000000
theorem b9Q{o:Org}{c:Ct}(h:c∈pP o):nJ o c=true:=by
 unfold pP at h
 obtain⟨i,hi,h⟩:=fp.1 h
 obtain⟨k,hk,rfl⟩:=dX.1 h
 have h1:=dY.1 hi
 have h2:=dY.1 hk
 rw[lQ]
 simp only[eT]
 omega
theorem b8Y{o:Org}{c:Ct}(h:nJ o c=true):c∈pP o:=by
 rw[lQ]at h
 unfold pP
 refine fp.2 ⟨c.1.toNat,dY.2 (by omega),dX.2 ⟨(c.2-(jB o.dvs c.1.toNat).lo).toNat,dY.2 (by omega),?_⟩⟩
 apply iz
 ·simp;omega
 ·simp;omega
theorem c1r{o:Org}(hf:o.Fine){i k:Nat}(hi:i<o.dvs.length)(hk:k≤zL o i):(vN o i k).length≤1024:=by
 have h1:=b8F hf
 by_cases hkk:k<zL o i
 ·obtain⟨e,he⟩:=b1h o (i:=i) (k:=k) (by omega) hkk
  rw[he,dH]at h1
  omega
 ·have hk2:k=zL o i:=by omega
  rw[hk2,a1W]
  obtain⟨t,ht⟩:∃t,List.range o.dvs.length=List.range (i+1)++t:=⟨(List.range o.dvs.length).drop (i+1),by rw[show List.range (i+1)=(List.range o.dvs.length).take (i+1)from by rw[List.take_range,gV (by omega)],gx]⟩
  unfold pP at h1
  rw[ht,dP,dH]at h1
  omega
end Go.Ds
namespace Go.Ds
open Go.Proofs
set_option maxRecDepth 10000
def Nx(s:Sn)(c x:Ct):Prop:=∃i:Nat,i<s.o.cpls.length∧ldB s i c false=true∧nA s i c=x
theorem b5g(o:Org):(pP o).Pairwise ltP:=zK (fun i=>by
 unfold sQ
 rw[gr]
 exact(List.pairwise_lt_range).imp fun h=>.inr ⟨rfl,by simpa using h⟩) (fun i c hc=>by
  unfold sQ at hc
  obtain⟨k,_,rfl⟩:=dX.1 hc
  rfl) _
theorem b7A{l:List Ct}(h:l.Pairwise ltP):l.Nodup:=h.imp fun{a b}hab e=>by rw[e]at hab;exact b3s hab
inductive RN(s:Sn):Nat→Ct→Prop
 | zero {c:Ct} (h:nJ s.o c=true) (hs:mT s c≠[]):RN s 0 c
 | succ {n:Nat} {c x:Ct} (h:nJ s.o c=true) (hx:Nx s c x) (hr:RN s n x):RN s (n+1) c
theorem RN.ok{s:Sn}{n:Nat}{c:Ct}(h:RN s n c):nJ s.o c=true:=by cases h<;>assumption
def Far(s:Sn)(c:Ct)(n:Nat):Prop:=RN s n c∧∀m,RN s m c→n≤m
theorem Far.uniq{s:Sn}{c:Ct}{n m:Nat}(h:Far s c n)(k:Far s c m):n=m:=Nat.le_antisymm (h.2 _ k.1) (k.2 _ h.1)
def frm(x:Cpl)(c:Ct):Ct:=(x.src,vB (c.2-x.shift))
def rH(L:List (Ct×Nat))(t:Ct):Option Nat:=(L.find? fun e=>decide (e.1=t)).map (·.2)
def sL(s:Sn)(c:Ct)(i:Nat):Bool:=
 decide ((jB s.o.cpls i).dst=c.1)&&nJ s.o (frm (jB s.o.cpls i) c)&&ldB s i (frm (jB s.o.cpls i) c) false&&decide (nA s i (frm (jB s.o.cpls i) c)=c)
def vZ(s:Sn)(c:Ct×Nat)(L:List (Ct×Nat))(i:Nat):List (Ct×Nat):=
 if sL s c.1 i&& !decide (frm (jB s.o.cpls i) c.1∈L.map (·.1))then L++[(frm (jB s.o.cpls i) c.1,c.2+1)]else L
def mW(s:Sn)(c:Ct×Nat)(L:List (Ct×Nat))(n:Nat):List (Ct×Nat):=(List.range n).foldl (vZ s c) L
theorem a2d(s:Sn)(c:Ct×Nat)(L:List (Ct×Nat))(n:Nat):mW s c L (n+1)=vZ s c (mW s c L n) n:=by
 unfold mW
 rw[eV,gY]
 rfl
def a4G(s:Sn):Nat→Nat→List (Ct×Nat)→List (Ct×Nat)
 | 0,_,L=>L
 | n+1,h,L=>if h<L.length then a4G s n (h+1) (mW s (jB L h) L s.o.cpls.length)else L
def tD(s:Sn)(l:List Ct):List (Ct×Nat):=(l.filter fun c=>decide (mT s c≠[])).map fun c=>(c,0)
def rY(s:Sn):List (Ct×Nat):=a4G s 1100 0 (tD s (pP s.o))
theorem a1F{L:List (Ct×Nat)}{t:Ct}:rH L t=none↔t∉L.map (·.1):=by
 unfold rH
 rw[Option.map_eq_none_iff,gO]
 simp only[decide_eq_true_eq,dX,not_exists,not_and]
theorem b8g{L M:List (Ct×Nat)}{t:Ct}:rH (L++M) t=(rH L t).or (rH M t):=by
 unfold rH
 rw[List.find?_append]
 cases L.find? fun e=>decide (e.1=t)<;>simp
theorem b7V{c t:Ct}{n:Nat}:rH [(c,n)] t=if c=t then some n else none:=by
 unfold rH
 by_cases h:c=t
 ·rw[if_pos h];simp[h]
 ·rw[if_neg h];simp[h]
theorem a0n{L:List (Ct×Nat)}(hn:(L.map (·.1)).Nodup){t:Ct}{n:Nat}:rH L t=some n↔(t,n)∈L:=by
 unfold rH
 constructor
 ·intro h
  obtain⟨e,he,h2⟩:=dJ.1 h
  have h3:=List.find?_some he
  have h4:=gU he
  obtain⟨a,b⟩:=e
  simp only[decide_eq_true_eq]at h3
  simp only at h2
  rw[←h3,←h2]
  exact h4
 ·intro h
  induction L with
  | nil=>cases h
  | cons e L ih=>
    rw[eK,iP]at hn
    rw[List.find?_cons]
    rcases eJ.1 h with h|h
    ·subst h;simp
    ·have hne:decide (e.1=t)=false:=by
      rw[decide_eq_false_iff_not]
      intro e1
      exact hn.1 (dX.2 ⟨(t,n),h,e1.symm⟩)
     rw[hne]
     exact ih hn.2 h
structure Bf(s:Sn)(h:Nat)(L:List (Ct×Nat)):Prop where
 nd:(L.map (·.1)).Nodup
 ok:∀e∈L,nJ s.o e.1=true
 far:∀e∈L,Far s e.1 e.2
 zero:∀c,RN s 0 c→c∈L.map (·.1)
 srt:∀i j,i<j→j<L.length→(jB L i).2≤(jB L j).2
 hi:∀i,i<L.length→h<L.length→(jB L i).2≤(jB L h).2+1
 lt:∀j,j<L.length→(jB L j).2≤j
 done:∀j,j<h→j<L.length→∀c,nJ s.o c=true→Nx s c (jB L j).1→c∈L.map (·.1)
theorem rC{α:Type}[Inhabited α](q t:List α){j:Nat}(h:j<q.length):jB (q++t) j=jB q j:=by
 rw[kN _ _ (by simp;omega),kN _ _ h,List.getElem_append_left h]
theorem a3c{α:Type}[Inhabited α](q:List α)(x:α):jB (q++[x]) q.length=x:=by
 rw[kN _ _ (by simp)]
 simp
theorem b0a{L:List (Ct×Nat)}{c:Ct}(h:c∈L.map (·.1)):∃j,j<L.length∧(jB L j).1=c:=by
 obtain⟨e,he,rfl⟩:=dX.1 h
 obtain⟨j,hj,rfl⟩:=eM.1 he
 exact⟨j,hj,by rw[kN _ _ hj]⟩
theorem Bf.da{s:Sn}{h:Nat}{L:List (Ct×Nat)}(b:Bf s h L)(hh:h<L.length):∀k c,RN s k c→k≤(jB L h).2→c∈L.map (·.1)
 | 0,c,hr,_=>b.zero c hr
 | k+1,c,hr,hk=>by
   cases hr with
   | succ ho hx hr'=>
     rename_i x
     have hxm:=b.da hh k x hr' (by omega)
     obtain⟨j,hj,rfl⟩:=b0a hxm
     have hf:=(b.far _ (jE hj)).2 _ hr'
     refine b.done j ?_ hj c ho hx
     rcases il j h with h1|h1
     ·exact h1
     ·exfalso
      rcases iU h1 with h2|h2
      ·have:=b.srt h j h2 hj
       omega
      ·subst h2
       omega
theorem b9D{s:Sn}{c y:Ct}{i:Nat}(hi:i<s.o.cpls.length)(hf:s.Fit)(hy:nJ s.o y=true):sL s c i=true∧frm (jB s.o.cpls i) c=y↔nJ s.o c=true∧ldB s i y false=true∧nA s i y=c:=by
 have hc:=Org.bp hf.o hi
 constructor
 ·rintro⟨hb,rfl⟩
  unfold sL at hb
  simp only[dB,decide_eq_true_eq]at hb
  obtain⟨⟨⟨h1,h2⟩,h3⟩,h4⟩:=hb
  refine⟨?_,h3,h4⟩
  have h5:=a0R.1 h3
  rw[←h4,nA,if_pos h5.1,lQ]
  simp only[eT]at h5 ⊢
  exact⟨hc.2.1.1,hc.2.1.2,h5.2.2.2.1,h5.2.2.2.2⟩
 ·rintro⟨h1,h2,h3⟩
  have h5:=a0R.1 h2
  have h6:=(lQ s.o y).1 hy
  have hk:=hf.aP.keys y.1.toNat (by omega)
  rw[nA,if_pos h5.1]at h3
  simp only[eT]at h5 h3
  have e:frm (jB s.o.cpls i) c=y:=by
   unfold frm
   rw[←h3]
   apply iz
   ·exact h5.2.1
   ·show vB (vB (y.2+(jB s.o.cpls i).shift)-(jB s.o.cpls i).shift)=y.2
    rw[a3C (a:=y.2+(jB s.o.cpls i).shift) (by omega) (by omega),a3C (by omega) (by omega)]
    omega
  refine⟨?_,e⟩
  unfold sL
  rw[e]
  simp only[dB,decide_eq_true_eq]
  refine⟨⟨⟨?_,hy⟩,h2⟩,?_⟩
  ·rw[←h3];rfl
  ·rw[nA,if_pos h5.1,eT];exact h3
structure Bg(s:Sn)(h:Nat)(c:Ct×Nat)(L:List (Ct×Nat))(n:Nat):Prop where
 bf:Bf s h L
 hh:h<L.length
 hc:jB L h=c
 dn:∀i,i<n→∀y,nJ s.o y=true→sL s c.1 i=true→frm (jB s.o.cpls i) c.1=y→y∈L.map (·.1)
theorem Bg.succ{s:Sn}{h:Nat}{c:Ct×Nat}{L:List (Ct×Nat)}{n:Nat}(hf:s.Fit)(hn:n<s.o.cpls.length)(b:Bg s h c L n):Bg s h c (vZ s c L n) (n+1):=by
 unfold vZ
 split
 ·rename_i hb
  simp only[dB,eN,decide_eq_false_iff_not]at hb
  obtain⟨hb1,hb2⟩:=hb
  have hy:nJ s.o (frm (jB s.o.cpls n) c.1)=true:=by
   unfold sL at hb1
   simp only[dB,decide_eq_true_eq]at hb1
   exact hb1.1.1.2
  obtain⟨_,h2,h3⟩:=(b9D hn hf hy).1 ⟨hb1,rfl⟩
  have hcm:c∈L:=by rw[←b.hc];exact jE b.hh
  have hfc:=b.bf.far c hcm
  have hfy:Far s (frm (jB s.o.cpls n) c.1) (c.2+1):=by
   refine⟨.succ hy ⟨n,hn,h2,h3⟩ hfc.1,fun m hm=> ?_⟩
   rcases il c.2 m with h4|h4
   ·exact h4
   ·exact absurd (b.bf.da b.hh m _ hm (by rw[b.hc];exact h4)) hb2
  have hlen:(L++[(frm (jB s.o.cpls n) c.1,c.2+1)]).length=L.length+1:=by simp
  refine⟨⟨?_,?_,?_,?_,?_,?_,?_,?_⟩,by have:=b.hh;omega,by rw[rC _ _ b.hh];exact b.hc,?_⟩
  ·rw[ec,List.nodup_append]
   refine⟨b.bf.nd,by simp,fun x hx y hy e=> ?_⟩
   rw[eK,gn,dZ]at hy
   rw[e,hy]at hx
   exact hb2 hx
  ·intro e he
   rcases eo.1 he with he|he
   ·exact b.bf.ok e he
   ·rw[dZ.1 he];exact hy
  ·intro e he
   rcases eo.1 he with he|he
   ·exact b.bf.far e he
   ·rw[dZ.1 he];exact hfy
  ·intro x hx
   rw[ec]
   exact List.mem_append_left _ (b.bf.zero x hx)
  ·intro i j hij hj
   rcases iU (show j≤L.length by omega)with h4|h4
   ·rw[rC _ _ h4,rC _ _ (by omega)]
    exact b.bf.srt i j hij h4
   ·rw[h4,a3c,rC _ _ (by omega)]
    have:=b.bf.hi i (by omega) b.hh
    rw[b.hc]at this
    exact this
  ·intro i hi hh2
   rw[rC _ _ b.hh,b.hc]
   rcases iU (show i≤L.length by omega)with h4|h4
   ·rw[rC _ _ h4]
    have:=b.bf.hi i h4 b.hh
    rw[b.hc]at this
    exact this
   ·rw[h4,a3c]
    exact dG _
  ·intro j hj
   rcases iU (show j≤L.length by omega)with h4|h4
   ·rw[rC _ _ h4];exact b.bf.lt j h4
   ·rw[h4,a3c]
    have:=b.bf.lt h b.hh
    have:=b.hh
    rw[b.hc]at*
    show c.2+1≤_
    omega
  ·intro j hj hjl y hy1 hy2
   have hjL:j<L.length:=by have:=b.hh;omega
   rw[rC _ _ hjL]at hy2
   rw[ec]
   exact List.mem_append_left _ (b.bf.done j hj hjL y hy1 hy2)
  ·intro i hi y hy1 hy2 hy3
   rw[ec]
   rcases dN.1 hi with h4|h4
   ·exact List.mem_append_left _ (b.dn i h4 y hy1 hy2 hy3)
   ·subst h4
    refine gR _ ?_
    rw[eK,gn,dZ]
    exact hy3.symm
 ·rename_i hb
  refine⟨b.bf,b.hh,b.hc,fun i hi y hy1 hy2 hy3=> ?_⟩
  rcases dN.1 hi with h4|h4
  ·exact b.dn i h4 y hy1 hy2 hy3
  ·subst h4
   rw[←hy3]
   apply fC
   intro hne
   exact hb (by rw[hy2];simpa using hne)
theorem Bg.all{s:Sn}{h:Nat}{L:List (Ct×Nat)}(hf:s.Fit)(b:Bf s h L)(hh:h<L.length):∀n,n≤s.o.cpls.length→Bg s h (jB L h) (mW s (jB L h) L n) n
 | 0,_=>⟨b,hh,rfl,fun i hi=>absurd hi (ez _)⟩
 | n+1,hn=>by
   rw[a2d]
   exact(Bg.all hf b hh n (by omega)).succ hf (by omega)
theorem Bf.next{s:Sn}{h:Nat}{L:List (Ct×Nat)}(hf:s.Fit)(b:Bf s h L)(hh:h<L.length):Bf s (h+1) (mW s (jB L h) L s.o.cpls.length):=by
 have g:=Bg.all hf b hh s.o.cpls.length (dG _)
 generalize mW s (jB L h) L s.o.cpls.length=M at g
 refine⟨g.bf.nd,g.bf.ok,g.bf.far,g.bf.zero,g.bf.srt,fun i hi hh2=> ?_,g.bf.lt,fun j hj hjl y hy1 hy2=> ?_⟩
 ·have h1:=g.bf.hi i hi g.hh
  have h2:=g.bf.srt h (h+1) (by omega) hh2
  omega
 ·rcases dN.1 hj with h4|h4
  ·exact g.bf.done j h4 hjl y hy1 hy2
  ·subst h4
   rw[g.hc]at hy2
   obtain⟨i,hi,h5,h6⟩:=hy2
   have hcm:jB L j∈M:=by rw[←g.hc];exact jE g.hh
   obtain⟨h7,h8⟩:=(b9D hi hf hy1).2 ⟨g.bf.ok _ hcm,h5,h6⟩
   exact g.dn i hi y hy1 h7 h8
theorem Bf.len{s:Sn}{h:Nat}{L:List (Ct×Nat)}(hf:s.Fit)(b:Bf s h L):L.length≤1024:=by
 have:Que s.o (L.map (·.1)):=⟨b.nd,fun c hc=>by
  obtain⟨e,he,rfl⟩:=dX.1 hc
  exact b.ok e he⟩
 have:=this.len hf.aP
 rw[dU]at this
 exact this
theorem a7b{s:Sn}(hf:s.Fit):∀n h L,Bf s h L→1025≤n+h→∃k,Bf s k (a4G s n h L)∧(a4G s n h L).length≤k
 | 0,h,L,b,hn=>⟨h,b,by have:=b.len hf;unfold a4G;omega⟩
 | n+1,h,L,b,hn=>by
   unfold a4G
   split
   ·rename_i hh
    exact a7b hf n (h+1) _ (b.next hf hh) (by omega)
   ·exact⟨h,b,by omega⟩
theorem a6w{s:Sn}:Bf s 0 (tD s (pP s.o)):=by
 have hm:(tD s (pP s.o)).map (·.1)=(pP s.o).filter fun c=>decide (mT s c≠[]):=by
  unfold tD
  rw[iE]
  exact List.map_id _
 have h0:∀e∈tD s (pP s.o),e.2=0∧nJ s.o e.1=true∧mT s e.1≠[]:=by
  intro e he
  obtain⟨c,hc,rfl⟩:=dX.1 he
  have:=fW.1 hc
  exact⟨rfl,b9Q this.1,by simpa using this.2⟩
 have h1:∀i,i<(tD s (pP s.o)).length→(jB (tD s (pP s.o)) i).2=0:=fun i hi=>(h0 _ (jE hi)).1
 refine⟨?_,fun e he=>(h0 e he).2.1,fun e he=> ?_,fun c hc=> ?_,fun i j hij hj=> ?_,fun i hi hh=> ?_,fun j hj=> ?_,fun j hj=>absurd hj (ez _)⟩
 ·rw[hm]
  exact(b7A (b5g s.o)).filter _
 ·obtain⟨h2,h3,h4⟩:=h0 e he
  rw[h2]
  exact⟨.zero h3 h4,fun m _=>fu _⟩
 ·rw[hm]
  cases hc with
  | zero h2 h3=>exact fW.2 ⟨b8Y h2,by simpa using h3⟩
 ·rw[h1 i (by omega),h1 j hj];exact dG _
 ·rw[h1 i hi];omega
 ·rw[h1 j hj];omega
theorem a7m{s:Sn}(hf:s.Fit):((rY s).map (·.1)).Nodup∧(∀e∈rY s,nJ s.o e.1=true∧Far s e.1 e.2)∧(∀n c,RN s n c→∃m,rH (rY s) c=some m∧Far s c m)∧(rY s).length≤1024:=by
 obtain⟨k,b,hk⟩:=a7b hf 1100 0 _ a6w (by decide)
 have hl:=b.len hf
 refine⟨b.nd,fun e he=>⟨b.ok e he,b.far e he⟩,fun n c hr=> ?_,hl⟩
 have hm:∀n c,RN s n c→c∈(a4G s 1100 0 (tD s (pP s.o))).map (·.1):=by
  intro n
  induction n with
  | zero=>exact b.zero
  | succ n ih=>
    intro c hr
    cases hr with
    | succ ho hx hr'=>
      obtain⟨j,hj,rfl⟩:=b0a (ih _ hr')
      exact b.done j (by omega) hj c ho hx
 obtain⟨e,he,rfl⟩:=dX.1 (hm n c hr)
 exact⟨e.2,(a0n b.nd).2 he,b.far e he⟩
theorem uF{s:Sn}(hf:s.Fit){c:Ct}{n:Nat}:rH (rY s) c=some n↔Far s c n:=by
 obtain⟨h1,h2,h3,_⟩:=a7m hf
 constructor
 ·intro h
  exact(h2 _ ((a0n h1).1 h)).2
 ·intro h
  obtain⟨m,hm,hfm⟩:=h3 n c h.1
  rw[hm,h.uniq hfm]
end Go.Ds
namespace Go.Ds
open Go.Proofs
variable {H:Heap}
set_option maxRecDepth 10000
set_option maxHeartbeats 1000000
structure Frs{α:Type}(n:Nat)(cel:α→List Value)(H:Heap)(v:Value)(xs:List α)(tl:List Value)(L:Nat):Prop where
 rd:RdAt H v n (xs.flatMap cel++tl)
 hc:∀x,(cel x).length=n
 pos:0<n
 hL:L=xs.length
theorem pV(v:Value)(n lo k j f:Nat):kR (lN v n lo k) n j f=kR v n (lo+j) f:=by
 unfold lN
 split
 ·simp only[kR,Value.pointer.injEq,ef,jj,true_and,and_true]
  rw[fU]
  omega
 ·rename_i h
  unfold kR
  split
  ·exact absurd rfl (h _ _ _ _ _)
  ·rfl
theorem a5P(v:Value)(n lo k lo2 k2:Nat):lN (lN v n lo k) n lo2 k2=lN v n (lo+lo2) k2:=by
 cases v with
 | slice a m c=>
   cases a with
   | none=>rfl
   | some a=>
     obtain⟨A,i,e⟩:=a
     simp only[lN,Value.slice.injEq,ef,jj,true_and,and_true]
     rw[fU]
     omega
 | _=>rfl
section
variable {P:Program} {α:Type} {n:Nat} {cel:α→List Value} {v:Value} {xs:List α} {tl:List Value} {L:Nat}
theorem Frs.sl(h:Frs n cel H v xs tl L):Sl n cel H (lN v n 0 L) xs:=by
 refine⟨?_,h.hc,h.pos⟩
 have hl:=jF h.hc xs
 rw[h.hL]
 by_cases h0:xs.flatMap cel++tl=[]
 ·have hx:xs.length=0:=by
   have:=congrArg List.length h0
   rw[dH,hl,dV]at this
   have h2:xs.length*n=0:=by omega
   rcases iQ.1 h2 with h3|h3
   ·exact h3
   ·have:=h.pos;omega
  obtain rfl:=eR.1 hx
  have hr:=h.rd
  rw[h0]at hr
  obtain⟨m,rfl⟩:∃m,n=m+1:=⟨n-1,by have:=h.pos;omega⟩
  have e:=RdAt.sub_self (n:=0) hr (by simp)
  show RdAt H (lN v (m+1) 0 0) (m+1) []
  rw[e]
  exact hr
 ·have h5:=RdAt.sub h.rd 0 xs.length (by rw[dH,hl];omega) h0
  rw[Nat.zero_mul,iy,←hl,List.take_left' rfl]at h5
  exact h5
theorem Frs.len(h:Frs n cel H v xs tl L)(m:Nat)(t:TypeId):a4P (some m) P H t (lN v n 0 L)=some (.int .i64 L):=by
 rw[h.sl.len m t,h.hL]
theorem Frs.idx(h:Frs n cel H v xs tl L)(t:TypeId)(k:IntKind)(j:Int)(h0:0≤j)(h1:j<xs.length):wI (some n) P t (lN v n 0 L) (.int k j)=some (kR v n j.toNat 0):=by
 rw[h.sl.idx t k j h0 h1,pV,fR]
theorem Frs.bd(h:Frs n cel H v xs tl L)(j:Nat)(hj:j<xs.length)(g d:Nat):a9i (some d) (kR v n j g)=some (kR v n j (g+d)):=by
 have:=h.sl.bd j hj g d
 rwa [pV,pV,fR]at this
theorem Frs.ld[Inhabited α](h:Frs n cel H v xs tl L)(s:Option Nat)(j f:Nat)(hj:j<xs.length)(hf:f<n):oU (some false) s H (kR v n j f)=(cel (jB xs j))[f]?:=by
 have:=h.sl.ld s j f hj hf
 rwa [pV,fR]at this
theorem Frs.aj[Inhabited α](h:Frs n cel H v xs tl L)(j:Nat)(hj:j<xs.length):oU (some true) (some n) H (kR v n j 0)=some (.agg (cel (jB xs j)).toArray):=by
 have:=h.sl.aj j hj
 rwa [pV,fR]at this
theorem Frs.aH(h:Frs n cel H v xs tl L)(o:Oper)(l:List Value)(H':Heap)(k:IntKind)(a:Int)(K:Value→Heap→Prop)(h0:0<xs.length)(h1:0≤a)(h2:a≤xs.length):
 pM P o l H' (some n) (lN v n 0 L) (some (.int k a)) none K=oX (lN v n a.toNat (L-a).toNat) fun v=>K v H':=by
 rw[h.sl.aH o l H' k a K h0 h1 h2,a5P,fR,h.hL]
theorem Frs.aO(h:Frs n cel H v xs tl L)(o:Oper)(l:List Value)(H':Heap)(k:IntKind)(a:Int)(K:Value→Heap→Prop)(h0:0<xs.length)(h1:0≤a)(h2:a≤xs.length):
 pM P o l H' (some n) (lN v n 0 L) none (some (.int k a)) K=oX (lN v n 0 a.toNat) fun v=>K v H':=by
 rw[h.sl.aO o l H' k a K h0 h1 h2,a5P,fR]
theorem Frs.cells(h:Frs n cel H v xs tl L):(lN v n 0 L).cells=#[lN v n 0 L]∧oneCell (lN v n 0 L)=true∧nB (lN v n 0 L)=true:=h.sl.cells
end
end Go.Ds
namespace Go.Ds
open Go
section
variable {P:Program} {H:Heap}
theorem SWr.mono:∀(c:Code){l:List Value}{H:Heap}{M Q:oM},(∀e l H,M e l H→Q e l H)→SWr P c l H M→SWr P c l H Q:=by
 intro c
 induction c with
 | skip=>intro l H M Q hm h;exact hm _ _ _ h
 | label t=>intro l H M Q hm h;exact hm _ _ _ h
 | exit id=>intro l H M Q hm h;exact hm _ _ _ h
 | ret=>intro l H M Q hm h;exact hm _ _ _ h
 | seq a b iha ihb=>
   intro l H M Q hm h
   refine iha ?_ h
   intro e l1 H1 h1
   cases e with
   | normal=>exact ihb hm h1
   | exit i=>exact hm _ _ _ h1
   | ret=>exact hm _ _ _ h1
 | block id b ih=>
   intro l H M Q hm h
   exact ih (fun e l1 H1 h1=>hm _ _ _ h1) h
 | cond c x y ihx ihy=>
   intro l H M Q hm h
   cases c with
   | tmp t=>exact zO h (ihx hm) (ihy hm)
   | _=>exact Wp.mono h hm
 | region id ops d=>
   intro l H M Q hm h
   cases d with
   | true=>exact Wp.mono h hm
   | false=>exact a1I (fun l H h=>hm _ _ _ h) _ _ _ h
 | _=>intro l H M Q hm h;exact Wp.mono h hm
def a7F(I:List Value→Heap→Prop)(Q:oM):oM:=fun e l1 H1=>match e with|.normal=>I l1 H1|e=>Q e l1 H1
theorem jQ(I:List Value→Heap→Prop)(Q:oM)(l:List Value):a7F I Q .normal l H=I l H:=rfl
theorem b8r(I:List Value→Heap→Prop)(Q:oM)(l:List Value):a7F I Q .ret l H=Q .ret l H:=rfl
theorem zS{v:Value}{x y:Code}{l:List Value}{Q:oM}(I:List Value→Heap→Prop)(hm:∀l H,I l H→Q .normal l H)(h:rQ v (SW P x l H (a7F I Q)) (SW P y l H (a7F I Q))):rQ v (SW P x l H Q) (SW P y l H Q):=by
 have hc:∀e l H,a7F I Q e l H→Q e l H:=fun e l H h=>by
  cases e with
  | normal=>exact hm _ _ h
  | exit i=>exact h
  | ret=>exact h
 exact zO h (SWr.mono x hc) (SWr.mono y hc)
end
end Go.Ds
namespace Go.Ds
noncomputable section
variable {P:Program} {H0:Base} {H:Heap} {os:List Ob} {κ β:Type} [DecidableEq κ] {enc:κ→Value} {f:β→Value} {z:Value} {t:TypeId}
theorem St.aW{o:Ob}(h:OwnAt P H o):St P ⟨H,qX [o]⟩ H [o] where
 len:=dG _
 old:=fun _ _ _=>rfl
 own:=fun x hx=>by rw[dZ.1 hx];exact h
 new:=fun x hx B hB=>.inr ⟨x,hx,hB⟩
 sep:=List.pairwise_singleton _ _
theorem OwnAt.st{H0:Heap}{o:Ob}(h:OwnAt P H0 o)(hS:St P H0 H os):OwnAt P H o:=h.ag fun B hB=>hS.ag B (h.lt hB)
end
end Go.Ds
namespace Go.Ds
open Go.Proofs
variable {H:Heap}
set_option maxRecDepth 10000
set_option maxHeartbeats 1000000
abbrev KN(kvs:List (Ct×Int)):List Value:=kcs (fun p:Int×Int=>.agg #[I p.1,I p.2]) I kvs
structure Gn where
 c:Ct
 w:Value
 l:List Ct
 tl:List Value
 deriving Inhabited
abbrev Gn.v(g:Gn):Value:=lN g.w 2 0 g.l.length
def Gn.cells(g:Gn):List Value:=[I g.c.1,I g.c.2,g.v]
def Gn.row(g:Gn):Ob:=⟨g.w,2,pr g.l++g.tl⟩
def Gn.key(g:Gn):Ct×List Ct:=(g.c,g.l)
end Go.Ds
namespace Go.Ds
open Go.Proofs Go.Proofs.Tryz
variable {H:Heap}
set_option maxRecDepth 10000
set_option maxHeartbeats 1000000
def MapD(kvs:List (Ct×Int))(L:List (Ct×Nat)):Prop:=∀t,yD kvs t=(rH L t).map fun(n:Nat)=>(n:Int)
theorem MapD.put{kvs:List (Ct×Int)}{L:List (Ct×Nat)}(h:MapD kvs L){c:Ct}{n:Nat}(hn:c∉L.map (·.1)):MapD (a4K kvs c (n:Int)) (L++[(c,n)]):=by
 intro t
 rw[a9C,b8g,b7V]
 by_cases e:t=c
 ·rw[if_pos e,e,a1F.2 hn,if_pos rfl]
  rfl
 ·rw[if_neg e,if_neg fun h=>e h.symm,h t]
  simp
theorem a0G(s:Sn)(l:List Ct)(c:Ct):tD s (l++[c])=tD s l++(if mT s c≠[]then[(c,0)]else[]):=by
 unfold tD
 rw[fM,ec]
 congr 1
 by_cases h:mT s c≠[]
 ·rw[if_pos h];simp[h]
 ·rw[if_neg h];simp[h]
theorem a7Q(s:Sn)(l:List Ct):(tD s l).map (·.1)=l.filter fun c=>decide (mT s c≠[]):=by
 unfold tD
 rw[iE]
 exact List.map_id _
theorem c0b(l:List Ct)(h:Nat):(pr (l.drop h)).drop (1*2)=pr (l.drop (h+1)):=by
 rw[←gb]
 cases l.drop h<;>rfl
theorem b6U{o:Org}{i k:Nat}:((i:Int),(jB o.dvs i).lo+(k:Int))∉vN o i k:=by
 unfold vN
 intro h
 rcases eo.1 h with h|h
 ·obtain⟨j,hj,h⟩:=fp.1 h
  unfold sQ at h
  obtain⟨q,_,e⟩:=dX.1 h
  have h1:=dY.1 hj
  have h2:(j:Int)=(i:Int):=congrArg Prod.fst e
  omega
 ·obtain⟨q,hq,e⟩:=dX.1 h
  have h1:=dY.1 hq
  have h2:(jB o.dvs i).lo+(q:Int)=(jB o.dvs i).lo+(k:Int):=congrArg Prod.snd e
  omega
theorem a5E{s:Sn}{c:Ct}{i:Nat}(h:nJ s.o (frm (jB s.o.cpls i) c)=false):sL s c i=false:=by
 unfold sL
 rw[h]
 simp
theorem rF{s:Sn}{c:Ct×Nat}{L:List (Ct×Nat)}{i:Nat}(h:sL s c.1 i=false):vZ s c L i=L:=by
 unfold vZ
 rw[h]
 rfl
theorem a0m(s:Sn)(hs:s.In H)(hf:s.Fit):Fn prog 50 [s.v] H fun r H'=>∃(M:Nat)(kvs:List (Ct×Int)),r=.map (some M)∧MapD kvs (rY s)∧St prog H H' [⟨.map (some M),0,KN kvs⟩]:=by
 have hfi:=hf.aP
 have hd8:=hfi.dlen
 have hc40:=hfi.clen
 refine .aL func50 rfl (by kernel_rfl) (m:=138) rfl fun l hn g0=> ?_
 have hfl:flat (Value.map none)=true:=rfl
 simp(disch:=omega) only[↓RA,RB,simprocAttr,g0]
 refine(sR H).eNew 10 [(.string s.o.name),s.o.rv,s.o.dv,s.o.cv,s.sv,(.int .u64 s.rg.cpl),(.int .u64 s.rg.off),s.kv,I s.p.1,I s.p.2] rfl rfl (by simp[OC,((sR H).sl hs.o.1).cells.2.1,((sR H).sl hs.o.2.2.1).cells.2.1,((sR H).sl hs.o.2.2.2.2.1).cells.2.1,((sR H).sl hs.rg.1).cells.2.1,((sR H).sl hs.ks.sl).cells.2.1]) oI fun A1 H1 hS1=> ?_
 simp only[RT]at hS1
 simp(disch:=omega) only[↓RA,RB,simprocAttr,hfl]
 refine hS1.cj wX fun M1 H2 hS2=> ?_
 simp only[RT]at hS2
 simp(disch:=omega) only[↓RA,RZ,simprocAttr,hn,hS2.ld 0 rfl,(hS2.sl hs.o.2.2.1).len]
 have hS3:=hS2.nil 1
 simp only[RT]at hS3
 refine Wp.aq (fun n l H'=>l.length=138∧get l 1=(ptr A1 0 10)∧get l 2=(.map none)∧get l 3=(.map (some M1))∧get l 21=s.o.dv∧get l 22=I s.o.dvs.length∧∃(i:Nat)(kvs:List (Ct×Int))(ov:Value),(n+i=s.o.dvs.length∧MapD kvs (tD s ((List.range i).flatMap (sQ s.o))))∧get l 23=I i∧get l 4=ov∧St prog H H' [⟨ptr A1 0 10,0,[(.string s.o.name),s.o.rv,s.o.dv,s.o.cv,s.sv,(.int .u64 s.rg.cpl),(.int .u64 s.rg.off),s.kv,I s.p.1,I s.p.2]⟩,⟨.map (some M1),0,KN kvs⟩,⟨ov,2,pr ((tD s ((List.range i).flatMap (sQ s.o))).map (·.1))⟩]) s.o.dvs.length ?_ ?_
 ·simp(disch:=omega) only[RB,RC,simprocAttr,hn]
  exact⟨0,[],.slice none 0 0,⟨by omega,fun t=>rfl⟩,rfl,rfl,hS3⟩
 rintro n l H3⟨hn,g1,g2,g3,g21,g22,i,kvs,ov,⟨hi,hmd⟩,g23,g4,hS4⟩
 simp(disch:=omega) only[↓RA,RB,simprocAttr,hn,g22,g23]
 refine jA (fun q1=> ?_) (fun q1=> ?_)
 ·have hki:=hfi.keys i (by omega)
  have hcn:(zL s.o i:Int)=(jB s.o.dvs i).hi-(jB s.o.dvs i).lo+1:=by unfold zL;omega
  have hpre:vN s.o i 0=(List.range i).flatMap (sQ s.o):=by unfold vN;simp
  have hlen:=fun k=>c1r hfi (i:=i) (k:=k) (by omega)
  simp(disch:=omega) only[↓RA,RZ,simprocAttr,hn,g21,g23,(hS4.sl hs.o.2.2.1).idx,(hS4.sl hs.o.2.2.1).aj,Dvn.cells,q1]
  refine hS4.eNew 5 [(.string ⟨#[]⟩),(.bool false),I 0,I 0,(.slice none 0 0)] rfl rfl rfl qC fun A2 H4 hS5=> ?_
  simp only[RT]at hS5
  simp(disch:=omega) only[↓RA,RZ,simprocAttr,hn,q1]
  refine hS5.ab 3 rfl [(.string (jB s.o.dvs i).name),(.bool (jB s.o.dvs i).pedal),I (jB s.o.dvs i).lo,I (jB s.o.dvs i).hi,(jB s.o.dvs i).sv] rfl (by simp[OC,(hS5.sl (hs.o.2.2.2.1 (jB s.o.dvs i) (jE (by omega))).1).cells.2.1]) qC (by simp) fun H5 hS6=> ?_
  simp only[RT]at hS6
  simp(disch:=omega) only[↓RA,RZ,simprocAttr,hn,hS6.ld 3 rfl,q1]
  refine Wp.aq (fun n l H'=>l.length=138∧get l 1=(ptr A1 0 10)∧get l 2=(.map none)∧get l 3=(.map (some M1))∧get l 5=I i∧get l 6=(ptr A2 0 5)∧get l 21=s.o.dv∧get l 22=I s.o.dvs.length∧get l 23=I i∧∃(k:Nat)(kvt:List (Ct×Int))(ow:Value),(n+k=zL s.o i∧MapD kvt (tD s (vN s.o i k)))∧get l 7=I ((jB s.o.dvs i).lo+k)∧get l 4=ow∧St prog H H' [⟨ptr A1 0 10,0,[(.string s.o.name),s.o.rv,s.o.dv,s.o.cv,s.sv,(.int .u64 s.rg.cpl),(.int .u64 s.rg.off),s.kv,I s.p.1,I s.p.2]⟩,⟨.map (some M1),0,KN kvt⟩,⟨ow,2,pr ((tD s (vN s.o i k)).map (·.1))⟩,⟨ptr A2 0 5,0,[(.string (jB s.o.dvs i).name),(.bool (jB s.o.dvs i).pedal),I (jB s.o.dvs i).lo,I (jB s.o.dvs i).hi,(jB s.o.dvs i).sv]⟩]) (zL s.o i) ?_ ?_
  ·simp(disch:=omega) only[RB,RC,simprocAttr,hn,g1,g2,g3,g21,g22,g23,g4]
   refine⟨0,kvs,ov,⟨by omega,by rw[hpre];exact hmd⟩,by simp,rfl,?_⟩
   rw[hpre]
   exact hS6
  rintro n l H6⟨hn,g1,g2,g3,g5,g6,g21,g22,g23,k,kvt,ow,⟨hk,hmd2⟩,g7,g4,hS7⟩
  simp(disch:=omega) only[↓RA,RZ,simprocAttr,hn,g6,g7,hS7.ld 3 rfl]
  refine jA (fun q2=> ?_) (fun q2=> ?_)
  ·have hl:=hlen k (by omega)
   have hcx:nJ s.o ((i:Int),(jB s.o.dvs i).lo+(k:Int))=true:=by
    rw[lQ]
    simp only[eT]
    omega
   have hfs:vN s.o i (k+1)=vN s.o i k++[((i:Int),(jB s.o.dvs i).lo+(k:Int))]:=b6u s.o i k
   simp(disch:=omega) only[↓RA,RZ,simprocAttr,hn,g5,g7,a0u,q2]
   refine hS7.eNew 2 [I 0,I 0] rfl rfl rfl mM fun A3 H7 hS8=> ?_
   simp only[RT]at hS8
   simp(disch:=omega) only[↓RA,RZ,simprocAttr,hn,q2]
   refine hS8.ab 4 rfl [I i,I ((jB s.o.dvs i).lo+k)] rfl rfl mM (by simp) fun H8 hS9=> ?_
   simp only[RT]at hS9
   simp(disch:=omega) only[↓RA,RZ,simprocAttr,hn,g1,hS9.aj 0 rfl,hS9.aj 4 rfl,q2]
   refine jI ((wQ s (hs.ag hS9) hf ((i:Int),(jB s.o.dvs i).lo+(k:Int)) (zF hcx)).tr) ?_
   rintro r H9⟨-,hT1⟩
   have hS10:=hS9.trans hT1
   simp only[RT]at hS10
   obtain⟨sw,rfl⟩:∃w,w=r:=⟨r,rfl⟩
   simp(disch:=omega) only[↓RA,RZ,simprocAttr,hn,(hS10.av 5 rfl (fun _=>rfl)).len,q2]
   refine jA (fun q3=> ?_) (fun q3=> ?_)
   ·have hne:mT s ((i:Int),(jB s.o.dvs i).lo+(k:Int))≠[]:=by
     intro e
     rw[e]at q3
     simp at q3
    have hnm:((i:Int),(jB s.o.dvs i).lo+(k:Int))∉(tD s (vN s.o i k)).map (·.1):=by
     rw[a7Q]
     intro h
     exact b6U (fW.1 h).1
    have hroom:(pr ((tD s (vN s.o i k)).map (·.1))).length≤2048:=by
     rw[jN,a7Q]
     have:=fA (fun c=>decide (mT s c≠[])) (vN s.o i k)
     omega
    simp(disch:=omega) only[↓RA,RZ,simprocAttr,hn,g3,hS10.aj 4 rfl,q2,q3]
    refine hS10.cM (k:=((i:Int),(jB s.o.dvs i).lo+(k:Int))) 1 rfl wX fun H10 hS11=> ?_
    simp only[RT]at hS11
    simp(disch:=omega) only[↓RA,RZ,simprocAttr,hn,g4,hS11.aj 4 rfl,q2,q3]
    refine hS11.ai [I i,I ((jB s.o.dvs i).lo+k)] vU a7z rfl rfl (by simp[Value.cells]) rfl rfl (by decide) (by decide) fun w1 H11 hS12=> ?_
    simp only[RT]at hS12
    simp(disch:=omega) only[↓RA,RZ,simprocAttr,hn,q2,q3]
    refine hS12.al 2 rfl (hS12.rd 6 rfl) vU (by have h:=hroom;simp only[dS,dV];omega) fun w2 H12 hS13=> ?_
    simp only[RT]at hS13
    simp(disch:=omega) only[↓RA,RZ,simprocAttr,hn,g1,g2,g3,g5,g6,g21,g22,g23,g7,q2,q3]
    refine⟨n-1,by omega,k+1,a4K kvt ((i:Int),(jB s.o.dvs i).lo+(k:Int)) ((0:Nat):Int),w2,⟨by omega,?_⟩,by congr 1;omega,rfl,?_⟩
    ·rw[hfs,a0G,if_pos hne]
     exact hmd2.put hnm
    ·rw[hfs,a0G,if_pos hne,ec,mI]
     exact hS13.pick [0,1,2,3] (by decide) rfl
   have hno:mT s ((i:Int),(jB s.o.dvs i).lo+(k:Int))=[]:=by
    apply fC
    intro h
    have:=fI.2 h
    omega
   simp(disch:=omega) only[↓RA,RZ,simprocAttr,hn,g1,g2,g3,g5,g6,g21,g22,g23,g7,g4,q2,q3]
   refine⟨n-1,by omega,k+1,kvt,ow,⟨by omega,?_⟩,by congr 1;omega,rfl,?_⟩
   ·rw[hfs,a0G,if_neg (by simp[hno]),dQ]
    exact hmd2
   ·rw[hfs,a0G,if_neg (by simp[hno]),dQ]
    exact hS10.pick [0,1,2,3] (by decide) rfl
  simp(disch:=omega) only[↓RA,RZ,simprocAttr,hn,g1,g2,g3,g21,g22,g23,g4,q2]
  have hkk:k=zL s.o i:=by omega
  refine⟨s.o.dvs.length-(i+1),by omega,i+1,kvt,ow,⟨by omega,?_⟩,by simp,rfl,?_⟩
  ·rw[←a1W,←hkk]
   exact hmd2
  ·rw[←a1W,←hkk]
   exact hS7.pick [0,1,2] (by decide) rfl
 have hii:i=s.o.dvs.length:=by omega
 have hfz:tD s ((List.range i).flatMap (sQ s.o))=tD s (pP s.o):=by rw[hii];rfl
 rw[hfz]at hmd
 rw[hfz]at hS4
 simp(disch:=omega) only[↓RA,RC,simprocAttr,q1]
 refine Wp.aq (fun n l H'=>l.length=138∧get l 1=(ptr A1 0 10)∧get l 2=(.map none)∧get l 3=(.map (some M1))∧∃(h:Nat)(L:List (Ct×Nat))(kvu:List (Ct×Int))(ow:Value),(n+h=1100∧Bf s h L∧a4G s (1100-h) h L=rY s∧h≤L.length∧MapD kvu L)∧get l 4=ow∧St prog H H' [⟨ptr A1 0 10,0,[(.string s.o.name),s.o.rv,s.o.dv,s.o.cv,s.sv,(.int .u64 s.rg.cpl),(.int .u64 s.rg.off),s.kv,I s.p.1,I s.p.2]⟩,⟨.map (some M1),0,KN kvu⟩,⟨ow,2,pr ((L.map (·.1)).drop h)⟩]) 1100 ?_ ?_
 ·simp(disch:=omega) only[RB,RC,simprocAttr,hn,g1,g2,g3,g4]
  exact⟨0,tD s (pP s.o),kvs,ov,⟨by omega,a6w,rfl,fu _,hmd⟩,rfl,hS4⟩
 rintro n l H13⟨hn,g1,g2,g3,h,L,kvu,ow,⟨hn1,hB,hR,hle,hM⟩,g4,hS14⟩
 have hlq:((L.map (·.1)).drop h).length=L.length-h:=by simp
 simp(disch:=omega) only[↓RA,RZ,simprocAttr,hn,g4,(hS14.av 2 rfl lB).len]
 refine jA (fun q1=> ?_) (fun q1=> ?_)
 ·have hhl:h<L.length:=by omega
  have hlL:=hB.len hf
  obtain⟨c,hcE⟩:∃c,jB L h=c:=⟨_,rfl⟩
  have hx0:jB ((L.map (·.1)).drop h) 0=c.1:=by
   rw[kN _ _ (by omega),List.getElem_drop,jg,←kN _ _ (by omega:h+0<L.length),iD,hcE]
  have hcl:c.2≤h:=by rw[←hcE];exact hB.lt h hhl
  have hdq:(pr ((L.map (·.1)).drop h)).drop (1*2)=pr ((L.map (·.1)).drop (h+1)):=c0b _ _
  simp(disch:=omega) only[↓RA,RZ,simprocAttr,hn,g4,(hS14.av 2 rfl lB).idx,(hS14.av 2 rfl lB).aj,mD,q1,hx0]
  refine hS14.eNew 2 [I 0,I 0] rfl rfl rfl mM fun A4 H14 hS15=> ?_
  simp only[RT]at hS15
  simp(disch:=omega) only[↓RA,RZ,simprocAttr,hn,q1]
  refine hS15.ab 3 rfl [I c.1.1,I c.1.2] rfl rfl mM (by simp) fun H15 hS16=> ?_
  simp only[RT]at hS16
  simp(disch:=omega) only[↓RA,RZ,simprocAttr,hn,g1,g4,(hS16.av 2 rfl lB).aH,q1]
  have hS17:=hS16.suffix (size:=1) 2 rfl (n:=((L.map (·.1)).drop h).length) (by rw[jN]) 1 (by omega) (by omega)
  simp only[RT]at hS17
  rw[hdq]at hS17
  simp(disch:=omega) only[↓RA,RZ,simprocAttr,hn,hS17.ld 0 rfl,(hS17.sl hs.o.2.2.2.2.1).len,q1]
  refine Wp.aq (fun n l H'=>l.length=138∧get l 1=(ptr A1 0 10)∧get l 2=(.map none)∧get l 3=(.map (some M1))∧get l 9=(ptr A4 0 2)∧get l 63=s.o.cv∧get l 64=I s.o.cpls.length∧∃(i:Nat)(kvv:List (Ct×Int))(oz:Value),(n+i=s.o.cpls.length∧MapD kvv (mW s c L i))∧get l 65=I i∧get l 4=oz∧St prog H H' [⟨ptr A1 0 10,0,[(.string s.o.name),s.o.rv,s.o.dv,s.o.cv,s.sv,(.int .u64 s.rg.cpl),(.int .u64 s.rg.off),s.kv,I s.p.1,I s.p.2]⟩,⟨.map (some M1),0,KN kvv⟩,⟨oz,2,pr (((mW s c L i).map (·.1)).drop (h+1))⟩,⟨ptr A4 0 2,0,[I c.1.1,I c.1.2]⟩]) s.o.cpls.length ?_ ?_
  ·simp(disch:=omega) only[RB,RC,simprocAttr,hn,g1,g2,g3]
   exact⟨0,kvu,lN ow 2 1 (((L.map (·.1)).drop h).length-1),⟨by omega,hM⟩,rfl,by rw[show(((((L.map (·.1)).drop h).length:Nat):Int)-1).toNat=((L.map (·.1)).drop h).length-1 from by omega],hS17⟩
  rintro n l H16⟨hn,g1,g2,g3,g9,g63,g64,i,kvv,oz,⟨hi,hmd3⟩,g65,g4,hS18⟩
  simp(disch:=omega) only[↓RA,RB,simprocAttr,hn,g64,g65]
  refine jA (fun q2=> ?_) (fun q2=> ?_)
  ·have hil:i<s.o.cpls.length:=by omega
   have hgB:=Bg.all hf hB hhl i (by omega)
   rw[hcE]at hgB
   have hsu:=a2d s c L i
   obtain⟨a,ha,hal⟩:=c6T hf.o hil
   have hka:=hfi.keys a hal
   have hfr:frm (jB s.o.cpls i) c.1=((a:Int),vB (c.1.2-(jB s.o.cpls i).shift)):=by unfold frm;rw[ha]
   have hML:=hgB.bf.len hf
   simp(disch:=omega) only[↓RA,RZ,simprocAttr,hn,g63,g65,(hS18.sl hs.o.2.2.2.2.1).idx,(hS18.sl hs.o.2.2.2.2.1).aj,Cpl.cells,q2]
   refine hS18.eNew 5 [(.string ⟨#[]⟩),I 0,I 0,I 0,(.bool false)] rfl rfl rfl yI fun A5 H17 hS19=> ?_
   simp only[RT]at hS19
   simp(disch:=omega) only[↓RA,RZ,simprocAttr,hn,q2]
   refine hS19.ab 4 rfl [(.string (jB s.o.cpls i).name),I (jB s.o.cpls i).src,I (jB s.o.cpls i).dst,I (jB s.o.cpls i).shift,(.bool (jB s.o.cpls i).thr)] rfl rfl yI (by simp) fun H18 hS20=> ?_
   simp only[RT]at hS20
   simp(disch:=omega) only[↓RA,RZ,simprocAttr,hn,g9,hS20.ld 4 rfl,hS20.ld 3 rfl,q2]
   refine jA (fun q3=> ?_) (fun q3=> ?_)
   ·have hb0:sL s c.1 i=false:=by unfold sL;rw[decide_eq_false q3];rfl
    simp(disch:=omega) only[↓RA,RZ,simprocAttr,hn,g1,g2,g3,g9,g63,g64,g65,g4,q2,q3]
    refine⟨n-1,by omega,i+1,kvv,oz,⟨by omega,by rw[hsu,rF hb0];exact hmd3⟩,by simp,rfl,?_⟩
    rw[hsu,rF hb0]
    exact hS20.pick [0,1,2,3] (by decide) rfl
   simp(disch:=omega) only[↓RA,RZ,simprocAttr,hn,q2,q3,ha]
   simp(disch:=omega) only[↓RA,RZ,simprocAttr,hn,g9,hS20.ld 4 rfl,hS20.ld 3 rfl,a0u,q2,q3,ha]
   refine hS20.eNew 2 [I 0,I 0] rfl rfl rfl mM fun A6 H19 hS21=> ?_
   simp only[RT]at hS21
   simp(disch:=omega) only[↓RA,RZ,simprocAttr,hn,q2,q3,ha]
   refine hS21.ab 5 rfl [I a,_] rfl rfl mM (by simp) fun H20 hS22=> ?_
   simp only[RT]at hS22
   simp(disch:=omega) only[↓RA,RZ,simprocAttr,hn,g1,hS22.ld 0 rfl,hS22.ld 4 rfl,(hS22.sl hs.o.2.2.1).idx,(hS22.sl hs.o.2.2.1).bd,(hS22.sl hs.o.2.2.1).cP 2,Dvn.cells,q2,q3,ha]
   refine hS22.eNew 2 [I 0,I 0] rfl rfl rfl rI fun A7 H21 hS23=> ?_
   simp only[RT]at hS23
   simp(disch:=omega) only[↓RA,RZ,simprocAttr,hn,q2,q3,ha]
   refine hS23.ab 6 rfl [I (jB s.o.dvs a).lo,I (jB s.o.dvs a).hi] rfl rfl rI (by simp) fun H22 hS24=> ?_
   simp only[RT]at hS24
   simp(disch:=omega) only[↓RA,RZ,simprocAttr,hn,hS24.ld 5 rfl,hS24.ld 6 rfl,q2,q3,ha]
   refine jK (fun q4=> ?_) (fun q4=> ?_)
   ·have hb0:sL s c.1 i=false:=a5E (by rw[hfr,gm];intro h;have:=(lQ s.o ((a:Int),vB (c.1.2-(jB s.o.cpls i).shift))).1 h;simp only[eT,vB]at this;omega)
    simp(disch:=omega) only[↓RA,RZ,simprocAttr,hn,g1,g2,g3,g9,g63,g64,g65,g4,q2,q3,ha,q4]
    refine⟨n-1,by omega,i+1,kvv,oz,⟨by omega,by rw[hsu,rF hb0];exact hmd3⟩,by simp,rfl,?_⟩
    rw[hsu,rF hb0]
    exact hS24.pick [0,1,2,3] (by decide) rfl
   simp(disch:=omega) only[↓RA,RZ,simprocAttr,hn,hS24.ld 5 rfl,hS24.ld 6 rfl,q2,q3,ha,q4]
   refine jA (fun q5=> ?_) (fun q5=> ?_)
   ·have hb0:sL s c.1 i=false:=a5E (by rw[hfr,gm];intro h;have:=(lQ s.o ((a:Int),vB (c.1.2-(jB s.o.cpls i).shift))).1 h;simp only[eT,vB]at this;omega)
    simp(disch:=omega) only[↓RA,RZ,simprocAttr,hn,g1,g2,g3,g9,g63,g64,g65,g4,q2,q3,ha,q4,q5]
    refine⟨n-1,by omega,i+1,kvv,oz,⟨by omega,by rw[hsu,rF hb0];exact hmd3⟩,by simp,rfl,?_⟩
    rw[hsu,rF hb0]
    exact hS24.pick [0,1,2,3] (by decide) rfl
   have hoy:nJ s.o ((a:Int),vB (c.1.2-(jB s.o.cpls i).shift))=true:=by
    rw[lQ]
    simp only[eT,vB]
    omega
   have hbc:sL s c.1 i=(ldB s i ((a:Int),vB (c.1.2-(jB s.o.cpls i).shift)) false&&decide (nA s i ((a:Int),vB (c.1.2-(jB s.o.cpls i).shift))=c.1)):=by
    unfold sL
    rw[hfr,hoy,decide_eq_true (dW.1 q3)]
    simp only[gB]
   have hkn:=hmd3 ((a:Int),vB (c.1.2-(jB s.o.cpls i).shift))
   have hkc:yD kvv c.1=some ((c.2:Nat):Int):=by
    have hcm:c∈mW s c L i:=by
     have h:=jE hgB.hh
     rw[hgB.hc]at h
     exact h
    rw[hmd3 c.1,(a0n hgB.bf.nd).2 (show(c.1,c.2)∈mW s c L i from hcm)]
    rfl
   simp(disch:=omega) only[↓RA,RZ,simprocAttr,hn,g1,hS24.aj 0 rfl,hS24.aj 5 rfl,q2,q3,ha,q4,q5]
   refine hS24.cF (uE s (hs.ag hS24) hf i ((a:Int),vB (c.1.2-(jB s.o.cpls i).shift)) false) fun H23 hS25=> ?_
   simp(disch:=omega) only[↓RA,RZ,simprocAttr,hn,q2,q3,ha,q4,q5]
   refine hS25.eNew 2 [I 0,I 0] rfl rfl rfl mM fun A8 H24 hS26=> ?_
   simp only[RT]at hS26
   simp(disch:=omega) only[↓RA,RZ,simprocAttr,hn,q2,q3,ha,q4,q5]
   refine hS26.ab 7 rfl [I (nA s i ((a:Int),vB (c.1.2-(jB s.o.cpls i).shift))).1,I (nA s i ((a:Int),vB (c.1.2-(jB s.o.cpls i).shift))).2] rfl rfl mM (by simp) fun H25 hS27=> ?_
   simp only[RT]at hS27
   simp(disch:=omega) only[↓RA,RZ,simprocAttr,hn,g3,hS27.aj 5 rfl,q2,q3,ha,q4,q5]
   refine hS27.bc (k:=((a:Int),vB (c.1.2-(jB s.o.cpls i).shift))) 1 rfl wX (fun _=>rfl) ?_
   simp(disch:=omega) only[↓RA,RZ,simprocAttr,hn,q2,q3,ha,q4,q5]
   refine lL (fun q6=> ?_) (fun q6=> ?_)
   ·simp(disch:=omega) only[↓RA,RZ,simprocAttr,hn,g9,hS27.aj 7 rfl,hS27.aj 3 rfl,q2,q3,ha,q4,q5,q6]
    refine kG (fun q7=> ?_) (fun q7=> ?_)
    ·have q7':nA s i ((a:Int),vB (c.1.2-(jB s.o.cpls i).shift))=c.1:=iz q7.1 q7.2
     simp(disch:=omega) only[↓RA,RZ,simprocAttr,hn,q2,q3,ha,q4,q5,q6,q7]
     refine kC (fun q8=> ?_) (fun q8=> ?_)
     ·have hnm:((a:Int),vB (c.1.2-(jB s.o.cpls i).shift))∉(mW s c L i).map (·.1):=by
       rw[←a1F]
       cases hd:rH (mW s c L i) ((a:Int),vB (c.1.2-(jB s.o.cpls i).shift))with
       | none=>rfl
       | some z=>rw[hd]at hkn;rw[hkn]at q8;simp at q8
      have hyes:vZ s c (mW s c L i) i=mW s c L i++[(((a:Int),vB (c.1.2-(jB s.o.cpls i).shift)),c.2+1)]:=by
       unfold vZ
       rw[hbc,hfr,q6,decide_eq_true q7',decide_eq_false hnm]
       rfl
      have hput:=hmd3.put (n:=c.2+1) hnm
      have hcast:((c.2+1:Nat):Int)=(c.2:Int)+1:=by omega
      rw[hcast]at hput
      simp(disch:=omega) only[↓RA,RZ,simprocAttr,q2,q3,ha,q4,q5,q6,q7,q8]
      refine Wp.drw kS (by kernel_rfl) ?_
      simp(disch:=omega) only[↓RA,RZ,simprocAttr,hn,g3,g9,hS27.aj 5 rfl,hS27.aj 3 rfl]
      refine hS27.bc (k:=c.1) 1 rfl wX (fun _=>rfl) ?_
      simp(disch:=omega) only[↓RA,RB,simprocAttr,hn,hkc]
      refine hS27.cM (k:=((a:Int),vB (c.1.2-(jB s.o.cpls i).shift))) 1 rfl wX fun H26 hS28=> ?_
      simp only[RT]at hS28
      simp(disch:=omega) only[↓RA,RZ,simprocAttr,hn,g4,hS28.aj 5 rfl,hkc]
      refine hS28.ai [I a,_] vU a7z rfl rfl (by simp[Value.cells]) rfl rfl (by decide) (by decide) fun w3 H27 hS29=> ?_
      simp only[RT]at hS29
      simp(disch:=omega) only[↓RA,RZ,simprocAttr,hn,hkc]
      refine hS29.al 2 rfl (hS29.rd 8 rfl) vU (by rw[jN];simp;omega) fun w4 H28 hS30=> ?_
      simp only[RT]at hS30
      simp(disch:=omega) only[↓RA,RZ,simprocAttr,hn,g1,g2,g3,g9,g63,g64,g65,hkc]
      have hwr:IntKind.wrap .i64 ((some (c.2:Int)).getD 0+1)=(c.2:Int)+1:=a3C (a:=(c.2:Int)+1) (by omega) (by omega)
      rw[hwr]at hS30
      refine⟨n-1,by omega,i+1,a4K kvv ((a:Int),vB (c.1.2-(jB s.o.cpls i).shift)) ((c.2:Int)+1),w4,⟨by omega,by rw[hsu,hyes];exact hput⟩,by simp,rfl,?_⟩
      rw[hsu,hyes,ec,List.drop_append_of_le_length (by rw[dU];have:=hgB.hh;omega),mI]
      exact hS30.pick [0,1,2,3] (by decide) rfl
     have hno:vZ s c (mW s c L i) i=mW s c L i:=by
      have hym:((a:Int),vB (c.1.2-(jB s.o.cpls i).shift))∈(mW s c L i).map (·.1):=by
       apply fC
       intro hne
       rw[a1F.2 hne]at hkn
       rw[hkn]at q8
       simp at q8
      unfold vZ
      rw[hfr,decide_eq_true hym]
      simp
     simp(disch:=omega) only[↓RA,RZ,simprocAttr,hn,g1,g2,g3,g9,g63,g64,g65,g4,q2,q3,ha,q4,q5,q6,q7,q8]
     refine⟨n-1,by omega,i+1,kvv,oz,⟨by omega,by rw[hsu,hno];exact hmd3⟩,by simp,rfl,?_⟩
     rw[hsu,hno]
     exact hS27.pick [0,1,2,3] (by decide) rfl
    have hno:vZ s c (mW s c L i) i=mW s c L i:=rF (by rw[hbc,decide_eq_false (fun e=>q7 ⟨congrArg Prod.fst e,congrArg Prod.snd e⟩)];simp)
    simp(disch:=omega) only[↓RA,RZ,simprocAttr,hn,g1,g2,g3,g9,g63,g64,g65,g4,q2,q3,ha,q4,q5,q6,q7]
    refine⟨n-1,by omega,i+1,kvv,oz,⟨by omega,by rw[hsu,hno];exact hmd3⟩,by simp,rfl,?_⟩
    rw[hsu,hno]
    exact hS27.pick [0,1,2,3] (by decide) rfl
   have hno:vZ s c (mW s c L i) i=mW s c L i:=rF (by rw[hbc,show ldB s i ((a:Int),vB (c.1.2-(jB s.o.cpls i).shift)) false=false from by simpa using q6];rfl)
   simp(disch:=omega) only[↓RA,RZ,simprocAttr,hn,g1,g2,g3,g9,g63,g64,g65,g4,q2,q3,ha,q4,q5,q6]
   refine⟨n-1,by omega,i+1,kvv,oz,⟨by omega,by rw[hsu,hno];exact hmd3⟩,by simp,rfl,?_⟩
   rw[hsu,hno]
   exact hS27.pick [0,1,2,3] (by decide) rfl
  have hil:i=s.o.cpls.length:=by omega
  simp(disch:=omega) only[↓RA,RZ,simprocAttr,hn,g1,g2,g3,g4,q2]
  refine⟨1100-(h+1),by omega,h+1,mW s c L i,kvv,oz,⟨by omega,?_,?_,?_,hmd3⟩,rfl,hS18.pick [0,1,2] (by decide) rfl⟩
  ·rw[hil,←hcE];exact hB.next hf hhl
  ·rw[hil,←hR,show 1100-h=(1100-(h+1))+1 from by omega,a4G,if_pos hhl,hcE]
  ·have:=(Bg.all hf hB hhl i (by omega)).hh
   rw[hcE]at this
   exact this
 have hfin:rY s=L:=by
  rw[←hR]
  cases h2:1100-h with
  | zero=>rfl
  | succ k=>rw[a4G,if_neg (by omega)]
 simp(disch:=omega) only[↓RA,RZ,simprocAttr,hn,g3,d1k,q1]
 exact⟨M1,kvu,rfl,by rw[hfin];exact hM,hS14.pick [1] (by decide) rfl⟩
end Go.Ds
namespace Go.Ds
open Go
section
variable {P:Program} {H:Heap}
def c8J:List Unit→Code→Code
 | _::us,.seq a b=>.seq a (c8J us b)
 | _,_=>.skip
def c8F:List Unit→Code→Code
 | _::us,.seq _ b=>c8F us b
 | _,c=>c
theorem b0h(I:List Value→Heap→Prop):∀(us:List Unit)(c:Code){l:List Value}{H:Heap}{Q:oM},(∀l H,I l H→SWr P (c8F us c) l H Q)→SWr P (c8J us c) l H (a7F I Q)→SWr P c l H Q:=by
 intro us
 induction us with
 | nil=>
   intro c l H Q hm h
   cases c<;>exact hm _ _ h
 | cons u us ih=>
   intro c l H Q hm h
   cases c with
   | seq a b=>
     refine SWr.mono a ?_ h
     intro e l1 H1 h1
     cases e with
     | normal=>exact ih b hm h1
     | exit i=>exact h1
     | ret=>exact h1
   | _=>exact hm _ _ h
variable {a b c d e f g h:Code} {l:List Value} {Q:oM}
theorem c3f(I:List Value→Heap→Prop)(hm:∀l H,I l H→SW P c l H Q)(hh:SW P (.seq a (.seq b .skip)) l H (a7F I Q)):SW P (.seq a (.seq b c)) l H Q:=b0h I [(),()] _ hm hh
theorem b3C(I:List Value→Heap→Prop)(hm:∀l H,I l H→SW P d l H Q)(hh:SW P (.seq a (.seq b (.seq c .skip))) l H (a7F I Q)):SW P (.seq a (.seq b (.seq c d))) l H Q:=b0h I [(),(),()] _ hm hh
end
end Go.Ds
namespace Go.Ds
open Go.Proofs Go.Proofs.Tryz
variable {H:Heap}
set_option maxRecDepth 10000
set_option maxHeartbeats 1000000
def nX(s:Sn)(i:Nat)(c:Ct)(f:Bool):Option Nat:=if ldB s i c f then rH (rY s) (nA s i c)else none
def qH(s:Sn)(c:Ct):Nat→Option (Nat×Nat)
 | 0=>none
 | n+1=>match nX s n c true,qH s c n with
   | none,b=>b
   | some d,none=>some (d,n)
   | some d,some b=>if d<b.1 then some (d,n)else some b
def c6r(s:Sn)(n:Nat)(c:Ct):Option Nat:=(List.range s.o.cpls.length).find? fun i=>decide (nX s i c false=some n)
def goN(s:Sn):Nat→Ct→List Int×Ct
 | 0,c=>([],c)
 | n+1,c=>match c6r s n c with
   | none=>([],c)
   | some i=>((i:Int)::(goN s n (nA s i c)).1,(goN s n (nA s i c)).2)
def xM(s:Sn)(c:Ct):Option (List Int×Ct):=
 if rH (rY s) c=some 0∧a1q s c.1=false then some ([],c)else match qH s c s.o.cpls.length with
  | none=>none
  | some (d,i)=>some ((i:Int)::(goN s d (nA s i c)).1,(goN s d (nA s i c)).2)
def nV(s:Sn)(c:Ct)(cv:Value):Rn:=match xM s c with
 | none=>⟨(0,0),cv,[],(0,0),0⟩
 | some (l,e)=>⟨c,cv,l,e,jB (mT s e) 0⟩
theorem a5k{s:Sn}(hf:s.Fit){i:Nat}{c:Ct}{f:Bool}{d:Nat}(h:nX s i c f=some d):ldB s i c f=true∧Far s (nA s i c) d:=by
 unfold nX at h
 split at h
 ·rename_i h1;exact⟨h1,(uF hf).1 h⟩
 ·cases h
theorem a3X{s:Sn}{c:Ct}:∀{n:Nat}{d i:Nat},qH s c n=some (d,i)→i<n∧nX s i c true=some d
 | 0,d,i,h=>by unfold qH at h;cases h
 | n+1,d,i,h=>by
   unfold qH at h
   cases h1:nX s n c true with
   | none=>
     rw[h1]at h
     have:=a3X h
     exact⟨by omega,this.2⟩
   | some e=>
     rw[h1]at h
     cases h2:qH s c n with
     | none=>
       rw[h2]at h
       injection h with h
       obtain⟨rfl,rfl⟩:=iC h
       exact⟨by omega,h1⟩
     | some b=>
       rw[h2]at h
       simp only at h
       split at h
       ·injection h with h
        obtain⟨rfl,rfl⟩:=iC h
        exact⟨by omega,h1⟩
       ·injection h with h
        subst h
        have:=a3X h2
        exact⟨by omega,this.2⟩
theorem Far.lt{s:Sn}(hf:s.Fit){c:Ct}{n:Nat}(h:Far s c n):n<1024:=by
 obtain⟨k,b,hk⟩:=a7b hf 1100 0 _ a6w (by decide)
 have hd:=(a0n b.nd).1 ((uF hf).2 h)
 obtain⟨j,hj,e⟩:=eM.1 hd
 have h1:=b.lt j hj
 rw[kN _ _ hj,e]at h1
 have h2:=b.len hf
 simp only at h1
 omega
theorem Far.dw{s:Sn}(hf:s.Fit){c:Ct}{n:Nat}(h:Far s c (n+1)):∃i,i<s.o.cpls.length∧nX s i c false=some n:=by
 cases h.1 with
 | succ ho hx hr=>
   obtain⟨i,hi,h1,rfl⟩:=hx
   refine⟨i,hi,?_⟩
   unfold nX
   rw[if_pos h1,uF hf]
   refine⟨hr,fun m hm=> ?_⟩
   have:=h.2 (m+1) (.succ ho ⟨i,hi,h1,rfl⟩ hm)
   omega
theorem c0T{s:Sn}{n:Nat}{c:Ct}{i:Nat}(hi:i<s.o.cpls.length)(h:nX s i c false=some n)(h0:∀q,q<i→nX s q c false≠some n):c6r s n c=some i:=by
 unfold c6r
 rw[List.find?_eq_some_iff_getElem]
 refine⟨by simpa using h,i,by simpa using hi,by simp,fun q hq=> ?_⟩
 simpa using h0 q hq
def wY(b:Option (Nat×Nat))(bb ff:Int):Prop:=match b with
 | none=>ff=-1
 | some (d,i)=>bb=d∧ff=i
theorem a4X{s:Sn}{c:Ct}{j d:Nat}{bb ff:Int}(h:wY (qH s c j) bb ff)(hn:nX s j c true=some d)(hl:ff<0∨(d:Int)<bb):wY (qH s c (j+1)) d j:=by
 unfold qH
 rw[hn]
 cases h2:qH s c j with
 | none=>exact⟨rfl,rfl⟩
 | some b=>
   rw[h2]at h
   obtain⟨b1,b2⟩:=b
   simp only[wY]at h
   simp only
   rw[if_pos (by omega)]
   exact⟨rfl,rfl⟩
theorem a2X{s:Sn}{c:Ct}{j:Nat}{bb ff:Int}(h:wY (qH s c j) bb ff)(hl:∀d,nX s j c true=some d→¬(ff<0∨(d:Int)<bb)):wY (qH s c (j+1)) bb ff:=by
 unfold qH
 cases hn:nX s j c true with
 | none=>exact h
 | some d=>
   have hl:=hl d hn
   cases h2:qH s c j with
   | none=>
     rw[h2]at h
     simp only[wY]at h
     omega
   | some b=>
     rw[h2]at h
     obtain⟨b1,b2⟩:=b
     simp only[wY]at h
     simp only
     rw[if_neg (by omega)]
     exact h
theorem a0M{s:Sn}{kvs:List (Ct×Int)}(hD:MapD kvs (rY s)){t:Ct}(h:(yD kvs t).isSome=true):∃d:Nat,rH (rY s) t=some d∧yD kvs t=some (d:Int):=by
 have:=hD t
 cases hd:rH (rY s) t with
 | none=>rw[hd]at this;rw[this]at h;cases h
 | some d=>rw[hd]at this;exact⟨d,rfl,this⟩
theorem a2J{s:Sn}{kvs:List (Ct×Int)}(hD:MapD kvs (rY s)){t:Ct}(h:(yD kvs t).isSome=false):rH (rY s) t=none:=by
 have:=hD t
 cases hd:rH (rY s) t with
 | none=>rfl
 | some d=>rw[hd]at this;rw[this]at h;cases h
theorem a6l{s:Sn}(hf:s.Fit){i:Nat}{c:Ct}{f:Bool}(h:ldB s i c f=true):nJ s.o (nA s i c)=true:=by
 have h5:=a0R.1 h
 obtain⟨h6,h7,_⟩:=zV h5.1
 have hc:=Org.bp hf.o (j:=(i:Int).toNat) (by omega)
 rw[nA,if_pos h5.1,lQ]
 exact⟨hc.2.1.1,hc.2.1.2,h5.2.2.2.1,h5.2.2.2.2⟩
theorem a7D(s:Sn)(hs:s.In H)(hf:s.Fit)(c:Ct)(hc:nJ s.o c=true)(M:Nat)(kvs:List (Ct×Int))(hM:OwnAt prog H ⟨.map (some M),0,KN kvs⟩)(hD:MapD kvs (rY s)):
 Fn prog 54 [s.v,.agg #[I c.1,I c.2],.map (some M)] H fun r H'=>∃cv,r=.tuple #[(nV s c cv).v,.bool (xM s c).isSome]∧St prog H H' [⟨cv,1,(nV s c cv).cps.flatMap (one I)⟩]:=by
 have hcl:=hf.aP.clen
 refine .cJ func54 rfl (by kernel_rfl) (m:=157) rfl fun l hn g0 g1 g2=> ?_
 refine b3C (fun l H'=>l.length=157∧get l 2=(.map (some M))∧∃(V1 V2 V3 V4:Nat),(¬(rH (rY s) c=some 0∧a1q s c.1=false))∧get l 3=(ptr V1 0 10)∧get l 4=(ptr V2 0 2)∧get l 6=(ptr V3 0 6)∧get l 7=(.bool false)∧get l 8=(ptr V4 0 6)∧St prog H H' [⟨ptr V1 0 10,0,[(.string s.o.name),s.o.rv,s.o.dv,s.o.cv,s.sv,(.int .u64 s.rg.cpl),(.int .u64 s.rg.off),s.kv,I s.p.1,I s.p.2]⟩,⟨ptr V2 0 2,0,[I c.1,I c.2]⟩,⟨ptr V3 0 6,0,[I 0,I 0,(.slice none 0 0),I 0,I 0,I 0]⟩,⟨ptr V4 0 6,0,[I c.1,I c.2,(.slice none 0 0),I c.1,I c.2,I 0]⟩]) ?_ ?_
 ·rintro l H1⟨hn,g2,V1,V2,V3,V4,hno,g3,g4,g6,g7,g8,hS1⟩
  have hW:xM s c=match qH s c s.o.cpls.length with|none=>none|some (d,i)=>some ((i:Int)::(goN s d (nA s i c)).1,(goN s d (nA s i c)).2):=by unfold xM;rw[if_neg hno]
  simp(disch:=omega) only[↓RA,RZ,simprocAttr,hn,g3,hS1.ld 0 rfl,(hS1.sl hs.o.2.2.2.2.1).len]
  refine Wp.aq (fun n l H'=>l.length=157∧get l 2=(.map (some M))∧get l 3=(ptr V1 0 10)∧get l 4=(ptr V2 0 2)∧get l 6=(ptr V3 0 6)∧get l 7=(.bool false)∧get l 8=(ptr V4 0 6)∧get l 54=I s.o.cpls.length∧∃(j:Nat)(bb:Int)(ff:Int),(n+j=s.o.cpls.length∧wY (qH s c j) bb ff)∧get l 55=I j∧get l 11=I bb∧get l 12=I ff∧St prog H H' [⟨ptr V1 0 10,0,[(.string s.o.name),s.o.rv,s.o.dv,s.o.cv,s.sv,(.int .u64 s.rg.cpl),(.int .u64 s.rg.off),s.kv,I s.p.1,I s.p.2]⟩,⟨ptr V2 0 2,0,[I c.1,I c.2]⟩,⟨ptr V3 0 6,0,[I 0,I 0,(.slice none 0 0),I 0,I 0,I 0]⟩,⟨ptr V4 0 6,0,[I c.1,I c.2,(.slice none 0 0),I c.1,I c.2,I 0]⟩]) s.o.cpls.length ?_ ?_
  ·simp(disch:=omega) only[RB,RC,simprocAttr,hn,g2,g3,g4,g6,g7,g8]
   exact⟨0,0,-1,⟨by omega,rfl⟩,rfl,rfl,rfl,hS1⟩
  rintro n l H2⟨hn,g2,g3,g4,g6,g7,g8,g54,j,bb,ff,⟨hj,hb⟩,g55,g11,g12,hS2⟩
  simp(disch:=omega) only[↓RA,RB,simprocAttr,hn,g54,g55]
  refine jA (fun q1=> ?_) (fun q1=> ?_)
  ·simp(disch:=omega) only[↓RA,RZ,simprocAttr,hn,g3,g4,g55,hS2.aj 0 rfl,hS2.aj 1 rfl,q1]
   refine hS2.cF (uE s (hs.ag hS2) hf j c true) fun H3 hS3=> ?_
   simp(disch:=omega) only[↓RA,RZ,simprocAttr,hn,q1]
   refine hS3.eNew 2 [I 0,I 0] rfl rfl rfl mM fun A1 H4 hS4=> ?_
   simp only[RT]at hS4
   simp(disch:=omega) only[↓RA,RZ,simprocAttr,hn,q1]
   refine hS4.ab 4 rfl [I (nA s j c).1,I (nA s j c).2] rfl rfl mM (by simp) fun H5 hS5=> ?_
   simp only[RT]at hS5
   simp(disch:=omega) only[↓RA,RZ,simprocAttr,hn,g2,hS5.aj 4 rfl,q1]
   refine(St.aW ((hM.st hS5))).bc (k:=nA s j c) 0 rfl wX (fun _=>rfl) ?_
   simp(disch:=omega) only[↓RA,RZ,simprocAttr,hn,q1]
   refine lL (fun q2=> ?_) (fun q2=> ?_)
   ·simp(disch:=omega) only[↓RA,RZ,simprocAttr,hn,q1,q2]
    refine lL (fun q3=> ?_) (fun q3=> ?_)
    ·obtain⟨d,hd1,hd2⟩:=a0M hD q3
     have hnr:nX s j c true=some d:=by unfold nX;rw[if_pos q2,hd1]
     have hs1:(some (d:Int)).isSome=true:=rfl
     have hs2:(some (d:Int)).getD 0=d:=rfl
     simp(disch:=omega) only[↓RA,RZ,simprocAttr,hn,g12,q1,q2,hd2,hs1,hs2]
     refine jK (fun q4=> ?_) (fun q4=> ?_)
     ·simp(disch:=omega) only[↓RA,RZ,simprocAttr,hn,g2,g3,g4,g6,g7,g8,g54,g55,q1,q2,hd2,hs1,hs2,q4]
      exact⟨n-1,by omega,j+1,(d:Int),(j:Int),⟨by omega,a4X hb hnr (.inl q4)⟩,by simp,rfl,rfl,hS5.pick [0,1,2,3] (by decide) rfl⟩
     simp(disch:=omega) only[↓RA,RZ,simprocAttr,hn,g11,q1,q2,hd2,hs1,hs2,q4]
     refine jA (fun q5=> ?_) (fun q5=> ?_)
     ·simp(disch:=omega) only[↓RA,RZ,simprocAttr,hn,g2,g3,g4,g6,g7,g8,g54,g55,q1,q2,hd2,hs1,hs2,q4,q5]
      exact⟨n-1,by omega,j+1,(d:Int),(j:Int),⟨by omega,a4X hb hnr (.inr q5)⟩,by simp,rfl,rfl,hS5.pick [0,1,2,3] (by decide) rfl⟩
     simp(disch:=omega) only[↓RA,RZ,simprocAttr,hn,g2,g3,g4,g6,g7,g8,g54,g55,g11,g12,q1,q2,hd2,hs1,hs2,q4,q5]
     exact⟨n-1,by omega,j+1,bb,ff,⟨by omega,a2X hb fun e he=>by rw[hnr]at he;cases he;rintro(h|h);(· exact q4 h);(· exact q5 h)⟩,by simp,rfl,rfl,hS5.pick [0,1,2,3] (by decide) rfl⟩
    have hd0:=a2J hD (t:=nA s j c) (by simpa using q3)
    simp(disch:=omega) only[↓RA,RZ,simprocAttr,hn,g2,g3,g4,g6,g7,g8,g54,g55,g11,g12,q1,q2,q3]
    exact⟨n-1,by omega,j+1,bb,ff,⟨by omega,a2X hb fun e he=>by unfold nX at he;rw[if_pos q2,hd0]at he;cases he⟩,by simp,rfl,rfl,hS5.pick [0,1,2,3] (by decide) rfl⟩
   simp(disch:=omega) only[↓RA,RZ,simprocAttr,hn,g2,g3,g4,g6,g7,g8,g54,g55,g11,g12,q1,q2]
   exact⟨n-1,by omega,j+1,bb,ff,⟨by omega,a2X hb fun e he=>by unfold nX at he;rw[if_neg (by simpa using q2)]at he;cases he⟩,by simp,rfl,rfl,hS5.pick [0,1,2,3] (by decide) rfl⟩
  have hjj:j=s.o.cpls.length:=by omega
  rw[hjj]at hb
  simp(disch:=omega) only[↓RA,RZ,simprocAttr,hn,g12,q1]
  refine jA (fun q6=> ?_) (fun q6=> ?_)
  ·have hW0:xM s c=none:=by
    rw[hW]
    cases h2:qH s c s.o.cpls.length with
    | none=>rfl
    | some b=>obtain⟨b1,b2⟩:=b;rw[h2]at hb;simp only[wY]at hb;omega
   simp(disch:=omega) only[↓RA,RZ,simprocAttr,hn,g6,a4e,q1,q6]
   refine hS2.ab 2 rfl [I 0,I 0,(.slice none 0 0),I 0,I 0,I 0] rfl rfl nW (by simp) fun H6 hS6=> ?_
   simp only[RT]at hS6
   simp(disch:=omega) only[↓RA,RZ,simprocAttr,hn,g6,c4T,hS6.aj 2 rfl,q1,q6]
   refine⟨.slice none 0 0,by unfold nV;rw[hW0];rfl,?_⟩
   unfold nV
   rw[hW0]
   exact(hS6.forget).nil 0
  obtain⟨d,i,h2,rfl,rfl⟩:∃d i:Nat,qH s c s.o.cpls.length=some (d,i)∧bb=d∧ff=i:=by
   cases h2:qH s c s.o.cpls.length with
   | none=>rw[h2]at hb;simp only[wY]at hb;omega
   | some b=>obtain⟨b1,b2⟩:=b;rw[h2]at hb;simp only[wY]at hb;exact⟨b1,b2,rfl,hb.1,hb.2⟩
  obtain⟨hil,hni⟩:=a3X h2
  obtain⟨hld,hfar⟩:=a5k hf hni
  have hW1:xM s c=some ((i:Int)::(goN s d (nA s i c)).1,(goN s d (nA s i c)).2):=by rw[hW,h2]
  simp(disch:=omega) only[↓RA,RZ,simprocAttr,hn,g12,q1,q6]
  refine hS2.ai [I i] qK wM rfl rfl (by simp[Value.cells]) rfl rfl (by decide) (by decide) fun w1 H7 hS7=> ?_
  simp only[RT]at hS7
  simp(disch:=omega) only[↓RA,RZ,simprocAttr,hn,g8,q1,q6]
  refine hS7.ab 3 rfl [w1] (by rw[(hS7.rd 4 rfl).cells.1]) (by simp[(hS7.rd 4 rfl).cells.2.1]) b0N (by simp) fun H8 hS8=> ?_
  simp only[RT]at hS8
  simp(disch:=omega) only[↓RA,RZ,simprocAttr,hn,g3,g4,g12,hS8.aj 0 rfl,hS8.aj 1 rfl,q1,q6]
  refine hS8.cF (uE s (hs.ag hS8) hf i c true) fun H9 hS9=> ?_
  simp(disch:=omega) only[↓RA,RZ,simprocAttr,hn,g8,q1,q6]
  refine hS9.ab 3 rfl [I (nA s i c).1,I (nA s i c).2] rfl rfl mM (by simp) fun H10 hS10=> ?_
  simp only[RT]at hS10
  simp(disch:=omega) only[↓RA,RZ,simprocAttr,q1,q6]
  refine Wp.aq (fun n l H'=>l.length=157∧get l 2=(.map (some M))∧get l 3=(ptr V1 0 10)∧get l 6=(ptr V3 0 6)∧get l 7=(.bool false)∧get l 8=(ptr V4 0 6)∧∃(a:Ct)(pre:List Int)(cv:Value),(Far s a n∧pre.length+n=d∧goN s d (nA s i c)=(pre++(goN s n a).1,(goN s n a).2))∧St prog H H' [⟨ptr V1 0 10,0,[(.string s.o.name),s.o.rv,s.o.dv,s.o.cv,s.sv,(.int .u64 s.rg.cpl),(.int .u64 s.rg.off),s.kv,I s.p.1,I s.p.2]⟩,⟨ptr V2 0 2,0,[I c.1,I c.2]⟩,⟨ptr V3 0 6,0,[I 0,I 0,(.slice none 0 0),I 0,I 0,I 0]⟩,⟨ptr V4 0 6,0,[I c.1,I c.2,cv,I a.1,I a.2,I 0]⟩,⟨cv,1,((i:Int)::pre).flatMap (one I)⟩]) d ?_ ?_
  ·simp(disch:=omega) only[RB,RC,simprocAttr,hn,g2,g3,g6,g7,g8]
   exact⟨nA s i c,[],w1,⟨hfar,by simp,by simp⟩,hS10⟩
  rintro n l H11⟨hn,g2,g3,g6,g7,g8,a,pre,cv,⟨ha1,ha2,ha3⟩,hS11⟩
  have hdl:=hfar.lt hf
  have hka:yD kvs a=some ((n:Nat):Int):=by rw[hD a,(uF hf).2 ha1];rfl
  simp(disch:=omega) only[↓RA,RZ,simprocAttr,hn,g2,g8,hS11.aj 3 rfl]
  refine(St.aW ((hM.st hS11))).bc (k:=a) 0 rfl wX (fun _=>rfl) ?_
  simp(disch:=omega) only[↓RA,RB,simprocAttr,hn,hka,eE]
  refine jA (fun q7=> ?_) (fun q7=> ?_)
  ·obtain⟨m,rfl⟩:∃m,n=m+1:=⟨n-1,by omega⟩
   have hao:=ha1.1.ok
   simp(disch:=omega) only[↓RA,RZ,simprocAttr,hn,g3,hS11.ld 0 rfl,(hS11.sl hs.o.2.2.2.2.1).len,hka,eE,q7]
   refine Wp.aq (fun n l H'=>l.length=157∧get l 2=(.map (some M))∧get l 3=(ptr V1 0 10)∧get l 6=(ptr V3 0 6)∧get l 7=(.bool false)∧get l 8=(ptr V4 0 6)∧get l 109=I s.o.cpls.length∧∃(j:Nat),(n+j=s.o.cpls.length∧∀q,q<j→nX s q a false≠some m)∧get l 110=I j∧St prog H H' [⟨ptr V1 0 10,0,[(.string s.o.name),s.o.rv,s.o.dv,s.o.cv,s.sv,(.int .u64 s.rg.cpl),(.int .u64 s.rg.off),s.kv,I s.p.1,I s.p.2]⟩,⟨ptr V2 0 2,0,[I c.1,I c.2]⟩,⟨ptr V3 0 6,0,[I 0,I 0,(.slice none 0 0),I 0,I 0,I 0]⟩,⟨ptr V4 0 6,0,[I c.1,I c.2,cv,I a.1,I a.2,I 0]⟩,⟨cv,1,((i:Int)::pre).flatMap (one I)⟩]) s.o.cpls.length ?_ ?_
   ·simp(disch:=omega) only[RB,RC,simprocAttr,hn,g2,g3,g6,g7,g8]
    exact⟨0,⟨by omega,fun q hq=>absurd hq (ez _)⟩,rfl,hS11⟩
   rintro n l H12⟨hn,g2,g3,g6,g7,g8,g109,j,⟨hj,hz⟩,g110,hS12⟩
   simp(disch:=omega) only[↓RA,RB,simprocAttr,hn,g109,g110]
   refine jA (fun q8=> ?_) (fun q8=> ?_)
   ·have hwm:IntKind.wrap .i64 (((m+1:Nat):Int)-1)=(m:Int):=by
     rw[show(((m+1:Nat):Int)-1)=(m:Int)from by omega]
     exact a3C (a:=(m:Int)) (by omega) (by omega)
    simp(disch:=omega) only[↓RA,RZ,simprocAttr,hn,g3,g8,g110,hS12.aj 0 rfl,hS12.aj 3 rfl,q8]
    refine hS12.cF (uE s (hs.ag hS12) hf j a false) fun H13 hS13=> ?_
    simp(disch:=omega) only[↓RA,RZ,simprocAttr,hn,q8]
    refine hS13.eNew 2 [I 0,I 0] rfl rfl rfl mM fun A2 H14 hS14=> ?_
    simp only[RT]at hS14
    simp(disch:=omega) only[↓RA,RZ,simprocAttr,hn,q8]
    refine hS14.ab 5 rfl [I (nA s j a).1,I (nA s j a).2] rfl rfl mM (by simp) fun H15 hS15=> ?_
    simp only[RT]at hS15
    simp(disch:=omega) only[↓RA,RZ,simprocAttr,hn,g2,hS15.aj 5 rfl,q8]
    refine(St.aW ((hM.st hS15))).bc (k:=nA s j a) 0 rfl wX (fun _=>rfl) ?_
    simp(disch:=omega) only[↓RA,RZ,simprocAttr,hn,q8]
    refine lL (fun q9=> ?_) (fun q9=> ?_)
    ·simp(disch:=omega) only[↓RA,RZ,simprocAttr,hn,q8,q9]
     refine lL (fun q10=> ?_) (fun q10=> ?_)
     ·obtain⟨e,he1,he2⟩:=a0M hD q10
      have hnr:nX s j a false=some e:=by unfold nX;rw[if_pos q9,he1]
      have hs1:(some (e:Int)).isSome=true:=rfl
      simp(disch:=omega) only[↓RA,RZ,simprocAttr,hn,g2,g8,hS15.aj 3 rfl,q8,q9,he2,hs1,eE]
      refine(St.aW ((hM.st hS15))).bc (k:=a) 0 rfl wX (fun _=>rfl) ?_
      simp(disch:=omega) only[↓RA,RZ,simprocAttr,hn,q8,q9,he2,hs1,eE,hka,hwm]
      refine jA (fun q11=> ?_) (fun q11=> ?_)
      ·have hem:e=m:=by omega
       rw[hem]at hnr
       have hhop:=c0T (by omega) hnr hz
       simp(disch:=omega) only[↓RA,RZ,simprocAttr,hn,g8,hS15.ld 3 rfl,q8,q9,he2,eE,hka,q11]
       refine hS15.ai [I j] qK wM rfl rfl (by simp[Value.cells]) rfl rfl (by decide) (by decide) fun w2 H16 hS16=> ?_
       simp only[RT]at hS16
       simp(disch:=omega) only[↓RA,RZ,simprocAttr,hn,q8,q9,he2,eE,hka,q11]
       refine hS16.al 4 rfl (hS16.rd 6 rfl) qK (by rw[mQ,dU];simp;omega) fun w3 H17 hS17=> ?_
       simp only[RT]at hS17
       simp(disch:=omega) only[↓RA,RZ,simprocAttr,hn,g8,q8,q9,he2,eE,hka,q11]
       refine hS17.ab 3 rfl [w3] (by rw[(hS17.rd 4 rfl).cells.1]) (by simp[(hS17.rd 4 rfl).cells.2.1]) b0N (by simp) fun H18 hS18=> ?_
       simp only[RT]at hS18
       simp(disch:=omega) only[↓RA,RZ,simprocAttr,hn,g8,hS18.aj 5 rfl,q8,q9,he2,eE,hka,q11]
       refine hS18.ab 3 rfl [I (nA s j a).1,I (nA s j a).2] rfl rfl mM (by simp) fun H19 hS19=> ?_
       simp only[RT]at hS19
       simp(disch:=omega) only[↓RA,RZ,simprocAttr,hn,g2,g3,g6,g7,g8,q8,q9,he2,eE,hka,q11]
       refine⟨m,by omega,nA s j a,pre++[(j:Int)],w3,⟨(a5k hf hnr).2,by simp;omega,?_⟩,?_⟩
       ·rw[ha3,goN,hhop]
        simp
       ·rw[←fO,dP]
        exact hS19.pick [0,1,2,3,4] (by decide) rfl
      have hno:nX s j a false≠some m:=fun h=>by rw[hnr]at h;cases h;exact q11 rfl
      simp(disch:=omega) only[↓RA,RZ,simprocAttr,hn,g2,g3,g6,g7,g8,g109,g110,q8,q9,he2,hs1,eE,hka,q11]
      exact⟨n-1,by omega,j+1,⟨by omega,fun q hq=>by rcases dN.1 hq with e|e;(· exact hz q e);(· rw[e];exact hno)⟩,by simp,hS15.pick [0,1,2,3,4] (by decide) rfl⟩
     have hno:nX s j a false≠some m:=fun h=>by unfold nX at h;rw[if_pos q9,a2J hD (by simpa using q10)]at h;cases h
     simp(disch:=omega) only[↓RA,RZ,simprocAttr,hn,g2,g3,g6,g7,g8,g109,g110,q8,q9,q10]
     exact⟨n-1,by omega,j+1,⟨by omega,fun q hq=>by rcases dN.1 hq with e|e;(· exact hz q e);(· rw[e];exact hno)⟩,by simp,hS15.pick [0,1,2,3,4] (by decide) rfl⟩
    have hno:nX s j a false≠some m:=fun h=>by unfold nX at h;rw[if_neg (by simpa using q9)]at h;cases h
    simp(disch:=omega) only[↓RA,RZ,simprocAttr,hn,g2,g3,g6,g7,g8,g109,g110,q8,q9]
    exact⟨n-1,by omega,j+1,⟨by omega,fun q hq=>by rcases dN.1 hq with e|e;(· exact hz q e);(· rw[e];exact hno)⟩,by simp,hS15.pick [0,1,2,3,4] (by decide) rfl⟩
   obtain⟨q,hq1,hq2⟩:=ha1.dw hf
   exact absurd hq2 (hz q (by omega))
  have hn0:n=0:=by omega
  subst hn0
  have hao:=ha1.1.ok
  have hne:mT s a≠[]:=by
   cases ha1.1 with
   | zero _ h=>exact h
  have hpos:=fI.2 hne
  have hg:goN s d (nA s i c)=(pre,a):=by rw[ha3];simp[goN]
  have hW2:xM s c=some ((i:Int)::pre,a):=by rw[hW1,hg]
  simp(disch:=omega) only[↓RA,RZ,simprocAttr,hn,g3,g8,hS11.aj 0 rfl,hS11.aj 3 rfl,hka,eE]
  refine jI ((wQ s (hs.ag hS11) hf a (zF hao)).tr) ?_
  rintro r H20⟨-,hT4⟩
  have hS20:=hS11.trans hT4
  simp only[RT]at hS20
  obtain⟨sw,rfl⟩:∃w,w=r:=⟨r,rfl⟩
  simp(disch:=omega) only[↓RA,RZ,simprocAttr,hn,g8,(hS20.av 5 rfl (fun _=>rfl)).idx,(hS20.av 5 rfl (fun _=>rfl)).ld,one,hka,eE]
  refine hS20.ab 3 rfl [I (jB (mT s a) 0)] rfl rfl tS3 (by simp) fun H21 hS21=> ?_
  simp only[RT]at hS21
  simp(disch:=omega) only[↓RA,RZ,simprocAttr,hn,g6,g8,hS21.aj 3 rfl,hka,eE]
  refine hS21.ab 2 rfl [I c.1,I c.2,cv,I a.1,I a.2,I (jB (mT s a) 0)] rfl (by simp[OC,(hS21.rd 4 rfl).cells.2.1]) nW (by simp) fun H22 hS22=> ?_
  simp only[RT]at hS22
  simp(disch:=omega) only[↓RA,RZ,simprocAttr,hn,g6,c4T,hS22.aj 2 rfl,hka,eE]
  refine⟨cv,by unfold nV;rw[hW2];rfl,?_⟩
  unfold nV
  rw[hW2]
  exact hS22.pick [4] (by decide) rfl
 simp(disch:=omega) only[↓RA,RB,simprocAttr,g0]
 refine(sR H).eNew 10 [(.string s.o.name),s.o.rv,s.o.dv,s.o.cv,s.sv,(.int .u64 s.rg.cpl),(.int .u64 s.rg.off),s.kv,I s.p.1,I s.p.2] rfl rfl (by simp[OC,((sR H).sl hs.o.1).cells.2.1,((sR H).sl hs.o.2.2.1).cells.2.1,((sR H).sl hs.o.2.2.2.2.1).cells.2.1,((sR H).sl hs.rg.1).cells.2.1,((sR H).sl hs.ks.sl).cells.2.1]) oI fun A3 H23 hS23=> ?_
 simp only[RT]at hS23
 simp(disch:=omega) only[↓RA,RB,simprocAttr,g1]
 refine hS23.eNew 2 [I c.1,I c.2] rfl rfl rfl mM fun A4 H24 hS24=> ?_
 simp only[RT]at hS24
 simp(disch:=omega) only[↓RA,RZ,simprocAttr]
 refine hS24.eNew 6 [I 0,I 0,(.slice none 0 0),I 0,I 0,I 0] rfl rfl rfl nW fun A5 H25 hS25=> ?_
 simp only[RT]at hS25
 simp(disch:=omega) only[↓RA,RZ,simprocAttr,hn,hS25.aj 1 rfl,a8N]
 refine hS25.eNew 6 [I 0,I 0,(.slice none 0 0),I 0,I 0,I 0] rfl rfl rfl nW fun A6 H26 hS26=> ?_
 simp only[RT]at hS26
 simp(disch:=omega) only[↓RA,RB,simprocAttr,hn]
 refine hS26.ab 3 rfl [I c.1,I c.2,(.slice none 0 0),I c.1,I c.2,I 0] rfl rfl nW (by simp) fun H27 hS27=> ?_
 simp only[RT]at hS27
 simp(disch:=omega) only[↓RA,RZ,simprocAttr,hn,g2,hS27.aj 1 rfl]
 refine(St.aW ((hM.st hS27))).bc (k:=c) 0 rfl wX (fun _=>rfl) ?_
 simp(disch:=omega) only[↓RA,RZ,simprocAttr,hn]
 refine lL (fun p1=> ?_) (fun p1=> ?_)
 ·obtain⟨d,hd1,hd2⟩:=a0M hD p1
  have hs1:(some (d:Int)).isSome=true:=rfl
  have hs2:(some (d:Int)).getD 0=d:=rfl
  simp(disch:=omega) only[↓RA,RZ,simprocAttr,hn,hd2,hs1,hs2]
  refine kG (fun p2=> ?_) (fun p2=> ?_)
  ·have hd0:d=0:=by omega
   simp(disch:=omega) only[↓RA,RZ,simprocAttr,hn,hS27.aj 0 rfl,hS27.ld 1 rfl,hd2,p2]
   refine hS27.cF (a7o s (hs.ag hS27) c.1 (zF hc).1) fun H28 hS28=> ?_
   simp(disch:=omega) only[↓RA,RZ,simprocAttr,hn,hd2,p2]
   refine kC (fun p3=> ?_) (fun p3=> ?_)
   ·have hyes:rH (rY s) c=some 0∧a1q s c.1=false:=⟨by rw[hd1,hd0],by simpa using p3⟩
    have hW:xM s c=some ([],c):=by unfold xM;rw[if_pos hyes]
    have hne:mT s c≠[]:=by
     cases ((uF hf).1 hyes.1).1 with
     | zero _ h=>exact h
    have hpos:=fI.2 hne
    simp(disch:=omega) only[↓RA,RZ,simprocAttr,hn,hS28.aj 0 rfl,hS28.aj 1 rfl,hd2,p2,p3]
    refine jI ((wQ s (hs.ag hS28) hf c (zF hc)).tr) ?_
    rintro r H29⟨-,hT6⟩
    have hS29:=hS28.trans hT6
    simp only[RT]at hS29
    obtain⟨sw,rfl⟩:∃w,w=r:=⟨r,rfl⟩
    simp(disch:=omega) only[↓RA,RZ,simprocAttr,hn,(hS29.av 4 rfl (fun _=>rfl)).idx,(hS29.av 4 rfl (fun _=>rfl)).ld,one,hd2,p2,p3]
    refine hS29.ab 3 rfl [I (jB (mT s c) 0)] rfl rfl tS3 (by simp) fun H30 hS30=> ?_
    simp only[RT]at hS30
    simp(disch:=omega) only[↓RA,RZ,simprocAttr,hn,hS30.aj 3 rfl,hd2,p2,p3]
    refine hS30.ab 2 rfl [I c.1,I c.2,(.slice none 0 0),I c.1,I c.2,I (jB (mT s c) 0)] rfl rfl nW (by simp) fun H31 hS31=> ?_
    simp only[RT]at hS31
    simp(disch:=omega) only[↓RA,RZ,simprocAttr,hn,c4T,hS31.aj 2 rfl,b8r,hd2,p2,p3]
    refine⟨.slice none 0 0,by unfold nV;rw[hW];rfl,?_⟩
    unfold nV
    rw[hW]
    exact(hS31.forget).nil 0
   simp(disch:=omega) only[↓RA,RZ,simprocAttr,hn,g2,jQ,hd2,p2,p3]
   exact⟨_,_,_,_,(by rintro⟨_,h⟩;rw[h]at p3;simp at p3),rfl,rfl,rfl,rfl,hS28⟩
  simp(disch:=omega) only[↓RA,RZ,simprocAttr,hn,g2,jQ,hd2,hs1,hs2,p2]
  exact⟨_,_,_,_,(by rintro⟨h,_⟩;rw[hd1]at h;cases h;simp at p2),rfl,rfl,rfl,rfl,hS27⟩
 simp(disch:=omega) only[↓RA,RZ,simprocAttr,hn,g2,jQ,p1]
 exact⟨_,_,_,_,(by rintro⟨h,_⟩;rw[a2J hD (by simpa using p1)]at h;cases h),rfl,rfl,rfl,rfl,hS27⟩
end Go.Ds
namespace Go.Ds
open Go.Proofs
set_option maxRecDepth 10000
structure Rp where
 pl:Ct
 cps:List Int
 tc:Ct
 stop:Int
 deriving Inhabited,DecidableEq
def nP(s:Sn)(pl:Ct)(cps:List Int)(a:Ct):List Rp:=if cps≠[]∨a1q s pl.1=false then(mT s a).map fun i=>⟨pl,cps,a,i⟩else[]
def onB(s:Sn)(cps:List Int)(a:Ct)(seen:List Ct)(i:Nat):Bool:=ldB s i a (decide (cps.length=0))&& !decide (nA s i a∈seen)
def full(s:Sn):Nat→Ct→List Int→Ct→List Ct→List Rp
 | 0,pl,cps,a,_=>nP s pl cps a
 | n+1,pl,cps,a,seen=>nP s pl cps a++(List.range s.o.cpls.length).flatMap fun i=>if onB s cps a seen i then full s n pl (cps++[(i:Int)]) (nA s i a) (seen++[nA s i a])else[]
theorem b7e{s:Sn}(hf:s.Fit):∀(n:Nat){pl:Ct}{cps:List Int}{a:Ct}{seen:List Ct},nJ s.o a=true→cps≠[]→rH (rY s) a=none→full s n pl cps a seen=[]:=by
 have hz:∀a,nJ s.o a=true→rH (rY s) a=none→mT s a=[]:=fun a ho h=>by
  apply fC
  intro hne
  obtain⟨m,hm,_⟩:=(a7m hf).2.2.1 0 a (.zero ho hne)
  rw[h]at hm
  cases hm
 intro n
 induction n with
 | zero=>
   intro pl cps a seen ho hc h
   unfold full nP
   rw[hz a ho h]
   simp
 | succ n ih=>
   intro pl cps a seen ho hc h
   unfold full
   have h1:nP s pl cps a=[]:=by unfold nP;rw[hz a ho h];simp
   rw[h1,fJ,List.flatMap_eq_nil_iff]
   intro i hi
   split
   ·rename_i hb
    unfold onB at hb
    rw[dB]at hb
    have hl:ldB s i a false=true:=by
     have:=hb.1
     rw[decide_eq_false (by intro e;exact hc (eR.1 e))]at this
     exact this
    refine ih (a6l hf hl) (by simp) ?_
    cases hd:rH (rY s) (nA s i a)with
    | none=>rfl
    | some m=>
      have hr:=((uF hf).1 hd).1
      obtain⟨m2,hm2,_⟩:=(a7m hf).2.2.1 (m+1) a (.succ ho ⟨i,dY.1 hi,hl,rfl⟩ hr)
      rw[h]at hm2
      cases hm2
   ·rfl
def uQ(s:Sn)(cps:List Int)(a:Ct)(seen:List Ct)(i:Nat):Bool:=onB s cps a seen i&&(rH (rY s) (nA s i a)).isSome
def a2v(s:Sn):Nat→Ct→List Int→Ct→List Ct→List Rp×Bool→List Rp×Bool
 | 0,pl,cps,a,_,q=>(q.1++nP s pl cps a,q.2||decide (500<(q.1++nP s pl cps a).length))
 | n+1,pl,cps,a,seen,q=>(List.range s.o.cpls.length).foldl (fun q i=>if q.2 then q else if uQ s cps a seen i then a2v s n pl (cps++[(i:Int)]) (nA s i a) (seen++[nA s i a]) q else q) (q.1++nP s pl cps a,q.2||decide (500<(q.1++nP s pl cps a).length))
def Met(l:List Rp)(q:List Rp×Bool):Prop:=(q.2=false→q.1=l∧l.length≤500)∧(q.2=true→500<l.length)
theorem Met.more{l m:List Rp}{q:List Rp×Bool}(h:Met l q)(hq:q.2=true):Met (l++m) q:=⟨fun h2=>(by rw[hq]at h2;cases h2),fun _=>by have:=h.2 hq;rw[dH];omega⟩
theorem Met.node{l m:List Rp}{q:List Rp×Bool}(h:Met l q):Met (l++m) (q.1++m,q.2||decide (500<(q.1++m).length)):=by
 cases hq:q.2 with
 | true=>exact⟨fun h2=>by simp at h2,fun _=>by have:=h.2 hq;rw[dH];omega⟩
 | false=>
   obtain⟨h1,h2⟩:=h.1 hq
   rw[h1]
   exact⟨fun h3=>⟨rfl,by simpa using h3⟩,fun h3=>by simpa using h3⟩
theorem c0o{s:Sn}(hf:s.Fit):∀(n:Nat){pl:Ct}{cps:List Int}{a:Ct}{seen:List Ct}{l:List Rp}{q:List Rp×Bool},nJ s.o a=true→Met l q→Met (l++full s n pl cps a seen) (a2v s n pl cps a seen q):=by
 intro n
 induction n with
 | zero=>
   intro pl cps a seen l q _ h
   unfold full a2v
   exact h.node
 | succ n ih=>
   intro pl cps a seen l q ho h
   unfold full a2v
   rw[←eS]
   have h0:=h.node (m:=nP s pl cps a)
   generalize l++nP s pl cps a=l1 at h0
   generalize (q.1++nP s pl cps a,q.2||decide (500<(q.1++nP s pl cps a).length))=q1 at h0
   have key:∀k,Met (l1++(List.range k).flatMap fun i=>if onB s cps a seen i then full s n pl (cps++[(i:Int)]) (nA s i a) (seen++[nA s i a])else[]) ((List.range k).foldl (fun q i=>if q.2 then q else if uQ s cps a seen i then a2v s n pl (cps++[(i:Int)]) (nA s i a) (seen++[nA s i a]) q else q) q1):=by
    intro k
    induction k with
    | zero=>simpa using h0
    | succ k ihk=>
      rw[eV,dP,gY,←eS]
      simp only[ed,fx,dQ,gf,List.foldl_nil]
      generalize (List.range k).foldl _ q1=q2 at ihk
      generalize l1++(List.range k).flatMap _=l2 at ihk
      by_cases hm:q2.2=true
      ·rw[if_pos hm]
       exact ihk.more hm
      ·rw[if_neg hm]
       by_cases hb:onB s cps a seen k=true
       ·have hl:ldB s k a (decide (cps.length=0))=true:=by
         unfold onB at hb
         rw[dB]at hb
         exact hb.1
        rw[if_pos hb]
        by_cases hn:uQ s cps a seen k=true
        ·rw[if_pos hn]
         exact ih (a6l hf hl) ihk
        ·rw[if_neg hn,b7e hf n (a6l hf hl) (by simp),dQ]
         ·exact ihk
         ·unfold uQ at hn
          rw[hb]at hn
          simpa using hn
       ·rw[if_neg hb,if_neg (by unfold uQ;rw[dB];exact fun h=>hb h.1),dQ]
        exact ihk
   exact key _
def a9c(s:Sn):List Rp:=(jG s.ks).flatMap fun c=>full s 1025 c [] c []
end Go.Ds
namespace Go.Ds
open Go.Proofs Go.Proofs.Tryz
variable {H:Heap}
set_option maxRecDepth 10000
set_option maxHeartbeats 1000000
def wB(s:Sn):Nat→Option (Ct×List Int×Ct)
 | 0=>none
 | n+1=>match xM s (jB (jG s.ks) n),wB s n with
   | none,b=>b
   | some w,none=>some (jB (jG s.ks) n,w)
   | some w,some b=>if w.1.length<b.2.1.length then some (jB (jG s.ks) n,w)else some b
def b6l(s:Sn)(q:Option (Ct×List Int×Ct))(cv:Value):Rn:=match q with
 | none=>⟨(0,0),cv,[],(0,0),0⟩
 | some (c,l,e)=>⟨c,cv,l,e,jB (mT s e) 0⟩
def a4J(s:Sn):Option (Ct×List Int×Ct):=if tT s=0 then wB s (jG s.ks).length else none
theorem b7f(s:Sn)(c:Ct)(w:List Int×Ct)(h:xM s c=some w)(cv:Value):b6l s (some (c,w)) cv=nV s c cv:=by
 unfold nV
 rw[h]
 rfl
theorem b3K(s:Sn)(c:Ct)(cv:Value):(nV s c cv).cv=cv:=by unfold nV;split<;>rfl
theorem c5H(s:Sn)(c:Ct)(cv:Value):(nV s c cv).v=.agg #[I (nV s c cv).pl.1,I (nV s c cv).pl.2,cv,I (nV s c cv).tc.1,I (nV s c cv).tc.2,I (nV s c cv).stop]:=by
 show Value.agg #[_,_,(nV s c cv).cv,_,_,_]=_
 rw[b3K]
theorem b6n{s:Sn}{j:Nat}(h:xM s (jB (jG s.ks) j)=none):wB s (j+1)=wB s j:=by
 unfold wB
 rw[h]
 cases j<;>rfl
theorem a8U{s:Sn}{j:Nat}{w:List Int×Ct}(h:xM s (jB (jG s.ks) j)=some w)(hl:∀b,wB s j=some b→w.1.length<b.2.1.length):wB s (j+1)=some (jB (jG s.ks) j,w):=by
 show(match xM s (jB (jG s.ks) j),wB s j with
  | none,b=>b
  | some w,none=>some (jB (jG s.ks) j,w)
  | some w,some b=>if w.1.length<b.2.1.length then some (jB (jG s.ks) j,w)else some b)=_
 rw[h]
 cases hb:wB s j with
 | none=>rfl
 | some b=>exact if_pos (hl b hb)
theorem c2z{s:Sn}{j:Nat}{w:List Int×Ct}{b:Ct×List Int×Ct}(h:xM s (jB (jG s.ks) j)=some w)(hb:wB s j=some b)(hl:¬w.1.length<b.2.1.length):wB s (j+1)=wB s j:=by
 show(match xM s (jB (jG s.ks) j),wB s j with
  | none,b=>b
  | some w,none=>some (jB (jG s.ks) j,w)
  | some w,some b=>if w.1.length<b.2.1.length then some (jB (jG s.ks) j,w)else some b)=_
 rw[h,hb]
 exact if_neg hl
theorem b9N(hG:Glob gH H)(s:Sn)(hs:s.In H):Fn prog 22 [s.v] H fun r H'=>∃cv,r=.tuple #[(b6l s (a4J s) cv).v,.bool (a4J s).isSome,I (tT s)]∧St prog H H' [⟨cv,1,(b6l s (a4J s) cv).cps.flatMap (one I)⟩]:=by
 refine .aL func22 rfl (by kernel_rfl) (m:=51) rfl fun l hn g0=> ?_
 simp(disch:=omega) only[↓RA,RB,simprocAttr,g0]
 refine(sR H).eNew 10 [(.string s.o.name),s.o.rv,s.o.dv,s.o.cv,s.sv,(.int .u64 s.rg.cpl),(.int .u64 s.rg.off),s.kv,I s.p.1,I s.p.2] rfl rfl (by simp[OC,((sR H).sl hs.o.1).cells.2.1,((sR H).sl hs.o.2.2.1).cells.2.1,((sR H).sl hs.o.2.2.2.2.1).cells.2.1,((sR H).sl hs.rg.1).cells.2.1,((sR H).sl hs.ks.sl).cells.2.1]) oI fun A1 H1 hS1=> ?_
 simp only[RT]at hS1
 simp(disch:=omega) only[↓RA,RZ,simprocAttr]
 refine hS1.eNew 6 [I 0,I 0,(.slice none 0 0),I 0,I 0,I 0] rfl rfl rfl nW fun A2 H2 hS2=> ?_
 simp only[RT]at hS2
 simp(disch:=omega) only[↓RA,RZ,simprocAttr,hn,hS2.aj 0 rfl]
 refine hS2.cF (pS s (hs.ag hS2)) fun H3 hS3=> ?_
 simp(disch:=omega) only[↓RA,RB,simprocAttr,hn]
 refine jA (fun h1=> ?_) (fun h1=> ?_)
 ·have hL:a4J s=none:=by unfold a4J;rw[if_neg h1]
  simp(disch:=omega) only[↓RA,RZ,simprocAttr,hn,a4e,h1]
  refine hS3.ab 1 rfl [I 0,I 0,(.slice none 0 0),I 0,I 0,I 0] rfl rfl nW (by simp) fun H4 hS4=> ?_
  simp only[RT]at hS4
  simp(disch:=omega) only[↓RA,RZ,simprocAttr,hn,c5c,hS4.aj 1 rfl,h1]
  rw[hL]
  exact⟨.slice none 0 0,rfl,(hS4.forget).nil 0⟩
 have hz:tT s=0:=dW.1 h1
 have hf:=zZ.1 hz
 have hpl:=a1t hf.keys
 have hct:=uI hs.ks.ok hf.keys
 have hL:a4J s=wB s (jG s.ks).length:=by unfold a4J;rw[if_pos hz]
 simp(disch:=omega) only[↓RA,RZ,simprocAttr,hn,hS3.aj 0 rfl,h1]
 refine jI (a0m s (hs.ag hS3) hf) ?_
 rintro r H5⟨M,kvs,rfl,hD,hT2⟩
 have hS5:=hS3.trans hT2
 simp only[RT]at hS5
 simp(disch:=omega) only[↓RA,RZ,simprocAttr,hn,hS5.aj 0 rfl,h1]
 refine jI ((zD (hS5.gl hG) s (hs.ag hS5) hf).tr) ?_
 rintro r H6⟨-,hT3⟩
 have hS6:=hS5.trans hT3
 simp only[RT]at hS6
 obtain⟨pw,rfl⟩:∃w,w=r:=⟨r,rfl⟩
 simp(disch:=omega) only[↓RA,RZ,simprocAttr,hn,(hS6.av 3 rfl lB).len,h1]
 have hS7:=hS6.nil 0
 simp only[RT]at hS7
 refine Wp.aq (fun n l H'=>l.length=51∧get l 1=(ptr A1 0 10)∧get l 2=(ptr A2 0 6)∧get l 4=I 0∧get l 6=(.map (some M))∧get l 20=pw∧get l 21=I (jG s.ks).length∧∃(j:Nat)(x:Rn),(n+j=(jG s.ks).length∧x=b6l s (wB s j) x.cv)∧get l 22=I j∧get l 3=(.bool (wB s j).isSome)∧St prog H H' [⟨ptr A1 0 10,0,[(.string s.o.name),s.o.rv,s.o.dv,s.o.cv,s.sv,(.int .u64 s.rg.cpl),(.int .u64 s.rg.off),s.kv,I s.p.1,I s.p.2]⟩,⟨ptr A2 0 6,0,[I x.pl.1,I x.pl.2,x.cv,I x.tc.1,I x.tc.2,I x.stop]⟩,⟨.map (some M),0,KN kvs⟩,⟨pw,2,pr (jG s.ks)⟩,⟨x.cv,1,x.cps.flatMap (one I)⟩]) (jG s.ks).length ?_ ?_
 ·simp(disch:=omega) only[RB,RC,simprocAttr,hn]
  exact⟨0,⟨(0,0),.slice none 0 0,[],(0,0),0⟩,⟨by omega,rfl⟩,rfl,rfl,hS7⟩
 rintro n l H7⟨hn,g1,g2,g4,g6,g20,g21,j,x,⟨hj,hx⟩,g22,g3,hS8⟩
 simp(disch:=omega) only[↓RA,RB,simprocAttr,hn,g21,g22]
 refine jA (fun q1=> ?_) (fun q1=> ?_)
 ·have hcc:=hct _ (jE (xs:=jG s.ks) (j:=j) (by omega))
  simp(disch:=omega) only[↓RA,RZ,simprocAttr,hn,g20,g22,(hS8.av 3 rfl lB).idx,(hS8.av 3 rfl lB).aj,mD,q1]
  refine hS8.eNew 2 [I 0,I 0] rfl rfl rfl mM fun A3 H8 hS9=> ?_
  simp only[RT]at hS9
  simp(disch:=omega) only[↓RA,RZ,simprocAttr,hn,q1]
  refine hS9.ab 5 rfl [I (jB (jG s.ks) j).1,I (jB (jG s.ks) j).2] rfl rfl mM (by simp) fun H9 hS10=> ?_
  simp only[RT]at hS10
  simp(disch:=omega) only[↓RA,RZ,simprocAttr,hn,g1,g6,hS10.aj 0 rfl,hS10.aj 5 rfl,q1]
  refine jI (a7D s (hs.ag hS10) hf (jB (jG s.ks) j) hcc M kvs (hS10.own _ (dR (i:=2) rfl)) hD) ?_
  rintro r H10⟨cw,rfl,hT4⟩
  have hS11:=hS10.trans hT4
  simp only[RT]at hS11
  have hyc:=b3K s (jB (jG s.ks) j) cw
  have hyv:=c5H s (jB (jG s.ks) j) cw
  simp(disch:=omega) only[↓RA,RZ,simprocAttr,hn,q1,hyv]
  refine hS11.eNew 6 [I 0,I 0,(.slice none 0 0),I 0,I 0,I 0] rfl rfl rfl nW fun A4 H11 hS12=> ?_
  simp only[RT]at hS12
  simp(disch:=omega) only[↓RA,RZ,simprocAttr,hn,q1,hyv]
  refine hS12.ab 7 rfl [I (nV s (jB (jG s.ks) j) cw).pl.1,I (nV s (jB (jG s.ks) j) cw).pl.2,cw,I (nV s (jB (jG s.ks) j) cw).tc.1,I (nV s (jB (jG s.ks) j) cw).tc.2,I (nV s (jB (jG s.ks) j) cw).stop] rfl (by simp[OC,(hS12.rd 6 rfl).cells.2.1]) nW (by simp) fun H12 hS13=> ?_
  simp only[RT]at hS13
  simp(disch:=omega) only[↓RA,RZ,simprocAttr,hn,q1,hyv]
  refine lL (fun q2=> ?_) (fun q2=> ?_)
  ·obtain⟨w,hw⟩:=fm.1 q2
   have hyl:(nV s (jB (jG s.ks) j) cw).cps=w.1:=by unfold nV;rw[hw]
   have hy2:=b7f s (jB (jG s.ks) j) w hw cw
   simp(disch:=omega) only[↓RA,RZ,simprocAttr,hn,g3,q1,hyv,q2]
   refine lL (fun q3=> ?_) (fun q3=> ?_)
   ·have hsu:=a8U (j:=j) hw (fun b hb=>by rw[hb]at q3;simp at q3)
    simp(disch:=omega) only[↓RA,RZ,simprocAttr,hn,g2,hS13.aj 7 rfl,q1,hyv,q2,q3]
    refine hS13.ab 1 rfl [I (nV s (jB (jG s.ks) j) cw).pl.1,I (nV s (jB (jG s.ks) j) cw).pl.2,cw,I (nV s (jB (jG s.ks) j) cw).tc.1,I (nV s (jB (jG s.ks) j) cw).tc.2,I (nV s (jB (jG s.ks) j) cw).stop] rfl (by simp[OC,(hS13.rd 6 rfl).cells.2.1]) nW (by simp) fun H13 hS14=> ?_
    simp only[RT]at hS14
    simp(disch:=omega) only[↓RA,RZ,simprocAttr,hn,g1,g2,g4,g6,g20,g21,g22,q1,hyv,q2,q3]
    refine⟨n-1,by omega,j+1,nV s (jB (jG s.ks) j) cw,⟨by omega,by rw[hsu,hyc,hy2]⟩,by simp,by rw[hsu];rfl,?_⟩
    rw[hyc]
    exact hS14.pick [0,1,2,3,6] (by decide) rfl
   obtain⟨b,hb⟩:∃b,wB s j=some b:=by
    cases hb:wB s j with
    | none=>rw[hb]at q3;simp at q3
    | some b=>exact⟨b,rfl⟩
   have hxl:x.cps=b.2.1:=by rw[hx,hb];rfl
   simp(disch:=omega) only[↓RA,RZ,simprocAttr,hn,g2,hS13.ld 7 rfl,(hS13.av 6 rfl (fun _=>rfl)).len,hS13.ld 1 rfl,(hS13.av 4 rfl (fun _=>rfl)).len,q1,hyv,q2,q3]
   refine jA (fun q4=> ?_) (fun q4=> ?_)
   ·have hsu:=a8U (j:=j) hw (fun b2 hb2=>by rw[hb]at hb2;cases hb2;rw[hyl,hxl]at q4;omega)
    simp(disch:=omega) only[↓RA,RZ,simprocAttr,hn,g2,hS13.aj 7 rfl,q1,hyv,q2,q3,q4]
    refine hS13.ab 1 rfl [I (nV s (jB (jG s.ks) j) cw).pl.1,I (nV s (jB (jG s.ks) j) cw).pl.2,cw,I (nV s (jB (jG s.ks) j) cw).tc.1,I (nV s (jB (jG s.ks) j) cw).tc.2,I (nV s (jB (jG s.ks) j) cw).stop] rfl (by simp[OC,(hS13.rd 6 rfl).cells.2.1]) nW (by simp) fun H14 hS15=> ?_
    simp only[RT]at hS15
    simp(disch:=omega) only[↓RA,RZ,simprocAttr,hn,g1,g2,g4,g6,g20,g21,g22,q1,hyv,q2,q3,q4]
    refine⟨n-1,by omega,j+1,nV s (jB (jG s.ks) j) cw,⟨by omega,by rw[hsu,hyc,hy2]⟩,by simp,by rw[hsu];rfl,?_⟩
    rw[hyc]
    exact hS15.pick [0,1,2,3,6] (by decide) rfl
   have hsu:=c2z (j:=j) hw hb (by rw[hyl,hxl]at q4;omega)
   simp(disch:=omega) only[↓RA,RZ,simprocAttr,hn,g1,g2,g4,g6,g20,g21,g22,g3,q1,hyv,q2,q3,q4]
   refine⟨n-1,by omega,j+1,x,⟨by omega,by rw[hsu];exact hx⟩,by simp,by rw[hsu],?_⟩
   exact hS13.pick [0,1,2,3,4] (by decide) rfl
  have hw:xM s (jB (jG s.ks) j)=none:=by simpa using q2
  have hsu:=b6n (j:=j) hw
  simp(disch:=omega) only[↓RA,RZ,simprocAttr,hn,g1,g2,g4,g6,g20,g21,g22,g3,q1,hyv,q2]
  refine⟨n-1,by omega,j+1,x,⟨by omega,by rw[hsu];exact hx⟩,by simp,by rw[hsu],?_⟩
  exact hS13.pick [0,1,2,3,4] (by decide) rfl
 have hjj:j=(jG s.ks).length:=by omega
 rw[hjj]at hx
 simp(disch:=omega) only[↓RA,RZ,simprocAttr,hn,g2,g3,hS8.aj 1 rfl,q1]
 refine hS8.ab 1 rfl [I x.pl.1,I x.pl.2,x.cv,I x.tc.1,I x.tc.2,I x.stop] rfl (by simp[OC,(hS8.rd 4 rfl).cells.2.1]) nW (by simp) fun H15 hS16=> ?_
 simp only[RT]at hS16
 simp(disch:=omega) only[↓RA,RZ,simprocAttr,hn,g2,c5c,hS16.aj 1 rfl,q1]
 rw[hL,hz,hjj]
 refine⟨x.cv,by rw[←hx],?_⟩
 rw[←hx]
 exact hS16.pick [4] (by decide) rfl
def b1M(v:Value):Option Value:=match v with
 | .pointer (some a)=>some (.pointer (some a))
 | .func (.func f) a b=>some (.func (.func f) a b)
 | _=>none
theorem mF{P:Program}(d:Option Tmp)(ty:TypeId)(pos:String)(af:Array Edge)(g:Option (Nat×Bool))(x:Operand)(l:List Value)(K:Value→Heap→Prop):nI P ⟨d,.nilCheck x,ty,pos,af,g⟩ l H K=kK x l fun x=>kU (b1M x) fun v=>K v H:=by
 have h:opD P ⟨d,.nilCheck x,ty,pos,af,g⟩ l H=(b1M (ev l x)).map fun v=>(v,H):=by
  simp only[opD,b1M]
  generalize ev l x=vx
  split
  ·rfl
  ·rfl
  ·rename_i h1 h2
   split
   ·exact(h1 _ rfl).elim
   ·exact(h2 _ _ _ rfl).elim
   ·rfl
 have h2:kZ ((b1M (ev l x)).map fun v=>(v,H)) K=kU (b1M (ev l x)) fun v=>K v H:=by cases b1M (ev l x)<;>rfl
 simp only[nI,h,kK,Op.operands,h2]
 simp
theorem mG(A o n:Nat)(K:Value→Prop):kU (b1M (ptr A o n)) K=oX (ptr A o n) K:=rfl
theorem c3M(a:Addr)(m c:Nat):lK prog .eql 24 24 false true (.slice (some a) m c) (.slice none 0 0)=some (.bool false):=by kernel_rfl
theorem a6E{v:Value}{a:Addr}{m c:Nat}(h:v=.slice (some a) m c)(K:Value→Prop):lZ prog .eql 24 24 false true v (.slice none 0 0) K=oX (.bool false) K:=by
 subst h
 show kU (lK prog .eql 24 24 false true (.slice (some a) m c) (.slice none 0 0)) K=_
 rw[c3M]
 rfl
theorem b7P:lK prog .eql 24 24 false true (.slice none 0 0) (.slice none 0 0)=some (.bool true):=by kernel_rfl
theorem a4u(K:Value→Prop):lZ prog .eql 24 24 false true (.slice none 0 0) (.slice none 0 0) K=oX (.bool true) K:=by
 show kU (lK prog .eql 24 24 false true (.slice none 0 0) (.slice none 0 0)) K=_
 rw[b7P]
 rfl
theorem b0u(v:Value)(xs:List Int)(hv:Sl 1 (one I) H v xs)(hl:xs.length<100000000):Fn prog 96 [v] H fun r H'=>St prog H H' [⟨r,1,xs.flatMap (one I)⟩]:=by
 have hxl:(xs.flatMap (one I)).length=xs.length:=by rw[mQ,dU]
 rcases hv.rd with⟨rfl,h2⟩|⟨A,i,e,row,ty,rw',lo,ver,m,_,_,_,_,_,_,hvv⟩
 ·have hx:xs=[]:=by
   have:=congrArg List.length h2
   rw[hxl,dV]at this
   exact eR.1 (by omega)
  subst hx
  refine .aL func96 rfl (by kernel_rfl) (m:=8) rfl fun l hn g0=> ?_
  simp(disch:=omega) only[↓RA,RB,simprocAttr,hn,g0,a4u]
  have hS1:=(sR H).nil 0
  simp only[RT]at hS1
  simp(disch:=omega) only[RB,simprocAttr,hn,c8M]
  exact hS1
 ·refine .aL func96 rfl (by kernel_rfl) (m:=8) rfl fun l hn g0=> ?_
  simp(disch:=omega) only[↓RA,RB,simprocAttr,hn,g0,a6E hvv]
  refine(sR H).ba qK fun w1 H1 hS1=> ?_
  simp only[RT]at hS1
  simp(disch:=omega) only[↓RA,RZ,simprocAttr,hn,g0]
  refine hS1.al 0 rfl (hS1.sl hv).rd qK (by rw[hxl];simp;omega) fun w2 H2 hS2=> ?_
  simp only[RT]at hS2
  simp(disch:=omega) only[↓RA,RB,simprocAttr,hn,c8M]
  exact hS2
def lX:List Int→List Int→Int
 | [],[]=>0
 | [],_::_=>-1
 | _::_,[]=>1
 | a::l,b::m=>if lA a b=0 then lX l m else lA a b
theorem pR{a b:Int}:lA a b=0↔a=b:=by unfold lA;split<;>(try split)<;>omega
theorem b5U(a:Int):lA a a=0:=pR.2 rfl
theorem wV:∀{u u' v v':List Int},u.length=u'.length→lX (u++v) (u'++v')=if lX u u'=0 then lX v v' else lX u u'
 | [],[],v,v',_=>by simp[lX]
 | [],_::_,_,_,h=>by cases h
 | _::_,[],_,_,h=>by cases h
 | a::u,b::u',v,v',h=>by
   have ih:=wV (u:=u) (u':=u') (v:=v) (v':=v') (by simpa using h)
   simp only[fO,lX]
   by_cases hc:lA a b=0
   ·simp only[hc,if_true]
    exact ih
   ·simp only[hc,if_false]
theorem uR:∀{j:Nat}{xs ys:List Int},j≤xs.length→j≤ys.length→(∀q,q<j→jB xs q=jB ys q)→lX xs ys=lX (xs.drop j) (ys.drop j)
 | 0,_,_,_,_,_=>rfl
 | j+1,[],_,h,_,_=>by simp at h
 | j+1,_::_,[],_,h,_=>by simp at h
 | j+1,a::xs,b::ys,h1,h2,h=>by
   have h0:a=b:=h 0 (by omega)
   rw[gI,gI,←uR (by simpa using h1) (by simpa using h2) (fun q hq=>h (q+1) (by omega)),h0]
   show(if lA b b=0 then lX xs ys else lA b b)=_
   rw[if_pos (b5U b)]
theorem a6V{j:Nat}{xs ys:List Int}(h1:j<xs.length)(h2:j<ys.length)(h:∀q,q<j→jB xs q=jB ys q)(hc:lA (jB xs j) (jB ys j)≠0):lX xs ys=lA (jB xs j) (jB ys j):=by
 rw[uR (by omega) (by omega) h,qI xs j h1,qI ys j h2]
 exact if_neg hc
def a1u(r:Rn):List Int:=[(r.cps.length:Int),r.pl.1,r.pl.2]++r.cps++[r.tc.1,r.tc.2,r.stop]
def a0X(a b:Rn):Int:=lX (a1u a) (a1u b)
theorem a9K(a:Int)(l:List Int):orI (a::l)=if a=0 then orI l else a:=rfl
theorem c9c(a b:Int):lX [a] [b]=lA a b:=by
 show(if lA a b=0 then 0 else lA a b)=_
 split
 ·rename_i h;exact h.symm
 ·rfl
theorem c3O(a b:Rn):a0X a b=orI [lA a.cps.length b.cps.length,lX [a.pl.1,a.pl.2] [b.pl.1,b.pl.2],lX a.cps b.cps,lX [a.tc.1,a.tc.2] [b.tc.1,b.tc.2],lA a.stop b.stop]:=by
 have hr:∀r:Rn,a1u r=[(r.cps.length:Int)]++([r.pl.1,r.pl.2]++(r.cps++([r.tc.1,r.tc.2]++[r.stop]))):=fun r=>by simp[a1u]
 unfold a0X
 rw[hr,hr,wV (by rfl),c9c,a9K]
 by_cases hl:lA a.cps.length b.cps.length=0
 ·rw[if_pos hl,if_pos hl]
  have hl2:a.cps.length=b.cps.length:=by have:=pR.1 hl;omega
  rw[wV (by rfl),wV hl2,wV (by rfl),c9c]
  simp only[a9K]
  congr 3
  show lA a.stop b.stop=if lA a.stop b.stop=0 then 0 else lA a.stop b.stop
  split
  ·assumption
  ·rfl
 ·rw[if_neg hl,if_neg hl]
theorem a8E(x y:Int×Int):Fn prog 41 [.agg #[I x.1,I x.2],.agg #[I y.1,I y.2]] H fun r H'=>r=I (lX [x.1,x.2] [y.1,y.2])∧St prog H H' []:=by
 refine .aE func41 rfl (by kernel_rfl) (m:=17) rfl fun l hn g0 g1=> ?_
 simp(disch:=omega) only[↓RA,RB,simprocAttr,g0]
 refine(sR H).eNew 2 [I x.1,I x.2] rfl rfl rfl mM fun A1 H1 hS1=> ?_
 simp only[RT]at hS1
 simp(disch:=omega) only[↓RA,RB,simprocAttr,g1]
 refine hS1.eNew 2 [I y.1,I y.2] rfl rfl rfl mM fun A2 H2 hS2=> ?_
 simp only[RT]at hS2
 simp(disch:=omega) only[↓RA,RB,simprocAttr]
 refine Wp.aF kS [(6,0),(8,0)] (by kernel_rfl) (by kernel_rfl) ?_
 simp(disch:=omega) only[↓RA,RZ,simprocAttr,hn,hS2.ld 0 rfl,hS2.ld 1 rfl]
 refine hS2.cF (pE x.1 y.1) fun H3 hS3=> ?_
 simp(disch:=omega) only[↓RA,RZ,simprocAttr,hn,hS3.ld 0 rfl,hS3.ld 1 rfl]
 refine hS3.cF (pE x.2 y.2) fun H4 hS4=> ?_
 simp(disch:=omega) only[↓RA,RB,simprocAttr,hn]
 refine hS4.ai [I (lA x.1 y.1),I (lA x.2 y.2)] qK wM rfl rfl (by simp[Value.cells]) rfl rfl (by decide) (by decide) fun w1 H5 hS5=> ?_
 simp only[RT]at hS5
 simp(disch:=omega) only[↓RA,RZ,simprocAttr,hn]
 refine hS5.cF (a7W w1 [lA x.1 y.1,lA x.2 y.2] (hS5.av 2 rfl (mC _)) (by simp)) fun H6 hS6=> ?_
 simp(disch:=omega) only[↓RA,RZ,simprocAttr,hn,hS2.ld 0 rfl,hS2.ld 1 rfl,d0I]
 exact⟨rfl,hS6.forget⟩
theorem c2s(v w:Value)(xs ys:List Int)(hv:Sl 1 (one I) H v xs)(hw:Sl 1 (one I) H w ys)(hl:xs.length<1000000000)(hl2:ys.length<1000000000):Fn prog 42 [v,w] H fun r H'=>r=I (lX xs ys)∧St prog H H' []:=by
 refine .aE func42 rfl (by kernel_rfl) (m:=36) rfl fun l hn g0 g1=> ?_
 simp(disch:=omega) only[↓RA,RZ,simprocAttr,hn,g0,((sR H).sl hv).len]
 refine Wp.aq (fun n l H'=>l.length=36∧get l 0=v∧get l 1=w∧get l 9=v∧get l 10=I xs.length∧∃(j:Nat),(n+j=xs.length∧j≤ys.length∧∀q,q<j→jB xs q=jB ys q)∧get l 11=I j∧St prog H H' []) xs.length ?_ ?_
 ·simp(disch:=omega) only[RB,RC,simprocAttr,hn,g0,g1]
  exact⟨0,⟨by omega,fu _,fun q hq=>absurd hq (ez _)⟩,rfl,(sR H)⟩
 rintro n l H1⟨hn,g0,g1,g9,yC,j,⟨hj,hjy,hz⟩,g11,hS1⟩
 simp(disch:=omega) only[↓RA,RB,simprocAttr,hn,yC,g11]
 refine jA (fun q1=> ?_) (fun q1=> ?_)
 ·simp(disch:=omega) only[↓RA,RZ,simprocAttr,hn,g1,g9,g11,(hS1.sl hv).idx,(hS1.sl hv).ld,one,(hS1.sl hw).len,q1]
  refine jA (fun q2=> ?_) (fun q2=> ?_)
  ·simp(disch:=omega) only[↓RA,RZ,simprocAttr,hn,c3I,q1,q2]
   refine⟨?_,hS1⟩
   rw[uR (j:=j) (by omega) hjy hz,qI xs j (by omega),show ys.drop j=[]from gJ (by omega)]
   rfl
  simp(disch:=omega) only[↓RA,RZ,simprocAttr,hn,g1,(hS1.sl hw).idx,(hS1.sl hw).ld,one,q1,q2]
  refine hS1.cF (pE (jB xs j) (jB ys j)) fun H2 hS2=> ?_
  simp(disch:=omega) only[↓RA,RZ,simprocAttr,hn,q1,q2]
  refine jA (fun q3=> ?_) (fun q3=> ?_)
  ·simp(disch:=omega) only[↓RA,RZ,simprocAttr,hn,c3I,q1,q2,q3]
   exact⟨by rw[a6V (by omega) (by omega) hz q3],hS2⟩
  have q3':jB xs j=jB ys j:=pR.1 (dW.1 q3)
  simp(disch:=omega) only[↓RA,RZ,simprocAttr,hn,g0,g1,g9,yC,g11,q1,q2,q3]
  exact⟨n-1,by omega,j+1,⟨by omega,by omega,fun q hq=>by rcases dN.1 hq with e|e;(· exact hz q e);(· rw[e];exact q3')⟩,by simp,hS2⟩
 have hjj:j=xs.length:=by omega
 have hd:lX xs ys=lX [] (ys.drop j):=by rw[uR (j:=j) (by omega) hjy hz,hjj,iK]
 simp(disch:=omega) only[↓RA,RZ,simprocAttr,hn,g0,g1,(hS1.sl hv).len,(hS1.sl hw).len,q1]
 refine jA (fun q4=> ?_) (fun q4=> ?_)
 ·simp(disch:=omega) only[↓RA,RZ,simprocAttr,hn,c3I,q1,q4]
  refine⟨?_,hS1⟩
  rw[hd,qI ys j (by omega)]
  rfl
 simp(disch:=omega) only[↓RA,RZ,simprocAttr,hn,c3I,q1,q4]
 refine⟨?_,hS1⟩
 rw[hd,gJ (by omega)]
 rfl
theorem c3g(a b:Rn)(ha:a.In H)(hb:b.In H):Fn prog 11 [a.v,b.v] H fun r H'=>r=I (a0X a b)∧St prog H H' []:=by
 have hal:=ha.2
 have hbl:=hb.2
 refine .aE func11 rfl (by kernel_rfl) (m:=34) rfl fun l hn g0 g1=> ?_
 simp(disch:=omega) only[↓RA,RB,simprocAttr,g0]
 refine(sR H).eNew 6 [I a.pl.1,I a.pl.2,a.cv,I a.tc.1,I a.tc.2,I a.stop] rfl rfl (by simp[OC,((sR H).sl ha.1).cells.2.1]) nW fun A1 H1 hS1=> ?_
 simp only[RT]at hS1
 simp(disch:=omega) only[↓RA,RB,simprocAttr,g1]
 refine hS1.eNew 6 [I b.pl.1,I b.pl.2,b.cv,I b.tc.1,I b.tc.2,I b.stop] rfl rfl (by simp[OC,(hS1.sl hb.1).cells.2.1]) nW fun A2 H2 hS2=> ?_
 simp only[RT]at hS2
 simp(disch:=omega) only[↓RA,RB,simprocAttr]
 refine Wp.aF kS [(8,0),(10,0),(13,0),(13,7),(15,0),(15,7),(18,0),(18,7),(18,12),(20,0),(20,7),(20,12),(23,0),(23,7),(23,12),(23,17),(25,0),(25,7),(25,12),(25,17)] (by kernel_rfl) (by kernel_rfl) ?_
 simp(disch:=omega) only[↓RA,RZ,simprocAttr,hn,hS2.ld 0 rfl,(hS2.sl ha.1).len,hS2.ld 1 rfl,(hS2.sl hb.1).len]
 refine hS2.cF (pE a.cps.length b.cps.length) fun H3 hS3=> ?_
 simp(disch:=omega) only[↓RA,RZ,simprocAttr,hn,hS3.aj 0 rfl,hS3.aj 1 rfl]
 refine hS3.cF (a8E a.pl b.pl) fun H4 hS4=> ?_
 simp(disch:=omega) only[↓RA,RZ,simprocAttr,hn,hS4.ld 0 rfl,hS4.ld 1 rfl]
 refine hS4.cF (c2s a.cv b.cv a.cps b.cps (hS4.sl ha.1) (hS4.sl hb.1) (by omega) (by omega)) fun H5 hS5=> ?_
 simp(disch:=omega) only[↓RA,RZ,simprocAttr,hn,hS5.aj 0 rfl,hS5.aj 1 rfl]
 refine hS5.cF (a8E a.tc b.tc) fun H6 hS6=> ?_
 simp(disch:=omega) only[↓RA,RZ,simprocAttr,hn,hS6.ld 0 rfl,hS6.ld 1 rfl]
 refine hS6.cF (pE a.stop b.stop) fun H7 hS7=> ?_
 simp(disch:=omega) only[↓RA,RB,simprocAttr,hn]
 refine hS7.ai [I (lA a.cps.length b.cps.length),I (lX [a.pl.1,a.pl.2] [b.pl.1,b.pl.2]),I (lX a.cps b.cps),I (lX [a.tc.1,a.tc.2] [b.tc.1,b.tc.2]),I (lA a.stop b.stop)] qK wM rfl rfl (by simp[Value.cells]) rfl rfl (by decide) (by decide) fun w1 H8 hS8=> ?_
 simp only[RT]at hS8
 simp(disch:=omega) only[↓RA,RZ,simprocAttr,hn]
 refine hS8.cF (a7W w1 [lA a.cps.length b.cps.length,lX [a.pl.1,a.pl.2] [b.pl.1,b.pl.2],lX a.cps b.cps,lX [a.tc.1,a.tc.2] [b.tc.1,b.tc.2],lA a.stop b.stop] (hS8.av 2 rfl (mC _)) (by simp)) fun H9 hS9=> ?_
 rw[←c3O]
 simp(disch:=omega) only[↓RA,RZ,simprocAttr,hn,hS2.aj 0 rfl,hS2.aj 1 rfl,hS2.ld 0 rfl,hS3.ld 0 rfl,hS2.ld 1 rfl,hS3.ld 1 rfl,hS3.aj 0 rfl,hS4.aj 0 rfl,hS3.aj 1 rfl,hS4.aj 1 rfl,hS4.ld 0 rfl,hS5.ld 0 rfl,hS4.ld 1 rfl,hS5.ld 1 rfl,d0k]
 exact hS9.forget
def h3(r:Rn):List Int:=[(r.cps.length:Int),r.pl.1,r.pl.2]
def t3(r:Rn):List Int:=[r.tc.1,r.tc.2,r.stop]
def rK(a b r:Rn):List Int:=if a.cps.length=b.cps.length then r.cps else[]
theorem b8q(a b:Rn):a0X a b=lX (h3 a++rK a b a++t3 a) (h3 b++rK a b b++t3 b):=by
 unfold rK
 by_cases hl:a.cps.length=b.cps.length
 ·rw[if_pos hl,if_pos hl]
  rfl
 ·rw[if_neg hl,if_neg hl]
  have hne:lA a.cps.length b.cps.length≠0:=fun h=>hl (by have:=pR.1 h;omega)
  show(if lA a.cps.length b.cps.length=0 then _ else lA a.cps.length b.cps.length)=(if lA a.cps.length b.cps.length=0 then _ else lA a.cps.length b.cps.length)
  rw[if_neg hne,if_neg hne]
theorem b6q(a b:Rn)(ha:a.In H)(hb:b.In H):Fn prog 12 [a.v,b.v] H fun r H'=>r=I (a0X a b)∧St prog H H' []:=by
 have hal:=ha.2
 have hbl:=hb.2
 refine .aE func12 rfl (by kernel_rfl) (m:=95) rfl fun l hn g0 g1=> ?_
 simp(disch:=omega) only[↓RA,RB,simprocAttr,g0]
 refine(sR H).eNew 6 [I a.pl.1,I a.pl.2,a.cv,I a.tc.1,I a.tc.2,I a.stop] rfl rfl (by simp[OC,((sR H).sl ha.1).cells.2.1]) nW fun A1 H1 hS1=> ?_
 simp only[RT]at hS1
 simp(disch:=omega) only[↓RA,RB,simprocAttr,g1]
 refine hS1.eNew 6 [I b.pl.1,I b.pl.2,b.cv,I b.tc.1,I b.tc.2,I b.stop] rfl rfl (by simp[OC,(hS1.sl hb.1).cells.2.1]) nW fun A2 H2 hS2=> ?_
 simp only[RT]at hS2
 simp(disch:=omega) only[↓RA,RZ,simprocAttr,hn,hS2.ld 0 rfl,(hS2.sl ha.1).len]
 refine hS2.ai [I a.cps.length,I a.pl.1,I a.pl.2] qK wM rfl rfl (by simp[Value.cells]) rfl rfl (by decide) (by decide) fun w1 H3 hS3=> ?_
 simp only[RT]at hS3
 simp(disch:=omega) only[↓RA,RZ,simprocAttr,hn,hS3.ld 1 rfl,(hS3.sl hb.1).len]
 refine hS3.ai [I b.cps.length,I b.pl.1,I b.pl.2] qK wM rfl rfl (by simp[Value.cells]) rfl rfl (by decide) (by decide) fun w2 H4 hS4=> ?_
 simp only[RT]at hS4
 simp(disch:=omega) only[↓RA,RZ,simprocAttr,hn,hS4.ld 0 rfl,(hS4.sl ha.1).len,hS4.ld 1 rfl,(hS4.sl hb.1).len]
 refine zS (fun l H'=>l.length=95∧get l 2=(ptr A1 0 6)∧get l 3=(ptr A2 0 6)∧get l 4=I 0∧∃(u v:Value),get l 5=u∧get l 6=v∧St prog H H' [⟨ptr A1 0 6,0,[I a.pl.1,I a.pl.2,a.cv,I a.tc.1,I a.tc.2,I a.stop]⟩,⟨ptr A2 0 6,0,[I b.pl.1,I b.pl.2,b.cv,I b.tc.1,I b.tc.2,I b.stop]⟩,⟨u,1,(h3 a++rK a b a).flatMap (one I)⟩,⟨v,1,(h3 b++rK a b b).flatMap (one I)⟩]) ?_ ?_
 ·rintro l H5⟨hn,g2,g3,g4,u,v,g5,g6,hS5⟩
  have hXl:(h3 a++rK a b a++t3 a).length=(h3 b++rK a b b++t3 b).length:=by unfold rK;split<;>simp[h3,t3, *]
  have hXa:(h3 a++rK a b a++t3 a).length≤100000010:=by unfold rK;split<;>simp[h3,t3]<;>omega
  have hma:(rK a b a).length≤100000000:=by unfold rK;split;(· omega);(· simp)
  have hmb:(rK a b b).length≤100000000:=by unfold rK;split;(· omega);(· simp)
  have hsa:(h3 a++rK a b a).flatMap (one I)++[I a.tc.1,I a.tc.2,I a.stop]=(h3 a++rK a b a++t3 a).flatMap (one I):=(dP (xs:=h3 a++rK a b a) (ys:=t3 a)).symm
  have hsb:(h3 b++rK a b b).flatMap (one I)++[I b.tc.1,I b.tc.2,I b.stop]=(h3 b++rK a b b++t3 b).flatMap (one I):=(dP (xs:=h3 b++rK a b b) (ys:=t3 b)).symm
  simp(disch:=omega) only[↓RA,simprocAttr]
  refine Wp.aF kS [(14,0),(17,0),(19,0)] (by kernel_rfl) (by kernel_rfl) ?_
  simp(disch:=omega) only[↓RA,RZ,simprocAttr,hn,g2,g5,hS5.ld 0 rfl]
  refine hS5.ai [I a.tc.1,I a.tc.2,I a.stop] qK wM rfl rfl (by simp[Value.cells]) rfl rfl (by decide) (by decide) fun w3 H6 hS6=> ?_
  simp only[RT]at hS6
  simp(disch:=omega) only[↓RA,RZ,simprocAttr,hn]
  refine hS6.al 2 rfl (hS6.rd 4 rfl) qK (by rw[mQ,dU];simp[h3];omega) fun w4 H7 hS7=> ?_
  simp only[RT]at hS7
  simp(disch:=omega) only[↓RA,RZ,simprocAttr,hn,g3,g6]
  rw[hsa]at hS7
  simp(disch:=omega) only[↓RA,RZ,simprocAttr,hn,g3,hS7.ld 1 rfl]
  refine hS7.ai [I b.tc.1,I b.tc.2,I b.stop] qK wM rfl rfl (by simp[Value.cells]) rfl rfl (by decide) (by decide) fun w5 H8 hS8=> ?_
  simp only[RT]at hS8
  simp(disch:=omega) only[↓RA,RZ,simprocAttr,hn]
  refine hS8.al 3 rfl (hS8.rd 5 rfl) qK (by rw[mQ,dU];simp[h3];omega) fun w6 H9 hS9=> ?_
  simp only[RT]at hS9
  simp(disch:=omega) only[↓RA,RZ,simprocAttr,hn,hS5.ld 1 rfl]
  rw[hsb]at hS9
  obtain⟨X,hX⟩:∃X,h3 a++rK a b a++t3 a=X:=⟨_,rfl⟩
  obtain⟨Y,hY⟩:∃Y,h3 b++rK a b b++t3 b=Y:=⟨_,rfl⟩
  have hR:a0X a b=lX X Y:=by rw[b8q,hX,hY]
  rw[hX,hY]at hXl
  rw[hX]at hXa
  rw[hX,hY]at hS9
  refine Wp.aq (fun n l H'=>l.length=95∧get l 5=w4∧get l 6=w6∧∃(j:Nat),(n+j=X.length∧∀q,q<j→jB X q=jB Y q)∧get l 7=I j∧St prog H H' [⟨ptr A1 0 6,0,[I a.pl.1,I a.pl.2,a.cv,I a.tc.1,I a.tc.2,I a.stop]⟩,⟨ptr A2 0 6,0,[I b.pl.1,I b.pl.2,b.cv,I b.tc.1,I b.tc.2,I b.stop]⟩,⟨w4,1,X.flatMap (one I)⟩,⟨w6,1,Y.flatMap (one I)⟩,⟨w3,1,[I a.tc.1,I a.tc.2,I a.stop]⟩,⟨w5,1,[I b.tc.1,I b.tc.2,I b.stop]⟩]) X.length ?_ ?_
  ·simp(disch:=omega) only[RB,RC,simprocAttr,hn]
   exact⟨0,⟨by omega,fun q hq=>absurd hq (ez _)⟩,rfl,hS9⟩
  rintro n l H10⟨hn,g5,g6,j,⟨hj,hz⟩,g7,hS10⟩
  simp(disch:=omega) only[↓RA,RZ,simprocAttr,hn,g5,g7,(hS10.av 2 rfl (fun _=>rfl)).len]
  refine kG (fun q1=> ?_) (fun q1=> ?_)
  ·simp(disch:=omega) only[↓RA,RZ,simprocAttr,hn,g6,g7,(hS10.av 3 rfl (fun _=>rfl)).len,q1]
   refine jA (fun q2=> ?_) (fun q2=> ?_)
   rotate_left
   ·exfalso;first|omega|(simp at q2;omega)
   simp(disch:=omega) only[↓RA,RC,simprocAttr,q1,q2]
   refine Wp.drw kS (by kernel_rfl) ?_
   simp(disch:=omega) only[↓RA,RZ,simprocAttr,hn,g5,g6,g7,(hS10.av 2 rfl (fun _=>rfl)).idx,(hS10.av 2 rfl (fun _=>rfl)).ld,one,(hS10.av 3 rfl (fun _=>rfl)).idx,(hS10.av 3 rfl (fun _=>rfl)).ld]
   refine jA (fun q3=> ?_) (fun q3=> ?_)
   ·simp(disch:=omega) only[↓RA,RZ,simprocAttr,hn,c5L,q3]
    refine⟨?_,hS10.forget⟩
    rw[hR,a6V (j:=j) (by omega) (by omega) hz (by unfold lA;rw[if_pos q3];decide)]
    unfold lA
    rw[if_pos q3]
   simp(disch:=omega) only[↓RA,RC,simprocAttr,q3]
   refine Wp.drw kS (by kernel_rfl) ?_
   simp(disch:=omega) only[↓RA,RZ,simprocAttr,hn,g5,g6,g7,(hS10.av 2 rfl (fun _=>rfl)).idx,(hS10.av 2 rfl (fun _=>rfl)).ld,one,(hS10.av 3 rfl (fun _=>rfl)).idx,(hS10.av 3 rfl (fun _=>rfl)).ld]
   refine jA (fun q4=> ?_) (fun q4=> ?_)
   ·simp(disch:=omega) only[↓RA,RZ,simprocAttr,hn,c5L,q4]
    refine⟨?_,hS10.forget⟩
    rw[hR,a6V (j:=j) (by omega) (by omega) hz (by unfold lA;rw[if_neg q3,if_pos q4];decide)]
    unfold lA
    rw[if_neg q3,if_pos q4]
   have q5:jB X j=jB Y j:=by omega
   simp(disch:=omega) only[↓RA,RZ,simprocAttr,hn,g5,g6,g7,q4]
   exact⟨n-1,by omega,j+1,⟨by omega,fun q hq=>by rcases dN.1 hq with e|e;(· exact hz q e);(· rw[e];exact q5)⟩,by simp,hS10.pick [0,1,2,3,4,5] (by decide) rfl⟩
  simp(disch:=omega) only[↓RA,RZ,simprocAttr,hn,c5L,q1]
  refine⟨?_,hS10.forget⟩
  rw[hR,uR (j:=j) (by omega) (by omega) hz,show X.drop j=[]from gJ (by omega),show Y.drop j=[]from gJ (by omega)]
  rfl
 refine jA (fun h1=> ?_) (fun h1=> ?_)
 ·have hl:a.cps.length=b.cps.length:=by omega
  have ma:rK a b a=a.cps:=if_pos hl
  have mb:rK a b b=b.cps:=if_pos hl
  simp(disch:=omega) only[↓RA,RC,simprocAttr,h1]
  refine Wp.aF kS [(6,0)] (by kernel_rfl) (by kernel_rfl) ?_
  simp(disch:=omega) only[↓RA,RZ,simprocAttr,hn,hS4.ld 0 rfl,jQ]
  refine hS4.al 2 rfl (hS4.sl ha.1).rd qK (by simp only[mQ,dU,dS,dV];omega) fun w7 H11 hS11=> ?_
  simp only[RT]at hS11
  simp(disch:=omega) only[↓RA,RZ,simprocAttr,hn,hS11.ld 1 rfl]
  refine hS11.al 3 rfl (hS11.sl hb.1).rd qK (by simp only[mQ,dU,dS,dV];omega) fun w8 H12 hS12=> ?_
  simp only[RT]at hS12
  simp(disch:=omega) only[↓RA,RZ,simprocAttr,hn,hS4.ld 1 rfl]
  refine⟨_,_,rfl,rfl,?_⟩
  rw[ma,mb,dP,dP]
  exact hS12.pick [0,1,2,3] (by decide) rfl
 have hl:¬a.cps.length=b.cps.length:=by omega
 have ma:rK a b a=[]:=if_neg hl
 have mb:rK a b b=[]:=if_neg hl
 simp(disch:=omega) only[↓RA,RZ,simprocAttr,hn,jQ,h1]
 refine⟨_,_,rfl,rfl,?_⟩
 rw[ma,mb,dQ,dQ]
 exact hS4.pick [0,1,2,3] (by decide) rfl
end Go.Ds
namespace Go.Ds
open Go.Proofs
set_option maxRecDepth 10000
theorem b9a(a b:Int):lA b a=-lA a b:=by
 unfold lA
 repeat' split
 all_goals omega
theorem a6j{a b:Int}:lA a b=-1↔a<b:=by
 unfold lA
 repeat' split
 all_goals omega
theorem c0a(a b:Int):lA a b=-1∨lA a b=0∨lA a b=1:=by
 unfold lA
 repeat' split
 all_goals omega
theorem uM(a b:Int)(l m:List Int):lX (a::l) (b::m)=if lA a b=0 then lX l m else lA a b:=rfl
theorem nK:∀{l m:List Int},lX l m=0↔l=m
 | [],[]=>by simp[lX]
 | [],_::_=>by simp[lX]
 | _::_,[]=>by simp[lX]
 | a::l,b::m=>by
   rw[uM,ft]
   by_cases h:lA a b=0
   ·rw[if_pos h]
    exact⟨fun k=>⟨pR.1 h,nK.1 k⟩,fun k=>nK.2 k.2⟩
   ·rw[if_neg h]
    exact⟨fun k=>absurd k h,fun k=>absurd (pR.2 k.1) h⟩
theorem tB:∀(l m:List Int),lX m l=-lX l m
 | [],[]=>rfl
 | [],_::_=>rfl
 | _::_,[]=>rfl
 | a::l,b::m=>by
   rw[uM,uM,b9a a b,tB l m]
   by_cases h:lA a b=0
   ·rw[if_pos (by omega),if_pos h]
   ·rw[if_neg (by omega),if_neg h]
theorem tA:∀(l m:List Int),lX l m=-1∨lX l m=0∨lX l m=1
 | [],[]=>.inr (.inl rfl)
 | [],_::_=>.inl rfl
 | _::_,[]=>.inr (.inr rfl)
 | a::l,b::m=>by
   rw[uM]
   split
   ·exact tA l m
   ·exact c0a a b
theorem uZ:∀{l m k:List Int},lX l m=-1→lX m k=-1→lX l k=-1
 | [],[],_,h,_=>by cases h
 | [],_::_,[],_,h=>by cases h
 | [],_::_,_::_,_,_=>rfl
 | _::_,[],_,h,_=>by cases h
 | _::_,_::_,[],_,h=>by cases h
 | a::l,b::m,c::k,h1,h2=>by
   rw[uM]at h1 h2 ⊢
   by_cases e1:lA a b=0
   ·rw[if_pos e1]at h1
    obtain rfl:=pR.1 e1
    by_cases e2:lA a c=0
    ·rw[if_pos e2]at h2 ⊢
     exact uZ h1 h2
    ·rw[if_neg e2]at h2 ⊢
     exact h2
   ·rw[if_neg e1]at h1
    by_cases e2:lA b c=0
    ·obtain rfl:=pR.1 e2
     rw[if_neg e1]
     exact h1
    ·rw[if_neg e2]at h2
     have h3:=a6j.1 h1
     have h4:=a6j.1 h2
     have h5:lA a c=-1:=a6j.2 (by omega)
     rw[h5]
     rfl
def Rp.rn(r:Rp)(cv:Value):Rn:=⟨r.pl,cv,r.cps,r.tc,r.stop⟩
def b9v(r:Rp):List Int:=[(r.cps.length:Int),r.pl.1,r.pl.2]++r.cps++[r.tc.1,r.tc.2,r.stop]
theorem b7T{a b:Rp}(h:b9v a=b9v b):a=b:=by
 obtain⟨⟨p1,p2⟩,c,⟨t1,t2⟩,z⟩:=a
 obtain⟨⟨q1,q2⟩,d,⟨u1,u2⟩,y⟩:=b
 simp only[b9v,fO,fJ,ft]at h
 obtain⟨h1,h2,h3,h4⟩:=h
 have hl:c.length=d.length:=by omega
 obtain⟨h5,h6⟩:=List.append_inj h4 hl
 simp only[ft,and_true]at h6
 obtain⟨h7,h8,h9⟩:=h6
 rw[h2,h3,h5,h7,h8,h9]
def d0O(a b:Rp):Int:=lX (b9v a) (b9v b)
theorem xZ{s:Sn}{pl:Ct}{cps:List Int}{a:Ct}{r:Rp}(h:r∈nP s pl cps a):r.pl=pl∧r.cps=cps∧r.tc=a:=by
 unfold nP at h
 split at h
 ·obtain⟨i,_,rfl⟩:=dX.1 h
  exact⟨rfl,rfl,rfl⟩
 ·cases h
theorem a3h{s:Sn}:∀(n:Nat){pl:Ct}{cps:List Int}{a:Ct}{seen:List Ct}{r:Rp},r∈full s n pl cps a seen→r.pl=pl∧∃t,r.cps=cps++t:=by
 intro n
 induction n with
 | zero=>
   intro pl cps a seen r h
   obtain⟨h1,h2,_⟩:=xZ h
   exact⟨h1,[],by simp[h2]⟩
 | succ n ih=>
   intro pl cps a seen r h
   unfold full at h
   rcases eo.1 h with h|h
   ·obtain⟨h1,h2,_⟩:=xZ h
    exact⟨h1,[],by simp[h2]⟩
   ·obtain⟨i,_,h⟩:=fp.1 h
    split at h
    ·obtain⟨h1,t,h2⟩:=ih h
     exact⟨h1,(i:Int)::t,by rw[h2];simp⟩
    ·cases h
theorem a8t(s:Sn)(pl:Ct)(cps:List Int)(a:Ct):(nP s pl cps a).Pairwise (·≠·):=by
 unfold nP
 split
 ·rw[gr]
  unfold mT a6Y
  rw[gr]
  refine List.Pairwise.filter _ (List.pairwise_lt_range.imp fun h e=> ?_)
  simp only[Rp.mk.injEq,true_and]at e
  omega
 ·exact .nil
theorem c0W{s:Sn}:∀(n:Nat){pl:Ct}{cps:List Int}{a:Ct}{seen:List Ct},(full s n pl cps a seen).Pairwise (·≠·):=by
 intro n
 induction n with
 | zero=>intro pl cps a seen;exact a8t _ _ _ _
 | succ n ih=>
   intro pl cps a seen
   unfold full
   rw[fD]
   have hm:∀i,∀r∈(if onB s cps a seen i then full s n pl (cps++[(i:Int)]) (nA s i a) (seen++[nA s i a])else[]),∃t,r.cps=cps++(i:Int)::t:=fun i r h=>by
    split at h
    ·obtain⟨_,t,h2⟩:=a3h n h
     exact⟨t,by rw[h2];simp⟩
    ·cases h
   refine⟨a8t _ _ _ _,?_,fun x hx y hy e=> ?_⟩
   ·rw[List.pairwise_flatMap]
    refine⟨fun i _=> ?_,List.pairwise_lt_range.imp fun{i j}hij x hx y hy e=> ?_⟩
    ·split
     ·exact ih
     ·exact .nil
    ·obtain⟨t,h1⟩:=hm i x hx
     obtain⟨u,h2⟩:=hm j y hy
     rw[e,h2]at h1
     have h3:=List.append_cancel_left h1
     rw[ft]at h3
     omega
   ·obtain⟨i,_,hy⟩:=fp.1 hy
    obtain⟨t,h1⟩:=hm i y hy
    have h2:=(xZ hx).2.1
    rw[e,h1]at h2
    have h3:=congrArg List.length h2
    simp at h3
theorem c3o{s:Sn}:(a9c s).Pairwise (·≠·):=by
 unfold a9c
 rw[List.pairwise_flatMap]
 refine⟨fun c _=>c0W _,(b6w s.ks).imp fun{a b}hab x hx y hy e=> ?_⟩
 have h1:=(a3h _ hx).1
 have h2:=(a3h _ hy).1
 rw[e,h2]at h1
 rw[h1]at hab
 exact b3s hab
end Go.Ds
namespace Go.Ds
open Go.Proofs Go.Proofs.Tryz
variable {H:Heap}
set_option maxRecDepth 10000
set_option maxHeartbeats 1000000
def d0D(B:Base)(v:Value)(xs:List Int):Prop:=∀{H1:Heap}{os:List Ob},St prog B H1 os→Slx 1 (one I) H1 (nb (os.map (·.v))) v xs
def Rn.rp(r:Rn):Rp:=⟨r.pl,r.cps,r.tc,r.stop⟩
theorem a6p{s:Sn}(hf:s.Fit)(a:Ct):(mT s a).length≤60:=by
 refine eh (b3f s a _) ?_
 by_cases h:a.1.toNat<s.o.dvs.length
 ·exact hf.aP.stops _ h
 ·rw[show jB s.o.dvs a.1.toNat=default from by unfold jB;simp[h]]
  decide
theorem b9F{s:Sn}(hf:s.Fit)(pl:Ct)(cps:List Int)(a:Ct):(nP s pl cps a).length≤60:=by
 unfold nP
 split
 ·rw[dU];exact a6p hf a
 ·simp
theorem Slx.bA{α:Type}{n:Nat}{cel:α→List Value}{v:Value}{xs:List α}{vs vs':List Value}(h:Slx n cel H (nb vs) v xs)(hs:∀v∈vs',v∈vs):Slx n cel H (nb vs') v xs:=⟨h.1,fun b hb v hv=>h.2 b hb v (hs v hv)⟩
theorem St.dj{B:Base}{os rest:List Ob}{α:Type}{cel:α→List Value}{v:Value}{xs:List α}(hS:St prog B H (os++rest))(i:Nat){m:Nat}(ho:rest[i]? =some ⟨v,m+1,xs.flatMap cel⟩)(hc:∀x,(cel x).length=m+1):Slx (m+1) cel H (nb (os.map (·.v))) v xs:=by
 refine⟨hS.av (os.length+i) (by rw[eH (by omega),fB];exact ho) hc,fun B hb=> ?_⟩
 rw[a7u]
 rintro⟨o,hm,hob⟩
 exact(fD.1 hS.sep).2.2 o hm _ (dR ho) B hob hb
theorem St.apart{B:Base}{os:List Ob}(hS:St prog B H os){i j:Nat}{o o':Ob}(hi:os[i]? =some o)(hj:os[j]? =some o')(hij:i<j){A:Nat}(h1:kY o.v=some A)(h2:kY o'.v=some A):False:=by
 obtain⟨hi1,rfl⟩:=dO.1 hi
 obtain⟨hj1,rfl⟩:=dO.1 hj
 exact fc.1 hS.sep i j hi1 hj1 hij A h1 h2
theorem Que.snoc{o:Org}{q:List Ct}{c:Ct}(h:Que o q)(hc:nJ o c=true)(hn:c∉q):Que o (q++[c]):=by
 refine⟨List.nodup_append.2 ⟨h.1,by simp,fun a ha b hb e=> ?_⟩,fun x hx=> ?_⟩
 ·rw[dZ]at hb
  exact hn (hb▸e▸ha)
 ·rcases eo.1 hx with h1|h1
  ·exact h.2 x h1
  ·rw[dZ]at h1
   rw[h1]
   exact hc
def yS(s:Sn)(n:Nat)(pl:Ct)(cps:List Int)(a:Ct)(seen:List Ct)(q0:List Rp×Bool)(j:Nat):List Rp×Bool:=(List.range j).foldl (fun q i=>if q.2 then q else if uQ s cps a seen i then a2v s n pl (cps++[(i:Int)]) (nA s i a) (seen++[nA s i a]) q else q) q0
theorem a1a(s:Sn)(n:Nat)(pl:Ct)(cps:List Int)(a:Ct)(seen:List Ct)(q0:List Rp×Bool)(j:Nat):yS s n pl cps a seen q0 (j+1)=if(yS s n pl cps a seen q0 j).2 then yS s n pl cps a seen q0 j else if uQ s cps a seen j then a2v s n pl (cps++[(j:Int)]) (nA s j a) (seen++[nA s j a]) (yS s n pl cps a seen q0 j)else yS s n pl cps a seen q0 j:=by
 unfold yS
 rw[eV,gY]
 rfl
theorem a5g{s:Sn}{n:Nat}{pl:Ct}{cps:List Int}{a:Ct}{seen:List Ct}{q0:List Rp×Bool}{j:Nat}(h:(yS s n pl cps a seen q0 j).2=true):∀k,yS s n pl cps a seen q0 (j+k)=yS s n pl cps a seen q0 j
 | 0=>rfl
 | k+1=>by
   rw[←gK,a1a,a5g h k,if_pos h]
theorem b4P(s:Sn)(n:Nat)(pl:Ct)(cps:List Int)(a:Ct)(seen:List Ct)(q:List Rp×Bool):a2v s (n+1) pl cps a seen q=yS s n pl cps a seen (q.1++nP s pl cps a,q.2||decide (500<(q.1++nP s pl cps a).length)) s.o.cpls.length:=rfl
def wA(s:Sn)(r:Rn):List Rn:=(nP s r.pl r.cps r.tc).map fun p=>p.rn r.cv
theorem b2Q(s:Sn)(r:Rn):(wA s r).map Rn.rp=nP s r.pl r.cps r.tc:=by
 unfold wA
 rw[iE]
 exact List.map_id _
theorem c1U{s:Sn}{r:Rn}(h:r.cps=[])(h2:a1q s r.pl.1=true):wA s r=[]:=by
 unfold wA nP
 rw[if_neg (by rw[h,h2];simp)]
 rfl
def yU(s:Sn)(r:Rn)(j:Nat):List Rn:=((mT s r.tc).take j).map fun i=>⟨r.pl,r.cv,r.cps,r.tc,i⟩
theorem a8I{s:Sn}{r:Rn}(h:r.cps≠[]∨a1q s r.pl.1=false):wA s r=yU s r (mT s r.tc).length:=by
 unfold wA nP yU
 rw[if_pos h,iE,eZ]
 rfl
theorem a5w(s:Sn)(r:Rn)(j:Nat)(h:j<(mT s r.tc).length):yU s r (j+1)=yU s r j++[⟨r.pl,r.cv,r.cps,r.tc,jB (mT s r.tc) j⟩]:=by
 unfold yU
 rw[oB _ _ h,ec]
 rfl
theorem b6R{s:Sn}{r e:Rn}(h:e∈wA s r):e.cv=r.cv∧e.cps=r.cps:=by
 unfold wA at h
 obtain⟨p,hp,rfl⟩:=dX.1 h
 exact⟨rfl,(xZ hp).2.1⟩
theorem b7l{s:Sn}(hf:s.Fit)(r:Rn):(wA s r).length≤60:=by
 unfold wA
 rw[dU]
 exact b9F hf _ _ _
theorem b9n(l:List Rn):(l.flatMap Rn.cells).length=l.length*6:=by
 induction l with
 | nil=>rfl
 | cons x l ih=>rw[ed,dH,ih,dS,gp];show 6+_=_;omega
theorem b6z{s:Sn}(hf:s.Fit){M:Nat}{kvs:List (Ct×Int)}(hD:MapD kvs (rY s))(FV:Nat):∀(d:Nat){B:Base}{H:Heap}(r:Rn)(sv:Value)(seen:List Ct)(ov:Value)(es:List Rn)(many:Bool),
 St prog B H [⟨ptr FV 0 13,0,[.string s.o.name,s.o.rv,s.o.dv,s.o.cv,s.sv,.int .u64 s.rg.cpl,.int .u64 s.rg.off,s.kv,I s.p.1,I s.p.2,.map (some M),ov,.bool many]⟩,⟨ov,6,es.flatMap Rn.cells⟩]→
 (∀{H1 os},St prog B H1 os→s.In H1∧OwnAt prog H1 ⟨.map (some M),0,KN kvs⟩∧Sl 2 mD H1 sv seen)→d0D B r.cv r.cps→Que s.o seen→nJ s.o r.tc=true→0≤r.pl.1→r.cps.length=seen.length→seen.length+d=1025→es.length≤90000→
 Fn prog 52 [ptr FV 0 13,r.v,sv] H fun q H'=>q=.tuple #[]∧∃(ov':Value)(new:List Rn)(many':Bool),(many'=false→(es++new).length≤500)∧((es++new).length≤es.length+60∨(es++new).length≤560)∧((es++new).map Rn.rp,many')=a2v s d r.pl r.cps r.tc seen (es.map Rn.rp,many)∧
  (∀e∈new,Slx 1 (one I) H' (nb [ptr FV 0 13,ov']) e.cv e.cps∧e.cps.length≤1024∧∀A,kY e.cv=some A→kY r.cv=some A∨B.H.length≤A)∧
  St prog B H' [⟨ptr FV 0 13,0,[.string s.o.name,s.o.rv,s.o.dv,s.o.cv,s.sv,.int .u64 s.rg.cpl,.int .u64 s.rg.off,s.kv,I s.p.1,I s.p.2,.map (some M),ov',.bool many']⟩,⟨ov',6,(es++new).flatMap Rn.cells⟩]:=by
 intro d
 induction d with
 | zero=>
   intro B H r sv seen ov es many hS hI hr hq hok hpl hrs hn hel
   have:=hq.len hf.aP
   omega
 | succ d ih=>
 intro B H r sv seen ov es many hS hI hr hq hok hpl hrs hn hel
 have hrl:r.cps.length<2000:=by have:=hq.len hf.aP;omega
 have hok2:=(lQ s.o _).1 hok
 have hfi:=hf.aP
 have hcl:=hfi.clen
 refine .cJ func52 rfl (by kernel_rfl) (m:=137) rfl fun l hn g0 g1 g2=> ?_
 refine b3C (fun l H'=>l.length=137∧get l 0=(ptr FV 0 13)∧get l 2=sv∧∃(V4:Nat)(ov1:Value)(z:Int)(mn0:Bool),(mn0=(or many (decide (500<(es++wA s r).length))))∧get l 4=(ptr V4 0 6)∧St prog B H' [⟨ptr FV 0 13,0,[(.string s.o.name),s.o.rv,s.o.dv,s.o.cv,s.sv,(.int .u64 s.rg.cpl),(.int .u64 s.rg.off),s.kv,I s.p.1,I s.p.2,(.map (some M)),ov1,(.bool mn0)]⟩,⟨ov1,6,(es++wA s r).flatMap Rn.cells⟩,⟨ptr V4 0 6,0,[I r.pl.1,I r.pl.2,r.cv,I r.tc.1,I r.tc.2,I z]⟩]) ?_ ?_
 ·rintro l H1⟨hn,g0,g2,V4,ov1,z,mn0,hm0,g4,hS1⟩
  have hnl:=b7l hf r
  obtain⟨q0,hq0⟩:∃q0,q0=((es++wA s r).map Rn.rp,mn0):=⟨_,rfl⟩
  have hq1:q0=(es.map Rn.rp++nP s r.pl r.cps r.tc,many||decide (500<(es.map Rn.rp++nP s r.pl r.cps r.tc).length)):=by
   rw[hq0,hm0,ec,b2Q,dH,dH,dU,←b2Q s r,dU]
  have hF:a2v s (d+1) r.pl r.cps r.tc seen (es.map Rn.rp,many)=yS s d r.pl r.cps r.tc seen q0 s.o.cpls.length:=by rw[b4P,hq1]
  simp(disch:=omega) only[↓RA,RZ,simprocAttr,hn,g0,mF,mG,hS1.ld 0 rfl,((hI hS1).1.o.2.2.2.2.1).len]
  refine Wp.aq (fun n l H'=>l.length=137∧get l 0=(ptr FV 0 13)∧get l 2=sv∧get l 4=(ptr V4 0 6)∧get l 75=I s.o.cpls.length∧∃(j:Nat)(ov2:Value)(new:List Rn)(mn:Bool),(n+j=s.o.cpls.length∧((es++new).map Rn.rp,mn)=yS s d r.pl r.cps r.tc seen q0 j∧(∀e∈new,Slx 1 (one I) H' (nb [ptr FV 0 13,ov2,ptr V4 0 6]) e.cv e.cps∧e.cps.length≤1024∧∀A,kY e.cv=some A→kY r.cv=some A∨B.H.length≤A)∧(mn=false→(es++new).length≤500)∧((es++new).length≤es.length+60∨(es++new).length≤560))∧get l 76=I j∧St prog B H' [⟨ptr FV 0 13,0,[.string s.o.name,s.o.rv,s.o.dv,s.o.cv,s.sv,.int .u64 s.rg.cpl,.int .u64 s.rg.off,s.kv,I s.p.1,I s.p.2,.map (some M),ov2,.bool mn]⟩,⟨ov2,6,(es++new).flatMap Rn.cells⟩,⟨ptr V4 0 6,0,[I r.pl.1,I r.pl.2,r.cv,I r.tc.1,I r.tc.2,I z]⟩]) s.o.cpls.length ?_ ?_
  ·simp(disch:=omega) only[RB,RC,simprocAttr,hn,g0,g2,g4]
   refine⟨0,ov1,wA s r,mn0,⟨by omega,by rw[hq0];rfl,fun e he=> ?_,fun h=> ?_,.inl ?_⟩,rfl,hS1⟩
   ·obtain⟨e1,e2⟩:=b6R he
    rw[e1,e2]
    exact⟨hr hS1,by have:=hq.len hfi;omega,fun A hA=>.inl hA⟩
   ·rw[h]at hm0
    cases many
    ·simpa using hm0
    ·simp at hm0
   ·rw[dH]
    omega
  rintro n l H2⟨hn,g0,g2,g4,g75,j,ov2,new,mn,⟨hj,hQ,hN,hL1,hL2⟩,g76,hS2⟩
  simp(disch:=omega) only[↓RA,RB,simprocAttr,hn,g75,g76]
  refine jA (fun q1=> ?_) (fun q1=> ?_)
  ·simp(disch:=omega) only[↓RA,RZ,simprocAttr,hn,g0,g76,mF,mG,hS2.ld 0 rfl,q1]
   refine kC (fun q2=> ?_) (fun q2=> ?_)
   ·have hst:yS s d r.pl r.cps r.tc seen q0 s.o.cpls.length=yS s d r.pl r.cps r.tc seen q0 j:=by
     have:=a5g (s:=s) (n:=d) (pl:=r.pl) (cps:=r.cps) (a:=r.tc) (seen:=seen) (q0:=q0) (j:=j) (by rw[←hQ];exact q2) n
     rw[←hj,Nat.add_comm n j]
     exact this
    simp(disch:=omega) only[↓RA,RZ,simprocAttr,c8l,q1,q2]
    exact⟨ov2,new,mn,hL1,hL2,by rw[hF,hst,hQ],fun e he=>⟨(hN e he).1.bA (by simp),(hN e he).2⟩,hS2.pick [0,1] (by decide) rfl⟩
   have hmf:mn=false:=by simpa using q2
   have hel2:=hL1 hmf
   have hl0:decide ((r.cps.length:Int)=0)=decide (r.cps.length=0):=decide_eq_decide.2 (by omega)
   have hpre:=hS2
   obtain⟨B1,hBB1,hS3⟩:=hS2.aB (os:=[⟨ptr FV 0 13,0,_⟩,⟨ov2,6,_⟩,⟨ptr V4 0 6,0,_⟩])
   have hun:∀{H1 os},St prog B1 H1 os→St prog B H1 os:=fun h=>hpre.ae hBB1 h
   simp(disch:=omega) only[↓RA,RC,simprocAttr,q1,q2]
   refine Wp.drw kS (by kernel_rfl) ?_
   simp(disch:=omega) only[↓RA,RZ,simprocAttr,hn,g0,g4,mF,mG,hS3.aj 0 rfl,hS3.aj 2 rfl,hS3.ld 2 rfl,((hr (hS2.ae hBB1 hS3)).1).len,q2,hl0]
   refine hS3.cF (uE s (hI (hS2.ae hBB1 hS3)).1 hf j r.tc (decide (r.cps.length=0))) fun H3 hS4=> ?_
   simp(disch:=omega) only[↓RA,RZ,simprocAttr,hn]
   refine hS4.eNew 2 [I 0,I 0] rfl rfl rfl mM fun A1 H4 hS5=> ?_
   simp only[RT]at hS5
   simp(disch:=omega) only[↓RA,RB,simprocAttr,hn]
   refine hS5.ab 3 rfl [I (nA s j r.tc).1,I (nA s j r.tc).2] rfl rfl mM (by simp) fun H5 hS6=> ?_
   simp only[RT]at hS6
   simp(disch:=omega) only[↓RA,RB,simprocAttr,hn]
   refine Wp.drw kS (by kernel_rfl) ?_
   simp(disch:=omega) only[↓RA,RZ,simprocAttr,hn,g0,mF,mG,hS6.ld 0 rfl,hS6.aj 3 rfl,q2]
   refine(St.aW (((hI (hS2.ae hBB1 hS6)).2.1))).bc (k:=nA s j r.tc) 0 rfl wX (fun _=>rfl) ?_
   simp(disch:=omega) only[↓RA,RZ,simprocAttr,hn]
   have hno:uQ s r.cps r.tc seen j=false→((es++new).map Rn.rp,mn)=yS s d r.pl r.cps r.tc seen q0 (j+1):=fun h=>by rw[a1a,←hQ,if_neg (by simp[hmf]),h,if_neg (by simp)]
   have hkp:∀{H1 os},St prog B1 H1 os→∀e∈new,Slx 1 (one I) H1 (nb (os.map (·.v))) e.cv e.cps:=fun h e he=>(hN e he).1.step (h.kept hBB1)
   refine lL (fun q3=> ?_) (fun q3=> ?_)
   ·simp(disch:=omega) only[↓RA,RZ,simprocAttr,hn,g0,g2,g4,g75,g76,q3]
    refine⟨n-1,by omega,j+1,ov2,new,mn,⟨by omega,hno (by unfold uQ onB;rw[show ldB s j r.tc (decide (r.cps.length=0))=false from by simpa using q3];simp),fun e he=>⟨(hkp hS6 e he).bA (by simp),(hN e he).2⟩,hL1,hL2⟩,by simp,?_⟩
    exact(hS2.ae hBB1 hS6).pick [0,1,2] (by decide) rfl
   have hld:ldB s j r.tc (decide (r.cps.length=0))=true:=by simpa using q3
   simp(disch:=omega) only[↓RA,RZ,simprocAttr,hn,q3]
   refine lL (fun q4=> ?_) (fun q4=> ?_)
   ·simp(disch:=omega) only[↓RA,RZ,simprocAttr,hn,g0,g2,g4,g75,g76,q3,q4]
    refine⟨n-1,by omega,j+1,ov2,new,mn,⟨by omega,hno (by unfold uQ;rw[a2J hD (t:=nA s j r.tc) (by simpa using q4)];simp),fun e he=>⟨(hkp hS6 e he).bA (by simp),(hN e he).2⟩,hL1,hL2⟩,by simp,?_⟩
    exact(hS2.ae hBB1 hS6).pick [0,1,2] (by decide) rfl
   have hkg:(yD kvs (nA s j r.tc)).isSome=true:=by simpa using q4
   simp(disch:=omega) only[↓RA,RZ,simprocAttr,hn,g2,hS6.aj 3 rfl,q3,q4]
   refine hS6.cF (a3m sv seen (hI (hS2.ae hBB1 hS6)).2.2 (by omega) (nA s j r.tc)) fun H6 hS7=> ?_
   simp(disch:=omega) only[↓RA,RB,simprocAttr,hn,q3,q4]
   refine jA (fun q5=> ?_) (fun q5=> ?_)
   ·simp(disch:=omega) only[↓RA,RZ,simprocAttr,hn,g0,g2,g4,g75,g76,q3,q4,q5]
    refine⟨n-1,by omega,j+1,ov2,new,mn,⟨by omega,hno (by unfold uQ onB;rw[decide_eq_true q5];simp),fun e he=>⟨(hkp hS7 e he).bA (by simp),(hN e he).2⟩,hL1,hL2⟩,by simp,?_⟩
    exact(hS2.ae hBB1 hS7).pick [0,1,2] (by decide) rfl
   have hnr:uQ s r.cps r.tc seen j=true:=by
    obtain⟨e,he1,_⟩:=a0M hD hkg
    unfold uQ onB
    rw[hld,he1,decide_eq_false q5]
    rfl
   have hsc:=a6l hf hld
   have hql:=hq.len hfi
   simp(disch:=omega) only[↓RA,RZ,simprocAttr,q3,q4,q5]
   refine Wp.aF kS [(1,5),(1,8),(8,0),(8,5)] (by kernel_rfl) (by kernel_rfl) ?_
   simp(disch:=omega) only[↓RA,RZ,simprocAttr,hn,g4,hS7.aj 2 rfl,hS7.ld 2 rfl]
   refine jI ((b0u r.cv r.cps (hr (hS2.ae hBB1 hS7)).1 (by omega)).tr) ?_
   rintro r H7⟨-,hT3⟩
   have hS8:=hS7.trans hT3
   simp only[RT]at hS8
   obtain⟨cw,rfl⟩:∃w,w=r:=⟨r,rfl⟩
   simp(disch:=omega) only[↓RA,RB,simprocAttr,hn]
   refine hS8.ai [I j] qK wM rfl rfl (by simp[Value.cells]) rfl rfl (by decide) (by decide) fun w1 H8 hS9=> ?_
   simp only[RT]at hS9
   simp(disch:=omega) only[↓RA,RZ,simprocAttr,hn]
   refine hS9.al 4 rfl (hS9.rd 5 rfl) qK (by rw[mQ,dU];simp;omega) fun w2 H9 hS10=> ?_
   simp only[RT]at hS10
   simp(disch:=omega) only[↓RA,RZ,simprocAttr,hn,hS10.aj 3 rfl,b2L (hS10.rd 4 rfl).cells]
   refine hS10.eNew 6 [I 0,I 0,(.slice none 0 0),I 0,I 0,I 0] rfl rfl rfl nW fun A2 H10 hS11=> ?_
   simp only[RT]at hS11
   simp(disch:=omega) only[↓RA,RB,simprocAttr,hn]
   refine hS11.ab 6 rfl [I r.pl.1,I r.pl.2,w2,I (nA s j r.tc).1,I (nA s j r.tc).2,I 0] rfl (by simp[OC,(hS11.rd 4 rfl).cells.2.1]) nW (by simp) fun H11 hS12=> ?_
   simp only[RT]at hS12
   simp(disch:=omega) only[↓RA,RZ,simprocAttr,hn,hS8.aj 2 rfl,hS10.aj 2 rfl,hS7.aj 3 rfl,hS8.aj 3 rfl]
   refine Wp.aF kS [(1,4),(1,7),(4,0)] (by kernel_rfl) (by kernel_rfl) ?_
   simp(disch:=omega) only[↓RA,RZ,simprocAttr,hn,g0,g2,hS12.aj 6 rfl]
   refine jI ((b1K sv seen (hI (hS2.ae hBB1 hS12)).2.2 (by omega)).tr) ?_
   rintro r H12⟨-,hT4⟩
   have hS13:=hS12.trans hT4
   simp only[RT]at hS13
   obtain⟨sw,rfl⟩:∃w,w=r:=⟨r,rfl⟩
   simp(disch:=omega) only[↓RA,RZ,simprocAttr,hn,hS13.aj 3 rfl]
   refine hS13.ai [I (nA s j r.tc).1,I (nA s j r.tc).2] vU a7z rfl rfl (by simp[Value.cells]) rfl rfl (by decide) (by decide) fun w3 H13 hS14=> ?_
   simp only[RT]at hS14
   simp(disch:=omega) only[↓RA,RZ,simprocAttr,hn]
   refine hS14.al 7 rfl (hS14.rd 8 rfl) vU (by rw[show(seen.flatMap mD).length=seen.length*2 from jN seen];simp;omega) fun w4 H14 hS15=> ?_
   simp only[RT]at hS15
   simp(disch:=omega) only[↓RA,RZ,simprocAttr,hn]
   have hfm:r.cps.flatMap (one I)++[I j]=(r.cps++[(j:Int)]).flatMap (one I):=by rw[dP];rfl
   have hfs:seen.flatMap mD++[I (nA s j r.tc).1,I (nA s j r.tc).2]=(seen++[nA s j r.tc]).flatMap mD:=by rw[dP];rfl
   rw[hfm,hfs]at hS15
   have hSc:=hS15
   have hM1:=hS15.pick (os':=[⟨ptr FV 0 13,0,_⟩,⟨ov2,6,_⟩]) [0,1] (by decide) rfl
   have hR1:=hS15.pick (os':=[⟨ptr FV 0 13,0,_⟩,⟨ov2,6,_⟩,⟨ptr V4 0 6,0,_⟩,⟨ptr A1 0 2,0,_⟩,⟨w2,1,_⟩,⟨w1,1,_⟩,⟨ptr A2 0 6,0,_⟩,⟨w4,2,_⟩,⟨w3,2,_⟩]) [0,1,2,3,4,5,6,7,8] (by decide) rfl
   refine jI (ih ⟨r.pl,w2,r.cps++[(j:Int)],nA s j r.tc,0⟩ w4 (seen++[nA s j r.tc]) ov2 (es++new) mn hM1.aT (fun h=>⟨(hI (hun (hR1.frame h.forget))).1,(hI (hun (hR1.frame h.forget))).2.1,(hR1.frame h.forget).av 5 rfl lB⟩) (fun h=>St.dj (rest:=[_,_,⟨w2,0+1,(r.cps++[(j:Int)]).flatMap (one I)⟩,_,_,_,_]) (St.frame (ls:=[_,_]) hR1 h) 2 rfl (fun _=>rfl)) (hq.snoc hsc q5) hsc hpl (by simp;omega) (by simp;omega) (by omega)) ?_
   rintro r H15⟨rfl,ov3,new2,mn2,hM1,hM2,hM3,hM4,hT5⟩
   have hS16:=hR1.frame hT5
   simp only[RT]at hS16
   simp(disch:=omega) only[↓RA,RZ,simprocAttr,hn,g0,g2,g4,g75,g76,hS13.aj 6 rfl,hS15.aj 6 rfl,hS12.aj 3 rfl]
   have hl0:B.H.length≤H15.length:=((hS2.ae hBB1 hS16)).len
   refine⟨n-1,by omega,j+1,ov3,new++new2,mn2,⟨by omega,?_,fun e he=> ?_,fun h=> ?_,?_⟩,by simp,?_⟩
   ·rw[a1a,←hQ,if_neg (by simp[hmf]),if_pos hnr,←hM3,eS]
   ·rcases eo.1 he with he|he
    ·exact⟨(hkp hS16 e he).bA (by simp),(hN e he).2⟩
    ·obtain⟨h1,h0,h2⟩:=hM4 e he
     refine⟨⟨h1.1,fun A hA v hv=> ?_⟩,h0,fun A hA=> ?_⟩
     ·simp only[eJ,eO,or_false]at hv
      rcases hv with rfl|rfl|rfl
      ·exact h1.2 A hA _ (by simp)
      ·exact h1.2 A hA _ (by simp)
      ·intro hV
       rcases h2 A hA with h3|h3
       ·exact hSc.apart (i:=2) (j:=4) rfl rfl (by decide) hV h3
       ·exact absurd ((hSc.own _ (dR (i:=2) rfl)).lt hV) (Nat.not_lt.2 h3)
     ·refine .inr ?_
      rcases h2 A hA with h3|h3
      ·rcases hSc.new _ (dR (i:=4) rfl) A h3 with h4|h4
       ·rw[hBB1]at h4
        exact eh hpre.len h4
       ·rw[hBB1]at h4
        obtain⟨o,ho,hob⟩:=h4
        simp only[eJ,eO,or_false]at ho
        rcases ho with rfl|rfl|rfl
        ·exact(hSc.apart (i:=0) (j:=4) rfl rfl (by decide) hob h3).elim
        ·exact(hSc.apart (i:=1) (j:=4) rfl rfl (by decide) hob h3).elim
        ·exact(hSc.apart (i:=2) (j:=4) rfl rfl (by decide) hob h3).elim
      ·exact eh (hun hSc).len h3
   ·have:=hM1 h
    rw[eS]at this
    exact this
   ·have h5:(es++new++new2).length≤560:=by omega
    rw[eS]at h5
    exact .inr h5
   ·rw[←eS]
    exact(hS2.ae hBB1 hS16).pick [0,1,2] (by decide) rfl
  have hjj:j=s.o.cpls.length:=by omega
  simp(disch:=omega) only[↓RA,RZ,simprocAttr,c8l,q1]
  exact⟨ov2,new,mn,hL1,hL2,by rw[hF,←hjj,hQ],fun e he=>⟨(hN e he).1.bA (by simp),(hN e he).2⟩,hS2.pick [0,1] (by decide) rfl⟩
 refine c3f (fun l H'=>l.length=137∧get l 0=(ptr FV 0 13)∧get l 2=sv∧∃(V4:Nat)(ov1:Value)(z:Int),get l 4=(ptr V4 0 6)∧St prog B H' [⟨ptr FV 0 13,0,[(.string s.o.name),s.o.rv,s.o.dv,s.o.cv,s.sv,(.int .u64 s.rg.cpl),(.int .u64 s.rg.off),s.kv,I s.p.1,I s.p.2,(.map (some M)),ov1,(.bool many)]⟩,⟨ov1,6,(es++wA s r).flatMap Rn.cells⟩,⟨ptr V4 0 6,0,[I r.pl.1,I r.pl.2,r.cv,I r.tc.1,I r.tc.2,I z]⟩]) ?_ ?_
 ·rintro l H16⟨hn,g0,g2,V4,ov1,z,g4,hS17⟩
  simp(disch:=omega) only[↓RA,RZ,simprocAttr,hn,g0,mF,mG,hS17.ld 0 rfl]
  refine lL (fun q0=> ?_) (fun q0=> ?_)
  ·simp(disch:=omega) only[↓RA,RZ,simprocAttr,hn,mF,mG,q0]
   refine hS17.ab 0 rfl [(.bool true)] rfl rfl tS4 (by simp) fun H17 hS18=> ?_
   simp only[RT]at hS18
   simp(disch:=omega) only[↓RA,RZ,simprocAttr,hn,g0,g2,g4,jQ,q0]
   refine⟨V4,ov1,z,true,?_,rfl,?_⟩
   ·rfl
   ·exact hS18
  simp(disch:=omega) only[↓RA,RZ,simprocAttr,hn,g0,mF,mG,hS17.ld 0 rfl,(hS17.av 1 rfl (fun _=>rfl)).len,q0]
  refine hS17.ab 0 rfl [_] rfl rfl tS4 (by simp) fun H18 hS19=> ?_
  simp only[RT]at hS19
  simp(disch:=omega) only[↓RA,RZ,simprocAttr,hn,g0,g2,g4,jQ,q0]
  refine⟨V4,ov1,z,_,?_,rfl,hS19⟩
  rw[Bool.false_or]
  exact decide_eq_decide.2 (by omega)
 simp(disch:=omega) only[↓RA,RB,simprocAttr,g1]
 refine hS.eNew 6 [I r.pl.1,I r.pl.2,r.cv,I r.tc.1,I r.tc.2,I r.stop] rfl rfl (by simp[OC,((hr hS).1).cells.2.1]) nW fun A3 H19 hS20=> ?_
 simp only[RT]at hS20
 simp(disch:=omega) only[↓RA,simprocAttr]
 refine Wp.drw kS (by kernel_rfl) ?_
 simp(disch:=omega) only[↓RA,RZ,simprocAttr,hn,hS20.ld 2 rfl,((hr hS20).1).len]
 refine jK (fun q1=> ?_) (fun q1=> ?_)
 ·have hyes:wA s r=yU s r (mT s r.tc).length:=a8I (.inl fun h=>by rw[h]at q1;simp at q1)
  simp(disch:=omega) only[↓RA,RZ,simprocAttr,hn,q1]
  refine Wp.drw kS (by kernel_rfl) ?_
  simp(disch:=omega) only[↓RA,RZ,simprocAttr,hn,g0,mF,mG,hS20.aj 0 rfl,hS20.aj 2 rfl]
  refine jI ((wQ s (hI hS20).1 hf r.tc ⟨hok2.1,hok2.2.1⟩).tr) ?_
  rintro r H20⟨-,hT6⟩
  have hS21:=hS20.trans hT6
  simp only[RT]at hS21
  obtain⟨pw,rfl⟩:∃w,w=r:=⟨r,rfl⟩
  have hsl:=a6p hf r.tc
  simp(disch:=omega) only[↓RA,RZ,simprocAttr,hn,(hS21.av 3 rfl (fun _=>rfl)).len]
  refine Wp.aq (fun n l H'=>l.length=137∧get l 0=(ptr FV 0 13)∧get l 2=sv∧get l 4=(ptr A3 0 6)∧get l 35=pw∧get l 36=I (mT s r.tc).length∧∃(k:Nat)(ow:Value)(z:Int),(n+k=(mT s r.tc).length)∧get l 37=I k∧St prog B H' [⟨ptr FV 0 13,0,[.string s.o.name,s.o.rv,s.o.dv,s.o.cv,s.sv,.int .u64 s.rg.cpl,.int .u64 s.rg.off,s.kv,I s.p.1,I s.p.2,.map (some M),ow,.bool many]⟩,⟨ow,6,(es++yU s r k).flatMap Rn.cells⟩,⟨ptr A3 0 6,0,[I r.pl.1,I r.pl.2,r.cv,I r.tc.1,I r.tc.2,I z]⟩,⟨pw,1,(mT s r.tc).flatMap (one I)⟩]) (mT s r.tc).length ?_ ?_
  ·simp(disch:=omega) only[RB,RC,simprocAttr,hn,g0,g2]
   refine⟨0,ov,r.stop,by omega,rfl,?_⟩
   rw[show yU s r 0=[]from rfl,dQ]
   exact hS21
  rintro n l H21⟨hn,g0,g2,g4,g35,g36,k,ow,z,hk,g37,hS22⟩
  simp(disch:=omega) only[↓RA,RB,simprocAttr,hn,g36,g37]
  refine jA (fun q3=> ?_) (fun q3=> ?_)
  ·have hnj:(yU s r k).length≤60:=by
    unfold yU
    rw[dU,fP]
    omega
   simp(disch:=omega) only[↓RA,RZ,simprocAttr,hn,g4,g35,g37,(hS22.av 3 rfl (fun _=>rfl)).idx,(hS22.av 3 rfl (fun _=>rfl)).ld,one,q3]
   refine hS22.ab 2 rfl [I (jB (mT s r.tc) k)] rfl rfl tS3 (by simp) fun H22 hS23=> ?_
   simp only[RT]at hS23
   simp(disch:=omega) only[↓RA,RZ,simprocAttr,q3]
   refine Wp.aF kS [(4,7)] (by kernel_rfl) (by kernel_rfl) ?_
   simp(disch:=omega) only[↓RA,RZ,simprocAttr,hn,g0,g4,mF,mG,hS23.ld 0 rfl,hS23.aj 2 rfl]
   refine hS23.ai [I r.pl.1,I r.pl.2,r.cv,I r.tc.1,I r.tc.2,I (jB (mT s r.tc) k)] c2G c8L rfl rfl (by first|(simp[];done)|simp[Value.cells]) (by first|(simp[];done)|simp[Value.cells]) (by simp[OC,((hr hS23).1).cells.2.1]) (by decide) (by decide) fun w5 H23 hS24=> ?_
   simp only[RT]at hS24
   simp(disch:=omega) only[↓RA,RZ,simprocAttr,hn]
   refine hS24.al 1 rfl (hS24.rd 4 rfl) c2G (by rw[b9n];simp;omega) fun w6 H24 hS25=> ?_
   simp only[RT]at hS25
   simp(disch:=omega) only[↓RA,RZ,simprocAttr,hn,mF,mG]
   refine hS25.ab 0 rfl [w6] (by rw[(hS25.rd 1 rfl).cells.1]) (by simp[(hS25.rd 1 rfl).cells.2.1]) c5C (by simp) fun H25 hS26=> ?_
   simp only[RT]at hS26
   simp(disch:=omega) only[↓RA,RZ,simprocAttr,hn,g0,g2,g4,g35,g36,g37,hS24.ld 0 rfl]
   refine⟨n-1,by omega,k+1,w6,jB (mT s r.tc) k,by omega,by simp,?_⟩
   rw[a5w s r k (by omega),←eS,dP]
   exact hS26.pick [0,1,2,3] (by decide) rfl
  have hkk:k=(mT s r.tc).length:=by omega
  simp(disch:=omega) only[↓RA,RZ,simprocAttr,hn,g0,g2,g4,q3,jQ]
  rw[hyes,←hkk]
  exact⟨A3,ow,z,rfl,hS22.pick [0,1,2] (by decide) rfl⟩
 have hce:r.cps=[]:=eR.1 (by omega)
 simp(disch:=omega) only[↓RA,RZ,simprocAttr,hn,g0,mF,mG,hS20.aj 0 rfl,hS20.ld 2 rfl,q1]
 refine hS20.cF (a7o s (hI hS20).1 r.pl.1 hpl) fun H26 hS27=> ?_
 simp(disch:=omega) only[↓RA,RZ,simprocAttr,hn,q1]
 refine kC (fun q2=> ?_) (fun q2=> ?_)
 ·have hyes:wA s r=yU s r (mT s r.tc).length:=a8I (.inr (by simpa using q2))
  simp(disch:=omega) only[↓RA,RC,simprocAttr,q1,q2]
  refine Wp.drw kS (by kernel_rfl) ?_
  simp(disch:=omega) only[↓RA,RZ,simprocAttr,hn,g0,mF,mG,hS27.aj 0 rfl,hS27.aj 2 rfl]
  refine jI ((wQ s (hI hS27).1 hf r.tc ⟨hok2.1,hok2.2.1⟩).tr) ?_
  rintro r H27⟨-,hT8⟩
  have hS28:=hS27.trans hT8
  simp only[RT]at hS28
  obtain⟨pw,rfl⟩:∃w,w=r:=⟨r,rfl⟩
  have hsl:=a6p hf r.tc
  simp(disch:=omega) only[↓RA,RZ,simprocAttr,hn,(hS28.av 3 rfl (fun _=>rfl)).len]
  refine Wp.aq (fun n l H'=>l.length=137∧get l 0=(ptr FV 0 13)∧get l 2=sv∧get l 4=(ptr A3 0 6)∧get l 35=pw∧get l 36=I (mT s r.tc).length∧∃(k:Nat)(ow:Value)(z:Int),(n+k=(mT s r.tc).length)∧get l 37=I k∧St prog B H' [⟨ptr FV 0 13,0,[.string s.o.name,s.o.rv,s.o.dv,s.o.cv,s.sv,.int .u64 s.rg.cpl,.int .u64 s.rg.off,s.kv,I s.p.1,I s.p.2,.map (some M),ow,.bool many]⟩,⟨ow,6,(es++yU s r k).flatMap Rn.cells⟩,⟨ptr A3 0 6,0,[I r.pl.1,I r.pl.2,r.cv,I r.tc.1,I r.tc.2,I z]⟩,⟨pw,1,(mT s r.tc).flatMap (one I)⟩]) (mT s r.tc).length ?_ ?_
  ·simp(disch:=omega) only[RB,RC,simprocAttr,hn,g0,g2]
   refine⟨0,ov,r.stop,by omega,rfl,?_⟩
   rw[show yU s r 0=[]from rfl,dQ]
   exact hS28
  rintro n l H28⟨hn,g0,g2,g4,g35,g36,k,ow,z,hk,g37,hS29⟩
  simp(disch:=omega) only[↓RA,RB,simprocAttr,hn,g36,g37]
  refine jA (fun q3=> ?_) (fun q3=> ?_)
  ·have hnj:(yU s r k).length≤60:=by
    unfold yU
    rw[dU,fP]
    omega
   simp(disch:=omega) only[↓RA,RZ,simprocAttr,hn,g4,g35,g37,(hS29.av 3 rfl (fun _=>rfl)).idx,(hS29.av 3 rfl (fun _=>rfl)).ld,one,q3]
   refine hS29.ab 2 rfl [I (jB (mT s r.tc) k)] rfl rfl tS3 (by simp) fun H29 hS30=> ?_
   simp only[RT]at hS30
   simp(disch:=omega) only[↓RA,RZ,simprocAttr,q3]
   refine Wp.aF kS [(4,7)] (by kernel_rfl) (by kernel_rfl) ?_
   simp(disch:=omega) only[↓RA,RZ,simprocAttr,hn,g0,g4,mF,mG,hS30.ld 0 rfl,hS30.aj 2 rfl]
   refine hS30.ai [I r.pl.1,I r.pl.2,r.cv,I r.tc.1,I r.tc.2,I (jB (mT s r.tc) k)] c2G c8L rfl rfl (by first|(simp[];done)|simp[Value.cells]) (by first|(simp[];done)|simp[Value.cells]) (by simp[OC,((hr hS30).1).cells.2.1]) (by decide) (by decide) fun w7 H30 hS31=> ?_
   simp only[RT]at hS31
   simp(disch:=omega) only[↓RA,RZ,simprocAttr,hn]
   refine hS31.al 1 rfl (hS31.rd 4 rfl) c2G (by rw[b9n];simp;omega) fun w8 H31 hS32=> ?_
   simp only[RT]at hS32
   simp(disch:=omega) only[↓RA,RZ,simprocAttr,hn,mF,mG]
   refine hS32.ab 0 rfl [w8] (by rw[(hS32.rd 1 rfl).cells.1]) (by simp[(hS32.rd 1 rfl).cells.2.1]) c5C (by simp) fun H32 hS33=> ?_
   simp only[RT]at hS33
   simp(disch:=omega) only[↓RA,RZ,simprocAttr,hn,g0,g2,g4,g35,g36,g37,hS31.ld 0 rfl]
   refine⟨n-1,by omega,k+1,w8,jB (mT s r.tc) k,by omega,by simp,?_⟩
   rw[a5w s r k (by omega),←eS,dP]
   exact hS33.pick [0,1,2,3] (by decide) rfl
  have hkk:k=(mT s r.tc).length:=by omega
  simp(disch:=omega) only[↓RA,RZ,simprocAttr,hn,g0,g2,g4,q3,jQ]
  rw[hyes,←hkk]
  exact⟨A3,ow,z,rfl,hS29.pick [0,1,2] (by decide) rfl⟩
 have hnot:wA s r=[]:=c1U hce (by simpa using q2)
 simp(disch:=omega) only[↓RA,RZ,simprocAttr,hn,g0,g2,jQ,jQ,q1,q2]
 rw[hnot,dQ]
 exact⟨_,ov,r.stop,rfl,hS27⟩
end Go.Ds
