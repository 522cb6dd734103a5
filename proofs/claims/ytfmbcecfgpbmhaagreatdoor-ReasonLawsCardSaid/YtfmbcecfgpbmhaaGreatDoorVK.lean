/-
  A part of the proof of ReasonLaws.
-/
import Derived.Test.YtfmbcecfgpbmhaaGreatDoorVI
import Derived.Test.YtfmbcecfgpbmhaaGreatDoorVD
import Derived.Test.YtfmbcecfgpbmhaaGreatDoorVB
import Derived.Test.YtfmbcecfgpbmhaaGreatDoorVC
set_option linter.unusedVariables false
set_option linter.unusedSimpArgs false
set_option linter.defProp false
set_option linter.unusedSectionVars false
namespace Go.Ds
open Go.Proofs Go.Proofs.Tryz Go.ChangeShapes Go.WideShapes Go.RowKit Go.Deep
set_option maxRecDepth 10000
theorem d1C:prog.cellsOf 36=1:=by kernel_rfl
theorem d0y:prog.cellsOf 37=3:=by kernel_rfl
section
variable {H0:Type} {enc:TypeId×Value→H0} {w:World} {base n:Nat} {spare:Nat→Bool} {lR:Bool} {x:DataW H0×List MemPlace}
theorem b1u{v:Value}(h:DataW.trod enc prog w base spare lR n 36 [v]=some x):∃m:Nat,v=.int .u16 m∧m<65536:=by
 obtain⟨m,hv,_,hw⟩:=DataW.trod_int underlying36 h
 have hv:v=.int .u16 m:=by simpa using hv
 have hm:0≤m∧m≤65535:=by simpa [Lit.wf,IntKind.min,IntKind.max,IntKind.signed,IntKind.bits]using hw
 exact⟨m.toNat,by rw[hv,gA hm.1],by omega⟩
theorem c6w{cs:List Value}(h:DataW.trod enc prog w base spare lR n 37 cs=some x):∃b:Nat→Nat,(∀i,b i<65536)∧cs=[.int .u16 (b 0),.int .u16 (b 1),.int .u16 (b 2)]:=by
 obtain⟨xs,m,_,_,hl,hxl,hf⟩:=DataW.trod_array underlying37 h
 rw[d0y]at hl
 match cs,hl with
 | [c0,c1,c2],_=>
   have hy:∀i,i<3→∃y,DataW.trod enc prog w base spare lR m 36 ((([c0,c1,c2]:List Value).drop (i*1)).take 1)=some y:=fun i hi=>by
    have:=hf i hi
    rw[d1C]at this
    exact⟨xs[i],by rw[this,dH (by omega)]⟩
   obtain⟨_,h0⟩:=hy 0 (by decide)
   obtain⟨_,h1⟩:=hy 1 (by decide)
   obtain⟨_,h2⟩:=hy 2 (by decide)
   obtain⟨b0,rfl,k0⟩:=b1u h0
   obtain⟨b1,rfl,k1⟩:=b1u h1
   obtain⟨b2,rfl,k2⟩:=b1u h2
   exact⟨fun i=>match i with|0=>b0|1=>b1|_=>b2,fun i=>by
    match i with
    | 0=>exact k0
    | 1=>exact k1
    | _+2=>exact k2,rfl⟩
end
section
variable {H0:Type} {enc:TypeId×Value→H0} {w:World} {base:Nat} {lR:Bool}
end
end Go.Ds
namespace Go.Ds
open Go.Proofs Go.Proofs.Tryz
variable {H:Heap}
set_option maxRecDepth 10000
set_option maxHeartbeats 1000000
abbrev Nt:=Nat×Nat
def ntc(x:Nt):List Value:=[.int .u64 x.1,.int .u64 x.2]
def Nt.Ok(x:Nt):Prop:=x.1<18446744073709551616∧x.2<18446744073709551616
def vJ(x:Nt)(n:Int):Nt:=if n<64 then(x.1|||2^n.toNat,x.2)else(x.1,x.2|||2^(n-64).toNat)
theorem a7P(i:Nat)(h:i<64):2^i<18446744073709551616:=by
 have:2^i≤2^63:=fY (by decide) (by omega)
 have e:2^63=9223372036854775808:=rfl
 omega
theorem b8y{a b:Nat}(ha:a<18446744073709551616)(hb:b<18446744073709551616):a|||b<18446744073709551616:=Nat.or_lt_two_pow (n:=64) ha hb
theorem orB(a b:Nat)(ha:a<18446744073709551616)(hb:b<18446744073709551616):IntKind.wrap .u64 ((BitVec.ofInt (IntKind.bits .u64) (a:Int)|||BitVec.ofInt (IntKind.bits .u64) (b:Int)).toNat:Int)=((a|||b:Nat):Int):=by
 have e:(BitVec.ofInt (IntKind.bits .u64) (a:Int)|||BitVec.ofInt (IntKind.bits .u64) (b:Int)).toNat=a|||b:=by
  rw[BitVec.toNat_or,xF a ha,xF b hb]
 rw[e]
 have:=b8y ha hb
 exact qC _ (by omega) (by omega)
theorem orN(n i:Nat)(hn:n<18446744073709551616)(hi:i<64):IntKind.wrap .u64 ((BitVec.ofInt (IntKind.bits .u64) (n:Int)|||BitVec.ofInt (IntKind.bits .u64) (IntKind.wrap .u64 (1*2^min i (IntKind.bits .u64)))).toNat:Int)=((n|||2^i:Nat):Int):=by
 rw[c5u i hi]
 exact orB n (2^i) hn (a7P i hi)
theorem c3C{x:Nt}(hx:Nt.Ok x){z:Int}(h0:0≤z)(h1:z<128):Nt.Ok (vJ x z):=by
 unfold vJ
 split
 ·exact⟨b8y hx.1 (a7P _ (by omega)),hx.2⟩
 ·exact⟨hx.1,b8y hx.2 (a7P _ (by omega))⟩
theorem b0f(x:Nt)(hx:Nt.Ok x)(z:Int)(h0:0≤z)(h1:z<128):Fn prog 113 [.agg #[.int .u64 x.1,.int .u64 x.2],I z] H fun r H'=>r=.agg #[.int .u64 (vJ x z).1,.int .u64 (vJ x z).2]∧St prog H H' []:=by
 obtain⟨m,rfl⟩:=fu h0
 refine .aE func113 rfl (by kernel_rfl) (m:=21) rfl fun l hn g0 g1=> ?_
 simp(disch:=omega) only[↓RA,RB,simprocAttr,g0]
 refine(sR H).eNew 2 [(.int .u64 x.1),(.int .u64 x.2)] rfl rfl rfl pJ fun A1 H1 hS1=> ?_
 simp only[RT]at hS1
 simp(disch:=omega) only[↓RA,RZ,simprocAttr]
 refine hS1.eNew 2 [(.int .u64 0),(.int .u64 0)] rfl rfl rfl pJ fun A2 H2 hS2=> ?_
 simp only[RT]at hS2
 simp(disch:=omega) only[↓RA,RB,simprocAttr,hn,g1]
 refine jA (fun q1=> ?_) (fun q1=> ?_)
 ·have e1:=orN x.1 m hx.1 (by omega)
  have e2:vJ x (m:Int)=(x.1|||2^m,x.2):=by unfold vJ;rw[if_pos q1];rfl
  simp(disch:=omega) only[↓RA,RC,simprocAttr,q1]
  refine Wp.drw kQ (by kernel_rfl) ?_
  simp(disch:=omega) only[↓RA,RZ,simprocAttr,hn,g1,hS2.ld 0 rfl,e1]
  refine hS2.aa 0 rfl [(.int .u64 (x.1|||2^m:Nat))] rfl rfl c0s (by simp) fun H3 hS3=> ?_
  simp only[RT]at hS3
  simp(disch:=omega) only[↓RA,RZ,simprocAttr,hn,hS3.ae 0 rfl]
  refine hS3.aa 1 rfl [(.int .u64 (x.1|||2^m:Nat)),(.int .u64 x.2)] rfl rfl pJ (by simp) fun H4 hS4=> ?_
  simp only[RT]at hS4
  simp(disch:=omega) only[↓RA,RZ,simprocAttr,hn,c5I,hS4.ae 1 rfl]
  rw[e2]
  exact⟨rfl,hS4.forget⟩
 have e1:=orN x.2 (m-64) hx.2 (by omega)
 have e3:(m:Int)-64=((m-64:Nat):Int):=by omega
 have e2:vJ x (m:Int)=(x.1,x.2|||2^(m-64)):=by unfold vJ;rw[if_neg q1,e3];rfl
 simp(disch:=omega) only[↓RA,RC,simprocAttr,q1]
 refine Wp.drw kQ (by kernel_rfl) ?_
 simp(disch:=omega) only[↓RA,RZ,simprocAttr,hn,g1,hS2.ld 0 rfl,e1,e3]
 refine hS2.aa 0 rfl [(.int .u64 (x.2|||2^(m-64):Nat))] rfl rfl c0s (by simp) fun H5 hS5=> ?_
 simp only[RT]at hS5
 simp(disch:=omega) only[↓RA,RZ,simprocAttr,hn,hS5.ae 0 rfl]
 refine hS5.aa 1 rfl [(.int .u64 x.1),(.int .u64 (x.2|||2^(m-64):Nat))] rfl rfl pJ (by simp) fun H6 hS6=> ?_
 simp only[RT]at hS6
 simp(disch:=omega) only[↓RA,RZ,simprocAttr,hn,c5I,hS6.ae 1 rfl]
 rw[e2]
 exact⟨rfl,hS6.forget⟩
def lC(xs:List Int):Nt:=xs.foldl vJ (0,0)
def isN(z:Int):Prop:=0≤z∧z<128
theorem yU:∀(xs:List Int)(x:Nt),(∀z∈xs,isN z)→Nt.Ok x→Nt.Ok (xs.foldl vJ x)
 | [],_,_,h=>h
 | z::xs,x,hz,h=>by
   rw[fN]
   exact yU xs _ (fun y hy=>hz y (eX _ hy)) (c3C h (hz z (eW ..)).1 (hz z (eW ..)).2)
theorem a9y(xs:List Int){j:Nat}(hj:j<xs.length):lC (xs.take (j+1))=vJ (lC (xs.take j)) (jB xs j):=by
 unfold lC
 rw[gg,dH hj,gW,gh,←jR _ j hj]
 rfl
theorem b5n(z:Int)(h:isN z):Fn prog 112 [I z] H fun r H'=>r=.bool true∧St prog H H' []:=by
 have h0:=h.1
 have h1:=h.2
 refine .aN func112 rfl (by kernel_rfl) (m:=9) rfl fun l hn g0=> ?_
 simp(disch:=omega) only[↓RA,RZ,simprocAttr,hn,g0]
 refine jW (fun q1=> ?_) (fun q1=> ?_)
 rotate_left
 ·exfalso;first|omega|(simp at q1;omega)
 simp(disch:=omega) only[↓RA,RZ,simprocAttr,hn,g0,c8U,q1]
 simpa using⟨(by omega:z≤127),(sR H)⟩
theorem zX(xs:List Int)(hz:∀z∈xs,isN z)(v:Value)(hv:Sl 1 (one I) H v xs)(hl:xs.length<1000000000):
 Fn prog 83 [v] H fun r H'=>r=.tuple #[.agg #[.int .u64 (lC xs).1,.int .u64 (lC xs).2],I 0]∧St prog H H' []:=by
 refine .aN func83 rfl (by kernel_rfl) (m:=22) rfl fun l hn g0=> ?_
 simp(disch:=omega) only[↓RA,RZ,simprocAttr]
 refine(sR H).eNew 2 [(.int .u64 0),(.int .u64 0)] rfl rfl rfl pJ fun A1 H1 hS1=> ?_
 simp only[RT]at hS1
 simp(disch:=omega) only[↓RA,RZ,simprocAttr]
 refine hS1.eNew 2 [(.int .u64 0),(.int .u64 0)] rfl rfl rfl pJ fun A2 H2 hS2=> ?_
 simp only[RT]at hS2
 simp(disch:=omega) only[↓RA,RZ,simprocAttr,hn,g0,(hS2.sl hv).len]
 refine Wp.ak (fun n l H'=>l.length=22∧get l 2=(ptr A1 0 2)∧get l 4=(ptr A2 0 2)∧get l 7=v∧get l 8=I xs.length∧∃(j:Nat),(n+j=xs.length)∧get l 9=I j∧St prog H H' [⟨ptr A1 0 2,0,[(.int .u64 0),(.int .u64 0)]⟩,⟨ptr A2 0 2,0,[.int .u64 (lC (xs.take j)).1,.int .u64 (lC (xs.take j)).2]⟩]) xs.length ?_ ?_
 ·simp(disch:=omega) only[RB,RC,simprocAttr,hn]
  exact⟨0,by omega,rfl,hS2⟩
 rintro n l H3⟨hn,g2,g4,g7,g8,j,hj,g9,hS3⟩
 simp(disch:=omega) only[↓RA,RB,simprocAttr,hn,g8,g9]
 refine jA (fun q1=> ?_) (fun q1=> ?_)
 ·have hx:=hz _ (jE (xs:=xs) (j:=j) (by omega))
  have hok:Nt.Ok (lC (xs.take j)):=yU _ _ (fun z h=>hz z (List.mem_of_mem_take h)) ⟨by decide,by decide⟩
  simp(disch:=omega) only[↓RA,RZ,simprocAttr,hn,g7,g9,(hS3.sl hv).idx,(hS3.sl hv).ld,one,q1]
  refine hS3.cF (b5n (jB xs j) hx) fun H4 hS4=> ?_
  simp(disch:=omega) only[↓RA,RZ,simprocAttr,hn,g4,hS4.ae 1 rfl,q1]
  refine hS4.cF (b0f (lC (xs.take j)) hok (jB xs j) hx.1 hx.2) fun H5 hS5=> ?_
  simp(disch:=omega) only[↓RA,RZ,simprocAttr,hn,g4,q1]
  refine hS5.aa 1 rfl [(.int .u64 (vJ (lC (xs.take j)) (jB xs j)).1),(.int .u64 (vJ (lC (xs.take j)) (jB xs j)).2)] rfl rfl pJ (by simp) fun H6 hS6=> ?_
  simp only[RT]at hS6
  simp(disch:=omega) only[↓RA,RZ,simprocAttr,hn,g2,g4,g7,g8,g9,q1]
  refine⟨n-1,by omega,j+1,by omega,by simp,?_⟩
  rw[a9y xs (by omega)]
  exact hS6.pick [0,1] (by decide) rfl
 have hjj:j=xs.length:=by omega
 simp(disch:=omega) only[↓RA,RZ,simprocAttr,hn,g2,g4,hS3.ae 1 rfl,q1]
 refine hS3.aa 0 rfl [(.int .u64 (lC (xs.take j)).1),(.int .u64 (lC (xs.take j)).2)] rfl rfl pJ (by simp) fun H7 hS7=> ?_
 simp only[RT]at hS7
 simp(disch:=omega) only[↓RA,RZ,simprocAttr,hn,g2,d1I,hS7.ae 0 rfl,q1]
 rw[hjj,eS]
 exact⟨rfl,hS7.forget⟩
end Go.Ds
namespace Go.Ds
open Go.Proofs
variable {H:Heap}
set_option maxRecDepth 10000
set_option maxHeartbeats 1000000
end Go.Ds
namespace Go.Ds
open Go.Proofs Go.Proofs.Tryz
variable {H:Heap}
set_option maxRecDepth 10000
set_option maxHeartbeats 1000000
def ctz(x:Nat):Nat:=((List.range 64).find? fun i=>x.testBit i).getD 64
theorem a4h{x:Nat}(h0:x≠0)(h1:x<18446744073709551616):ctz x<64∧x.testBit (ctz x)=true∧∀j,j<ctz x→x.testBit j=false:=by
 have hx:∃i,i<64∧x.testBit i=true:=by
  refine fj fun hn=>h0 ?_
  refine ic fun i=> ?_
  rw[jq]
  by_cases hi:i<64
  ·by_cases hb:x.testBit i=true
   ·exact absurd ⟨i,hi,hb⟩ hn
   ·simpa using hb
  ·exact Nat.testBit_lt_two_pow (eH (show x<2^64 by simpa using h1) (fY (by decide) (by omega)))
 unfold ctz
 cases hf:(List.range 64).find? fun i=>x.testBit i with
 | none=>
   obtain⟨i,hi,hb⟩:=hx
   have:=gp.1 hf i (dS.2 hi)
   exact absurd hb (by simpa using this)
 | some i=>
   obtain⟨hb,ys,bs,he,hn⟩:=List.find?_eq_some_iff_append.1 hf
   have hi:i<64:=dS.1 (he▸(by simp:i∈ys++i::bs))
   refine⟨hi,hb,fun j hj0=> ?_⟩
   have hj:j<i:=hj0
   have hl:ys.length=i:=by
    have h2:(List.range 64)[ys.length]? =some i:=by rw[he];simp
    have h3:ys.length<64:=by
     have:=congrArg List.length he
     simp at this
     omega
    rw[iT h3]at h2
    exact dA h2
   have hm:j∈ys:=by
    have h2:(List.range 64)[j]? =some j:=iT (by omega)
    rw[he,eZ (by simpa using(hl▸hj))]at h2
    exact dR h2
   simpa using hn j hm
theorem a5N{x:Nat}(h0:x≠0)(h1:x<18446744073709551616):∃m,x=2^ctz x*(2*m+1):=by
 obtain⟨c1,c2,c3⟩:=a4h h0 h1
 generalize ctz x=k at c1 c2 c3
 have hd:x%2^k=0:=by
  refine ic fun i=> ?_
  rw[Nat.testBit_mod_two_pow,jq]
  by_cases hi:i<k
  ·rw[c3 i hi,Bool.and_false]
  ·rw[decide_eq_false hi,fX]
 have h2:x/2^k%2=1:=by
  rw[←fF]
  have:=c2
  rw[tb]at this
  exact of_decide_eq_true this
 refine⟨x/2^k/2,?_⟩
 have h3:=Nat.div_add_mod x (2^k)
 have h4:=Nat.div_add_mod (x/2^k) 2
 rw[hd,iu]at h3
 rw[←h3]
 congr 1
 rw[h3]
 omega
theorem c3N{x:Nat}(h0:x≠0)(h1:x<18446744073709551616):x&&&(18446744073709551616-x)=2^ctz x:=by
 obtain⟨m,hm⟩:=a5N h0 h1
 obtain⟨c1,_,_⟩:=a4h h0 h1
 generalize ctz x=k at hm c1
 have e64:(18446744073709551616:Nat)=2^k*(2*2^(63-k)):=by
  have:2^k*(2*2^(63-k))=2^64:=by rw[←Nat.pow_succ',←Nat.pow_add];congr 1;omega
  rw[this]
 have hml:m<2^(63-k):=by
  rw[e64,hm]at h1
  have:=Nat.lt_of_mul_lt_mul_left h1
  omega
 have e2:18446744073709551616-x=2^k*(2*(2^(63-k)-(m+1))+1):=by
  rw[e64,hm,←Nat.mul_sub]
  congr 1
  omega
 rw[e2,hm]
 refine ic fun i=> ?_
 rw[Nat.testBit_and,gO]
 have hs:∀y:Nat,(2^k*y).testBit i=(decide (k≤i)&&y.testBit (i-k)):=fun y=>by rw[jh,Nat.testBit_mul_two_pow]
 rw[hs,hs]
 by_cases hi:k≤i
 ·rw[decide_eq_true hi,gm,gm]
  by_cases he:i=k
  ·subst he
   rw[jf,Nat.testBit_zero,Nat.testBit_zero]
   simp
  ·obtain⟨j,hj⟩:∃j,i-k=j+1:=⟨i-k-1,by omega⟩
   rw[hj,Nat.testBit_succ,Nat.testBit_succ,show(2*m+1)/2=m by omega,show(2*(2^(63-k)-(m+1))+1)/2=2^(63-k)-(m+1) by omega,Nat.testBit_two_pow_sub_succ hml,decide_eq_false (by omega:¬k=i)]
   cases m.testBit j<;>simp
 ·rw[decide_eq_false hi,fX,decide_eq_false (by omega)]
  rfl
theorem c9Z:((List.range 64).all fun k=>decide (2^k*285870213051353865%18446744073709551616/288230376151711744<64)&&decide (t64.getD (2^k*285870213051353865%18446744073709551616/288230376151711744) 99=k))=true:=by kernel_rfl
theorem c0d{P:Program}{t:TypeId}{n:Nat}{elem:TypeId}{size:Nat}(ha:P.underlying t=some (.array n elem))(hs:jD P elem=some size)(A i:Nat)(k:IntKind)(j:Int)(h0:0≤j)(h1:j<n):
 xB (jV P t) P t (.pointer (some ⟨A,i,none⟩)) (.int k j)=some (.pointer (some ⟨A,i+j.toNat*size,none⟩)):=by
 have hn:jV P t=none:=by simp[jV,jI,ha]
 rw[hn]
 simp only[xB,a3l,ha,hs,dC]
 rw[if_pos (by simp[h0,h1])]
theorem c7C(k:IntKind)(j:Int)(h0:0≤j)(h1:j<64):xB (jV prog 294) prog 294 (.pointer (some ⟨0,0,none⟩)) (.int k j)=some (.pointer (some ⟨0,0+j.toNat*1,none⟩)):=
 c0d (n:=64) (elem:=5) (size:=1) (by kernel_rfl) (by kernel_rfl) 0 0 k j h0 h1
theorem b7c(g:Nat)(l:List Value)(K:Value→Prop):kI (.global g) l K=K (.pointer (some ⟨g,0,none⟩)):=by simp[kI,jT,ev]
theorem gld(hG:Glob gH H)(j:Nat)(hj:j<64)(s:Option Nat):oU (some false) s H (.pointer (some ⟨0,j,none⟩))=some (.int .u8 (t64.getD j 0:Nat)):=by
 have h0:jS H 0=some (.cells (t64.map fun(n:Nat)=>Value.int .u8 (.ofNat n)) 5 false 0 1):=by
  rw[hG.same 0 (by decide)]
  rfl
 simp only[oU,kG,h0]
 have hl:(t64.map fun(n:Nat)=>Value.int .u8 (.ofNat n)).length=64:=by rw[dU];rfl
 rw[if_pos (by rw[hl];simp;omega)]
 simp only[dC]
 rw[eJ (by omega),ed,iu,ft,dH (show j<t64.length from hj)]
 rw[ez,dE,dH (show j<t64.length from hj)]
 rfl
theorem b2t(m:Int):IntKind.wrap .u64 m=m%18446744073709551616:=by
 show(if(false&&decide (m%18446744073709551616≥9223372036854775808))=true then m%18446744073709551616-18446744073709551616 else m%18446744073709551616)=_
 simp
theorem c8t(hG:Glob gH H)(x:Nat)(h0:x≠0)(h1:x<18446744073709551616):Fn prog 157 [.int .u64 x] H fun r H'=>r=I (ctz x)∧St prog H H' []:=by
 obtain⟨c1,_,_⟩:=a4h h0 h1
 have hd:=dT.1 c9Z (ctz x) (dS.2 c1)
 rw[dB,decide_eq_true_eq,decide_eq_true_eq]at hd
 have eA:IntKind.wrap .u64 (0-(x:Int))=((18446744073709551616-x:Nat):Int):=by
  rw[b2t]
  omega
 have eB:IntKind.wrap .u64 ((BitVec.ofInt (IntKind.bits .u64) (x:Int)&&&BitVec.ofInt (IntKind.bits .u64) ((18446744073709551616-x:Nat):Int)).toNat:Int)=((2^ctz x:Nat):Int):=by
  rw[gS,xF x h1,xF _ (by omega),c3N h0 h1]
  exact qC _ (by omega) (by have:=a7P (ctz x) c1;omega)
 have eC:IntKind.wrap .u64 (((2^ctz x:Nat):Int)*285870213051353865)=((2^ctz x*285870213051353865%18446744073709551616:Nat):Int):=by
  rw[b2t]
  rfl
 have eD:((2^ctz x*285870213051353865%18446744073709551616:Nat):Int).fdiv (2^min 58 (IntKind.bits .u64))=((2^ctz x*285870213051353865%18446744073709551616/288230376151711744:Nat):Int):=by
  rw[show(2:Int)^min 58 (IntKind.bits .u64)=((288230376151711744:Nat):Int)from rfl]
  exact iK _ (by omega)
 have hd1:=hd.1
 have hd2:=hd.2
 generalize 2^ctz x*285870213051353865%18446744073709551616/288230376151711744=i at eD hd1 hd2
 refine .aN func157 rfl (by kernel_rfl) (m:=14) rfl fun l hn g0=> ?_
 have jS:=gld hG i hd1 (some 1)
 rw[show t64.getD i 0=ctz x from by rw[←hd2,dE,dE,dH (show i<t64.length from hd1)];rfl]at jS
 have hidx:=c7C .u64 (i:Int) (by omega) (by omega)
 rw[eh,iI,fZ]at hidx
 simp(disch:=omega) only[↓RA,RB,simprocAttr,hn,g0]
 refine jA (fun q=> ?_) (fun q=> ?_)
 ·exfalso;omega
 simp(disch:=omega) only[↓RA,RZ,simprocAttr,hn,g0,c9D,eA,eB,eC,eD,b7c,jS,hidx,q]
 first|exact(sR H)|exact⟨rfl,(sR H)⟩
theorem a7E{x:Nat}(h0:x≠0)(h1:x<18446744073709551616)(j:Nat):(x&&&(x-1)).testBit j=(x.testBit j&& !decide (j=ctz x)):=by
 obtain⟨m,hm⟩:=a5N h0 h1
 generalize ctz x=k at hm
 have hp:0<2^k:=Nat.two_pow_pos k
 have e1:x=2^(k+1)*m+2^k:=by rw[hm,Nat.pow_succ,Nat.mul_add,iI,Nat.mul_assoc]
 have e2:x-1=2^(k+1)*m+(2^k-1):=by omega
 have hl:2^k<2^(k+1):=Nat.pow_lt_pow_right (by decide) (by omega)
 rw[Nat.testBit_and,e2]
 rw[e1,Nat.testBit_two_pow_mul_add m hl,Nat.testBit_two_pow_mul_add m (by omega:2^k-1<2^(k+1))]
 by_cases hj:j<k+1
 ·rw[if_pos hj,if_pos hj,gO,Nat.testBit_two_pow_sub_one]
  by_cases he:j=k
  ·simp[he]
  ·simp[show¬k=j by omega]
 ·rw[if_neg hj,if_neg hj,show decide (j=k)=false from decide_eq_false (by omega)]
  simp
theorem b7q{x:Nat}(h0:x≠0)(h1:x<18446744073709551616):qO x=ctz x::qO (x&&&(x-1)):=by
 obtain⟨c1,c2,c3⟩:=a4h h0 h1
 have hb:=a7E h0 h1
 generalize ctz x=k at c1 c2 c3 hb
 obtain⟨t,ht⟩:=yF c1
 have hnd:(List.range 64).Nodup:=List.nodup_range
 unfold qO
 rw[ht,fJ,fJ,List.filter_cons_of_pos (by simpa using c2),List.filter_cons_of_neg (by rw[hb];simp)]
 rw[ht]at hnd
 have e1:(List.range k).filter (fun i=>x.testBit i)=[]:=List.filter_eq_nil_iff.2 fun i hi=>by simpa using c3 i (dS.1 hi)
 have e2:(List.range k).filter (fun i=>(x&&&(x-1)).testBit i)=[]:=List.filter_eq_nil_iff.2 fun i hi=>by rw[hb,c3 i (dS.1 hi)];simp
 rw[e1,e2,fH,fH]
 congr 1
 refine List.filter_congr fun i hi=> ?_
 have hne:i≠k:=fun e=>by
  subst e
  exact(iC.1 (gN.1 hnd).2.1).1 hi
 rw[hb,decide_eq_false hne]
 simp
theorem b3w:qO 0=[]:=List.filter_eq_nil_iff.2 fun i _=>by simp
def rL(x:Nt):List Int:=(qO x.1).map (fun(i:Nat)=>(i:Int))++(qO x.2).map fun(i:Nat)=>64+(i:Int)
def a8W(x:Nt)(i:Nat):Nat:=if i=0 then x.1 else x.2
def a7n(x:Nt)(i:Nat):List Int:=(qO (a8W x i)).map fun(j:Nat)=>64*(i:Int)+(j:Int)
def a7O(x:Nt)(i:Nat):List Int:=(List.range i).flatMap (a7n x)
theorem a1Z(x:Nt)(i:Nat):a7O x (i+1)=a7O x i++a7n x i:=by
 unfold a7O
 rw[eR,dV,ec,fw,dO]
theorem b0k(x:Nt):a7O x 2=rL x:=by
 rw[a1Z,a1Z]
 unfold rL a7O a7n a8W
 simp
theorem c4b{x:Nt}(hx:Nt.Ok x)(i:Nat):a8W x i<18446744073709551616:=by
 unfold a8W
 split
 ·exact hx.1
 ·exact hx.2
theorem c9u(a b:Int):rB prog 267 (.agg #[.int .u64 a,.int .u64 b]) (I 0)=some (.int .u64 a):=by kernel_rfl
theorem c8R(a b:Int):rB prog 267 (.agg #[.int .u64 a,.int .u64 b]) (I 1)=some (.int .u64 b):=by kernel_rfl
theorem d1J(x:Nt)(i:Nat)(h:i<2):a3u (qH prog 267) prog 267 (.agg #[.int .u64 x.1,.int .u64 x.2]) (I i)=some (.int .u64 (a8W x i)):=by
 rw[←b0i]
 rcases(by omega:i=0∨i=1)with rfl|rfl
 ·exact c9u _ _
 ·exact c8R _ _
theorem c6n(x:Nt)(hx:Nt.Ok x)(A:Nat)(f:Value)(J:List Int→Heap→Prop)(h0:J [] H)(hg:∀d H1,J d H1→Var H1 A 2 [.int .u64 x.1,.int .u64 x.2]∧Glob gH H1)
 (hst:∀d H1 H2,J d H1→St prog H1 H2 []→J d H2)
 (hf:∀d c e H1,rL x=d++c::e→J d H1→uL prog f [I c] H1 fun v H2=>v=.bool true∧J (d++[c]) H2):
 FnS prog 156 [f,ptr A 0 2] H fun _ H'=>J (rL x) H':=by
 have hV0:=(hg _ _ h0).1
 refine FnS.bg func156 rfl (by kernel_rfl) fun l hl=> ?_
 have hn:l.length=29:=by rw[hl];rfl
 have g0:get l 0=f:=by rw[hl];rfl
 have g1:get l 1=(ptr A 0 2):=by rw[hl];rfl
 clear hl
 simp(disch:=omega) only[↓RA,RZ,simprocAttr,hn,g1,hV0.ld,b6z]
 refine Wp.ak (fun n l H'=>l.length=29∧get l 0=f∧get l 1=ptr A 0 2∧get l 9=.agg #[.int .u64 x.1,.int .u64 x.2]∧∃i:Nat,n+i=2∧get l 10=I i∧J (a7O x i) H') 2 ?_ ?_
 ·simp(disch:=omega) only[RB,RC,simprocAttr,hn,g0,g1]
  exact⟨0,rfl,rfl,h0⟩
 rintro n l H9⟨hn,g0,g1,g9,i,hi,wW,hJ⟩
 simp(disch:=omega) only[↓RA,RB,simprocAttr,hn,wW]
 refine jA (fun q1=> ?_) (fun q1=> ?_)
 ·have hix:=d1J x i (by omega)
  have hwl:=c4b hx i
  simp(disch:=omega) only[↓RA,RZ,simprocAttr,hn,g9,wW,q1,hix]
  refine Wp.ak (fun n2 l H'=>l.length=29∧get l 0=f∧get l 1=ptr A 0 2∧get l 9=.agg #[.int .u64 x.1,.int .u64 x.2]∧get l 10=I i∧get l 3=I i∧∃(y:Nat)(d:List Nat),(n2=(qO y).length∧y<18446744073709551616∧qO (a8W x i)=d++qO y)∧get l 4=.int .u64 y∧J (a7O x i++d.map fun(j:Nat)=>64*(i:Int)+(j:Int)) H') (qO (a8W x i)).length ?_ ?_
  ·simp(disch:=omega) only[RB,RC,simprocAttr,hn,g0,g1,g9,wW]
   exact⟨a8W x i,[],⟨rfl,hwl,rfl⟩,rfl,by rw[gy,dO];exact hJ⟩
  rintro n2 l H8⟨hn,g0,g1,g9,wW,g3,y,d,⟨hn2,hy,hbd⟩,g4,hJ2⟩
  simp(disch:=omega) only[↓RA,RB,simprocAttr,hn,g4]
  refine jA (fun q2=> ?_) (fun q2=> ?_)
  ·have hy0:y≠0:=by omega
   have hc:=a4h hy0 hy
   have hlow:=b7q hy0 hy
   have hGl:=(hg _ _ hJ2).2
   have eY1:IntKind.wrap .u64 ((y:Int)-1)=((y-1:Nat):Int):=by
    rw[b2t]
    omega
   have eY2:IntKind.wrap .u64 ((BitVec.ofInt (IntKind.bits .u64) (y:Int)&&&BitVec.ofInt (IntKind.bits .u64) ((y-1:Nat):Int)).toNat:Int)=((y&&&(y-1):Nat):Int):=by
    rw[gS,xF y hy,xF _ (by omega)]
    have:=Nat.and_le_left (n:=y) (m:=y-1)
    exact qC _ (by omega) (by omega)
   have hyl:y&&&(y-1)<18446744073709551616:=Nat.lt_of_le_of_lt Nat.and_le_left hy
   have hmem:rL x=(a7O x i++d.map fun(j:Nat)=>64*(i:Int)+(j:Int))++(64*(i:Int)+(ctz y:Int))::((qO (y&&&(y-1))).map (fun(j:Nat)=>64*(i:Int)+(j:Int))++((List.range 2).drop (i+1)).flatMap (a7n x)):=by
    rw[←b0k]
    unfold a7O
    have e:List.range 2=List.range i++i::(List.range 2).drop (i+1):=by
     rcases(by omega:i=0∨i=1)with rfl|rfl<;>rfl
    rw[congrArg (List.flatMap (a7n x)) e,dV,ec]
    rw[show a7n x i=(d++qO y).map (fun(j:Nat)=>64*(i:Int)+(j:Int))from by unfold a7n;rw[hbd]]
    rw[hlow,dY,eN]
    simp only[ef,gr]
   have hc1:=hc.1
   simp(disch:=omega) only[↓RA,RZ,simprocAttr,hn,g0,g3,g4,q2]
   refine(sR H8).cF (c8t ((sR H8).gl hGl) y hy0 hy) fun H1 hS1=> ?_
   simp(disch:=omega) only[↓RA,RZ,simprocAttr,hn,q2]
   refine b2z (hf _ _ _ _ hmem (hst _ _ _ hJ2 hS1)) ?_
   rintro r H10⟨rfl,hJ3⟩
   simp(disch:=omega) only[↓RA,RZ,simprocAttr,hn,g0,g1,g9,wW,g3,g4,q2,eY1,eY2]
   refine⟨(qO (y&&&(y-1))).length,by rw[hn2,hlow];simp,y&&&(y-1),d++[ctz y],⟨rfl,hyl,by rw[hbd,hlow];simp⟩,rfl,?_⟩
   rw[dY,eN,gy,←ef]
   exact hJ3
  simp(disch:=omega) only[↓RA,RZ,simprocAttr,hn,g0,g1,g9,wW,q2]
  have hy0:y=0:=by omega
  subst hy0
  refine⟨n-1,by omega,i+1,by omega,by simp,?_⟩
  rw[a1Z]
  have:a7n x i=d.map fun(j:Nat)=>64*(i:Int)+(j:Int):=by
   unfold a7n
   rw[hbd,b3w,dO]
  rw[this]
  exact hJ2
 simp(disch:=omega) only[↓RA,RZ,simprocAttr,c9R,q1]
 have e:i=2:=by omega
 subst e
 rw[←b0k]
 exact hJ
theorem a3y(x:Nt):(rL x).length≤128:=by
 unfold rL
 rw[dM,dU,dU]
 have h1:=a9B x.1 64
 have h2:=a9B x.2 64
 unfold c1n at h1 h2
 unfold qO
 omega
theorem b7p(hG:Glob gH H)(x:Nt)(hx:Nt.Ok x)(A:Nat)(hA:Var H A 2 [.int .u64 x.1,.int .u64 x.2]):
 Fn prog 155 [.slice none 0 0,.func (.func 156) #[] #[ptr A 0 2]] H fun r H'=>St prog H H' [⟨r,1,(rL x).flatMap (one I)⟩]:=by
 refine .aE func155 rfl (by kernel_rfl) (m:=13) rfl fun l hn g0 g1=> ?_
 simp(disch:=omega) only[↓RA,RB,simprocAttr,g0]
 refine(sR H).eNew 1 [(.slice none 0 0)] rfl rfl rfl b6Y fun A1 H1 hS1=> ?_
 simp only[RT]at hS1
 simp(disch:=omega) only[↓RA,RB,simprocAttr,g1]
 have hS2:=hS1.nil 0
 simp only[RT]at hS2
 refine Wp.cX fun lrg1 hlrg1=> ?_
 have hnrg1:lrg1.length=13:=by rw[hlrg1];simp(disch:=omega) only[RB,simprocAttr,hn]
 have g2rg1:get lrg1 2=(ptr A1 0 1):=by rw[hlrg1];simp(disch:=omega) only[RB,simprocAttr,hn]
 have g4rg1:get lrg1 4=(.slice none 0 0):=by rw[hlrg1];simp(disch:=omega) only[RB,simprocAttr,hn]
 have gfrg1:get lrg1 6=.func (.func 156) #[] [(ptr A 0 2)].toArray:=by rw[hlrg1];simp(disch:=omega) only[RB,simprocAttr,hn]
 clear hlrg1
 refine Wp.cG gfrg1 fun rg1 hstrg1 hpdrg1 htmrg1 hpsrg1 hasrg1 hbdrg1=> ?_
 have hreqrg1:({rg1 with state:=.ready,pending:=none}:Loop)=rg1:=by
  cases rg1
  simp only at hstrg1 hpdrg1
  subst hstrg1 hpdrg1
  rfl
 have hLprg1:=Lp.enter hS2 rg1
 generalize H1.cons (.loop rg1)=Hcrg1 at hLprg1 ⊢
 generalize H1.length=Lrg1 at hLprg1 ⊢
 refine(c6n x hx A (.func (.yield Lrg1) #[] #[]) (fun d H1=>∃ow,Lp prog H Lrg1 rg1 H1 [⟨ptr A1 0 1,0,[ow]⟩,⟨ow,1,d.flatMap (one I)⟩]) ⟨.slice none 0 0,hLprg1⟩ ?_ ?_ ?_).mono ?_
 ·rintro d H1⟨ow,h⟩
  exact⟨hA.ag h.st.ag,h.st.gl hG⟩
 ·rintro d H1 H2⟨ow,h⟩hS
  exact⟨ow,by simpa using h.ext hS⟩
 ·rintro d c e H20 hm⟨ow,hLpj⟩
  have hml:=a3y x
  have hdl:d.length<128:=by
   rw[hm,dM,eL]at hml
   omega
  refine a2w hLpj.get (by rw[hpsrg1];rfl) hstrg1 ?_
  refine Wp.bW (l:=put lrg1 (some 7) (I c)) hasrg1 (by rw[hpsrg1,htmrg1];first|exact(oO ..).symm|rfl|simp[put,oO]) ?_
  simp(disch:=omega) only[↓RA,RZ,simprocAttr,hnrg1]
  refine⟨rg1,hLpj.get,hstrg1,?_⟩
  have hYBs1:=hLpj.set (fun h=>h) {rg1 with state:=.busy}
  have hKBs1:∀B,B≠Lrg1→jS (hset H20 Lrg1 (.loop {rg1 with state:=.busy})) B=jS H20 B:=fun B h=>kC _ (fP h)
  have hNBs1:(hset H20 Lrg1 (.loop {rg1 with state:=.busy})).length=H20.length:=kN ..
  generalize hset H20 Lrg1 (.loop {rg1 with state:=.busy})=HBs1 at hYBs1 hKBs1 hNBs1 ⊢
  refine Wp.bW hbdrg1 rfl ?_
  have hZBs1:=hYBs1.st
  obtain⟨Bs1,hBBs1,hS3⟩:=hZBs1.aA (os:=[⟨ptr A1 0 1,0,_⟩,⟨ow,1,_⟩])
  simp(disch:=omega) only[↓RA,RZ,simprocAttr,hnrg1,g2rg1,hS3.ld 0 rfl]
  refine hS3.aj [I c] uE a2h rfl rfl (by simp[Value.cells]) rfl rfl (by decide) (by decide) fun w1 H2 hS4=> ?_
  simp only[RT]at hS4
  simp(disch:=omega) only[↓RA,RZ,simprocAttr,hnrg1]
  refine hS4.aq 1 rfl (hS4.rd 2 rfl) uE (by rw[nF,dU];simp;omega) fun w2 H3 hS5=> ?_
  simp only[RT]at hS5
  simp(disch:=omega) only[↓RA,RB,simprocAttr,hnrg1,g2rg1]
  refine hS5.aa 0 rfl [w2] (by rw[(hS5.rd 1 rfl).cells.1]) (by simp[(hS5.rd 1 rfl).cells.2.1]) b6Y (by simp) fun H4 hS6=> ?_
  simp only[RT]at hS6
  simp(disch:=omega) only[↓RA,simprocAttr]
  have hS7:=hS6.pick (os':=[⟨ptr A1 0 1,0,_⟩,⟨w2,1,_⟩]) [0,1] (by decide) rfl
  have hWBs1:=(hYBs1.body (hBBs1▸hS7)).set (fun h=>h) rg1
  rw[←hreqrg1]at hWBs1
  refine⟨_,(hYBs1.body (hBBs1▸hS7)).get,rfl,w2,?_⟩
  rw[dV]
  exact hreqrg1▸hWBs1
 ·rintro _ H21⟨ow,hLp2⟩
  refine⟨_,hLp2.get,(by rw[hstrg1];exact fun h=>by cases h),fun _=> ?_,fun c hc=>by rw[hpdrg1]at hc;cases hc⟩
  have hAAf1:=(hLp2.set (fun h=>h) {rg1 with state:=.exhausted}).st
  have hKAf1:∀B,B≠Lrg1→jS (hset H21 Lrg1 (.loop {rg1 with state:=.exhausted})) B=jS H21 B:=fun B h=>kC _ (fP h)
  generalize hset H21 Lrg1 (.loop {rg1 with state:=.exhausted})=HAf1 at hAAf1 hKAf1 ⊢
  simp(disch:=omega) only[↓RA,RZ,simprocAttr,hnrg1,g2rg1,hAAf1.ld 0 rfl,c8V]
  exact hAAf1.pick [1] (by decide) rfl
theorem b1W(hG:Glob gH H)(x:Nt)(hx:Nt.Ok x)(A:Nat)(hA:Var H A 2 [.int .u64 x.1,.int .u64 x.2]):
 Fn prog 109 [.func (.func 156) #[] #[ptr A 0 2]] H fun r H'=>St prog H H' [⟨r,1,(rL x).flatMap (one I)⟩]:=by
 refine .aN func109 rfl (by kernel_rfl) (m:=5) rfl fun l hn g0=> ?_
 simp(disch:=omega) only[↓RA,RZ,simprocAttr,hn,g0]
 refine jG ((b7p ((sR H).gl hG) x hx A (hA.ag (sR H).ag)).tr) ?_
 rintro r H1⟨-,hT1⟩
 have hS1:=(sR H).trans hT1
 simp only[RT]at hS1
 simp(disch:=omega) only[↓RA,RB,simprocAttr,hn,c8u]
 exact hS1
theorem c4Z(x:Nt):Fn prog 110 [.agg #[.int .u64 x.1,.int .u64 x.2]] H fun r H'=>∃A,r=.func (.func 156) #[] #[ptr A 0 2]∧St prog H H' [⟨ptr A 0 2,0,[.int .u64 x.1,.int .u64 x.2]⟩]:=by
 refine .aN func110 rfl (by kernel_rfl) (m:=4) rfl fun l hn g0=> ?_
 simp(disch:=omega) only[↓RA,RB,simprocAttr,g0]
 refine(sR H).eNew 2 [(.int .u64 x.1),(.int .u64 x.2)] rfl rfl rfl pJ fun A1 H1 hS1=> ?_
 simp only[RT]at hS1
 simp(disch:=omega) only[↓RA,RZ,simprocAttr,hn,c9A]
 exact⟨A1,rfl,hS1⟩
theorem b3j(hG:Glob gH H)(x:Nt)(hx:Nt.Ok x):
 Fn prog 69 [.agg #[.int .u64 x.1,.int .u64 x.2]] H fun r H'=>St prog H H' [⟨r,1,(rL x).flatMap (one I)⟩]:=by
 refine .aN func69 rfl (by kernel_rfl) (m:=6) rfl fun l hn g0=> ?_
 simp(disch:=omega) only[↓RA,RB,simprocAttr,g0]
 refine(sR H).eNew 2 [(.int .u64 x.1),(.int .u64 x.2)] rfl rfl rfl pJ fun A1 H1 hS1=> ?_
 simp only[RT]at hS1
 simp(disch:=omega) only[↓RA,RZ,simprocAttr,hn,hS1.ae 0 rfl]
 refine jG (c4Z x) ?_
 rintro r H2⟨A2,rfl,hT1⟩
 have hS2:=hS1.trans hT1
 simp only[RT]at hS2
 simp(disch:=omega) only[↓RA,RZ,simprocAttr,hn]
 refine jG ((b1W (hS2.gl hG) x hx A2 (hS2.var 1 rfl)).tr) ?_
 rintro r H3⟨-,hT2⟩
 have hS3:=hS2.trans hT2
 simp only[RT]at hS3
 simp(disch:=omega) only[↓RA,RB,simprocAttr,hn,d2i]
 exact hS3.pick [2] (by decide) rfl
def b0w(a b:Nat):Nat:=(BitVec.ofNat 64 a&&&~~~ BitVec.ofNat 64 b).toNat
theorem a7X(a b:Nat):b0w a b<18446744073709551616:=(BitVec.ofNat 64 a&&&~~~ BitVec.ofNat 64 b).isLt
theorem c5K(a b:Nat):IntKind.wrap .u64 ((BitVec.ofInt (IntKind.bits .u64) (a:Int)&&&~~~ BitVec.ofInt (IntKind.bits .u64) (b:Int)).toNat:Int)=((b0w a b:Nat):Int):=by
 have e:(BitVec.ofInt (IntKind.bits .u64) (a:Int)&&&~~~ BitVec.ofInt (IntKind.bits .u64) (b:Int)).toNat=b0w a b:=by
  unfold b0w
  rw[gu,gu]
  rfl
 rw[e]
 have:=a7X a b
 exact qC _ (by omega) (by omega)
theorem b0l(a b j:Nat)(ha:a<18446744073709551616)(hj:j<64):(b0w a b).testBit j=(a.testBit j&& !b.testBit j):=by
 unfold b0w
 have h1:(BitVec.ofNat 64 a&&&~~~ BitVec.ofNat 64 b).toNat.testBit j=(BitVec.ofNat 64 a&&&~~~ BitVec.ofNat 64 b).getLsbD j:=rfl
 rw[h1,BitVec.getLsbD_and,BitVec.getLsbD_not,BitVec.getLsbD_ofNat,BitVec.getLsbD_ofNat]
 simp[hj]
def woF(x y:Nt):Nt:=(b0w x.1 y.1,b0w x.2 y.2)
theorem c7A(x y:Nt):Nt.Ok (woF x y):=⟨a7X _ _,a7X _ _⟩
theorem c7F(x y:Nt):Fn prog 130 [.agg #[.int .u64 x.1,.int .u64 x.2],.agg #[.int .u64 y.1,.int .u64 y.2]] H fun r H'=>r=.agg #[.int .u64 (woF x y).1,.int .u64 (woF x y).2]∧St prog H H' []:=by
 have e1:=c5K x.1 y.1
 have e2:=c5K x.2 y.2
 refine .aE func130 rfl (by kernel_rfl) (m:=16) rfl fun l hn g0 g1=> ?_
 simp(disch:=omega) only[↓RA,RB,simprocAttr,g0]
 refine(sR H).eNew 2 [(.int .u64 x.1),(.int .u64 x.2)] rfl rfl rfl pJ fun A1 H1 hS1=> ?_
 simp only[RT]at hS1
 simp(disch:=omega) only[↓RA,RB,simprocAttr,g1]
 refine hS1.eNew 2 [(.int .u64 y.1),(.int .u64 y.2)] rfl rfl rfl pJ fun A2 H2 hS2=> ?_
 simp only[RT]at hS2
 simp(disch:=omega) only[↓RA,RZ,simprocAttr]
 refine hS2.eNew 2 [(.int .u64 0),(.int .u64 0)] rfl rfl rfl pJ fun A3 H3 hS3=> ?_
 simp only[RT]at hS3
 simp(disch:=omega) only[↓RA,RZ,simprocAttr,hn,hS3.ld 0 rfl,hS3.ld 1 rfl,c1R,e1,e2]
 refine hS3.aa 2 rfl [_,_] rfl rfl pJ (by simp) fun H4 hS4=> ?_
 simp only[RT]at hS4
 simp(disch:=omega) only[↓RA,RZ,simprocAttr,hn,d0x,hS4.ae 2 rfl]
 exact⟨rfl,hS4.forget⟩
theorem b1D(x y:Nt):Fn prog 93 [.agg #[.int .u64 x.1,.int .u64 x.2],.agg #[.int .u64 y.1,.int .u64 y.2]] H fun r H'=>r=.bool (decide (woF x y=(0,0)))∧St prog H H' []:=by
 refine .aE func93 rfl (by kernel_rfl) (m:=10) rfl fun l hn g0 g1=> ?_
 simp(disch:=omega) only[↓RA,RB,simprocAttr,g0]
 refine(sR H).eNew 2 [(.int .u64 x.1),(.int .u64 x.2)] rfl rfl rfl pJ fun A1 H1 hS1=> ?_
 simp only[RT]at hS1
 simp(disch:=omega) only[↓RA,RB,simprocAttr,g1]
 refine hS1.eNew 2 [(.int .u64 y.1),(.int .u64 y.2)] rfl rfl rfl pJ fun A2 H2 hS2=> ?_
 simp only[RT]at hS2
 simp(disch:=omega) only[↓RA,RZ,simprocAttr,hn,hS2.ae 0 rfl,hS2.ae 1 rfl]
 refine hS2.cF (c7F x y) fun H3 hS3=> ?_
 simp(disch:=omega) only[↓RA,RZ,simprocAttr,hn,c5l,d1v]
 refine⟨?_,hS3.forget⟩
 congr 1
 rw[decide_eq_decide]
 constructor
 ·rintro⟨h1,h2⟩
  exact iJ (by simpa using h1) (by simpa using h2)
 ·intro h
  rw[h]
  exact⟨rfl,rfl⟩
def a1T(lo hi:Int):Nt:=lC ((List.range (hi-lo+1).toNat).map fun(k:Nat)=>lo+(k:Int))
theorem b7A(lo hi:Int)(h0:0≤lo)(h1:lo≤hi)(h2:hi≤127):Fn prog 92 [.agg #[I lo,I hi]] H fun r H'=>r=.tuple #[.agg #[.int .u64 (a1T lo hi).1,.int .u64 (a1T lo hi).2],I 0]∧St prog H H' []:=by
 have hce:tG lo hi=0:=by
  unfold tG
  rw[if_neg (by omega),if_neg (by omega)]
 refine .aN func92 rfl (by kernel_rfl) (m:=25) rfl fun l hn g0=> ?_
 simp(disch:=omega) only[↓RA,RB,simprocAttr,g0]
 refine(sR H).eNew 2 [I lo,I hi] rfl rfl rfl rZ fun A1 H1 hS1=> ?_
 simp only[RT]at hS1
 simp(disch:=omega) only[↓RA,RZ,simprocAttr]
 refine hS1.eNew 2 [(.int .u64 0),(.int .u64 0)] rfl rfl rfl pJ fun A2 H2 hS2=> ?_
 simp only[RT]at hS2
 simp(disch:=omega) only[↓RA,RZ,simprocAttr]
 refine hS2.eNew 2 [(.int .u64 0),(.int .u64 0)] rfl rfl rfl pJ fun A3 H3 hS3=> ?_
 simp only[RT]at hS3
 simp(disch:=omega) only[↓RA,RZ,simprocAttr,hn,hS3.ae 0 rfl]
 refine hS3.cF (a3e lo hi) fun H4 hS4=> ?_
 rw[hce]
 simp(disch:=omega) only[↓RA,RZ,simprocAttr,hn,hS4.ld 0 rfl]
 refine Wp.ak (fun n l H'=>l.length=25∧get l 1=(ptr A1 0 2)∧get l 2=(ptr A2 0 2)∧get l 3=I 0∧get l 4=(ptr A3 0 2)∧∃(j:Nat),(n+j=(hi-lo+1).toNat)∧get l 6=I (lo+(j:Int))∧St prog H H' [⟨ptr A1 0 2,0,[I lo,I hi]⟩,⟨ptr A2 0 2,0,[(.int .u64 0),(.int .u64 0)]⟩,⟨ptr A3 0 2,0,[.int .u64 (lC ((List.range j).map fun(k:Nat)=>lo+(k:Int))).1,.int .u64 (lC ((List.range j).map fun(k:Nat)=>lo+(k:Int))).2]⟩]) (hi-lo+1).toNat ?_ ?_
 ·simp(disch:=omega) only[RB,RC,simprocAttr,hn]
  exact⟨0,by omega,by simp,hS4⟩
 rintro n l H5⟨hn,g1,g2,g3,g4,j,hj,g6,hS5⟩
 simp(disch:=omega) only[↓RA,RZ,simprocAttr,hn,g1,g6,hS5.ld 0 rfl]
 refine jA (fun q1=> ?_) (fun q1=> ?_)
 ·have hok:Nt.Ok (lC ((List.range j).map fun(k:Nat)=>lo+(k:Int))):=yU _ _ (fun z h=>by
   obtain⟨k,hk,rfl⟩:=dP.1 h
   have:=dS.1 hk
   exact⟨by omega,by omega⟩) ⟨by decide,by decide⟩
  have hsu:lC ((List.range (j+1)).map fun(k:Nat)=>lo+(k:Int))=vJ (lC ((List.range j).map fun(k:Nat)=>lo+(k:Int))) (lo+(j:Int)):=by
   unfold lC
   rw[eR,dY,gh]
   rfl
  simp(disch:=omega) only[↓RA,RZ,simprocAttr,hn,g4,g6,hS5.ae 2 rfl,q1]
  refine hS5.cF (b0f (lC ((List.range j).map fun(k:Nat)=>lo+(k:Int))) hok (lo+(j:Int)) (by omega) (by omega)) fun H6 hS6=> ?_
  simp(disch:=omega) only[↓RA,RZ,simprocAttr,hn,g4,q1]
  refine hS6.aa 2 rfl [(.int .u64 (vJ (lC ((List.range j).map fun(k:Nat)=>lo+(k:Int))) (lo+(j:Int))).1),(.int .u64 (vJ (lC ((List.range j).map fun(k:Nat)=>lo+(k:Int))) (lo+(j:Int))).2)] rfl rfl pJ (by simp) fun H7 hS7=> ?_
  simp only[RT]at hS7
  simp(disch:=omega) only[↓RA,RZ,simprocAttr,hn,g1,g2,g3,g4,g6,q1]
  refine⟨n-1,by omega,j+1,by omega,by congr 1;omega,?_⟩
  rw[hsu]
  exact hS7.pick [0,1,2] (by decide) rfl
 have hjj:j=(hi-lo+1).toNat:=by omega
 simp(disch:=omega) only[↓RA,RZ,simprocAttr,hn,g2,g4,hS5.ae 2 rfl,q1]
 refine hS5.aa 1 rfl [(.int .u64 (lC ((List.range j).map fun(k:Nat)=>lo+(k:Int))).1),(.int .u64 (lC ((List.range j).map fun(k:Nat)=>lo+(k:Int))).2)] rfl rfl pJ (by simp) fun H8 hS8=> ?_
 simp only[RT]at hS8
 simp(disch:=omega) only[↓RA,RZ,simprocAttr,hn,g2,d1m,hS8.ae 1 rfl,q1]
 rw[hjj]
 exact⟨rfl,hS8.forget⟩
structure Ks(H:Heap)(kv:Value)(ks:List Nt):Prop where
 sl:Sl 2 ntc H kv ks
 len:ks.length<1000000000
 ok:∀x∈ks,Nt.Ok x
theorem Ks.ag{P:Program}{H':Heap}{kv:Value}{ks:List Nt}{os:List Ob}(h:Ks H kv ks)(hS:St P H H' os):Ks H' kv ks:=⟨hS.sl h.sl,h.len,h.ok⟩
def uA(o:Org)(ks:List Nt):Int:=if organE o≠0 then organE o else if ks.length≠o.dvs.length then 5 else if ∃j,j<o.dvs.length∧woF (jB ks j) (a1T (jB o.dvs j).lo (jB o.dvs j).hi)≠(0,0)then 23 else 0
theorem b9r(o:Org)(ho:o.In H)(kv:Value)(ks:List Nt)(hk:Ks H kv ks):Fn prog 49 [.agg #[.string o.name,o.rv,o.dv,o.cv],kv] H fun r H'=>r=I (uA o ks)∧St prog H H' []:=by
 have hkl:=hk.len
 have hdl:=ho.2.2.2.2.2.2.1
 refine .aE func49 rfl (by kernel_rfl) (m:=43) rfl fun l hn g0 g1=> ?_
 simp(disch:=omega) only[↓RA,RB,simprocAttr,g0]
 refine(sR H).eNew 4 [(.string o.name),o.rv,o.dv,o.cv] rfl rfl (by simp[OC,((sR H).sl ho.1).cells.2.1,((sR H).sl ho.2.2.1).cells.2.1,((sR H).sl ho.2.2.2.2.1).cells.2.1]) zD fun A1 H1 hS1=> ?_
 simp only[RT]at hS1
 simp(disch:=omega) only[↓RA,RZ,simprocAttr,hn,hS1.ae 0 rfl]
 refine hS1.cF (b0z o (ho.ag hS1)) fun H2 hS2=> ?_
 simp(disch:=omega) only[↓RA,RB,simprocAttr,hn]
 refine jA (fun h1=> ?_) (fun h1=> ?_)
 ·simp(disch:=omega) only[↓RA,RZ,simprocAttr,hn,c3u,h1]
  exact⟨by unfold uA;rw[if_pos h1],hS2.forget⟩
 have hz:organE o=0:=dX.1 h1
 have hf:=Org.aK hz
 simp(disch:=omega) only[↓RA,RZ,simprocAttr,hn,g1,(hS2.sl hk.sl).len,hS2.ld 0 rfl,(hS2.sl ho.2.2.1).len,h1]
 refine jA (fun h2=> ?_) (fun h2=> ?_)
 ·simp(disch:=omega) only[↓RA,RZ,simprocAttr,hn,c3u,h1,h2]
  exact⟨by unfold uA;rw[if_neg h1,if_pos (by omega)],hS2.forget⟩
 have hlen:ks.length=o.dvs.length:=by omega
 simp(disch:=omega) only[↓RA,RZ,simprocAttr,hn,hS2.ld 0 rfl,(hS2.sl ho.2.2.1).len,h1,h2]
 refine Wp.ak (fun n l H'=>l.length=43∧get l 1=kv∧get l 22=o.dv∧get l 23=I o.dvs.length∧∃(j:Nat),(n+j=o.dvs.length∧∀q,q<j→woF (jB ks q) (a1T (jB o.dvs q).lo (jB o.dvs q).hi)=(0,0))∧get l 24=I j∧St prog H H' [⟨ptr A1 0 4,0,[(.string o.name),o.rv,o.dv,o.cv]⟩]) o.dvs.length ?_ ?_
 ·simp(disch:=omega) only[RB,RC,simprocAttr,hn,g1]
  exact⟨0,⟨by omega,fun q hq=>absurd hq (eu _)⟩,rfl,hS2⟩
 rintro n l H3⟨hn,g1,g22,g23,j,⟨hj,hq⟩,g24,hS3⟩
 simp(disch:=omega) only[↓RA,RB,simprocAttr,hn,g23,g24]
 refine jA (fun h3=> ?_) (fun h3=> ?_)
 ·have hky:=hf.keys j (by omega)
  simp(disch:=omega) only[↓RA,RZ,simprocAttr,hn,g22,g24,(hS3.sl ho.2.2.1).idx,(hS3.sl ho.2.2.1).ae,Dvn.cells,h3]
  refine hS3.eNew 5 [(.string ⟨#[]⟩),(.bool false),I 0,I 0,(.slice none 0 0)] rfl rfl rfl sB fun A2 H4 hS4=> ?_
  simp only[RT]at hS4
  simp(disch:=omega) only[↓RA,RZ,simprocAttr,hn,h3]
  refine hS4.aa 1 rfl [(.string (jB o.dvs j).name),(.bool (jB o.dvs j).pedal),I (jB o.dvs j).lo,I (jB o.dvs j).hi,(jB o.dvs j).sv] rfl (by simp[OC,(hS4.sl (ho.2.2.2.1 (jB o.dvs j) (jE (by omega))).1).cells.2.1]) sB (by simp) fun H5 hS5=> ?_
  simp only[RT]at hS5
  simp(disch:=omega) only[↓RA,RZ,simprocAttr,hn,hS5.ae 1 rfl,h3]
  refine hS5.cF (b7A (jB o.dvs j).lo (jB o.dvs j).hi hky.1 hky.2.1 hky.2.2) fun H6 hS6=> ?_
  simp(disch:=omega) only[↓RA,RZ,simprocAttr,hn,h3]
  refine hS6.eNew 2 [(.int .u64 0),(.int .u64 0)] rfl rfl rfl pJ fun A3 H7 hS7=> ?_
  simp only[RT]at hS7
  simp(disch:=omega) only[↓RA,RZ,simprocAttr,hn,h3]
  refine hS7.aa 2 rfl [(.int .u64 (a1T (jB o.dvs j).lo (jB o.dvs j).hi).1),(.int .u64 (a1T (jB o.dvs j).lo (jB o.dvs j).hi).2)] rfl rfl pJ (by simp) fun H8 hS8=> ?_
  simp only[RT]at hS8
  simp(disch:=omega) only[↓RA,RZ,simprocAttr,hn,h3]
  refine Wp.drw kQ (by kernel_rfl) ?_
  simp(disch:=omega) only[↓RA,RZ,simprocAttr,hn,g1,(hS8.sl hk.sl).idx,(hS8.sl hk.sl).ae,ntc,hS8.ae 2 rfl]
  refine hS8.cF (b1D (jB ks j) (a1T (jB o.dvs j).lo (jB o.dvs j).hi)) fun H9 hS9=> ?_
  simp(disch:=omega) only[↓RA,RB,simprocAttr,hn]
  refine kA (fun h4=> ?_) (fun h4=> ?_)
  ·have h5:¬woF (jB ks j) (a1T (jB o.dvs j).lo (jB o.dvs j).hi)=(0,0):=by simpa using h4
   simp(disch:=omega) only[↓RA,RB,simprocAttr,hn,c3u,h4]
   exact⟨by unfold uA;rw[if_neg h1,if_neg (by omega),if_pos ⟨j,by omega,h5⟩],hS9.forget⟩
  have h5:woF (jB ks j) (a1T (jB o.dvs j).lo (jB o.dvs j).hi)=(0,0):=by simpa using h4
  simp(disch:=omega) only[↓RA,RZ,simprocAttr,hn,g1,g22,g23,g24,h4]
  exact⟨n-1,by omega,j+1,⟨by omega,fun q hq'=>by rcases dK.1 hq' with e|e;(· exact hq q e);(· rw[e];exact h5)⟩,by simp,hS9.pick [0] (by decide) rfl⟩
 simp(disch:=omega) only[↓RA,RZ,simprocAttr,hn,c3u,h3]
 refine⟨?_,hS3.forget⟩
 unfold uA
 rw[if_neg h1,if_neg (by omega),if_neg]
 rintro⟨q,hq1,hq2⟩
 exact hq2 (hq q (by omega))
def plD(ks:List Nt)(i:Nat):List Ct:=(rL (jB ks i)).map fun z=>((i:Int),z)
def jF(ks:List Nt):List Ct:=(List.range ks.length).flatMap (plD ks)
theorem c7N(ks:List Nt)(i:Nat):(plD ks i).length≤128:=by
 unfold plD
 rw[dU]
 exact a3y _
theorem b9L(ks:List Nt):∀i,((List.range i).flatMap (plD ks)).length≤i*128
 | 0=>by simp
 | i+1=>by
   have:=b9L ks i
   have:=c7N ks i
   rw[eR,dV,dM,ec,fw,dO]
   omega
end Go.Ds
namespace Go.Ds
open Go.Proofs Go.Proofs.Tryz Go.ChangeShapes Go.WideShapes Go.RowKit Go.Deep
set_option maxRecDepth 10000
structure RgI(H:Heap)(r:Reg)(sv:Value):Prop where
 sl:Sl 1 (one u64) H sv r.stops
 len:r.stops.length<9223372036854775808
 ok:∀x∈r.stops,x<18446744073709551616
 cpl:r.cpl<18446744073709551616
 off:r.off<18446744073709551616
structure KsI(H:Heap)(kv:Value)(ks:List Nt):Prop where
 sl:Sl 2 ntc H kv ks
 len:ks.length<9223372036854775808
 ok:∀x∈ks,Nt.Ok x
theorem RgI.ext{ρ ρ':Rho}{H H':Heap}{r:Reg}{sv:Value}(h:RgI H r sv)(e:ExtW ρ H ρ' H'):RgI H' r sv:=⟨h.sl.ext e,h.len,h.ok,h.cpl,h.off⟩
theorem RgI.ag{P:Program}{H H0:Heap}{os:List Ob}{r:Reg}{sv:Value}(h:RgI H0 r sv)(hS:St P H0 H os):RgI H r sv:=⟨hS.sl h.sl,h.len,h.ok,h.cpl,h.off⟩
theorem KsI.ag{P:Program}{H H0:Heap}{os:List Ob}{kv:Value}{ks:List Nt}(h:KsI H0 kv ks)(hS:St P H0 H os):KsI H kv ks:=⟨hS.sl h.sl,h.len,h.ok⟩
theorem RgI.reg{H:Heap}{r:Reg}{sv:Value}(h:RgI H r sv)(hl:r.stops.length<1000000000):r.In H sv:=⟨h.sl,hl,h.ok,h.cpl,h.off⟩
theorem KsI.ks{H:Heap}{kv:Value}{ks:List Nt}(h:KsI H kv ks)(hl:ks.length<1000000000):Ks H kv ks:=⟨h.sl,hl,h.ok⟩
theorem Pln.In.ext{ρ ρ':Rho}{H H':Heap}{p:Pln}(h:p.In H)(e:ExtW ρ H ρ' H'):p.In H':=⟨h.1.ext e,h.2.1.ext e,fun b hb=>⟨(h.2.2.1 b hb).1.ext e,(h.2.2.1 b hb).2⟩,h.2.2.2.1.ext e,h.2.2.2.2⟩
section
variable {H0:Type} {enc:TypeId×Value→H0} {w:World} {base n:Nat} {spare:Nat→Bool} {lR:Bool} {x:DataW H0×List MemPlace}
theorem c2N{cs:List Value}(h:DataW.trod enc prog w base spare lR n 48 cs=some x):∃m:Nat,cs=one u64 m∧m<18446744073709551616:=by
 obtain⟨m,hv,_,hw⟩:=DataW.trod_int underlying48 h
 have hm:0≤m∧m≤18446744073709551615:=by simpa [Lit.wf,IntKind.min,IntKind.max,IntKind.signed,IntKind.bits]using hw
 refine⟨m.toNat,?_,by omega⟩
 rw[hv]
 show _=[Value.int .u64 ((m.toNat:Nat):Int)]
 rw[gA hm.1]
theorem u64_in{v:Value}(h:DataW.trod enc prog w base spare lR n 48 [v]=some x):∃m:Nat,v=.int .u64 m∧m<18446744073709551616:=by
 obtain⟨m,hv,hm⟩:=c2N h
 exact⟨m,by simpa [one,u64]using hv,hm⟩
end
section
variable {H0:Type} {enc:TypeId×Value→H0} {w:World} {base fuel:Nat} {lR:Bool} {x:DataW H0×List MemPlace} {ρ:Rho} {H:Heap}
end
end Go.Ds
namespace Go.Ds
open Go.Proofs Go.ChangeShapes Go.WideShapes Go.RowKit Go.Deep
set_option maxRecDepth 10000
variable {H0:Type} {enc:TypeId×Value→H0} {w:World} {base:Nat} {lR:Bool}
end Go.Ds
namespace Go.Ds
open Go.Proofs Go.ChangeShapes Go.WideShapes Go.RowKit Go.Deep
set_option maxRecDepth 10000
section
variable {H0:Type} {enc:TypeId×Value→H0} {w:World} {base:Nat} {lR:Bool}
end
end Go.Ds
namespace Go.Ds
open Go.Proofs
set_option maxRecDepth 10000
def tI(x:Nt)(z:Int):Bool:=if z<64 then x.1.testBit z.toNat else x.2.testBit (z-64).toNat
theorem vC{x i:Nat}:i∈qO x↔i<64∧x.testBit i=true:=by
 unfold qO
 rw[eY,dS]
theorem c0z{x:Nt}{z:Int}:z∈rL x↔isN z∧tI x z=true:=by
 unfold rL tI isN
 rw[eo,dP,dP]
 constructor
 ·rintro(⟨i,hi,rfl⟩|⟨i,hi,rfl⟩)
  ·obtain⟨h1,h2⟩:=vC.1 hi
   exact⟨by omega,by rw[if_pos (by omega)];exact h2⟩
  ·obtain⟨h1,h2⟩:=vC.1 hi
   refine⟨by omega,?_⟩
   rw[if_neg (by omega),show(64+(i:Int)-64).toNat=i by omega]
   exact h2
 ·rintro⟨h1,h2⟩
  by_cases h:z<64
  ·rw[if_pos h]at h2
   exact .inl ⟨z.toNat,vC.2 ⟨by omega,h2⟩,by omega⟩
  ·rw[if_neg h]at h2
   exact .inr ⟨(z-64).toNat,vC.2 ⟨by omega,h2⟩,by omega⟩
theorem b7Q(x:Nt)(n z:Int)(hn:isN n)(hz:isN z):tI (vJ x n) z=(tI x z||decide (z=n)):=by
 unfold tI vJ isN at*
 by_cases h1:n<64
 ·rw[if_pos h1]
  by_cases h2:z<64
  ·rw[if_pos h2,if_pos h2,Nat.testBit_or,gO]
   congr 1
   rw[decide_eq_decide]
   omega
  ·rw[if_neg h2,if_neg h2,decide_eq_false (by omega),Bool.or_false]
 ·rw[if_neg h1]
  by_cases h2:z<64
  ·rw[if_pos h2,if_pos h2,decide_eq_false (by omega),Bool.or_false]
  ·rw[if_neg h2,if_neg h2,Nat.testBit_or,gO]
   congr 1
   rw[decide_eq_decide]
   omega
theorem a6t(z:Int):tI (0,0) z=false:=by
 unfold tI
 split<;>simp
theorem a6n:∀(xs:List Int)(x:Nt)(z:Int),(∀n∈xs,isN n)→isN z→tI (xs.foldl vJ x) z=(tI x z||decide (z∈xs))
 | [],x,z,_,_=>by simp
 | n::xs,x,z,h,hz=>by
   rw[fN,a6n xs _ z (fun y hy=>h y (eX _ hy)) hz,b7Q x n z (h n (eW ..)) hz,Bool.or_assoc]
   congr 1
   rw[fc]
   simp
theorem a3Q{xs:List Int}{z:Int}(h:∀n∈xs,isN n)(hz:isN z):tI (lC xs) z=decide (z∈xs):=by
 unfold lC
 rw[a6n xs _ z h hz,a6t,Bool.false_or]
theorem a9x{lo hi z:Int}(h0:0≤lo)(h2:hi≤127)(hz:isN z):tI (a1T lo hi) z=(decide (lo≤z)&&decide (z≤hi)):=by
 unfold a1T
 rw[a3Q (fun n hn=>by
  obtain⟨k,hk,rfl⟩:=dP.1 hn
  have:=dS.1 hk
  exact⟨by omega,by omega⟩) hz,fc,dB,decide_eq_true_eq,decide_eq_true_eq,decide_eq_true_eq,dP]
 constructor
 ·rintro⟨k,hk,rfl⟩
  have:=dS.1 hk
  omega
 ·rintro⟨h3,h4⟩
  exact⟨(z-lo).toNat,dS.2 (by omega),by omega⟩
theorem b4Q{x y:Nt}(hx:Nt.Ok x){z:Int}(hz:isN z):tI (woF x y) z=(tI x z&& !tI y z):=by
 obtain⟨h1,h2⟩:=hz
 unfold tI woF
 by_cases h:z<64
 ·rw[if_pos h,if_pos h,if_pos h,b0l _ _ _ hx.1 (by omega)]
 ·rw[if_neg h,if_neg h,if_neg h,b0l _ _ _ hx.2 (by omega)]
theorem b1w{x y:Nt}(hx:Nt.Ok x)(h:woF x y=(0,0)){z:Int}(hz:isN z)(hh:tI x z=true):tI y z=true:=by
 have:=b4Q (y:=y) hx hz
 rw[h,a6t,hh]at this
 simpa using this.symm
theorem a0e{o:Org}{ks:List Nt}(h:uA o ks=0):organE o=0∧ks.length=o.dvs.length∧∀j,j<o.dvs.length→woF (jB ks j) (a1T (jB o.dvs j).lo (jB o.dvs j).hi)=(0,0):=by
 unfold uA at h
 split at h
 ·rename_i hh;exact absurd h hh
 rename_i h1
 split at h
 ·omega
 rename_i h2
 split at h
 ·omega
 rename_i h3
 refine⟨dX.1 h1,by omega,fun j hj=> ?_⟩
 by_cases hh:woF (jB ks j) (a1T (jB o.dvs j).lo (jB o.dvs j).hi)=(0,0)
 ·exact hh
 ·exact absurd ⟨j,hj,hh⟩ h3
theorem oM{o:Org}{ks:List Nt}(hok:∀x∈ks,Nt.Ok x)(h:uA o ks=0):∀c∈jF ks,nB o c=true:=by
 obtain⟨h1,h2,h3⟩:=a0e h
 have hf:=Org.aK h1
 intro c hc
 unfold jF at hc
 obtain⟨i,hi,hc⟩:=eM.1 hc
 have hi:=dS.1 hi
 unfold plD at hc
 obtain⟨z,hz,rfl⟩:=dP.1 hc
 obtain⟨hz1,hz2⟩:=c0z.1 hz
 have hky:=hf.keys i (by omega)
 have hw:=b1w (hok _ (jE hi)) (h3 i (by omega)) hz1 hz2
 rw[a9x hky.1 hky.2.2 hz1]at hw
 simp only[dB,decide_eq_true_eq]at hw
 unfold nB
 simp only[dB,decide_eq_true_eq,eh]
 omega
theorem a2g{o:Org}{ks:List Nt}(h:uA o ks=0):(jF ks).length≤1024:=by
 obtain⟨h1,h2,_⟩:=a0e h
 have h8:=(Org.aK h1).dlen
 have:=b9L ks ks.length
 unfold jF
 omega
end Go.Ds
namespace Go.Ds
open Go.Proofs
variable {H:Heap}
set_option maxRecDepth 10000
set_option maxHeartbeats 1000000
end Go.Ds
namespace Go.Ds
open Go.Proofs
variable {H:Heap}
set_option maxRecDepth 10000
structure Sn where
 o:Org
 sv:Value
 rg:Reg
 kv:Value
 ks:List Nt
 p:Ct
 deriving Inhabited
abbrev Sn.v(s:Sn):Value:=.agg #[.string s.o.name,s.o.rv,s.o.dv,s.o.cv,s.sv,.int .u64 s.rg.cpl,.int .u64 s.rg.off,s.kv,I s.p.1,I s.p.2]
def Sn.cells(s:Sn):List Value:=[.string s.o.name,s.o.rv,s.o.dv,s.o.cv,s.sv,.int .u64 s.rg.cpl,.int .u64 s.rg.off,s.kv,I s.p.1,I s.p.2]
structure Sn.In(H:Heap)(s:Sn):Prop where
 o:s.o.In H
 rg:s.rg.In H s.sv
 ks:Ks H s.kv s.ks
theorem Sn.In.ag{s:Sn}{H0 H:Heap}{P:Program}{os:List Ob}(h:s.In H0)(hS:St P H0 H os):s.In H:=⟨h.o.ag hS,h.rg.ag hS,h.ks.ag hS⟩
def pOk(s:Sn):Bool:=decide (0≤s.p.1)&&decide (s.p.1<s.o.ranks.length)&&decide (0≤s.p.2)&&decide (s.p.2<(jB s.o.ranks s.p.1.toNat).wind.length)
def snE(s:Sn):Int:=if uH s.o s.rg≠0 then uH s.o s.rg else if uA s.o s.ks≠0 then uA s.o s.ks else if pOk s then 0 else 10
structure Sn.Fit(s:Sn):Prop where
 reg:uH s.o s.rg=0
 keys:uA s.o s.ks=0
 p:pOk s=true
theorem qG{s:Sn}:snE s=0↔s.Fit:=by
 unfold snE
 constructor
 ·intro h
  split at h
  ·rename_i h1;exact absurd h h1
  ·split at h
   ·rename_i h1;exact absurd h h1
   ·rename_i h1 h2
    split at h
    ·rename_i h3;exact⟨dX.1 h1,dX.1 h2,h3⟩
    ·cases h
 ·rintro⟨h1,h2,h3⟩
  rw[if_neg (by simp[h1]),if_neg (by simp[h2]),if_pos h3]
theorem Sn.Fit.o{s:Sn}(h:s.Fit):organE s.o=0:=(a0j h.reg).1
theorem Sn.Fit.aK{s:Sn}(h:s.Fit):s.o.Fine:=Org.aK h.o
theorem Sn.Fit.sl{s:Sn}(h:s.Fit):s.rg.stops.length=s.o.dvs.length:=(a0j h.reg).2
theorem Sn.Fit.rank{s:Sn}(h:s.Fit):0≤s.p.1∧s.p.1<s.o.ranks.length∧0≤s.p.2∧s.p.2<(jB s.o.ranks s.p.1.toNat).wind.length:=by
 have:=h.p
 unfold pOk at this
 simp only[dB,decide_eq_true_eq]at this
 omega
theorem Org.bk{o:Org}(h:organE o=0){j:Nat}(hj:j<o.cpls.length):(0≤(jB o.cpls j).src∧(jB o.cpls j).src<o.dvs.length)∧(0≤(jB o.cpls j).dst∧(jB o.cpls j).dst<o.dvs.length)∧(-127≤(jB o.cpls j).shift∧(jB o.cpls j).shift≤127)∧¬((jB o.cpls j).src=(jB o.cpls j).dst∧(jB o.cpls j).shift=0):=by
 have hl:(kps o.dvs).length=o.dvs.length:=by simp[kps]
 unfold organE at h
 split at h
 ·omega
 split at h
 ·omega
 split at h
 ·rename_i hh;exact absurd h hh
 split at h
 ·omega
 split at h
 ·omega
 split at h
 ·rename_i hh;exact absurd h hh
 unfold tX at h
 split at h
 ·omega
 split at h
 ·omega
 have e:=pP h j hj
 unfold nV at e
 dsimp only at e
 rw[hl]at e
 split at e
 ·omega
 split at e
 ·omega
 split at e
 ·omega
 split at e
 ·omega
 split at e
 ·omega
 omega
theorem c7Q{o:Org}(h:organE o=0){j:Nat}(hj:j<o.cpls.length):∃d:Nat,(jB o.cpls j).dst=d∧d<o.dvs.length:=
 have hc:=Org.bk h hj
 ⟨(jB o.cpls j).dst.toNat,by omega,by omega⟩
theorem c6c{o:Org}(h:organE o=0){j:Nat}(hj:j<o.cpls.length):∃d:Nat,(jB o.cpls j).src=d∧d<o.dvs.length:=
 have hc:=Org.bk h hj
 ⟨(jB o.cpls j).src.toNat,by omega,by omega⟩
def cplB(s:Sn)(i:Int):Bool:=decide (0≤i)&&decide (i<s.o.cpls.length)&&s.rg.cpl.testBit i.toNat
def ldB(s:Sn)(i:Int)(c:Ct)(first:Bool):Bool:=
 cplB s i&&decide ((jB s.o.cpls i.toNat).src=c.1)&&(first||(jB s.o.cpls i.toNat).thr)&&decide ((jB s.o.dvs (jB s.o.cpls i.toNat).dst.toNat).lo≤(to1 (jB s.o.cpls i.toNat) c).2)&&decide ((to1 (jB s.o.cpls i.toNat) c).2≤(jB s.o.dvs (jB s.o.cpls i.toNat).dst.toNat).hi)
def stC(s:Sn)(i:Int)(c:Ct):Ct:=if cplB s i then to1 (jB s.o.cpls i.toNat) c else(0,0)
def drwB(s:Sn)(i:Int)(c:Ct):Bool:=
 decide (0≤i)&&decide (i<(jB s.o.dvs c.1.toNat).stops.length)&&(jB s.rg.stops c.1.toNat).testBit i.toNat&&decide (s.p∈a2c s.o.ranks (jB (jB s.o.dvs c.1.toNat).stops i.toNat) c.2)
def a1Q(s:Sn)(c:Ct)(n:Nat):List Int:=((List.range n).filter fun(i:Nat)=>drwB s i c).map fun(i:Nat)=>(i:Int)
def stpL(s:Sn)(c:Ct):List Int:=a1Q s c (jB s.o.dvs c.1.toNat).stops.length
theorem b6U(s:Sn)(c:Ct)(n:Nat):a1Q s c (n+1)=a1Q s c n++(if drwB s n c then[(n:Int)]else[]):=by
 unfold a1Q
 rw[eR,fJ,dY]
 congr 1
 by_cases h:drwB s n c=true
 ·rw[if_pos h];simp[h]
 ·rw[if_neg h];simp[h]
theorem b4b(s:Sn)(c:Ct)(n:Nat):(a1Q s c n).length≤n:=by
 unfold a1Q
 rw[dU]
 refine dZ (fy _ _) ?_
 simp
def rY(s:Sn)(d:Int):Bool:=s.rg.off.testBit d.toNat
end Go.Ds
namespace Go.Ds
open Go.Proofs
variable {H:Heap}
set_option maxRecDepth 10000
set_option maxHeartbeats 1000000
end Go.Ds
namespace Go.Ds
open Go.Proofs Go.Proofs.Tryz
variable {H:Heap}
set_option maxRecDepth 10000
set_option maxHeartbeats 1000000
theorem a0o(hG:Glob gH H)(s:Sn)(hs:s.In H)(hf:s.Fit):Fn prog 51 [s.v] H fun r H'=>St prog H H' [⟨r,2,pr (jF s.ks)⟩]:=by
 have h8:s.ks.length≤8:=by
  obtain⟨h1,h2,_⟩:=a0e hf.keys
  have:=(Org.aK h1).dlen
  omega
 refine .aN func51 rfl (by kernel_rfl) (m:=32) rfl fun l hn g0=> ?_
 simp(disch:=omega) only[↓RA,RB,simprocAttr,g0]
 refine(sR H).eNew 10 [(.string s.o.name),s.o.rv,s.o.dv,s.o.cv,s.sv,(.int .u64 s.rg.cpl),(.int .u64 s.rg.off),s.kv,I s.p.1,I s.p.2] rfl rfl (by simp[OC,((sR H).sl hs.o.1).cells.2.1,((sR H).sl hs.o.2.2.1).cells.2.1,((sR H).sl hs.o.2.2.2.2.1).cells.2.1,((sR H).sl hs.rg.1).cells.2.1,((sR H).sl hs.ks.sl).cells.2.1]) pS fun A1 H1 hS1=> ?_
 simp only[RT]at hS1
 simp(disch:=omega) only[↓RA,RZ,simprocAttr,hn,hS1.ld 0 rfl,(hS1.sl hs.ks.sl).len]
 have hS2:=hS1.nil 1
 simp only[RT]at hS2
 refine Wp.ak (fun n l H'=>l.length=32∧get l 2=(.slice none 0 0)∧get l 9=s.kv∧get l 10=I s.ks.length∧∃(i:Nat)(ov:Value),(n+i=s.ks.length)∧get l 11=I i∧get l 3=ov∧St prog H H' [⟨ptr A1 0 10,0,[(.string s.o.name),s.o.rv,s.o.dv,s.o.cv,s.sv,(.int .u64 s.rg.cpl),(.int .u64 s.rg.off),s.kv,I s.p.1,I s.p.2]⟩,⟨ov,2,pr ((List.range i).flatMap (plD s.ks))⟩]) s.ks.length ?_ ?_
 ·simp(disch:=omega) only[RB,RC,simprocAttr,hn]
  exact⟨0,.slice none 0 0,by omega,rfl,rfl,hS2⟩
 rintro n l H2⟨hn,g2,g9,wW,i,ov,hi,g11,g3,hS3⟩
 simp(disch:=omega) only[↓RA,RB,simprocAttr,hn,wW,g11]
 refine jA (fun q1=> ?_) (fun q1=> ?_)
 ·have hmo:=hs.ks.ok _ (jE (xs:=s.ks) (j:=i) (by omega))
  have hml:=a3y (jB s.ks i)
  have hpl:=b9L s.ks i
  simp(disch:=omega) only[↓RA,RZ,simprocAttr,hn,g9,g11,(hS3.sl hs.ks.sl).idx,(hS3.sl hs.ks.sl).ae,ntc,q1]
  refine hS3.eNew 2 [(.int .u64 0),(.int .u64 0)] rfl rfl rfl pJ fun A2 H3 hS4=> ?_
  simp only[RT]at hS4
  simp(disch:=omega) only[↓RA,RZ,simprocAttr,hn,q1]
  refine hS4.aa 2 rfl [(.int .u64 (jB s.ks i).1),(.int .u64 (jB s.ks i).2)] rfl rfl pJ (by simp) fun H4 hS5=> ?_
  simp only[RT]at hS5
  simp(disch:=omega) only[↓RA,RZ,simprocAttr,hn,hS5.ae 2 rfl,q1]
  refine jG ((b3j (hS5.gl hG) (jB s.ks i) hmo).tr) ?_
  rintro r H5⟨-,hT1⟩
  have hS6:=hS5.trans hT1
  simp only[RT]at hS6
  obtain⟨mw,rfl⟩:∃w,w=r:=⟨r,rfl⟩
  simp(disch:=omega) only[↓RA,RZ,simprocAttr,hn,(hS6.az 3 rfl (fun _=>rfl)).len,q1]
  refine Wp.ak (fun n l H'=>l.length=32∧get l 2=(.slice none 0 0)∧get l 4=I i∧get l 9=s.kv∧get l 10=I s.ks.length∧get l 11=I i∧get l 17=mw∧get l 18=I (rL (jB s.ks i)).length∧∃(j:Nat)(ow:Value),(n+j=(rL (jB s.ks i)).length)∧get l 19=I j∧get l 3=ow∧St prog H H' [⟨ptr A1 0 10,0,[(.string s.o.name),s.o.rv,s.o.dv,s.o.cv,s.sv,(.int .u64 s.rg.cpl),(.int .u64 s.rg.off),s.kv,I s.p.1,I s.p.2]⟩,⟨ow,2,pr ((List.range i).flatMap (plD s.ks)++((rL (jB s.ks i)).take j).map fun z=>((i:Int),z))⟩,⟨ptr A2 0 2,0,[(.int .u64 (jB s.ks i).1),(.int .u64 (jB s.ks i).2)]⟩,⟨mw,1,(rL (jB s.ks i)).flatMap (one I)⟩]) (rL (jB s.ks i)).length ?_ ?_
  ·simp(disch:=omega) only[RB,RC,simprocAttr,hn,g2,g9,wW,g11,g3]
   refine⟨0,ov,by omega,rfl,rfl,?_⟩
   rw[List.take_zero,gy,dO]
   exact hS6
  rintro n l H6⟨hn,g2,g4,g9,wW,g11,g17,g18,j,ow,hj,g19,g3,hS7⟩
  simp(disch:=omega) only[↓RA,RB,simprocAttr,hn,g18,g19]
  refine jA (fun q2=> ?_) (fun q2=> ?_)
  ·have hroom:(pr ((List.range i).flatMap (plD s.ks)++((rL (jB s.ks i)).take j).map fun z=>((i:Int),z))).length≤4000:=by
    rw[jN,dM,dU,fQ]
    omega
   simp(disch:=omega) only[↓RA,RZ,simprocAttr,hn,g4,g17,g19,g3,(hS7.az 3 rfl (fun _=>rfl)).idx,(hS7.az 3 rfl (fun _=>rfl)).ld,one,a0u,q2]
   refine hS7.aj [I i,I (jB (rL (jB s.ks i)) j)] wO a9i rfl rfl (by simp[Value.cells]) rfl rfl (by decide) (by decide) fun w1 H7 hS8=> ?_
   simp only[RT]at hS8
   simp(disch:=omega) only[↓RA,RZ,simprocAttr,hn,q2]
   refine hS8.aq 1 rfl (hS8.rd 4 rfl) wO (by have h:=hroom;simp only[eL,eT];omega) fun w2 H8 hS9=> ?_
   simp only[RT]at hS9
   simp(disch:=omega) only[↓RA,RZ,simprocAttr,hn,g2,g4,g9,wW,g11,g17,g18,g19,q2]
   refine⟨n-1,by omega,j+1,w2,by omega,by simp,rfl,?_⟩
   rw[gg,dH (by omega),gW,dY,←ef,mK]
   rw[show(rL (jB s.ks i))[j]=jB (rL (jB s.ks i)) j from(jR _ _ (by omega)).symm]
   exact hS9.pick [0,1,2,3] (by decide) rfl
  simp(disch:=omega) only[↓RA,RZ,simprocAttr,hn,g2,g9,wW,g11,g3,q2]
  have hjj:j=(rL (jB s.ks i)).length:=by omega
  refine⟨s.ks.length-(i+1),by omega,i+1,ow,by omega,by simp,rfl,?_⟩
  rw[eR,dV,ec,fw,dO]
  rw[show plD s.ks i=((rL (jB s.ks i)).take j).map (fun z=>((i:Int),z))from by rw[hjj,eS];rfl]
  exact hS7.pick [0,1] (by decide) rfl
 have hii:i=s.ks.length:=by omega
 simp(disch:=omega) only[↓RA,RZ,simprocAttr,hn,g3,d1Y,q1]
 unfold jF
 rw[←hii]
 exact hS3.pick [1] (by decide) rfl
theorem yV(s:Sn)(hs:s.In H):Fn prog 20 [s.v] H fun r H'=>r=I (snE s)∧St prog H H' []:=by
 have hrl:=hs.o.2.2.2.2.2.1
 refine .aN func20 rfl (by kernel_rfl) (m:=55) rfl fun l hn g0=> ?_
 simp(disch:=omega) only[↓RA,RB,simprocAttr,g0]
 refine(sR H).eNew 10 [(.string s.o.name),s.o.rv,s.o.dv,s.o.cv,s.sv,(.int .u64 s.rg.cpl),(.int .u64 s.rg.off),s.kv,I s.p.1,I s.p.2] rfl rfl (by simp[OC,((sR H).sl hs.o.1).cells.2.1,((sR H).sl hs.o.2.2.1).cells.2.1,((sR H).sl hs.o.2.2.2.2.1).cells.2.1,((sR H).sl hs.rg.1).cells.2.1,((sR H).sl hs.ks.sl).cells.2.1]) pS fun A1 H1 hS1=> ?_
 simp only[RT]at hS1
 simp(disch:=omega) only[↓RA,RZ,simprocAttr,hn,hS1.ae 0 rfl]
 refine hS1.cF (c7e s.o (hs.o.ag hS1) s.rg s.sv (hs.rg.ag hS1)) fun H2 hS2=> ?_
 simp(disch:=omega) only[↓RA,RB,simprocAttr,hn]
 refine jA (fun h1=> ?_) (fun h1=> ?_)
 ·simp(disch:=omega) only[↓RA,RZ,simprocAttr,hn,b2C,h1]
  exact⟨by rw[snE,if_pos h1],hS2.forget⟩
 simp(disch:=omega) only[↓RA,RZ,simprocAttr,hn,hS2.ae 0 rfl,hS2.ld 0 rfl,h1]
 refine hS2.cF (b9r s.o (hs.o.ag hS2) s.kv s.ks (hs.ks.ag hS2)) fun H3 hS3=> ?_
 simp(disch:=omega) only[↓RA,RZ,simprocAttr,hn,h1]
 refine jA (fun h2=> ?_) (fun h2=> ?_)
 ·simp(disch:=omega) only[↓RA,RZ,simprocAttr,hn,b2C,h1,h2]
  exact⟨by rw[snE,if_neg h1,if_pos h2],hS3.forget⟩
 have hE:snE s=if pOk s then 0 else 10:=by rw[snE,if_neg h1,if_neg h2]
 simp(disch:=omega) only[↓RA,RZ,simprocAttr,hn,hS3.ae 0 rfl,h1,h2]
 refine hS3.eNew 2 [I 0,I 0] rfl rfl rfl a0m fun A2 H4 hS4=> ?_
 simp only[RT]at hS4
 simp(disch:=omega) only[↓RA,RZ,simprocAttr,hn,h1,h2]
 refine hS4.aa 1 rfl [I s.p.1,I s.p.2] rfl rfl a0m (by simp) fun H5 hS5=> ?_
 simp only[RT]at hS5
 simp(disch:=omega) only[↓RA,RZ,simprocAttr,h1,h2]
 refine Wp.drw kQ (by kernel_rfl) ?_
 simp(disch:=omega) only[↓RA,RZ,simprocAttr,hn,hS5.ld 1 rfl]
 refine jL (fun h3=> ?_) (fun h3=> ?_)
 ·simp(disch:=omega) only[↓RA,RZ,simprocAttr,hn,b2C,h3]
  exact⟨by rw[hE,if_neg];unfold pOk;simp;omega,hS5.forget⟩
 simp(disch:=omega) only[↓RA,RZ,simprocAttr,hn,hS5.ld 1 rfl,hS5.ld 0 rfl,(hS5.sl hs.o.1).len,h3]
 refine jL (fun h4=> ?_) (fun h4=> ?_)
 ·simp(disch:=omega) only[↓RA,RZ,simprocAttr,hn,b2C,h3,h4]
  exact⟨by rw[hE,if_neg];unfold pOk;simp;omega,hS5.forget⟩
 simp(disch:=omega) only[↓RA,RZ,simprocAttr,hn,hS5.ld 1 rfl,h3,h4]
 refine jL (fun h5=> ?_) (fun h5=> ?_)
 ·simp(disch:=omega) only[↓RA,RZ,simprocAttr,hn,b2C,h3,h4,h5]
  exact⟨by rw[hE,if_neg];unfold pOk;simp;omega,hS5.forget⟩
 obtain⟨k,hk⟩:∃k:Nat,s.p.1=k:=⟨s.p.1.toNat,by omega⟩
 simp(disch:=omega) only[↓RA,RZ,simprocAttr,hn,hS5.ld 1 rfl,hS5.ld 0 rfl,(hS5.sl hs.o.1).idx,(hS5.sl hs.o.1).aZ,(hS5.sl hs.o.1).ld,Rk.cells,(hS5.sl (hs.o.2.1 (jB s.o.ranks k) (jE (by omega))).1).len,h5,hk]
 refine jA (fun h6=> ?_) (fun h6=> ?_)
 ·simp(disch:=omega) only[↓RA,RZ,simprocAttr,hn,b2C,h5,hk,h6]
  exact⟨by rw[hE,if_neg];unfold pOk;rw[hk];simp;omega,hS5.forget⟩
 simp(disch:=omega) only[↓RA,RZ,simprocAttr,hn,b2C,h5,hk,h6]
 exact⟨by rw[hE,if_pos];unfold pOk;rw[hk];simp;omega,hS5.forget⟩
theorem c8g(s:Sn)(hs:s.In H)(d:Nat):Fn prog 67 [s.v,I d] H fun r H'=>r=.bool (rY s d)∧St prog H H' []:=by
 have e1:=b1x s.rg.off d hs.rg.2.2.2.2
 have e2:=b4N (s.rg.off>>>d) (a7j _ hs.rg.2.2.2.2)
 have e3:rY s d=decide (s.rg.off>>>d%2=1):=tb _ _
 refine .aE func67 rfl (by kernel_rfl) (m:=12) rfl fun l hn g0 g1=> ?_
 simp(disch:=omega) only[↓RA,RB,simprocAttr,g0]
 refine(sR H).eNew 10 [(.string s.o.name),s.o.rv,s.o.dv,s.o.cv,s.sv,(.int .u64 s.rg.cpl),(.int .u64 s.rg.off),s.kv,I s.p.1,I s.p.2] rfl rfl (by simp[OC,((sR H).sl hs.o.1).cells.2.1,((sR H).sl hs.o.2.2.1).cells.2.1,((sR H).sl hs.o.2.2.2.2.1).cells.2.1,((sR H).sl hs.rg.1).cells.2.1,((sR H).sl hs.ks.sl).cells.2.1]) pS fun A1 H1 hS1=> ?_
 simp only[RT]at hS1
 simp(disch:=omega) only[↓RA,RZ,simprocAttr,hn,g1,hS1.ld 0 rfl,d0X,e1,e2]
 exact⟨by rw[e3];congr 1;exact decide_eq_decide.2 (by omega),hS1.forget⟩
theorem a9W{s:Sn}{i:Int}(h:¬(0≤i∧i<s.o.cpls.length)):cplB s i=false:=by
 unfold cplB
 by_cases h1:0≤i
 ·rw[decide_eq_false (show¬(i<s.o.cpls.length) by omega)]
  simp
 ·rw[decide_eq_false h1]
  simp
theorem tN{s:Sn}{i:Int}(h:cplB s i=true):0≤i∧i<s.o.cpls.length∧s.rg.cpl.testBit i.toNat=true:=by
 unfold cplB at h
 simp only[dB,decide_eq_true_eq]at h
 exact⟨h.1.1,h.1.2,h.2⟩
theorem a6v(s:Sn)(hs:s.In H)(i:Int):Fn prog 46 [s.v,I i] H fun r H'=>r=.bool (cplB s i)∧St prog H H' []:=by
 refine .aE func46 rfl (by kernel_rfl) (m:=24) rfl fun l hn g0 g1=> ?_
 simp(disch:=omega) only[↓RA,RB,simprocAttr,g0]
 refine(sR H).eNew 10 [(.string s.o.name),s.o.rv,s.o.dv,s.o.cv,s.sv,(.int .u64 s.rg.cpl),(.int .u64 s.rg.off),s.kv,I s.p.1,I s.p.2] rfl rfl (by simp[OC,((sR H).sl hs.o.1).cells.2.1,((sR H).sl hs.o.2.2.1).cells.2.1,((sR H).sl hs.o.2.2.2.2.1).cells.2.1,((sR H).sl hs.rg.1).cells.2.1,((sR H).sl hs.ks.sl).cells.2.1]) pS fun A1 H1 hS1=> ?_
 simp only[RT]at hS1
 simp(disch:=omega) only[↓RA,RZ,simprocAttr,hn,g1]
 refine jW (fun h1=> ?_) (fun h1=> ?_)
 ·simp(disch:=omega) only[↓RA,RZ,simprocAttr,hn,g1,hS1.ld 0 rfl,(hS1.sl hs.o.2.2.2.2.1).len,h1]
  refine jW (fun h2=> ?_) (fun h2=> ?_)
  ·obtain⟨k,rfl⟩:∃k:Nat,i=k:=⟨i.toNat,by omega⟩
   have e1:=b1x s.rg.cpl k hs.rg.2.2.2.1
   have e2:=b4N (s.rg.cpl>>>k) (a7j _ hs.rg.2.2.2.1)
   have e3:cplB s k=decide (s.rg.cpl>>>k%2=1):=by
    unfold cplB
    rw[decide_eq_true (show(0:Int)≤k by omega),decide_eq_true h2,eh]
    simp only[gm]
    exact tb _ _
   simp(disch:=omega) only[↓RA,RZ,simprocAttr,hn,g1,hS1.ld 0 rfl,c7W,h1,h2,e1,e2]
   exact⟨by rw[e3];congr 1;exact decide_eq_decide.2 (by omega),hS1.forget⟩
  simp(disch:=omega) only[↓RA,RZ,simprocAttr,hn,c7W,h1,h2]
  exact⟨by rw[a9W (by omega)],hS1.forget⟩
 simp(disch:=omega) only[↓RA,RZ,simprocAttr,hn,c7W,h1]
 exact⟨by rw[a9W (by omega)],hS1.forget⟩
end Go.Ds
namespace Go.Ds
open Go.Proofs
set_option maxRecDepth 10000
def ltP(x y:Int×Int):Prop:=x.1<y.1∨(x.1=y.1∧x.2<y.2)
theorem b4W{x:Int×Int}:¬ltP x x:=by unfold ltP;omega
inductive Star{α:Type}(R:α→α→Prop):α→α→Prop
 | refl (a:α):Star R a a
 | tail {a b c:α}:Star R a b→R b c→Star R a c
def IsP(o:Org)(p:Ct):Prop:=0≤p.1∧p.1<o.ranks.length∧0≤p.2∧p.2<(jB o.ranks p.1.toNat).wind.length
theorem IsP.small{o:Org}{H:Heap}(hf:o.Fine)(ho:o.In H){p:Ct}(h:IsP o p): -1000000000≤p.1∧p.1≤1000000000∧-1000000000≤p.2∧p.2≤1000000000:=by
 obtain⟨h1,h2,h3,h4⟩:=h
 have hr:=(ho.2.1 _ (jE (xs:=o.ranks) (j:=p.1.toNat) (by omega))).2
 have:=hf.rlen
 exact⟨by omega,by omega,by omega,by omega⟩
structure SegsOk(m:Nat)(lo hi:Int)(gs:List Seg):Prop where
 ord:∀i,i<gs.length→(jB gs i).lo≤(jB gs i).hi
 up:∀i,i<gs.length→0<i→(jB gs (i-1)).hi<(jB gs i).lo
 within:∀i,i<gs.length→lo≤(jB gs i).lo∧(jB gs i).hi≤hi
 draws:∀i,i<gs.length→mS m (jB gs i).draws=0
 len:gs.length≤12
theorem SegsOk.lt{m:Nat}{lo hi:Int}{gs:List Seg}(h:SegsOk m lo hi gs){i:Nat}:∀k,i+1+k<gs.length→(jB gs i).hi<(jB gs (i+1+k)).lo
 | 0,hk=>h.up (i+1) hk (by omega)
 | k+1,hk=>by
   have h1:=h.lt (i:=i) k (by omega)
   have h2:=h.ord (i+1+k) (by omega)
   have h3:=h.up (i+1+(k+1)) hk (by omega)
   rw[show i+1+(k+1)-1=i+1+k by omega]at h3
   omega
theorem SegsOk.one{m:Nat}{lo hi:Int}{gs:List Seg}(h:SegsOk m lo hi gs){key:Int}{i j:Nat}(hi':i<gs.length)(hj:j<gs.length)(h1:(jB gs i).lo≤key∧key≤(jB gs i).hi)(h2:(jB gs j).lo≤key∧key≤(jB gs j).hi):i=j:=by
 rcases jb i j with e|e|e
 ·have:=h.lt (i:=i) (j-i-1) (by omega)
  rw[show i+1+(j-i-1)=j by omega]at this
  omega
 ·exact e
 ·have:=h.lt (i:=j) (i-j-1) (by omega)
  rw[show j+1+(i-j-1)=i by omega]at this
  omega
theorem a0n{f:Nat→List Ct}(h1:∀i,(f i).Pairwise ltP)(h2:∀i,∀c∈f i,c.1=(i:Int)):∀n,((List.range n).flatMap f).Pairwise ltP
 | 0=>.nil
 | n+1=>by
   rw[eR,dV,ec,fw,dO,fp]
   refine⟨a0n h1 h2 n,h1 n,fun a ha b hb=> ?_⟩
   obtain⟨i,hi,ha⟩:=eM.1 ha
   have hi:=dS.1 hi
   unfold ltP
   rw[h2 i a ha,h2 n b hb]
   omega
theorem b0T(x:Nt):(rL x).Pairwise (·<·):=by
 unfold rL
 rw[fp,fS,fS]
 have h:∀n,(qO n).Pairwise (·<·):=fun n=>List.Pairwise.filter _ List.pairwise_lt_range
 refine⟨(h _).imp (by intro a b h;omega),(h _).imp (by intro a b h;omega),fun a ha b hb=> ?_⟩
 obtain⟨i,hi,rfl⟩:=dP.1 ha
 obtain⟨j,_,rfl⟩:=dP.1 hb
 have:=(vC.1 hi).1
 omega
theorem c7z(ks:List Nt)(i:Nat):(plD ks i).Pairwise ltP:=by
 unfold plD
 rw[fS]
 exact(b0T _).imp fun h=>.inr ⟨rfl,h⟩
theorem a5Z(ks:List Nt):(jF ks).Pairwise ltP:=a0n (c7z ks) (fun i c hc=>by
 unfold plD at hc
 obtain⟨z,_,rfl⟩:=dP.1 hc
 rfl) _
end Go.Ds
namespace Go.Ds
open Go.Proofs Go.Proofs.Tryz
variable {H:Heap}
set_option maxRecDepth 10000
set_option maxHeartbeats 1000000
def a3k(lo:Int)(w m:Nat):List Int:=((List.range m).filter fun j=>w.testBit j).map fun(j:Nat)=>lo+(j:Int)
def zB(lo hi:Int):Nat:=min 16 (hi-lo+1).toNat
def a1f(o:Org)(b:Nat→Nat)(i:Nat):Nt:=lC (a3k (jB o.dvs i).lo (b (i%3)) (zB (jB o.dvs i).lo (jB o.dvs i).hi))
def pU(o:Org)(b:Nat→Nat):List Nt:=(List.range o.dvs.length).map (a1f o b)
theorem c7B(a b:Nat)(h:a<65536):((a:Nat):Int).fdiv (2^min b (IntKind.bits .u16))=((a>>>b:Nat):Int):=by
 have e:IntKind.bits .u16=16:=rfl
 rw[e]
 have h1:((a:Nat):Int).fdiv (2^min b 16)=((a/2^min b 16:Nat):Int):=by
  rw[iK _ (by exact Int.le_of_lt (Int.pow_pos (by decide)))]
  simp
 rw[h1,fF]
 by_cases hb:b≤16
 ·rw[ia hb]
 ·rw[Nat.min_eq_right (by omega)]
  have h2:a/2^16=0:=iq (by simpa using h)
  have h3:a/2^b=0:=iq (eH (by simpa using h) (fY (by decide) (show 16≤b by omega)))
  rw[h2,h3]
theorem c4T(n:Nat)(h:n<65536):IntKind.wrap .u16 ((BitVec.ofInt (IntKind.bits .u16) (n:Int)&&&BitVec.ofInt (IntKind.bits .u16) 1).toNat:Int)=((n%2:Nat):Int):=by
 have e:(BitVec.ofInt (IntKind.bits .u16) (n:Int)&&&BitVec.ofInt (IntKind.bits .u16) 1).toNat=n%2:=by
  show(BitVec.ofInt 16 (n:Int)&&&BitVec.ofInt 16 1).toNat=n%2
  rw[gS]
  have h1:(BitVec.ofInt 16 (n:Int)).toNat=n:=by
   rw[gu,iz]
   exact gE (by simpa using h)
  have h2:(BitVec.ofInt 16 1).toNat=1:=rfl
  rw[h1,h2,Nat.and_one_is_mod]
 rw[e]
 have:n%2<2:=fz _ (by decide)
 have hh:n%2=0∨n%2=1:=by omega
 rcases hh with h|h<;>rw[h]<;>rfl
theorem b8v{a:Nat}(b:Nat)(h:a<65536):a>>>b<65536:=by
 rw[fF]
 exact Nat.lt_of_le_of_lt (Nat.div_le_self _ _) h
theorem b5G(lo:Int)(w m:Nat):a3k lo w (m+1)=a3k lo w m++(if w.testBit m then[lo+(m:Int)]else[]):=by
 unfold a3k
 rw[eR,fJ,dY]
 congr 1
 cases h:w.testBit m<;>simp[h]
theorem b9m(lo:Int)(w m:Nat):(a3k lo w m).length≤m:=by
 unfold a3k
 rw[dU]
 exact dZ (fy _ _) (by simp)
theorem c4V(lo hi:Int):zB lo hi≤16:=Nat.min_le_left _ _
theorem xZ{o:Org}(hf:o.Fine)(w:Nat){i:Nat}(hi:i<o.dvs.length):∀z∈a3k (jB o.dvs i).lo w (zB (jB o.dvs i).lo (jB o.dvs i).hi),isN z∧(jB o.dvs i).lo≤z∧z≤(jB o.dvs i).hi:=by
 intro z hz
 have hk:=hf.keys i hi
 unfold a3k zB at hz
 obtain⟨j,hj,rfl⟩:=dP.1 hz
 have hj:=dS.1 (eY.1 hj).1
 exact⟨⟨by omega,by omega⟩,by omega,by omega⟩
theorem b2g(o:Org)(ho:o.In H)(hf:o.Fine)(b:Nat→Nat)(hb:∀i,b i<65536):
 Fn prog 44 [.agg #[.string o.name,o.rv,o.dv,o.cv],.agg #[.int .u16 (b 0),.int .u16 (b 1),.int .u16 (b 2)]] H fun r H'=>
  St prog H H' [⟨r,2,(pU o b).flatMap ntc⟩]:=by
 have hd8:=hf.dlen
 refine .aE func44 rfl (by kernel_rfl) (m:=66) rfl fun l hn g0 g1=> ?_
 simp(disch:=omega) only[↓RA,RB,simprocAttr,g0]
 refine(sR H).eNew 4 [(.string o.name),o.rv,o.dv,o.cv] rfl rfl (by simp[OC,((sR H).sl ho.1).cells.2.1,((sR H).sl ho.2.2.1).cells.2.1,((sR H).sl ho.2.2.2.2.1).cells.2.1]) zD fun A1 H1 hS1=> ?_
 simp only[RT]at hS1
 simp(disch:=omega) only[↓RA,RB,simprocAttr,g1]
 refine hS1.eNew 3 [(.int .u16 (b 0)),(.int .u16 (b 1)),(.int .u16 (b 2))] rfl rfl rfl d0F fun A2 H2 hS2=> ?_
 simp only[RT]at hS2
 simp(disch:=omega) only[↓RA,RB,simprocAttr]
 have hS3:=hS2.nil 1
 simp only[RT]at hS3
 refine Wp.ak (fun n l H'=>l.length=66∧get l 2=(ptr A1 0 4)∧get l 3=(ptr A2 0 3)∧get l 4=(.slice none 0 0)∧∃(i:Nat)(kv:Value),(n+i=o.dvs.length)∧get l 6=I i∧get l 5=kv∧St prog H H' [⟨ptr A1 0 4,0,[(.string o.name),o.rv,o.dv,o.cv]⟩,⟨ptr A2 0 3,0,[(.int .u16 (b 0)),(.int .u16 (b 1)),(.int .u16 (b 2))]⟩,⟨kv,2,((List.range i).map (a1f o b)).flatMap ntc⟩]) o.dvs.length ?_ ?_
 ·simp(disch:=omega) only[RB,RC,simprocAttr,hn]
  exact⟨0,.slice none 0 0,by omega,rfl,rfl,hS3⟩
 rintro n l H3⟨hn,g2,g3,g4,i,kv,hi,g6,g5,hS4⟩
 simp(disch:=omega) only[↓RA,RZ,simprocAttr,hn,g2,g6,hS4.ld 0 rfl,(hS4.sl ho.2.2.1).len]
 refine jA (fun q=> ?_) (fun q=> ?_)
 ·have hk:=hf.keys i (by omega)
  simp(disch:=omega) only[↓RA,RZ,simprocAttr,hn,g2,g6,hS4.ld 0 rfl,(hS4.sl ho.2.2.1).idx,(hS4.sl ho.2.2.1).aZ,(hS4.sl ho.2.2.1).cK 2,Dvn.cells,q]
  refine hS4.eNew 2 [I 0,I 0] rfl rfl rfl rZ fun A3 H4 hS5=> ?_
  simp only[RT]at hS5
  simp(disch:=omega) only[↓RA,RZ,simprocAttr,hn,q]
  refine hS5.aa 3 rfl [I (jB o.dvs i).lo,I (jB o.dvs i).hi] rfl rfl rZ (by simp) fun H5 hS6=> ?_
  simp only[RT]at hS6
  simp(disch:=omega) only[↓RA,RZ,simprocAttr,hn,hS6.ld 3 rfl,q]
  have hS7:=hS6.nil 0
  simp only[RT]at hS7
  refine Wp.ak (fun n l H'=>l.length=66∧get l 2=(ptr A1 0 4)∧get l 3=(ptr A2 0 3)∧get l 4=(.slice none 0 0)∧get l 5=kv∧get l 6=I i∧get l 8=(ptr A3 0 2)∧∃(m:Nat)(lv:Value),(n+m=zB (jB o.dvs i).lo (jB o.dvs i).hi)∧get l 9=I ((jB o.dvs i).lo+m)∧get l 7=lv∧St prog H H' [⟨ptr A1 0 4,0,[(.string o.name),o.rv,o.dv,o.cv]⟩,⟨ptr A2 0 3,0,[(.int .u16 (b 0)),(.int .u16 (b 1)),(.int .u16 (b 2))]⟩,⟨kv,2,((List.range i).map (a1f o b)).flatMap ntc⟩,⟨ptr A3 0 2,0,[I (jB o.dvs i).lo,I (jB o.dvs i).hi]⟩,⟨lv,1,(a3k (jB o.dvs i).lo (b (i%3)) m).flatMap (one I)⟩]) (zB (jB o.dvs i).lo (jB o.dvs i).hi) ?_ ?_
  ·simp(disch:=omega) only[RB,RC,simprocAttr,hn,g2,g3,g4,g6,g5]
   exact⟨0,.slice none 0 0,by omega,by simp,rfl,hS7⟩
  rintro n l H6⟨hn,g2,g3,g4,g5,g6,g8,m,lv,hm,g9,g7,hS8⟩
  simp(disch:=omega) only[↓RA,RZ,simprocAttr,hn,g8,g9,hS8.ld 3 rfl]
  have hM:=c4V (jB o.dvs i).lo (jB o.dvs i).hi
  have hi3:(i:Int).tmod 3=((i%3:Nat):Int):=(fq i 3).symm
  have hw:([Value.int .u16 (b 0),.int .u16 (b 1),.int .u16 (b 2)]:List Value)[i%3]? =some (.int .u16 (b (i%3))):=by
   have:i%3=0∨i%3=1∨i%3=2:=by omega
   rcases this with e|e|e<;>rw[e]<;>rfl
  have hsub:(jB o.dvs i).lo+(m:Int)-(jB o.dvs i).lo=(m:Int):=by omega
  have e1:=c7B (b (i%3)) m (hb _)
  have e2:=c4T (b (i%3)>>>m) (b8v m (hb _))
  have e3:=tb (b (i%3)) m
  have hsu:=b5G (jB o.dvs i).lo (b (i%3)) m
  have hpl:=b9m (jB o.dvs i).lo (b (i%3)) m
  refine jW (fun q1=> ?_) (fun q1=> ?_)
  ·simp(disch:=omega) only[↓RA,RZ,simprocAttr,hn,g8,g9,hS8.ld 3 rfl,q1]
   refine jA (fun q2=> ?_) (fun q2=> ?_)
   ·skip
    simp(disch:=omega) only[↓RA,RC,simprocAttr,q1,q2]
    refine Wp.drw kQ (by kernel_rfl) ?_
    simp(disch:=omega) only[↓RA,RZ,simprocAttr,hn,g3,g6,g8,g9,hS8.ld 1 rfl,hw,hS8.ld 3 rfl,hi3,hsub,e1,e2]
    refine jA (fun q3=> ?_) (fun q3=> ?_)
    ·rw[e3,decide_eq_true (by omega),if_pos rfl]at hsu
     simp(disch:=omega) only[↓RA,RZ,simprocAttr,hn,g9,g7,q3]
     refine hS8.aj [I ((jB o.dvs i).lo+m)] uE a2h rfl rfl (by simp[Value.cells]) rfl rfl (by decide) (by decide) fun w1 H7 hS9=> ?_
     simp only[RT]at hS9
     simp(disch:=omega) only[↓RA,RZ,simprocAttr,hn,q3]
     refine hS9.aq 4 rfl (hS9.rd 5 rfl) uE (by rw[jJ (n:=1) (cel:=one I) (fun _=>rfl)];simp;omega) fun w2 H8 hS10=> ?_
     simp only[RT]at hS10
     simp(disch:=omega) only[↓RA,RZ,simprocAttr,hn,g2,g3,g4,g5,g6,g8,g9,q3]
     refine⟨n-1,by unfold zB at hm;omega,m+1,w2,by unfold zB at hm ⊢;omega,by simp;omega,rfl,?_⟩
     rw[hsu,dV]
     exact hS10.pick [0,1,2,3,4] (by decide) rfl
    rw[e3,decide_eq_false (by omega),if_neg (by simp),dO]at hsu
    simp(disch:=omega) only[↓RA,RZ,simprocAttr,hn,g2,g3,g4,g5,g6,g8,g9,g7,q3]
    refine⟨n-1,by unfold zB at hm;omega,m+1,lv,by unfold zB at hm ⊢;omega,by simp;omega,rfl,?_⟩
    rw[hsu]
    exact hS8.pick [0,1,2,3,4] (by decide) rfl
   have hmM:m=zB (jB o.dvs i).lo (jB o.dvs i).hi:=by unfold zB at hm hM ⊢;omega
   have hz:=xZ hf (b (i%3)) (show i<o.dvs.length by omega)
   subst hmM
   simp(disch:=omega) only[↓RA,RZ,simprocAttr,hn,g7,q1,q2]
   refine hS8.cF (zX (a3k (jB o.dvs i).lo (b (i%3)) (zB (jB o.dvs i).lo (jB o.dvs i).hi)) (fun z h=>(hz z h).1) lv (hS8.az 4 rfl (rF _)) (by omega)) fun H9 hS11=> ?_
   simp(disch:=omega) only[↓RA,RZ,simprocAttr,hn,q1,q2]
   refine hS11.eNew 2 [(.int .u64 0),(.int .u64 0)] rfl rfl rfl pJ fun A4 H10 hS12=> ?_
   simp only[RT]at hS12
   simp(disch:=omega) only[↓RA,RZ,simprocAttr,hn,q1,q2]
   refine hS12.aa 5 rfl [(.int .u64 (a1f o b i).1),(.int .u64 (a1f o b i).2)] rfl rfl pJ (by simp) fun H11 hS13=> ?_
   simp only[RT]at hS13
   simp(disch:=omega) only[↓RA,RZ,simprocAttr,hn,g5,hS13.ae 5 rfl,q1,q2]
   refine hS13.aj [(.int .u64 (a1f o b i).1),(.int .u64 (a1f o b i).2)] b8U c7v rfl rfl (by simp[Value.cells]) rfl rfl (by decide) (by decide) fun w3 H12 hS14=> ?_
   simp only[RT]at hS14
   simp(disch:=omega) only[↓RA,RZ,simprocAttr,hn,q1,q2]
   refine hS14.aq 2 rfl (hS14.rd 6 rfl) b8U (by rw[jJ (n:=2) (cel:=ntc) (fun _=>rfl)];simp;omega) fun w4 H13 hS15=> ?_
   simp only[RT]at hS15
   simp(disch:=omega) only[↓RA,RZ,simprocAttr,hn,g2,g3,g4,g6,q1,q2]
   refine⟨o.dvs.length-(i+1),by omega,i+1,w4,by omega,by simp,rfl,?_⟩
   rw[eR,dY,dV]
   exact hS15.pick [0,1,2] (by decide) rfl
  have hmM:m=zB (jB o.dvs i).lo (jB o.dvs i).hi:=by unfold zB at hm hM ⊢;omega
  have hz:=xZ hf (b (i%3)) (show i<o.dvs.length by omega)
  subst hmM
  simp(disch:=omega) only[↓RA,RZ,simprocAttr,hn,g7,q1]
  refine hS8.cF (zX (a3k (jB o.dvs i).lo (b (i%3)) (zB (jB o.dvs i).lo (jB o.dvs i).hi)) (fun z h=>(hz z h).1) lv (hS8.az 4 rfl (rF _)) (by omega)) fun H14 hS16=> ?_
  simp(disch:=omega) only[↓RA,RZ,simprocAttr,hn,q1]
  refine hS16.eNew 2 [(.int .u64 0),(.int .u64 0)] rfl rfl rfl pJ fun A5 H15 hS17=> ?_
  simp only[RT]at hS17
  simp(disch:=omega) only[↓RA,RZ,simprocAttr,hn,q1]
  refine hS17.aa 5 rfl [(.int .u64 (a1f o b i).1),(.int .u64 (a1f o b i).2)] rfl rfl pJ (by simp) fun H16 hS18=> ?_
  simp only[RT]at hS18
  simp(disch:=omega) only[↓RA,RZ,simprocAttr,hn,g5,hS18.ae 5 rfl,q1]
  refine hS18.aj [(.int .u64 (a1f o b i).1),(.int .u64 (a1f o b i).2)] b8U c7v rfl rfl (by simp[Value.cells]) rfl rfl (by decide) (by decide) fun w5 H17 hS19=> ?_
  simp only[RT]at hS19
  simp(disch:=omega) only[↓RA,RZ,simprocAttr,hn,q1]
  refine hS19.aq 2 rfl (hS19.rd 6 rfl) b8U (by rw[jJ (n:=2) (cel:=ntc) (fun _=>rfl)];simp;omega) fun w6 H18 hS20=> ?_
  simp only[RT]at hS20
  simp(disch:=omega) only[↓RA,RZ,simprocAttr,hn,g2,g3,g4,g6,q1]
  refine⟨o.dvs.length-(i+1),by omega,i+1,w6,by omega,by simp,rfl,?_⟩
  rw[eR,dY,dV]
  exact hS20.pick [0,1,2] (by decide) rfl
 simp(disch:=omega) only[↓RA,RZ,simprocAttr,hn,g5,d1b,q]
 have hii:i=o.dvs.length:=by omega
 subst hii
 exact hS4.pick [2] (by decide) rfl
theorem vU(o:Org)(b:Nat→Nat):(pU o b).length=o.dvs.length:=by simp[pU]
theorem a6P{o:Org}{b:Nat→Nat}{i:Nat}(hi:i<o.dvs.length):jB (pU o b) i=a1f o b i:=by
 rw[jR _ i (by rw[vU];exact hi)]
 simp[pU]
theorem b5b{o:Org}(hf:o.Fine)(b:Nat→Nat){i:Nat}(hi:i<o.dvs.length):Nt.Ok (a1f o b i):=yU _ _ (fun z h=>(xZ hf (b (i%3)) hi z h).1) ⟨by decide,by decide⟩
theorem b0I{o:Org}(hf:o.Fine)(b:Nat→Nat):∀x∈pU o b,Nt.Ok x:=by
 intro x hx
 obtain⟨i,hi,rfl⟩:=dP.1 hx
 exact b5b hf b (dS.1 hi)
theorem c1N{x y:Nt}(hx:Nt.Ok x)(h:∀z,isN z→tI x z=true→tI y z=true):woF x y=(0,0):=by
 have k:∀z,isN z→tI (woF x y) z=false:=fun z hz=>by
  rw[b4Q hx hz]
  cases e:tI x z with
  | false=>rfl
  | true=>rw[h z hz e];rfl
 have big:∀a:Nat,a<18446744073709551616→∀j,64≤j→a.testBit j=false:=fun a ha j hj=>
  Nat.testBit_lt_two_pow (eH (show a<2^64 from ha) (fY (by decide) hj))
 obtain⟨h1,h2⟩:=c7A x y
 apply iJ
 ·apply ic
  intro j
  rw[jq]
  by_cases hj:64≤j
  ·exact big _ h1 j hj
  ·have:=k (j:Int) ⟨by omega,by omega⟩
   unfold tI at this
   rw[if_pos (by omega)]at this
   exact this
 ·apply ic
  intro j
  rw[jq]
  by_cases hj:64≤j
  ·exact big _ h2 j hj
  ·have:=k (64+j:Int) ⟨by omega,by omega⟩
   unfold tI at this
   rw[if_neg (by omega),show(64+(j:Int)-64).toNat=j by omega]at this
   exact this
theorem b3G{o:Org}(h0:organE o=0)(b:Nat→Nat):uA o (pU o b)=0:=by
 have hf:=Org.aK h0
 unfold uA
 rw[if_neg (by rw[h0];simp),if_neg (by rw[vU];simp),if_neg]
 rintro⟨j,hj,hne⟩
 apply hne
 have hk:=hf.keys j hj
 rw[a6P hj]
 refine c1N (b5b hf b hj) fun z hz hh=> ?_
 rw[a1f,a3Q (fun n hn=>(xZ hf (b (j%3)) hj n hn).1) hz]at hh
 have:=xZ hf (b (j%3)) hj z (of_decide_eq_true hh)
 rw[a9x hk.1 hk.2.2 hz,decide_eq_true this.2.1,decide_eq_true this.2.2]
 rfl
end Go.Ds
namespace Go.Ds
open Go.Proofs
set_option maxRecDepth 10000
theorem Star.mono{α:Type}{R R':α→α→Prop}(h:∀a b,R a b→R' a b){a b:α}(hs:Star R a b):Star R' a b:=by
 induction hs with
 | refl=>exact .refl _
 | tail _ h2 ih=>exact .tail ih (h _ _ h2)
end Go.Ds
namespace Go.Ds
open Go.Proofs Go.Shelf Go.RowKit Go.Lib Go.Sort
def sm(x:Int×Int):Prop:=-1000000000≤x.1∧x.1≤1000000000∧-1000000000≤x.2∧x.2≤1000000000
abbrev Sm:={x:Int×Int//sm x}
instance:Inhabited Sm:=⟨⟨(0,0),by unfold sm;decide⟩⟩
section
variable {H:Heap}
end
end Go.Ds
namespace Go.Ds
open Go.Proofs
variable {H:Heap}
set_option maxRecDepth 10000
set_option maxHeartbeats 1000000
end Go.Ds
namespace Go.Ds
open Go.Proofs Go.Shelf Go.RowKit Go.Lib Go.Sort
section
variable {H:Heap}
end
end Go.Ds
namespace Go.Ds
open Go.Proofs Go.Proofs.Tryz
variable {H:Heap}
set_option maxRecDepth 10000
set_option maxHeartbeats 1000000
theorem Ct.dc(a b:Ct):(a.1=b.1∧a.2=b.2)↔b=a:=⟨fun h=>iJ h.1.symm h.2.symm,fun h=>by rw[h];exact⟨rfl,rfl⟩⟩
theorem b2Q(v:Value)(xs:List Ct)(hv:Sl 2 mJ H v xs)(hl:xs.length<1000000000)(d:Ct):
 Fn prog 106 [v,.agg #[I d.1,I d.2]] H fun r H'=>r=I (qS (fun j=>decide (jB xs j=d)) xs.length)∧St prog H H' []:=by
 refine .aE func106 rfl (by kernel_rfl) (m:=19) rfl fun l hn g0 g1=> ?_
 simp(disch:=omega) only[↓RA,RB,simprocAttr,g1]
 refine(sR H).eNew 2 [I d.1,I d.2] rfl rfl rfl mP fun A1 H1 hS1=> ?_
 simp only[RT]at hS1
 simp(disch:=omega) only[↓RA,RZ,simprocAttr,hn,g0,(hS1.sl hv).len]
 refine Wp.ak (fun n l H'=>l.length=19∧get l 0=v∧get l 3=(ptr A1 0 2)∧get l 7=I xs.length∧∃(j:Nat),(n+j=xs.length∧∀q,q<j→decide (jB xs q=d)=false)∧get l 8=I j∧St prog H H' [⟨ptr A1 0 2,0,[I d.1,I d.2]⟩]) xs.length ?_ ?_
 ·simp(disch:=omega) only[RB,RC,simprocAttr,hn,g0]
  exact⟨0,⟨by omega,fun q hq=>absurd hq (eu _)⟩,rfl,hS1⟩
 rintro n l H2⟨hn,g0,g3,g7,j,⟨hi,h0⟩,g8,hS2⟩
 simp(disch:=omega) only[↓RA,RB,simprocAttr,hn,g7,g8]
 refine jA (fun h=> ?_) (fun h=> ?_)
 ·simp(disch:=omega) only[↓RA,RZ,simprocAttr,hn,g8,h]
  refine Wp.drw kQ (by kernel_rfl) ?_
  simp(disch:=omega) only[↓RA,RZ,simprocAttr,hn,g0,g3,hS2.ae 0 rfl,(hS2.sl hv).idx,(hS2.sl hv).ae,mJ]
  refine jA (fun hp=> ?_) (fun hp=> ?_)
  ·simp(disch:=omega) only[↓RA,RZ,simprocAttr,hn,c5A,hp]
   exact⟨by rw[vZ _ xs.length j (by omega) (by simpa using(Ct.dc _ _).1 hp) h0],hS2.forget⟩
  simp(disch:=omega) only[↓RA,RZ,simprocAttr,hn,g0,g3,g7,g8,hp]
  exact⟨n-1,by omega,j+1,⟨by omega,fun q hq=>by rcases dK.1 hq with e|e;(· exact h0 q e);(· rw[e];simpa using fun hh=>hp ((Ct.dc _ _).2 hh))⟩,by simp,hS2⟩
 simp(disch:=omega) only[↓RA,RZ,simprocAttr,hn,c5A,h]
 exact⟨by rw[vO _ xs.length fun q hq=>h0 q (by omega)],hS2.forget⟩
theorem a4d(v:Value)(xs:List Ct)(hv:Sl 2 mJ H v xs)(hl:xs.length<1000000000)(d:Ct):
 Fn prog 66 [v,.agg #[I d.1,I d.2]] H fun r H'=>r=.bool (decide (d∈xs))∧St prog H H' []:=by
 have e:decide (0≤qS (fun j=>decide (jB xs j=d)) xs.length)=decide (d∈xs):=by
  rw[fc,decide_eq_true_iff,decide_eq_true_iff,yY]
  constructor
  ·rintro⟨j,hj,hp⟩
   rw[←of_decide_eq_true hp];exact jE hj
  ·intro hx
   obtain⟨j,hj,rfl⟩:=eF.1 hx
   exact⟨j,hj,by rw[jR xs j hj];simp⟩
 refine .aE func66 rfl (by kernel_rfl) (m:=9) rfl fun l hn g0 g1=> ?_
 simp(disch:=omega) only[↓RA,RB,simprocAttr,g1]
 refine(sR H).eNew 2 [I d.1,I d.2] rfl rfl rfl mP fun A1 H1 hS1=> ?_
 simp only[RT]at hS1
 simp(disch:=omega) only[↓RA,RZ,simprocAttr,hn,g0,hS1.ae 0 rfl]
 refine hS1.cF (b2Q v xs (hS1.sl hv) hl d) fun H2 hS2=> ?_
 simp(disch:=omega) only[↓RA,RB,simprocAttr,hn,d2l]
 rw[←e]
 first|exact hS2.forget|exact⟨rfl,hS2.forget⟩
end Go.Ds
namespace Go.Ds
open Go.Proofs
variable {H:Heap}
set_option maxRecDepth 10000
set_option maxHeartbeats 1000000
end Go.Ds
namespace Go.Ds
open Go.Proofs Go.Proofs.Tryz
variable {H:Heap}
set_option maxRecDepth 10000
set_option maxHeartbeats 1000000
theorem b1H(v:Value)(xs:List Ct)(hv:Sl 2 mJ H v xs)(hl:xs.length<1000000000)(d:Ct):
 Fn prog 151 [v,.agg #[I d.1,I d.2]] H fun r H'=>r=I (qS (fun j=>decide (jB xs j=d)) xs.length)∧St prog H H' []:=by
 refine .aE func151 rfl (by kernel_rfl) (m:=19) rfl fun l hn g0 g1=> ?_
 simp(disch:=omega) only[↓RA,RB,simprocAttr,g1]
 refine(sR H).eNew 2 [I d.1,I d.2] rfl rfl rfl a0m fun A1 H1 hS1=> ?_
 simp only[RT]at hS1
 simp(disch:=omega) only[↓RA,RZ,simprocAttr,hn,g0,(hS1.sl hv).len]
 refine Wp.ak (fun n l H'=>l.length=19∧get l 0=v∧get l 3=(ptr A1 0 2)∧get l 7=I xs.length∧∃(j:Nat),(n+j=xs.length∧∀q,q<j→decide (jB xs q=d)=false)∧get l 8=I j∧St prog H H' [⟨ptr A1 0 2,0,[I d.1,I d.2]⟩]) xs.length ?_ ?_
 ·simp(disch:=omega) only[RB,RC,simprocAttr,hn,g0]
  exact⟨0,⟨by omega,fun q hq=>absurd hq (eu _)⟩,rfl,hS1⟩
 rintro n l H2⟨hn,g0,g3,g7,j,⟨hi,h0⟩,g8,hS2⟩
 simp(disch:=omega) only[↓RA,RB,simprocAttr,hn,g7,g8]
 refine jA (fun h=> ?_) (fun h=> ?_)
 ·simp(disch:=omega) only[↓RA,RZ,simprocAttr,hn,g8,h]
  refine Wp.drw kQ (by kernel_rfl) ?_
  simp(disch:=omega) only[↓RA,RZ,simprocAttr,hn,g0,g3,hS2.ae 0 rfl,(hS2.sl hv).idx,(hS2.sl hv).ae,mJ]
  refine jA (fun hp=> ?_) (fun hp=> ?_)
  ·simp(disch:=omega) only[↓RA,RZ,simprocAttr,hn,c5w,hp]
   exact⟨by rw[vZ _ xs.length j (by omega) (by simpa using(Ct.dc _ _).1 hp) h0],hS2.forget⟩
  simp(disch:=omega) only[↓RA,RZ,simprocAttr,hn,g0,g3,g7,g8,hp]
  exact⟨n-1,by omega,j+1,⟨by omega,fun q hq=>by rcases dK.1 hq with e|e;(· exact h0 q e);(· rw[e];simpa using fun hh=>hp ((Ct.dc _ _).2 hh))⟩,by simp,hS2⟩
 simp(disch:=omega) only[↓RA,RZ,simprocAttr,hn,c5w,h]
 exact⟨by rw[vO _ xs.length fun q hq=>h0 q (by omega)],hS2.forget⟩
theorem b9F(v:Value)(xs:List Ct)(hv:Sl 2 mJ H v xs)(hl:xs.length<1000000000)(d:Ct):
 Fn prog 107 [v,.agg #[I d.1,I d.2]] H fun r H'=>r=.bool (decide (d∈xs))∧St prog H H' []:=by
 have e:decide (0≤qS (fun j=>decide (jB xs j=d)) xs.length)=decide (d∈xs):=by
  rw[fc,decide_eq_true_iff,decide_eq_true_iff,yY]
  constructor
  ·rintro⟨j,hj,hp⟩
   rw[←of_decide_eq_true hp];exact jE hj
  ·intro hx
   obtain⟨j,hj,rfl⟩:=eF.1 hx
   exact⟨j,hj,by rw[jR xs j hj];simp⟩
 refine .aE func107 rfl (by kernel_rfl) (m:=9) rfl fun l hn g0 g1=> ?_
 simp(disch:=omega) only[↓RA,RB,simprocAttr,g1]
 refine(sR H).eNew 2 [I d.1,I d.2] rfl rfl rfl a0m fun A1 H1 hS1=> ?_
 simp only[RT]at hS1
 simp(disch:=omega) only[↓RA,RZ,simprocAttr,hn,g0,hS1.ae 0 rfl]
 refine hS1.cF (b1H v xs (hS1.sl hv) hl d) fun H2 hS2=> ?_
 simp(disch:=omega) only[↓RA,RB,simprocAttr,hn,d0H]
 rw[←e]
 first|exact hS2.forget|exact⟨rfl,hS2.forget⟩
theorem c3h{s:Sn}{i:Int}{c:Ct}{f:Bool}(h:cplB s i=false):ldB s i c f=false:=by unfold ldB;rw[h];rfl
theorem vR{s:Sn}{i:Int}{c:Ct}{f:Bool}:ldB s i c f=true↔cplB s i=true∧(jB s.o.cpls i.toNat).src=c.1∧(f=true∨(jB s.o.cpls i.toNat).thr=true)∧(jB s.o.dvs (jB s.o.cpls i.toNat).dst.toNat).lo≤(to1 (jB s.o.cpls i.toNat) c).2∧(to1 (jB s.o.cpls i.toNat) c).2≤(jB s.o.dvs (jB s.o.cpls i.toNat).dst.toNat).hi:=by
 unfold ldB
 simp only[dB,fi,decide_eq_true_eq,and_assoc]
theorem vF(s:Sn)(hs:s.In H)(hf:s.Fit)(i:Int)(c:Ct)(f:Bool):Fn prog 95 [s.v,I i,.agg #[I c.1,I c.2],.bool f] H fun r H'=>r=.tuple #[.agg #[I (stC s i c).1,I (stC s i c).2],.bool (ldB s i c f)]∧St prog H H' []:=by
 have hdl:=hs.o.2.2.2.2.2.2.1
 refine .dg func95 rfl (by kernel_rfl) (m:=67) rfl fun l hn g0 g1 g2 g3=> ?_
 simp(disch:=omega) only[↓RA,RB,simprocAttr,g0]
 refine(sR H).eNew 10 [(.string s.o.name),s.o.rv,s.o.dv,s.o.cv,s.sv,(.int .u64 s.rg.cpl),(.int .u64 s.rg.off),s.kv,I s.p.1,I s.p.2] rfl rfl (by simp[OC,((sR H).sl hs.o.1).cells.2.1,((sR H).sl hs.o.2.2.1).cells.2.1,((sR H).sl hs.o.2.2.2.2.1).cells.2.1,((sR H).sl hs.rg.1).cells.2.1,((sR H).sl hs.ks.sl).cells.2.1]) pS fun A1 H1 hS1=> ?_
 simp only[RT]at hS1
 simp(disch:=omega) only[↓RA,RB,simprocAttr,g2]
 refine hS1.eNew 2 [I c.1,I c.2] rfl rfl rfl mP fun A2 H2 hS2=> ?_
 simp only[RT]at hS2
 simp(disch:=omega) only[↓RA,RZ,simprocAttr]
 refine hS2.eNew 2 [I 0,I 0] rfl rfl rfl mP fun A3 H3 hS3=> ?_
 simp only[RT]at hS3
 simp(disch:=omega) only[↓RA,RZ,simprocAttr,hn,g1,hS3.ae 0 rfl]
 refine hS3.cF (a6v s (hs.ag hS3) i) fun H4 hS4=> ?_
 simp(disch:=omega) only[↓RA,RB,simprocAttr,hn]
 refine kA (fun h1=> ?_) (fun h1=> ?_)
 ·have h1':cplB s i=false:=by simpa using h1
  simp(disch:=omega) only[↓RA,RB,simprocAttr,hn,d0u,h1]
  refine hS4.aa 2 rfl [I 0,I 0] rfl rfl mP (by simp) fun H5 hS5=> ?_
  simp only[RT]at hS5
  simp(disch:=omega) only[↓RA,RZ,simprocAttr,hn,b1Q,hS5.ae 2 rfl,h1]
  exact⟨by rw[stC,if_neg (by simp[h1']),c3h h1'],hS5.forget⟩
 have h1':cplB s i=true:=by simpa using h1
 obtain⟨hc0,hc1,hc2⟩:=tN h1'
 obtain⟨k,rfl⟩:∃k:Nat,i=k:=⟨i.toNat,by omega⟩
 have hkl:k<s.o.cpls.length:=by omega
 obtain⟨d,hd,hdd⟩:=c7Q hf.o hkl
 have hst:stC s k c=((d:Int),vS (c.2+(jB s.o.cpls k).shift)):=by rw[stC,if_pos h1',eh,←hd];rfl
 have hld:ldB s k c f=(decide ((jB s.o.cpls k).src=c.1)&&(f||(jB s.o.cpls k).thr)&&decide ((jB s.o.dvs d).lo≤vS (c.2+(jB s.o.cpls k).shift))&&decide (vS (c.2+(jB s.o.cpls k).shift)≤(jB s.o.dvs d).hi)):=by
  unfold ldB
  rw[h1',eh,hd,eh]
  simp only[gm]
  rfl
 rw[hst,hld]
 simp(disch:=omega) only[↓RA,RZ,simprocAttr,hn,g1,hS4.ld 0 rfl,(hS4.sl hs.o.2.2.2.2.1).idx,(hS4.sl hs.o.2.2.2.2.1).ae,Cpl.cells,h1]
 refine hS4.eNew 5 [(.string ⟨#[]⟩),I 0,I 0,I 0,(.bool false)] rfl rfl rfl zP fun A4 H6 hS6=> ?_
 simp only[RT]at hS6
 simp(disch:=omega) only[↓RA,RB,simprocAttr,hn,h1]
 refine hS6.aa 3 rfl [(.string (jB s.o.cpls k).name),I (jB s.o.cpls k).src,I (jB s.o.cpls k).dst,I (jB s.o.cpls k).shift,(.bool (jB s.o.cpls k).thr)] rfl rfl zP (by simp) fun H7 hS7=> ?_
 simp only[RT]at hS7
 simp(disch:=omega) only[↓RA,RZ,simprocAttr,hn,hS7.ld 0 rfl,h1]
 simp(disch:=omega) only[↓RA,RZ,simprocAttr,hn,hS7.ld 3 rfl,(hS7.sl hs.o.2.2.1).idx,(hS7.sl hs.o.2.2.1).aZ,(hS7.sl hs.o.2.2.1).cK 2,Dvn.cells,h1,hd]
 refine hS7.eNew 2 [I 0,I 0] rfl rfl rfl rZ fun A5 H8 hS8=> ?_
 simp only[RT]at hS8
 simp(disch:=omega) only[↓RA,RB,simprocAttr,hn,h1,hd]
 refine hS8.aa 4 rfl [I (jB s.o.dvs d).lo,I (jB s.o.dvs d).hi] rfl rfl rZ (by simp) fun H9 hS9=> ?_
 simp only[RT]at hS9
 simp(disch:=omega) only[↓RA,RZ,simprocAttr,hn,hS9.ld 3 rfl,hS9.ld 1 rfl,a0u,h1,hd]
 refine hS9.eNew 2 [I 0,I 0] rfl rfl rfl mP fun A6 H10 hS10=> ?_
 simp only[RT]at hS10
 simp(disch:=omega) only[↓RA,RB,simprocAttr,hn,h1,hd]
 refine hS10.aa 5 rfl [I d,_] rfl rfl mP (by simp) fun H11 hS11=> ?_
 simp only[RT]at hS11
 simp(disch:=omega) only[↓RA,RB,simprocAttr,h1,hd]
 refine Wp.aJ kQ [(22,28),(24,28)] (by kernel_rfl) (by kernel_rfl) ?_
 simp(disch:=omega) only[↓RA,RZ,simprocAttr,hn,hS11.ae 5 rfl,hS11.ld 3 rfl,hS11.ld 1 rfl,hd]
 refine jW (fun h1=> ?_) (fun h1=> ?_)
 ·simp(disch:=omega) only[↓RA,RZ,simprocAttr,hn,g3,h1]
  refine lI (fun h2=> ?_) (fun h2=> ?_)
  ·simp(disch:=omega) only[↓RA,RZ,simprocAttr,hn,hS11.ld 5 rfl,hS11.ld 4 rfl,h1,h2]
   refine jW (fun h3=> ?_) (fun h3=> ?_)
   ·simp(disch:=omega) only[↓RA,RZ,simprocAttr,hn,hS11.ld 5 rfl,hS11.ld 4 rfl,h1,h2,h3]
    refine hS11.aa 2 rfl [I d,_] rfl rfl mP (by simp) fun H12 hS12=> ?_
    simp only[RT]at hS12
    simp(disch:=omega) only[↓RA,RZ,simprocAttr,hn,hS12.ld 5 rfl,hS12.ld 4 rfl,b1Q,hS12.ae 2 rfl,h1,h2,h3]
    exact⟨by simp[],hS12.forget⟩
   simp(disch:=omega) only[↓RA,RZ,simprocAttr,hn,h1,h2,h3]
   refine hS11.aa 2 rfl [I d,_] rfl rfl mP (by simp) fun H13 hS13=> ?_
   simp only[RT]at hS13
   simp(disch:=omega) only[↓RA,RZ,simprocAttr,hn,b1Q,hS13.ae 2 rfl,h1,h2,h3]
   exact⟨by simp[],hS13.forget⟩
  simp(disch:=omega) only[↓RA,RZ,simprocAttr,hn,hS11.ld 3 rfl,hd,h1,h2]
  refine lI (fun h4=> ?_) (fun h4=> ?_)
  ·simp(disch:=omega) only[↓RA,RZ,simprocAttr,hn,hS11.ld 5 rfl,hS11.ld 4 rfl,h1,h2,h4]
   refine jW (fun h5=> ?_) (fun h5=> ?_)
   ·simp(disch:=omega) only[↓RA,RZ,simprocAttr,hn,hS11.ld 5 rfl,hS11.ld 4 rfl,h1,h2,h4,h5]
    refine hS11.aa 2 rfl [I d,_] rfl rfl mP (by simp) fun H14 hS14=> ?_
    simp only[RT]at hS14
    simp(disch:=omega) only[↓RA,RZ,simprocAttr,hn,hS14.ld 5 rfl,hS14.ld 4 rfl,b1Q,hS14.ae 2 rfl,h1,h2,h4,h5]
    exact⟨by simp[],hS14.forget⟩
   simp(disch:=omega) only[↓RA,RZ,simprocAttr,hn,h1,h2,h4,h5]
   refine hS11.aa 2 rfl [I d,_] rfl rfl mP (by simp) fun H15 hS15=> ?_
   simp only[RT]at hS15
   simp(disch:=omega) only[↓RA,RZ,simprocAttr,hn,b1Q,hS15.ae 2 rfl,h1,h2,h4,h5]
   exact⟨by simp[],hS15.forget⟩
  simp(disch:=omega) only[↓RA,RZ,simprocAttr,hn,h1,h2,h4]
  refine hS11.aa 2 rfl [I d,_] rfl rfl mP (by simp) fun H16 hS16=> ?_
  simp only[RT]at hS16
  simp(disch:=omega) only[↓RA,RZ,simprocAttr,hn,b1Q,hS16.ae 2 rfl,h1,h2,h4]
  exact⟨by simp[],hS16.forget⟩
 simp(disch:=omega) only[↓RA,RZ,simprocAttr,hn,h1]
 refine hS11.aa 2 rfl [I d,_] rfl rfl mP (by simp) fun H17 hS17=> ?_
 simp only[RT]at hS17
 simp(disch:=omega) only[↓RA,RZ,simprocAttr,hn,b1Q,hS17.ae 2 rfl,h1]
 exact⟨by simp[],hS17.forget⟩
theorem a9c{s:Sn}{i:Int}{c:Ct}(h:¬(0≤i∧i<(jB s.o.dvs c.1.toNat).stops.length)):drwB s i c=false:=by
 unfold drwB
 by_cases h1:0≤i
 ·rw[decide_eq_false (show¬(i<(jB s.o.dvs c.1.toNat).stops.length) by omega)]
  simp
 ·rw[decide_eq_false h1]
  simp
theorem a6b(s:Sn)(hs:s.In H)(hf:s.Fit)(i:Int)(d:Nat)(z:Int)(hd:d<s.o.dvs.length):Fn prog 68 [s.v,I i,.agg #[I d,I z]] H fun r H'=>r=.bool (drwB s i ((d:Int),z))∧St prog H H' []:=by
 have hdl:=hs.o.2.2.2.2.2.2.1
 have hsl:=hf.sl
 have hdv:=hs.o.2.2.2.1 _ (jE hd)
 refine .cJ func68 rfl (by kernel_rfl) (m:=53) rfl fun l hn g0 g1 g2=> ?_
 simp(disch:=omega) only[↓RA,RB,simprocAttr,g0]
 refine(sR H).eNew 10 [(.string s.o.name),s.o.rv,s.o.dv,s.o.cv,s.sv,(.int .u64 s.rg.cpl),(.int .u64 s.rg.off),s.kv,I s.p.1,I s.p.2] rfl rfl (by simp[OC,((sR H).sl hs.o.1).cells.2.1,((sR H).sl hs.o.2.2.1).cells.2.1,((sR H).sl hs.o.2.2.2.2.1).cells.2.1,((sR H).sl hs.rg.1).cells.2.1,((sR H).sl hs.ks.sl).cells.2.1]) pS fun A1 H1 hS1=> ?_
 simp only[RT]at hS1
 simp(disch:=omega) only[↓RA,RB,simprocAttr,g2]
 refine hS1.eNew 2 [I d,I z] rfl rfl rfl mP fun A2 H2 hS2=> ?_
 simp only[RT]at hS2
 simp(disch:=omega) only[↓RA,RZ,simprocAttr,hn,hS2.ld 0 rfl,hS2.ld 1 rfl,(hS2.sl hs.o.2.2.1).idx,(hS2.sl hs.o.2.2.1).ae,Dvn.cells]
 refine hS2.eNew 5 [(.string ⟨#[]⟩),(.bool false),I 0,I 0,(.slice none 0 0)] rfl rfl rfl sB fun A3 H3 hS3=> ?_
 simp only[RT]at hS3
 simp(disch:=omega) only[↓RA,RB,simprocAttr,hn]
 refine hS3.aa 2 rfl [(.string (jB s.o.dvs d).name),(.bool (jB s.o.dvs d).pedal),I (jB s.o.dvs d).lo,I (jB s.o.dvs d).hi,(jB s.o.dvs d).sv] rfl (by simp[OC,(hS3.sl (hs.o.2.2.2.1 (jB s.o.dvs d) (jE (by omega))).1).cells.2.1]) sB (by simp) fun H4 hS4=> ?_
 simp only[RT]at hS4
 simp(disch:=omega) only[↓RA,RB,simprocAttr]
 refine Wp.aJ kQ [(35,0)] (by kernel_rfl) (by kernel_rfl) ?_
 simp(disch:=omega) only[↓RA,RZ,simprocAttr,hn,g1]
 refine jW (fun h1=> ?_) (fun h1=> ?_)
 ·simp(disch:=omega) only[↓RA,RZ,simprocAttr,hn,g1,hS4.ld 2 rfl,(hS4.sl (hs.o.2.2.2.1 (jB s.o.dvs d) (jE (by omega))).1).len,h1]
  refine jW (fun h2=> ?_) (fun h2=> ?_)
  ·obtain⟨k,rfl⟩:∃k:Nat,i=k:=⟨i.toNat,by omega⟩
   have hkl:k<(jB s.o.dvs d).stops.length:=by omega
   have hsm:=hs.rg.2.2.1 _ (jE (xs:=s.rg.stops) (j:=d) (by omega))
   have e1:=b1x (jB s.rg.stops d) k hsm
   have e2:=b4N (jB s.rg.stops d>>>k) (a7j _ hsm)
   have e3:=tb (jB s.rg.stops d) k
   have hE:drwB s k ((d:Int),z)=((jB s.rg.stops d).testBit k&&decide (s.p∈a2c s.o.ranks (jB (jB s.o.dvs d).stops k) z)):=by
    unfold drwB
    simp only[eh]
    rw[decide_eq_true (show(0:Int)≤k by omega),decide_eq_true (show(k:Int)<(jB s.o.dvs d).stops.length by omega)]
    simp only[gm]
   have hpl:=b6O s.o.ranks (jB (jB s.o.dvs d).stops k) z (hf.aK.draws d hd _ (jE hkl))
   simp(disch:=omega) only[↓RA,RZ,simprocAttr,hn,g1,hS4.ld 0 rfl,hS4.ld 1 rfl,(hS4.sl hs.rg.1).idx,(hS4.sl hs.rg.1).ld,one,u64,h1,h2,e1,e2]
   refine jW (fun h3=> ?_) (fun h3=> ?_)
   ·simp(disch:=omega) only[↓RA,RZ,simprocAttr,hn,g1,hS4.ld 0 rfl,hS4.ld 2 rfl,(hS4.sl (hs.o.2.2.2.1 (jB s.o.dvs d) (jE (by omega))).1).idx,(hS4.sl (hs.o.2.2.2.1 (jB s.o.dvs d) (jE (by omega))).1).ae,Stp.cells,hS4.ld 1 rfl,h1,h2,h3]
    refine jG (b9y s.o.rv s.o.ranks (hS4.sl hs.o.1) (fun r hr=>(hs.o.2.1 r hr).ag hS4) hs.o.2.2.2.2.2.1 _ ((hdv.2.1 _ (jE hkl)).ag hS4) (hf.aK.draws d hd _ (jE hkl)) z) ?_
    rintro r H5⟨hx,hT1⟩
    have hS5:=hS4.trans hT1
    simp only[RT]at hS5
    obtain⟨pv,rfl⟩:∃w,w=r:=⟨r,rfl⟩
    simp(disch:=omega) only[↓RA,RZ,simprocAttr,hn,hS5.ae 0 rfl,h1,h2,h3]
    refine hS5.cF (b9F pv _ hx.1 (by omega) s.p) fun H6 hS6=> ?_
    simp(disch:=omega) only[↓RA,RZ,simprocAttr,hn,hS4.ae 0 rfl,c3b,h1,h2,h3]
    exact⟨by rw[hE,e3,decide_eq_true (show jB s.rg.stops d>>>k%2=1 by omega)];simp,hS6.forget⟩
   simp(disch:=omega) only[↓RA,RZ,simprocAttr,hn,c3b,h1,h2,h3]
   exact⟨by rw[hE,e3,decide_eq_false (show¬jB s.rg.stops d>>>k%2=1 by omega)];simp,hS4.forget⟩
  simp(disch:=omega) only[↓RA,RZ,simprocAttr,hn,c3b,h1,h2]
  exact⟨by rw[a9c (by simp;omega)],hS4.forget⟩
 simp(disch:=omega) only[↓RA,RZ,simprocAttr,hn,c3b,h1]
 exact⟨by rw[a9c (by simp;omega)],hS4.forget⟩
def okD(s:Sn)(c:Ct):Prop:=0≤c.1∧c.1<s.o.dvs.length
theorem a0g{s:Sn}{c:Ct}(h:nB s.o c=true):okD s c:=by
 have:=(lF s.o c).1 h
 exact⟨by omega,by omega⟩
theorem a3N(s:Sn)(hs:s.In H)(hf:s.Fit)(i:Int)(c:Ct)(hc:okD s c):Fn prog 68 [s.v,I i,.agg #[I c.1,I c.2]] H fun r H'=>r=.bool (drwB s i c)∧St prog H H' []:=by
 obtain⟨d,z⟩:=c
 obtain⟨j,rfl⟩:=fu hc.1
 exact a6b s hs hf i j z (by have:=hc.2;simp only at this;omega)
theorem b6V(s:Sn)(hs:s.In H)(hf:s.Fit)(d:Nat)(z:Int)(hd:d<s.o.dvs.length):Fn prog 94 [s.v,.agg #[I d,I z]] H fun r H'=>St prog H H' [⟨r,1,(stpL s ((d:Int),z)).flatMap (one I)⟩]:=by
 have hst:=hf.aK.stops d hd
 have hLe:=b4b s ((d:Int),z)
 have hL:stpL s ((d:Int),z)=a1Q s ((d:Int),z) (jB s.o.dvs d).stops.length:=rfl
 refine .aE func94 rfl (by kernel_rfl) (m:=29) rfl fun l hn g0 g1=> ?_
 simp(disch:=omega) only[↓RA,RB,simprocAttr,g0]
 refine(sR H).eNew 10 [(.string s.o.name),s.o.rv,s.o.dv,s.o.cv,s.sv,(.int .u64 s.rg.cpl),(.int .u64 s.rg.off),s.kv,I s.p.1,I s.p.2] rfl rfl (by simp[OC,((sR H).sl hs.o.1).cells.2.1,((sR H).sl hs.o.2.2.1).cells.2.1,((sR H).sl hs.o.2.2.2.2.1).cells.2.1,((sR H).sl hs.rg.1).cells.2.1,((sR H).sl hs.ks.sl).cells.2.1]) pS fun A1 H1 hS1=> ?_
 simp only[RT]at hS1
 simp(disch:=omega) only[↓RA,RB,simprocAttr,g1]
 refine hS1.eNew 2 [I d,I z] rfl rfl rfl mP fun A2 H2 hS2=> ?_
 simp only[RT]at hS2
 simp(disch:=omega) only[↓RA,RZ,simprocAttr,hn,hS2.ld 0 rfl,hS2.ld 1 rfl,(hS2.sl hs.o.2.2.1).idx,(hS2.sl hs.o.2.2.1).aZ,(hS2.sl hs.o.2.2.1).ld,Dvn.cells,(hS2.sl (hs.o.2.2.2.1 (jB s.o.dvs d) (jE (by omega))).1).len]
 have hS3:=hS2.nil 0
 simp only[RT]at hS3
 refine Wp.ak (fun n l H'=>l.length=29∧get l 2=(ptr A1 0 10)∧get l 3=(ptr A2 0 2)∧get l 4=(.slice none 0 0)∧get l 15=I (jB s.o.dvs d).stops.length∧∃(i:Nat)(ov:Value),(n+i=(jB s.o.dvs d).stops.length)∧get l 16=I i∧get l 5=ov∧St prog H H' [⟨ptr A1 0 10,0,[(.string s.o.name),s.o.rv,s.o.dv,s.o.cv,s.sv,(.int .u64 s.rg.cpl),(.int .u64 s.rg.off),s.kv,I s.p.1,I s.p.2]⟩,⟨ptr A2 0 2,0,[I d,I z]⟩,⟨ov,1,(a1Q s ((d:Int),z) i).flatMap (one I)⟩]) (jB s.o.dvs d).stops.length ?_ ?_
 ·simp(disch:=omega) only[RB,RC,simprocAttr,hn]
  exact⟨0,.slice none 0 0,by omega,rfl,rfl,hS3⟩
 rintro n l H3⟨hn,g2,g3,g4,g15,i,ov,hi,g16,g5,hS4⟩
 simp(disch:=omega) only[↓RA,RB,simprocAttr,hn,g15,g16]
 refine jA (fun q1=> ?_) (fun q1=> ?_)
 ·have hsu:=b6U s ((d:Int),z) i
  have hle:=hLe i
  simp(disch:=omega) only[↓RA,RZ,simprocAttr,hn,g2,g3,g16,hS4.ae 0 rfl,hS4.ae 1 rfl,q1]
  refine hS4.cF (a6b s (hs.ag hS4) hf i d z hd) fun H4 hS5=> ?_
  simp(disch:=omega) only[↓RA,RZ,simprocAttr,hn,q1]
  refine kA (fun q2=> ?_) (fun q2=> ?_)
  ·skip
   simp(disch:=omega) only[↓RA,RZ,simprocAttr,hn,g5,q1,q2]
   refine hS5.aj [I i] uE a2h rfl rfl (by simp[Value.cells]) rfl rfl (by decide) (by decide) fun w1 H5 hS6=> ?_
   simp only[RT]at hS6
   simp(disch:=omega) only[↓RA,RZ,simprocAttr,hn,q1,q2]
   refine hS6.aq 2 rfl (hS6.rd 3 rfl) uE (by rw[nF,dU];simp;omega) fun w2 H6 hS7=> ?_
   simp only[RT]at hS7
   simp(disch:=omega) only[↓RA,RZ,simprocAttr,hn,g2,g3,g4,g15,g16,q1,q2]
   refine⟨n-1,by omega,i+1,w2,by omega,by simp,rfl,?_⟩
   rw[hsu,if_pos (by simpa using q2),dV]
   exact hS7.pick [0,1,2] (by decide) rfl
  simp(disch:=omega) only[↓RA,RZ,simprocAttr,hn,g2,g3,g4,g15,g16,g5,q1,q2]
  refine⟨n-1,by omega,i+1,ov,by omega,by simp,rfl,?_⟩
  rw[hsu,if_neg (by simpa using q2),dO]
  exact hS5.pick [0,1,2] (by decide) rfl
 have hii:i=(jB s.o.dvs d).stops.length:=by omega
 simp(disch:=omega) only[↓RA,RZ,simprocAttr,hn,g5,d2b,q1]
 rw[hL,←hii]
 exact hS4.pick [2] (by decide) rfl
theorem xP(s:Sn)(hs:s.In H)(hf:s.Fit)(c:Ct)(hc:okD s c):Fn prog 94 [s.v,.agg #[I c.1,I c.2]] H fun r H'=>St prog H H' [⟨r,1,(stpL s c).flatMap (one I)⟩]:=by
 obtain⟨d,z⟩:=c
 obtain⟨j,rfl⟩:=fu hc.1
 exact b6V s hs hf j z (by have:=hc.2;simp only at this;omega)
structure Rn where
 pl:Ct
 cv:Value
 cps:List Int
 tc:Ct
 stop:Int
 deriving Inhabited
abbrev Rn.v(r:Rn):Value:=.agg #[I r.pl.1,I r.pl.2,r.cv,I r.tc.1,I r.tc.2,I r.stop]
def Rn.cells(r:Rn):List Value:=[I r.pl.1,I r.pl.2,r.cv,I r.tc.1,I r.tc.2,I r.stop]
def Rn.In(H:Heap)(r:Rn):Prop:=Sl 1 (one I) H r.cv r.cps∧r.cps.length<100000000
theorem Rn.In.ag{r:Rn}{H0 H:Heap}{P:Program}{os:List Ob}(h:r.In H0)(hS:St P H0 H os):r.In H:=⟨hS.sl h.1,h.2⟩
def mA(s:Sn)(p:Ct)(cps:List Int):Nat→Option (List Ct×Ct)
 | 0=>some ([],p)
 | n+1=>match mA s p cps n with
   | none=>none
   | some (out,a)=>if ldB s (jB cps n) a (decide (n=0))&& !decide (stC s (jB cps n) a∈out)then some (out++[stC s (jB cps n) a],stC s (jB cps n) a)else none
def mZ(s:Sn)(r:Rn):List Ct×Bool:=match mA s r.pl r.cps r.cps.length with
 | none=>([],false)
 | some (out,a)=>(out,decide (a=r.tc))
theorem a2v{s:Sn}{p:Ct}{cps:List Int}{n:Nat}(h:mA s p cps n=none):∀k,mA s p cps (n+k)=none
 | 0=>h
 | k+1=>by
   show mA s p cps ((n+k)+1)=none
   unfold mA
   rw[a2v h k]
theorem zT{s:Sn}{p:Ct}{cps:List Int}:∀{n:Nat}{out:List Ct}{a:Ct},mA s p cps n=some (out,a)→out.length=n
 | 0,out,a,h=>by
   unfold mA at h
   injection h with h
   obtain⟨rfl,rfl⟩:=ig h
   rfl
 | n+1,out,a,h=>by
   unfold mA at h
   cases h2:mA s p cps n with
   | none=>rw[h2]at h;cases h
   | some q=>
     obtain⟨o2,a2⟩:=q
     rw[h2]at h
     simp only at h
     split at h
     ·injection h with h
      obtain⟨rfl,rfl⟩:=ig h
      rw[dM,zT h2]
      rfl
     ·cases h
theorem a9H(s:Sn)(hs:s.In H)(hf:s.Fit)(r:Rn)(hr:r.In H):Fn prog 56 [s.v,r.v] H fun q H'=>∃w,q=.tuple #[w,.bool (mZ s r).2]∧St prog H H' [⟨w,2,pr (mZ s r).1⟩]:=by
 have hrl:=hr.2
 refine .aE func56 rfl (by kernel_rfl) (m:=49) rfl fun l hn g0 g1=> ?_
 simp(disch:=omega) only[↓RA,RB,simprocAttr,g0]
 refine(sR H).eNew 10 [(.string s.o.name),s.o.rv,s.o.dv,s.o.cv,s.sv,(.int .u64 s.rg.cpl),(.int .u64 s.rg.off),s.kv,I s.p.1,I s.p.2] rfl rfl (by simp[OC,((sR H).sl hs.o.1).cells.2.1,((sR H).sl hs.o.2.2.1).cells.2.1,((sR H).sl hs.o.2.2.2.2.1).cells.2.1,((sR H).sl hs.rg.1).cells.2.1,((sR H).sl hs.ks.sl).cells.2.1]) pS fun A1 H1 hS1=> ?_
 simp only[RT]at hS1
 simp(disch:=omega) only[↓RA,RB,simprocAttr,g1]
 refine hS1.eNew 6 [I r.pl.1,I r.pl.2,r.cv,I r.tc.1,I r.tc.2,I r.stop] rfl rfl (by simp[OC,(hS1.sl hr.1).cells.2.1]) pV fun A2 H2 hS2=> ?_
 simp only[RT]at hS2
 simp(disch:=omega) only[↓RA,RZ,simprocAttr,hn,hS2.ae 1 rfl]
 refine hS2.eNew 2 [I 0,I 0] rfl rfl rfl mP fun A3 H3 hS3=> ?_
 simp only[RT]at hS3
 simp(disch:=omega) only[↓RA,RB,simprocAttr,hn]
 refine hS3.aa 2 rfl [I r.pl.1,I r.pl.2] rfl rfl mP (by simp) fun H4 hS4=> ?_
 simp only[RT]at hS4
 simp(disch:=omega) only[↓RA,RZ,simprocAttr,hn,hS4.ld 1 rfl,(hS4.sl hr.1).len]
 have hS5:=hS4.nil 1
 simp only[RT]at hS5
 refine Wp.ak (fun n l H'=>l.length=49∧get l 2=(ptr A1 0 10)∧get l 3=(ptr A2 0 6)∧get l 7=(ptr A3 0 2)∧get l 15=r.cv∧get l 16=I r.cps.length∧∃(j:Nat)(ov:Value)(out:List Ct)(a:Ct),(n+j=r.cps.length∧mA s r.pl r.cps j=some (out,a))∧get l 17=I j∧get l 6=ov∧St prog H H' [⟨ptr A1 0 10,0,[(.string s.o.name),s.o.rv,s.o.dv,s.o.cv,s.sv,(.int .u64 s.rg.cpl),(.int .u64 s.rg.off),s.kv,I s.p.1,I s.p.2]⟩,⟨ptr A2 0 6,0,[I r.pl.1,I r.pl.2,r.cv,I r.tc.1,I r.tc.2,I r.stop]⟩,⟨ptr A3 0 2,0,[I a.1,I a.2]⟩,⟨ov,2,pr out⟩]) r.cps.length ?_ ?_
 ·simp(disch:=omega) only[RB,RC,simprocAttr,hn]
  exact⟨0,.slice none 0 0,[],r.pl,⟨by omega,rfl⟩,rfl,rfl,hS5⟩
 rintro n l H5⟨hn,g2,g3,g7,g15,g16,j,ov,out,a,⟨hj,hc⟩,g17,g6,hS6⟩
 simp(disch:=omega) only[↓RA,RB,simprocAttr,hn,g16,g17]
 refine jA (fun q1=> ?_) (fun q1=> ?_)
 ·have hol:=zT hc
  have hsu:mA s r.pl r.cps (j+1)=if ldB s (jB r.cps j) a (decide (j=0))&& !decide (stC s (jB r.cps j) a∈out)then some (out++[stC s (jB r.cps j) a],stC s (jB r.cps j) a)else none:=by
   rw[mA,hc]
  have hj0:decide ((j:Int)=0)=decide (j=0):=decide_eq_decide.2 (by omega)
  have hnone:mA s r.pl r.cps (j+1)=none→(mZ s r)=([],false):=fun h=>by
   unfold mZ
   have:=a2v h (r.cps.length-(j+1))
   rw[show j+1+(r.cps.length-(j+1))=r.cps.length from by omega]at this
   rw[this]
  simp(disch:=omega) only[↓RA,RZ,simprocAttr,hn,g2,g7,g15,g17,(hS6.sl hr.1).idx,(hS6.sl hr.1).ld,one,hS6.ae 0 rfl,hS6.ae 2 rfl,q1,hj0]
  refine hS6.cF (vF s (hs.ag hS6) hf (jB r.cps j) a (decide (j=0))) fun H6 hS7=> ?_
  simp(disch:=omega) only[↓RA,RZ,simprocAttr,hn,q1]
  refine hS7.eNew 2 [I 0,I 0] rfl rfl rfl mP fun A4 H7 hS8=> ?_
  simp only[RT]at hS8
  simp(disch:=omega) only[↓RA,RZ,simprocAttr,hn,q1]
  refine hS8.aa 4 rfl [I (stC s (jB r.cps j) a).1,I (stC s (jB r.cps j) a).2] rfl rfl mP (by simp) fun H8 hS9=> ?_
  simp only[RT]at hS9
  simp(disch:=omega) only[↓RA,RZ,simprocAttr,hn,q1]
  refine lI (fun q2=> ?_) (fun q2=> ?_)
  ·have hno:=hnone (by rw[hsu,show ldB s (jB r.cps j) a (decide (j=0))=false from by simpa using q2];rfl)
   simp(disch:=omega) only[↓RA,RZ,simprocAttr,hn,c6L,q1,q2]
   rw[hno]
   refine⟨.slice none 0 0,rfl,?_⟩
   exact(hS9.forget).nil 1
  have q2':ldB s (jB r.cps j) a (decide (j=0))=true:=by simpa using q2
  simp(disch:=omega) only[↓RA,RZ,simprocAttr,hn,g6,hS9.ae 4 rfl,q1,q2]
  refine hS9.cF (a4d ov out (hS9.az 3 rfl lG) (by omega) (stC s (jB r.cps j) a)) fun H9 hS10=> ?_
  simp(disch:=omega) only[↓RA,RZ,simprocAttr,hn,q1,q2]
  refine jA (fun q3=> ?_) (fun q3=> ?_)
  ·have hno:=hnone (by rw[hsu,decide_eq_true q3,q2'];rfl)
   simp(disch:=omega) only[↓RA,RZ,simprocAttr,hn,c6L,q1,q2,q3]
   rw[hno]
   refine⟨.slice none 0 0,rfl,?_⟩
   exact(hS10.forget).nil 1
  have q3':decide (stC s (jB r.cps j) a∈out)=false:=decide_eq_false q3
  simp(disch:=omega) only[↓RA,RZ,simprocAttr,hn,g7,hS10.ae 4 rfl,q1,q2,q3]
  refine hS10.aa 2 rfl [I (stC s (jB r.cps j) a).1,I (stC s (jB r.cps j) a).2] rfl rfl mP (by simp) fun H10 hS11=> ?_
  simp only[RT]at hS11
  simp(disch:=omega) only[↓RA,RZ,simprocAttr,hn,g6,hS11.ae 4 rfl,q1,q2,q3]
  refine hS11.aj [I (stC s (jB r.cps j) a).1,I (stC s (jB r.cps j) a).2] wO a9i rfl rfl (by simp[Value.cells]) rfl rfl (by decide) (by decide) fun w1 H11 hS12=> ?_
  simp only[RT]at hS12
  simp(disch:=omega) only[↓RA,RZ,simprocAttr,hn,q1,q2,q3]
  refine hS12.aq 3 rfl (hS12.rd 5 rfl) wO (by rw[jN];simp;omega) fun w2 H12 hS13=> ?_
  simp only[RT]at hS13
  simp(disch:=omega) only[↓RA,RZ,simprocAttr,hn,g2,g3,g7,g15,g16,g17,q1,q2,q3]
  refine⟨n-1,by omega,j+1,w2,out++[stC s (jB r.cps j) a],stC s (jB r.cps j) a,⟨by omega,by rw[hsu,q2',q3'];rfl⟩,by simp,rfl,?_⟩
  rw[mK]
  exact hS13.pick [0,1,2,3] (by decide) rfl
 have hjj:j=r.cps.length:=by omega
 have hR:mZ s r=(out,decide (a=r.tc)):=by unfold mZ;rw[←hjj,hc]
 have hnt:=(hS6.az (cel:=mJ) 3 rfl lG).bC
 have hpe:decide (a.1=r.tc.1∧a.2=r.tc.2)=decide (a=r.tc):=decide_eq_decide.2 Prod.ext_iff.symm
 simp(disch:=omega) only[↓RA,RC,simprocAttr,q1]
 refine Wp.drw kQ (by kernel_rfl) ?_
 simp(disch:=omega) only[↓RA,RZ,simprocAttr,hn,g3,g7,g6,hS6.ae 2 rfl,hS6.ae 1 rfl,c6L,hnt,hpe]
 rw[hR]
 exact⟨ov,rfl,hS6.pick [3] (by decide) rfl⟩
def vfE(s:Sn)(r:Rn):Int:=
 if snE s≠0 then snE s else if r.pl∉jF s.ks then 10 else if(mZ s r).2=false∨(r.cps.length=0∧rY s r.pl.1=true)then 7 else if drwB s r.stop r.tc=false then 11 else 0
theorem a7H(s:Sn)(hs:s.In H)(d:Int)(h0:0≤d):Fn prog 67 [s.v,I d] H fun r H'=>r=.bool (rY s d)∧St prog H H' []:=by
 obtain⟨j,rfl⟩:=fu h0
 exact c8g s hs j
theorem a5O{s:Sn}{r:Rn}(hf:s.Fit)(hp:nB s.o r.pl=true)(h:(mZ s r).2=true):nB s.o r.tc=true:=by
 have key:∀n out a,mA s r.pl r.cps n=some (out,a)→nB s.o a=true:=by
  intro n
  induction n with
  | zero=>
    intro out a h
    unfold mA at h
    injection h with h
    obtain⟨_,rfl⟩:=ig h
    exact hp
  | succ n ih=>
    intro out a h
    unfold mA at h
    cases h2:mA s r.pl r.cps n with
    | none=>rw[h2]at h;cases h
    | some q=>
      obtain⟨o2,a2⟩:=q
      rw[h2]at h
      simp only at h
      split at h
      ·rename_i hb
       injection h with h
       obtain⟨_,rfl⟩:=ig h
       rw[dB]at hb
       have h5:=vR.1 hb.1
       obtain⟨h6,h7,_⟩:=tN h5.1
       have hc:=Org.bk hf.o (j:=(jB r.cps n).toNat) (by omega)
       rw[stC,if_pos h5.1,lF]
       exact⟨hc.2.1.1,hc.2.1.2,h5.2.2.2.1,h5.2.2.2.2⟩
      ·cases h
 unfold mZ at h
 cases h2:mA s r.pl r.cps r.cps.length with
 | none=>rw[h2]at h;cases h
 | some q=>
   obtain⟨o2,a2⟩:=q
   rw[h2]at h
   simp only[decide_eq_true_eq]at h
   rw[←h]
   exact key _ _ _ h2
theorem a6w(hG:Glob gH H)(s:Sn)(hs:s.In H)(x:Rn)(hx:x.In H):Fn prog 28 [s.v,x.v] H fun q H'=>q=I (vfE s x)∧St prog H H' []:=by
 have hrl:=hx.2
 refine .aE func28 rfl (by kernel_rfl) (m:=47) rfl fun l hn g0 g1=> ?_
 simp(disch:=omega) only[↓RA,RB,simprocAttr,g0]
 refine(sR H).eNew 10 [(.string s.o.name),s.o.rv,s.o.dv,s.o.cv,s.sv,(.int .u64 s.rg.cpl),(.int .u64 s.rg.off),s.kv,I s.p.1,I s.p.2] rfl rfl (by simp[OC,((sR H).sl hs.o.1).cells.2.1,((sR H).sl hs.o.2.2.1).cells.2.1,((sR H).sl hs.o.2.2.2.2.1).cells.2.1,((sR H).sl hs.rg.1).cells.2.1,((sR H).sl hs.ks.sl).cells.2.1]) pS fun A1 H1 hS1=> ?_
 simp only[RT]at hS1
 simp(disch:=omega) only[↓RA,RB,simprocAttr,g1]
 refine hS1.eNew 6 [I x.pl.1,I x.pl.2,x.cv,I x.tc.1,I x.tc.2,I x.stop] rfl rfl (by simp[OC,(hS1.sl hx.1).cells.2.1]) pV fun A2 H2 hS2=> ?_
 simp only[RT]at hS2
 simp(disch:=omega) only[↓RA,RZ,simprocAttr,hn,hS2.ae 0 rfl]
 refine hS2.cF (yV s (hs.ag hS2)) fun H3 hS3=> ?_
 simp(disch:=omega) only[↓RA,RB,simprocAttr,hn]
 refine jA (fun h1=> ?_) (fun h1=> ?_)
 ·simp(disch:=omega) only[↓RA,RZ,simprocAttr,hn,b0Q,h1]
  exact⟨by rw[vfE,if_pos h1],hS3.forget⟩
 have hf:=qG.1 (dX.1 h1)
 have hpl:=a2g hf.keys
 have hct:=oM hs.ks.ok hf.keys
 simp(disch:=omega) only[↓RA,RC,simprocAttr,h1]
 refine Wp.aJ kQ [(3,0)] (by kernel_rfl) (by kernel_rfl) ?_
 simp(disch:=omega) only[↓RA,RZ,simprocAttr,hn,hS3.ae 0 rfl]
 refine jG ((a0o (hS3.gl hG) s (hs.ag hS3) hf).tr) ?_
 rintro r H4⟨-,hT2⟩
 have hS4:=hS3.trans hT2
 simp only[RT]at hS4
 obtain⟨pw,rfl⟩:∃w,w=r:=⟨r,rfl⟩
 simp(disch:=omega) only[↓RA,RZ,simprocAttr,hn,hS4.ae 1 rfl]
 refine hS4.cF (a4d pw (jF s.ks) (hS4.az 2 rfl lG) (by omega) x.pl) fun H5 hS5=> ?_
 simp(disch:=omega) only[↓RA,RZ,simprocAttr,hn,hS3.ae 1 rfl]
 refine kA (fun h2=> ?_) (fun h2=> ?_)
 ·simp(disch:=omega) only[↓RA,RB,simprocAttr,hn,b0Q,h2]
  exact⟨by rw[vfE,if_neg h1,if_pos (by simpa using h2)],hS5.forget⟩
 have hm:x.pl∈jF s.ks:=by simpa using h2
 have hE:vfE s x=if(mZ s x).2=false∨(x.cps.length=0∧rY s x.pl.1=true)then 7 else if drwB s x.stop x.tc=false then 11 else 0:=by rw[vfE,if_neg h1,if_neg (by simpa using hm)]
 simp(disch:=omega) only[↓RA,RZ,simprocAttr,hn,hS5.ae 0 rfl,hS5.ae 1 rfl,h2]
 refine jG (a9H s (hs.ag hS5) hf x (hx.ag hS5)) ?_
 rintro r H6⟨cw,rfl,hT4⟩
 have hS6:=hS5.trans hT4
 simp only[RT]at hS6
 simp(disch:=omega) only[↓RA,RZ,simprocAttr,hn,h2]
 refine lI (fun h3=> ?_) (fun h3=> ?_)
 ·simp(disch:=omega) only[↓RA,RZ,simprocAttr,hn,b0Q,h2,h3]
  exact⟨by rw[hE,if_pos (Or.inl (by simpa using h3))],hS6.forget⟩
 have hc:(mZ s x).2=true:=by simpa using h3
 have hok:=a5O hf (hct _ hm) hc
 simp(disch:=omega) only[↓RA,RZ,simprocAttr,hn,hS6.ld 1 rfl,(hS6.sl hx.1).len,h2,h3]
 refine jW (fun h4=> ?_) (fun h4=> ?_)
 ·simp(disch:=omega) only[↓RA,RZ,simprocAttr,hn,hS6.ae 0 rfl,hS6.ld 1 rfl,h2,h3,h4]
  refine hS6.cF (a7H s (hs.ag hS6) x.pl.1 ((a0g (hct _ hm)).1)) fun H7 hS7=> ?_
  simp(disch:=omega) only[↓RA,RZ,simprocAttr,hn,h2,h3,h4]
  refine kA (fun h5=> ?_) (fun h5=> ?_)
  ·simp(disch:=omega) only[↓RA,RZ,simprocAttr,hn,b0Q,h2,h3,h4,h5]
   exact⟨by rw[hE,if_pos (Or.inr ⟨by omega,by simpa using h5⟩)],hS7.forget⟩
  have h5':rY s x.pl.1=false:=by simpa using h5
  simp(disch:=omega) only[↓RA,RZ,simprocAttr,hn,hS7.ae 0 rfl,hS7.ld 1 rfl,hS7.ae 1 rfl,h2,h3,h4,h5]
  refine hS7.cF (a3N s (hs.ag hS7) hf x.stop x.tc (a0g hok)) fun H8 hS8=> ?_
  simp(disch:=omega) only[↓RA,RZ,simprocAttr,hn,h2,h3,h4,h5]
  refine kA (fun h6=> ?_) (fun h6=> ?_)
  ·simp(disch:=omega) only[↓RA,RZ,simprocAttr,hn,b0Q,h2,h3,h4,h5,h6]
   exact⟨by rw[hE,if_neg (by rw[hc,h5'];simp),if_pos (by simpa using h6)],hS8.forget⟩
  simp(disch:=omega) only[↓RA,RZ,simprocAttr,hn,b0Q,h2,h3,h4,h5,h6]
  exact⟨by rw[hE,if_neg (by rw[hc,h5'];simp),if_neg (by simpa using h6)],hS8.forget⟩
 simp(disch:=omega) only[↓RA,RZ,simprocAttr,hn,hS6.ae 0 rfl,hS6.ld 1 rfl,hS6.ae 1 rfl,h2,h3,h4]
 refine hS6.cF (a3N s (hs.ag hS6) hf x.stop x.tc (a0g hok)) fun H9 hS9=> ?_
 simp(disch:=omega) only[↓RA,RZ,simprocAttr,hn,h2,h3,h4]
 refine kA (fun h6=> ?_) (fun h6=> ?_)
 ·simp(disch:=omega) only[↓RA,RZ,simprocAttr,hn,b0Q,h2,h3,h4,h6]
  exact⟨by rw[hE,if_neg (by rw[hc];rintro(h|h);(· cases h);(· omega)),if_pos (by simpa using h6)],hS9.forget⟩
 simp(disch:=omega) only[↓RA,RZ,simprocAttr,hn,b0Q,h2,h3,h4,h6]
 exact⟨by rw[hE,if_neg (by rw[hc];rintro(h|h);(· cases h);(· omega)),if_neg (by simpa using h6)],hS9.forget⟩
end Go.Ds
namespace Go.Ds
open Go.Proofs Go.Proofs.Tryz Go.ChangeShapes Go.WideShapes Go.RowKit Go.Deep
set_option maxRecDepth 10000
theorem c9y:prog.cellsOf 39=10:=by kernel_rfl
theorem c9H:prog.cellsOf 35=5:=by kernel_rfl
structure RnI(H:Heap)(r:Rn):Prop where
 sl:Sl 1 (one I) H r.cv r.cps
 len:r.cps.length<9223372036854775808
theorem RnI.ext{ρ ρ':Rho}{H H':Heap}{r:Rn}(h:RnI H r)(e:ExtW ρ H ρ' H'):RnI H' r:=⟨h.sl.ext e,h.len⟩
theorem RnI.ag{P:Program}{H H0:Heap}{os:List Ob}{r:Rn}(h:RnI H0 r)(hS:St P H0 H os):RnI H r:=⟨hS.sl h.sl,h.len⟩
theorem RnI.rn{H:Heap}{r:Rn}(h:RnI H r)(hl:r.cps.length<100000000):r.In H:=⟨h.sl,hl⟩
structure CtI(H:Heap)(v:Value)(l:List Ctl):Prop where
 sl:Sl 3 Ctl.cells H v l
 len:l.length<9223372036854775808
theorem CtI.ext{ρ ρ':Rho}{H H':Heap}{v:Value}{l:List Ctl}(h:CtI H v l)(e:ExtW ρ H ρ' H'):CtI H' v l:=⟨h.sl.ext e,h.len⟩
theorem CtI.ag{P:Program}{H H0:Heap}{os:List Ob}{v:Value}{l:List Ctl}(h:CtI H0 v l)(hS:St P H0 H os):CtI H v l:=⟨hS.sl h.sl,h.len⟩
section
variable {H0:Type} {enc:TypeId×Value→H0} {w:World} {base n:Nat} {spare:Nat→Bool} {lR:Bool} {x:DataW H0×List MemPlace}
end
section
variable {H0:Type} {enc:TypeId×Value→H0} {w:World} {base fuel:Nat} {lR:Bool} {x:DataW H0×List MemPlace} {ρ:Rho} {H:Heap}
theorem c8d{v0:Value}{d0:DataW H0}{p0:List MemPlace}{c0:Nat}(h0:DataW.Trod enc prog w base (fun _=>true) lR 39 v0 d0 p0)(hval:Value.okWide prog w .any c0 39 v0):
 ∃(b k:Nat→Nat)(r n:Nat),(∀i,b i<256)∧(∀i,k i<65536)∧r<256∧n<256∧v0=.agg #[.int .u8 (b 0),.int .u8 (b 1),.int .u8 (b 2),.int .u8 (b 3),.int .u8 (b 4),.int .u16 (k 0),.int .u16 (k 1),.int .u16 (k 2),.int .u8 r,.int .u8 n]:=by
 obtain⟨cs,rfl,hsz⟩:=okWide_struct underlying39 hval
 rw[c9y]at hsz
 obtain⟨fuel,hf⟩:=h0
 obtain⟨l⟩:=cs
 have hl:l.length=10:=hsz
 match l,hl with
 | [x0,x1,x2,x3,x4,x5,x6,x7,x8,x9],_=>
   obtain⟨_,m,hf⟩:=a1F (cs:=[x0,x1,x2,x3,x4,x5,x6,x7,x8,x9]) underlying39 hf
   obtain⟨_,h0⟩:=hf 0 ⟨_,35,0,_,_,_,_⟩ rfl
   obtain⟨_,h1⟩:=hf 1 ⟨_,37,5,_,_,_,_⟩ rfl
   obtain⟨_,h2⟩:=hf 2 ⟨_,5,8,_,_,_,_⟩ rfl
   obtain⟨_,h3⟩:=hf 3 ⟨_,5,9,_,_,_,_⟩ rfl
   simp only[c9H,d0y,ce5]at h0 h1 h2 h3
   obtain⟨b,hb,eb⟩:=b4t h0
   obtain⟨k,hk,ek⟩:=c6w h1
   obtain⟨r,er,hr⟩:=qP h2
   obtain⟨n,en,hn⟩:=qP h3
   simp only[jg,ik,List.take_succ_cons,List.take_zero,fG,and_true]at eb ek
   obtain⟨rfl,rfl,rfl,rfl,rfl⟩:=eb
   obtain⟨rfl,rfl,rfl⟩:=ek
   subst er en
   exact⟨b,k,r,n,hb,hk,hr,hn,rfl⟩
end
end Go.Ds
namespace Go.Ds
open Go.Proofs
variable {H:Heap}
set_option maxRecDepth 10000
set_option maxHeartbeats 1000000
end Go.Ds
namespace Go.Ds
open Go.Proofs Go.Proofs.Tryz
variable {H:Heap}
set_option maxRecDepth 10000
set_option maxHeartbeats 1000000
theorem a2M(a:Addr)(m c:Nat):lJ prog .eql 140 140 false true (.slice (some a) m c) (.slice none 0 0)=some (.bool false):=by kernel_rfl
theorem xM{v:Value}{a:Addr}{m c:Nat}(h:v=.slice (some a) m c)(K:Value→Prop):lV prog .eql 140 140 false true v (.slice none 0 0) K=oR (.bool false) K:=by
 subst h
 show kP (lJ prog .eql 140 140 false true (.slice (some a) m c) (.slice none 0 0)) K=_
 rw[a2M]
 rfl
theorem a1y:lJ prog .eql 140 140 false true (.slice none 0 0) (.slice none 0 0)=some (.bool true):=by kernel_rfl
theorem qN(K:Value→Prop):lV prog .eql 140 140 false true (.slice none 0 0) (.slice none 0 0) K=oR (.bool true) K:=by
 show kP (lJ prog .eql 140 140 false true (.slice none 0 0) (.slice none 0 0)) K=_
 rw[a1y]
 rfl
theorem b2Y(v:Value)(xs:List Ct)(hv:Sl 2 mJ H v xs)(hl:xs.length<100000000):Fn prog 97 [v] H fun r H'=>St prog H H' [⟨r,2,xs.flatMap mJ⟩]:=by
 rcases hv.rd with⟨rfl,h2⟩|⟨A,i,e,row,ty,rw',lo,ver,m,_,_,_,_,_,_,hvv⟩
 ·have hx:xs=[]:=by
   have:=congrArg List.length h2
   rw[show(xs.flatMap mJ).length=xs.length*2 from jJ (n:=2) (cel:=mJ) (fun _=>rfl) xs,eT]at this
   exact eG.1 (by omega)
  subst hx
  refine .aN func97 rfl (by kernel_rfl) (m:=8) rfl fun l hn g0=> ?_
  have hbe:=qN
  simp(disch:=omega) only[↓RA,RB,simprocAttr,hn,g0,qN]
  have hS1:=(sR H).nil 1
  simp only[RT]at hS1
  simp(disch:=omega) only[RB,simprocAttr,hn,c8Z]
  exact hS1
 ·refine .aN func97 rfl (by kernel_rfl) (m:=8) rfl fun l hn g0=> ?_
  simp(disch:=omega) only[↓RA,RB,simprocAttr,hn,g0,xM hvv]
  refine(sR H).bu wO fun w1 H1 hS1=> ?_
  simp only[RT]at hS1
  simp(disch:=omega) only[↓RA,RZ,simprocAttr,hn,g0]
  refine hS1.aq 0 rfl (hS1.sl hv).rd wO (by rw[show(xs.flatMap mJ).length=xs.length*2 from jJ (n:=2) (cel:=mJ) (fun _=>rfl) xs];simp;omega) fun w2 H2 hS2=> ?_
  simp only[RT]at hS2
  simp(disch:=omega) only[↓RA,RB,simprocAttr,hn,c8Z]
  exact hS2
end Go.Ds
namespace Go.Ds
open Go.Proofs
set_option maxRecDepth 10000
section
variable {o:Org} {b:Nat→Nat} {l:List Ct}
end
theorem c6W(a:Int):vS a=if a%18446744073709551616≥9223372036854775808 then a%18446744073709551616-18446744073709551616 else a%18446744073709551616:=by
 show IntKind.wrap .i64 a=_
 unfold IntKind.wrap
 simp[IntKind.bits,IntKind.signed]
theorem a3J{a:Int}(h1: -9223372036854775808≤a)(h2:a<9223372036854775808):vS a=a:=by
 rw[c6W]
 split<;>omega
end Go.Ds
namespace Go.Ds
open Go.Proofs
variable {H:Heap}
set_option maxRecDepth 10000
set_option maxHeartbeats 1000000
end Go.Ds
namespace Go.Ds
open Go.Proofs
set_option maxRecDepth 10000
end Go.Ds
namespace Go.Ds
open Go.Proofs
variable {H:Heap}
set_option maxRecDepth 10000
set_option maxHeartbeats 1000000
structure Kv where
 v:Value
 l:List Nt
 deriving Inhabited
def Kv.cells(k:Kv):List Value:=[k.v]
def Kv.In(H:Heap)(k:Kv):Prop:=Ks H k.v k.l
theorem Kv.In.ag{P:Program}{H':Heap}{k:Kv}{os:List Ob}(h:k.In H)(hS:St P H H' os):k.In H':=Ks.ag h hS
end Go.Ds
namespace Go.Ds
open Go.Proofs
set_option maxRecDepth 10000
end Go.Ds
namespace Go.Ds
open Go.Proofs
variable {H:Heap}
set_option maxRecDepth 10000
set_option maxHeartbeats 1000000
theorem b9s{o:Org}{c:Ct}(h:c∈pM o):nB o c=true:=by
 unfold pM at h
 obtain⟨i,hi,h⟩:=eM.1 h
 obtain⟨k,hk,rfl⟩:=dP.1 h
 have h1:=dS.1 hi
 have h2:=dS.1 hk
 rw[lF]
 simp only[eh]
 omega
theorem c0i{o:Org}{c:Ct}(h:nB o c=true):c∈pM o:=by
 rw[lF]at h
 unfold pM
 refine eM.2 ⟨c.1.toNat,dS.2 (by omega),dP.2 ⟨(c.2-(jB o.dvs c.1.toNat).lo).toNat,dS.2 (by omega),?_⟩⟩
 apply iJ
 ·simp;omega
 ·simp;omega
theorem c5c{o:Org}(hf:o.Fine){i k:Nat}(hi:i<o.dvs.length)(hk:k≤zR o i):(wA o i k).length≤1024:=by
 have h1:=b9G hf
 by_cases hkk:k<zR o i
 ·obtain⟨e,he⟩:=b3z o (i:=i) (k:=k) (by omega) hkk
  rw[he,dM]at h1
  omega
 ·have hk2:k=zR o i:=by omega
  rw[hk2,a1A]
  obtain⟨t,ht⟩:∃t,List.range o.dvs.length=List.range (i+1)++t:=⟨(List.range o.dvs.length).drop (i+1),by rw[show List.range (i+1)=(List.range o.dvs.length).take (i+1)from by rw[List.take_range,ia (by omega)],fR]⟩
  unfold pM at h1
  rw[ht,dV,dM]at h1
  omega
end Go.Ds
namespace Go.Ds
open Go.Proofs
set_option maxRecDepth 10000
def Nx(s:Sn)(c x:Ct):Prop:=∃i:Nat,i<s.o.cpls.length∧ldB s i c false=true∧stC s i c=x
theorem b5A(o:Org):(pM o).Pairwise ltP:=a0n (fun i=>by
 unfold tH
 rw[fS]
 exact(List.pairwise_lt_range).imp fun h=>.inr ⟨rfl,by simpa using h⟩) (fun i c hc=>by
  unfold tH at hc
  obtain⟨k,_,rfl⟩:=dP.1 hc
  rfl) _
theorem b9b{l:List Ct}(h:l.Pairwise ltP):l.Nodup:=h.imp fun{a b}hab e=>by rw[e]at hab;exact b4W hab
inductive RN(s:Sn):Nat→Ct→Prop
 | zero {c:Ct} (h:nB s.o c=true) (hs:stpL s c≠[]):RN s 0 c
 | succ {n:Nat} {c x:Ct} (h:nB s.o c=true) (hx:Nx s c x) (hr:RN s n x):RN s (n+1) c
theorem RN.ok{s:Sn}{n:Nat}{c:Ct}(h:RN s n c):nB s.o c=true:=by cases h<;>assumption
def Far(s:Sn)(c:Ct)(n:Nat):Prop:=RN s n c∧∀m,RN s m c→n≤m
theorem Far.uniq{s:Sn}{c:Ct}{n m:Nat}(h:Far s c n)(k:Far s c m):n=m:=Nat.le_antisymm (h.2 _ k.1) (k.2 _ h.1)
def frm(x:Cpl)(c:Ct):Ct:=(x.src,vS (c.2-x.shift))
def qY(L:List (Ct×Nat))(t:Ct):Option Nat:=(L.find? fun e=>decide (e.1=t)).map (·.2)
def tD(s:Sn)(c:Ct)(i:Nat):Bool:=
 decide ((jB s.o.cpls i).dst=c.1)&&nB s.o (frm (jB s.o.cpls i) c)&&ldB s i (frm (jB s.o.cpls i) c) false&&decide (stC s i (frm (jB s.o.cpls i) c)=c)
def wI(s:Sn)(c:Ct×Nat)(L:List (Ct×Nat))(i:Nat):List (Ct×Nat):=
 if tD s c.1 i&& !decide (frm (jB s.o.cpls i) c.1∈L.map (·.1))then L++[(frm (jB s.o.cpls i) c.1,c.2+1)]else L
def mW(s:Sn)(c:Ct×Nat)(L:List (Ct×Nat))(n:Nat):List (Ct×Nat):=(List.range n).foldl (wI s c) L
theorem a2x(s:Sn)(c:Ct×Nat)(L:List (Ct×Nat))(n:Nat):mW s c L (n+1)=wI s c (mW s c L n) n:=by
 unfold mW
 rw[eR,gh]
 rfl
def a5k(s:Sn):Nat→Nat→List (Ct×Nat)→List (Ct×Nat)
 | 0,_,L=>L
 | n+1,h,L=>if h<L.length then a5k s n (h+1) (mW s (jB L h) L s.o.cpls.length)else L
def tU(s:Sn)(l:List Ct):List (Ct×Nat):=(l.filter fun c=>decide (stpL s c≠[])).map fun c=>(c,0)
def rU(s:Sn):List (Ct×Nat):=a5k s 1100 0 (tU s (pM s.o))
theorem a1z{L:List (Ct×Nat)}{t:Ct}:qY L t=none↔t∉L.map (·.1):=by
 unfold qY
 rw[Option.map_eq_none_iff,gp]
 simp only[decide_eq_true_eq,dP,not_exists,not_and]
theorem c1M{L M:List (Ct×Nat)}{t:Ct}:qY (L++M) t=(qY L t).or (qY M t):=by
 unfold qY
 rw[List.find?_append]
 cases L.find? fun e=>decide (e.1=t)<;>simp
theorem b7V{c t:Ct}{n:Nat}:qY [(c,n)] t=if c=t then some n else none:=by
 unfold qY
 by_cases h:c=t
 ·rw[if_pos h];simp[h]
 ·rw[if_neg h];simp[h]
theorem a1a{L:List (Ct×Nat)}(hn:(L.map (·.1)).Nodup){t:Ct}{n:Nat}:qY L t=some n↔(t,n)∈L:=by
 unfold qY
 constructor
 ·intro h
  obtain⟨e,he,h2⟩:=dJ.1 h
  have h3:=iV he
  have h4:=gB he
  obtain⟨a,b⟩:=e
  simp only[decide_eq_true_eq]at h3
  simp only at h2
  rw[←h3,←h2]
  exact h4
 ·intro h
  induction L with
  | nil=>cases h
  | cons e L ih=>
    rw[eN,iC]at hn
    rw[List.find?_cons]
    rcases ew.1 h with h|h
    ·subst h;simp
    ·have hne:decide (e.1=t)=false:=by
      rw[decide_eq_false_iff_not]
      intro e1
      exact hn.1 (dP.2 ⟨(t,n),h,e1.symm⟩)
     rw[hne]
     exact ih hn.2 h
structure Bf(s:Sn)(h:Nat)(L:List (Ct×Nat)):Prop where
 nd:(L.map (·.1)).Nodup
 ok:∀e∈L,nB s.o e.1=true
 far:∀e∈L,Far s e.1 e.2
 zero:∀c,RN s 0 c→c∈L.map (·.1)
 srt:∀i j,i<j→j<L.length→(jB L i).2≤(jB L j).2
 hi:∀i,i<L.length→h<L.length→(jB L i).2≤(jB L h).2+1
 lt:∀j,j<L.length→(jB L j).2≤j
 done:∀j,j<h→j<L.length→∀c,nB s.o c=true→Nx s c (jB L j).1→c∈L.map (·.1)
theorem rH{α:Type}[Inhabited α](q t:List α){j:Nat}(h:j<q.length):jB (q++t) j=jB q j:=by
 rw[jR _ _ (by simp;omega),jR _ _ h,List.getElem_append_left h]
theorem a4I{α:Type}[Inhabited α](q:List α)(x:α):jB (q++[x]) q.length=x:=by
 rw[jR _ _ (by simp)]
 simp
theorem b0D{L:List (Ct×Nat)}{c:Ct}(h:c∈L.map (·.1)):∃j,j<L.length∧(jB L j).1=c:=by
 obtain⟨e,he,rfl⟩:=dP.1 h
 obtain⟨j,hj,rfl⟩:=eF.1 he
 exact⟨j,hj,by rw[jR _ _ hj]⟩
theorem Bf.cY{s:Sn}{h:Nat}{L:List (Ct×Nat)}(b:Bf s h L)(hh:h<L.length):∀k c,RN s k c→k≤(jB L h).2→c∈L.map (·.1)
 | 0,c,hr,_=>b.zero c hr
 | k+1,c,hr,hk=>by
   cases hr with
   | succ ho hx hr'=>
     rename_i x
     have hxm:=b.cY hh k x hr' (by omega)
     obtain⟨j,hj,rfl⟩:=b0D hxm
     have hf:=(b.far _ (jE hj)).2 _ hr'
     refine b.done j ?_ hj c ho hx
     rcases gQ j h with h1|h1
     ·exact h1
     ·exfalso
      rcases gq h1 with h2|h2
      ·have:=b.srt h j h2 hj
       omega
      ·subst h2
       omega
theorem c0j{s:Sn}{c y:Ct}{i:Nat}(hi:i<s.o.cpls.length)(hf:s.Fit)(hy:nB s.o y=true):tD s c i=true∧frm (jB s.o.cpls i) c=y↔nB s.o c=true∧ldB s i y false=true∧stC s i y=c:=by
 have hc:=Org.bk hf.o hi
 constructor
 ·rintro⟨hb,rfl⟩
  unfold tD at hb
  simp only[dB,decide_eq_true_eq]at hb
  obtain⟨⟨⟨h1,h2⟩,h3⟩,h4⟩:=hb
  refine⟨?_,h3,h4⟩
  have h5:=vR.1 h3
  rw[←h4,stC,if_pos h5.1,lF]
  simp only[eh]at h5 ⊢
  exact⟨hc.2.1.1,hc.2.1.2,h5.2.2.2.1,h5.2.2.2.2⟩
 ·rintro⟨h1,h2,h3⟩
  have h5:=vR.1 h2
  have h6:=(lF s.o y).1 hy
  have hk:=hf.aK.keys y.1.toNat (by omega)
  rw[stC,if_pos h5.1]at h3
  simp only[eh]at h5 h3
  have e:frm (jB s.o.cpls i) c=y:=by
   unfold frm
   rw[←h3]
   apply iJ
   ·exact h5.2.1
   ·show vS (vS (y.2+(jB s.o.cpls i).shift)-(jB s.o.cpls i).shift)=y.2
    rw[a3J (a:=y.2+(jB s.o.cpls i).shift) (by omega) (by omega),a3J (by omega) (by omega)]
    omega
  refine⟨?_,e⟩
  unfold tD
  rw[e]
  simp only[dB,decide_eq_true_eq]
  refine⟨⟨⟨?_,hy⟩,h2⟩,?_⟩
  ·rw[←h3];rfl
  ·rw[stC,if_pos h5.1,eh];exact h3
structure Bg(s:Sn)(h:Nat)(c:Ct×Nat)(L:List (Ct×Nat))(n:Nat):Prop where
 bf:Bf s h L
 hh:h<L.length
 hc:jB L h=c
 dn:∀i,i<n→∀y,nB s.o y=true→tD s c.1 i=true→frm (jB s.o.cpls i) c.1=y→y∈L.map (·.1)
theorem Bg.succ{s:Sn}{h:Nat}{c:Ct×Nat}{L:List (Ct×Nat)}{n:Nat}(hf:s.Fit)(hn:n<s.o.cpls.length)(b:Bg s h c L n):Bg s h c (wI s c L n) (n+1):=by
 unfold wI
 split
 ·rename_i hb
  simp only[dB,eK,decide_eq_false_iff_not]at hb
  obtain⟨hb1,hb2⟩:=hb
  have hy:nB s.o (frm (jB s.o.cpls n) c.1)=true:=by
   unfold tD at hb1
   simp only[dB,decide_eq_true_eq]at hb1
   exact hb1.1.1.2
  obtain⟨_,h2,h3⟩:=(c0j hn hf hy).1 ⟨hb1,rfl⟩
  have hcm:c∈L:=by rw[←b.hc];exact jE b.hh
  have hfc:=b.bf.far c hcm
  have hfy:Far s (frm (jB s.o.cpls n) c.1) (c.2+1):=by
   refine⟨.succ hy ⟨n,hn,h2,h3⟩ hfc.1,fun m hm=> ?_⟩
   rcases gQ c.2 m with h4|h4
   ·exact h4
   ·exact absurd (b.bf.cY b.hh m _ hm (by rw[b.hc];exact h4)) hb2
  have hlen:(L++[(frm (jB s.o.cpls n) c.1,c.2+1)]).length=L.length+1:=by simp
  refine⟨⟨?_,?_,?_,?_,?_,?_,?_,?_⟩,by have:=b.hh;omega,by rw[rH _ _ b.hh];exact b.hc,?_⟩
  ·rw[dY,gN]
   refine⟨b.bf.nd,by simp,fun x hx y hy e=> ?_⟩
   rw[eN,gy,dW]at hy
   rw[e,hy]at hx
   exact hb2 hx
  ·intro e he
   rcases eo.1 he with he|he
   ·exact b.bf.ok e he
   ·rw[dW.1 he];exact hy
  ·intro e he
   rcases eo.1 he with he|he
   ·exact b.bf.far e he
   ·rw[dW.1 he];exact hfy
  ·intro x hx
   rw[dY]
   exact iL _ (b.bf.zero x hx)
  ·intro i j hij hj
   rcases gq (show j≤L.length by omega)with h4|h4
   ·rw[rH _ _ h4,rH _ _ (by omega)]
    exact b.bf.srt i j hij h4
   ·rw[h4,a4I,rH _ _ (by omega)]
    have:=b.bf.hi i (by omega) b.hh
    rw[b.hc]at this
    exact this
  ·intro i hi hh2
   rw[rH _ _ b.hh,b.hc]
   rcases gq (show i≤L.length by omega)with h4|h4
   ·rw[rH _ _ h4]
    have:=b.bf.hi i h4 b.hh
    rw[b.hc]at this
    exact this
   ·rw[h4,a4I]
    exact dG _
  ·intro j hj
   rcases gq (show j≤L.length by omega)with h4|h4
   ·rw[rH _ _ h4];exact b.bf.lt j h4
   ·rw[h4,a4I]
    have:=b.bf.lt h b.hh
    have:=b.hh
    rw[b.hc]at*
    show c.2+1≤_
    omega
  ·intro j hj hjl y hy1 hy2
   have hjL:j<L.length:=by have:=b.hh;omega
   rw[rH _ _ hjL]at hy2
   rw[dY]
   exact iL _ (b.bf.done j hj hjL y hy1 hy2)
  ·intro i hi y hy1 hy2 hy3
   rw[dY]
   rcases dK.1 hi with h4|h4
   ·exact iL _ (b.dn i h4 y hy1 hy2 hy3)
   ·subst h4
    refine gD _ ?_
    rw[eN,gy,dW]
    exact hy3.symm
 ·rename_i hb
  refine⟨b.bf,b.hh,b.hc,fun i hi y hy1 hy2 hy3=> ?_⟩
  rcases dK.1 hi with h4|h4
  ·exact b.dn i h4 y hy1 hy2 hy3
  ·subst h4
   rw[←hy3]
   apply fj
   intro hne
   exact hb (by rw[hy2];simpa using hne)
theorem Bg.all{s:Sn}{h:Nat}{L:List (Ct×Nat)}(hf:s.Fit)(b:Bf s h L)(hh:h<L.length):∀n,n≤s.o.cpls.length→Bg s h (jB L h) (mW s (jB L h) L n) n
 | 0,_=>⟨b,hh,rfl,fun i hi=>absurd hi (eu _)⟩
 | n+1,hn=>by
   rw[a2x]
   exact(Bg.all hf b hh n (by omega)).succ hf (by omega)
theorem Bf.next{s:Sn}{h:Nat}{L:List (Ct×Nat)}(hf:s.Fit)(b:Bf s h L)(hh:h<L.length):Bf s (h+1) (mW s (jB L h) L s.o.cpls.length):=by
 have g:=Bg.all hf b hh s.o.cpls.length (dG _)
 generalize mW s (jB L h) L s.o.cpls.length=M at g
 refine⟨g.bf.nd,g.bf.ok,g.bf.far,g.bf.zero,g.bf.srt,fun i hi hh2=> ?_,g.bf.lt,fun j hj hjl y hy1 hy2=> ?_⟩
 ·have h1:=g.bf.hi i hi g.hh
  have h2:=g.bf.srt h (h+1) (by omega) hh2
  omega
 ·rcases dK.1 hj with h4|h4
  ·exact g.bf.done j h4 hjl y hy1 hy2
  ·subst h4
   rw[g.hc]at hy2
   obtain⟨i,hi,h5,h6⟩:=hy2
   have hcm:jB L j∈M:=by rw[←g.hc];exact jE g.hh
   obtain⟨h7,h8⟩:=(c0j hi hf hy1).2 ⟨g.bf.ok _ hcm,h5,h6⟩
   exact g.dn i hi y hy1 h7 h8
theorem Bf.len{s:Sn}{h:Nat}{L:List (Ct×Nat)}(hf:s.Fit)(b:Bf s h L):L.length≤1024:=by
 have:Que s.o (L.map (·.1)):=⟨b.nd,fun c hc=>by
  obtain⟨e,he,rfl⟩:=dP.1 hc
  exact b.ok e he⟩
 have:=this.len hf.aK
 rw[dU]at this
 exact this
theorem a6S{s:Sn}(hf:s.Fit):∀n h L,Bf s h L→1025≤n+h→∃k,Bf s k (a5k s n h L)∧(a5k s n h L).length≤k
 | 0,h,L,b,hn=>⟨h,b,by have:=b.len hf;unfold a5k;omega⟩
 | n+1,h,L,b,hn=>by
   unfold a5k
   split
   ·rename_i hh
    exact a6S hf n (h+1) _ (b.next hf hh) (by omega)
   ·exact⟨h,b,by omega⟩
theorem a7M{s:Sn}:Bf s 0 (tU s (pM s.o)):=by
 have hm:(tU s (pM s.o)).map (·.1)=(pM s.o).filter fun c=>decide (stpL s c≠[]):=by
  unfold tU
  rw[iM]
  exact List.map_id _
 have h0:∀e∈tU s (pM s.o),e.2=0∧nB s.o e.1=true∧stpL s e.1≠[]:=by
  intro e he
  obtain⟨c,hc,rfl⟩:=dP.1 he
  have:=eY.1 hc
  exact⟨rfl,b9s this.1,by simpa using this.2⟩
 have h1:∀i,i<(tU s (pM s.o)).length→(jB (tU s (pM s.o)) i).2=0:=fun i hi=>(h0 _ (jE hi)).1
 refine⟨?_,fun e he=>(h0 e he).2.1,fun e he=> ?_,fun c hc=> ?_,fun i j hij hj=> ?_,fun i hi hh=> ?_,fun j hj=> ?_,fun j hj=>absurd hj (eu _)⟩
 ·rw[hm]
  exact(b9b (b5A s.o)).filter _
 ·obtain⟨h2,h3,h4⟩:=h0 e he
  rw[h2]
  exact⟨.zero h3 h4,fun m _=>fA _⟩
 ·rw[hm]
  cases hc with
  | zero h2 h3=>exact eY.2 ⟨c0i h2,by simpa using h3⟩
 ·rw[h1 i (by omega),h1 j hj];exact dG _
 ·rw[h1 i hi];omega
 ·rw[h1 j hj];omega
theorem a2V{s:Sn}(hf:s.Fit):((rU s).map (·.1)).Nodup∧(∀e∈rU s,nB s.o e.1=true∧Far s e.1 e.2)∧(∀n c,RN s n c→∃m,qY (rU s) c=some m∧Far s c m)∧(rU s).length≤1024:=by
 obtain⟨k,b,hk⟩:=a6S hf 1100 0 _ a7M (by decide)
 have hl:=b.len hf
 refine⟨b.nd,fun e he=>⟨b.ok e he,b.far e he⟩,fun n c hr=> ?_,hl⟩
 have hm:∀n c,RN s n c→c∈(a5k s 1100 0 (tU s (pM s.o))).map (·.1):=by
  intro n
  induction n with
  | zero=>exact b.zero
  | succ n ih=>
    intro c hr
    cases hr with
    | succ ho hx hr'=>
      obtain⟨j,hj,rfl⟩:=b0D (ih _ hr')
      exact b.done j (by omega) hj c ho hx
 obtain⟨e,he,rfl⟩:=dP.1 (hm n c hr)
 exact⟨e.2,(a1a b.nd).2 he,b.far e he⟩
theorem qD{s:Sn}(hf:s.Fit){c:Ct}{n:Nat}:qY (rU s) c=some n↔Far s c n:=by
 obtain⟨h1,h2,h3,_⟩:=a2V hf
 constructor
 ·intro h
  exact(h2 _ ((a1a h1).1 h)).2
 ·intro h
  obtain⟨m,hm,hfm⟩:=h3 n c h.1
  rw[hm,h.uniq hfm]
end Go.Ds
namespace Go.Ds
open Go.Proofs
variable {H:Heap}
set_option maxRecDepth 10000
set_option maxHeartbeats 1000000
structure Frs{α:Type}(n:Nat)(cel:α→List Value)(H:Heap)(v:Value)(xs:List α)(tl:List Value)(L:Nat):Prop where
 rd:RdAt H v n (xs.flatMap cel++tl)
 hc:∀x,(cel x).length=n
 pos:0<n
 hL:L=xs.length
theorem pY(v:Value)(n lo k j f:Nat):kO (lP v n lo k) n j f=kO v n (lo+j) f:=by
 unfold lP
 split
 ·simp only[kO,Value.pointer.injEq,ee,jr,true_and,and_true]
  rw[fV]
  omega
 ·rename_i h
  unfold kO
  split
  ·exact absurd rfl (h _ _ _ _ _)
  ·rfl
theorem a5X(v:Value)(n lo k lo2 k2:Nat):lP (lP v n lo k) n lo2 k2=lP v n (lo+lo2) k2:=by
 cases v with
 | slice a m c=>
   cases a with
   | none=>rfl
   | some a=>
     obtain⟨A,i,e⟩:=a
     simp only[lP,Value.slice.injEq,ee,jr,true_and,and_true]
     rw[fV]
     omega
 | _=>rfl
section
variable {P:Program} {α:Type} {n:Nat} {cel:α→List Value} {v:Value} {xs:List α} {tl:List Value} {L:Nat}
theorem Frs.sl(h:Frs n cel H v xs tl L):Sl n cel H (lP v n 0 L) xs:=by
 refine⟨?_,h.hc,h.pos⟩
 have hl:=jJ h.hc xs
 rw[h.hL]
 by_cases h0:xs.flatMap cel++tl=[]
 ·have hx:xs.length=0:=by
   have:=congrArg List.length h0
   rw[dM,hl,eT]at this
   have h2:xs.length*n=0:=by omega
   rcases iW.1 h2 with h3|h3
   ·exact h3
   ·have:=h.pos;omega
  obtain rfl:=eG.1 hx
  have hr:=h.rd
  rw[h0]at hr
  obtain⟨m,rfl⟩:∃m,n=m+1:=⟨n-1,by have:=h.pos;omega⟩
  have e:=RdAt.sub_self (n:=0) hr (by simp)
  show RdAt H (lP v (m+1) 0 0) (m+1) []
  rw[e]
  exact hr
 ·have h5:=RdAt.sub h.rd 0 xs.length (by rw[dM,hl];omega) h0
  rw[Nat.zero_mul,jg,←hl,List.take_left' rfl]at h5
  exact h5
theorem Frs.len(h:Frs n cel H v xs tl L)(m:Nat)(t:TypeId):b0V (some m) P H t (lP v n 0 L)=some (.int .i64 L):=by
 rw[h.sl.len m t,h.hL]
theorem Frs.idx(h:Frs n cel H v xs tl L)(t:TypeId)(k:IntKind)(j:Int)(h0:0≤j)(h1:j<xs.length):xB (some n) P t (lP v n 0 L) (.int k j)=some (kO v n j.toNat 0):=by
 rw[h.sl.idx t k j h0 h1,pY,fZ]
theorem Frs.aZ(h:Frs n cel H v xs tl L)(j:Nat)(hj:j<xs.length)(g d:Nat):b0e (some d) (kO v n j g)=some (kO v n j (g+d)):=by
 have:=h.sl.aZ j hj g d
 rwa [pY,pY,fZ]at this
theorem Frs.ld[Inhabited α](h:Frs n cel H v xs tl L)(s:Option Nat)(j f:Nat)(hj:j<xs.length)(hf:f<n):oU (some false) s H (kO v n j f)=(cel (jB xs j))[f]?:=by
 have:=h.sl.ld s j f hj hf
 rwa [pY,fZ]at this
theorem Frs.ae[Inhabited α](h:Frs n cel H v xs tl L)(j:Nat)(hj:j<xs.length):oU (some true) (some n) H (kO v n j 0)=some (.agg (cel (jB xs j)).toArray):=by
 have:=h.sl.ae j hj
 rwa [pY,fZ]at this
theorem Frs.aF(h:Frs n cel H v xs tl L)(o:Oper)(l:List Value)(H':Heap)(k:IntKind)(a:Int)(K:Value→Heap→Prop)(h0:0<xs.length)(h1:0≤a)(h2:a≤xs.length):
 pK P o l H' (some n) (lP v n 0 L) (some (.int k a)) none K=oR (lP v n a.toNat (L-a).toNat) fun v=>K v H':=by
 rw[h.sl.aF o l H' k a K h0 h1 h2,a5X,fZ,h.hL]
theorem Frs.aS(h:Frs n cel H v xs tl L)(o:Oper)(l:List Value)(H':Heap)(k:IntKind)(a:Int)(K:Value→Heap→Prop)(h0:0<xs.length)(h1:0≤a)(h2:a≤xs.length):
 pK P o l H' (some n) (lP v n 0 L) none (some (.int k a)) K=oR (lP v n 0 a.toNat) fun v=>K v H':=by
 rw[h.sl.aS o l H' k a K h0 h1 h2,a5X,fZ]
theorem Frs.cells(h:Frs n cel H v xs tl L):(lP v n 0 L).cells=#[lP v n 0 L]∧oneCell (lP v n 0 L)=true∧nE (lP v n 0 L)=true:=h.sl.cells
end
end Go.Ds
namespace Go.Ds
open Go
section
variable {P:Program} {H:Heap}
theorem SWr.mono:∀(c:Code){l:List Value}{H:Heap}{M Q:oH},(∀e l H,M e l H→Q e l H)→SWr P c l H M→SWr P c l H Q:=by
 intro c
 induction c with
 | skip=>intro l H M Q hm h;exact hm _ _ _ h
 | label t=>intro l H M Q hm h;exact hm _ _ _ h
 | exit id=>intro l H M Q hm h;exact hm _ _ _ h
 | ret=>intro l H M Q hm h;exact hm _ _ _ h
 | seq a b iha ihb=>
   intro l H M Q hm h
   refine iha ?_ h
   intro e l1 H1 h1
   cases e with
   | normal=>exact ihb hm h1
   | exit i=>exact hm _ _ _ h1
   | ret=>exact hm _ _ _ h1
 | block id b ih=>
   intro l H M Q hm h
   exact ih (fun e l1 H1 h1=>hm _ _ _ h1) h
 | cond c x y ihx ihy=>
   intro l H M Q hm h
   cases c with
   | tmp t=>exact a3M h (ihx hm) (ihy hm)
   | _=>exact Wp.mono h hm
 | region id ops d=>
   intro l H M Q hm h
   cases d with
   | true=>exact Wp.mono h hm
   | false=>exact a1X (fun l H h=>hm _ _ _ h) _ _ _ h
 | _=>intro l H M Q hm h;exact Wp.mono h hm
def b5Q(I:List Value→Heap→Prop)(Q:oH):oH:=fun e l1 H1=>match e with|.normal=>I l1 H1|e=>Q e l1 H1
theorem lW(I:List Value→Heap→Prop)(Q:oH)(l:List Value):b5Q I Q .normal l H=I l H:=rfl
theorem b9C(I:List Value→Heap→Prop)(Q:oH)(l:List Value):b5Q I Q .ret l H=Q .ret l H:=rfl
end
end Go.Ds
namespace Go.Ds
noncomputable section
variable {P:Program} {H0:Base} {H:Heap} {os:List Ob} {κ β:Type} [DecidableEq κ] {enc:κ→Value} {f:β→Value} {z:Value} {t:TypeId}
theorem St.aT{o:Ob}(h:OwnAt P H o):St P ⟨H,tE [o]⟩ H [o] where
 len:=dG _
 old:=fun _ _ _=>rfl
 own:=fun x hx=>by rw[dW.1 hx];exact h
 new:=fun x hx B hB=>.inr ⟨x,hx,hB⟩
 sep:=List.pairwise_singleton _ _
theorem OwnAt.st{H0:Heap}{o:Ob}(h:OwnAt P H0 o)(hS:St P H0 H os):OwnAt P H o:=h.ag fun B hB=>hS.ag B (h.lt hB)
end
end Go.Ds
namespace Go.Ds
open Go.Proofs
variable {H:Heap}
set_option maxRecDepth 10000
set_option maxHeartbeats 1000000
abbrev KN(kvs:List (Ct×Int)):List Value:=kcs (fun p:Int×Int=>.agg #[I p.1,I p.2]) I kvs
structure Gn where
 c:Ct
 w:Value
 l:List Ct
 tl:List Value
 deriving Inhabited
abbrev Gn.v(g:Gn):Value:=lP g.w 2 0 g.l.length
def Gn.cells(g:Gn):List Value:=[I g.c.1,I g.c.2,g.v]
def Gn.row(g:Gn):Ob:=⟨g.w,2,pr g.l++g.tl⟩
def Gn.key(g:Gn):Ct×List Ct:=(g.c,g.l)
end Go.Ds
namespace Go.Ds
open Go.Proofs Go.Proofs.Tryz
variable {H:Heap}
set_option maxRecDepth 10000
set_option maxHeartbeats 1000000
def MapD(kvs:List (Ct×Int))(L:List (Ct×Nat)):Prop:=∀t,zA kvs t=(qY L t).map fun(n:Nat)=>(n:Int)
theorem MapD.put{kvs:List (Ct×Int)}{L:List (Ct×Nat)}(h:MapD kvs L){c:Ct}{n:Nat}(hn:c∉L.map (·.1)):MapD (a4X kvs c (n:Int)) (L++[(c,n)]):=by
 intro t
 rw[a8B,c1M,b7V]
 by_cases e:t=c
 ·rw[if_pos e,e,a1z.2 hn,if_pos rfl]
  rfl
 ·rw[if_neg e,if_neg fun h=>e h.symm,h t]
  simp
theorem a0I(s:Sn)(l:List Ct)(c:Ct):tU s (l++[c])=tU s l++(if stpL s c≠[]then[(c,0)]else[]):=by
 unfold tU
 rw[fJ,dY]
 congr 1
 by_cases h:stpL s c≠[]
 ·rw[if_pos h];simp[h]
 ·rw[if_neg h];simp[h]
theorem a9A(s:Sn)(l:List Ct):(tU s l).map (·.1)=l.filter fun c=>decide (stpL s c≠[]):=by
 unfold tU
 rw[iM]
 exact List.map_id _
theorem c0u(l:List Ct)(h:Nat):(pr (l.drop h)).drop (1*2)=pr (l.drop (h+1)):=by
 rw[←gk]
 cases l.drop h<;>rfl
theorem b8J{o:Org}{i k:Nat}:((i:Int),(jB o.dvs i).lo+(k:Int))∉wA o i k:=by
 unfold wA
 intro h
 rcases eo.1 h with h|h
 ·obtain⟨j,hj,h⟩:=eM.1 h
  unfold tH at h
  obtain⟨q,_,e⟩:=dP.1 h
  have h1:=dS.1 hj
  have h2:(j:Int)=(i:Int):=congrArg Prod.fst e
  omega
 ·obtain⟨q,hq,e⟩:=dP.1 h
  have h1:=dS.1 hq
  have h2:(jB o.dvs i).lo+(q:Int)=(jB o.dvs i).lo+(k:Int):=congrArg Prod.snd e
  omega
theorem a5Q{s:Sn}{c:Ct}{i:Nat}(h:nB s.o (frm (jB s.o.cpls i) c)=false):tD s c i=false:=by
 unfold tD
 rw[h]
 simp
theorem rK{s:Sn}{c:Ct×Nat}{L:List (Ct×Nat)}{i:Nat}(h:tD s c.1 i=false):wI s c L i=L:=by
 unfold wI
 rw[h]
 rfl
theorem a0K(s:Sn)(hs:s.In H)(hf:s.Fit):Fn prog 50 [s.v] H fun r H'=>∃(M:Nat)(kvs:List (Ct×Int)),r=.map (some M)∧MapD kvs (rU s)∧St prog H H' [⟨.map (some M),0,KN kvs⟩]:=by
 have hfi:=hf.aK
 have hd8:=hfi.dlen
 have hc40:=hfi.clen
 refine .aN func50 rfl (by kernel_rfl) (m:=138) rfl fun l hn g0=> ?_
 have hfl:flat (Value.map none)=true:=rfl
 simp(disch:=omega) only[↓RA,RB,simprocAttr,g0]
 refine(sR H).eNew 10 [(.string s.o.name),s.o.rv,s.o.dv,s.o.cv,s.sv,(.int .u64 s.rg.cpl),(.int .u64 s.rg.off),s.kv,I s.p.1,I s.p.2] rfl rfl (by simp[OC,((sR H).sl hs.o.1).cells.2.1,((sR H).sl hs.o.2.2.1).cells.2.1,((sR H).sl hs.o.2.2.2.2.1).cells.2.1,((sR H).sl hs.rg.1).cells.2.1,((sR H).sl hs.ks.sl).cells.2.1]) pS fun A1 H1 hS1=> ?_
 simp only[RT]at hS1
 simp(disch:=omega) only[↓RA,RB,simprocAttr,hfl]
 refine hS1.cd wX fun M1 H2 hS2=> ?_
 simp only[RT]at hS2
 simp(disch:=omega) only[↓RA,RZ,simprocAttr,hn,hS2.ld 0 rfl,(hS2.sl hs.o.2.2.1).len]
 have hS3:=hS2.nil 1
 simp only[RT]at hS3
 refine Wp.ak (fun n l H'=>l.length=138∧get l 1=(ptr A1 0 10)∧get l 2=(.map none)∧get l 3=(.map (some M1))∧get l 21=s.o.dv∧get l 22=I s.o.dvs.length∧∃(i:Nat)(kvs:List (Ct×Int))(ov:Value),(n+i=s.o.dvs.length∧MapD kvs (tU s ((List.range i).flatMap (tH s.o))))∧get l 23=I i∧get l 4=ov∧St prog H H' [⟨ptr A1 0 10,0,[(.string s.o.name),s.o.rv,s.o.dv,s.o.cv,s.sv,(.int .u64 s.rg.cpl),(.int .u64 s.rg.off),s.kv,I s.p.1,I s.p.2]⟩,⟨.map (some M1),0,KN kvs⟩,⟨ov,2,pr ((tU s ((List.range i).flatMap (tH s.o))).map (·.1))⟩]) s.o.dvs.length ?_ ?_
 ·simp(disch:=omega) only[RB,RC,simprocAttr,hn]
  exact⟨0,[],.slice none 0 0,⟨by omega,fun t=>rfl⟩,rfl,rfl,hS3⟩
 rintro n l H3⟨hn,g1,g2,g3,g21,g22,i,kvs,ov,⟨hi,hmd⟩,g23,g4,hS4⟩
 simp(disch:=omega) only[↓RA,RB,simprocAttr,hn,g22,g23]
 refine jA (fun q1=> ?_) (fun q1=> ?_)
 ·have hki:=hfi.keys i (by omega)
  have hcn:(zR s.o i:Int)=(jB s.o.dvs i).hi-(jB s.o.dvs i).lo+1:=by unfold zR;omega
  have hpre:wA s.o i 0=(List.range i).flatMap (tH s.o):=by unfold wA;simp
  have hlen:=fun k=>c5c hfi (i:=i) (k:=k) (by omega)
  simp(disch:=omega) only[↓RA,RZ,simprocAttr,hn,g21,g23,(hS4.sl hs.o.2.2.1).idx,(hS4.sl hs.o.2.2.1).ae,Dvn.cells,q1]
  refine hS4.eNew 5 [(.string ⟨#[]⟩),(.bool false),I 0,I 0,(.slice none 0 0)] rfl rfl rfl sB fun A2 H4 hS5=> ?_
  simp only[RT]at hS5
  simp(disch:=omega) only[↓RA,RZ,simprocAttr,hn,q1]
  refine hS5.aa 3 rfl [(.string (jB s.o.dvs i).name),(.bool (jB s.o.dvs i).pedal),I (jB s.o.dvs i).lo,I (jB s.o.dvs i).hi,(jB s.o.dvs i).sv] rfl (by simp[OC,(hS5.sl (hs.o.2.2.2.1 (jB s.o.dvs i) (jE (by omega))).1).cells.2.1]) sB (by simp) fun H5 hS6=> ?_
  simp only[RT]at hS6
  simp(disch:=omega) only[↓RA,RZ,simprocAttr,hn,hS6.ld 3 rfl,q1]
  refine Wp.ak (fun n l H'=>l.length=138∧get l 1=(ptr A1 0 10)∧get l 2=(.map none)∧get l 3=(.map (some M1))∧get l 5=I i∧get l 6=(ptr A2 0 5)∧get l 21=s.o.dv∧get l 22=I s.o.dvs.length∧get l 23=I i∧∃(k:Nat)(kvt:List (Ct×Int))(ow:Value),(n+k=zR s.o i∧MapD kvt (tU s (wA s.o i k)))∧get l 7=I ((jB s.o.dvs i).lo+k)∧get l 4=ow∧St prog H H' [⟨ptr A1 0 10,0,[(.string s.o.name),s.o.rv,s.o.dv,s.o.cv,s.sv,(.int .u64 s.rg.cpl),(.int .u64 s.rg.off),s.kv,I s.p.1,I s.p.2]⟩,⟨.map (some M1),0,KN kvt⟩,⟨ow,2,pr ((tU s (wA s.o i k)).map (·.1))⟩,⟨ptr A2 0 5,0,[(.string (jB s.o.dvs i).name),(.bool (jB s.o.dvs i).pedal),I (jB s.o.dvs i).lo,I (jB s.o.dvs i).hi,(jB s.o.dvs i).sv]⟩]) (zR s.o i) ?_ ?_
  ·simp(disch:=omega) only[RB,RC,simprocAttr,hn,g1,g2,g3,g21,g22,g23,g4]
   refine⟨0,kvs,ov,⟨by omega,by rw[hpre];exact hmd⟩,by simp,rfl,?_⟩
   rw[hpre]
   exact hS6
  rintro n l H6⟨hn,g1,g2,g3,g5,g6,g21,g22,g23,k,kvt,ow,⟨hk,hmd2⟩,g7,g4,hS7⟩
  simp(disch:=omega) only[↓RA,RZ,simprocAttr,hn,g6,g7,hS7.ld 3 rfl]
  refine jA (fun q2=> ?_) (fun q2=> ?_)
  ·have hl:=hlen k (by omega)
   have hcx:nB s.o ((i:Int),(jB s.o.dvs i).lo+(k:Int))=true:=by
    rw[lF]
    simp only[eh]
    omega
   have hfs:wA s.o i (k+1)=wA s.o i k++[((i:Int),(jB s.o.dvs i).lo+(k:Int))]:=b7a s.o i k
   simp(disch:=omega) only[↓RA,RZ,simprocAttr,hn,g5,g7,a0u,q2]
   refine hS7.eNew 2 [I 0,I 0] rfl rfl rfl mP fun A3 H7 hS8=> ?_
   simp only[RT]at hS8
   simp(disch:=omega) only[↓RA,RZ,simprocAttr,hn,q2]
   refine hS8.aa 4 rfl [I i,I ((jB s.o.dvs i).lo+k)] rfl rfl mP (by simp) fun H8 hS9=> ?_
   simp only[RT]at hS9
   simp(disch:=omega) only[↓RA,RZ,simprocAttr,hn,g1,hS9.ae 0 rfl,hS9.ae 4 rfl,q2]
   refine jG ((xP s (hs.ag hS9) hf ((i:Int),(jB s.o.dvs i).lo+(k:Int)) (a0g hcx)).tr) ?_
   rintro r H9⟨-,hT1⟩
   have hS10:=hS9.trans hT1
   simp only[RT]at hS10
   obtain⟨sw,rfl⟩:∃w,w=r:=⟨r,rfl⟩
   simp(disch:=omega) only[↓RA,RZ,simprocAttr,hn,(hS10.az 5 rfl (fun _=>rfl)).len,q2]
   refine jA (fun q3=> ?_) (fun q3=> ?_)
   ·have hne:stpL s ((i:Int),(jB s.o.dvs i).lo+(k:Int))≠[]:=by
     intro e
     rw[e]at q3
     simp at q3
    have hnm:((i:Int),(jB s.o.dvs i).lo+(k:Int))∉(tU s (wA s.o i k)).map (·.1):=by
     rw[a9A]
     intro h
     exact b8J (eY.1 h).1
    have hroom:(pr ((tU s (wA s.o i k)).map (·.1))).length≤2048:=by
     rw[jN,a9A]
     have:=fy (fun c=>decide (stpL s c≠[])) (wA s.o i k)
     omega
    simp(disch:=omega) only[↓RA,RZ,simprocAttr,hn,g3,hS10.ae 4 rfl,q2,q3]
    refine hS10.cD (k:=((i:Int),(jB s.o.dvs i).lo+(k:Int))) 1 rfl wX fun H10 hS11=> ?_
    simp only[RT]at hS11
    simp(disch:=omega) only[↓RA,RZ,simprocAttr,hn,g4,hS11.ae 4 rfl,q2,q3]
    refine hS11.aj [I i,I ((jB s.o.dvs i).lo+k)] wO a9i rfl rfl (by simp[Value.cells]) rfl rfl (by decide) (by decide) fun w1 H11 hS12=> ?_
    simp only[RT]at hS12
    simp(disch:=omega) only[↓RA,RZ,simprocAttr,hn,q2,q3]
    refine hS12.aq 2 rfl (hS12.rd 6 rfl) wO (by have h:=hroom;simp only[eL,eT];omega) fun w2 H12 hS13=> ?_
    simp only[RT]at hS13
    simp(disch:=omega) only[↓RA,RZ,simprocAttr,hn,g1,g2,g3,g5,g6,g21,g22,g23,g7,q2,q3]
    refine⟨n-1,by omega,k+1,a4X kvt ((i:Int),(jB s.o.dvs i).lo+(k:Int)) ((0:Nat):Int),w2,⟨by omega,?_⟩,by congr 1;omega,rfl,?_⟩
    ·rw[hfs,a0I,if_pos hne]
     exact hmd2.put hnm
    ·rw[hfs,a0I,if_pos hne,dY,mK]
     exact hS13.pick [0,1,2,3] (by decide) rfl
   have hno:stpL s ((i:Int),(jB s.o.dvs i).lo+(k:Int))=[]:=by
    apply fj
    intro h
    have:=fh.2 h
    omega
   simp(disch:=omega) only[↓RA,RZ,simprocAttr,hn,g1,g2,g3,g5,g6,g21,g22,g23,g7,g4,q2,q3]
   refine⟨n-1,by omega,k+1,kvt,ow,⟨by omega,?_⟩,by congr 1;omega,rfl,?_⟩
   ·rw[hfs,a0I,if_neg (by simp[hno]),dO]
    exact hmd2
   ·rw[hfs,a0I,if_neg (by simp[hno]),dO]
    exact hS10.pick [0,1,2,3] (by decide) rfl
  simp(disch:=omega) only[↓RA,RZ,simprocAttr,hn,g1,g2,g3,g21,g22,g23,g4,q2]
  have hkk:k=zR s.o i:=by omega
  refine⟨s.o.dvs.length-(i+1),by omega,i+1,kvt,ow,⟨by omega,?_⟩,by simp,rfl,?_⟩
  ·rw[←a1A,←hkk]
   exact hmd2
  ·rw[←a1A,←hkk]
   exact hS7.pick [0,1,2] (by decide) rfl
 have hii:i=s.o.dvs.length:=by omega
 have hfz:tU s ((List.range i).flatMap (tH s.o))=tU s (pM s.o):=by rw[hii];rfl
 rw[hfz]at hmd
 rw[hfz]at hS4
 simp(disch:=omega) only[↓RA,RC,simprocAttr,q1]
 refine Wp.ak (fun n l H'=>l.length=138∧get l 1=(ptr A1 0 10)∧get l 2=(.map none)∧get l 3=(.map (some M1))∧∃(h:Nat)(L:List (Ct×Nat))(kvu:List (Ct×Int))(ow:Value),(n+h=1100∧Bf s h L∧a5k s (1100-h) h L=rU s∧h≤L.length∧MapD kvu L)∧get l 4=ow∧St prog H H' [⟨ptr A1 0 10,0,[(.string s.o.name),s.o.rv,s.o.dv,s.o.cv,s.sv,(.int .u64 s.rg.cpl),(.int .u64 s.rg.off),s.kv,I s.p.1,I s.p.2]⟩,⟨.map (some M1),0,KN kvu⟩,⟨ow,2,pr ((L.map (·.1)).drop h)⟩]) 1100 ?_ ?_
 ·simp(disch:=omega) only[RB,RC,simprocAttr,hn,g1,g2,g3,g4]
  exact⟨0,tU s (pM s.o),kvs,ov,⟨by omega,a7M,rfl,fA _,hmd⟩,rfl,hS4⟩
 rintro n l H13⟨hn,g1,g2,g3,h,L,kvu,ow,⟨hn1,hB,hR,hle,hM⟩,g4,hS14⟩
 have hlq:((L.map (·.1)).drop h).length=L.length-h:=by simp
 simp(disch:=omega) only[↓RA,RZ,simprocAttr,hn,g4,(hS14.az 2 rfl lG).len]
 refine jA (fun q1=> ?_) (fun q1=> ?_)
 ·have hhl:h<L.length:=by omega
  have hlL:=hB.len hf
  obtain⟨c,hcE⟩:∃c,jB L h=c:=⟨_,rfl⟩
  have hx0:jB ((L.map (·.1)).drop h) 0=c.1:=by
   rw[jR _ _ (by omega),List.getElem_drop,jm,←jR _ _ (by omega:h+0<L.length),iu,hcE]
  have hcl:c.2≤h:=by rw[←hcE];exact hB.lt h hhl
  have hdq:(pr ((L.map (·.1)).drop h)).drop (1*2)=pr ((L.map (·.1)).drop (h+1)):=c0u _ _
  simp(disch:=omega) only[↓RA,RZ,simprocAttr,hn,g4,(hS14.az 2 rfl lG).idx,(hS14.az 2 rfl lG).ae,mJ,q1,hx0]
  refine hS14.eNew 2 [I 0,I 0] rfl rfl rfl mP fun A4 H14 hS15=> ?_
  simp only[RT]at hS15
  simp(disch:=omega) only[↓RA,RZ,simprocAttr,hn,q1]
  refine hS15.aa 3 rfl [I c.1.1,I c.1.2] rfl rfl mP (by simp) fun H15 hS16=> ?_
  simp only[RT]at hS16
  simp(disch:=omega) only[↓RA,RZ,simprocAttr,hn,g1,g4,(hS16.az 2 rfl lG).aF,q1]
  have hS17:=hS16.suffix (size:=1) 2 rfl (n:=((L.map (·.1)).drop h).length) (by rw[jN]) 1 (by omega) (by omega)
  simp only[RT]at hS17
  rw[hdq]at hS17
  simp(disch:=omega) only[↓RA,RZ,simprocAttr,hn,hS17.ld 0 rfl,(hS17.sl hs.o.2.2.2.2.1).len,q1]
  refine Wp.ak (fun n l H'=>l.length=138∧get l 1=(ptr A1 0 10)∧get l 2=(.map none)∧get l 3=(.map (some M1))∧get l 9=(ptr A4 0 2)∧get l 63=s.o.cv∧get l 64=I s.o.cpls.length∧∃(i:Nat)(kvv:List (Ct×Int))(oz:Value),(n+i=s.o.cpls.length∧MapD kvv (mW s c L i))∧get l 65=I i∧get l 4=oz∧St prog H H' [⟨ptr A1 0 10,0,[(.string s.o.name),s.o.rv,s.o.dv,s.o.cv,s.sv,(.int .u64 s.rg.cpl),(.int .u64 s.rg.off),s.kv,I s.p.1,I s.p.2]⟩,⟨.map (some M1),0,KN kvv⟩,⟨oz,2,pr (((mW s c L i).map (·.1)).drop (h+1))⟩,⟨ptr A4 0 2,0,[I c.1.1,I c.1.2]⟩]) s.o.cpls.length ?_ ?_
  ·simp(disch:=omega) only[RB,RC,simprocAttr,hn,g1,g2,g3]
   exact⟨0,kvu,lP ow 2 1 (((L.map (·.1)).drop h).length-1),⟨by omega,hM⟩,rfl,by rw[show(((((L.map (·.1)).drop h).length:Nat):Int)-1).toNat=((L.map (·.1)).drop h).length-1 from by omega],hS17⟩
  rintro n l H16⟨hn,g1,g2,g3,g9,g63,g64,i,kvv,oz,⟨hi,hmd3⟩,g65,g4,hS18⟩
  simp(disch:=omega) only[↓RA,RB,simprocAttr,hn,g64,g65]
  refine jA (fun q2=> ?_) (fun q2=> ?_)
  ·have hil:i<s.o.cpls.length:=by omega
   have hgB:=Bg.all hf hB hhl i (by omega)
   rw[hcE]at hgB
   have hsu:=a2x s c L i
   obtain⟨a,ha,hal⟩:=c6c hf.o hil
   have hka:=hfi.keys a hal
   have hfr:frm (jB s.o.cpls i) c.1=((a:Int),vS (c.1.2-(jB s.o.cpls i).shift)):=by unfold frm;rw[ha]
   have hML:=hgB.bf.len hf
   simp(disch:=omega) only[↓RA,RZ,simprocAttr,hn,g63,g65,(hS18.sl hs.o.2.2.2.2.1).idx,(hS18.sl hs.o.2.2.2.2.1).ae,Cpl.cells,q2]
   refine hS18.eNew 5 [(.string ⟨#[]⟩),I 0,I 0,I 0,(.bool false)] rfl rfl rfl zP fun A5 H17 hS19=> ?_
   simp only[RT]at hS19
   simp(disch:=omega) only[↓RA,RZ,simprocAttr,hn,q2]
   refine hS19.aa 4 rfl [(.string (jB s.o.cpls i).name),I (jB s.o.cpls i).src,I (jB s.o.cpls i).dst,I (jB s.o.cpls i).shift,(.bool (jB s.o.cpls i).thr)] rfl rfl zP (by simp) fun H18 hS20=> ?_
   simp only[RT]at hS20
   simp(disch:=omega) only[↓RA,RZ,simprocAttr,hn,g9,hS20.ld 4 rfl,hS20.ld 3 rfl,q2]
   refine jA (fun q3=> ?_) (fun q3=> ?_)
   ·have hb0:tD s c.1 i=false:=by unfold tD;rw[decide_eq_false q3];rfl
    simp(disch:=omega) only[↓RA,RZ,simprocAttr,hn,g1,g2,g3,g9,g63,g64,g65,g4,q2,q3]
    refine⟨n-1,by omega,i+1,kvv,oz,⟨by omega,by rw[hsu,rK hb0];exact hmd3⟩,by simp,rfl,?_⟩
    rw[hsu,rK hb0]
    exact hS20.pick [0,1,2,3] (by decide) rfl
   simp(disch:=omega) only[↓RA,RZ,simprocAttr,hn,q2,q3,ha]
   simp(disch:=omega) only[↓RA,RZ,simprocAttr,hn,g9,hS20.ld 4 rfl,hS20.ld 3 rfl,a0u,q2,q3,ha]
   refine hS20.eNew 2 [I 0,I 0] rfl rfl rfl mP fun A6 H19 hS21=> ?_
   simp only[RT]at hS21
   simp(disch:=omega) only[↓RA,RZ,simprocAttr,hn,q2,q3,ha]
   refine hS21.aa 5 rfl [I a,_] rfl rfl mP (by simp) fun H20 hS22=> ?_
   simp only[RT]at hS22
   simp(disch:=omega) only[↓RA,RZ,simprocAttr,hn,g1,hS22.ld 0 rfl,hS22.ld 4 rfl,(hS22.sl hs.o.2.2.1).idx,(hS22.sl hs.o.2.2.1).aZ,(hS22.sl hs.o.2.2.1).cK 2,Dvn.cells,q2,q3,ha]
   refine hS22.eNew 2 [I 0,I 0] rfl rfl rfl rZ fun A7 H21 hS23=> ?_
   simp only[RT]at hS23
   simp(disch:=omega) only[↓RA,RZ,simprocAttr,hn,q2,q3,ha]
   refine hS23.aa 6 rfl [I (jB s.o.dvs a).lo,I (jB s.o.dvs a).hi] rfl rfl rZ (by simp) fun H22 hS24=> ?_
   simp only[RT]at hS24
   simp(disch:=omega) only[↓RA,RZ,simprocAttr,hn,hS24.ld 5 rfl,hS24.ld 6 rfl,q2,q3,ha]
   refine jL (fun q4=> ?_) (fun q4=> ?_)
   ·have hb0:tD s c.1 i=false:=a5Q (by rw[hfr,gx];intro h;have:=(lF s.o ((a:Int),vS (c.1.2-(jB s.o.cpls i).shift))).1 h;simp only[eh,vS]at this;omega)
    simp(disch:=omega) only[↓RA,RZ,simprocAttr,hn,g1,g2,g3,g9,g63,g64,g65,g4,q2,q3,ha,q4]
    refine⟨n-1,by omega,i+1,kvv,oz,⟨by omega,by rw[hsu,rK hb0];exact hmd3⟩,by simp,rfl,?_⟩
    rw[hsu,rK hb0]
    exact hS24.pick [0,1,2,3] (by decide) rfl
   simp(disch:=omega) only[↓RA,RZ,simprocAttr,hn,hS24.ld 5 rfl,hS24.ld 6 rfl,q2,q3,ha,q4]
   refine jA (fun q5=> ?_) (fun q5=> ?_)
   ·have hb0:tD s c.1 i=false:=a5Q (by rw[hfr,gx];intro h;have:=(lF s.o ((a:Int),vS (c.1.2-(jB s.o.cpls i).shift))).1 h;simp only[eh,vS]at this;omega)
    simp(disch:=omega) only[↓RA,RZ,simprocAttr,hn,g1,g2,g3,g9,g63,g64,g65,g4,q2,q3,ha,q4,q5]
    refine⟨n-1,by omega,i+1,kvv,oz,⟨by omega,by rw[hsu,rK hb0];exact hmd3⟩,by simp,rfl,?_⟩
    rw[hsu,rK hb0]
    exact hS24.pick [0,1,2,3] (by decide) rfl
   have hoy:nB s.o ((a:Int),vS (c.1.2-(jB s.o.cpls i).shift))=true:=by
    rw[lF]
    simp only[eh,vS]
    omega
   have hbc:tD s c.1 i=(ldB s i ((a:Int),vS (c.1.2-(jB s.o.cpls i).shift)) false&&decide (stC s i ((a:Int),vS (c.1.2-(jB s.o.cpls i).shift))=c.1)):=by
    unfold tD
    rw[hfr,hoy,decide_eq_true (dX.1 q3)]
    simp only[gm]
   have hkn:=hmd3 ((a:Int),vS (c.1.2-(jB s.o.cpls i).shift))
   have hkc:zA kvv c.1=some ((c.2:Nat):Int):=by
    have hcm:c∈mW s c L i:=by
     have h:=jE hgB.hh
     rw[hgB.hc]at h
     exact h
    rw[hmd3 c.1,(a1a hgB.bf.nd).2 (show(c.1,c.2)∈mW s c L i from hcm)]
    rfl
   simp(disch:=omega) only[↓RA,RZ,simprocAttr,hn,g1,hS24.ae 0 rfl,hS24.ae 5 rfl,q2,q3,ha,q4,q5]
   refine hS24.cF (vF s (hs.ag hS24) hf i ((a:Int),vS (c.1.2-(jB s.o.cpls i).shift)) false) fun H23 hS25=> ?_
   simp(disch:=omega) only[↓RA,RZ,simprocAttr,hn,q2,q3,ha,q4,q5]
   refine hS25.eNew 2 [I 0,I 0] rfl rfl rfl mP fun A8 H24 hS26=> ?_
   simp only[RT]at hS26
   simp(disch:=omega) only[↓RA,RZ,simprocAttr,hn,q2,q3,ha,q4,q5]
   refine hS26.aa 7 rfl [I (stC s i ((a:Int),vS (c.1.2-(jB s.o.cpls i).shift))).1,I (stC s i ((a:Int),vS (c.1.2-(jB s.o.cpls i).shift))).2] rfl rfl mP (by simp) fun H25 hS27=> ?_
   simp only[RT]at hS27
   simp(disch:=omega) only[↓RA,RZ,simprocAttr,hn,g3,hS27.ae 5 rfl,q2,q3,ha,q4,q5]
   refine hS27.aX (k:=((a:Int),vS (c.1.2-(jB s.o.cpls i).shift))) 1 rfl wX (fun _=>rfl) ?_
   simp(disch:=omega) only[↓RA,RZ,simprocAttr,hn,q2,q3,ha,q4,q5]
   refine lI (fun q6=> ?_) (fun q6=> ?_)
   ·simp(disch:=omega) only[↓RA,RZ,simprocAttr,hn,g9,hS27.ae 7 rfl,hS27.ae 3 rfl,q2,q3,ha,q4,q5,q6]
    refine jW (fun q7=> ?_) (fun q7=> ?_)
    ·have q7':stC s i ((a:Int),vS (c.1.2-(jB s.o.cpls i).shift))=c.1:=iJ q7.1 q7.2
     simp(disch:=omega) only[↓RA,RZ,simprocAttr,hn,q2,q3,ha,q4,q5,q6,q7]
     refine kA (fun q8=> ?_) (fun q8=> ?_)
     ·have hnm:((a:Int),vS (c.1.2-(jB s.o.cpls i).shift))∉(mW s c L i).map (·.1):=by
       rw[←a1z]
       cases hd:qY (mW s c L i) ((a:Int),vS (c.1.2-(jB s.o.cpls i).shift))with
       | none=>rfl
       | some z=>rw[hd]at hkn;rw[hkn]at q8;simp at q8
      have hyes:wI s c (mW s c L i) i=mW s c L i++[(((a:Int),vS (c.1.2-(jB s.o.cpls i).shift)),c.2+1)]:=by
       unfold wI
       rw[hbc,hfr,q6,decide_eq_true q7',decide_eq_false hnm]
       rfl
      have hput:=hmd3.put (n:=c.2+1) hnm
      have hcast:((c.2+1:Nat):Int)=(c.2:Int)+1:=by omega
      rw[hcast]at hput
      simp(disch:=omega) only[↓RA,RZ,simprocAttr,q2,q3,ha,q4,q5,q6,q7,q8]
      refine Wp.drw kQ (by kernel_rfl) ?_
      simp(disch:=omega) only[↓RA,RZ,simprocAttr,hn,g3,g9,hS27.ae 5 rfl,hS27.ae 3 rfl]
      refine hS27.aX (k:=c.1) 1 rfl wX (fun _=>rfl) ?_
      simp(disch:=omega) only[↓RA,RB,simprocAttr,hn,hkc]
      refine hS27.cD (k:=((a:Int),vS (c.1.2-(jB s.o.cpls i).shift))) 1 rfl wX fun H26 hS28=> ?_
      simp only[RT]at hS28
      simp(disch:=omega) only[↓RA,RZ,simprocAttr,hn,g4,hS28.ae 5 rfl,hkc]
      refine hS28.aj [I a,_] wO a9i rfl rfl (by simp[Value.cells]) rfl rfl (by decide) (by decide) fun w3 H27 hS29=> ?_
      simp only[RT]at hS29
      simp(disch:=omega) only[↓RA,RZ,simprocAttr,hn,hkc]
      refine hS29.aq 2 rfl (hS29.rd 8 rfl) wO (by rw[jN];simp;omega) fun w4 H28 hS30=> ?_
      simp only[RT]at hS30
      simp(disch:=omega) only[↓RA,RZ,simprocAttr,hn,g1,g2,g3,g9,g63,g64,g65,hkc]
      have hwr:IntKind.wrap .i64 ((some (c.2:Int)).getD 0+1)=(c.2:Int)+1:=a3J (a:=(c.2:Int)+1) (by omega) (by omega)
      rw[hwr]at hS30
      refine⟨n-1,by omega,i+1,a4X kvv ((a:Int),vS (c.1.2-(jB s.o.cpls i).shift)) ((c.2:Int)+1),w4,⟨by omega,by rw[hsu,hyes];exact hput⟩,by simp,rfl,?_⟩
      rw[hsu,hyes,dY,ir (by rw[dU];have:=hgB.hh;omega),mK]
      exact hS30.pick [0,1,2,3] (by decide) rfl
     have hno:wI s c (mW s c L i) i=mW s c L i:=by
      have hym:((a:Int),vS (c.1.2-(jB s.o.cpls i).shift))∈(mW s c L i).map (·.1):=by
       apply fj
       intro hne
       rw[a1z.2 hne]at hkn
       rw[hkn]at q8
       simp at q8
      unfold wI
      rw[hfr,decide_eq_true hym]
      simp
     simp(disch:=omega) only[↓RA,RZ,simprocAttr,hn,g1,g2,g3,g9,g63,g64,g65,g4,q2,q3,ha,q4,q5,q6,q7,q8]
     refine⟨n-1,by omega,i+1,kvv,oz,⟨by omega,by rw[hsu,hno];exact hmd3⟩,by simp,rfl,?_⟩
     rw[hsu,hno]
     exact hS27.pick [0,1,2,3] (by decide) rfl
    have hno:wI s c (mW s c L i) i=mW s c L i:=rK (by rw[hbc,decide_eq_false (fun e=>q7 ⟨congrArg Prod.fst e,congrArg Prod.snd e⟩)];simp)
    simp(disch:=omega) only[↓RA,RZ,simprocAttr,hn,g1,g2,g3,g9,g63,g64,g65,g4,q2,q3,ha,q4,q5,q6,q7]
    refine⟨n-1,by omega,i+1,kvv,oz,⟨by omega,by rw[hsu,hno];exact hmd3⟩,by simp,rfl,?_⟩
    rw[hsu,hno]
    exact hS27.pick [0,1,2,3] (by decide) rfl
   have hno:wI s c (mW s c L i) i=mW s c L i:=rK (by rw[hbc,show ldB s i ((a:Int),vS (c.1.2-(jB s.o.cpls i).shift)) false=false from by simpa using q6];rfl)
   simp(disch:=omega) only[↓RA,RZ,simprocAttr,hn,g1,g2,g3,g9,g63,g64,g65,g4,q2,q3,ha,q4,q5,q6]
   refine⟨n-1,by omega,i+1,kvv,oz,⟨by omega,by rw[hsu,hno];exact hmd3⟩,by simp,rfl,?_⟩
   rw[hsu,hno]
   exact hS27.pick [0,1,2,3] (by decide) rfl
  have hil:i=s.o.cpls.length:=by omega
  simp(disch:=omega) only[↓RA,RZ,simprocAttr,hn,g1,g2,g3,g4,q2]
  refine⟨1100-(h+1),by omega,h+1,mW s c L i,kvv,oz,⟨by omega,?_,?_,?_,hmd3⟩,rfl,hS18.pick [0,1,2] (by decide) rfl⟩
  ·rw[hil,←hcE];exact hB.next hf hhl
  ·rw[hil,←hR,show 1100-h=(1100-(h+1))+1 from by omega,a5k,if_pos hhl,hcE]
  ·have:=(Bg.all hf hB hhl i (by omega)).hh
   rw[hcE]at this
   exact this
 have hfin:rU s=L:=by
  rw[←hR]
  cases h2:1100-h with
  | zero=>rfl
  | succ k=>rw[a5k,if_neg (by omega)]
 simp(disch:=omega) only[↓RA,RZ,simprocAttr,hn,g3,d0W,q1]
 exact⟨M1,kvu,rfl,by rw[hfin];exact hM,hS14.pick [1] (by decide) rfl⟩
end Go.Ds
namespace Go.Ds
open Go
section
variable {P:Program} {H:Heap}
def c9s:List Unit→Code→Code
 | _::us,.seq a b=>.seq a (c9s us b)
 | _,_=>.skip
def d0h:List Unit→Code→Code
 | _::us,.seq _ b=>d0h us b
 | _,c=>c
theorem a9v(I:List Value→Heap→Prop):∀(us:List Unit)(c:Code){l:List Value}{H:Heap}{Q:oH},(∀l H,I l H→SWr P (d0h us c) l H Q)→SWr P (c9s us c) l H (b5Q I Q)→SWr P c l H Q:=by
 intro us
 induction us with
 | nil=>
   intro c l H Q hm h
   cases c<;>exact hm _ _ h
 | cons u us ih=>
   intro c l H Q hm h
   cases c with
   | seq a b=>
     refine SWr.mono a ?_ h
     intro e l1 H1 h1
     cases e with
     | normal=>exact ih b hm h1
     | exit i=>exact h1
     | ret=>exact h1
   | _=>exact hm _ _ h
variable {a b c d e f g h:Code} {l:List Value} {Q:oH}
theorem c2D(I:List Value→Heap→Prop)(hm:∀l H,I l H→SW P c l H Q)(hh:SW P (.seq a (.seq b .skip)) l H (b5Q I Q)):SW P (.seq a (.seq b c)) l H Q:=a9v I [(),()] _ hm hh
theorem b4k(I:List Value→Heap→Prop)(hm:∀l H,I l H→SW P d l H Q)(hh:SW P (.seq a (.seq b (.seq c .skip))) l H (b5Q I Q)):SW P (.seq a (.seq b (.seq c d))) l H Q:=a9v I [(),(),()] _ hm hh
end
end Go.Ds
namespace Go.Ds
open Go.Proofs Go.Proofs.Tryz
variable {H:Heap}
set_option maxRecDepth 10000
set_option maxHeartbeats 1000000
def mH(s:Sn)(i:Nat)(c:Ct)(f:Bool):Option Nat:=if ldB s i c f then qY (rU s) (stC s i c)else none
def oG(s:Sn)(c:Ct):Nat→Option (Nat×Nat)
 | 0=>none
 | n+1=>match mH s n c true,oG s c n with
   | none,b=>b
   | some d,none=>some (d,n)
   | some d,some b=>if d<b.1 then some (d,n)else some b
def a3S(s:Sn)(n:Nat)(c:Ct):Option Nat:=(List.range s.o.cpls.length).find? fun i=>decide (mH s i c false=some n)
def wV(s:Sn):Nat→Ct→List Int×Ct
 | 0,c=>([],c)
 | n+1,c=>match a3S s n c with
   | none=>([],c)
   | some i=>((i:Int)::(wV s n (stC s i c)).1,(wV s n (stC s i c)).2)
def oT(s:Sn)(c:Ct):Option (List Int×Ct):=
 if qY (rU s) c=some 0∧rY s c.1=false then some ([],c)else match oG s c s.o.cpls.length with
  | none=>none
  | some (d,i)=>some ((i:Int)::(wV s d (stC s i c)).1,(wV s d (stC s i c)).2)
def nT(s:Sn)(c:Ct)(cv:Value):Rn:=match oT s c with
 | none=>⟨(0,0),cv,[],(0,0),0⟩
 | some (l,e)=>⟨c,cv,l,e,jB (stpL s e) 0⟩
theorem sW{s:Sn}(hf:s.Fit){i:Nat}{c:Ct}{f:Bool}{d:Nat}(h:mH s i c f=some d):ldB s i c f=true∧Far s (stC s i c) d:=by
 unfold mH at h
 split at h
 ·rename_i h1;exact⟨h1,(qD hf).1 h⟩
 ·cases h
theorem rM{s:Sn}{c:Ct}:∀{n:Nat}{d i:Nat},oG s c n=some (d,i)→i<n∧mH s i c true=some d
 | 0,d,i,h=>by unfold oG at h;cases h
 | n+1,d,i,h=>by
   unfold oG at h
   cases h1:mH s n c true with
   | none=>
     rw[h1]at h
     have:=rM h
     exact⟨by omega,this.2⟩
   | some e=>
     rw[h1]at h
     cases h2:oG s c n with
     | none=>
       rw[h2]at h
       injection h with h
       obtain⟨rfl,rfl⟩:=ig h
       exact⟨by omega,h1⟩
     | some b=>
       rw[h2]at h
       simp only at h
       split at h
       ·injection h with h
        obtain⟨rfl,rfl⟩:=ig h
        exact⟨by omega,h1⟩
       ·injection h with h
        subst h
        have:=rM h2
        exact⟨by omega,this.2⟩
theorem Far.lt{s:Sn}(hf:s.Fit){c:Ct}{n:Nat}(h:Far s c n):n<1024:=by
 obtain⟨k,b,hk⟩:=a6S hf 1100 0 _ a7M (by decide)
 have hd:=(a1a b.nd).1 ((qD hf).2 h)
 obtain⟨j,hj,e⟩:=eF.1 hd
 have h1:=b.lt j hj
 rw[jR _ _ hj,e]at h1
 have h2:=b.len hf
 simp only at h1
 omega
theorem Far.dw{s:Sn}(hf:s.Fit){c:Ct}{n:Nat}(h:Far s c (n+1)):∃i,i<s.o.cpls.length∧mH s i c false=some n:=by
 cases h.1 with
 | succ ho hx hr=>
   obtain⟨i,hi,h1,rfl⟩:=hx
   refine⟨i,hi,?_⟩
   unfold mH
   rw[if_pos h1,qD hf]
   refine⟨hr,fun m hm=> ?_⟩
   have:=h.2 (m+1) (.succ ho ⟨i,hi,h1,rfl⟩ hm)
   omega
theorem c2e{s:Sn}{n:Nat}{c:Ct}{i:Nat}(hi:i<s.o.cpls.length)(h:mH s i c false=some n)(h0:∀q,q<i→mH s q c false≠some n):a3S s n c=some i:=by
 unfold a3S
 rw[im]
 refine⟨by simpa using h,i,by simpa using hi,by simp,fun q hq=> ?_⟩
 simpa using h0 q hq
def xW(b:Option (Nat×Nat))(bb ff:Int):Prop:=match b with
 | none=>ff=-1
 | some (d,i)=>bb=d∧ff=i
theorem a5x{s:Sn}{c:Ct}{j d:Nat}{bb ff:Int}(h:xW (oG s c j) bb ff)(hn:mH s j c true=some d)(hl:ff<0∨(d:Int)<bb):xW (oG s c (j+1)) d j:=by
 unfold oG
 rw[hn]
 cases h2:oG s c j with
 | none=>exact⟨rfl,rfl⟩
 | some b=>
   rw[h2]at h
   obtain⟨b1,b2⟩:=b
   simp only[xW]at h
   simp only
   rw[if_pos (by omega)]
   exact⟨rfl,rfl⟩
theorem a3F{s:Sn}{c:Ct}{j:Nat}{bb ff:Int}(h:xW (oG s c j) bb ff)(hl:∀d,mH s j c true=some d→¬(ff<0∨(d:Int)<bb)):xW (oG s c (j+1)) bb ff:=by
 unfold oG
 cases hn:mH s j c true with
 | none=>exact h
 | some d=>
   have hl:=hl d hn
   cases h2:oG s c j with
   | none=>
     rw[h2]at h
     simp only[xW]at h
     omega
   | some b=>
     rw[h2]at h
     obtain⟨b1,b2⟩:=b
     simp only[xW]at h
     simp only
     rw[if_neg (by omega)]
     exact h
theorem a0S{s:Sn}{kvs:List (Ct×Int)}(hD:MapD kvs (rU s)){t:Ct}(h:(zA kvs t).isSome=true):∃d:Nat,qY (rU s) t=some d∧zA kvs t=some (d:Int):=by
 have:=hD t
 cases hd:qY (rU s) t with
 | none=>rw[hd]at this;rw[this]at h;cases h
 | some d=>rw[hd]at this;exact⟨d,rfl,this⟩
theorem a3b{s:Sn}{kvs:List (Ct×Int)}(hD:MapD kvs (rU s)){t:Ct}(h:(zA kvs t).isSome=false):qY (rU s) t=none:=by
 have:=hD t
 cases hd:qY (rU s) t with
 | none=>rfl
 | some d=>rw[hd]at this;rw[this]at h;cases h
theorem xJ{s:Sn}(hf:s.Fit){i:Nat}{c:Ct}{f:Bool}(h:ldB s i c f=true):nB s.o (stC s i c)=true:=by
 have h5:=vR.1 h
 obtain⟨h6,h7,_⟩:=tN h5.1
 have hc:=Org.bk hf.o (j:=(i:Int).toNat) (by omega)
 rw[stC,if_pos h5.1,lF]
 exact⟨hc.2.1.1,hc.2.1.2,h5.2.2.2.1,h5.2.2.2.2⟩
theorem a8n(s:Sn)(hs:s.In H)(hf:s.Fit)(c:Ct)(hc:nB s.o c=true)(M:Nat)(kvs:List (Ct×Int))(hM:OwnAt prog H ⟨.map (some M),0,KN kvs⟩)(hD:MapD kvs (rU s)):
 Fn prog 54 [s.v,.agg #[I c.1,I c.2],.map (some M)] H fun r H'=>∃cv,r=.tuple #[(nT s c cv).v,.bool (oT s c).isSome]∧St prog H H' [⟨cv,1,(nT s c cv).cps.flatMap (one I)⟩]:=by
 have hcl:=hf.aK.clen
 refine .cJ func54 rfl (by kernel_rfl) (m:=157) rfl fun l hn g0 g1 g2=> ?_
 refine b4k (fun l H'=>l.length=157∧get l 2=(.map (some M))∧∃(V1 V2 V3 V4:Nat),(¬(qY (rU s) c=some 0∧rY s c.1=false))∧get l 3=(ptr V1 0 10)∧get l 4=(ptr V2 0 2)∧get l 6=(ptr V3 0 6)∧get l 7=(.bool false)∧get l 8=(ptr V4 0 6)∧St prog H H' [⟨ptr V1 0 10,0,[(.string s.o.name),s.o.rv,s.o.dv,s.o.cv,s.sv,(.int .u64 s.rg.cpl),(.int .u64 s.rg.off),s.kv,I s.p.1,I s.p.2]⟩,⟨ptr V2 0 2,0,[I c.1,I c.2]⟩,⟨ptr V3 0 6,0,[I 0,I 0,(.slice none 0 0),I 0,I 0,I 0]⟩,⟨ptr V4 0 6,0,[I c.1,I c.2,(.slice none 0 0),I c.1,I c.2,I 0]⟩]) ?_ ?_
 ·rintro l H1⟨hn,g2,V1,V2,V3,V4,hno,g3,g4,g6,g7,g8,hS1⟩
  have hW:oT s c=match oG s c s.o.cpls.length with|none=>none|some (d,i)=>some ((i:Int)::(wV s d (stC s i c)).1,(wV s d (stC s i c)).2):=by unfold oT;rw[if_neg hno]
  simp(disch:=omega) only[↓RA,RZ,simprocAttr,hn,g3,hS1.ld 0 rfl,(hS1.sl hs.o.2.2.2.2.1).len]
  refine Wp.ak (fun n l H'=>l.length=157∧get l 2=(.map (some M))∧get l 3=(ptr V1 0 10)∧get l 4=(ptr V2 0 2)∧get l 6=(ptr V3 0 6)∧get l 7=(.bool false)∧get l 8=(ptr V4 0 6)∧get l 54=I s.o.cpls.length∧∃(j:Nat)(bb:Int)(ff:Int),(n+j=s.o.cpls.length∧xW (oG s c j) bb ff)∧get l 55=I j∧get l 11=I bb∧get l 12=I ff∧St prog H H' [⟨ptr V1 0 10,0,[(.string s.o.name),s.o.rv,s.o.dv,s.o.cv,s.sv,(.int .u64 s.rg.cpl),(.int .u64 s.rg.off),s.kv,I s.p.1,I s.p.2]⟩,⟨ptr V2 0 2,0,[I c.1,I c.2]⟩,⟨ptr V3 0 6,0,[I 0,I 0,(.slice none 0 0),I 0,I 0,I 0]⟩,⟨ptr V4 0 6,0,[I c.1,I c.2,(.slice none 0 0),I c.1,I c.2,I 0]⟩]) s.o.cpls.length ?_ ?_
  ·simp(disch:=omega) only[RB,RC,simprocAttr,hn,g2,g3,g4,g6,g7,g8]
   exact⟨0,0,-1,⟨by omega,rfl⟩,rfl,rfl,rfl,hS1⟩
  rintro n l H2⟨hn,g2,g3,g4,g6,g7,g8,g54,j,bb,ff,⟨hj,hb⟩,g55,g11,g12,hS2⟩
  simp(disch:=omega) only[↓RA,RB,simprocAttr,hn,g54,g55]
  refine jA (fun q1=> ?_) (fun q1=> ?_)
  ·simp(disch:=omega) only[↓RA,RZ,simprocAttr,hn,g3,g4,g55,hS2.ae 0 rfl,hS2.ae 1 rfl,q1]
   refine hS2.cF (vF s (hs.ag hS2) hf j c true) fun H3 hS3=> ?_
   simp(disch:=omega) only[↓RA,RZ,simprocAttr,hn,q1]
   refine hS3.eNew 2 [I 0,I 0] rfl rfl rfl mP fun A1 H4 hS4=> ?_
   simp only[RT]at hS4
   simp(disch:=omega) only[↓RA,RZ,simprocAttr,hn,q1]
   refine hS4.aa 4 rfl [I (stC s j c).1,I (stC s j c).2] rfl rfl mP (by simp) fun H5 hS5=> ?_
   simp only[RT]at hS5
   simp(disch:=omega) only[↓RA,RZ,simprocAttr,hn,g2,hS5.ae 4 rfl,q1]
   refine(St.aT ((hM.st hS5))).aX (k:=stC s j c) 0 rfl wX (fun _=>rfl) ?_
   simp(disch:=omega) only[↓RA,RZ,simprocAttr,hn,q1]
   refine lI (fun q2=> ?_) (fun q2=> ?_)
   ·simp(disch:=omega) only[↓RA,RZ,simprocAttr,hn,q1,q2]
    refine lI (fun q3=> ?_) (fun q3=> ?_)
    ·obtain⟨d,hd1,hd2⟩:=a0S hD q3
     have hnr:mH s j c true=some d:=by unfold mH;rw[if_pos q2,hd1]
     have hs1:(some (d:Int)).isSome=true:=rfl
     have hs2:(some (d:Int)).getD 0=d:=rfl
     simp(disch:=omega) only[↓RA,RZ,simprocAttr,hn,g12,q1,q2,hd2,hs1,hs2]
     refine jL (fun q4=> ?_) (fun q4=> ?_)
     ·simp(disch:=omega) only[↓RA,RZ,simprocAttr,hn,g2,g3,g4,g6,g7,g8,g54,g55,q1,q2,hd2,hs1,hs2,q4]
      exact⟨n-1,by omega,j+1,(d:Int),(j:Int),⟨by omega,a5x hb hnr (.inl q4)⟩,by simp,rfl,rfl,hS5.pick [0,1,2,3] (by decide) rfl⟩
     simp(disch:=omega) only[↓RA,RZ,simprocAttr,hn,g11,q1,q2,hd2,hs1,hs2,q4]
     refine jA (fun q5=> ?_) (fun q5=> ?_)
     ·simp(disch:=omega) only[↓RA,RZ,simprocAttr,hn,g2,g3,g4,g6,g7,g8,g54,g55,q1,q2,hd2,hs1,hs2,q4,q5]
      exact⟨n-1,by omega,j+1,(d:Int),(j:Int),⟨by omega,a5x hb hnr (.inr q5)⟩,by simp,rfl,rfl,hS5.pick [0,1,2,3] (by decide) rfl⟩
     simp(disch:=omega) only[↓RA,RZ,simprocAttr,hn,g2,g3,g4,g6,g7,g8,g54,g55,g11,g12,q1,q2,hd2,hs1,hs2,q4,q5]
     exact⟨n-1,by omega,j+1,bb,ff,⟨by omega,a3F hb fun e he=>by rw[hnr]at he;cases he;rintro(h|h);(· exact q4 h);(· exact q5 h)⟩,by simp,rfl,rfl,hS5.pick [0,1,2,3] (by decide) rfl⟩
    have hd0:=a3b hD (t:=stC s j c) (by simpa using q3)
    simp(disch:=omega) only[↓RA,RZ,simprocAttr,hn,g2,g3,g4,g6,g7,g8,g54,g55,g11,g12,q1,q2,q3]
    exact⟨n-1,by omega,j+1,bb,ff,⟨by omega,a3F hb fun e he=>by unfold mH at he;rw[if_pos q2,hd0]at he;cases he⟩,by simp,rfl,rfl,hS5.pick [0,1,2,3] (by decide) rfl⟩
   simp(disch:=omega) only[↓RA,RZ,simprocAttr,hn,g2,g3,g4,g6,g7,g8,g54,g55,g11,g12,q1,q2]
   exact⟨n-1,by omega,j+1,bb,ff,⟨by omega,a3F hb fun e he=>by unfold mH at he;rw[if_neg (by simpa using q2)]at he;cases he⟩,by simp,rfl,rfl,hS5.pick [0,1,2,3] (by decide) rfl⟩
  have hjj:j=s.o.cpls.length:=by omega
  rw[hjj]at hb
  simp(disch:=omega) only[↓RA,RZ,simprocAttr,hn,g12,q1]
  refine jA (fun q6=> ?_) (fun q6=> ?_)
  ·have hW0:oT s c=none:=by
    rw[hW]
    cases h2:oG s c s.o.cpls.length with
    | none=>rfl
    | some b=>obtain⟨b1,b2⟩:=b;rw[h2]at hb;simp only[xW]at hb;omega
   simp(disch:=omega) only[↓RA,RZ,simprocAttr,hn,g6,c5i,q1,q6]
   refine hS2.aa 2 rfl [I 0,I 0,(.slice none 0 0),I 0,I 0,I 0] rfl rfl pV (by simp) fun H6 hS6=> ?_
   simp only[RT]at hS6
   simp(disch:=omega) only[↓RA,RZ,simprocAttr,hn,g6,c7U,hS6.ae 2 rfl,q1,q6]
   refine⟨.slice none 0 0,by unfold nT;rw[hW0];rfl,?_⟩
   unfold nT
   rw[hW0]
   exact(hS6.forget).nil 0
  obtain⟨d,i,h2,rfl,rfl⟩:∃d i:Nat,oG s c s.o.cpls.length=some (d,i)∧bb=d∧ff=i:=by
   cases h2:oG s c s.o.cpls.length with
   | none=>rw[h2]at hb;simp only[xW]at hb;omega
   | some b=>obtain⟨b1,b2⟩:=b;rw[h2]at hb;simp only[xW]at hb;exact⟨b1,b2,rfl,hb.1,hb.2⟩
  obtain⟨hil,hni⟩:=rM h2
  obtain⟨hld,hfar⟩:=sW hf hni
  have hW1:oT s c=some ((i:Int)::(wV s d (stC s i c)).1,(wV s d (stC s i c)).2):=by rw[hW,h2]
  simp(disch:=omega) only[↓RA,RZ,simprocAttr,hn,g12,q1,q6]
  refine hS2.aj [I i] uE a2h rfl rfl (by simp[Value.cells]) rfl rfl (by decide) (by decide) fun w1 H7 hS7=> ?_
  simp only[RT]at hS7
  simp(disch:=omega) only[↓RA,RZ,simprocAttr,hn,g8,q1,q6]
  refine hS7.aa 3 rfl [w1] (by rw[(hS7.rd 4 rfl).cells.1]) (by simp[(hS7.rd 4 rfl).cells.2.1]) b6Y (by simp) fun H8 hS8=> ?_
  simp only[RT]at hS8
  simp(disch:=omega) only[↓RA,RZ,simprocAttr,hn,g3,g4,g12,hS8.ae 0 rfl,hS8.ae 1 rfl,q1,q6]
  refine hS8.cF (vF s (hs.ag hS8) hf i c true) fun H9 hS9=> ?_
  simp(disch:=omega) only[↓RA,RZ,simprocAttr,hn,g8,q1,q6]
  refine hS9.aa 3 rfl [I (stC s i c).1,I (stC s i c).2] rfl rfl mP (by simp) fun H10 hS10=> ?_
  simp only[RT]at hS10
  simp(disch:=omega) only[↓RA,RZ,simprocAttr,q1,q6]
  refine Wp.ak (fun n l H'=>l.length=157∧get l 2=(.map (some M))∧get l 3=(ptr V1 0 10)∧get l 6=(ptr V3 0 6)∧get l 7=(.bool false)∧get l 8=(ptr V4 0 6)∧∃(a:Ct)(pre:List Int)(cv:Value),(Far s a n∧pre.length+n=d∧wV s d (stC s i c)=(pre++(wV s n a).1,(wV s n a).2))∧St prog H H' [⟨ptr V1 0 10,0,[(.string s.o.name),s.o.rv,s.o.dv,s.o.cv,s.sv,(.int .u64 s.rg.cpl),(.int .u64 s.rg.off),s.kv,I s.p.1,I s.p.2]⟩,⟨ptr V2 0 2,0,[I c.1,I c.2]⟩,⟨ptr V3 0 6,0,[I 0,I 0,(.slice none 0 0),I 0,I 0,I 0]⟩,⟨ptr V4 0 6,0,[I c.1,I c.2,cv,I a.1,I a.2,I 0]⟩,⟨cv,1,((i:Int)::pre).flatMap (one I)⟩]) d ?_ ?_
  ·simp(disch:=omega) only[RB,RC,simprocAttr,hn,g2,g3,g6,g7,g8]
   exact⟨stC s i c,[],w1,⟨hfar,by simp,by simp⟩,hS10⟩
  rintro n l H11⟨hn,g2,g3,g6,g7,g8,a,pre,cv,⟨ha1,ha2,ha3⟩,hS11⟩
  have hdl:=hfar.lt hf
  have hka:zA kvs a=some ((n:Nat):Int):=by rw[hD a,(qD hf).2 ha1];rfl
  simp(disch:=omega) only[↓RA,RZ,simprocAttr,hn,g2,g8,hS11.ae 3 rfl]
  refine(St.aT ((hM.st hS11))).aX (k:=a) 0 rfl wX (fun _=>rfl) ?_
  simp(disch:=omega) only[↓RA,RB,simprocAttr,hn,hka,eE]
  refine jA (fun q7=> ?_) (fun q7=> ?_)
  ·obtain⟨m,rfl⟩:∃m,n=m+1:=⟨n-1,by omega⟩
   have hao:=ha1.1.ok
   simp(disch:=omega) only[↓RA,RZ,simprocAttr,hn,g3,hS11.ld 0 rfl,(hS11.sl hs.o.2.2.2.2.1).len,hka,eE,q7]
   refine Wp.ak (fun n l H'=>l.length=157∧get l 2=(.map (some M))∧get l 3=(ptr V1 0 10)∧get l 6=(ptr V3 0 6)∧get l 7=(.bool false)∧get l 8=(ptr V4 0 6)∧get l 109=I s.o.cpls.length∧∃(j:Nat),(n+j=s.o.cpls.length∧∀q,q<j→mH s q a false≠some m)∧get l 110=I j∧St prog H H' [⟨ptr V1 0 10,0,[(.string s.o.name),s.o.rv,s.o.dv,s.o.cv,s.sv,(.int .u64 s.rg.cpl),(.int .u64 s.rg.off),s.kv,I s.p.1,I s.p.2]⟩,⟨ptr V2 0 2,0,[I c.1,I c.2]⟩,⟨ptr V3 0 6,0,[I 0,I 0,(.slice none 0 0),I 0,I 0,I 0]⟩,⟨ptr V4 0 6,0,[I c.1,I c.2,cv,I a.1,I a.2,I 0]⟩,⟨cv,1,((i:Int)::pre).flatMap (one I)⟩]) s.o.cpls.length ?_ ?_
   ·simp(disch:=omega) only[RB,RC,simprocAttr,hn,g2,g3,g6,g7,g8]
    exact⟨0,⟨by omega,fun q hq=>absurd hq (eu _)⟩,rfl,hS11⟩
   rintro n l H12⟨hn,g2,g3,g6,g7,g8,g109,j,⟨hj,hz⟩,g110,hS12⟩
   simp(disch:=omega) only[↓RA,RB,simprocAttr,hn,g109,g110]
   refine jA (fun q8=> ?_) (fun q8=> ?_)
   ·have hwm:IntKind.wrap .i64 (((m+1:Nat):Int)-1)=(m:Int):=by
     rw[show(((m+1:Nat):Int)-1)=(m:Int)from by omega]
     exact a3J (a:=(m:Int)) (by omega) (by omega)
    simp(disch:=omega) only[↓RA,RZ,simprocAttr,hn,g3,g8,g110,hS12.ae 0 rfl,hS12.ae 3 rfl,q8]
    refine hS12.cF (vF s (hs.ag hS12) hf j a false) fun H13 hS13=> ?_
    simp(disch:=omega) only[↓RA,RZ,simprocAttr,hn,q8]
    refine hS13.eNew 2 [I 0,I 0] rfl rfl rfl mP fun A2 H14 hS14=> ?_
    simp only[RT]at hS14
    simp(disch:=omega) only[↓RA,RZ,simprocAttr,hn,q8]
    refine hS14.aa 5 rfl [I (stC s j a).1,I (stC s j a).2] rfl rfl mP (by simp) fun H15 hS15=> ?_
    simp only[RT]at hS15
    simp(disch:=omega) only[↓RA,RZ,simprocAttr,hn,g2,hS15.ae 5 rfl,q8]
    refine(St.aT ((hM.st hS15))).aX (k:=stC s j a) 0 rfl wX (fun _=>rfl) ?_
    simp(disch:=omega) only[↓RA,RZ,simprocAttr,hn,q8]
    refine lI (fun q9=> ?_) (fun q9=> ?_)
    ·simp(disch:=omega) only[↓RA,RZ,simprocAttr,hn,q8,q9]
     refine lI (fun q10=> ?_) (fun q10=> ?_)
     ·obtain⟨e,he1,he2⟩:=a0S hD q10
      have hnr:mH s j a false=some e:=by unfold mH;rw[if_pos q9,he1]
      have hs1:(some (e:Int)).isSome=true:=rfl
      simp(disch:=omega) only[↓RA,RZ,simprocAttr,hn,g2,g8,hS15.ae 3 rfl,q8,q9,he2,hs1,eE]
      refine(St.aT ((hM.st hS15))).aX (k:=a) 0 rfl wX (fun _=>rfl) ?_
      simp(disch:=omega) only[↓RA,RZ,simprocAttr,hn,q8,q9,he2,hs1,eE,hka,hwm]
      refine jA (fun q11=> ?_) (fun q11=> ?_)
      ·have hem:e=m:=by omega
       rw[hem]at hnr
       have hhop:=c2e (by omega) hnr hz
       simp(disch:=omega) only[↓RA,RZ,simprocAttr,hn,g8,hS15.ld 3 rfl,q8,q9,he2,eE,hka,q11]
       refine hS15.aj [I j] uE a2h rfl rfl (by simp[Value.cells]) rfl rfl (by decide) (by decide) fun w2 H16 hS16=> ?_
       simp only[RT]at hS16
       simp(disch:=omega) only[↓RA,RZ,simprocAttr,hn,q8,q9,he2,eE,hka,q11]
       refine hS16.aq 4 rfl (hS16.rd 6 rfl) uE (by rw[nF,dU];simp;omega) fun w3 H17 hS17=> ?_
       simp only[RT]at hS17
       simp(disch:=omega) only[↓RA,RZ,simprocAttr,hn,g8,q8,q9,he2,eE,hka,q11]
       refine hS17.aa 3 rfl [w3] (by rw[(hS17.rd 4 rfl).cells.1]) (by simp[(hS17.rd 4 rfl).cells.2.1]) b6Y (by simp) fun H18 hS18=> ?_
       simp only[RT]at hS18
       simp(disch:=omega) only[↓RA,RZ,simprocAttr,hn,g8,hS18.ae 5 rfl,q8,q9,he2,eE,hka,q11]
       refine hS18.aa 3 rfl [I (stC s j a).1,I (stC s j a).2] rfl rfl mP (by simp) fun H19 hS19=> ?_
       simp only[RT]at hS19
       simp(disch:=omega) only[↓RA,RZ,simprocAttr,hn,g2,g3,g6,g7,g8,q8,q9,he2,eE,hka,q11]
       refine⟨m,by omega,stC s j a,pre++[(j:Int)],w3,⟨(sW hf hnr).2,by simp;omega,?_⟩,?_⟩
       ·rw[ha3,wV,hhop]
        simp
       ·rw[←gr,dV]
        exact hS19.pick [0,1,2,3,4] (by decide) rfl
      have hno:mH s j a false≠some m:=fun h=>by rw[hnr]at h;cases h;exact q11 rfl
      simp(disch:=omega) only[↓RA,RZ,simprocAttr,hn,g2,g3,g6,g7,g8,g109,g110,q8,q9,he2,hs1,eE,hka,q11]
      exact⟨n-1,by omega,j+1,⟨by omega,fun q hq=>by rcases dK.1 hq with e|e;(· exact hz q e);(· rw[e];exact hno)⟩,by simp,hS15.pick [0,1,2,3,4] (by decide) rfl⟩
     have hno:mH s j a false≠some m:=fun h=>by unfold mH at h;rw[if_pos q9,a3b hD (by simpa using q10)]at h;cases h
     simp(disch:=omega) only[↓RA,RZ,simprocAttr,hn,g2,g3,g6,g7,g8,g109,g110,q8,q9,q10]
     exact⟨n-1,by omega,j+1,⟨by omega,fun q hq=>by rcases dK.1 hq with e|e;(· exact hz q e);(· rw[e];exact hno)⟩,by simp,hS15.pick [0,1,2,3,4] (by decide) rfl⟩
    have hno:mH s j a false≠some m:=fun h=>by unfold mH at h;rw[if_neg (by simpa using q9)]at h;cases h
    simp(disch:=omega) only[↓RA,RZ,simprocAttr,hn,g2,g3,g6,g7,g8,g109,g110,q8,q9]
    exact⟨n-1,by omega,j+1,⟨by omega,fun q hq=>by rcases dK.1 hq with e|e;(· exact hz q e);(· rw[e];exact hno)⟩,by simp,hS15.pick [0,1,2,3,4] (by decide) rfl⟩
   obtain⟨q,hq1,hq2⟩:=ha1.dw hf
   exact absurd hq2 (hz q (by omega))
  have hn0:n=0:=by omega
  subst hn0
  have hao:=ha1.1.ok
  have hne:stpL s a≠[]:=by
   cases ha1.1 with
   | zero _ h=>exact h
  have hpos:=fh.2 hne
  have hg:wV s d (stC s i c)=(pre,a):=by rw[ha3];simp[wV]
  have hW2:oT s c=some ((i:Int)::pre,a):=by rw[hW1,hg]
  simp(disch:=omega) only[↓RA,RZ,simprocAttr,hn,g3,g8,hS11.ae 0 rfl,hS11.ae 3 rfl,hka,eE]
  refine jG ((xP s (hs.ag hS11) hf a (a0g hao)).tr) ?_
  rintro r H20⟨-,hT4⟩
  have hS20:=hS11.trans hT4
  simp only[RT]at hS20
  obtain⟨sw,rfl⟩:∃w,w=r:=⟨r,rfl⟩
  simp(disch:=omega) only[↓RA,RZ,simprocAttr,hn,g8,(hS20.az 5 rfl (fun _=>rfl)).idx,(hS20.az 5 rfl (fun _=>rfl)).ld,one,hka,eE]
  refine hS20.aa 3 rfl [I (jB (stpL s a) 0)] rfl rfl tS3 (by simp) fun H21 hS21=> ?_
  simp only[RT]at hS21
  simp(disch:=omega) only[↓RA,RZ,simprocAttr,hn,g6,g8,hS21.ae 3 rfl,hka,eE]
  refine hS21.aa 2 rfl [I c.1,I c.2,cv,I a.1,I a.2,I (jB (stpL s a) 0)] rfl (by simp[OC,(hS21.rd 4 rfl).cells.2.1]) pV (by simp) fun H22 hS22=> ?_
  simp only[RT]at hS22
  simp(disch:=omega) only[↓RA,RZ,simprocAttr,hn,g6,c7U,hS22.ae 2 rfl,hka,eE]
  refine⟨cv,by unfold nT;rw[hW2];rfl,?_⟩
  unfold nT
  rw[hW2]
  exact hS22.pick [4] (by decide) rfl
 simp(disch:=omega) only[↓RA,RB,simprocAttr,g0]
 refine(sR H).eNew 10 [(.string s.o.name),s.o.rv,s.o.dv,s.o.cv,s.sv,(.int .u64 s.rg.cpl),(.int .u64 s.rg.off),s.kv,I s.p.1,I s.p.2] rfl rfl (by simp[OC,((sR H).sl hs.o.1).cells.2.1,((sR H).sl hs.o.2.2.1).cells.2.1,((sR H).sl hs.o.2.2.2.2.1).cells.2.1,((sR H).sl hs.rg.1).cells.2.1,((sR H).sl hs.ks.sl).cells.2.1]) pS fun A3 H23 hS23=> ?_
 simp only[RT]at hS23
 simp(disch:=omega) only[↓RA,RB,simprocAttr,g1]
 refine hS23.eNew 2 [I c.1,I c.2] rfl rfl rfl mP fun A4 H24 hS24=> ?_
 simp only[RT]at hS24
 simp(disch:=omega) only[↓RA,RZ,simprocAttr]
 refine hS24.eNew 6 [I 0,I 0,(.slice none 0 0),I 0,I 0,I 0] rfl rfl rfl pV fun A5 H25 hS25=> ?_
 simp only[RT]at hS25
 simp(disch:=omega) only[↓RA,RZ,simprocAttr,hn,hS25.ae 1 rfl,a8h]
 refine hS25.eNew 6 [I 0,I 0,(.slice none 0 0),I 0,I 0,I 0] rfl rfl rfl pV fun A6 H26 hS26=> ?_
 simp only[RT]at hS26
 simp(disch:=omega) only[↓RA,RB,simprocAttr,hn]
 refine hS26.aa 3 rfl [I c.1,I c.2,(.slice none 0 0),I c.1,I c.2,I 0] rfl rfl pV (by simp) fun H27 hS27=> ?_
 simp only[RT]at hS27
 simp(disch:=omega) only[↓RA,RZ,simprocAttr,hn,g2,hS27.ae 1 rfl]
 refine(St.aT ((hM.st hS27))).aX (k:=c) 0 rfl wX (fun _=>rfl) ?_
 simp(disch:=omega) only[↓RA,RZ,simprocAttr,hn]
 refine lI (fun p1=> ?_) (fun p1=> ?_)
 ·obtain⟨d,hd1,hd2⟩:=a0S hD p1
  have hs1:(some (d:Int)).isSome=true:=rfl
  have hs2:(some (d:Int)).getD 0=d:=rfl
  simp(disch:=omega) only[↓RA,RZ,simprocAttr,hn,hd2,hs1,hs2]
  refine jW (fun p2=> ?_) (fun p2=> ?_)
  ·have hd0:d=0:=by omega
   simp(disch:=omega) only[↓RA,RZ,simprocAttr,hn,hS27.ae 0 rfl,hS27.ld 1 rfl,hd2,p2]
   refine hS27.cF (a7H s (hs.ag hS27) c.1 (a0g hc).1) fun H28 hS28=> ?_
   simp(disch:=omega) only[↓RA,RZ,simprocAttr,hn,hd2,p2]
   refine kA (fun p3=> ?_) (fun p3=> ?_)
   ·have hyes:qY (rU s) c=some 0∧rY s c.1=false:=⟨by rw[hd1,hd0],by simpa using p3⟩
    have hW:oT s c=some ([],c):=by unfold oT;rw[if_pos hyes]
    have hne:stpL s c≠[]:=by
     cases ((qD hf).1 hyes.1).1 with
     | zero _ h=>exact h
    have hpos:=fh.2 hne
    simp(disch:=omega) only[↓RA,RZ,simprocAttr,hn,hS28.ae 0 rfl,hS28.ae 1 rfl,hd2,p2,p3]
    refine jG ((xP s (hs.ag hS28) hf c (a0g hc)).tr) ?_
    rintro r H29⟨-,hT6⟩
    have hS29:=hS28.trans hT6
    simp only[RT]at hS29
    obtain⟨sw,rfl⟩:∃w,w=r:=⟨r,rfl⟩
    simp(disch:=omega) only[↓RA,RZ,simprocAttr,hn,(hS29.az 4 rfl (fun _=>rfl)).idx,(hS29.az 4 rfl (fun _=>rfl)).ld,one,hd2,p2,p3]
    refine hS29.aa 3 rfl [I (jB (stpL s c) 0)] rfl rfl tS3 (by simp) fun H30 hS30=> ?_
    simp only[RT]at hS30
    simp(disch:=omega) only[↓RA,RZ,simprocAttr,hn,hS30.ae 3 rfl,hd2,p2,p3]
    refine hS30.aa 2 rfl [I c.1,I c.2,(.slice none 0 0),I c.1,I c.2,I (jB (stpL s c) 0)] rfl rfl pV (by simp) fun H31 hS31=> ?_
    simp only[RT]at hS31
    simp(disch:=omega) only[↓RA,RZ,simprocAttr,hn,c7U,hS31.ae 2 rfl,b9C,hd2,p2,p3]
    refine⟨.slice none 0 0,by unfold nT;rw[hW];rfl,?_⟩
    unfold nT
    rw[hW]
    exact(hS31.forget).nil 0
   simp(disch:=omega) only[↓RA,RZ,simprocAttr,hn,g2,lW,hd2,p2,p3]
   exact⟨_,_,_,_,(by rintro⟨_,h⟩;rw[h]at p3;simp at p3),rfl,rfl,rfl,rfl,hS28⟩
  simp(disch:=omega) only[↓RA,RZ,simprocAttr,hn,g2,lW,hd2,hs1,hs2,p2]
  exact⟨_,_,_,_,(by rintro⟨h,_⟩;rw[hd1]at h;cases h;simp at p2),rfl,rfl,rfl,rfl,hS27⟩
 simp(disch:=omega) only[↓RA,RZ,simprocAttr,hn,g2,lW,p1]
 exact⟨_,_,_,_,(by rintro⟨h,_⟩;rw[a3b hD (by simpa using p1)]at h;cases h),rfl,rfl,rfl,rfl,hS27⟩
end Go.Ds
namespace Go.Ds
open Go.Proofs
set_option maxRecDepth 10000
structure Rp where
 pl:Ct
 cps:List Int
 tc:Ct
 stop:Int
 deriving Inhabited,DecidableEq
def lY(s:Sn)(pl:Ct)(cps:List Int)(a:Ct):List Rp:=if cps≠[]∨rY s pl.1=false then(stpL s a).map fun i=>⟨pl,cps,a,i⟩else[]
def onB(s:Sn)(cps:List Int)(a:Ct)(seen:List Ct)(i:Nat):Bool:=ldB s i a (decide (cps.length=0))&& !decide (stC s i a∈seen)
def full(s:Sn):Nat→Ct→List Int→Ct→List Ct→List Rp
 | 0,pl,cps,a,_=>lY s pl cps a
 | n+1,pl,cps,a,seen=>lY s pl cps a++(List.range s.o.cpls.length).flatMap fun i=>if onB s cps a seen i then full s n pl (cps++[(i:Int)]) (stC s i a) (seen++[stC s i a])else[]
theorem c1J{s:Sn}(hf:s.Fit):∀(n:Nat){pl:Ct}{cps:List Int}{a:Ct}{seen:List Ct},nB s.o a=true→cps≠[]→qY (rU s) a=none→full s n pl cps a seen=[]:=by
 have hz:∀a,nB s.o a=true→qY (rU s) a=none→stpL s a=[]:=fun a ho h=>by
  apply fj
  intro hne
  obtain⟨m,hm,_⟩:=(a2V hf).2.2.1 0 a (.zero ho hne)
  rw[h]at hm
  cases hm
 intro n
 induction n with
 | zero=>
   intro pl cps a seen ho hc h
   unfold full lY
   rw[hz a ho h]
   simp
 | succ n ih=>
   intro pl cps a seen ho hc h
   unfold full
   have h1:lY s pl cps a=[]:=by unfold lY;rw[hz a ho h];simp
   rw[h1,fH,List.flatMap_eq_nil_iff]
   intro i hi
   split
   ·rename_i hb
    unfold onB at hb
    rw[dB]at hb
    have hl:ldB s i a false=true:=by
     have:=hb.1
     rw[decide_eq_false (by intro e;exact hc (eG.1 e))]at this
     exact this
    refine ih (xJ hf hl) (by simp) ?_
    cases hd:qY (rU s) (stC s i a)with
    | none=>rfl
    | some m=>
      have hr:=((qD hf).1 hd).1
      obtain⟨m2,hm2,_⟩:=(a2V hf).2.2.1 (m+1) a (.succ ho ⟨i,dS.1 hi,hl,rfl⟩ hr)
      rw[h]at hm2
      cases hm2
   ·rfl
def uT(s:Sn)(cps:List Int)(a:Ct)(seen:List Ct)(i:Nat):Bool:=onB s cps a seen i&&(qY (rU s) (stC s i a)).isSome
def a2P(s:Sn):Nat→Ct→List Int→Ct→List Ct→List Rp×Bool→List Rp×Bool
 | 0,pl,cps,a,_,q=>(q.1++lY s pl cps a,q.2||decide (500<(q.1++lY s pl cps a).length))
 | n+1,pl,cps,a,seen,q=>(List.range s.o.cpls.length).foldl (fun q i=>if q.2 then q else if uT s cps a seen i then a2P s n pl (cps++[(i:Int)]) (stC s i a) (seen++[stC s i a]) q else q) (q.1++lY s pl cps a,q.2||decide (500<(q.1++lY s pl cps a).length))
def Met(l:List Rp)(q:List Rp×Bool):Prop:=(q.2=false→q.1=l∧l.length≤500)∧(q.2=true→500<l.length)
theorem Met.more{l m:List Rp}{q:List Rp×Bool}(h:Met l q)(hq:q.2=true):Met (l++m) q:=⟨fun h2=>(by rw[hq]at h2;cases h2),fun _=>by have:=h.2 hq;rw[dM];omega⟩
theorem Met.node{l m:List Rp}{q:List Rp×Bool}(h:Met l q):Met (l++m) (q.1++m,q.2||decide (500<(q.1++m).length)):=by
 cases hq:q.2 with
 | true=>exact⟨fun h2=>by simp at h2,fun _=>by have:=h.2 hq;rw[dM];omega⟩
 | false=>
   obtain⟨h1,h2⟩:=h.1 hq
   rw[h1]
   exact⟨fun h3=>⟨rfl,by simpa using h3⟩,fun h3=>by simpa using h3⟩
theorem c1S{s:Sn}(hf:s.Fit):∀(n:Nat){pl:Ct}{cps:List Int}{a:Ct}{seen:List Ct}{l:List Rp}{q:List Rp×Bool},nB s.o a=true→Met l q→Met (l++full s n pl cps a seen) (a2P s n pl cps a seen q):=by
 intro n
 induction n with
 | zero=>
   intro pl cps a seen l q _ h
   unfold full a2P
   exact h.node
 | succ n ih=>
   intro pl cps a seen l q ho h
   unfold full a2P
   rw[←ef]
   have h0:=h.node (m:=lY s pl cps a)
   generalize l++lY s pl cps a=l1 at h0
   generalize (q.1++lY s pl cps a,q.2||decide (500<(q.1++lY s pl cps a).length))=q1 at h0
   have key:∀k,Met (l1++(List.range k).flatMap fun i=>if onB s cps a seen i then full s n pl (cps++[(i:Int)]) (stC s i a) (seen++[stC s i a])else[]) ((List.range k).foldl (fun q i=>if q.2 then q else if uT s cps a seen i then a2P s n pl (cps++[(i:Int)]) (stC s i a) (seen++[stC s i a]) q else q) q1):=by
    intro k
    induction k with
    | zero=>simpa using h0
    | succ k ihk=>
      rw[eR,dV,gh,←ef]
      simp only[ec,fw,dO,fN,List.foldl_nil]
      generalize (List.range k).foldl _ q1=q2 at ihk
      generalize l1++(List.range k).flatMap _=l2 at ihk
      by_cases hm:q2.2=true
      ·rw[if_pos hm]
       exact ihk.more hm
      ·rw[if_neg hm]
       by_cases hb:onB s cps a seen k=true
       ·have hl:ldB s k a (decide (cps.length=0))=true:=by
         unfold onB at hb
         rw[dB]at hb
         exact hb.1
        rw[if_pos hb]
        by_cases hn:uT s cps a seen k=true
        ·rw[if_pos hn]
         exact ih (xJ hf hl) ihk
        ·rw[if_neg hn,c1J hf n (xJ hf hl) (by simp),dO]
         ·exact ihk
         ·unfold uT at hn
          rw[hb]at hn
          simpa using hn
       ·rw[if_neg hb,if_neg (by unfold uT;rw[dB];exact fun h=>hb h.1),dO]
        exact ihk
   exact key _
def pQ(s:Sn):List Rp:=(jF s.ks).flatMap fun c=>full s 1025 c [] c []
end Go.Ds
namespace Go.Ds
open Go.Proofs Go.Proofs.Tryz
variable {H:Heap}
set_option maxRecDepth 10000
set_option maxHeartbeats 1000000
def qU(s:Sn):Nat→Option (Ct×List Int×Ct)
 | 0=>none
 | n+1=>match oT s (jB (jF s.ks) n),qU s n with
   | none,b=>b
   | some w,none=>some (jB (jF s.ks) n,w)
   | some w,some b=>if w.1.length<b.2.1.length then some (jB (jF s.ks) n,w)else some b
def uR(s:Sn)(q:Option (Ct×List Int×Ct))(cv:Value):Rn:=match q with
 | none=>⟨(0,0),cv,[],(0,0),0⟩
 | some (c,l,e)=>⟨c,cv,l,e,jB (stpL s e) 0⟩
def wR(s:Sn):Option (Ct×List Int×Ct):=if snE s=0 then qU s (jF s.ks).length else none
theorem b8r(s:Sn)(c:Ct)(w:List Int×Ct)(h:oT s c=some w)(cv:Value):uR s (some (c,w)) cv=nT s c cv:=by
 unfold nT
 rw[h]
 rfl
theorem b3H{s:Sn}:∀{n:Nat}{c:Ct},(wV s n c).1.length≤n
 | 0,c=>by simp[wV]
 | n+1,c=>by
   unfold wV
   split
   ·simp
   ·rename_i i _
    have:=b3H (s:=s) (n:=n) (c:=stC s i c)
    simp
    omega
theorem c0E{s:Sn}(hf:s.Fit){c:Ct}{w:List Int×Ct}(h:oT s c=some w):w.1.length≤1025:=by
 unfold oT at h
 split at h
 ·injection h with h
  subst h
  simp
 ·split at h
  ·cases h
  ·rename_i d i hb
   injection h with h
   subst h
   have h1:=(sW hf (rM hb).2).2.lt hf
   have:=b3H (s:=s) (n:=d) (c:=stC s i c)
   simp
   omega
theorem b4p(s:Sn)(c:Ct)(cv:Value):(nT s c cv).cv=cv:=by unfold nT;split<;>rfl
theorem c7H(s:Sn)(c:Ct)(cv:Value):(nT s c cv).v=.agg #[I (nT s c cv).pl.1,I (nT s c cv).pl.2,cv,I (nT s c cv).tc.1,I (nT s c cv).tc.2,I (nT s c cv).stop]:=by
 show Value.agg #[_,_,(nT s c cv).cv,_,_,_]=_
 rw[b4p]
theorem c4D(s:Sn)(q:Option (Ct×List Int×Ct))(cv:Value):(uR s q cv).cv=cv:=by unfold uR;split<;>rfl
theorem yO{s:Sn}{j:Nat}(h:oT s (jB (jF s.ks) j)=none):qU s (j+1)=qU s j:=by
 unfold qU
 rw[h]
 cases j<;>rfl
theorem uY{s:Sn}{j:Nat}{w:List Int×Ct}(h:oT s (jB (jF s.ks) j)=some w)(hl:∀b,qU s j=some b→w.1.length<b.2.1.length):qU s (j+1)=some (jB (jF s.ks) j,w):=by
 show(match oT s (jB (jF s.ks) j),qU s j with
  | none,b=>b
  | some w,none=>some (jB (jF s.ks) j,w)
  | some w,some b=>if w.1.length<b.2.1.length then some (jB (jF s.ks) j,w)else some b)=_
 rw[h]
 cases hb:qU s j with
 | none=>rfl
 | some b=>exact if_pos (hl b hb)
theorem a7h{s:Sn}{j:Nat}{w:List Int×Ct}{b:Ct×List Int×Ct}(h:oT s (jB (jF s.ks) j)=some w)(hb:qU s j=some b)(hl:¬w.1.length<b.2.1.length):qU s (j+1)=qU s j:=by
 show(match oT s (jB (jF s.ks) j),qU s j with
  | none,b=>b
  | some w,none=>some (jB (jF s.ks) j,w)
  | some w,some b=>if w.1.length<b.2.1.length then some (jB (jF s.ks) j,w)else some b)=_
 rw[h,hb]
 exact if_neg hl
theorem a8H(hG:Glob gH H)(s:Sn)(hs:s.In H):Fn prog 22 [s.v] H fun r H'=>∃cv,r=.tuple #[(uR s (wR s) cv).v,.bool (wR s).isSome,I (snE s)]∧St prog H H' [⟨cv,1,(uR s (wR s) cv).cps.flatMap (one I)⟩]:=by
 refine .aN func22 rfl (by kernel_rfl) (m:=51) rfl fun l hn g0=> ?_
 simp(disch:=omega) only[↓RA,RB,simprocAttr,g0]
 refine(sR H).eNew 10 [(.string s.o.name),s.o.rv,s.o.dv,s.o.cv,s.sv,(.int .u64 s.rg.cpl),(.int .u64 s.rg.off),s.kv,I s.p.1,I s.p.2] rfl rfl (by simp[OC,((sR H).sl hs.o.1).cells.2.1,((sR H).sl hs.o.2.2.1).cells.2.1,((sR H).sl hs.o.2.2.2.2.1).cells.2.1,((sR H).sl hs.rg.1).cells.2.1,((sR H).sl hs.ks.sl).cells.2.1]) pS fun A1 H1 hS1=> ?_
 simp only[RT]at hS1
 simp(disch:=omega) only[↓RA,RZ,simprocAttr]
 refine hS1.eNew 6 [I 0,I 0,(.slice none 0 0),I 0,I 0,I 0] rfl rfl rfl pV fun A2 H2 hS2=> ?_
 simp only[RT]at hS2
 simp(disch:=omega) only[↓RA,RZ,simprocAttr,hn,hS2.ae 0 rfl]
 refine hS2.cF (yV s (hs.ag hS2)) fun H3 hS3=> ?_
 simp(disch:=omega) only[↓RA,RB,simprocAttr,hn]
 refine jA (fun h1=> ?_) (fun h1=> ?_)
 ·have hL:wR s=none:=by unfold wR;rw[if_neg h1]
  simp(disch:=omega) only[↓RA,RZ,simprocAttr,hn,c5i,h1]
  refine hS3.aa 1 rfl [I 0,I 0,(.slice none 0 0),I 0,I 0,I 0] rfl rfl pV (by simp) fun H4 hS4=> ?_
  simp only[RT]at hS4
  simp(disch:=omega) only[↓RA,RZ,simprocAttr,hn,c9B,hS4.ae 1 rfl,h1]
  rw[hL]
  exact⟨.slice none 0 0,rfl,(hS4.forget).nil 0⟩
 have hz:snE s=0:=dX.1 h1
 have hf:=qG.1 hz
 have hpl:=a2g hf.keys
 have hct:=oM hs.ks.ok hf.keys
 have hL:wR s=qU s (jF s.ks).length:=by unfold wR;rw[if_pos hz]
 simp(disch:=omega) only[↓RA,RZ,simprocAttr,hn,hS3.ae 0 rfl,h1]
 refine jG (a0K s (hs.ag hS3) hf) ?_
 rintro r H5⟨M,kvs,rfl,hD,hT2⟩
 have hS5:=hS3.trans hT2
 simp only[RT]at hS5
 simp(disch:=omega) only[↓RA,RZ,simprocAttr,hn,hS5.ae 0 rfl,h1]
 refine jG ((a0o (hS5.gl hG) s (hs.ag hS5) hf).tr) ?_
 rintro r H6⟨-,hT3⟩
 have hS6:=hS5.trans hT3
 simp only[RT]at hS6
 obtain⟨pw,rfl⟩:∃w,w=r:=⟨r,rfl⟩
 simp(disch:=omega) only[↓RA,RZ,simprocAttr,hn,(hS6.az 3 rfl lG).len,h1]
 have hS7:=hS6.nil 0
 simp only[RT]at hS7
 refine Wp.ak (fun n l H'=>l.length=51∧get l 1=(ptr A1 0 10)∧get l 2=(ptr A2 0 6)∧get l 4=I 0∧get l 6=(.map (some M))∧get l 20=pw∧get l 21=I (jF s.ks).length∧∃(j:Nat)(x:Rn),(n+j=(jF s.ks).length∧x=uR s (qU s j) x.cv)∧get l 22=I j∧get l 3=(.bool (qU s j).isSome)∧St prog H H' [⟨ptr A1 0 10,0,[(.string s.o.name),s.o.rv,s.o.dv,s.o.cv,s.sv,(.int .u64 s.rg.cpl),(.int .u64 s.rg.off),s.kv,I s.p.1,I s.p.2]⟩,⟨ptr A2 0 6,0,[I x.pl.1,I x.pl.2,x.cv,I x.tc.1,I x.tc.2,I x.stop]⟩,⟨.map (some M),0,KN kvs⟩,⟨pw,2,pr (jF s.ks)⟩,⟨x.cv,1,x.cps.flatMap (one I)⟩]) (jF s.ks).length ?_ ?_
 ·simp(disch:=omega) only[RB,RC,simprocAttr,hn]
  exact⟨0,⟨(0,0),.slice none 0 0,[],(0,0),0⟩,⟨by omega,rfl⟩,rfl,rfl,hS7⟩
 rintro n l H7⟨hn,g1,g2,g4,g6,g20,g21,j,x,⟨hj,hx⟩,g22,g3,hS8⟩
 simp(disch:=omega) only[↓RA,RB,simprocAttr,hn,g21,g22]
 refine jA (fun q1=> ?_) (fun q1=> ?_)
 ·have hcc:=hct _ (jE (xs:=jF s.ks) (j:=j) (by omega))
  simp(disch:=omega) only[↓RA,RZ,simprocAttr,hn,g20,g22,(hS8.az 3 rfl lG).idx,(hS8.az 3 rfl lG).ae,mJ,q1]
  refine hS8.eNew 2 [I 0,I 0] rfl rfl rfl mP fun A3 H8 hS9=> ?_
  simp only[RT]at hS9
  simp(disch:=omega) only[↓RA,RZ,simprocAttr,hn,q1]
  refine hS9.aa 5 rfl [I (jB (jF s.ks) j).1,I (jB (jF s.ks) j).2] rfl rfl mP (by simp) fun H9 hS10=> ?_
  simp only[RT]at hS10
  simp(disch:=omega) only[↓RA,RZ,simprocAttr,hn,g1,g6,hS10.ae 0 rfl,hS10.ae 5 rfl,q1]
  refine jG (a8n s (hs.ag hS10) hf (jB (jF s.ks) j) hcc M kvs (hS10.own _ (dR (i:=2) rfl)) hD) ?_
  rintro r H10⟨cw,rfl,hT4⟩
  have hS11:=hS10.trans hT4
  simp only[RT]at hS11
  have hyc:=b4p s (jB (jF s.ks) j) cw
  have hyv:=c7H s (jB (jF s.ks) j) cw
  simp(disch:=omega) only[↓RA,RZ,simprocAttr,hn,q1,hyv]
  refine hS11.eNew 6 [I 0,I 0,(.slice none 0 0),I 0,I 0,I 0] rfl rfl rfl pV fun A4 H11 hS12=> ?_
  simp only[RT]at hS12
  simp(disch:=omega) only[↓RA,RZ,simprocAttr,hn,q1,hyv]
  refine hS12.aa 7 rfl [I (nT s (jB (jF s.ks) j) cw).pl.1,I (nT s (jB (jF s.ks) j) cw).pl.2,cw,I (nT s (jB (jF s.ks) j) cw).tc.1,I (nT s (jB (jF s.ks) j) cw).tc.2,I (nT s (jB (jF s.ks) j) cw).stop] rfl (by simp[OC,(hS12.rd 6 rfl).cells.2.1]) pV (by simp) fun H12 hS13=> ?_
  simp only[RT]at hS13
  simp(disch:=omega) only[↓RA,RZ,simprocAttr,hn,q1,hyv]
  refine lI (fun q2=> ?_) (fun q2=> ?_)
  ·obtain⟨w,hw⟩:=fg.1 q2
   have hyl:(nT s (jB (jF s.ks) j) cw).cps=w.1:=by unfold nT;rw[hw]
   have hy2:=b8r s (jB (jF s.ks) j) w hw cw
   simp(disch:=omega) only[↓RA,RZ,simprocAttr,hn,g3,q1,hyv,q2]
   refine lI (fun q3=> ?_) (fun q3=> ?_)
   ·have hsu:=uY (j:=j) hw (fun b hb=>by rw[hb]at q3;simp at q3)
    simp(disch:=omega) only[↓RA,RZ,simprocAttr,hn,g2,hS13.ae 7 rfl,q1,hyv,q2,q3]
    refine hS13.aa 1 rfl [I (nT s (jB (jF s.ks) j) cw).pl.1,I (nT s (jB (jF s.ks) j) cw).pl.2,cw,I (nT s (jB (jF s.ks) j) cw).tc.1,I (nT s (jB (jF s.ks) j) cw).tc.2,I (nT s (jB (jF s.ks) j) cw).stop] rfl (by simp[OC,(hS13.rd 6 rfl).cells.2.1]) pV (by simp) fun H13 hS14=> ?_
    simp only[RT]at hS14
    simp(disch:=omega) only[↓RA,RZ,simprocAttr,hn,g1,g2,g4,g6,g20,g21,g22,q1,hyv,q2,q3]
    refine⟨n-1,by omega,j+1,nT s (jB (jF s.ks) j) cw,⟨by omega,by rw[hsu,hyc,hy2]⟩,by simp,by rw[hsu];rfl,?_⟩
    rw[hyc]
    exact hS14.pick [0,1,2,3,6] (by decide) rfl
   obtain⟨b,hb⟩:∃b,qU s j=some b:=by
    cases hb:qU s j with
    | none=>rw[hb]at q3;simp at q3
    | some b=>exact⟨b,rfl⟩
   have hxl:x.cps=b.2.1:=by rw[hx,hb];rfl
   simp(disch:=omega) only[↓RA,RZ,simprocAttr,hn,g2,hS13.ld 7 rfl,(hS13.az 6 rfl (fun _=>rfl)).len,hS13.ld 1 rfl,(hS13.az 4 rfl (fun _=>rfl)).len,q1,hyv,q2,q3]
   refine jA (fun q4=> ?_) (fun q4=> ?_)
   ·have hsu:=uY (j:=j) hw (fun b2 hb2=>by rw[hb]at hb2;cases hb2;rw[hyl,hxl]at q4;omega)
    simp(disch:=omega) only[↓RA,RZ,simprocAttr,hn,g2,hS13.ae 7 rfl,q1,hyv,q2,q3,q4]
    refine hS13.aa 1 rfl [I (nT s (jB (jF s.ks) j) cw).pl.1,I (nT s (jB (jF s.ks) j) cw).pl.2,cw,I (nT s (jB (jF s.ks) j) cw).tc.1,I (nT s (jB (jF s.ks) j) cw).tc.2,I (nT s (jB (jF s.ks) j) cw).stop] rfl (by simp[OC,(hS13.rd 6 rfl).cells.2.1]) pV (by simp) fun H14 hS15=> ?_
    simp only[RT]at hS15
    simp(disch:=omega) only[↓RA,RZ,simprocAttr,hn,g1,g2,g4,g6,g20,g21,g22,q1,hyv,q2,q3,q4]
    refine⟨n-1,by omega,j+1,nT s (jB (jF s.ks) j) cw,⟨by omega,by rw[hsu,hyc,hy2]⟩,by simp,by rw[hsu];rfl,?_⟩
    rw[hyc]
    exact hS15.pick [0,1,2,3,6] (by decide) rfl
   have hsu:=a7h (j:=j) hw hb (by rw[hyl,hxl]at q4;omega)
   simp(disch:=omega) only[↓RA,RZ,simprocAttr,hn,g1,g2,g4,g6,g20,g21,g22,g3,q1,hyv,q2,q3,q4]
   refine⟨n-1,by omega,j+1,x,⟨by omega,by rw[hsu];exact hx⟩,by simp,by rw[hsu],?_⟩
   exact hS13.pick [0,1,2,3,4] (by decide) rfl
  have hw:oT s (jB (jF s.ks) j)=none:=by simpa using q2
  have hsu:=yO (j:=j) hw
  simp(disch:=omega) only[↓RA,RZ,simprocAttr,hn,g1,g2,g4,g6,g20,g21,g22,g3,q1,hyv,q2]
  refine⟨n-1,by omega,j+1,x,⟨by omega,by rw[hsu];exact hx⟩,by simp,by rw[hsu],?_⟩
  exact hS13.pick [0,1,2,3,4] (by decide) rfl
 have hjj:j=(jF s.ks).length:=by omega
 rw[hjj]at hx
 simp(disch:=omega) only[↓RA,RZ,simprocAttr,hn,g2,g3,hS8.ae 1 rfl,q1]
 refine hS8.aa 1 rfl [I x.pl.1,I x.pl.2,x.cv,I x.tc.1,I x.tc.2,I x.stop] rfl (by simp[OC,(hS8.rd 4 rfl).cells.2.1]) pV (by simp) fun H15 hS16=> ?_
 simp only[RT]at hS16
 simp(disch:=omega) only[↓RA,RZ,simprocAttr,hn,g2,c9B,hS16.ae 1 rfl,q1]
 rw[hL,hz,hjj]
 refine⟨x.cv,by rw[←hx],?_⟩
 rw[←hx]
 exact hS16.pick [4] (by decide) rfl
def b3e(v:Value):Option Value:=match v with
 | .pointer (some a)=>some (.pointer (some a))
 | .func (.func f) a b=>some (.func (.func f) a b)
 | _=>none
theorem mF{P:Program}(d:Option Tmp)(ty:TypeId)(pos:String)(af:Array Edge)(g:Option (Nat×Bool))(x:Operand)(l:List Value)(K:Value→Heap→Prop):nM P ⟨d,.nilCheck x,ty,pos,af,g⟩ l H K=kI x l fun x=>kP (b3e x) fun v=>K v H:=by
 have h:opD P ⟨d,.nilCheck x,ty,pos,af,g⟩ l H=(b3e (ev l x)).map fun v=>(v,H):=by
  simp only[opD,b3e]
  generalize ev l x=vx
  split
  ·rfl
  ·rfl
  ·rename_i h1 h2
   split
   ·exact(h1 _ rfl).elim
   ·exact(h2 _ _ _ rfl).elim
   ·rfl
 have h2:kY ((b3e (ev l x)).map fun v=>(v,H)) K=kP (b3e (ev l x)) fun v=>K v H:=by cases b3e (ev l x)<;>rfl
 simp only[nM,h,kI,Op.operands,h2]
 simp
theorem mI(A o n:Nat)(K:Value→Prop):kP (b3e (ptr A o n)) K=oR (ptr A o n) K:=rfl
theorem c4P(a:Addr)(m c:Nat):lJ prog .eql 24 24 false true (.slice (some a) m c) (.slice none 0 0)=some (.bool false):=by kernel_rfl
theorem a7L{v:Value}{a:Addr}{m c:Nat}(h:v=.slice (some a) m c)(K:Value→Prop):lV prog .eql 24 24 false true v (.slice none 0 0) K=oR (.bool false) K:=by
 subst h
 show kP (lJ prog .eql 24 24 false true (.slice (some a) m c) (.slice none 0 0)) K=_
 rw[c4P]
 rfl
theorem c0Y:lJ prog .eql 24 24 false true (.slice none 0 0) (.slice none 0 0)=some (.bool true):=by kernel_rfl
theorem a4Q(K:Value→Prop):lV prog .eql 24 24 false true (.slice none 0 0) (.slice none 0 0) K=oR (.bool true) K:=by
 show kP (lJ prog .eql 24 24 false true (.slice none 0 0) (.slice none 0 0)) K=_
 rw[c0Y]
 rfl
theorem b2F(v:Value)(xs:List Int)(hv:Sl 1 (one I) H v xs)(hl:xs.length<100000000):Fn prog 96 [v] H fun r H'=>St prog H H' [⟨r,1,xs.flatMap (one I)⟩]:=by
 have hxl:(xs.flatMap (one I)).length=xs.length:=by rw[nF,dU]
 rcases hv.rd with⟨rfl,h2⟩|⟨A,i,e,row,ty,rw',lo,ver,m,_,_,_,_,_,_,hvv⟩
 ·have hx:xs=[]:=by
   have:=congrArg List.length h2
   rw[hxl,eT]at this
   exact eG.1 (by omega)
  subst hx
  refine .aN func96 rfl (by kernel_rfl) (m:=8) rfl fun l hn g0=> ?_
  simp(disch:=omega) only[↓RA,RB,simprocAttr,hn,g0,a4Q]
  have hS1:=(sR H).nil 0
  simp only[RT]at hS1
  simp(disch:=omega) only[RB,simprocAttr,hn,c9e]
  exact hS1
 ·refine .aN func96 rfl (by kernel_rfl) (m:=8) rfl fun l hn g0=> ?_
  simp(disch:=omega) only[↓RA,RB,simprocAttr,hn,g0,a7L hvv]
  refine(sR H).bu uE fun w1 H1 hS1=> ?_
  simp only[RT]at hS1
  simp(disch:=omega) only[↓RA,RZ,simprocAttr,hn,g0]
  refine hS1.aq 0 rfl (hS1.sl hv).rd uE (by rw[hxl];simp;omega) fun w2 H2 hS2=> ?_
  simp only[RT]at hS2
  simp(disch:=omega) only[↓RA,RB,simprocAttr,hn,c9e]
  exact hS2
def lH:List Int→List Int→Int
 | [],[]=>0
 | [],_::_=>-1
 | _::_,[]=>1
 | a::l,b::m=>if kU a b=0 then lH l m else kU a b
theorem oL{a b:Int}:kU a b=0↔a=b:=by unfold kU;split<;>(try split)<;>omega
theorem qT(a:Int):kU a a=0:=oL.2 rfl
theorem rI:∀{u u' v v':List Int},u.length=u'.length→lH (u++v) (u'++v')=if lH u u'=0 then lH v v' else lH u u'
 | [],[],v,v',_=>by simp[lH]
 | [],_::_,_,_,h=>by cases h
 | _::_,[],_,_,h=>by cases h
 | a::u,b::u',v,v',h=>by
   have ih:=rI (u:=u) (u':=u') (v:=v) (v':=v') (by simpa using h)
   simp only[gr,lH]
   by_cases hc:kU a b=0
   ·simp only[hc,if_true]
    exact ih
   ·simp only[hc,if_false]
theorem yT:∀{j:Nat}{xs ys:List Int},j≤xs.length→j≤ys.length→(∀q,q<j→jB xs q=jB ys q)→lH xs ys=lH (xs.drop j) (ys.drop j)
 | 0,_,_,_,_,_=>rfl
 | j+1,[],_,h,_,_=>by simp at h
 | j+1,_::_,[],_,h,_=>by simp at h
 | j+1,a::xs,b::ys,h1,h2,h=>by
   have h0:a=b:=h 0 (by omega)
   rw[ik,ik,←yT (by simpa using h1) (by simpa using h2) (fun q hq=>h (q+1) (by omega)),h0]
   show(if kU b b=0 then lH xs ys else kU b b)=_
   rw[if_pos (qT b)]
theorem c2i{j:Nat}{xs ys:List Int}(h1:j<xs.length)(h2:j<ys.length)(h:∀q,q<j→jB xs q=jB ys q)(hc:kU (jB xs j) (jB ys j)≠0):lH xs ys=kU (jB xs j) (jB ys j):=by
 rw[yT (by omega) (by omega) h,qB xs j h1,qB ys j h2]
 exact if_neg hc
def a2O(r:Rn):List Int:=[(r.cps.length:Int),r.pl.1,r.pl.2]++r.cps++[r.tc.1,r.tc.2,r.stop]
def a7V(a b:Rn):Int:=lH (a2O a) (a2O b)
theorem a9s(a:Int)(l:List Int):orI (a::l)=if a=0 then orI l else a:=rfl
theorem c8a(a b:Int):lH [a] [b]=kU a b:=by
 show(if kU a b=0 then 0 else kU a b)=_
 split
 ·rename_i h;exact h.symm
 ·rfl
theorem c2n(a b:Rn):a7V a b=orI [kU a.cps.length b.cps.length,lH [a.pl.1,a.pl.2] [b.pl.1,b.pl.2],lH a.cps b.cps,lH [a.tc.1,a.tc.2] [b.tc.1,b.tc.2],kU a.stop b.stop]:=by
 have hr:∀r:Rn,a2O r=[(r.cps.length:Int)]++([r.pl.1,r.pl.2]++(r.cps++([r.tc.1,r.tc.2]++[r.stop]))):=fun r=>by simp[a2O]
 unfold a7V
 rw[hr,hr,rI (by rfl),c8a,a9s]
 by_cases hl:kU a.cps.length b.cps.length=0
 ·rw[if_pos hl,if_pos hl]
  have hl2:a.cps.length=b.cps.length:=by have:=oL.1 hl;omega
  rw[rI (by rfl),rI hl2,rI (by rfl),c8a]
  simp only[a9s]
  congr 3
  show kU a.stop b.stop=if kU a.stop b.stop=0 then 0 else kU a.stop b.stop
  split
  ·assumption
  ·rfl
 ·rw[if_neg hl,if_neg hl]
theorem a8R(x y:Int×Int):Fn prog 41 [.agg #[I x.1,I x.2],.agg #[I y.1,I y.2]] H fun r H'=>r=I (lH [x.1,x.2] [y.1,y.2])∧St prog H H' []:=by
 refine .aE func41 rfl (by kernel_rfl) (m:=17) rfl fun l hn g0 g1=> ?_
 simp(disch:=omega) only[↓RA,RB,simprocAttr,g0]
 refine(sR H).eNew 2 [I x.1,I x.2] rfl rfl rfl mP fun A1 H1 hS1=> ?_
 simp only[RT]at hS1
 simp(disch:=omega) only[↓RA,RB,simprocAttr,g1]
 refine hS1.eNew 2 [I y.1,I y.2] rfl rfl rfl mP fun A2 H2 hS2=> ?_
 simp only[RT]at hS2
 simp(disch:=omega) only[↓RA,RB,simprocAttr]
 refine Wp.aJ kQ [(6,0),(8,0)] (by kernel_rfl) (by kernel_rfl) ?_
 simp(disch:=omega) only[↓RA,RZ,simprocAttr,hn,hS2.ld 0 rfl,hS2.ld 1 rfl]
 refine hS2.cF (pC x.1 y.1) fun H3 hS3=> ?_
 simp(disch:=omega) only[↓RA,RZ,simprocAttr,hn,hS3.ld 0 rfl,hS3.ld 1 rfl]
 refine hS3.cF (pC x.2 y.2) fun H4 hS4=> ?_
 simp(disch:=omega) only[↓RA,RB,simprocAttr,hn]
 refine hS4.aj [I (kU x.1 y.1),I (kU x.2 y.2)] uE a2h rfl rfl (by simp[Value.cells]) rfl rfl (by decide) (by decide) fun w1 H5 hS5=> ?_
 simp only[RT]at hS5
 simp(disch:=omega) only[↓RA,RZ,simprocAttr,hn]
 refine hS5.cF (b0E w1 [kU x.1 y.1,kU x.2 y.2] (hS5.az 2 rfl (rF _)) (by simp)) fun H6 hS6=> ?_
 simp(disch:=omega) only[↓RA,RZ,simprocAttr,hn,hS2.ld 0 rfl,hS2.ld 1 rfl,d1o]
 exact⟨rfl,hS6.forget⟩
theorem c2y(v w:Value)(xs ys:List Int)(hv:Sl 1 (one I) H v xs)(hw:Sl 1 (one I) H w ys)(hl:xs.length<1000000000)(hl2:ys.length<1000000000):Fn prog 42 [v,w] H fun r H'=>r=I (lH xs ys)∧St prog H H' []:=by
 refine .aE func42 rfl (by kernel_rfl) (m:=36) rfl fun l hn g0 g1=> ?_
 simp(disch:=omega) only[↓RA,RZ,simprocAttr,hn,g0,((sR H).sl hv).len]
 refine Wp.ak (fun n l H'=>l.length=36∧get l 0=v∧get l 1=w∧get l 9=v∧get l 10=I xs.length∧∃(j:Nat),(n+j=xs.length∧j≤ys.length∧∀q,q<j→jB xs q=jB ys q)∧get l 11=I j∧St prog H H' []) xs.length ?_ ?_
 ·simp(disch:=omega) only[RB,RC,simprocAttr,hn,g0,g1]
  exact⟨0,⟨by omega,fA _,fun q hq=>absurd hq (eu _)⟩,rfl,(sR H)⟩
 rintro n l H1⟨hn,g0,g1,g9,wW,j,⟨hj,hjy,hz⟩,g11,hS1⟩
 simp(disch:=omega) only[↓RA,RB,simprocAttr,hn,wW,g11]
 refine jA (fun q1=> ?_) (fun q1=> ?_)
 ·simp(disch:=omega) only[↓RA,RZ,simprocAttr,hn,g1,g9,g11,(hS1.sl hv).idx,(hS1.sl hv).ld,one,(hS1.sl hw).len,q1]
  refine jA (fun q2=> ?_) (fun q2=> ?_)
  ·simp(disch:=omega) only[↓RA,RZ,simprocAttr,hn,c3J,q1,q2]
   refine⟨?_,hS1⟩
   rw[yT (j:=j) (by omega) hjy hz,qB xs j (by omega),show ys.drop j=[]from List.drop_eq_nil_of_le (by omega)]
   rfl
  simp(disch:=omega) only[↓RA,RZ,simprocAttr,hn,g1,(hS1.sl hw).idx,(hS1.sl hw).ld,one,q1,q2]
  refine hS1.cF (pC (jB xs j) (jB ys j)) fun H2 hS2=> ?_
  simp(disch:=omega) only[↓RA,RZ,simprocAttr,hn,q1,q2]
  refine jA (fun q3=> ?_) (fun q3=> ?_)
  ·simp(disch:=omega) only[↓RA,RZ,simprocAttr,hn,c3J,q1,q2,q3]
   exact⟨by rw[c2i (by omega) (by omega) hz q3],hS2⟩
  have q3':jB xs j=jB ys j:=oL.1 (dX.1 q3)
  simp(disch:=omega) only[↓RA,RZ,simprocAttr,hn,g0,g1,g9,wW,g11,q1,q2,q3]
  exact⟨n-1,by omega,j+1,⟨by omega,by omega,fun q hq=>by rcases dK.1 hq with e|e;(· exact hz q e);(· rw[e];exact q3')⟩,by simp,hS2⟩
 have hjj:j=xs.length:=by omega
 have hd:lH xs ys=lH [] (ys.drop j):=by rw[yT (j:=j) (by omega) hjy hz,hjj,iR]
 simp(disch:=omega) only[↓RA,RZ,simprocAttr,hn,g0,g1,(hS1.sl hv).len,(hS1.sl hw).len,q1]
 refine jA (fun q4=> ?_) (fun q4=> ?_)
 ·simp(disch:=omega) only[↓RA,RZ,simprocAttr,hn,c3J,q1,q4]
  refine⟨?_,hS1⟩
  rw[hd,qB ys j (by omega)]
  rfl
 simp(disch:=omega) only[↓RA,RZ,simprocAttr,hn,c3J,q1,q4]
 refine⟨?_,hS1⟩
 rw[hd,List.drop_eq_nil_of_le (by omega)]
 rfl
theorem b4o(a b:Rn)(ha:a.In H)(hb:b.In H):Fn prog 11 [a.v,b.v] H fun r H'=>r=I (a7V a b)∧St prog H H' []:=by
 have hal:=ha.2
 have hbl:=hb.2
 refine .aE func11 rfl (by kernel_rfl) (m:=34) rfl fun l hn g0 g1=> ?_
 simp(disch:=omega) only[↓RA,RB,simprocAttr,g0]
 refine(sR H).eNew 6 [I a.pl.1,I a.pl.2,a.cv,I a.tc.1,I a.tc.2,I a.stop] rfl rfl (by simp[OC,((sR H).sl ha.1).cells.2.1]) pV fun A1 H1 hS1=> ?_
 simp only[RT]at hS1
 simp(disch:=omega) only[↓RA,RB,simprocAttr,g1]
 refine hS1.eNew 6 [I b.pl.1,I b.pl.2,b.cv,I b.tc.1,I b.tc.2,I b.stop] rfl rfl (by simp[OC,(hS1.sl hb.1).cells.2.1]) pV fun A2 H2 hS2=> ?_
 simp only[RT]at hS2
 simp(disch:=omega) only[↓RA,RB,simprocAttr]
 refine Wp.aJ kQ [(8,0),(10,0),(13,0),(13,7),(15,0),(15,7),(18,0),(18,7),(18,12),(20,0),(20,7),(20,12),(23,0),(23,7),(23,12),(23,17),(25,0),(25,7),(25,12),(25,17)] (by kernel_rfl) (by kernel_rfl) ?_
 simp(disch:=omega) only[↓RA,RZ,simprocAttr,hn,hS2.ld 0 rfl,(hS2.sl ha.1).len,hS2.ld 1 rfl,(hS2.sl hb.1).len]
 refine hS2.cF (pC a.cps.length b.cps.length) fun H3 hS3=> ?_
 simp(disch:=omega) only[↓RA,RZ,simprocAttr,hn,hS3.ae 0 rfl,hS3.ae 1 rfl]
 refine hS3.cF (a8R a.pl b.pl) fun H4 hS4=> ?_
 simp(disch:=omega) only[↓RA,RZ,simprocAttr,hn,hS4.ld 0 rfl,hS4.ld 1 rfl]
 refine hS4.cF (c2y a.cv b.cv a.cps b.cps (hS4.sl ha.1) (hS4.sl hb.1) (by omega) (by omega)) fun H5 hS5=> ?_
 simp(disch:=omega) only[↓RA,RZ,simprocAttr,hn,hS5.ae 0 rfl,hS5.ae 1 rfl]
 refine hS5.cF (a8R a.tc b.tc) fun H6 hS6=> ?_
 simp(disch:=omega) only[↓RA,RZ,simprocAttr,hn,hS6.ld 0 rfl,hS6.ld 1 rfl]
 refine hS6.cF (pC a.stop b.stop) fun H7 hS7=> ?_
 simp(disch:=omega) only[↓RA,RB,simprocAttr,hn]
 refine hS7.aj [I (kU a.cps.length b.cps.length),I (lH [a.pl.1,a.pl.2] [b.pl.1,b.pl.2]),I (lH a.cps b.cps),I (lH [a.tc.1,a.tc.2] [b.tc.1,b.tc.2]),I (kU a.stop b.stop)] uE a2h rfl rfl (by simp[Value.cells]) rfl rfl (by decide) (by decide) fun w1 H8 hS8=> ?_
 simp only[RT]at hS8
 simp(disch:=omega) only[↓RA,RZ,simprocAttr,hn]
 refine hS8.cF (b0E w1 [kU a.cps.length b.cps.length,lH [a.pl.1,a.pl.2] [b.pl.1,b.pl.2],lH a.cps b.cps,lH [a.tc.1,a.tc.2] [b.tc.1,b.tc.2],kU a.stop b.stop] (hS8.az 2 rfl (rF _)) (by simp)) fun H9 hS9=> ?_
 rw[←c2n]
 simp(disch:=omega) only[↓RA,RZ,simprocAttr,hn,hS2.ae 0 rfl,hS2.ae 1 rfl,hS2.ld 0 rfl,hS3.ld 0 rfl,hS2.ld 1 rfl,hS3.ld 1 rfl,hS3.ae 0 rfl,hS4.ae 0 rfl,hS3.ae 1 rfl,hS4.ae 1 rfl,hS4.ld 0 rfl,hS5.ld 0 rfl,hS4.ld 1 rfl,hS5.ld 1 rfl,d1M]
 exact hS9.forget
end Go.Ds
namespace Go.Ds
open Go.Proofs
variable {H:Heap}
set_option maxRecDepth 10000
set_option maxHeartbeats 1000000
def h3(r:Rn):List Int:=[(r.cps.length:Int),r.pl.1,r.pl.2]
def t3(r:Rn):List Int:=[r.tc.1,r.tc.2,r.stop]
end Go.Ds
namespace Go.Ds
open Go.Proofs
set_option maxRecDepth 10000
theorem b8I(a b:Int):kU b a=-kU a b:=by
 unfold kU
 repeat' split
 all_goals omega
theorem sI{a b:Int}:kU a b=-1↔a<b:=by
 unfold kU
 repeat' split
 all_goals omega
theorem b9j(a b:Int):kU a b=-1∨kU a b=0∨kU a b=1:=by
 unfold kU
 repeat' split
 all_goals omega
theorem oP(a b:Int)(l m:List Int):lH (a::l) (b::m)=if kU a b=0 then lH l m else kU a b:=rfl
theorem mU:∀{l m:List Int},lH l m=0↔l=m
 | [],[]=>by simp[lH]
 | [],_::_=>by simp[lH]
 | _::_,[]=>by simp[lH]
 | a::l,b::m=>by
   rw[oP,fG]
   by_cases h:kU a b=0
   ·rw[if_pos h]
    exact⟨fun k=>⟨oL.1 h,mU.1 k⟩,fun k=>mU.2 k.2⟩
   ·rw[if_neg h]
    exact⟨fun k=>absurd k h,fun k=>absurd (oL.2 k.1) h⟩
theorem rP:∀(l m:List Int),lH m l=-lH l m
 | [],[]=>rfl
 | [],_::_=>rfl
 | _::_,[]=>rfl
 | a::l,b::m=>by
   rw[oP,oP,b8I a b,rP l m]
   by_cases h:kU a b=0
   ·rw[if_pos (by omega),if_pos h]
   ·rw[if_neg (by omega),if_neg h]
theorem rQ:∀(l m:List Int),lH l m=-1∨lH l m=0∨lH l m=1
 | [],[]=>.inr (.inl rfl)
 | [],_::_=>.inl rfl
 | _::_,[]=>.inr (.inr rfl)
 | a::l,b::m=>by
   rw[oP]
   split
   ·exact rQ l m
   ·exact b9j a b
theorem tJ:∀{l m k:List Int},lH l m=-1→lH m k=-1→lH l k=-1
 | [],[],_,h,_=>by cases h
 | [],_::_,[],_,h=>by cases h
 | [],_::_,_::_,_,_=>rfl
 | _::_,[],_,h,_=>by cases h
 | _::_,_::_,[],_,h=>by cases h
 | a::l,b::m,c::k,h1,h2=>by
   rw[oP]at h1 h2 ⊢
   by_cases e1:kU a b=0
   ·rw[if_pos e1]at h1
    obtain rfl:=oL.1 e1
    by_cases e2:kU a c=0
    ·rw[if_pos e2]at h2 ⊢
     exact tJ h1 h2
    ·rw[if_neg e2]at h2 ⊢
     exact h2
   ·rw[if_neg e1]at h1
    by_cases e2:kU b c=0
    ·obtain rfl:=oL.1 e2
     rw[if_neg e1]
     exact h1
    ·rw[if_neg e2]at h2
     have h3:=sI.1 h1
     have h4:=sI.1 h2
     have h5:kU a c=-1:=sI.2 (by omega)
     rw[h5]
     rfl
def Rp.rn(r:Rp)(cv:Value):Rn:=⟨r.pl,cv,r.cps,r.tc,r.stop⟩
def b0Z(r:Rp):List Int:=[(r.cps.length:Int),r.pl.1,r.pl.2]++r.cps++[r.tc.1,r.tc.2,r.stop]
theorem a9a{a b:Rp}(h:b0Z a=b0Z b):a=b:=by
 obtain⟨⟨p1,p2⟩,c,⟨t1,t2⟩,z⟩:=a
 obtain⟨⟨q1,q2⟩,d,⟨u1,u2⟩,y⟩:=b
 simp only[b0Z,gr,fH,fG]at h
 obtain⟨h1,h2,h3,h4⟩:=h
 have hl:c.length=d.length:=by omega
 obtain⟨h5,h6⟩:=List.append_inj h4 hl
 simp only[fG,and_true]at h6
 obtain⟨h7,h8,h9⟩:=h6
 rw[h2,h3,h5,h7,h8,h9]
def wT(a b:Rp):Int:=lH (b0Z a) (b0Z b)
theorem a6i{a b:Rp}:wT a b=0↔a=b:=⟨fun h=>a9a (mU.1 h),fun h=>by rw[h];exact mU.2 rfl⟩
theorem sV{s:Sn}{pl:Ct}{cps:List Int}{a:Ct}{r:Rp}(h:r∈lY s pl cps a):r.pl=pl∧r.cps=cps∧r.tc=a:=by
 unfold lY at h
 split at h
 ·obtain⟨i,_,rfl⟩:=dP.1 h
  exact⟨rfl,rfl,rfl⟩
 ·cases h
theorem a4j{s:Sn}:∀(n:Nat){pl:Ct}{cps:List Int}{a:Ct}{seen:List Ct}{r:Rp},r∈full s n pl cps a seen→r.pl=pl∧∃t,r.cps=cps++t:=by
 intro n
 induction n with
 | zero=>
   intro pl cps a seen r h
   obtain⟨h1,h2,_⟩:=sV h
   exact⟨h1,[],by simp[h2]⟩
 | succ n ih=>
   intro pl cps a seen r h
   unfold full at h
   rcases eo.1 h with h|h
   ·obtain⟨h1,h2,_⟩:=sV h
    exact⟨h1,[],by simp[h2]⟩
   ·obtain⟨i,_,h⟩:=eM.1 h
    split at h
    ·obtain⟨h1,t,h2⟩:=ih h
     exact⟨h1,(i:Int)::t,by rw[h2];simp⟩
    ·cases h
theorem a9b(s:Sn)(pl:Ct)(cps:List Int)(a:Ct):(lY s pl cps a).Pairwise (·≠·):=by
 unfold lY
 split
 ·rw[fS]
  unfold stpL a1Q
  rw[fS]
  refine List.Pairwise.filter _ (List.pairwise_lt_range.imp fun h e=> ?_)
  simp only[Rp.mk.injEq,true_and]at e
  omega
 ·exact .nil
theorem c3B{s:Sn}:∀(n:Nat){pl:Ct}{cps:List Int}{a:Ct}{seen:List Ct},(full s n pl cps a seen).Pairwise (·≠·):=by
 intro n
 induction n with
 | zero=>intro pl cps a seen;exact a9b _ _ _ _
 | succ n ih=>
   intro pl cps a seen
   unfold full
   rw[fp]
   have hm:∀i,∀r∈(if onB s cps a seen i then full s n pl (cps++[(i:Int)]) (stC s i a) (seen++[stC s i a])else[]),∃t,r.cps=cps++(i:Int)::t:=fun i r h=>by
    split at h
    ·obtain⟨_,t,h2⟩:=a4j n h
     exact⟨t,by rw[h2];simp⟩
    ·cases h
   refine⟨a9b _ _ _ _,?_,fun x hx y hy e=> ?_⟩
   ·rw[List.pairwise_flatMap]
    refine⟨fun i _=> ?_,List.pairwise_lt_range.imp fun{i j}hij x hx y hy e=> ?_⟩
    ·split
     ·exact ih
     ·exact .nil
    ·obtain⟨t,h1⟩:=hm i x hx
     obtain⟨u,h2⟩:=hm j y hy
     rw[e,h2]at h1
     have h3:=List.append_cancel_left h1
     rw[fG]at h3
     omega
   ·obtain⟨i,_,hy⟩:=eM.1 hy
    obtain⟨t,h1⟩:=hm i y hy
    have h2:=(sV hx).2.1
    rw[e,h1]at h2
    have h3:=congrArg List.length h2
    simp at h3
theorem b3N{s:Sn}:(pQ s).Pairwise (·≠·):=by
 unfold pQ
 rw[List.pairwise_flatMap]
 refine⟨fun c _=>c3B _,(a5Z s.ks).imp fun{a b}hab x hx y hy e=> ?_⟩
 have h1:=(a4j _ hx).1
 have h2:=(a4j _ hy).1
 rw[e,h2]at h1
 rw[h1]at hab
 exact b4W hab
end Go.Ds
namespace Go.Ds
open Go.Proofs Go.Proofs.Tryz
variable {H:Heap}
set_option maxRecDepth 10000
set_option maxHeartbeats 1000000
def d1i(B:Base)(v:Value)(xs:List Int):Prop:=∀{H1:Heap}{os:List Ob},St prog B H1 os→Slx 1 (one I) H1 (nb (os.map (·.v))) v xs
def Rn.rp(r:Rn):Rp:=⟨r.pl,r.cps,r.tc,r.stop⟩
theorem a7W{s:Sn}(hf:s.Fit)(a:Ct):(stpL s a).length≤60:=by
 refine dZ (b4b s a _) ?_
 by_cases h:a.1.toNat<s.o.dvs.length
 ·exact hf.aK.stops _ h
 ·rw[show jB s.o.dvs a.1.toNat=default from by unfold jB;simp[h]]
  decide
theorem c1z{s:Sn}(hf:s.Fit)(pl:Ct)(cps:List Int)(a:Ct):(lY s pl cps a).length≤60:=by
 unfold lY
 split
 ·rw[dU];exact a7W hf a
 ·simp
theorem Slx.bz{α:Type}{n:Nat}{cel:α→List Value}{v:Value}{xs:List α}{vs vs':List Value}(h:Slx n cel H (nb vs) v xs)(hs:∀v∈vs',v∈vs):Slx n cel H (nb vs') v xs:=⟨h.1,fun b hb v hv=>h.2 b hb v (hs v hv)⟩
theorem St.dj{B:Base}{os rest:List Ob}{α:Type}{cel:α→List Value}{v:Value}{xs:List α}(hS:St prog B H (os++rest))(i:Nat){m:Nat}(ho:rest[i]? =some ⟨v,m+1,xs.flatMap cel⟩)(hc:∀x,(cel x).length=m+1):Slx (m+1) cel H (nb (os.map (·.v))) v xs:=by
 refine⟨hS.az (os.length+i) (by rw[eI (by omega),fE];exact ho) hc,fun B hb=> ?_⟩
 rw[a6V]
 rintro⟨o,hm,hob⟩
 exact(fp.1 hS.sep).2.2 o hm _ (dR ho) B hob hb
theorem St.apart{B:Base}{os:List Ob}(hS:St prog B H os){i j:Nat}{o o':Ob}(hi:os[i]? =some o)(hj:os[j]? =some o')(hij:i<j){A:Nat}(h1:kX o.v=some A)(h2:kX o'.v=some A):False:=by
 obtain⟨hi1,rfl⟩:=dQ.1 hi
 obtain⟨hj1,rfl⟩:=dQ.1 hj
 exact eQ.1 hS.sep i j hi1 hj1 hij A h1 h2
theorem Que.snoc{o:Org}{q:List Ct}{c:Ct}(h:Que o q)(hc:nB o c=true)(hn:c∉q):Que o (q++[c]):=by
 refine⟨gN.2 ⟨h.1,by simp,fun a ha b hb e=> ?_⟩,fun x hx=> ?_⟩
 ·rw[dW]at hb
  exact hn (hb▸e▸ha)
 ·rcases eo.1 hx with h1|h1
  ·exact h.2 x h1
  ·rw[dW]at h1
   rw[h1]
   exact hc
def zU(s:Sn)(n:Nat)(pl:Ct)(cps:List Int)(a:Ct)(seen:List Ct)(q0:List Rp×Bool)(j:Nat):List Rp×Bool:=(List.range j).foldl (fun q i=>if q.2 then q else if uT s cps a seen i then a2P s n pl (cps++[(i:Int)]) (stC s i a) (seen++[stC s i a]) q else q) q0
theorem a1t(s:Sn)(n:Nat)(pl:Ct)(cps:List Int)(a:Ct)(seen:List Ct)(q0:List Rp×Bool)(j:Nat):zU s n pl cps a seen q0 (j+1)=if(zU s n pl cps a seen q0 j).2 then zU s n pl cps a seen q0 j else if uT s cps a seen j then a2P s n pl (cps++[(j:Int)]) (stC s j a) (seen++[stC s j a]) (zU s n pl cps a seen q0 j)else zU s n pl cps a seen q0 j:=by
 unfold zU
 rw[eR,gh]
 rfl
theorem a5W{s:Sn}{n:Nat}{pl:Ct}{cps:List Int}{a:Ct}{seen:List Ct}{q0:List Rp×Bool}{j:Nat}(h:(zU s n pl cps a seen q0 j).2=true):∀k,zU s n pl cps a seen q0 (j+k)=zU s n pl cps a seen q0 j
 | 0=>rfl
 | k+1=>by
   rw[←gI,a1t,a5W h k,if_pos h]
theorem b6c(s:Sn)(n:Nat)(pl:Ct)(cps:List Int)(a:Ct)(seen:List Ct)(q:List Rp×Bool):a2P s (n+1) pl cps a seen q=zU s n pl cps a seen (q.1++lY s pl cps a,q.2||decide (500<(q.1++lY s pl cps a).length)) s.o.cpls.length:=rfl
def wU(s:Sn)(r:Rn):List Rn:=(lY s r.pl r.cps r.tc).map fun p=>p.rn r.cv
theorem b4Y(s:Sn)(r:Rn):(wU s r).map Rn.rp=lY s r.pl r.cps r.tc:=by
 unfold wU
 rw[iM]
 exact List.map_id _
theorem c5f{s:Sn}{r:Rn}(h:r.cps=[])(h2:rY s r.pl.1=true):wU s r=[]:=by
 unfold wU lY
 rw[if_neg (by rw[h,h2];simp)]
 rfl
def zW(s:Sn)(r:Rn)(j:Nat):List Rn:=((stpL s r.tc).take j).map fun i=>⟨r.pl,r.cv,r.cps,r.tc,i⟩
theorem b0X{s:Sn}{r:Rn}(h:r.cps≠[]∨rY s r.pl.1=false):wU s r=zW s r (stpL s r.tc).length:=by
 unfold wU lY zW
 rw[if_pos h,iM,eS]
 rfl
theorem a5G(s:Sn)(r:Rn)(j:Nat)(h:j<(stpL s r.tc).length):zW s r (j+1)=zW s r j++[⟨r.pl,r.cv,r.cps,r.tc,jB (stpL s r.tc) j⟩]:=by
 unfold zW
 rw[nJ _ _ h,dY]
 rfl
theorem b8Q{s:Sn}{r e:Rn}(h:e∈wU s r):e.cv=r.cv∧e.cps=r.cps:=by
 unfold wU at h
 obtain⟨p,hp,rfl⟩:=dP.1 h
 exact⟨rfl,(sV hp).2.1⟩
theorem b8g{s:Sn}(hf:s.Fit)(r:Rn):(wU s r).length≤60:=by
 unfold wU
 rw[dU]
 exact c1z hf _ _ _
theorem c0I(l:List Rn):(l.flatMap Rn.cells).length=l.length*6:=by
 induction l with
 | nil=>rfl
 | cons x l ih=>rw[ec,dM,ih,eL,gJ];show 6+_=_;omega
theorem b6E{s:Sn}(hf:s.Fit){M:Nat}{kvs:List (Ct×Int)}(hD:MapD kvs (rU s))(FV:Nat):∀(d:Nat){B:Base}{H:Heap}(r:Rn)(sv:Value)(seen:List Ct)(ov:Value)(es:List Rn)(many:Bool),
 St prog B H [⟨ptr FV 0 13,0,[.string s.o.name,s.o.rv,s.o.dv,s.o.cv,s.sv,.int .u64 s.rg.cpl,.int .u64 s.rg.off,s.kv,I s.p.1,I s.p.2,.map (some M),ov,.bool many]⟩,⟨ov,6,es.flatMap Rn.cells⟩]→
 (∀{H1 os},St prog B H1 os→s.In H1∧OwnAt prog H1 ⟨.map (some M),0,KN kvs⟩∧Sl 2 mJ H1 sv seen)→d1i B r.cv r.cps→Que s.o seen→nB s.o r.tc=true→0≤r.pl.1→r.cps.length=seen.length→seen.length+d=1025→es.length≤90000→
 Fn prog 52 [ptr FV 0 13,r.v,sv] H fun q H'=>q=.tuple #[]∧∃(ov':Value)(new:List Rn)(many':Bool),(many'=false→(es++new).length≤500)∧((es++new).length≤es.length+60∨(es++new).length≤560)∧((es++new).map Rn.rp,many')=a2P s d r.pl r.cps r.tc seen (es.map Rn.rp,many)∧
  (∀e∈new,Slx 1 (one I) H' (nb [ptr FV 0 13,ov']) e.cv e.cps∧e.cps.length≤1024∧∀A,kX e.cv=some A→kX r.cv=some A∨B.H.length≤A)∧
  St prog B H' [⟨ptr FV 0 13,0,[.string s.o.name,s.o.rv,s.o.dv,s.o.cv,s.sv,.int .u64 s.rg.cpl,.int .u64 s.rg.off,s.kv,I s.p.1,I s.p.2,.map (some M),ov',.bool many']⟩,⟨ov',6,(es++new).flatMap Rn.cells⟩]:=by
 intro d
 induction d with
 | zero=>
   intro B H r sv seen ov es many hS hI hr hq hok hpl hrs hn hel
   have:=hq.len hf.aK
   omega
 | succ d ih=>
 intro B H r sv seen ov es many hS hI hr hq hok hpl hrs hn hel
 have hrl:r.cps.length<2000:=by have:=hq.len hf.aK;omega
 have hok2:=(lF s.o _).1 hok
 have hfi:=hf.aK
 have hcl:=hfi.clen
 refine .cJ func52 rfl (by kernel_rfl) (m:=137) rfl fun l hn g0 g1 g2=> ?_
 refine b4k (fun l H'=>l.length=137∧get l 0=(ptr FV 0 13)∧get l 2=sv∧∃(V4:Nat)(ov1:Value)(z:Int)(mn0:Bool),(mn0=(or many (decide (500<(es++wU s r).length))))∧get l 4=(ptr V4 0 6)∧St prog B H' [⟨ptr FV 0 13,0,[(.string s.o.name),s.o.rv,s.o.dv,s.o.cv,s.sv,(.int .u64 s.rg.cpl),(.int .u64 s.rg.off),s.kv,I s.p.1,I s.p.2,(.map (some M)),ov1,(.bool mn0)]⟩,⟨ov1,6,(es++wU s r).flatMap Rn.cells⟩,⟨ptr V4 0 6,0,[I r.pl.1,I r.pl.2,r.cv,I r.tc.1,I r.tc.2,I z]⟩]) ?_ ?_
 ·rintro l H1⟨hn,g0,g2,V4,ov1,z,mn0,hm0,g4,hS1⟩
  have hnl:=b8g hf r
  obtain⟨q0,hq0⟩:∃q0,q0=((es++wU s r).map Rn.rp,mn0):=⟨_,rfl⟩
  have hq1:q0=(es.map Rn.rp++lY s r.pl r.cps r.tc,many||decide (500<(es.map Rn.rp++lY s r.pl r.cps r.tc).length)):=by
   rw[hq0,hm0,dY,b4Y,dM,dM,dU,←b4Y s r,dU]
  have hF:a2P s (d+1) r.pl r.cps r.tc seen (es.map Rn.rp,many)=zU s d r.pl r.cps r.tc seen q0 s.o.cpls.length:=by rw[b6c,hq1]
  simp(disch:=omega) only[↓RA,RZ,simprocAttr,hn,g0,mF,mI,hS1.ld 0 rfl,((hI hS1).1.o.2.2.2.2.1).len]
  refine Wp.ak (fun n l H'=>l.length=137∧get l 0=(ptr FV 0 13)∧get l 2=sv∧get l 4=(ptr V4 0 6)∧get l 75=I s.o.cpls.length∧∃(j:Nat)(ov2:Value)(new:List Rn)(mn:Bool),(n+j=s.o.cpls.length∧((es++new).map Rn.rp,mn)=zU s d r.pl r.cps r.tc seen q0 j∧(∀e∈new,Slx 1 (one I) H' (nb [ptr FV 0 13,ov2,ptr V4 0 6]) e.cv e.cps∧e.cps.length≤1024∧∀A,kX e.cv=some A→kX r.cv=some A∨B.H.length≤A)∧(mn=false→(es++new).length≤500)∧((es++new).length≤es.length+60∨(es++new).length≤560))∧get l 76=I j∧St prog B H' [⟨ptr FV 0 13,0,[.string s.o.name,s.o.rv,s.o.dv,s.o.cv,s.sv,.int .u64 s.rg.cpl,.int .u64 s.rg.off,s.kv,I s.p.1,I s.p.2,.map (some M),ov2,.bool mn]⟩,⟨ov2,6,(es++new).flatMap Rn.cells⟩,⟨ptr V4 0 6,0,[I r.pl.1,I r.pl.2,r.cv,I r.tc.1,I r.tc.2,I z]⟩]) s.o.cpls.length ?_ ?_
  ·simp(disch:=omega) only[RB,RC,simprocAttr,hn,g0,g2,g4]
   refine⟨0,ov1,wU s r,mn0,⟨by omega,by rw[hq0];rfl,fun e he=> ?_,fun h=> ?_,.inl ?_⟩,rfl,hS1⟩
   ·obtain⟨e1,e2⟩:=b8Q he
    rw[e1,e2]
    exact⟨hr hS1,by have:=hq.len hfi;omega,fun A hA=>.inl hA⟩
   ·rw[h]at hm0
    cases many
    ·simpa using hm0
    ·simp at hm0
   ·rw[dM]
    omega
  rintro n l H2⟨hn,g0,g2,g4,g75,j,ov2,new,mn,⟨hj,hQ,hN,hL1,hL2⟩,g76,hS2⟩
  simp(disch:=omega) only[↓RA,RB,simprocAttr,hn,g75,g76]
  refine jA (fun q1=> ?_) (fun q1=> ?_)
  ·simp(disch:=omega) only[↓RA,RZ,simprocAttr,hn,g0,g76,mF,mI,hS2.ld 0 rfl,q1]
   refine kA (fun q2=> ?_) (fun q2=> ?_)
   ·have hst:zU s d r.pl r.cps r.tc seen q0 s.o.cpls.length=zU s d r.pl r.cps r.tc seen q0 j:=by
     have:=a5W (s:=s) (n:=d) (pl:=r.pl) (cps:=r.cps) (a:=r.tc) (seen:=seen) (q0:=q0) (j:=j) (by rw[←hQ];exact q2) n
     rw[←hj,Nat.add_comm n j]
     exact this
    simp(disch:=omega) only[↓RA,RZ,simprocAttr,c8H,q1,q2]
    exact⟨ov2,new,mn,hL1,hL2,by rw[hF,hst,hQ],fun e he=>⟨(hN e he).1.bz (by simp),(hN e he).2⟩,hS2.pick [0,1] (by decide) rfl⟩
   have hmf:mn=false:=by simpa using q2
   have hel2:=hL1 hmf
   have hl0:decide ((r.cps.length:Int)=0)=decide (r.cps.length=0):=decide_eq_decide.2 (by omega)
   have hpre:=hS2
   obtain⟨B1,hBB1,hS3⟩:=hS2.aA (os:=[⟨ptr FV 0 13,0,_⟩,⟨ov2,6,_⟩,⟨ptr V4 0 6,0,_⟩])
   have hun:∀{H1 os},St prog B1 H1 os→St prog B H1 os:=fun h=>hpre.ab hBB1 h
   simp(disch:=omega) only[↓RA,RC,simprocAttr,q1,q2]
   refine Wp.drw kQ (by kernel_rfl) ?_
   simp(disch:=omega) only[↓RA,RZ,simprocAttr,hn,g0,g4,mF,mI,hS3.ae 0 rfl,hS3.ae 2 rfl,hS3.ld 2 rfl,((hr (hS2.ab hBB1 hS3)).1).len,q2,hl0]
   refine hS3.cF (vF s (hI (hS2.ab hBB1 hS3)).1 hf j r.tc (decide (r.cps.length=0))) fun H3 hS4=> ?_
   simp(disch:=omega) only[↓RA,RZ,simprocAttr,hn]
   refine hS4.eNew 2 [I 0,I 0] rfl rfl rfl mP fun A1 H4 hS5=> ?_
   simp only[RT]at hS5
   simp(disch:=omega) only[↓RA,RB,simprocAttr,hn]
   refine hS5.aa 3 rfl [I (stC s j r.tc).1,I (stC s j r.tc).2] rfl rfl mP (by simp) fun H5 hS6=> ?_
   simp only[RT]at hS6
   simp(disch:=omega) only[↓RA,RB,simprocAttr,hn]
   refine Wp.drw kQ (by kernel_rfl) ?_
   simp(disch:=omega) only[↓RA,RZ,simprocAttr,hn,g0,mF,mI,hS6.ld 0 rfl,hS6.ae 3 rfl,q2]
   refine(St.aT (((hI (hS2.ab hBB1 hS6)).2.1))).aX (k:=stC s j r.tc) 0 rfl wX (fun _=>rfl) ?_
   simp(disch:=omega) only[↓RA,RZ,simprocAttr,hn]
   have hno:uT s r.cps r.tc seen j=false→((es++new).map Rn.rp,mn)=zU s d r.pl r.cps r.tc seen q0 (j+1):=fun h=>by rw[a1t,←hQ,if_neg (by simp[hmf]),h,if_neg (by simp)]
   have hkp:∀{H1 os},St prog B1 H1 os→∀e∈new,Slx 1 (one I) H1 (nb (os.map (·.v))) e.cv e.cps:=fun h e he=>(hN e he).1.step (h.kept hBB1)
   refine lI (fun q3=> ?_) (fun q3=> ?_)
   ·simp(disch:=omega) only[↓RA,RZ,simprocAttr,hn,g0,g2,g4,g75,g76,q3]
    refine⟨n-1,by omega,j+1,ov2,new,mn,⟨by omega,hno (by unfold uT onB;rw[show ldB s j r.tc (decide (r.cps.length=0))=false from by simpa using q3];simp),fun e he=>⟨(hkp hS6 e he).bz (by simp),(hN e he).2⟩,hL1,hL2⟩,by simp,?_⟩
    exact(hS2.ab hBB1 hS6).pick [0,1,2] (by decide) rfl
   have hld:ldB s j r.tc (decide (r.cps.length=0))=true:=by simpa using q3
   simp(disch:=omega) only[↓RA,RZ,simprocAttr,hn,q3]
   refine lI (fun q4=> ?_) (fun q4=> ?_)
   ·simp(disch:=omega) only[↓RA,RZ,simprocAttr,hn,g0,g2,g4,g75,g76,q3,q4]
    refine⟨n-1,by omega,j+1,ov2,new,mn,⟨by omega,hno (by unfold uT;rw[a3b hD (t:=stC s j r.tc) (by simpa using q4)];simp),fun e he=>⟨(hkp hS6 e he).bz (by simp),(hN e he).2⟩,hL1,hL2⟩,by simp,?_⟩
    exact(hS2.ab hBB1 hS6).pick [0,1,2] (by decide) rfl
   have hkg:(zA kvs (stC s j r.tc)).isSome=true:=by simpa using q4
   simp(disch:=omega) only[↓RA,RZ,simprocAttr,hn,g2,hS6.ae 3 rfl,q3,q4]
   refine hS6.cF (a4d sv seen (hI (hS2.ab hBB1 hS6)).2.2 (by omega) (stC s j r.tc)) fun H6 hS7=> ?_
   simp(disch:=omega) only[↓RA,RB,simprocAttr,hn,q3,q4]
   refine jA (fun q5=> ?_) (fun q5=> ?_)
   ·simp(disch:=omega) only[↓RA,RZ,simprocAttr,hn,g0,g2,g4,g75,g76,q3,q4,q5]
    refine⟨n-1,by omega,j+1,ov2,new,mn,⟨by omega,hno (by unfold uT onB;rw[decide_eq_true q5];simp),fun e he=>⟨(hkp hS7 e he).bz (by simp),(hN e he).2⟩,hL1,hL2⟩,by simp,?_⟩
    exact(hS2.ab hBB1 hS7).pick [0,1,2] (by decide) rfl
   have hnr:uT s r.cps r.tc seen j=true:=by
    obtain⟨e,he1,_⟩:=a0S hD hkg
    unfold uT onB
    rw[hld,he1,decide_eq_false q5]
    rfl
   have hsc:=xJ hf hld
   have hql:=hq.len hfi
   simp(disch:=omega) only[↓RA,RZ,simprocAttr,q3,q4,q5]
   refine Wp.aJ kQ [(1,5),(1,8),(8,0),(8,5)] (by kernel_rfl) (by kernel_rfl) ?_
   simp(disch:=omega) only[↓RA,RZ,simprocAttr,hn,g4,hS7.ae 2 rfl,hS7.ld 2 rfl]
   refine jG ((b2F r.cv r.cps (hr (hS2.ab hBB1 hS7)).1 (by omega)).tr) ?_
   rintro r H7⟨-,hT3⟩
   have hS8:=hS7.trans hT3
   simp only[RT]at hS8
   obtain⟨cw,rfl⟩:∃w,w=r:=⟨r,rfl⟩
   simp(disch:=omega) only[↓RA,RB,simprocAttr,hn]
   refine hS8.aj [I j] uE a2h rfl rfl (by simp[Value.cells]) rfl rfl (by decide) (by decide) fun w1 H8 hS9=> ?_
   simp only[RT]at hS9
   simp(disch:=omega) only[↓RA,RZ,simprocAttr,hn]
   refine hS9.aq 4 rfl (hS9.rd 5 rfl) uE (by rw[nF,dU];simp;omega) fun w2 H9 hS10=> ?_
   simp only[RT]at hS10
   simp(disch:=omega) only[↓RA,RZ,simprocAttr,hn,hS10.ae 3 rfl,b0Y (hS10.rd 4 rfl).cells]
   refine hS10.eNew 6 [I 0,I 0,(.slice none 0 0),I 0,I 0,I 0] rfl rfl rfl pV fun A2 H10 hS11=> ?_
   simp only[RT]at hS11
   simp(disch:=omega) only[↓RA,RB,simprocAttr,hn]
   refine hS11.aa 6 rfl [I r.pl.1,I r.pl.2,w2,I (stC s j r.tc).1,I (stC s j r.tc).2,I 0] rfl (by simp[OC,(hS11.rd 4 rfl).cells.2.1]) pV (by simp) fun H11 hS12=> ?_
   simp only[RT]at hS12
   simp(disch:=omega) only[↓RA,RZ,simprocAttr,hn,hS8.ae 2 rfl,hS10.ae 2 rfl,hS7.ae 3 rfl,hS8.ae 3 rfl]
   refine Wp.aJ kQ [(1,4),(1,7),(4,0)] (by kernel_rfl) (by kernel_rfl) ?_
   simp(disch:=omega) only[↓RA,RZ,simprocAttr,hn,g0,g2,hS12.ae 6 rfl]
   refine jG ((b2Y sv seen (hI (hS2.ab hBB1 hS12)).2.2 (by omega)).tr) ?_
   rintro r H12⟨-,hT4⟩
   have hS13:=hS12.trans hT4
   simp only[RT]at hS13
   obtain⟨sw,rfl⟩:∃w,w=r:=⟨r,rfl⟩
   simp(disch:=omega) only[↓RA,RZ,simprocAttr,hn,hS13.ae 3 rfl]
   refine hS13.aj [I (stC s j r.tc).1,I (stC s j r.tc).2] wO a9i rfl rfl (by simp[Value.cells]) rfl rfl (by decide) (by decide) fun w3 H13 hS14=> ?_
   simp only[RT]at hS14
   simp(disch:=omega) only[↓RA,RZ,simprocAttr,hn]
   refine hS14.aq 7 rfl (hS14.rd 8 rfl) wO (by rw[show(seen.flatMap mJ).length=seen.length*2 from jN seen];simp;omega) fun w4 H14 hS15=> ?_
   simp only[RT]at hS15
   simp(disch:=omega) only[↓RA,RZ,simprocAttr,hn]
   have hfm:r.cps.flatMap (one I)++[I j]=(r.cps++[(j:Int)]).flatMap (one I):=by rw[dV];rfl
   have hfs:seen.flatMap mJ++[I (stC s j r.tc).1,I (stC s j r.tc).2]=(seen++[stC s j r.tc]).flatMap mJ:=by rw[dV];rfl
   rw[hfm,hfs]at hS15
   have hSc:=hS15
   have hM1:=hS15.pick (os':=[⟨ptr FV 0 13,0,_⟩,⟨ov2,6,_⟩]) [0,1] (by decide) rfl
   have hR1:=hS15.pick (os':=[⟨ptr FV 0 13,0,_⟩,⟨ov2,6,_⟩,⟨ptr V4 0 6,0,_⟩,⟨ptr A1 0 2,0,_⟩,⟨w2,1,_⟩,⟨w1,1,_⟩,⟨ptr A2 0 6,0,_⟩,⟨w4,2,_⟩,⟨w3,2,_⟩]) [0,1,2,3,4,5,6,7,8] (by decide) rfl
   refine jG (ih ⟨r.pl,w2,r.cps++[(j:Int)],stC s j r.tc,0⟩ w4 (seen++[stC s j r.tc]) ov2 (es++new) mn hM1.aR (fun h=>⟨(hI (hun (hR1.frame h.forget))).1,(hI (hun (hR1.frame h.forget))).2.1,(hR1.frame h.forget).az 5 rfl lG⟩) (fun h=>St.dj (rest:=[_,_,⟨w2,0+1,(r.cps++[(j:Int)]).flatMap (one I)⟩,_,_,_,_]) (St.frame (ls:=[_,_]) hR1 h) 2 rfl (fun _=>rfl)) (hq.snoc hsc q5) hsc hpl (by simp;omega) (by simp;omega) (by omega)) ?_
   rintro r H15⟨rfl,ov3,new2,mn2,hM1,hM2,hM3,hM4,hT5⟩
   have hS16:=hR1.frame hT5
   simp only[RT]at hS16
   simp(disch:=omega) only[↓RA,RZ,simprocAttr,hn,g0,g2,g4,g75,g76,hS13.ae 6 rfl,hS15.ae 6 rfl,hS12.ae 3 rfl]
   have hl0:B.H.length≤H15.length:=((hS2.ab hBB1 hS16)).len
   refine⟨n-1,by omega,j+1,ov3,new++new2,mn2,⟨by omega,?_,fun e he=> ?_,fun h=> ?_,?_⟩,by simp,?_⟩
   ·rw[a1t,←hQ,if_neg (by simp[hmf]),if_pos hnr,←hM3,ef]
   ·rcases eo.1 he with he|he
    ·exact⟨(hkp hS16 e he).bz (by simp),(hN e he).2⟩
    ·obtain⟨h1,h0,h2⟩:=hM4 e he
     refine⟨⟨h1.1,fun A hA v hv=> ?_⟩,h0,fun A hA=> ?_⟩
     ·simp only[ew,eO,or_false]at hv
      rcases hv with rfl|rfl|rfl
      ·exact h1.2 A hA _ (by simp)
      ·exact h1.2 A hA _ (by simp)
      ·intro hV
       rcases h2 A hA with h3|h3
       ·exact hSc.apart (i:=2) (j:=4) rfl rfl (by decide) hV h3
       ·exact absurd ((hSc.own _ (dR (i:=2) rfl)).lt hV) (Nat.not_lt.2 h3)
     ·refine .inr ?_
      rcases h2 A hA with h3|h3
      ·rcases hSc.new _ (dR (i:=4) rfl) A h3 with h4|h4
       ·rw[hBB1]at h4
        exact dZ hpre.len h4
       ·rw[hBB1]at h4
        obtain⟨o,ho,hob⟩:=h4
        simp only[ew,eO,or_false]at ho
        rcases ho with rfl|rfl|rfl
        ·exact(hSc.apart (i:=0) (j:=4) rfl rfl (by decide) hob h3).elim
        ·exact(hSc.apart (i:=1) (j:=4) rfl rfl (by decide) hob h3).elim
        ·exact(hSc.apart (i:=2) (j:=4) rfl rfl (by decide) hob h3).elim
      ·exact dZ (hun hSc).len h3
   ·have:=hM1 h
    rw[ef]at this
    exact this
   ·have h5:(es++new++new2).length≤560:=by omega
    rw[ef]at h5
    exact .inr h5
   ·rw[←ef]
    exact(hS2.ab hBB1 hS16).pick [0,1,2] (by decide) rfl
  have hjj:j=s.o.cpls.length:=by omega
  simp(disch:=omega) only[↓RA,RZ,simprocAttr,c8H,q1]
  exact⟨ov2,new,mn,hL1,hL2,by rw[hF,←hjj,hQ],fun e he=>⟨(hN e he).1.bz (by simp),(hN e he).2⟩,hS2.pick [0,1] (by decide) rfl⟩
 refine c2D (fun l H'=>l.length=137∧get l 0=(ptr FV 0 13)∧get l 2=sv∧∃(V4:Nat)(ov1:Value)(z:Int),get l 4=(ptr V4 0 6)∧St prog B H' [⟨ptr FV 0 13,0,[(.string s.o.name),s.o.rv,s.o.dv,s.o.cv,s.sv,(.int .u64 s.rg.cpl),(.int .u64 s.rg.off),s.kv,I s.p.1,I s.p.2,(.map (some M)),ov1,(.bool many)]⟩,⟨ov1,6,(es++wU s r).flatMap Rn.cells⟩,⟨ptr V4 0 6,0,[I r.pl.1,I r.pl.2,r.cv,I r.tc.1,I r.tc.2,I z]⟩]) ?_ ?_
 ·rintro l H16⟨hn,g0,g2,V4,ov1,z,g4,hS17⟩
  simp(disch:=omega) only[↓RA,RZ,simprocAttr,hn,g0,mF,mI,hS17.ld 0 rfl]
  refine lI (fun q0=> ?_) (fun q0=> ?_)
  ·simp(disch:=omega) only[↓RA,RZ,simprocAttr,hn,mF,mI,q0]
   refine hS17.aa 0 rfl [(.bool true)] rfl rfl tS4 (by simp) fun H17 hS18=> ?_
   simp only[RT]at hS18
   simp(disch:=omega) only[↓RA,RZ,simprocAttr,hn,g0,g2,g4,lW,q0]
   refine⟨V4,ov1,z,true,?_,rfl,?_⟩
   ·rfl
   ·exact hS18
  simp(disch:=omega) only[↓RA,RZ,simprocAttr,hn,g0,mF,mI,hS17.ld 0 rfl,(hS17.az 1 rfl (fun _=>rfl)).len,q0]
  refine hS17.aa 0 rfl [_] rfl rfl tS4 (by simp) fun H18 hS19=> ?_
  simp only[RT]at hS19
  simp(disch:=omega) only[↓RA,RZ,simprocAttr,hn,g0,g2,g4,lW,q0]
  refine⟨V4,ov1,z,_,?_,rfl,hS19⟩
  rw[Bool.false_or]
  exact decide_eq_decide.2 (by omega)
 simp(disch:=omega) only[↓RA,RB,simprocAttr,g1]
 refine hS.eNew 6 [I r.pl.1,I r.pl.2,r.cv,I r.tc.1,I r.tc.2,I r.stop] rfl rfl (by simp[OC,((hr hS).1).cells.2.1]) pV fun A3 H19 hS20=> ?_
 simp only[RT]at hS20
 simp(disch:=omega) only[↓RA,simprocAttr]
 refine Wp.drw kQ (by kernel_rfl) ?_
 simp(disch:=omega) only[↓RA,RZ,simprocAttr,hn,hS20.ld 2 rfl,((hr hS20).1).len]
 refine jL (fun q1=> ?_) (fun q1=> ?_)
 ·have hyes:wU s r=zW s r (stpL s r.tc).length:=b0X (.inl fun h=>by rw[h]at q1;simp at q1)
  simp(disch:=omega) only[↓RA,RZ,simprocAttr,hn,q1]
  refine Wp.drw kQ (by kernel_rfl) ?_
  simp(disch:=omega) only[↓RA,RZ,simprocAttr,hn,g0,mF,mI,hS20.ae 0 rfl,hS20.ae 2 rfl]
  refine jG ((xP s (hI hS20).1 hf r.tc ⟨hok2.1,hok2.2.1⟩).tr) ?_
  rintro r H20⟨-,hT6⟩
  have hS21:=hS20.trans hT6
  simp only[RT]at hS21
  obtain⟨pw,rfl⟩:∃w,w=r:=⟨r,rfl⟩
  have hsl:=a7W hf r.tc
  simp(disch:=omega) only[↓RA,RZ,simprocAttr,hn,(hS21.az 3 rfl (fun _=>rfl)).len]
  refine Wp.ak (fun n l H'=>l.length=137∧get l 0=(ptr FV 0 13)∧get l 2=sv∧get l 4=(ptr A3 0 6)∧get l 35=pw∧get l 36=I (stpL s r.tc).length∧∃(k:Nat)(ow:Value)(z:Int),(n+k=(stpL s r.tc).length)∧get l 37=I k∧St prog B H' [⟨ptr FV 0 13,0,[.string s.o.name,s.o.rv,s.o.dv,s.o.cv,s.sv,.int .u64 s.rg.cpl,.int .u64 s.rg.off,s.kv,I s.p.1,I s.p.2,.map (some M),ow,.bool many]⟩,⟨ow,6,(es++zW s r k).flatMap Rn.cells⟩,⟨ptr A3 0 6,0,[I r.pl.1,I r.pl.2,r.cv,I r.tc.1,I r.tc.2,I z]⟩,⟨pw,1,(stpL s r.tc).flatMap (one I)⟩]) (stpL s r.tc).length ?_ ?_
  ·simp(disch:=omega) only[RB,RC,simprocAttr,hn,g0,g2]
   refine⟨0,ov,r.stop,by omega,rfl,?_⟩
   rw[show zW s r 0=[]from rfl,dO]
   exact hS21
  rintro n l H21⟨hn,g0,g2,g4,g35,g36,k,ow,z,hk,g37,hS22⟩
  simp(disch:=omega) only[↓RA,RB,simprocAttr,hn,g36,g37]
  refine jA (fun q3=> ?_) (fun q3=> ?_)
  ·have hnj:(zW s r k).length≤60:=by
    unfold zW
    rw[dU,fQ]
    omega
   simp(disch:=omega) only[↓RA,RZ,simprocAttr,hn,g4,g35,g37,(hS22.az 3 rfl (fun _=>rfl)).idx,(hS22.az 3 rfl (fun _=>rfl)).ld,one,q3]
   refine hS22.aa 2 rfl [I (jB (stpL s r.tc) k)] rfl rfl tS3 (by simp) fun H22 hS23=> ?_
   simp only[RT]at hS23
   simp(disch:=omega) only[↓RA,RZ,simprocAttr,q3]
   refine Wp.aJ kQ [(4,7)] (by kernel_rfl) (by kernel_rfl) ?_
   simp(disch:=omega) only[↓RA,RZ,simprocAttr,hn,g0,g4,mF,mI,hS23.ld 0 rfl,hS23.ae 2 rfl]
   refine hS23.aj [I r.pl.1,I r.pl.2,r.cv,I r.tc.1,I r.tc.2,I (jB (stpL s r.tc) k)] c3H c8P rfl rfl (by first|(simp[];done)|simp[Value.cells]) (by first|(simp[];done)|simp[Value.cells]) (by simp[OC,((hr hS23).1).cells.2.1]) (by decide) (by decide) fun w5 H23 hS24=> ?_
   simp only[RT]at hS24
   simp(disch:=omega) only[↓RA,RZ,simprocAttr,hn]
   refine hS24.aq 1 rfl (hS24.rd 4 rfl) c3H (by rw[c0I];simp;omega) fun w6 H24 hS25=> ?_
   simp only[RT]at hS25
   simp(disch:=omega) only[↓RA,RZ,simprocAttr,hn,mF,mI]
   refine hS25.aa 0 rfl [w6] (by rw[(hS25.rd 1 rfl).cells.1]) (by simp[(hS25.rd 1 rfl).cells.2.1]) c6E (by simp) fun H25 hS26=> ?_
   simp only[RT]at hS26
   simp(disch:=omega) only[↓RA,RZ,simprocAttr,hn,g0,g2,g4,g35,g36,g37,hS24.ld 0 rfl]
   refine⟨n-1,by omega,k+1,w6,jB (stpL s r.tc) k,by omega,by simp,?_⟩
   rw[a5G s r k (by omega),←ef,dV]
   exact hS26.pick [0,1,2,3] (by decide) rfl
  have hkk:k=(stpL s r.tc).length:=by omega
  simp(disch:=omega) only[↓RA,RZ,simprocAttr,hn,g0,g2,g4,q3,lW]
  rw[hyes,←hkk]
  exact⟨A3,ow,z,rfl,hS22.pick [0,1,2] (by decide) rfl⟩
 have hce:r.cps=[]:=eG.1 (by omega)
 simp(disch:=omega) only[↓RA,RZ,simprocAttr,hn,g0,mF,mI,hS20.ae 0 rfl,hS20.ld 2 rfl,q1]
 refine hS20.cF (a7H s (hI hS20).1 r.pl.1 hpl) fun H26 hS27=> ?_
 simp(disch:=omega) only[↓RA,RZ,simprocAttr,hn,q1]
 refine kA (fun q2=> ?_) (fun q2=> ?_)
 ·have hyes:wU s r=zW s r (stpL s r.tc).length:=b0X (.inr (by simpa using q2))
  simp(disch:=omega) only[↓RA,RC,simprocAttr,q1,q2]
  refine Wp.drw kQ (by kernel_rfl) ?_
  simp(disch:=omega) only[↓RA,RZ,simprocAttr,hn,g0,mF,mI,hS27.ae 0 rfl,hS27.ae 2 rfl]
  refine jG ((xP s (hI hS27).1 hf r.tc ⟨hok2.1,hok2.2.1⟩).tr) ?_
  rintro r H27⟨-,hT8⟩
  have hS28:=hS27.trans hT8
  simp only[RT]at hS28
  obtain⟨pw,rfl⟩:∃w,w=r:=⟨r,rfl⟩
  have hsl:=a7W hf r.tc
  simp(disch:=omega) only[↓RA,RZ,simprocAttr,hn,(hS28.az 3 rfl (fun _=>rfl)).len]
  refine Wp.ak (fun n l H'=>l.length=137∧get l 0=(ptr FV 0 13)∧get l 2=sv∧get l 4=(ptr A3 0 6)∧get l 35=pw∧get l 36=I (stpL s r.tc).length∧∃(k:Nat)(ow:Value)(z:Int),(n+k=(stpL s r.tc).length)∧get l 37=I k∧St prog B H' [⟨ptr FV 0 13,0,[.string s.o.name,s.o.rv,s.o.dv,s.o.cv,s.sv,.int .u64 s.rg.cpl,.int .u64 s.rg.off,s.kv,I s.p.1,I s.p.2,.map (some M),ow,.bool many]⟩,⟨ow,6,(es++zW s r k).flatMap Rn.cells⟩,⟨ptr A3 0 6,0,[I r.pl.1,I r.pl.2,r.cv,I r.tc.1,I r.tc.2,I z]⟩,⟨pw,1,(stpL s r.tc).flatMap (one I)⟩]) (stpL s r.tc).length ?_ ?_
  ·simp(disch:=omega) only[RB,RC,simprocAttr,hn,g0,g2]
   refine⟨0,ov,r.stop,by omega,rfl,?_⟩
   rw[show zW s r 0=[]from rfl,dO]
   exact hS28
  rintro n l H28⟨hn,g0,g2,g4,g35,g36,k,ow,z,hk,g37,hS29⟩
  simp(disch:=omega) only[↓RA,RB,simprocAttr,hn,g36,g37]
  refine jA (fun q3=> ?_) (fun q3=> ?_)
  ·have hnj:(zW s r k).length≤60:=by
    unfold zW
    rw[dU,fQ]
    omega
   simp(disch:=omega) only[↓RA,RZ,simprocAttr,hn,g4,g35,g37,(hS29.az 3 rfl (fun _=>rfl)).idx,(hS29.az 3 rfl (fun _=>rfl)).ld,one,q3]
   refine hS29.aa 2 rfl [I (jB (stpL s r.tc) k)] rfl rfl tS3 (by simp) fun H29 hS30=> ?_
   simp only[RT]at hS30
   simp(disch:=omega) only[↓RA,RZ,simprocAttr,q3]
   refine Wp.aJ kQ [(4,7)] (by kernel_rfl) (by kernel_rfl) ?_
   simp(disch:=omega) only[↓RA,RZ,simprocAttr,hn,g0,g4,mF,mI,hS30.ld 0 rfl,hS30.ae 2 rfl]
   refine hS30.aj [I r.pl.1,I r.pl.2,r.cv,I r.tc.1,I r.tc.2,I (jB (stpL s r.tc) k)] c3H c8P rfl rfl (by first|(simp[];done)|simp[Value.cells]) (by first|(simp[];done)|simp[Value.cells]) (by simp[OC,((hr hS30).1).cells.2.1]) (by decide) (by decide) fun w7 H30 hS31=> ?_
   simp only[RT]at hS31
   simp(disch:=omega) only[↓RA,RZ,simprocAttr,hn]
   refine hS31.aq 1 rfl (hS31.rd 4 rfl) c3H (by rw[c0I];simp;omega) fun w8 H31 hS32=> ?_
   simp only[RT]at hS32
   simp(disch:=omega) only[↓RA,RZ,simprocAttr,hn,mF,mI]
   refine hS32.aa 0 rfl [w8] (by rw[(hS32.rd 1 rfl).cells.1]) (by simp[(hS32.rd 1 rfl).cells.2.1]) c6E (by simp) fun H32 hS33=> ?_
   simp only[RT]at hS33
   simp(disch:=omega) only[↓RA,RZ,simprocAttr,hn,g0,g2,g4,g35,g36,g37,hS31.ld 0 rfl]
   refine⟨n-1,by omega,k+1,w8,jB (stpL s r.tc) k,by omega,by simp,?_⟩
   rw[a5G s r k (by omega),←ef,dV]
   exact hS33.pick [0,1,2,3] (by decide) rfl
  have hkk:k=(stpL s r.tc).length:=by omega
  simp(disch:=omega) only[↓RA,RZ,simprocAttr,hn,g0,g2,g4,q3,lW]
  rw[hyes,←hkk]
  exact⟨A3,ow,z,rfl,hS29.pick [0,1,2] (by decide) rfl⟩
 have hnot:wU s r=[]:=c5f hce (by simpa using q2)
 simp(disch:=omega) only[↓RA,RZ,simprocAttr,hn,g0,g2,lW,lW,q1,q2]
 rw[hnot,dO]
 exact⟨_,ov,r.stop,rfl,hS27⟩
end Go.Ds
namespace Go.Ds
open Go.Proofs
open Go.Shelf Go.RowKit Go.Lib Go.Sort
def c0p(P:Program)(K kc:FuncId)(k:Nat):Prop:=∀{N:Nat}[Inhabited (Fin N)](enc:Fin N→List Value)(_:∀x,(enc x).length=k)(_:∀x,∀v∈enc x,v.oneCell'=true)(cf:Fin N→Fin N→Int)(_:SWO (ltOf cf))(_:∀x y,(ltOf cf) x y=false→(ltOf cf) y x=false→x=y)(kX off cap:Nat)(d:Array (Fin N))(w:World),
    CmpLays P kc #[] enc k cf kX off d.size w→HoldsK enc k w kX off d→kX<w.heap.size→d.size<4611686018427387904→
    Calls P K #[.slice (some ⟨kX,off,none⟩) d.size cap,.func (.func kc) #[] #[]] w fun e w'=>e=.returned (.tuple #[])∧∃n os,w'=sortWorldK enc k w kX off n (d.toList.mergeSort fun x y=> !(ltOf cf) y x).toArray os
theorem c0A{α:Type}[Inhabited α]{enc:α→List Value}{k:Nat}(hk0:0<k)(hk:∀x,(enc x).length=k):∀(l:List α)(j:Nat),j<l.length*k→(enc (l.toArray[j/k]!))[j%k]! =(l.flatMap enc).getD j undef:=by
 intro l
 induction l with
 | nil=>intro j hj;simp at hj
 | cons x l ih=>
   intro j hj
   rw[ec]
   by_cases h:j<k
   ·have h1:j/k=0:=iq h
    have h2:j%k=j:=gE h
    rw[h1,h2,dE,eZ (by rw[hk];exact h)]
    simp only[List.getElem!_toArray,List.getElem!_cons_zero]
    rw[dH (by rw[hk];exact h),List.getElem!_eq_getElem?_getD,dH (by rw[hk];exact h)]
    rfl
   ·have h1:j/k=(j-k)/k+1:=by
     rw[←Nat.sub_add_cancel (iP h),Nat.add_div_right _ hk0,Nat.add_sub_cancel]
    have h2:j%k=(j-k)%k:=by
     conv=>lhs;rw[←Nat.sub_add_cancel (iP h),Nat.add_mod_right]
    have h3:=ih (j-k) (by rw[eL,gJ]at hj;omega)
    rw[h1,h2,dE,eI (by rw[hk];omega),hk,←dE,←h3]
    simp only[List.getElem!_toArray,List.getElem!_cons_succ]
theorem a9t{α:Type}{enc:α→List Value}{k:Nat}(hk:∀x,(enc x).length=k)(l:List α):(l.flatMap enc).length=l.length*k:=by
 rw[List.length_flatMap]
 induction l with
 | nil=>simp
 | cons x l ih=>rw[eN,List.sum_cons,ih,hk,eL,gJ];omega
theorem All2.bD{α:Type}{R:Value→Value→Prop}{f g:α→List Value}(h:∀x,All2 R (f x) (g x)):∀l:List α,All2 R (l.flatMap f) (l.flatMap g)
 | []=>trivial
 | x::l=>by
   rw[ec,ec]
   exact(h x).append (All2.bD h l)
theorem All2.cZ{R:Value→Value→Prop}:∀{l m:List Value},l.length=m.length→(∀(j:Nat)(c:Value),l[j]? =some c→∃c',m[j]? =some c'∧R c c')→All2 R l m
 | [],[],_,_=>trivial
 | [],_::_,h,_=>by cases h
 | _::_,[],h,_=>by cases h
 | a::l,b::m,h,hh=>by
   obtain⟨c',h1,h2⟩:=hh 0 a rfl
   cases h1
   exact⟨h2,All2.cZ (by simpa using h) fun j c hj=>hh (j+1) c hj⟩
theorem a7T{k:Nat}:∀{rs:List (List Value)},(∀r∈rs,r.length=k)→rs.flatten.length=rs.length*k
 | [],_=>by simp
 | r::rs,h=>by
   rw[List.flatten_cons,dM,a7T fun x hx=>h x (eX _ hx),h r (eW ..),eL,gJ]
   omega
theorem b5a{k:Nat}:∀{rs:List (List Value)}(_:∀r∈rs,r.length=k)(x:Fin rs.length)(t:Nat),t<k→rs.flatten[x.1*k+t]? =(rs[x])[t]?
 | [],_,x,_,_=>absurd x.2 (eu _)
 | r::rs,h,⟨0,_⟩,t,ht=>by
   rw[List.flatten_cons,Nat.zero_mul,fZ,eZ (by rw[h r (eW ..)];exact ht)]
   rfl
 | r::rs,h,⟨x+1,hx⟩,t,ht=>by
   have hr:=h r (eW ..)
   rw[List.flatten_cons,gJ,eI (by rw[hr];omega),hr,show x*k+k+t-k=x*k+t from by omega]
   exact b5a (fun x hx=>h x (eX _ hx)) ⟨x,by simpa using hx⟩ t ht
theorem d1w(N:Nat)(j:Nat)(h:j<N)[Inhabited (Fin N)]:((List.finRange N).toArray)[j]! =⟨j,h⟩:=by
 simp[h]
set_option maxRecDepth 10000 in
theorem b5U{P:Program}{K kc:FuncId}{k:Nat}(hk0:0<k)(hso:c0p P K kc k){H:Heap}{A i lo ver:Nat}{ty:TypeId}{pre:List Value}{rs:List (List Value)}(hne:0<rs.length)(hbig:rs.length<100000000000)(hrk:∀r∈rs,r.length=k)
 (hg:jS H A=some (.cells (pre++rs.flatten) ty true lo ver)) (hlo:lo≤i+rs.flatten.length) (hpre:pre.length=i) (hty:jD P ty=some k) (cf:Fin rs.length→Fin rs.length→Int) (hO:SWO (ltOf cf)) (hT:∀x y,(ltOf cf) x y=false→(ltOf cf) y x=false→x=y)
 (hcmp:∀{ρ:Rho}{w:World}{p:Place},HRel P ρ H w→ρ A (i+rs.flatten.length)=some p→∀enc:Fin rs.length→List Value,(∀x,All2 (C1 ρ) rs[x] (enc x))→∀W:World,(∀b,b<w.heap.size→b≠p.b→W.heap[b]? =w.heap[b]?)→w.heap.size≤W.heap.size→∀x y,Calls P kc #[.agg (enc x).toArray,.agg (enc y).toArray] W fun e w'=>e=.returned (.int .i64 (cf x y))∧∃q os',w'=Go.Sort.grow (W.drewN q) os'):
 CallOk P K [.slice (some ⟨A,i,some (i+rs.flatten.length)⟩) rs.length k,.func (.func kc) #[] #[]] H (.tuple #[]) (hset H A (.cells (kD (pre++rs.flatten) i (((List.finRange rs.length).mergeSort fun x y=> !(ltOf cf) y x).flatMap fun x=>rs[x])) ty true (pre++rs.flatten).length ver)):=by
 haveI:Inhabited (Fin rs.length):=⟨⟨0,hne⟩⟩
 intro q ρ w args' hr ha
 obtain⟨l⟩:=args'
 match l,ha with
 | [x,f],⟨hx,hf,_⟩=>
   obtain rfl:=V.func0 hf
   have hfl:=a7T hrk
   have hlen:(pre++rs.flatten).length=i+rs.flatten.length:=by rw[dM,hpre]
   obtain⟨p,c',a,hp,h0',hin,hnc,hac,hpk,rfl⟩:=hx.av
   have ha':a=⟨p.b,p.at i,none⟩:=by
    rcases hac with h|h
    ·exact h.1
    ·omega
   subst ha'
   have hp2:ρ A (pre++rs.flatten).length=some p:=by rw[hlen];exact hp
   obtain⟨_,_,hfit,cur,ty',fr,hw,hsz,hfr,hcell⟩:=(hr.cells _ _ _ _ _ _ hg).2 _ _ hp2
   obtain⟨rfl,hd0,_⟩:=hfr rfl
   have hNk:∀(x:Fin rs.length)(t:Nat),t<k→x.1*k+t<rs.length*k:=fun x t ht=>by
    have:=x.2
    calc x.1*k+t<x.1*k+k:=by omega
     _=(x.1+1)*k:=by rw[gJ]
     _≤rs.length*k:=eP _ (by omega)
   have hcur:∀(x:Fin rs.length)(t:Nat),t<k→∀c,(rs[x])[t]? =some c→∃c',cur[p.at i+(x.1*k+t)]? =some c'∧C1 ρ c c':=fun x t ht c hc=>by
    have h1:=hNk x t ht
    have h2:(pre++rs.flatten)[i+(x.1*k+t)]? =some c:=by
     rw[eI (by omega),hpre,fE,b5a hrk x t ht]
     exact hc
    obtain⟨c2,h3,h4⟩:=hcell (by rw[hlen];exact hlo) (i+(x.1*k+t)) _ (by rw[hlen];omega) (by omega) h2
    have hat:p.at (i+(x.1*k+t))=p.at i+(x.1*k+t):=by unfold Place.at;omega
    rw[hat]at h3
    exact⟨c2,h3,h4⟩
   obtain⟨enc,henc⟩:∃enc:Fin rs.length→List Value,enc=fun x=>(List.range k).map fun t=>(cur[p.at i+(x.1*k+t)]?).getD undef:=⟨_,rfl⟩
   have hel:∀x,(enc x).length=k:=fun x=>by rw[henc];simp
   have hrl:∀x:Fin rs.length,(rs[x]).length=k:=fun x=>hrk _ (gR _)
   have hA:∀x,All2 (C1 ρ) rs[x] (enc x):=fun x=>by
    refine All2.cZ (by rw[hel,hrl]) fun t c hc=> ?_
    have ht:t<k:=by
     have:=(dQ.1 hc).1
     rw[hrl]at this
     exact this
    obtain⟨c2,h1,h2⟩:=hcur x t ht c hc
    refine⟨c2,?_,h2⟩
    rw[henc]
    simp[ht,h1]
   have hone:∀x,∀v∈enc x,v.oneCell'=true:=fun x v hv=>(hA x).aI v hv
   obtain⟨d,hd⟩:∃d:Array (Fin rs.length),d=(List.finRange rs.length).toArray:=⟨_,rfl⟩
   have hds:d.size=rs.length:=by rw[hd];simp
   have hH:Go.Sort.HoldsK enc k w p.b (p.at i) d:=by
    intro j hj
    rw[Go.Sort.size_flatK,hds]at hj
    have hjk:j/k<rs.length:=Nat.div_lt_of_lt_mul (by rw[jh];exact hj)
    have hjm:j%k<k:=fz _ hk0
    constructor
    ·rw[Go.Sort.get_flatK _ _ _ _ (by rw[hds];exact hj),hd,d1w _ _ hjk]
     have hjj:j/k*k+j%k=j:=by rw[jh];exact Nat.div_add_mod j k
     obtain⟨c2,h1,_⟩:=hcur ⟨j/k,hjk⟩ (j%k) hjm _ (dH (by rw[hrl];exact hjm))
     simp only at h1
     rw[hjj]at h1
     have h2:(enc ⟨j/k,hjk⟩)[j%k]! =c2:=by
      rw[henc,List.getElem!_eq_getElem?_getD]
      simp[hjm,hjj,h1]
     rw[h2]
     simp only[World.cell?,hw]
     exact h1
    ·simp only[World.frozen?,hw]
     simp
   have hlay:CmpLays P kc #[] enc k cf p.b (p.at i) d.size w:=by
    intro m os dk hdk x y
    have hh:∀b,b<w.heap.size→(sortWorldK enc k w p.b (p.at i) m dk os).heap[b]? =(Go.Sort.putRowK enc k (Go.Sort.ahead w m) p.b (p.at i) dk).heap[b]?:=fun b hb=>by
     have:b<(Go.Sort.putRowK enc k (Go.Sort.ahead w m) p.b (p.at i) dk).heap.size:=by simpa [Go.Sort.putRowK,Go.Sort.putRow,Go.Sort.mapBlock,Go.Sort.ahead]using hb
     unfold sortWorldK Go.Sort.grow
     exact fC this
    refine hcmp hr hp enc hA _ (fun b hb hbp=> ?_) ?_ x y
    ·rw[hh b hb]
     simp[Go.Sort.putRowK,Go.Sort.putRow,Go.Sort.mapBlock,Go.Sort.ahead,fK,fP hbp]
    ·simp[sortWorldK,Go.Sort.grow,Go.Sort.putRowK,Go.Sort.putRow,Go.Sort.mapBlock,Go.Sort.ahead]
   have hcon:=hso enc hel hone cf hO hT p.b (p.at i) c' d w hlay hH (hr.dom _ _ _ hp).2 (by rw[hds];omega)
   rw[hds]at hcon
   obtain⟨σ,hσ⟩:∃σ,(List.finRange rs.length).mergeSort (fun x y=> !(ltOf cf) y x)=σ:=⟨_,rfl⟩
   have hdl:d.toList=List.finRange rs.length:=by rw[hd]
   rw[hdl,hσ]at hcon
   have hσl:σ.length=rs.length:=by rw[←hσ];simp
   have hll:(σ.flatMap fun x=>rs[x]).length=rs.length*k:=by rw[a9t (enc:=fun x:Fin rs.length=>rs[x]) hrl,hσl]
   have hlr:(σ.flatMap enc).length=rs.length*k:=by rw[a9t hel,hσl]
   obtain⟨w1,hrun,hpost⟩:=tP hr hg hp2 h0' (All2.bD hA σ) (by rw[hlen,hll];omega) (by rw[hlen];exact hlo)
   rw[hσ]
   have hcsz:p.at i+(σ.flatMap enc).length≤cur.size:=by
    rw[hlr,hsz]
    unfold Place.at
    rw[hlen]at hfit
    omega
   have hst:=run_storeCells_at (P:=P) p.b (p.at i) ty' (σ.flatMap enc) 0 cur w hw (by simpa using hcsz) (All2.bD hA σ).aI
   rw[hst]at hrun
   injection hrun with _ hw1
   subst hw1
   refine callsIn_wide.2 (hcon.mono ?_)
   rintro e w'⟨rfl,m,os,rfl⟩
   refine⟨ρ,_,rfl,?_,.tuple trivial⟩
   have hfs:∀j,j<rs.length*k→(Go.Sort.flatK enc k σ.toArray)[j]! =(σ.flatMap enc).getD j undef:=fun j hj=>by
    rw[Go.Sort.get_flatK _ _ _ _ (by rw[gb,hσl];exact hj)]
    exact c0A hk0 hel σ j (by rw[hσl];exact hj)
   have hFs:(Go.Sort.flatK enc k σ.toArray).size=rs.length*k:=by rw[Go.Sort.size_flatK,gb,hσl]
   unfold sortWorldK Go.Sort.putRowK
   generalize Go.Sort.flatK enc k σ.toArray=F at hfs hFs ⊢
   have hlt:=nK hw
   have hh:∀b,b<w.heap.size→(Go.Sort.grow (Go.Sort.putRow id (Go.Sort.ahead w m) p.b (p.at i) F) os).heap[b]? =(Go.Sort.putRow id (Go.Sort.ahead w m) p.b (p.at i) F).heap[b]?:=fun b hb=>by
    have:b<(Go.Sort.putRow id (Go.Sort.ahead w m) p.b (p.at i) F).heap.size:=by simpa [Go.Sort.putRow,Go.Sort.mapBlock,Go.Sort.ahead]using hb
    unfold Go.Sort.grow
    exact fC this
   refine hpost.cE ?_ ?_ rfl ⟨rfl,Nat.le_add_right _ _⟩ rfl
   ·simp[Go.Sort.grow,Go.Sort.putRow,Go.Sort.mapBlock,Go.Sort.ahead]
   ·intro b hbs
    rw[setRow_size]at hbs
    rw[hh b hbs]
    by_cases e:b=p.b
    ·subst e
     rw[setRow_heap w p.b cur _ ty' (0,0) hw]
     have e2:(Go.Sort.putRow id (Go.Sort.ahead w m) p.b (p.at i) F).heap[p.b]? =some (.cells (Go.Sort.putCells id (p.at i) F cur) ty' (0,0)):=by
      simp[Go.Sort.putRow,Go.Sort.mapBlock,Go.Sort.ahead,fK,hw,Go.Sort.onCells]
     rw[e2]
     congr 2
     apply gT
     intro j
     have hseg:=a0B cur.toList (σ.flatMap enc) (p.at i) j (by simpa using hcsz)
     have e3:((List.take (p.at i+0) cur.toList++σ.flatMap enc++List.drop (p.at i+0+(σ.flatMap enc).length) cur.toList).toArray)[j]? =(List.take (p.at i) cur.toList++σ.flatMap enc++List.drop (p.at i+(σ.flatMap enc).length) cur.toList)[j]?:=by simp
     rw[e3,hseg]
     simp only[Go.Sort.putCells,Array.getElem?_mapIdx,gC]
     rw[hlr]at hcsz ⊢
     by_cases h1:p.at i≤j∧j<p.at i+rs.length*k
     ·rw[if_pos h1]
      have hjc:j<cur.size:=by omega
      rw[fO hjc]
      simp only[ez]
      rw[if_pos (by rw[hFs];exact h1),hfs _ (by omega),dE,dH (by rw[hlr];omega)]
      rfl
     ·rw[if_neg h1]
      cases hc:cur[j]? with
      | none=>simp
      | some c=>
        simp only[ez]
        rw[if_neg (by rw[hFs];exact h1)]
    ·rw[setRow_other _ _ _ _ e]
     simp[Go.Sort.putRow,Go.Sort.mapBlock,Go.Sort.ahead,fK,fP e]
theorem c0t{P:Program}{kc:FuncId}{args:List Value}{Hc H1:Heap}{z:Int}{ρ:Rho}{W:World}{args':Array Value}(h:CallOk P kc args Hc (.int .i64 z) H1)(hr:HRel P ρ Hc W)(hs:Shut ρ Hc)(ha:All2 (V ρ) args args'.toList):
 Calls P kc args' W fun e w'=>e=.returned (.int .i64 z)∧∃q os',w'=Go.Sort.grow (W.drewN q) os':=by
 refine(h.calls hr ha).mono ?_
 rintro e w'⟨ρ',v',rfl,hp,hv⟩
 have hfr:∀b,b<W.heap.size→w'.heap[b]? =W.heap[b]?:=fun b hb=>(hp.frame b hb (hs b)).1
 refine⟨by rw[hv.ai rfl],w'.drawn-W.drawn,w'.heap.extract W.heap.size w'.heap.size,?_⟩
 have h1:=hp.os
 have h2:=hp.tape
 have h3:=hp.output
 have h4:=hp.size
 clear hp hv hr hs h
 obtain⟨wh,wt,wd,wo,wu⟩:=W
 obtain⟨ah,at',ad,ao,au⟩:=w'
 simp only at h1 h2 h3 h4 hfr
 simp only[Go.Sort.grow,World.drewN,World.mk.injEq]
 refine⟨?_,h2.1,by omega,h1,h3⟩
 apply gT
 intro i
 rw[Array.getElem?_append]
 split
 ·exact hfr i (by assumption)
 ·rw[Array.getElem?_extract]
  split
  ·congr 1;omega
  ·rw[Array.getElem?_eq_none (by omega)]
theorem b7Y{P:Program}{K kc:FuncId}{k:Nat}(hso:c0p P K kc (k+1))(hno:uJ P K)(hent:pD P K){H:Heap}{B:Base}{os:List Ob}(hS:St P B H os)(i:Nat){v:Value}{rs:List (List Value)}(ho:os[i]? =some ⟨v,k+1,rs.flatten⟩)(hbig:rs.length<100000000000)(hrk:∀r∈rs,r.length=k+1)
 (cf:Fin rs.length→Fin rs.length→Int) (hO:SWO (ltOf cf)) (hT:∀x y,(ltOf cf) x y=false→(ltOf cf) y x=false→x=y)
 (hcmp:∀{A:Nat}{ρ:Rho}{w:World}{p:Place}{e:Nat},kX v=some A→(∃b,jS H A=some b∧b.wr=true)→HRel P ρ H w→ρ A e=some p→∀enc:Fin rs.length→List Value,(∀x,All2 (C1 ρ) rs[x] (enc x))→∀W:World,(∀b,b<w.heap.size→b≠p.b→W.heap[b]? =w.heap[b]?)→w.heap.size≤W.heap.size→∀x y,Calls P kc #[.agg (enc x).toArray,.agg (enc y).toArray] W fun e w'=>e=.returned (.int .i64 (cf x y))∧∃q os',w'=Go.Sort.grow (W.drewN q) os')
 {Q:Value→Heap→Prop} (h:∀H1,St P B H1 (os.set i ⟨v,k+1,((List.finRange rs.length).mergeSort fun x y=> !(ltOf cf) y x).flatMap fun x=>rs[x]⟩)→Q (.tuple #[]) H1):tM P K [v,.func (.func kc) #[] #[]] H Q:=by
 by_cases h0:rs=[]
 ·subst h0
  refine⟨.tuple #[],H,hent,?_,h H ?_⟩
  ·intro k ρ w args' hr ha
   obtain⟨l⟩:=args'
   match l,ha with
   | [x,f],⟨hx,hf,_⟩=>
     obtain rfl:=V.func0 hf
     have hown:=hS.own _ (dR ho)
     unfold OwnAt at hown
     rw[if_neg (by simp)]at hown
     have hx0:∃p cap,x=.slice p 0 cap:=by
      rcases hown with⟨h2,_⟩|⟨A,j,ty,lo',ver,pre,m,h2,h3,h4,h5,h6,h7⟩
      ·simp only at h2
       subst h2
       rcases hx.ay with⟨_,_,_,rfl⟩|⟨A,j,e,p,c',a,hh,_⟩
       ·exact⟨_,_,rfl⟩
       ·cases hh
      ·simp only at h5 h6
       subst h6
       have hm:m=0:=by
        rw[List.flatten_nil,eT]at h5
        rcases iW.1 h5.symm with h|h
        ·exact h
        ·omega
       subst hm
       obtain⟨p,c',a,_,_,_,_,_,_,rfl⟩:=hx.av
       exact⟨_,_,rfl⟩
     obtain⟨p,cap,rfl⟩:=hx0
     refine callsIn_wide.2 ((hno p cap _ w).mono ?_)
     rintro e w'⟨rfl,rfl⟩
     exact⟨ρ,_,rfl,.refl hr,.tuple trivial⟩
  ·obtain⟨hi,hoi⟩:=dQ.1 ho
   have e0:∀l:List (Fin ([]:List (List Value)).length),(l.flatMap fun x=>([]:List (List Value))[x])=[]:=fun l=>by
    cases l with
    | nil=>rfl
    | cons x l=>exact absurd x.2 (eu _)
   rw[e0]
   have e:os[i]=⟨v,k+1,[]⟩:=by rw[hoi];rfl
   rw[←e,gX]
   exact hS
 ·have hown:=hS.own _ (dR ho)
  unfold OwnAt at hown
  rw[if_neg (by simp)]at hown
  have hne:0<rs.length:=fh.2 h0
  have hfl:=a7T hrk
  rcases hown with⟨_,h3⟩|⟨A,j,ty,lo',ver,pre,m,h2,h3,h4,h5,h6,h7⟩
  ·simp only at h3
   have:=congrArg List.length h3
   rw[hfl,eT]at this
   rcases iW.1 this with h|h<;>omega
  ·simp only at h2 h3 h5 h6
   have hm:m=rs.length:=fD (fM k) (h5.symm.trans hfl)
   subst hm
   have hsl:(((List.finRange rs.length).mergeSort fun x y=> !(ltOf cf) y x).flatMap fun x=>rs[x]).length=rs.flatten.length:=by
    rw[a9t (enc:=fun x:Fin rs.length=>rs[x]) (k:=k+1) (fun x=>hrk _ (gR _)),hfl]
    simp
   have hcall:=b5U (fM k) hso hne hbig hrk h2 h3 h4 h7 cf hO hT (fun{ρ w p}hr hp enc hA W hW hWs x y=>hcmp (A:=A) (by rw[h6];rfl) ⟨_,h2,rfl⟩ hr hp enc hA W hW hWs x y)
   rw[←h6]at hcall
   refine⟨_,_,hent,hcall,h _ (hS.put i ho ?_ ?_ ?_ ?_)⟩
   ·unfold OwnAt
    rw[if_neg (by simp)]
    refine .inr ⟨A,j,ty,(pre++rs.flatten).length,ver,pre,rs.length,?_,?_,h4,?_,?_,h7⟩
    ·rw[jQ _ (kL h2)]
     have:=nG (((List.finRange rs.length).mergeSort fun x y=> !(ltOf cf) y x).flatMap fun x=>rs[x]) pre rs.flatten (by rw[hsl];exact dG _)
     rw[h4]at this
     rw[this,hsl,iR,dO]
    ·simp only[dM,h4,hsl];exact dG _
    ·simp only[hsl];exact h5
    ·simp only[hsl];exact h6
   ·rw[kN];exact dG _
   ·intro B' hB hne'
    refine rT fun hh=>hne' ?_
    simp[kX,h6,hh]
   ·intro B' hB
    exact .inl hB
section
variable {P:Program} {ρ ρ0:Rho} {H H0:Heap} {w W:World}
theorem c2z(xs:List Int)(j:Nat):(xs.flatMap (one I))[j]? =(xs[j]?).map I:=by
 rw[nF,ft]
theorem a8w(h0:InW P ρ0 H0 W)(hr:HRel P ρ H w){cv cv':Value}{xs:List Int}(hs:Sl 1 (one I) H cv xs)(hv:C1 ρ cv cv')(hne:∀A,kX cv=some A→∀e p,ρ A e=some p→W.heap[p.b]? =w.heap[p.b]?):
 ∃ρ1 H1 cv1,InW P ρ1 H1 W∧ExtW ρ0 H0 ρ1 H1∧Sl 1 (one I) H1 cv1 xs∧C1 ρ1 cv1 cv':=by
 have hxl:(xs.flatMap (one I)).length=xs.length:=by rw[nF,dU]
 have hV:V ρ cv cv':=.v1 (.c1 hv)
 rcases hs.rd with⟨rfl,h2⟩|⟨A,i,e,row,ty,rw',lo,ver,n,hg,hlo,hle,hfit,htk,hn,rfl⟩
 ·rcases hV.ay with⟨_,_,_,rfl⟩|⟨A,j,e,p,c',a,hh,_⟩
  ·exact⟨ρ0,H0,.slice none 0 0,h0,.refl _ _,⟨.inl ⟨rfl,h2⟩,hs.hc,hs.pos⟩,.c0 (.flat rfl)⟩
  ·cases hh
 ·obtain⟨p,c',a,hp,h00,hin,hnc,hac,hpk,rfl⟩:=hV.av
  obtain⟨_,hk,hfit2,cur,ty',fr,hw,hsz,hfr,hcell⟩:=(hr.cells _ _ _ _ _ _ hg).2 _ _ hp
  have hWp:W.heap[p.b]? =w.heap[p.b]?:=hne A rfl _ _ hp
  have hrow:=h0.row ⟨p.b,p.d+i,p.sz,p.k⟩ (cur:=cur) (t':=ty') (fr:=fr) (by rw[hWp];exact hw) (ty:=ty) hk hsz (xs.flatMap (one I)) 2 (fun h=>by cases h) (by show((xs.flatMap (one I)).length:Int)+(p.d+i)≤p.sz;omega) (fun j c hj hj0 hc=>by
   have h1:row[i+j]? =some c:=by
    have h2:((row.drop i).take (xs.flatMap (one I)).length)[j]? =some c:=by rw[htk];exact hc
    rw[eJ hj,ed]at h2
    exact h2
   obtain⟨c2,h3,h4⟩:=hcell hlo (i+j) c (by omega) (by omega) h1
   have hsc:jZ c=true:=by
    rw[c2z]at hc
    obtain⟨z,_,rfl⟩:=dJ.1 hc
    rfl
   have:=h4.ar hsc
   subst this
   refine⟨c2,?_,.c0 (.flat hsc)⟩
   have hat:Place.at ⟨p.b,p.d+i,p.sz,p.k⟩ j=p.at (i+j):=by unfold Place.at;simp only;omega
   rw[hat]
   exact h3)
  obtain⟨h1,h2⟩:=hrow
  refine⟨_,_,.slice (some ⟨H0.length,0,some (xs.flatMap (one I)).length⟩) n 1,h1,h2,⟨.inr ⟨H0.length,0,_,_,ty,false,0,2,n,jP _ _,fA _,dG _,by omega,by rw[jg,eS],by omega,rfl⟩,hs.hc,hs.pos⟩,?_⟩
  have hq:(ρ0.put H0.length (xs.flatMap (one I)).length ⟨p.b,p.d+i,p.sz,p.k⟩) H0.length (xs.flatMap (one I)).length=some ⟨p.b,p.d+i,p.sz,p.k⟩:=Rho.al _ _ _ _
  have e1:n*p.k=n:=by rw[←hpk,iI]
  have e2:c'*p.k=c':=by rw[←hpk,iI]
  have hk1:p.k=1:=hpk.symm
  have:=C0.slice (n:=n) (c':=c') (a:=a) hq (i:=0) (by show(0:Int)≤((0:Nat):Int)+(p.d+i);omega) (by show 0+n*p.k≤_;rw[e1];omega) ⟨hnc.1,by show _≤0+c'*p.k;rw[e2];have:=hnc.1;omega⟩ (by
   rcases hac with⟨h3,h4⟩|h3
   ·refine .inl ⟨?_,?_⟩
    ·rw[h3]
     congr 1
     unfold Place.at
     simp only
     omega
    ·show Place.at ⟨p.b,p.d+i,p.sz,p.k⟩ 0+c'*p.k≤p.sz
     have:Place.at ⟨p.b,p.d+i,p.sz,p.k⟩ 0=p.at i:=by unfold Place.at;simp only;omega
     rw[this];exact h4
   ·exact .inr h3)
  simp only[hk1]at this ⊢
  exact .c0 this
theorem Sl.dm{n:Nat}{α:Type}{cel:α→List Value}{ρ1:Rho}{H1:Heap}{v:Value}{xs:List α}(h:Sl n cel H v xs)(he:ExtW ρ H ρ1 H1):Sl n cel H1 v xs:=by
 refine⟨?_,h.hc,h.pos⟩
 rcases h.rd with h1|⟨A,i,e,row,ty,rw',lo,ver,m,hg,hh⟩
 ·exact .inl h1
 ·exact .inr ⟨A,i,e,row,ty,rw',lo,ver,m,by rw[he.old A (kL hg)];exact hg,hh⟩
theorem c0l{kc:FuncId}(hfn:∀{Hc:Heap}(a b:Rn),a.In Hc→b.In Hc→Fn P kc [a.v,b.v] Hc fun r H'=>r=I (a7V a b)∧St P Hc H' []){v:Value}{es:List Rn}(hin:∀r∈es,r.In H)(hne:∀r∈es,∀A,kX v=some A→kX r.cv≠some A):
 ∀{A:Nat}{ρ:Rho}{w:World}{p:Place}{e:Nat},kX v=some A→(∃b,jS H A=some b∧b.wr=true)→HRel P ρ H w→ρ A e=some p→∀enc:Fin (es.map Rn.cells).length→List Value,(∀x,All2 (C1 ρ) (es.map Rn.cells)[x] (enc x))→∀W:World,(∀b,b<w.heap.size→b≠p.b→W.heap[b]? =w.heap[b]?)→w.heap.size≤W.heap.size→∀x y,Calls P kc #[.agg (enc x).toArray,.agg (enc y).toArray] W fun e w'=>e=.returned (.int .i64 (a7V (jB es x.1) (jB es y.1)))∧∃q os',w'=Go.Sort.grow (W.drewN q) os':=by
 intro A ρ w p e hv hwr hr hp enc hA W hW hWs x y
 obtain⟨b,hb,hbw⟩:=hwr
 have hlen:(es.map Rn.cells).length=es.length:=dU _
 have hcell:∀x:Fin (es.map Rn.cells).length,∃cv',enc x=[I (jB es x.1).pl.1,I (jB es x.1).pl.2,cv',I (jB es x.1).tc.1,I (jB es x.1).tc.2,I (jB es x.1).stop]∧C1 ρ (jB es x.1).cv cv':=fun x=>by
  have h:=hA x
  have hx:(es.map Rn.cells)[x]=(jB es x.1).cells:=by
   rw[jR es x.1 (by have:=x.2;omega)]
   simp
  rw[hx]at h
  unfold Rn.cells at h
  generalize enc x=l at h
  match l,h with
  | [a1,a2,a3,a4,a5,a6],⟨h1,h2,h3,h4,h5,h6,_⟩=>
    have e1:=h1.ar rfl
    have e2:=h2.ar rfl
    have e4:=h4.ar rfl
    have e5:=h5.ar rfl
    have e6:=h6.ar rfl
    subst e1 e2 e4 e5 e6
    exact⟨a3,rfl,h3⟩
 have hmem:∀x:Fin (es.map Rn.cells).length,jB es x.1∈es:=fun x=>jE (by have:=x.2;omega)
 have hfr:∀x:Fin (es.map Rn.cells).length,∀B,kX (jB es x.1).cv=some B→∀e2 p2,ρ B e2=some p2→W.heap[p2.b]? =w.heap[p2.b]?:=fun x B hB e2 p2 hp2=>by
  refine hW _ (hr.dom _ _ _ hp2).2 fun heq=> ?_
  have:=(hr.excl A e p B e2 p2 b hp hp2 heq.symm hb hbw).1
  rw[this]at hB
  exact hne _ (hmem x) A hv hB
 obtain⟨cx,ex,hcx⟩:=hcell x
 obtain⟨cy,ey,hcy⟩:=hcell y
 have hix:=hin _ (hmem x)
 have hiy:=hin _ (hmem y)
 obtain⟨ρ1,H1,v1,hI1,hE1,hs1,hc1⟩:=a8w (InW.none (P:=P) W) hr hix.1 hcx (hfr x)
 obtain⟨ρ2,H2,v2,hI2,hE2,hs2,hc2⟩:=a8w hI1 hr hiy.1 hcy (hfr y)
 have hs1':=hs1.dm hE2
 have hc1':=hc1.mono hE2.le
 obtain⟨_,z,H3,hcall,rfl,_⟩:=hfn (Hc:=H2) {jB es x.1 with cv:=v1} {jB es y.1 with cv:=v2} ⟨hs1',hix.2⟩ ⟨hs2,hiy.2⟩
 rw[ex,ey]
 refine c0t hcall hI2.rel hI2.shut ?_
 exact⟨.v1 (.agg ⟨.c0 (.flat rfl),.c0 (.flat rfl),hc1',.c0 (.flat rfl),.c0 (.flat rfl),.c0 (.flat rfl),trivial⟩),.v1 (.agg ⟨.c0 (.flat rfl),.c0 (.flat rfl),hc2,.c0 (.flat rfl),.c0 (.flat rfl),.c0 (.flat rfl),trivial⟩),trivial⟩
end
end Go.Ds
