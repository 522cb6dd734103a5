/-
  A part of the proof of ReasonCompares.
-/
import Derived.Test.YtfmbcecfgpbmhaaGreatDoorVI
import Derived.Test.YtfmbcecfgpbmhaaGreatDoorVD
import Derived.Test.YtfmbcecfgpbmhaaGreatDoorVB
import Derived.Test.YtfmbcecfgpbmhaaGreatDoorVC
import Derived.Shelf.SlGeneric
import Derived.Shelf.SlLaysF0
import Derived.Test.YtfmbcecfgpbmhaaGreatDoorProg
set_option linter.unusedVariables false
set_option linter.unusedSimpArgs false
set_option linter.defProp false
set_option linter.unusedSectionVars false
namespace Go.Ds
open Go.Proofs Go.Proofs.Tryz Go.ChangeShapes Go.WideShapes Go.RowKit Go.Deep
set_option maxRecDepth 10000
theorem ce3:prog.cellsOf 3=1:=by kernel_rfl
section
variable {H0:Type} {enc:TypeId×Value→H0} {w:World} {base n:Nat} {spare:Nat→Bool} {lW:Bool} {x:DataW H0×List MemPlace}
theorem a4G{v:Value}(h:DataW.trod enc prog w base spare lW n 3 [v]=some x):∃m:Int,v=I m∧-9223372036854775808≤m∧m<9223372036854775808:=by
 obtain⟨m,hv,_,hw⟩:=DataW.trod_int underlying3 h
 have hv:v=I m:=by simpa using hv
 have hm: -9223372036854775808≤m∧m≤9223372036854775807:=by simpa [Lit.wf,IntKind.min,IntKind.max,IntKind.signed,IntKind.bits]using hw
 exact⟨m,hv,hm.1,by omega⟩
end
section
variable {H0:Type} {enc:TypeId×Value→H0} {w:World} {base:Nat} {lW:Bool}
end
end Go.Ds
namespace Go.Ds
open Go.Proofs Go.Proofs.Tryz
variable {H:Heap}
set_option maxRecDepth 10000
set_option maxHeartbeats 1000000
abbrev Nt:=Nat×Nat
def ntc(x:Nt):List Value:=[.int .u64 x.1,.int .u64 x.2]
def Nt.Ok(x:Nt):Prop:=x.1<18446744073709551616∧x.2<18446744073709551616
def sM(x:Nt)(n:Int):Nt:=if n<64 then(x.1|||2^n.toNat,x.2)else(x.1,x.2|||2^(n-64).toNat)
theorem a4p(i:Nat)(h:i<64):2^i<18446744073709551616:=by
 have:2^i≤2^63:=gJ (by decide) (by omega)
 have e:2^63=9223372036854775808:=rfl
 omega
theorem b5p{a b:Nat}(ha:a<18446744073709551616)(hb:b<18446744073709551616):a|||b<18446744073709551616:=Nat.or_lt_two_pow (n:=64) ha hb
theorem orB(a b:Nat)(ha:a<18446744073709551616)(hb:b<18446744073709551616):IntKind.wrap .u64 ((BitVec.ofInt (IntKind.bits .u64) (a:Int)|||BitVec.ofInt (IntKind.bits .u64) (b:Int)).toNat:Int)=((a|||b:Nat):Int):=by
 have e:(BitVec.ofInt (IntKind.bits .u64) (a:Int)|||BitVec.ofInt (IntKind.bits .u64) (b:Int)).toNat=a|||b:=by
  rw[BitVec.toNat_or,zM a ha,zM b hb]
 rw[e]
 have:=b5p ha hb
 exact qS _ (by omega) (by omega)
theorem orN(n i:Nat)(hn:n<18446744073709551616)(hi:i<64):IntKind.wrap .u64 ((BitVec.ofInt (IntKind.bits .u64) (n:Int)|||BitVec.ofInt (IntKind.bits .u64) (IntKind.wrap .u64 (1*2^min i (IntKind.bits .u64)))).toNat:Int)=((n|||2^i:Nat):Int):=by
 rw[c3v i hi]
 exact orB n (2^i) hn (a4p i hi)
theorem b8n{x:Nt}(hx:Nt.Ok x){z:Int}(h0:0≤z)(h1:z<128):Nt.Ok (sM x z):=by
 unfold sM
 split
 ·exact⟨b5p hx.1 (a4p _ (by omega)),hx.2⟩
 ·exact⟨hx.1,b5p hx.2 (a4p _ (by omega))⟩
theorem a5x(x:Nt)(hx:Nt.Ok x)(z:Int)(h0:0≤z)(h1:z<128):Fn prog 113 [.agg #[.int .u64 x.1,.int .u64 x.2],I z] H fun r H'=>r=.agg #[.int .u64 (sM x z).1,.int .u64 (sM x z).2]∧St prog H H' []:=by
 obtain⟨m,rfl⟩:=fI h0
 refine .aH func113 rfl (by kernel_rfl) (m:=21) rfl fun l hn g0 g1=> ?_
 simp(disch:=omega) only[↓RA,RB,simprocAttr,g0]
 refine(sR H).eNew 2 [(.int .u64 x.1),(.int .u64 x.2)] rfl rfl rfl pA fun A1 H1 hS1=> ?_
 simp only[RT]at hS1
 simp(disch:=omega) only[↓RA,RZ,simprocAttr]
 refine hS1.eNew 2 [(.int .u64 0),(.int .u64 0)] rfl rfl rfl pA fun A2 H2 hS2=> ?_
 simp only[RT]at hS2
 simp(disch:=omega) only[↓RA,RB,simprocAttr,hn,g1]
 refine iF (fun q1=> ?_) (fun q1=> ?_)
 ·have e1:=orN x.1 m hx.1 (by omega)
  have e2:sM x (m:Int)=(x.1|||2^m,x.2):=by unfold sM;rw[if_pos q1];rfl
  simp(disch:=omega) only[↓RA,RC,simprocAttr,q1]
  refine Wp.drw kJ (by kernel_rfl) ?_
  simp(disch:=omega) only[↓RA,RZ,simprocAttr,hn,g1,hS2.ld 0 rfl,e1]
  refine hS2.aa 0 rfl [(.int .u64 (x.1|||2^m:Nat))] rfl rfl c1X (by simp) fun H3 hS3=> ?_
  simp only[RT]at hS3
  simp(disch:=omega) only[↓RA,RZ,simprocAttr,hn,hS3.ae 0 rfl]
  refine hS3.aa 1 rfl [(.int .u64 (x.1|||2^m:Nat)),(.int .u64 x.2)] rfl rfl pA (by simp) fun H4 hS4=> ?_
  simp only[RT]at hS4
  simp(disch:=omega) only[↓RA,RZ,simprocAttr,hn,c0O,hS4.ae 1 rfl]
  rw[e2]
  exact⟨rfl,hS4.forget⟩
 have e1:=orN x.2 (m-64) hx.2 (by omega)
 have e3:(m:Int)-64=((m-64:Nat):Int):=by omega
 have e2:sM x (m:Int)=(x.1,x.2|||2^(m-64)):=by unfold sM;rw[if_neg q1,e3];rfl
 simp(disch:=omega) only[↓RA,RC,simprocAttr,q1]
 refine Wp.drw kJ (by kernel_rfl) ?_
 simp(disch:=omega) only[↓RA,RZ,simprocAttr,hn,g1,hS2.ld 0 rfl,e1,e3]
 refine hS2.aa 0 rfl [(.int .u64 (x.2|||2^(m-64):Nat))] rfl rfl c1X (by simp) fun H5 hS5=> ?_
 simp only[RT]at hS5
 simp(disch:=omega) only[↓RA,RZ,simprocAttr,hn,hS5.ae 0 rfl]
 refine hS5.aa 1 rfl [(.int .u64 x.1),(.int .u64 (x.2|||2^(m-64):Nat))] rfl rfl pA (by simp) fun H6 hS6=> ?_
 simp only[RT]at hS6
 simp(disch:=omega) only[↓RA,RZ,simprocAttr,hn,c0O,hS6.ae 1 rfl]
 rw[e2]
 exact⟨rfl,hS6.forget⟩
def kG(xs:List Int):Nt:=xs.foldl sM (0,0)
def isN(z:Int):Prop:=0≤z∧z<128
theorem zX:∀(xs:List Int)(x:Nt),(∀z∈xs,isN z)→Nt.Ok x→Nt.Ok (xs.foldl sM x)
 | [],_,_,h=>h
 | z::xs,x,hz,h=>by
   rw[fE]
   exact zX xs _ (fun y hy=>hz y (eH _ hy)) (b8n h (hz z (eX ..)).1 (hz z (eX ..)).2)
theorem a5B(xs:List Int){j:Nat}(hj:j<xs.length):kG (xs.take (j+1))=sM (kG (xs.take j)) (iG xs j):=by
 unfold kG
 rw[List.take_add_one,dx hj,Option.toList_some,gr,←jV _ j hj]
 rfl
theorem b1Z(z:Int)(h:isN z):Fn prog 112 [I z] H fun r H'=>r=.bool true∧St prog H H' []:=by
 have h0:=h.1
 have h1:=h.2
 refine .aS func112 rfl (by kernel_rfl) (m:=9) rfl fun l hn g0=> ?_
 simp(disch:=omega) only[↓RA,RZ,simprocAttr,hn,g0]
 refine jQ (fun q1=> ?_) (fun q1=> ?_)
 rotate_left
 ·exfalso;first|omega|(simp at q1;omega)
 simp(disch:=omega) only[↓RA,RZ,simprocAttr,hn,g0,c4l,q1]
 simpa using⟨(by omega:z≤127),(sR H)⟩
theorem a9l(xs:List Int)(hz:∀z∈xs,isN z)(v:Value)(hv:Sl 1 (one I) H v xs)(hl:xs.length<1000000000):
 Fn prog 83 [v] H fun r H'=>r=.tuple #[.agg #[.int .u64 (kG xs).1,.int .u64 (kG xs).2],I 0]∧St prog H H' []:=by
 refine .aS func83 rfl (by kernel_rfl) (m:=22) rfl fun l hn g0=> ?_
 simp(disch:=omega) only[↓RA,RZ,simprocAttr]
 refine(sR H).eNew 2 [(.int .u64 0),(.int .u64 0)] rfl rfl rfl pA fun A1 H1 hS1=> ?_
 simp only[RT]at hS1
 simp(disch:=omega) only[↓RA,RZ,simprocAttr]
 refine hS1.eNew 2 [(.int .u64 0),(.int .u64 0)] rfl rfl rfl pA fun A2 H2 hS2=> ?_
 simp only[RT]at hS2
 simp(disch:=omega) only[↓RA,RZ,simprocAttr,hn,g0,(hS2.sl hv).len]
 refine Wp.aj (fun n l H'=>l.length=22∧get l 2=(ptr A1 0 2)∧get l 4=(ptr A2 0 2)∧get l 7=v∧get l 8=I xs.length∧∃(j:Nat),(n+j=xs.length)∧get l 9=I j∧St prog H H' [⟨ptr A1 0 2,0,[(.int .u64 0),(.int .u64 0)]⟩,⟨ptr A2 0 2,0,[.int .u64 (kG (xs.take j)).1,.int .u64 (kG (xs.take j)).2]⟩]) xs.length ?_ ?_
 ·simp(disch:=omega) only[RB,RC,simprocAttr,hn]
  exact⟨0,by omega,rfl,hS2⟩
 rintro n l H3⟨hn,g2,g4,g7,g8,j,hj,g9,hS3⟩
 simp(disch:=omega) only[↓RA,RB,simprocAttr,hn,g8,g9]
 refine iF (fun q1=> ?_) (fun q1=> ?_)
 ·have hx:=hz _ (iM (xs:=xs) (j:=j) (by omega))
  have hok:Nt.Ok (kG (xs.take j)):=zX _ _ (fun z h=>hz z (List.mem_of_mem_take h)) ⟨by decide,by decide⟩
  simp(disch:=omega) only[↓RA,RZ,simprocAttr,hn,g7,g9,(hS3.sl hv).idx,(hS3.sl hv).ld,one,q1]
  refine hS3.cF (b1Z (iG xs j) hx) fun H4 hS4=> ?_
  simp(disch:=omega) only[↓RA,RZ,simprocAttr,hn,g4,hS4.ae 1 rfl,q1]
  refine hS4.cF (a5x (kG (xs.take j)) hok (iG xs j) hx.1 hx.2) fun H5 hS5=> ?_
  simp(disch:=omega) only[↓RA,RZ,simprocAttr,hn,g4,q1]
  refine hS5.aa 1 rfl [(.int .u64 (sM (kG (xs.take j)) (iG xs j)).1),(.int .u64 (sM (kG (xs.take j)) (iG xs j)).2)] rfl rfl pA (by simp) fun H6 hS6=> ?_
  simp only[RT]at hS6
  simp(disch:=omega) only[↓RA,RZ,simprocAttr,hn,g2,g4,g7,g8,g9,q1]
  refine⟨n-1,by omega,j+1,by omega,by simp,?_⟩
  rw[a5B xs (by omega)]
  exact hS6.pick [0,1] (by decide) rfl
 have hjj:j=xs.length:=by omega
 simp(disch:=omega) only[↓RA,RZ,simprocAttr,hn,g2,g4,hS3.ae 1 rfl,q1]
 refine hS3.aa 0 rfl [(.int .u64 (kG (xs.take j)).1),(.int .u64 (kG (xs.take j)).2)] rfl rfl pA (by simp) fun H7 hS7=> ?_
 simp only[RT]at hS7
 simp(disch:=omega) only[↓RA,RZ,simprocAttr,hn,g2,c4I,hS7.ae 0 rfl,q1]
 rw[hjj,eo]
 exact⟨rfl,hS7.forget⟩
end Go.Ds
namespace Go.Ds
open Go.Proofs
variable {H:Heap}
set_option maxRecDepth 10000
set_option maxHeartbeats 1000000
end Go.Ds
namespace Go.Ds
open Go.Proofs Go.Proofs.Tryz
variable {H:Heap}
set_option maxRecDepth 10000
set_option maxHeartbeats 1000000
def ctz(x:Nat):Nat:=((List.range 64).find? fun i=>x.testBit i).getD 64
theorem a2g{x:Nat}(h0:x≠0)(h1:x<18446744073709551616):ctz x<64∧x.testBit (ctz x)=true∧∀j,j<ctz x→x.testBit j=false:=by
 have hx:∃i,i<64∧x.testBit i=true:=by
  refine eS fun hn=>h0 ?_
  refine Nat.eq_of_testBit_eq fun i=> ?_
  rw[Nat.zero_testBit]
  by_cases hi:i<64
  ·by_cases hb:x.testBit i=true
   ·exact absurd ⟨i,hi,hb⟩ hn
   ·simpa using hb
  ·exact Nat.testBit_lt_two_pow (dV (show x<2^64 by simpa using h1) (gJ (by decide) (by omega)))
 unfold ctz
 cases hf:(List.range 64).find? fun i=>x.testBit i with
 | none=>
   obtain⟨i,hi,hb⟩:=hx
   have:=gh.1 hf i (dG.2 hi)
   exact absurd hb (by simpa using this)
 | some i=>
   obtain⟨hb,ys,bs,he,hn⟩:=List.find?_eq_some_iff_append.1 hf
   have hi:i<64:=dG.1 (he▸(by simp:i∈ys++i::bs))
   refine⟨hi,hb,fun j hj0=> ?_⟩
   have hj:j<i:=hj0
   have hl:ys.length=i:=by
    have h2:(List.range 64)[ys.length]? =some i:=by rw[he];simp
    have h3:ys.length<64:=by
     have:=congrArg List.length he
     simp at this
     omega
    rw[gT h3]at h2
    exact dc h2
   have hm:j∈ys:=by
    have h2:(List.range 64)[j]? =some j:=gT (by omega)
    rw[he,ew (by simpa using(hl▸hj))]at h2
    exact dB h2
   simpa using hn j hm
theorem a3B{x:Nat}(h0:x≠0)(h1:x<18446744073709551616):∃m,x=2^ctz x*(2*m+1):=by
 obtain⟨c1,c2,c3⟩:=a2g h0 h1
 generalize ctz x=k at c1 c2 c3
 have hd:x%2^k=0:=by
  refine Nat.eq_of_testBit_eq fun i=> ?_
  rw[Nat.testBit_mod_two_pow,Nat.zero_testBit]
  by_cases hi:i<k
  ·rw[c3 i hi,Bool.and_false]
  ·rw[decide_eq_false hi,gg]
 have h2:x/2^k%2=1:=by
  rw[←gp]
  have:=c2
  rw[tb]at this
  exact of_decide_eq_true this
 refine⟨x/2^k/2,?_⟩
 have h3:=Nat.div_add_mod x (2^k)
 have h4:=Nat.div_add_mod (x/2^k) 2
 rw[hd,gM]at h3
 rw[←h3]
 congr 1
 rw[h3]
 omega
theorem b8M{x:Nat}(h0:x≠0)(h1:x<18446744073709551616):x&&&(18446744073709551616-x)=2^ctz x:=by
 obtain⟨m,hm⟩:=a3B h0 h1
 obtain⟨c1,_,_⟩:=a2g h0 h1
 generalize ctz x=k at hm c1
 have e64:(18446744073709551616:Nat)=2^k*(2*2^(63-k)):=by
  have:2^k*(2*2^(63-k))=2^64:=by rw[←Nat.pow_succ',←Nat.pow_add];congr 1;omega
  rw[this]
 have hml:m<2^(63-k):=by
  rw[e64,hm]at h1
  have:=Nat.lt_of_mul_lt_mul_left h1
  omega
 have e2:18446744073709551616-x=2^k*(2*(2^(63-k)-(m+1))+1):=by
  rw[e64,hm,←Nat.mul_sub]
  congr 1
  omega
 rw[e2,hm]
 refine Nat.eq_of_testBit_eq fun i=> ?_
 rw[Nat.testBit_and,gw]
 have hs:∀y:Nat,(2^k*y).testBit i=(decide (k≤i)&&y.testBit (i-k)):=fun y=>by rw[Nat.mul_comm,Nat.testBit_mul_two_pow]
 rw[hs,hs]
 by_cases hi:k≤i
 ·rw[decide_eq_true hi,fT,fT]
  by_cases he:i=k
  ·subst he
   rw[iq,Nat.testBit_zero,Nat.testBit_zero]
   simp
  ·obtain⟨j,hj⟩:∃j,i-k=j+1:=⟨i-k-1,by omega⟩
   rw[hj,Nat.testBit_succ,Nat.testBit_succ,show(2*m+1)/2=m by omega,show(2*(2^(63-k)-(m+1))+1)/2=2^(63-k)-(m+1) by omega,Nat.testBit_two_pow_sub_succ hml,decide_eq_false (by omega:¬k=i)]
   cases m.testBit j<;>simp
 ·rw[decide_eq_false hi,gg,decide_eq_false (by omega)]
  rfl
theorem c4i:((List.range 64).all fun k=>decide (2^k*285870213051353865%18446744073709551616/288230376151711744<64)&&decide (t64.getD (2^k*285870213051353865%18446744073709551616/288230376151711744) 99=k))=true:=by kernel_rfl
theorem b5q{P:Program}{t:TypeId}{n:Nat}{elem:TypeId}{size:Nat}(ha:P.underlying t=some (.array n elem))(hs:iJ P elem=some size)(A i:Nat)(k:IntKind)(j:Int)(h0:0≤j)(h1:j<n):
 wG (jB P t) P t (.pointer (some ⟨A,i,none⟩)) (.int k j)=some (.pointer (some ⟨A,i+j.toNat*size,none⟩)):=by
 have hn:jB P t=none:=by simp[jB,iL,ha]
 rw[hn]
 simp only[wG,a1n,ha,hs,dh]
 rw[if_pos (by simp[h0,h1])]
theorem c1F(k:IntKind)(j:Int)(h0:0≤j)(h1:j<64):wG (jB prog 294) prog 294 (.pointer (some ⟨0,0,none⟩)) (.int k j)=some (.pointer (some ⟨0,0+j.toNat*1,none⟩)):=
 b5q (n:=64) (elem:=5) (size:=1) (by kernel_rfl) (by kernel_rfl) 0 0 k j h0 h1
theorem b1R(g:Nat)(l:List Value)(K:Value→Prop):jN (.global g) l K=K (.pointer (some ⟨g,0,none⟩)):=by simp[jN,iV,ev]
theorem gld(hG:Glob gH H)(j:Nat)(hj:j<64)(s:Option Nat):qC (some false) s H (.pointer (some ⟨0,j,none⟩))=some (.int .u8 (t64.getD j 0:Nat)):=by
 have h0:iT H 0=some (.cells (t64.map fun(n:Nat)=>Value.int .u8 (.ofNat n)) 5 false 0 1):=by
  rw[hG.same 0 (by decide)]
  rfl
 simp only[qC,jK,h0]
 have hl:(t64.map fun(n:Nat)=>Value.int .u8 (.ofNat n)).length=64:=by rw[dC];rfl
 rw[if_pos (by rw[hl];simp;omega)]
 simp only[dh]
 rw[dR (by omega),dF,gM,eI,dx (show j<t64.length from hj)]
 rw[dS,dj,dx (show j<t64.length from hj)]
 rfl
theorem a9o(m:Int):IntKind.wrap .u64 m=m%18446744073709551616:=by
 show(if(false&&decide (m%18446744073709551616≥9223372036854775808))=true then m%18446744073709551616-18446744073709551616 else m%18446744073709551616)=_
 simp
theorem c3i(hG:Glob gH H)(x:Nat)(h0:x≠0)(h1:x<18446744073709551616):Fn prog 157 [.int .u64 x] H fun r H'=>r=I (ctz x)∧St prog H H' []:=by
 obtain⟨c1,_,_⟩:=a2g h0 h1
 have hd:=dJ.1 c4i (ctz x) (dG.2 c1)
 rw[de,decide_eq_true_eq,decide_eq_true_eq]at hd
 have eA:IntKind.wrap .u64 (0-(x:Int))=((18446744073709551616-x:Nat):Int):=by
  rw[a9o]
  omega
 have eB:IntKind.wrap .u64 ((BitVec.ofInt (IntKind.bits .u64) (x:Int)&&&BitVec.ofInt (IntKind.bits .u64) ((18446744073709551616-x:Nat):Int)).toNat:Int)=((2^ctz x:Nat):Int):=by
  rw[BitVec.toNat_and,zM x h1,zM _ (by omega),b8M h0 h1]
  exact qS _ (by omega) (by have:=a4p (ctz x) c1;omega)
 have eC:IntKind.wrap .u64 (((2^ctz x:Nat):Int)*285870213051353865)=((2^ctz x*285870213051353865%18446744073709551616:Nat):Int):=by
  rw[a9o]
  rfl
 have eD:((2^ctz x*285870213051353865%18446744073709551616:Nat):Int).fdiv (2^min 58 (IntKind.bits .u64))=((2^ctz x*285870213051353865%18446744073709551616/288230376151711744:Nat):Int):=by
  rw[show(2:Int)^min 58 (IntKind.bits .u64)=((288230376151711744:Nat):Int)from rfl]
  exact Int.fdiv_eq_ediv_of_nonneg _ (by omega)
 have hd1:=hd.1
 have hd2:=hd.2
 generalize 2^ctz x*285870213051353865%18446744073709551616/288230376151711744=i at eD hd1 hd2
 refine .aS func157 rfl (by kernel_rfl) (m:=14) rfl fun l hn g0=> ?_
 have iT:=gld hG i hd1 (some 1)
 rw[show t64.getD i 0=ctz x from by rw[←hd2,dj,dj,dx (show i<t64.length from hd1)];rfl]at iT
 have hidx:=c1F .u64 (i:Int) (by omega) (by omega)
 rw[eh,gI,fx]at hidx
 simp(disch:=omega) only[↓RA,RB,simprocAttr,hn,g0]
 refine iF (fun q=> ?_) (fun q=> ?_)
 ·exfalso;omega
 simp(disch:=omega) only[↓RA,RZ,simprocAttr,hn,g0,c3G,eA,eB,eC,eD,b1R,iT,hidx,q]
 first|exact(sR H)|exact⟨rfl,(sR H)⟩
theorem a4j{x:Nat}(h0:x≠0)(h1:x<18446744073709551616)(j:Nat):(x&&&(x-1)).testBit j=(x.testBit j&& !decide (j=ctz x)):=by
 obtain⟨m,hm⟩:=a3B h0 h1
 generalize ctz x=k at hm
 have hp:0<2^k:=Nat.two_pow_pos k
 have e1:x=2^(k+1)*m+2^k:=by rw[hm,Nat.pow_succ,Nat.mul_add,gI,Nat.mul_assoc]
 have e2:x-1=2^(k+1)*m+(2^k-1):=by omega
 have hl:2^k<2^(k+1):=Nat.pow_lt_pow_right (by decide) (by omega)
 rw[Nat.testBit_and,e2]
 rw[e1,Nat.testBit_two_pow_mul_add m hl,Nat.testBit_two_pow_mul_add m (by omega:2^k-1<2^(k+1))]
 by_cases hj:j<k+1
 ·rw[if_pos hj,if_pos hj,gw,Nat.testBit_two_pow_sub_one]
  by_cases he:j=k
  ·simp[he]
  ·simp[show¬k=j by omega]
 ·rw[if_neg hj,if_neg hj,show decide (j=k)=false from decide_eq_false (by omega)]
  simp
theorem b2z{x:Nat}(h0:x≠0)(h1:x<18446744073709551616):oU x=ctz x::oU (x&&&(x-1)):=by
 obtain⟨c1,c2,c3⟩:=a2g h0 h1
 have hb:=a4j h0 h1
 generalize ctz x=k at c1 c2 c3 hb
 obtain⟨t,ht⟩:=uG c1
 have hnd:(List.range 64).Nodup:=List.nodup_range
 unfold oU
 rw[ht,fw,fw,List.filter_cons_of_pos (by simpa using c2),List.filter_cons_of_neg (by rw[hb];simp)]
 rw[ht]at hnd
 have e1:(List.range k).filter (fun i=>x.testBit i)=[]:=List.filter_eq_nil_iff.2 fun i hi=>by simpa using c3 i (dG.1 hi)
 have e2:(List.range k).filter (fun i=>(x&&&(x-1)).testBit i)=[]:=List.filter_eq_nil_iff.2 fun i hi=>by rw[hb,c3 i (dG.1 hi)];simp
 rw[e1,e2,fF,fF]
 congr 1
 refine List.filter_congr fun i hi=> ?_
 have hne:i≠k:=fun e=>by
  subst e
  exact(gW.1 (List.nodup_append.1 hnd).2.1).1 hi
 rw[hb,decide_eq_false hne]
 simp
theorem a8D:oU 0=[]:=List.filter_eq_nil_iff.2 fun i _=>by simp
def pF(x:Nt):List Int:=(oU x.1).map (fun(i:Nat)=>(i:Int))++(oU x.2).map fun(i:Nat)=>64+(i:Int)
def a5A(x:Nt)(i:Nat):Nat:=if i=0 then x.1 else x.2
def a4t(x:Nt)(i:Nat):List Int:=(oU (a5A x i)).map fun(j:Nat)=>64*(i:Int)+(j:Int)
def a4x(x:Nt)(i:Nat):List Int:=(List.range i).flatMap (a4t x)
theorem zW(x:Nt)(i:Nat):a4x x (i+1)=a4x x i++a4t x i:=by
 unfold a4x
 rw[eN,dD,dL,eU,dA]
theorem a6x(x:Nt):a4x x 2=pF x:=by
 rw[zW,zW]
 unfold pF a4x a4t a5A
 simp
theorem b8L{x:Nt}(hx:Nt.Ok x)(i:Nat):a5A x i<18446744073709551616:=by
 unfold a5A
 split
 ·exact hx.1
 ·exact hx.2
theorem c3X(a b:Int):oX prog 267 (.agg #[.int .u64 a,.int .u64 b]) (I 0)=some (.int .u64 a):=by kernel_rfl
theorem c2X(a b:Int):oX prog 267 (.agg #[.int .u64 a,.int .u64 b]) (I 1)=some (.int .u64 b):=by kernel_rfl
theorem c4G(x:Nt)(i:Nat)(h:i<2):a1s (pW prog 267) prog 267 (.agg #[.int .u64 x.1,.int .u64 x.2]) (I i)=some (.int .u64 (a5A x i)):=by
 rw[←a6z]
 rcases(by omega:i=0∨i=1)with rfl|rfl
 ·exact c3X _ _
 ·exact c2X _ _
theorem c1y(x:Nt)(hx:Nt.Ok x)(A:Nat)(f:Value)(J:List Int→Heap→Prop)(h0:J [] H)(hg:∀d H1,J d H1→Var H1 A 2 [.int .u64 x.1,.int .u64 x.2]∧Glob gH H1)
 (hst:∀d H1 H2,J d H1→St prog H1 H2 []→J d H2)
 (hf:∀d c e H1,pF x=d++c::e→J d H1→rV prog f [I c] H1 fun v H2=>v=.bool true∧J (d++[c]) H2):
 FnS prog 156 [f,ptr A 0 2] H fun _ H'=>J (pF x) H':=by
 have hV0:=(hg _ _ h0).1
 refine FnS.bc func156 rfl (by kernel_rfl) fun l hl=> ?_
 have hn:l.length=29:=by rw[hl];rfl
 have g0:get l 0=f:=by rw[hl];rfl
 have g1:get l 1=(ptr A 0 2):=by rw[hl];rfl
 clear hl
 simp(disch:=omega) only[↓RA,RZ,simprocAttr,hn,g1,hV0.ld,b3c]
 refine Wp.aj (fun n l H'=>l.length=29∧get l 0=f∧get l 1=ptr A 0 2∧get l 9=.agg #[.int .u64 x.1,.int .u64 x.2]∧∃i:Nat,n+i=2∧get l 10=I i∧J (a4x x i) H') 2 ?_ ?_
 ·simp(disch:=omega) only[RB,RC,simprocAttr,hn,g0,g1]
  exact⟨0,rfl,rfl,h0⟩
 rintro n l H9⟨hn,g0,g1,g9,i,hi,yT,hJ⟩
 simp(disch:=omega) only[↓RA,RB,simprocAttr,hn,yT]
 refine iF (fun q1=> ?_) (fun q1=> ?_)
 ·have hix:=c4G x i (by omega)
  have hwl:=b8L hx i
  simp(disch:=omega) only[↓RA,RZ,simprocAttr,hn,g9,yT,q1,hix]
  refine Wp.aj (fun n2 l H'=>l.length=29∧get l 0=f∧get l 1=ptr A 0 2∧get l 9=.agg #[.int .u64 x.1,.int .u64 x.2]∧get l 10=I i∧get l 3=I i∧∃(y:Nat)(d:List Nat),(n2=(oU y).length∧y<18446744073709551616∧oU (a5A x i)=d++oU y)∧get l 4=.int .u64 y∧J (a4x x i++d.map fun(j:Nat)=>64*(i:Int)+(j:Int)) H') (oU (a5A x i)).length ?_ ?_
  ·simp(disch:=omega) only[RB,RC,simprocAttr,hn,g0,g1,g9,yT]
   exact⟨a5A x i,[],⟨rfl,hwl,rfl⟩,rfl,by rw[fN,dA];exact hJ⟩
  rintro n2 l H8⟨hn,g0,g1,g9,yT,g3,y,d,⟨hn2,hy,hbd⟩,g4,hJ2⟩
  simp(disch:=omega) only[↓RA,RB,simprocAttr,hn,g4]
  refine iF (fun q2=> ?_) (fun q2=> ?_)
  ·have hy0:y≠0:=by omega
   have hc:=a2g hy0 hy
   have hlow:=b2z hy0 hy
   have hGl:=(hg _ _ hJ2).2
   have eY1:IntKind.wrap .u64 ((y:Int)-1)=((y-1:Nat):Int):=by
    rw[a9o]
    omega
   have eY2:IntKind.wrap .u64 ((BitVec.ofInt (IntKind.bits .u64) (y:Int)&&&BitVec.ofInt (IntKind.bits .u64) ((y-1:Nat):Int)).toNat:Int)=((y&&&(y-1):Nat):Int):=by
    rw[BitVec.toNat_and,zM y hy,zM _ (by omega)]
    have:=Nat.and_le_left (n:=y) (m:=y-1)
    exact qS _ (by omega) (by omega)
   have hyl:y&&&(y-1)<18446744073709551616:=Nat.lt_of_le_of_lt Nat.and_le_left hy
   have hmem:pF x=(a4x x i++d.map fun(j:Nat)=>64*(i:Int)+(j:Int))++(64*(i:Int)+(ctz y:Int))::((oU (y&&&(y-1))).map (fun(j:Nat)=>64*(i:Int)+(j:Int))++((List.range 2).drop (i+1)).flatMap (a4t x)):=by
    rw[←a6x]
    unfold a4x
    have e:List.range 2=List.range i++i::(List.range 2).drop (i+1):=by
     rcases(by omega:i=0∨i=1)with rfl|rfl<;>rfl
    rw[congrArg (List.flatMap (a4t x)) e,dD,dL]
    rw[show a4t x i=(d++oU y).map (fun(j:Nat)=>64*(i:Int)+(j:Int))from by unfold a4t;rw[hbd]]
    rw[hlow,dN,dY]
    simp only[ee,fJ]
   have hc1:=hc.1
   simp(disch:=omega) only[↓RA,RZ,simprocAttr,hn,g0,g3,g4,q2]
   refine(sR H8).cF (c3i ((sR H8).gl hGl) y hy0 hy) fun H1 hS1=> ?_
   simp(disch:=omega) only[↓RA,RZ,simprocAttr,hn,q2]
   refine a9M (hf _ _ _ _ hmem (hst _ _ _ hJ2 hS1)) ?_
   rintro r H10⟨rfl,hJ3⟩
   simp(disch:=omega) only[↓RA,RZ,simprocAttr,hn,g0,g1,g9,yT,g3,g4,q2,eY1,eY2]
   refine⟨(oU (y&&&(y-1))).length,by rw[hn2,hlow];simp,y&&&(y-1),d++[ctz y],⟨rfl,hyl,by rw[hbd,hlow];simp⟩,rfl,?_⟩
   rw[dN,dY,fN,←ee]
   exact hJ3
  simp(disch:=omega) only[↓RA,RZ,simprocAttr,hn,g0,g1,g9,yT,q2]
  have hy0:y=0:=by omega
  subst hy0
  refine⟨n-1,by omega,i+1,by omega,by simp,?_⟩
  rw[zW]
  have:a4t x i=d.map fun(j:Nat)=>64*(i:Int)+(j:Int):=by
   unfold a4t
   rw[hbd,a8D,dA]
  rw[this]
  exact hJ2
 simp(disch:=omega) only[↓RA,RZ,simprocAttr,c4c,q1]
 have e:i=2:=by omega
 subst e
 rw[←a6x]
 exact hJ
theorem a1k(x:Nt):(pF x).length≤128:=by
 unfold pF
 rw[du,dC,dC]
 have h1:=a6Y x.1 64
 have h2:=a6Y x.2 64
 unfold b5g at h1 h2
 unfold oU
 omega
theorem b1H(hG:Glob gH H)(x:Nt)(hx:Nt.Ok x)(A:Nat)(hA:Var H A 2 [.int .u64 x.1,.int .u64 x.2]):
 Fn prog 155 [.slice none 0 0,.func (.func 156) #[] #[ptr A 0 2]] H fun r H'=>St prog H H' [⟨r,1,(pF x).flatMap (one I)⟩]:=by
 refine .aH func155 rfl (by kernel_rfl) (m:=13) rfl fun l hn g0 g1=> ?_
 simp(disch:=omega) only[↓RA,RB,simprocAttr,g0]
 refine(sR H).eNew 1 [(.slice none 0 0)] rfl rfl rfl b4P fun A1 H1 hS1=> ?_
 simp only[RT]at hS1
 simp(disch:=omega) only[↓RA,RB,simprocAttr,g1]
 have hS2:=hS1.nil 0
 simp only[RT]at hS2
 refine Wp.cL fun lrg1 hlrg1=> ?_
 have hnrg1:lrg1.length=13:=by rw[hlrg1];simp(disch:=omega) only[RB,simprocAttr,hn]
 have g2rg1:get lrg1 2=(ptr A1 0 1):=by rw[hlrg1];simp(disch:=omega) only[RB,simprocAttr,hn]
 have g4rg1:get lrg1 4=(.slice none 0 0):=by rw[hlrg1];simp(disch:=omega) only[RB,simprocAttr,hn]
 have gfrg1:get lrg1 6=.func (.func 156) #[] [(ptr A 0 2)].toArray:=by rw[hlrg1];simp(disch:=omega) only[RB,simprocAttr,hn]
 clear hlrg1
 refine Wp.cA gfrg1 fun rg1 hstrg1 hpdrg1 htmrg1 hpsrg1 hasrg1 hbdrg1=> ?_
 have hreqrg1:({rg1 with state:=.ready,pending:=none}:Loop)=rg1:=by
  cases rg1
  simp only at hstrg1 hpdrg1
  subst hstrg1 hpdrg1
  rfl
 have hLprg1:=Lp.enter hS2 rg1
 generalize H1.cons (.loop rg1)=Hcrg1 at hLprg1 ⊢
 generalize H1.length=Lrg1 at hLprg1 ⊢
 refine(c1y x hx A (.func (.yield Lrg1) #[] #[]) (fun d H1=>∃ow,Lp prog H Lrg1 rg1 H1 [⟨ptr A1 0 1,0,[ow]⟩,⟨ow,1,d.flatMap (one I)⟩]) ⟨.slice none 0 0,hLprg1⟩ ?_ ?_ ?_).mono ?_
 ·rintro d H1⟨ow,h⟩
  exact⟨hA.ag h.st.ag,h.st.gl hG⟩
 ·rintro d H1 H2⟨ow,h⟩hS
  exact⟨ow,by simpa using h.ext hS⟩
 ·rintro d c e H20 hm⟨ow,hLpj⟩
  have hml:=a1k x
  have hdl:d.length<128:=by
   rw[hm,du,dT]at hml
   omega
  refine a0C hLpj.get (by rw[hpsrg1];rfl) hstrg1 ?_
  refine Wp.bR (l:=put lrg1 (some 7) (I c)) hasrg1 (by rw[hpsrg1,htmrg1];first|exact(nD ..).symm|rfl|simp[put,nD]) ?_
  simp(disch:=omega) only[↓RA,RZ,simprocAttr,hnrg1]
  refine⟨rg1,hLpj.get,hstrg1,?_⟩
  have hYBs1:=hLpj.set (fun h=>h) {rg1 with state:=.busy}
  have hKBs1:∀B,B≠Lrg1→iT (hset H20 Lrg1 (.loop {rg1 with state:=.busy})) B=iT H20 B:=fun B h=>jA _ (fm h)
  have hNBs1:(hset H20 Lrg1 (.loop {rg1 with state:=.busy})).length=H20.length:=jR ..
  generalize hset H20 Lrg1 (.loop {rg1 with state:=.busy})=HBs1 at hYBs1 hKBs1 hNBs1 ⊢
  refine Wp.bR hbdrg1 rfl ?_
  have hZBs1:=hYBs1.st
  obtain⟨Bs1,hBBs1,hS3⟩:=hZBs1.aQ (os:=[⟨ptr A1 0 1,0,_⟩,⟨ow,1,_⟩])
  simp(disch:=omega) only[↓RA,RZ,simprocAttr,hnrg1,g2rg1,hS3.ld 0 rfl]
  refine hS3.ak [I c] pZ wS rfl rfl (by simp[Value.cells]) rfl rfl (by decide) (by decide) fun w1 H2 hS4=> ?_
  simp only[RT]at hS4
  simp(disch:=omega) only[↓RA,RZ,simprocAttr,hnrg1]
  refine hS4.av 1 rfl (hS4.rd 2 rfl) pZ (by rw[lN,dC];simp;omega) fun w2 H3 hS5=> ?_
  simp only[RT]at hS5
  simp(disch:=omega) only[↓RA,RB,simprocAttr,hnrg1,g2rg1]
  refine hS5.aa 0 rfl [w2] (by rw[(hS5.rd 1 rfl).cells.1]) (by simp[(hS5.rd 1 rfl).cells.2.1]) b4P (by simp) fun H4 hS6=> ?_
  simp only[RT]at hS6
  simp(disch:=omega) only[↓RA,simprocAttr]
  have hS7:=hS6.pick (os':=[⟨ptr A1 0 1,0,_⟩,⟨w2,1,_⟩]) [0,1] (by decide) rfl
  have hWBs1:=(hYBs1.body (hBBs1▸hS7)).set (fun h=>h) rg1
  rw[←hreqrg1]at hWBs1
  refine⟨_,(hYBs1.body (hBBs1▸hS7)).get,rfl,w2,?_⟩
  rw[dD]
  exact hreqrg1▸hWBs1
 ·rintro _ H21⟨ow,hLp2⟩
  refine⟨_,hLp2.get,(by rw[hstrg1];exact fun h=>by cases h),fun _=> ?_,fun c hc=>by rw[hpdrg1]at hc;cases hc⟩
  have hAAf1:=(hLp2.set (fun h=>h) {rg1 with state:=.exhausted}).st
  have hKAf1:∀B,B≠Lrg1→iT (hset H21 Lrg1 (.loop {rg1 with state:=.exhausted})) B=iT H21 B:=fun B h=>jA _ (fm h)
  generalize hset H21 Lrg1 (.loop {rg1 with state:=.exhausted})=HAf1 at hAAf1 hKAf1 ⊢
  simp(disch:=omega) only[↓RA,RZ,simprocAttr,hnrg1,g2rg1,hAAf1.ld 0 rfl,c3q]
  exact hAAf1.pick [1] (by decide) rfl
theorem a9S(hG:Glob gH H)(x:Nt)(hx:Nt.Ok x)(A:Nat)(hA:Var H A 2 [.int .u64 x.1,.int .u64 x.2]):
 Fn prog 109 [.func (.func 156) #[] #[ptr A 0 2]] H fun r H'=>St prog H H' [⟨r,1,(pF x).flatMap (one I)⟩]:=by
 refine .aS func109 rfl (by kernel_rfl) (m:=5) rfl fun l hn g0=> ?_
 simp(disch:=omega) only[↓RA,RZ,simprocAttr,hn,g0]
 refine iR ((b1H ((sR H).gl hG) x hx A (hA.ag (sR H).ag)).tr) ?_
 rintro r H1⟨-,hT1⟩
 have hS1:=(sR H).trans hT1
 simp only[RT]at hS1
 simp(disch:=omega) only[↓RA,RB,simprocAttr,hn,c3Q]
 exact hS1
theorem b9c(x:Nt):Fn prog 110 [.agg #[.int .u64 x.1,.int .u64 x.2]] H fun r H'=>∃A,r=.func (.func 156) #[] #[ptr A 0 2]∧St prog H H' [⟨ptr A 0 2,0,[.int .u64 x.1,.int .u64 x.2]⟩]:=by
 refine .aS func110 rfl (by kernel_rfl) (m:=4) rfl fun l hn g0=> ?_
 simp(disch:=omega) only[↓RA,RB,simprocAttr,g0]
 refine(sR H).eNew 2 [(.int .u64 x.1),(.int .u64 x.2)] rfl rfl rfl pA fun A1 H1 hS1=> ?_
 simp only[RT]at hS1
 simp(disch:=omega) only[↓RA,RZ,simprocAttr,hn,c3T]
 exact⟨A1,rfl,hS1⟩
theorem a8J(hG:Glob gH H)(x:Nt)(hx:Nt.Ok x):
 Fn prog 69 [.agg #[.int .u64 x.1,.int .u64 x.2]] H fun r H'=>St prog H H' [⟨r,1,(pF x).flatMap (one I)⟩]:=by
 refine .aS func69 rfl (by kernel_rfl) (m:=6) rfl fun l hn g0=> ?_
 simp(disch:=omega) only[↓RA,RB,simprocAttr,g0]
 refine(sR H).eNew 2 [(.int .u64 x.1),(.int .u64 x.2)] rfl rfl rfl pA fun A1 H1 hS1=> ?_
 simp only[RT]at hS1
 simp(disch:=omega) only[↓RA,RZ,simprocAttr,hn,hS1.ae 0 rfl]
 refine iR (b9c x) ?_
 rintro r H2⟨A2,rfl,hT1⟩
 have hS2:=hS1.trans hT1
 simp only[RT]at hS2
 simp(disch:=omega) only[↓RA,RZ,simprocAttr,hn]
 refine iR ((a9S (hS2.gl hG) x hx A2 (hS2.var 1 rfl)).tr) ?_
 rintro r H3⟨-,hT2⟩
 have hS3:=hS2.trans hT2
 simp only[RT]at hS3
 simp(disch:=omega) only[↓RA,RB,simprocAttr,hn,c5W]
 exact hS3.pick [2] (by decide) rfl
def a5F(a b:Nat):Nat:=(BitVec.ofNat 64 a&&&~~~ BitVec.ofNat 64 b).toNat
theorem b7Z(a b:Nat):a5F a b<18446744073709551616:=(BitVec.ofNat 64 a&&&~~~ BitVec.ofNat 64 b).isLt
theorem c0r(a b:Nat):IntKind.wrap .u64 ((BitVec.ofInt (IntKind.bits .u64) (a:Int)&&&~~~ BitVec.ofInt (IntKind.bits .u64) (b:Int)).toNat:Int)=((a5F a b:Nat):Int):=by
 have e:(BitVec.ofInt (IntKind.bits .u64) (a:Int)&&&~~~ BitVec.ofInt (IntKind.bits .u64) (b:Int)).toNat=a5F a b:=by
  unfold a5F
  rw[gK,gK]
  rfl
 rw[e]
 have:=b7Z a b
 exact qS _ (by omega) (by omega)
theorem a6X(a b j:Nat)(ha:a<18446744073709551616)(hj:j<64):(a5F a b).testBit j=(a.testBit j&& !b.testBit j):=by
 unfold a5F
 have h1:(BitVec.ofNat 64 a&&&~~~ BitVec.ofNat 64 b).toNat.testBit j=(BitVec.ofNat 64 a&&&~~~ BitVec.ofNat 64 b).getLsbD j:=rfl
 rw[h1,BitVec.getLsbD_and,BitVec.getLsbD_not,BitVec.getLsbD_ofNat,BitVec.getLsbD_ofNat]
 simp[hj]
def woF(x y:Nt):Nt:=(a5F x.1 y.1,a5F x.2 y.2)
theorem c2k(x y:Nt):Fn prog 130 [.agg #[.int .u64 x.1,.int .u64 x.2],.agg #[.int .u64 y.1,.int .u64 y.2]] H fun r H'=>r=.agg #[.int .u64 (woF x y).1,.int .u64 (woF x y).2]∧St prog H H' []:=by
 have e1:=c0r x.1 y.1
 have e2:=c0r x.2 y.2
 refine .aH func130 rfl (by kernel_rfl) (m:=16) rfl fun l hn g0 g1=> ?_
 simp(disch:=omega) only[↓RA,RB,simprocAttr,g0]
 refine(sR H).eNew 2 [(.int .u64 x.1),(.int .u64 x.2)] rfl rfl rfl pA fun A1 H1 hS1=> ?_
 simp only[RT]at hS1
 simp(disch:=omega) only[↓RA,RB,simprocAttr,g1]
 refine hS1.eNew 2 [(.int .u64 y.1),(.int .u64 y.2)] rfl rfl rfl pA fun A2 H2 hS2=> ?_
 simp only[RT]at hS2
 simp(disch:=omega) only[↓RA,RZ,simprocAttr]
 refine hS2.eNew 2 [(.int .u64 0),(.int .u64 0)] rfl rfl rfl pA fun A3 H3 hS3=> ?_
 simp only[RT]at hS3
 simp(disch:=omega) only[↓RA,RZ,simprocAttr,hn,hS3.ld 0 rfl,hS3.ld 1 rfl,b5O,e1,e2]
 refine hS3.aa 2 rfl [_,_] rfl rfl pA (by simp) fun H4 hS4=> ?_
 simp only[RT]at hS4
 simp(disch:=omega) only[↓RA,RZ,simprocAttr,hn,c3H,hS4.ae 2 rfl]
 exact⟨rfl,hS4.forget⟩
theorem a8e(x y:Nt):Fn prog 93 [.agg #[.int .u64 x.1,.int .u64 x.2],.agg #[.int .u64 y.1,.int .u64 y.2]] H fun r H'=>r=.bool (decide (woF x y=(0,0)))∧St prog H H' []:=by
 refine .aH func93 rfl (by kernel_rfl) (m:=10) rfl fun l hn g0 g1=> ?_
 simp(disch:=omega) only[↓RA,RB,simprocAttr,g0]
 refine(sR H).eNew 2 [(.int .u64 x.1),(.int .u64 x.2)] rfl rfl rfl pA fun A1 H1 hS1=> ?_
 simp only[RT]at hS1
 simp(disch:=omega) only[↓RA,RB,simprocAttr,g1]
 refine hS1.eNew 2 [(.int .u64 y.1),(.int .u64 y.2)] rfl rfl rfl pA fun A2 H2 hS2=> ?_
 simp only[RT]at hS2
 simp(disch:=omega) only[↓RA,RZ,simprocAttr,hn,hS2.ae 0 rfl,hS2.ae 1 rfl]
 refine hS2.cF (c2k x y) fun H3 hS3=> ?_
 simp(disch:=omega) only[↓RA,RZ,simprocAttr,hn,c0H,c4F]
 refine⟨?_,hS3.forget⟩
 congr 1
 rw[decide_eq_decide]
 constructor
 ·rintro⟨h1,h2⟩
  exact gV (by simpa using h1) (by simpa using h2)
 ·intro h
  rw[h]
  exact⟨rfl,rfl⟩
def a0l(lo hi:Int):Nt:=kG ((List.range (hi-lo+1).toNat).map fun(k:Nat)=>lo+(k:Int))
theorem b2F(lo hi:Int)(h0:0≤lo)(h1:lo≤hi)(h2:hi≤127):Fn prog 92 [.agg #[I lo,I hi]] H fun r H'=>r=.tuple #[.agg #[.int .u64 (a0l lo hi).1,.int .u64 (a0l lo hi).2],I 0]∧St prog H H' []:=by
 have hce:qV lo hi=0:=by
  unfold qV
  rw[if_neg (by omega),if_neg (by omega)]
 refine .aS func92 rfl (by kernel_rfl) (m:=25) rfl fun l hn g0=> ?_
 simp(disch:=omega) only[↓RA,RB,simprocAttr,g0]
 refine(sR H).eNew 2 [I lo,I hi] rfl rfl rfl sG fun A1 H1 hS1=> ?_
 simp only[RT]at hS1
 simp(disch:=omega) only[↓RA,RZ,simprocAttr]
 refine hS1.eNew 2 [(.int .u64 0),(.int .u64 0)] rfl rfl rfl pA fun A2 H2 hS2=> ?_
 simp only[RT]at hS2
 simp(disch:=omega) only[↓RA,RZ,simprocAttr]
 refine hS2.eNew 2 [(.int .u64 0),(.int .u64 0)] rfl rfl rfl pA fun A3 H3 hS3=> ?_
 simp only[RT]at hS3
 simp(disch:=omega) only[↓RA,RZ,simprocAttr,hn,hS3.ae 0 rfl]
 refine hS3.cF (a1c lo hi) fun H4 hS4=> ?_
 rw[hce]
 simp(disch:=omega) only[↓RA,RZ,simprocAttr,hn,hS4.ld 0 rfl]
 refine Wp.aj (fun n l H'=>l.length=25∧get l 1=(ptr A1 0 2)∧get l 2=(ptr A2 0 2)∧get l 3=I 0∧get l 4=(ptr A3 0 2)∧∃(j:Nat),(n+j=(hi-lo+1).toNat)∧get l 6=I (lo+(j:Int))∧St prog H H' [⟨ptr A1 0 2,0,[I lo,I hi]⟩,⟨ptr A2 0 2,0,[(.int .u64 0),(.int .u64 0)]⟩,⟨ptr A3 0 2,0,[.int .u64 (kG ((List.range j).map fun(k:Nat)=>lo+(k:Int))).1,.int .u64 (kG ((List.range j).map fun(k:Nat)=>lo+(k:Int))).2]⟩]) (hi-lo+1).toNat ?_ ?_
 ·simp(disch:=omega) only[RB,RC,simprocAttr,hn]
  exact⟨0,by omega,by simp,hS4⟩
 rintro n l H5⟨hn,g1,g2,g3,g4,j,hj,g6,hS5⟩
 simp(disch:=omega) only[↓RA,RZ,simprocAttr,hn,g1,g6,hS5.ld 0 rfl]
 refine iF (fun q1=> ?_) (fun q1=> ?_)
 ·have hok:Nt.Ok (kG ((List.range j).map fun(k:Nat)=>lo+(k:Int))):=zX _ _ (fun z h=>by
   obtain⟨k,hk,rfl⟩:=dE.1 h
   have:=dG.1 hk
   exact⟨by omega,by omega⟩) ⟨by decide,by decide⟩
  have hsu:kG ((List.range (j+1)).map fun(k:Nat)=>lo+(k:Int))=sM (kG ((List.range j).map fun(k:Nat)=>lo+(k:Int))) (lo+(j:Int)):=by
   unfold kG
   rw[eN,dN,gr]
   rfl
  simp(disch:=omega) only[↓RA,RZ,simprocAttr,hn,g4,g6,hS5.ae 2 rfl,q1]
  refine hS5.cF (a5x (kG ((List.range j).map fun(k:Nat)=>lo+(k:Int))) hok (lo+(j:Int)) (by omega) (by omega)) fun H6 hS6=> ?_
  simp(disch:=omega) only[↓RA,RZ,simprocAttr,hn,g4,q1]
  refine hS6.aa 2 rfl [(.int .u64 (sM (kG ((List.range j).map fun(k:Nat)=>lo+(k:Int))) (lo+(j:Int))).1),(.int .u64 (sM (kG ((List.range j).map fun(k:Nat)=>lo+(k:Int))) (lo+(j:Int))).2)] rfl rfl pA (by simp) fun H7 hS7=> ?_
  simp only[RT]at hS7
  simp(disch:=omega) only[↓RA,RZ,simprocAttr,hn,g1,g2,g3,g4,g6,q1]
  refine⟨n-1,by omega,j+1,by omega,by congr 1;omega,?_⟩
  rw[hsu]
  exact hS7.pick [0,1,2] (by decide) rfl
 have hjj:j=(hi-lo+1).toNat:=by omega
 simp(disch:=omega) only[↓RA,RZ,simprocAttr,hn,g2,g4,hS5.ae 2 rfl,q1]
 refine hS5.aa 1 rfl [(.int .u64 (kG ((List.range j).map fun(k:Nat)=>lo+(k:Int))).1),(.int .u64 (kG ((List.range j).map fun(k:Nat)=>lo+(k:Int))).2)] rfl rfl pA (by simp) fun H8 hS8=> ?_
 simp only[RT]at hS8
 simp(disch:=omega) only[↓RA,RZ,simprocAttr,hn,g2,c5l,hS8.ae 1 rfl,q1]
 rw[hjj]
 exact⟨rfl,hS8.forget⟩
structure Ks(H:Heap)(kv:Value)(ks:List Nt):Prop where
 sl:Sl 2 ntc H kv ks
 len:ks.length<1000000000
 ok:∀x∈ks,Nt.Ok x
theorem Ks.ag{P:Program}{H':Heap}{kv:Value}{ks:List Nt}{os:List Ob}(h:Ks H kv ks)(hS:St P H H' os):Ks H' kv ks:=⟨hS.sl h.sl,h.len,h.ok⟩
def tI(o:Org)(ks:List Nt):Int:=if organE o≠0 then organE o else if ks.length≠o.dvs.length then 5 else if ∃j,j<o.dvs.length∧woF (iG ks j) (a0l (iG o.dvs j).lo (iG o.dvs j).hi)≠(0,0)then 23 else 0
theorem b5j(o:Org)(ho:o.In H)(kv:Value)(ks:List Nt)(hk:Ks H kv ks):Fn prog 49 [.agg #[.string o.name,o.rv,o.dv,o.cv],kv] H fun r H'=>r=I (tI o ks)∧St prog H H' []:=by
 have hkl:=hk.len
 have hdl:=ho.2.2.2.2.2.2.1
 refine .aH func49 rfl (by kernel_rfl) (m:=43) rfl fun l hn g0 g1=> ?_
 simp(disch:=omega) only[↓RA,RB,simprocAttr,g0]
 refine(sR H).eNew 4 [(.string o.name),o.rv,o.dv,o.cv] rfl rfl (by simp[OC,((sR H).sl ho.1).cells.2.1,((sR H).sl ho.2.2.1).cells.2.1,((sR H).sl ho.2.2.2.2.1).cells.2.1]) a5Y fun A1 H1 hS1=> ?_
 simp only[RT]at hS1
 simp(disch:=omega) only[↓RA,RZ,simprocAttr,hn,hS1.ae 0 rfl]
 refine hS1.cF (a6P o (ho.ag hS1)) fun H2 hS2=> ?_
 simp(disch:=omega) only[↓RA,RB,simprocAttr,hn]
 refine iF (fun h1=> ?_) (fun h1=> ?_)
 ·simp(disch:=omega) only[↓RA,RZ,simprocAttr,hn,b9R,h1]
  exact⟨by unfold tI;rw[if_pos h1],hS2.forget⟩
 have hz:organE o=0:=dI.1 h1
 have hf:=Org.aT hz
 simp(disch:=omega) only[↓RA,RZ,simprocAttr,hn,g1,(hS2.sl hk.sl).len,hS2.ld 0 rfl,(hS2.sl ho.2.2.1).len,h1]
 refine iF (fun h2=> ?_) (fun h2=> ?_)
 ·simp(disch:=omega) only[↓RA,RZ,simprocAttr,hn,b9R,h1,h2]
  exact⟨by unfold tI;rw[if_neg h1,if_pos (by omega)],hS2.forget⟩
 have hlen:ks.length=o.dvs.length:=by omega
 simp(disch:=omega) only[↓RA,RZ,simprocAttr,hn,hS2.ld 0 rfl,(hS2.sl ho.2.2.1).len,h1,h2]
 refine Wp.aj (fun n l H'=>l.length=43∧get l 1=kv∧get l 22=o.dv∧get l 23=I o.dvs.length∧∃(j:Nat),(n+j=o.dvs.length∧∀q,q<j→woF (iG ks q) (a0l (iG o.dvs q).lo (iG o.dvs q).hi)=(0,0))∧get l 24=I j∧St prog H H' [⟨ptr A1 0 4,0,[(.string o.name),o.rv,o.dv,o.cv]⟩]) o.dvs.length ?_ ?_
 ·simp(disch:=omega) only[RB,RC,simprocAttr,hn,g1]
  exact⟨0,⟨by omega,fun q hq=>absurd hq (dX _)⟩,rfl,hS2⟩
 rintro n l H3⟨hn,g1,g22,g23,j,⟨hj,hq⟩,g24,hS3⟩
 simp(disch:=omega) only[↓RA,RB,simprocAttr,hn,g23,g24]
 refine iF (fun h3=> ?_) (fun h3=> ?_)
 ·have hky:=hf.keys j (by omega)
  simp(disch:=omega) only[↓RA,RZ,simprocAttr,hn,g22,g24,(hS3.sl ho.2.2.1).idx,(hS3.sl ho.2.2.1).ae,Dvn.cells,h3]
  refine hS3.eNew 5 [(.string ⟨#[]⟩),(.bool false),I 0,I 0,(.slice none 0 0)] rfl rfl rfl rF fun A2 H4 hS4=> ?_
  simp only[RT]at hS4
  simp(disch:=omega) only[↓RA,RZ,simprocAttr,hn,h3]
  refine hS4.aa 1 rfl [(.string (iG o.dvs j).name),(.bool (iG o.dvs j).pedal),I (iG o.dvs j).lo,I (iG o.dvs j).hi,(iG o.dvs j).sv] rfl (by simp[OC,(hS4.sl (ho.2.2.2.1 (iG o.dvs j) (iM (by omega))).1).cells.2.1]) rF (by simp) fun H5 hS5=> ?_
  simp only[RT]at hS5
  simp(disch:=omega) only[↓RA,RZ,simprocAttr,hn,hS5.ae 1 rfl,h3]
  refine hS5.cF (b2F (iG o.dvs j).lo (iG o.dvs j).hi hky.1 hky.2.1 hky.2.2) fun H6 hS6=> ?_
  simp(disch:=omega) only[↓RA,RZ,simprocAttr,hn,h3]
  refine hS6.eNew 2 [(.int .u64 0),(.int .u64 0)] rfl rfl rfl pA fun A3 H7 hS7=> ?_
  simp only[RT]at hS7
  simp(disch:=omega) only[↓RA,RZ,simprocAttr,hn,h3]
  refine hS7.aa 2 rfl [(.int .u64 (a0l (iG o.dvs j).lo (iG o.dvs j).hi).1),(.int .u64 (a0l (iG o.dvs j).lo (iG o.dvs j).hi).2)] rfl rfl pA (by simp) fun H8 hS8=> ?_
  simp only[RT]at hS8
  simp(disch:=omega) only[↓RA,RZ,simprocAttr,hn,h3]
  refine Wp.drw kJ (by kernel_rfl) ?_
  simp(disch:=omega) only[↓RA,RZ,simprocAttr,hn,g1,(hS8.sl hk.sl).idx,(hS8.sl hk.sl).ae,ntc,hS8.ae 2 rfl]
  refine hS8.cF (a8e (iG ks j) (a0l (iG o.dvs j).lo (iG o.dvs j).hi)) fun H9 hS9=> ?_
  simp(disch:=omega) only[↓RA,RB,simprocAttr,hn]
  refine jD (fun h4=> ?_) (fun h4=> ?_)
  ·have h5:¬woF (iG ks j) (a0l (iG o.dvs j).lo (iG o.dvs j).hi)=(0,0):=by simpa using h4
   simp(disch:=omega) only[↓RA,RB,simprocAttr,hn,b9R,h4]
   exact⟨by unfold tI;rw[if_neg h1,if_neg (by omega),if_pos ⟨j,by omega,h5⟩],hS9.forget⟩
  have h5:woF (iG ks j) (a0l (iG o.dvs j).lo (iG o.dvs j).hi)=(0,0):=by simpa using h4
  simp(disch:=omega) only[↓RA,RZ,simprocAttr,hn,g1,g22,g23,g24,h4]
  exact⟨n-1,by omega,j+1,⟨by omega,fun q hq'=>by rcases dw.1 hq' with e|e;(· exact hq q e);(· rw[e];exact h5)⟩,by simp,hS9.pick [0] (by decide) rfl⟩
 simp(disch:=omega) only[↓RA,RZ,simprocAttr,hn,b9R,h3]
 refine⟨?_,hS3.forget⟩
 unfold tI
 rw[if_neg h1,if_neg (by omega),if_neg]
 rintro⟨q,hq1,hq2⟩
 exact hq2 (hq q (by omega))
def plD(ks:List Nt)(i:Nat):List Ct:=(pF (iG ks i)).map fun z=>((i:Int),z)
def iK(ks:List Nt):List Ct:=(List.range ks.length).flatMap (plD ks)
theorem c2r(ks:List Nt)(i:Nat):(plD ks i).length≤128:=by
 unfold plD
 rw[dC]
 exact a1k _
theorem b6V(ks:List Nt):∀i,((List.range i).flatMap (plD ks)).length≤i*128
 | 0=>by simp
 | i+1=>by
   have:=b6V ks i
   have:=c2r ks i
   rw[eN,dD,du,dL,eU,dA]
   omega
end Go.Ds
namespace Go.Ds
open Go.Proofs Go.Proofs.Tryz Go.ChangeShapes Go.WideShapes Go.RowKit Go.Deep
set_option maxRecDepth 10000
structure RgI(H:Heap)(r:Reg)(sv:Value):Prop where
 sl:Sl 1 (one u64) H sv r.stops
 len:r.stops.length<9223372036854775808
 ok:∀x∈r.stops,x<18446744073709551616
 cpl:r.cpl<18446744073709551616
 off:r.off<18446744073709551616
structure KsI(H:Heap)(kv:Value)(ks:List Nt):Prop where
 sl:Sl 2 ntc H kv ks
 len:ks.length<9223372036854775808
 ok:∀x∈ks,Nt.Ok x
theorem RgI.ext{ρ ρ':Rho}{H H':Heap}{r:Reg}{sv:Value}(h:RgI H r sv)(e:ExtW ρ H ρ' H'):RgI H' r sv:=⟨h.sl.ext e,h.len,h.ok,h.cpl,h.off⟩
theorem RgI.ag{P:Program}{H H0:Heap}{os:List Ob}{r:Reg}{sv:Value}(h:RgI H0 r sv)(hS:St P H0 H os):RgI H r sv:=⟨hS.sl h.sl,h.len,h.ok,h.cpl,h.off⟩
theorem KsI.ag{P:Program}{H H0:Heap}{os:List Ob}{kv:Value}{ks:List Nt}(h:KsI H0 kv ks)(hS:St P H0 H os):KsI H kv ks:=⟨hS.sl h.sl,h.len,h.ok⟩
theorem RgI.reg{H:Heap}{r:Reg}{sv:Value}(h:RgI H r sv)(hl:r.stops.length<1000000000):r.In H sv:=⟨h.sl,hl,h.ok,h.cpl,h.off⟩
theorem KsI.ks{H:Heap}{kv:Value}{ks:List Nt}(h:KsI H kv ks)(hl:ks.length<1000000000):Ks H kv ks:=⟨h.sl,hl,h.ok⟩
theorem Pln.In.ext{ρ ρ':Rho}{H H':Heap}{p:Pln}(h:p.In H)(e:ExtW ρ H ρ' H'):p.In H':=⟨h.1.ext e,h.2.1.ext e,fun b hb=>⟨(h.2.2.1 b hb).1.ext e,(h.2.2.1 b hb).2⟩,h.2.2.2.1.ext e,h.2.2.2.2⟩
section
variable {H0:Type} {enc:TypeId×Value→H0} {w:World} {base n:Nat} {spare:Nat→Bool} {lW:Bool} {x:DataW H0×List MemPlace}
theorem b8T{cs:List Value}(h:DataW.trod enc prog w base spare lW n 48 cs=some x):∃m:Nat,cs=one u64 m∧m<18446744073709551616:=by
 obtain⟨m,hv,_,hw⟩:=DataW.trod_int underlying48 h
 have hm:0≤m∧m≤18446744073709551615:=by simpa [Lit.wf,IntKind.min,IntKind.max,IntKind.signed,IntKind.bits]using hw
 refine⟨m.toNat,?_,by omega⟩
 rw[hv]
 show _=[Value.int .u64 ((m.toNat:Nat):Int)]
 rw[gR hm.1]
theorem u64_in{v:Value}(h:DataW.trod enc prog w base spare lW n 48 [v]=some x):∃m:Nat,v=.int .u64 m∧m<18446744073709551616:=by
 obtain⟨m,hv,hm⟩:=b8T h
 exact⟨m,by simpa [one,u64]using hv,hm⟩
end
section
variable {H0:Type} {enc:TypeId×Value→H0} {w:World} {base fuel:Nat} {lW:Bool} {x:DataW H0×List MemPlace} {ρ:Rho} {H:Heap}
end
end Go.Ds
namespace Go.Ds
open Go.Proofs Go.ChangeShapes Go.WideShapes Go.RowKit Go.Deep
set_option maxRecDepth 10000
variable {H0:Type} {enc:TypeId×Value→H0} {w:World} {base:Nat} {lW:Bool}
end Go.Ds
namespace Go.Ds
open Go.Proofs Go.Proofs.Tryz Go.ChangeShapes Go.WideShapes Go.RowKit Go.Deep
set_option maxRecDepth 10000
theorem c3U:prog.cellsOf 23=2:=by kernel_rfl
section
variable {H0:Type} {enc:TypeId×Value→H0} {w:World} {base:Nat} {lW:Bool}
end
end Go.Ds
namespace Go.Ds
open Go.Proofs
set_option maxRecDepth 10000
def uH(x:Nt)(z:Int):Bool:=if z<64 then x.1.testBit z.toNat else x.2.testBit (z-64).toNat
theorem rX{x i:Nat}:i∈oU x↔i<64∧x.testBit i=true:=by
 unfold oU
 rw[fG,dG]
theorem b6f{x:Nt}{z:Int}:z∈pF x↔isN z∧uH x z=true:=by
 unfold pF uH isN
 rw[dP,dE,dE]
 constructor
 ·rintro(⟨i,hi,rfl⟩|⟨i,hi,rfl⟩)
  ·obtain⟨h1,h2⟩:=rX.1 hi
   exact⟨by omega,by rw[if_pos (by omega)];exact h2⟩
  ·obtain⟨h1,h2⟩:=rX.1 hi
   refine⟨by omega,?_⟩
   rw[if_neg (by omega),show(64+(i:Int)-64).toNat=i by omega]
   exact h2
 ·rintro⟨h1,h2⟩
  by_cases h:z<64
  ·rw[if_pos h]at h2
   exact .inl ⟨z.toNat,rX.2 ⟨by omega,h2⟩,by omega⟩
  ·rw[if_neg h]at h2
   exact .inr ⟨(z-64).toNat,rX.2 ⟨by omega,h2⟩,by omega⟩
theorem b5Z(x:Nt)(n z:Int)(hn:isN n)(hz:isN z):uH (sM x n) z=(uH x z||decide (z=n)):=by
 unfold uH sM isN at*
 by_cases h1:n<64
 ·rw[if_pos h1]
  by_cases h2:z<64
  ·rw[if_pos h2,if_pos h2,Nat.testBit_or,gw]
   congr 1
   rw[decide_eq_decide]
   omega
  ·rw[if_neg h2,if_neg h2,decide_eq_false (by omega),Bool.or_false]
 ·rw[if_neg h1]
  by_cases h2:z<64
  ·rw[if_pos h2,if_pos h2,decide_eq_false (by omega),Bool.or_false]
  ·rw[if_neg h2,if_neg h2,Nat.testBit_or,gw]
   congr 1
   rw[decide_eq_decide]
   omega
theorem a3x(z:Int):uH (0,0) z=false:=by
 unfold uH
 split<;>simp
theorem a3l:∀(xs:List Int)(x:Nt)(z:Int),(∀n∈xs,isN n)→isN z→uH (xs.foldl sM x) z=(uH x z||decide (z∈xs))
 | [],x,z,_,_=>by simp
 | n::xs,x,z,h,hz=>by
   rw[fE,a3l xs _ z (fun y hy=>h y (eH _ hy)) hz,b5Z x n z (h n (eX ..)) hz,Bool.or_assoc]
   congr 1
   rw[eu]
   simp
theorem a8a{xs:List Int}{z:Int}(h:∀n∈xs,isN n)(hz:isN z):uH (kG xs) z=decide (z∈xs):=by
 unfold kG
 rw[a3l xs _ z h hz,a3x,Bool.false_or]
theorem b4j{lo hi z:Int}(h0:0≤lo)(h2:hi≤127)(hz:isN z):uH (a0l lo hi) z=(decide (lo≤z)&&decide (z≤hi)):=by
 unfold a0l
 rw[a8a (fun n hn=>by
  obtain⟨k,hk,rfl⟩:=dE.1 hn
  have:=dG.1 hk
  exact⟨by omega,by omega⟩) hz,eu,de,decide_eq_true_eq,decide_eq_true_eq,decide_eq_true_eq,dE]
 constructor
 ·rintro⟨k,hk,rfl⟩
  have:=dG.1 hk
  omega
 ·rintro⟨h3,h4⟩
  exact⟨(z-lo).toNat,dG.2 (by omega),by omega⟩
theorem b9i{x y:Nt}(hx:Nt.Ok x){z:Int}(hz:isN z):uH (woF x y) z=(uH x z&& !uH y z):=by
 obtain⟨h1,h2⟩:=hz
 unfold uH woF
 by_cases h:z<64
 ·rw[if_pos h,if_pos h,if_pos h,a6X _ _ _ hx.1 (by omega)]
 ·rw[if_neg h,if_neg h,if_neg h,a6X _ _ _ hx.2 (by omega)]
theorem a8T{x y:Nt}(hx:Nt.Ok x)(h:woF x y=(0,0)){z:Int}(hz:isN z)(hh:uH x z=true):uH y z=true:=by
 have:=b9i (y:=y) hx hz
 rw[h,a3x,hh]at this
 simpa using this.symm
theorem wL{o:Org}{ks:List Nt}(h:tI o ks=0):organE o=0∧ks.length=o.dvs.length∧∀j,j<o.dvs.length→woF (iG ks j) (a0l (iG o.dvs j).lo (iG o.dvs j).hi)=(0,0):=by
 unfold tI at h
 split at h
 ·rename_i hh;exact absurd h hh
 rename_i h1
 split at h
 ·omega
 rename_i h2
 split at h
 ·omega
 rename_i h3
 refine⟨dI.1 h1,by omega,fun j hj=> ?_⟩
 by_cases hh:woF (iG ks j) (a0l (iG o.dvs j).lo (iG o.dvs j).hi)=(0,0)
 ·exact hh
 ·exact absurd ⟨j,hj,hh⟩ h3
theorem sJ{o:Org}{ks:List Nt}(hok:∀x∈ks,Nt.Ok x)(h:tI o ks=0):∀c∈iK ks,mB o c=true:=by
 obtain⟨h1,h2,h3⟩:=wL h
 have hf:=Org.aT h1
 intro c hc
 unfold iK at hc
 obtain⟨i,hi,hc⟩:=eT.1 hc
 have hi:=dG.1 hi
 unfold plD at hc
 obtain⟨z,hz,rfl⟩:=dE.1 hc
 obtain⟨hz1,hz2⟩:=b6f.1 hz
 have hky:=hf.keys i (by omega)
 have hw:=a8T (hok _ (iM hi)) (h3 i (by omega)) hz1 hz2
 rw[b4j hky.1 hky.2.2 hz1]at hw
 simp only[de,decide_eq_true_eq]at hw
 unfold mB
 simp only[de,decide_eq_true_eq,eh]
 omega
theorem zA{o:Org}{ks:List Nt}(h:tI o ks=0):(iK ks).length≤1024:=by
 obtain⟨h1,h2,_⟩:=wL h
 have h8:=(Org.aT h1).dlen
 have:=b6V ks ks.length
 unfold iK
 omega
end Go.Ds
namespace Go.Ds
open Go.Proofs
variable {H:Heap}
set_option maxRecDepth 10000
set_option maxHeartbeats 1000000
end Go.Ds
namespace Go.Ds
open Go.Proofs
variable {H:Heap}
set_option maxRecDepth 10000
structure Sn where
 o:Org
 sv:Value
 rg:Reg
 kv:Value
 ks:List Nt
 p:Ct
 deriving Inhabited
abbrev Sn.v(s:Sn):Value:=.agg #[.string s.o.name,s.o.rv,s.o.dv,s.o.cv,s.sv,.int .u64 s.rg.cpl,.int .u64 s.rg.off,s.kv,I s.p.1,I s.p.2]
def Sn.cells(s:Sn):List Value:=[.string s.o.name,s.o.rv,s.o.dv,s.o.cv,s.sv,.int .u64 s.rg.cpl,.int .u64 s.rg.off,s.kv,I s.p.1,I s.p.2]
structure Sn.In(H:Heap)(s:Sn):Prop where
 o:s.o.In H
 rg:s.rg.In H s.sv
 ks:Ks H s.kv s.ks
theorem Sn.In.ag{s:Sn}{H0 H:Heap}{P:Program}{os:List Ob}(h:s.In H0)(hS:St P H0 H os):s.In H:=⟨h.o.ag hS,h.rg.ag hS,h.ks.ag hS⟩
def pOk(s:Sn):Bool:=decide (0≤s.p.1)&&decide (s.p.1<s.o.ranks.length)&&decide (0≤s.p.2)&&decide (s.p.2<(iG s.o.ranks s.p.1.toNat).wind.length)
def snE(s:Sn):Int:=if a2D s.o s.rg≠0 then a2D s.o s.rg else if tI s.o s.ks≠0 then tI s.o s.ks else if pOk s then 0 else 10
structure Sn.Fit(s:Sn):Prop where
 reg:a2D s.o s.rg=0
 keys:tI s.o s.ks=0
 p:pOk s=true
theorem yJ{s:Sn}:snE s=0↔s.Fit:=by
 unfold snE
 constructor
 ·intro h
  split at h
  ·rename_i h1;exact absurd h h1
  ·split at h
   ·rename_i h1;exact absurd h h1
   ·rename_i h1 h2
    split at h
    ·rename_i h3;exact⟨dI.1 h1,dI.1 h2,h3⟩
    ·cases h
 ·rintro⟨h1,h2,h3⟩
  rw[if_neg (by simp[h1]),if_neg (by simp[h2]),if_pos h3]
theorem Sn.Fit.o{s:Sn}(h:s.Fit):organE s.o=0:=(a2k h.reg).1
theorem Sn.Fit.aT{s:Sn}(h:s.Fit):s.o.Fine:=Org.aT h.o
theorem Sn.Fit.sl{s:Sn}(h:s.Fit):s.rg.stops.length=s.o.dvs.length:=(a2k h.reg).2
theorem Sn.Fit.rank{s:Sn}(h:s.Fit):0≤s.p.1∧s.p.1<s.o.ranks.length∧0≤s.p.2∧s.p.2<(iG s.o.ranks s.p.1.toNat).wind.length:=by
 have:=h.p
 unfold pOk at this
 simp only[de,decide_eq_true_eq]at this
 omega
theorem Org.bg{o:Org}(h:organE o=0){j:Nat}(hj:j<o.cpls.length):(0≤(iG o.cpls j).src∧(iG o.cpls j).src<o.dvs.length)∧(0≤(iG o.cpls j).dst∧(iG o.cpls j).dst<o.dvs.length)∧(-127≤(iG o.cpls j).shift∧(iG o.cpls j).shift≤127)∧¬((iG o.cpls j).src=(iG o.cpls j).dst∧(iG o.cpls j).shift=0):=by
 have hl:(kps o.dvs).length=o.dvs.length:=by simp[kps]
 unfold organE at h
 split at h
 ·omega
 split at h
 ·omega
 split at h
 ·rename_i hh;exact absurd h hh
 split at h
 ·omega
 split at h
 ·omega
 split at h
 ·rename_i hh;exact absurd h hh
 unfold rJ at h
 split at h
 ·omega
 split at h
 ·omega
 have e:=oW h j hj
 unfold mT at e
 dsimp only at e
 rw[hl]at e
 split at e
 ·omega
 split at e
 ·omega
 split at e
 ·omega
 split at e
 ·omega
 split at e
 ·omega
 omega
theorem c1m{o:Org}(h:organE o=0){j:Nat}(hj:j<o.cpls.length):∃d:Nat,(iG o.cpls j).dst=d∧d<o.dvs.length:=
 have hc:=Org.bg h hj
 ⟨(iG o.cpls j).dst.toNat,by omega,by omega⟩
theorem c1b{o:Org}(h:organE o=0){j:Nat}(hj:j<o.cpls.length):∃d:Nat,(iG o.cpls j).src=d∧d<o.dvs.length:=
 have hc:=Org.bg h hj
 ⟨(iG o.cpls j).src.toNat,by omega,by omega⟩
def a0j(s:Sn)(i:Int):Bool:=decide (0≤i)&&decide (i<s.o.cpls.length)&&s.rg.cpl.testBit i.toNat
def ldB(s:Sn)(i:Int)(c:Ct)(first:Bool):Bool:=
 a0j s i&&decide ((iG s.o.cpls i.toNat).src=c.1)&&(first||(iG s.o.cpls i.toNat).thr)&&decide ((iG s.o.dvs (iG s.o.cpls i.toNat).dst.toNat).lo≤(to1 (iG s.o.cpls i.toNat) c).2)&&decide ((to1 (iG s.o.cpls i.toNat) c).2≤(iG s.o.dvs (iG s.o.cpls i.toNat).dst.toNat).hi)
def lU(s:Sn)(i:Int)(c:Ct):Ct:=if a0j s i then to1 (iG s.o.cpls i.toNat) c else(0,0)
def yW(s:Sn)(i:Int)(c:Ct):Bool:=
 decide (0≤i)&&decide (i<(iG s.o.dvs c.1.toNat).stops.length)&&(iG s.rg.stops c.1.toNat).testBit i.toNat&&decide (s.p∈a0c s.o.ranks (iG (iG s.o.dvs c.1.toNat).stops i.toNat) c.2)
def a4V(s:Sn)(c:Ct)(n:Nat):List Int:=((List.range n).filter fun(i:Nat)=>yW s i c).map fun(i:Nat)=>(i:Int)
def lK(s:Sn)(c:Ct):List Int:=a4V s c (iG s.o.dvs c.1.toNat).stops.length
theorem b3d(s:Sn)(c:Ct)(n:Nat):a4V s c (n+1)=a4V s c n++(if yW s n c then[(n:Int)]else[]):=by
 unfold a4V
 rw[eN,fw,dN]
 congr 1
 by_cases h:yW s n c=true
 ·rw[if_pos h];simp[h]
 ·rw[if_neg h];simp[h]
theorem b0U(s:Sn)(c:Ct)(n:Nat):(a4V s c n).length≤n:=by
 unfold a4V
 rw[dC]
 refine dK (fc _ _) ?_
 simp
def zB(s:Sn)(d:Int):Bool:=s.rg.off.testBit d.toNat
end Go.Ds
namespace Go.Ds
open Go.Proofs
variable {H:Heap}
set_option maxRecDepth 10000
set_option maxHeartbeats 1000000
end Go.Ds
namespace Go.Ds
open Go.Proofs Go.Proofs.Tryz
variable {H:Heap}
set_option maxRecDepth 10000
set_option maxHeartbeats 1000000
theorem wW(hG:Glob gH H)(s:Sn)(hs:s.In H)(hf:s.Fit):Fn prog 51 [s.v] H fun r H'=>St prog H H' [⟨r,2,pr (iK s.ks)⟩]:=by
 have h8:s.ks.length≤8:=by
  obtain⟨h1,h2,_⟩:=wL hf.keys
  have:=(Org.aT h1).dlen
  omega
 refine .aS func51 rfl (by kernel_rfl) (m:=32) rfl fun l hn g0=> ?_
 simp(disch:=omega) only[↓RA,RB,simprocAttr,g0]
 refine(sR H).eNew 10 [(.string s.o.name),s.o.rv,s.o.dv,s.o.cv,s.sv,(.int .u64 s.rg.cpl),(.int .u64 s.rg.off),s.kv,I s.p.1,I s.p.2] rfl rfl (by simp[OC,((sR H).sl hs.o.1).cells.2.1,((sR H).sl hs.o.2.2.1).cells.2.1,((sR H).sl hs.o.2.2.2.2.1).cells.2.1,((sR H).sl hs.rg.1).cells.2.1,((sR H).sl hs.ks.sl).cells.2.1]) rQ fun A1 H1 hS1=> ?_
 simp only[RT]at hS1
 simp(disch:=omega) only[↓RA,RZ,simprocAttr,hn,hS1.ld 0 rfl,(hS1.sl hs.ks.sl).len]
 have hS2:=hS1.nil 1
 simp only[RT]at hS2
 refine Wp.aj (fun n l H'=>l.length=32∧get l 2=(.slice none 0 0)∧get l 9=s.kv∧get l 10=I s.ks.length∧∃(i:Nat)(ov:Value),(n+i=s.ks.length)∧get l 11=I i∧get l 3=ov∧St prog H H' [⟨ptr A1 0 10,0,[(.string s.o.name),s.o.rv,s.o.dv,s.o.cv,s.sv,(.int .u64 s.rg.cpl),(.int .u64 s.rg.off),s.kv,I s.p.1,I s.p.2]⟩,⟨ov,2,pr ((List.range i).flatMap (plD s.ks))⟩]) s.ks.length ?_ ?_
 ·simp(disch:=omega) only[RB,RC,simprocAttr,hn]
  exact⟨0,.slice none 0 0,by omega,rfl,rfl,hS2⟩
 rintro n l H2⟨hn,g2,g9,yT,i,ov,hi,g11,g3,hS3⟩
 simp(disch:=omega) only[↓RA,RB,simprocAttr,hn,yT,g11]
 refine iF (fun q1=> ?_) (fun q1=> ?_)
 ·have hmo:=hs.ks.ok _ (iM (xs:=s.ks) (j:=i) (by omega))
  have hml:=a1k (iG s.ks i)
  have hpl:=b6V s.ks i
  simp(disch:=omega) only[↓RA,RZ,simprocAttr,hn,g9,g11,(hS3.sl hs.ks.sl).idx,(hS3.sl hs.ks.sl).ae,ntc,q1]
  refine hS3.eNew 2 [(.int .u64 0),(.int .u64 0)] rfl rfl rfl pA fun A2 H3 hS4=> ?_
  simp only[RT]at hS4
  simp(disch:=omega) only[↓RA,RZ,simprocAttr,hn,q1]
  refine hS4.aa 2 rfl [(.int .u64 (iG s.ks i).1),(.int .u64 (iG s.ks i).2)] rfl rfl pA (by simp) fun H4 hS5=> ?_
  simp only[RT]at hS5
  simp(disch:=omega) only[↓RA,RZ,simprocAttr,hn,hS5.ae 2 rfl,q1]
  refine iR ((a8J (hS5.gl hG) (iG s.ks i) hmo).tr) ?_
  rintro r H5⟨-,hT1⟩
  have hS6:=hS5.trans hT1
  simp only[RT]at hS6
  obtain⟨mw,rfl⟩:∃w,w=r:=⟨r,rfl⟩
  simp(disch:=omega) only[↓RA,RZ,simprocAttr,hn,(hS6.az 3 rfl (fun _=>rfl)).len,q1]
  refine Wp.aj (fun n l H'=>l.length=32∧get l 2=(.slice none 0 0)∧get l 4=I i∧get l 9=s.kv∧get l 10=I s.ks.length∧get l 11=I i∧get l 17=mw∧get l 18=I (pF (iG s.ks i)).length∧∃(j:Nat)(ow:Value),(n+j=(pF (iG s.ks i)).length)∧get l 19=I j∧get l 3=ow∧St prog H H' [⟨ptr A1 0 10,0,[(.string s.o.name),s.o.rv,s.o.dv,s.o.cv,s.sv,(.int .u64 s.rg.cpl),(.int .u64 s.rg.off),s.kv,I s.p.1,I s.p.2]⟩,⟨ow,2,pr ((List.range i).flatMap (plD s.ks)++((pF (iG s.ks i)).take j).map fun z=>((i:Int),z))⟩,⟨ptr A2 0 2,0,[(.int .u64 (iG s.ks i).1),(.int .u64 (iG s.ks i).2)]⟩,⟨mw,1,(pF (iG s.ks i)).flatMap (one I)⟩]) (pF (iG s.ks i)).length ?_ ?_
  ·simp(disch:=omega) only[RB,RC,simprocAttr,hn,g2,g9,yT,g11,g3]
   refine⟨0,ov,by omega,rfl,rfl,?_⟩
   rw[List.take_zero,fN,dA]
   exact hS6
  rintro n l H6⟨hn,g2,g4,g9,yT,g11,g17,g18,j,ow,hj,g19,g3,hS7⟩
  simp(disch:=omega) only[↓RA,RB,simprocAttr,hn,g18,g19]
  refine iF (fun q2=> ?_) (fun q2=> ?_)
  ·have hroom:(pr ((List.range i).flatMap (plD s.ks)++((pF (iG s.ks i)).take j).map fun z=>((i:Int),z))).length≤4000:=by
    rw[iO,du,dC,fy]
    omega
   simp(disch:=omega) only[↓RA,RZ,simprocAttr,hn,g4,g17,g19,g3,(hS7.az 3 rfl (fun _=>rfl)).idx,(hS7.az 3 rfl (fun _=>rfl)).ld,one,xN,q2]
   refine hS7.ak [I i,I (iG (pF (iG s.ks i)) j)] tH a7u rfl rfl (by simp[Value.cells]) rfl rfl (by decide) (by decide) fun w1 H7 hS8=> ?_
   simp only[RT]at hS8
   simp(disch:=omega) only[↓RA,RZ,simprocAttr,hn,q2]
   refine hS8.av 1 rfl (hS8.rd 4 rfl) tH (by have h:=hroom;simp only[dT,dZ];omega) fun w2 H8 hS9=> ?_
   simp only[RT]at hS9
   simp(disch:=omega) only[↓RA,RZ,simprocAttr,hn,g2,g4,g9,yT,g11,g17,g18,g19,q2]
   refine⟨n-1,by omega,j+1,w2,by omega,by simp,rfl,?_⟩
   rw[List.take_add_one,dx (by omega),Option.toList_some,dN,←ee,lF]
   rw[show(pF (iG s.ks i))[j]=iG (pF (iG s.ks i)) j from(jV _ _ (by omega)).symm]
   exact hS9.pick [0,1,2,3] (by decide) rfl
  simp(disch:=omega) only[↓RA,RZ,simprocAttr,hn,g2,g9,yT,g11,g3,q2]
  have hjj:j=(pF (iG s.ks i)).length:=by omega
  refine⟨s.ks.length-(i+1),by omega,i+1,ow,by omega,by simp,rfl,?_⟩
  rw[eN,dD,dL,eU,dA]
  rw[show plD s.ks i=((pF (iG s.ks i)).take j).map (fun z=>((i:Int),z))from by rw[hjj,eo];rfl]
  exact hS7.pick [0,1] (by decide) rfl
 have hii:i=s.ks.length:=by omega
 simp(disch:=omega) only[↓RA,RZ,simprocAttr,hn,g3,c5u,q1]
 unfold iK
 rw[←hii]
 exact hS3.pick [1] (by decide) rfl
theorem zR(s:Sn)(hs:s.In H):Fn prog 20 [s.v] H fun r H'=>r=I (snE s)∧St prog H H' []:=by
 have hrl:=hs.o.2.2.2.2.2.1
 refine .aS func20 rfl (by kernel_rfl) (m:=55) rfl fun l hn g0=> ?_
 simp(disch:=omega) only[↓RA,RB,simprocAttr,g0]
 refine(sR H).eNew 10 [(.string s.o.name),s.o.rv,s.o.dv,s.o.cv,s.sv,(.int .u64 s.rg.cpl),(.int .u64 s.rg.off),s.kv,I s.p.1,I s.p.2] rfl rfl (by simp[OC,((sR H).sl hs.o.1).cells.2.1,((sR H).sl hs.o.2.2.1).cells.2.1,((sR H).sl hs.o.2.2.2.2.1).cells.2.1,((sR H).sl hs.rg.1).cells.2.1,((sR H).sl hs.ks.sl).cells.2.1]) rQ fun A1 H1 hS1=> ?_
 simp only[RT]at hS1
 simp(disch:=omega) only[↓RA,RZ,simprocAttr,hn,hS1.ae 0 rfl]
 refine hS1.cF (c2p s.o (hs.o.ag hS1) s.rg s.sv (hs.rg.ag hS1)) fun H2 hS2=> ?_
 simp(disch:=omega) only[↓RA,RB,simprocAttr,hn]
 refine iF (fun h1=> ?_) (fun h1=> ?_)
 ·simp(disch:=omega) only[↓RA,RZ,simprocAttr,hn,a9H,h1]
  exact⟨by rw[snE,if_pos h1],hS2.forget⟩
 simp(disch:=omega) only[↓RA,RZ,simprocAttr,hn,hS2.ae 0 rfl,hS2.ld 0 rfl,h1]
 refine hS2.cF (b5j s.o (hs.o.ag hS2) s.kv s.ks (hs.ks.ag hS2)) fun H3 hS3=> ?_
 simp(disch:=omega) only[↓RA,RZ,simprocAttr,hn,h1]
 refine iF (fun h2=> ?_) (fun h2=> ?_)
 ·simp(disch:=omega) only[↓RA,RZ,simprocAttr,hn,a9H,h1,h2]
  exact⟨by rw[snE,if_neg h1,if_pos h2],hS3.forget⟩
 have hE:snE s=if pOk s then 0 else 10:=by rw[snE,if_neg h1,if_neg h2]
 simp(disch:=omega) only[↓RA,RZ,simprocAttr,hn,hS3.ae 0 rfl,h1,h2]
 refine hS3.eNew 2 [I 0,I 0] rfl rfl rfl wH fun A2 H4 hS4=> ?_
 simp only[RT]at hS4
 simp(disch:=omega) only[↓RA,RZ,simprocAttr,hn,h1,h2]
 refine hS4.aa 1 rfl [I s.p.1,I s.p.2] rfl rfl wH (by simp) fun H5 hS5=> ?_
 simp only[RT]at hS5
 simp(disch:=omega) only[↓RA,RZ,simprocAttr,h1,h2]
 refine Wp.drw kJ (by kernel_rfl) ?_
 simp(disch:=omega) only[↓RA,RZ,simprocAttr,hn,hS5.ld 1 rfl]
 refine iS (fun h3=> ?_) (fun h3=> ?_)
 ·simp(disch:=omega) only[↓RA,RZ,simprocAttr,hn,a9H,h3]
  exact⟨by rw[hE,if_neg];unfold pOk;simp;omega,hS5.forget⟩
 simp(disch:=omega) only[↓RA,RZ,simprocAttr,hn,hS5.ld 1 rfl,hS5.ld 0 rfl,(hS5.sl hs.o.1).len,h3]
 refine iS (fun h4=> ?_) (fun h4=> ?_)
 ·simp(disch:=omega) only[↓RA,RZ,simprocAttr,hn,a9H,h3,h4]
  exact⟨by rw[hE,if_neg];unfold pOk;simp;omega,hS5.forget⟩
 simp(disch:=omega) only[↓RA,RZ,simprocAttr,hn,hS5.ld 1 rfl,h3,h4]
 refine iS (fun h5=> ?_) (fun h5=> ?_)
 ·simp(disch:=omega) only[↓RA,RZ,simprocAttr,hn,a9H,h3,h4,h5]
  exact⟨by rw[hE,if_neg];unfold pOk;simp;omega,hS5.forget⟩
 obtain⟨k,hk⟩:∃k:Nat,s.p.1=k:=⟨s.p.1.toNat,by omega⟩
 simp(disch:=omega) only[↓RA,RZ,simprocAttr,hn,hS5.ld 1 rfl,hS5.ld 0 rfl,(hS5.sl hs.o.1).idx,(hS5.sl hs.o.1).bp,(hS5.sl hs.o.1).ld,Rk.cells,(hS5.sl (hs.o.2.1 (iG s.o.ranks k) (iM (by omega))).1).len,h5,hk]
 refine iF (fun h6=> ?_) (fun h6=> ?_)
 ·simp(disch:=omega) only[↓RA,RZ,simprocAttr,hn,a9H,h5,hk,h6]
  exact⟨by rw[hE,if_neg];unfold pOk;rw[hk];simp;omega,hS5.forget⟩
 simp(disch:=omega) only[↓RA,RZ,simprocAttr,hn,a9H,h5,hk,h6]
 exact⟨by rw[hE,if_pos];unfold pOk;rw[hk];simp;omega,hS5.forget⟩
theorem c1J(s:Sn)(hs:s.In H)(d:Nat):Fn prog 67 [s.v,I d] H fun r H'=>r=.bool (zB s d)∧St prog H H' []:=by
 have e1:=b3j s.rg.off d hs.rg.2.2.2.2
 have e2:=b4I (s.rg.off>>>d) (a8c _ hs.rg.2.2.2.2)
 have e3:zB s d=decide (s.rg.off>>>d%2=1):=tb _ _
 refine .aH func67 rfl (by kernel_rfl) (m:=12) rfl fun l hn g0 g1=> ?_
 simp(disch:=omega) only[↓RA,RB,simprocAttr,g0]
 refine(sR H).eNew 10 [(.string s.o.name),s.o.rv,s.o.dv,s.o.cv,s.sv,(.int .u64 s.rg.cpl),(.int .u64 s.rg.off),s.kv,I s.p.1,I s.p.2] rfl rfl (by simp[OC,((sR H).sl hs.o.1).cells.2.1,((sR H).sl hs.o.2.2.1).cells.2.1,((sR H).sl hs.o.2.2.2.2.1).cells.2.1,((sR H).sl hs.rg.1).cells.2.1,((sR H).sl hs.ks.sl).cells.2.1]) rQ fun A1 H1 hS1=> ?_
 simp only[RT]at hS1
 simp(disch:=omega) only[↓RA,RZ,simprocAttr,hn,g1,hS1.ld 0 rfl,c5x,e1,e2]
 exact⟨by rw[e3];congr 1;exact decide_eq_decide.2 (by omega),hS1.forget⟩
theorem a7m{s:Sn}{i:Int}(h:¬(0≤i∧i<s.o.cpls.length)):a0j s i=false:=by
 unfold a0j
 by_cases h1:0≤i
 ·rw[decide_eq_false (show¬(i<s.o.cpls.length) by omega)]
  simp
 ·rw[decide_eq_false h1]
  simp
theorem yL{s:Sn}{i:Int}(h:a0j s i=true):0≤i∧i<s.o.cpls.length∧s.rg.cpl.testBit i.toNat=true:=by
 unfold a0j at h
 simp only[de,decide_eq_true_eq]at h
 exact⟨h.1.1,h.1.2,h.2⟩
theorem b3u(s:Sn)(hs:s.In H)(i:Int):Fn prog 46 [s.v,I i] H fun r H'=>r=.bool (a0j s i)∧St prog H H' []:=by
 refine .aH func46 rfl (by kernel_rfl) (m:=24) rfl fun l hn g0 g1=> ?_
 simp(disch:=omega) only[↓RA,RB,simprocAttr,g0]
 refine(sR H).eNew 10 [(.string s.o.name),s.o.rv,s.o.dv,s.o.cv,s.sv,(.int .u64 s.rg.cpl),(.int .u64 s.rg.off),s.kv,I s.p.1,I s.p.2] rfl rfl (by simp[OC,((sR H).sl hs.o.1).cells.2.1,((sR H).sl hs.o.2.2.1).cells.2.1,((sR H).sl hs.o.2.2.2.2.1).cells.2.1,((sR H).sl hs.rg.1).cells.2.1,((sR H).sl hs.ks.sl).cells.2.1]) rQ fun A1 H1 hS1=> ?_
 simp only[RT]at hS1
 simp(disch:=omega) only[↓RA,RZ,simprocAttr,hn,g1]
 refine jQ (fun h1=> ?_) (fun h1=> ?_)
 ·simp(disch:=omega) only[↓RA,RZ,simprocAttr,hn,g1,hS1.ld 0 rfl,(hS1.sl hs.o.2.2.2.2.1).len,h1]
  refine jQ (fun h2=> ?_) (fun h2=> ?_)
  ·obtain⟨k,rfl⟩:∃k:Nat,i=k:=⟨i.toNat,by omega⟩
   have e1:=b3j s.rg.cpl k hs.rg.2.2.2.1
   have e2:=b4I (s.rg.cpl>>>k) (a8c _ hs.rg.2.2.2.1)
   have e3:a0j s k=decide (s.rg.cpl>>>k%2=1):=by
    unfold a0j
    rw[decide_eq_true (show(0:Int)≤k by omega),decide_eq_true h2,eh]
    simp only[fT]
    exact tb _ _
   simp(disch:=omega) only[↓RA,RZ,simprocAttr,hn,g1,hS1.ld 0 rfl,c1u,h1,h2,e1,e2]
   exact⟨by rw[e3];congr 1;exact decide_eq_decide.2 (by omega),hS1.forget⟩
  simp(disch:=omega) only[↓RA,RZ,simprocAttr,hn,c1u,h1,h2]
  exact⟨by rw[a7m (by omega)],hS1.forget⟩
 simp(disch:=omega) only[↓RA,RZ,simprocAttr,hn,c1u,h1]
 exact⟨by rw[a7m (by omega)],hS1.forget⟩
end Go.Ds
namespace Go.Ds
open Go.Proofs
set_option maxRecDepth 10000
def ltP(x y:Int×Int):Prop:=x.1<y.1∨(x.1=y.1∧x.2<y.2)
theorem b0y{x:Int×Int}:¬ltP x x:=by unfold ltP;omega
inductive Star{α:Type}(R:α→α→Prop):α→α→Prop
 | refl (a:α):Star R a a
 | tail {a b c:α}:Star R a b→R b c→Star R a c
structure SegsOk(m:Nat)(lo hi:Int)(gs:List Seg):Prop where
 ord:∀i,i<gs.length→(iG gs i).lo≤(iG gs i).hi
 up:∀i,i<gs.length→0<i→(iG gs (i-1)).hi<(iG gs i).lo
 within:∀i,i<gs.length→lo≤(iG gs i).lo∧(iG gs i).hi≤hi
 draws:∀i,i<gs.length→oD m (iG gs i).draws=0
 len:gs.length≤12
theorem SegsOk.lt{m:Nat}{lo hi:Int}{gs:List Seg}(h:SegsOk m lo hi gs){i:Nat}:∀k,i+1+k<gs.length→(iG gs i).hi<(iG gs (i+1+k)).lo
 | 0,hk=>h.up (i+1) hk (by omega)
 | k+1,hk=>by
   have h1:=h.lt (i:=i) k (by omega)
   have h2:=h.ord (i+1+k) (by omega)
   have h3:=h.up (i+1+(k+1)) hk (by omega)
   rw[show i+1+(k+1)-1=i+1+k by omega]at h3
   omega
theorem SegsOk.one{m:Nat}{lo hi:Int}{gs:List Seg}(h:SegsOk m lo hi gs){key:Int}{i j:Nat}(hi':i<gs.length)(hj:j<gs.length)(h1:(iG gs i).lo≤key∧key≤(iG gs i).hi)(h2:(iG gs j).lo≤key∧key≤(iG gs j).hi):i=j:=by
 rcases ij i j with e|e|e
 ·have:=h.lt (i:=i) (j-i-1) (by omega)
  rw[show i+1+(j-i-1)=j by omega]at this
  omega
 ·exact e
 ·have:=h.lt (i:=j) (i-j-1) (by omega)
  rw[show j+1+(i-j-1)=i by omega]at this
  omega
theorem vW{f:Nat→List Ct}(h1:∀i,(f i).Pairwise ltP)(h2:∀i,∀c∈f i,c.1=(i:Int)):∀n,((List.range n).flatMap f).Pairwise ltP
 | 0=>.nil
 | n+1=>by
   rw[eN,dD,dL,eU,dA,eV]
   refine⟨vW h1 h2 n,h1 n,fun a ha b hb=> ?_⟩
   obtain⟨i,hi,ha⟩:=eT.1 ha
   have hi:=dG.1 hi
   unfold ltP
   rw[h2 i a ha,h2 n b hb]
   omega
theorem a6N(x:Nt):(pF x).Pairwise (·<·):=by
 unfold pF
 rw[eV,fO,fO]
 have h:∀n,(oU n).Pairwise (·<·):=fun n=>List.Pairwise.filter _ List.pairwise_lt_range
 refine⟨(h _).imp (by intro a b h;omega),(h _).imp (by intro a b h;omega),fun a ha b hb=> ?_⟩
 obtain⟨i,hi,rfl⟩:=dE.1 ha
 obtain⟨j,_,rfl⟩:=dE.1 hb
 have:=(rX.1 hi).1
 omega
theorem c1p(ks:List Nt)(i:Nat):(plD ks i).Pairwise ltP:=by
 unfold plD
 rw[fO]
 exact(a6N _).imp fun h=>.inr ⟨rfl,h⟩
theorem b1p(ks:List Nt):(iK ks).Pairwise ltP:=vW (c1p ks) (fun i c hc=>by
 unfold plD at hc
 obtain⟨z,_,rfl⟩:=dE.1 hc
 rfl) _
end Go.Ds
namespace Go.Ds
open Go.Proofs
variable {H:Heap}
set_option maxRecDepth 10000
set_option maxHeartbeats 1000000
end Go.Ds
namespace Go.Ds
open Go.Proofs
set_option maxRecDepth 10000
theorem Star.mono{α:Type}{R R':α→α→Prop}(h:∀a b,R a b→R' a b){a b:α}(hs:Star R a b):Star R' a b:=by
 induction hs with
 | refl=>exact .refl _
 | tail _ h2 ih=>exact .tail ih (h _ _ h2)
end Go.Ds
namespace Go.Ds
open Go.Proofs Go.Shelf Go.RowKit Go.Lib Go.Sort
def sm(x:Int×Int):Prop:=-1000000000≤x.1∧x.1≤1000000000∧-1000000000≤x.2∧x.2≤1000000000
abbrev Sm:={x:Int×Int//sm x}
instance:Inhabited Sm:=⟨⟨(0,0),by unfold sm;decide⟩⟩
section
variable {H:Heap}
end
end Go.Ds
namespace Go.Ds
open Go.Proofs
variable {H:Heap}
set_option maxRecDepth 10000
set_option maxHeartbeats 1000000
end Go.Ds
namespace Go.Ds
open Go.Proofs Go.Shelf Go.RowKit Go.Lib Go.Sort
section
variable {H:Heap}
end
end Go.Ds
namespace Go.Ds
open Go.Proofs Go.Proofs.Tryz
variable {H:Heap}
set_option maxRecDepth 10000
set_option maxHeartbeats 1000000
theorem Ct.cQ(a b:Ct):(a.1=b.1∧a.2=b.2)↔b=a:=⟨fun h=>gV h.1.symm h.2.symm,fun h=>by rw[h];exact⟨rfl,rfl⟩⟩
theorem a9z(v:Value)(xs:List Ct)(hv:Sl 2 lE H v xs)(hl:xs.length<1000000000)(d:Ct):
 Fn prog 106 [v,.agg #[I d.1,I d.2]] H fun r H'=>r=I (oY (fun j=>decide (iG xs j=d)) xs.length)∧St prog H H' []:=by
 refine .aH func106 rfl (by kernel_rfl) (m:=19) rfl fun l hn g0 g1=> ?_
 simp(disch:=omega) only[↓RA,RB,simprocAttr,g1]
 refine(sR H).eNew 2 [I d.1,I d.2] rfl rfl rfl lG fun A1 H1 hS1=> ?_
 simp only[RT]at hS1
 simp(disch:=omega) only[↓RA,RZ,simprocAttr,hn,g0,(hS1.sl hv).len]
 refine Wp.aj (fun n l H'=>l.length=19∧get l 0=v∧get l 3=(ptr A1 0 2)∧get l 7=I xs.length∧∃(j:Nat),(n+j=xs.length∧∀q,q<j→decide (iG xs q=d)=false)∧get l 8=I j∧St prog H H' [⟨ptr A1 0 2,0,[I d.1,I d.2]⟩]) xs.length ?_ ?_
 ·simp(disch:=omega) only[RB,RC,simprocAttr,hn,g0]
  exact⟨0,⟨by omega,fun q hq=>absurd hq (dX _)⟩,rfl,hS1⟩
 rintro n l H2⟨hn,g0,g3,g7,j,⟨hi,h0⟩,g8,hS2⟩
 simp(disch:=omega) only[↓RA,RB,simprocAttr,hn,g7,g8]
 refine iF (fun h=> ?_) (fun h=> ?_)
 ·simp(disch:=omega) only[↓RA,RZ,simprocAttr,hn,g8,h]
  refine Wp.drw kJ (by kernel_rfl) ?_
  simp(disch:=omega) only[↓RA,RZ,simprocAttr,hn,g0,g3,hS2.ae 0 rfl,(hS2.sl hv).idx,(hS2.sl hv).ae,lE]
  refine iF (fun hp=> ?_) (fun hp=> ?_)
  ·simp(disch:=omega) only[↓RA,RZ,simprocAttr,hn,c0o,hp]
   exact⟨by rw[sP _ xs.length j (by omega) (by simpa using(Ct.cQ _ _).1 hp) h0],hS2.forget⟩
  simp(disch:=omega) only[↓RA,RZ,simprocAttr,hn,g0,g3,g7,g8,hp]
  exact⟨n-1,by omega,j+1,⟨by omega,fun q hq=>by rcases dw.1 hq with e|e;(· exact h0 q e);(· rw[e];simpa using fun hh=>hp ((Ct.cQ _ _).2 hh))⟩,by simp,hS2⟩
 simp(disch:=omega) only[↓RA,RZ,simprocAttr,hn,c0o,h]
 exact⟨by rw[sV _ xs.length fun q hq=>h0 q (by omega)],hS2.forget⟩
theorem a2j(v:Value)(xs:List Ct)(hv:Sl 2 lE H v xs)(hl:xs.length<1000000000)(d:Ct):
 Fn prog 66 [v,.agg #[I d.1,I d.2]] H fun r H'=>r=.bool (decide (d∈xs))∧St prog H H' []:=by
 have e:decide (0≤oY (fun j=>decide (iG xs j=d)) xs.length)=decide (d∈xs):=by
  rw[eu,decide_eq_true_iff,decide_eq_true_iff,vA]
  constructor
  ·rintro⟨j,hj,hp⟩
   rw[←of_decide_eq_true hp];exact iM hj
  ·intro hx
   obtain⟨j,hj,rfl⟩:=ek.1 hx
   exact⟨j,hj,by rw[jV xs j hj];simp⟩
 refine .aH func66 rfl (by kernel_rfl) (m:=9) rfl fun l hn g0 g1=> ?_
 simp(disch:=omega) only[↓RA,RB,simprocAttr,g1]
 refine(sR H).eNew 2 [I d.1,I d.2] rfl rfl rfl lG fun A1 H1 hS1=> ?_
 simp only[RT]at hS1
 simp(disch:=omega) only[↓RA,RZ,simprocAttr,hn,g0,hS1.ae 0 rfl]
 refine hS1.cF (a9z v xs (hS1.sl hv) hl d) fun H2 hS2=> ?_
 simp(disch:=omega) only[↓RA,RB,simprocAttr,hn,c5k]
 rw[←e]
 first|exact hS2.forget|exact⟨rfl,hS2.forget⟩
end Go.Ds
namespace Go.Ds
open Go.Proofs
variable {H:Heap}
set_option maxRecDepth 10000
set_option maxHeartbeats 1000000
end Go.Ds
namespace Go.Ds
open Go.Proofs Go.Proofs.Tryz
variable {H:Heap}
set_option maxRecDepth 10000
set_option maxHeartbeats 1000000
theorem a9O(v:Value)(xs:List Ct)(hv:Sl 2 lE H v xs)(hl:xs.length<1000000000)(d:Ct):
 Fn prog 151 [v,.agg #[I d.1,I d.2]] H fun r H'=>r=I (oY (fun j=>decide (iG xs j=d)) xs.length)∧St prog H H' []:=by
 refine .aH func151 rfl (by kernel_rfl) (m:=19) rfl fun l hn g0 g1=> ?_
 simp(disch:=omega) only[↓RA,RB,simprocAttr,g1]
 refine(sR H).eNew 2 [I d.1,I d.2] rfl rfl rfl wH fun A1 H1 hS1=> ?_
 simp only[RT]at hS1
 simp(disch:=omega) only[↓RA,RZ,simprocAttr,hn,g0,(hS1.sl hv).len]
 refine Wp.aj (fun n l H'=>l.length=19∧get l 0=v∧get l 3=(ptr A1 0 2)∧get l 7=I xs.length∧∃(j:Nat),(n+j=xs.length∧∀q,q<j→decide (iG xs q=d)=false)∧get l 8=I j∧St prog H H' [⟨ptr A1 0 2,0,[I d.1,I d.2]⟩]) xs.length ?_ ?_
 ·simp(disch:=omega) only[RB,RC,simprocAttr,hn,g0]
  exact⟨0,⟨by omega,fun q hq=>absurd hq (dX _)⟩,rfl,hS1⟩
 rintro n l H2⟨hn,g0,g3,g7,j,⟨hi,h0⟩,g8,hS2⟩
 simp(disch:=omega) only[↓RA,RB,simprocAttr,hn,g7,g8]
 refine iF (fun h=> ?_) (fun h=> ?_)
 ·simp(disch:=omega) only[↓RA,RZ,simprocAttr,hn,g8,h]
  refine Wp.drw kJ (by kernel_rfl) ?_
  simp(disch:=omega) only[↓RA,RZ,simprocAttr,hn,g0,g3,hS2.ae 0 rfl,(hS2.sl hv).idx,(hS2.sl hv).ae,lE]
  refine iF (fun hp=> ?_) (fun hp=> ?_)
  ·simp(disch:=omega) only[↓RA,RZ,simprocAttr,hn,c0M,hp]
   exact⟨by rw[sP _ xs.length j (by omega) (by simpa using(Ct.cQ _ _).1 hp) h0],hS2.forget⟩
  simp(disch:=omega) only[↓RA,RZ,simprocAttr,hn,g0,g3,g7,g8,hp]
  exact⟨n-1,by omega,j+1,⟨by omega,fun q hq=>by rcases dw.1 hq with e|e;(· exact h0 q e);(· rw[e];simpa using fun hh=>hp ((Ct.cQ _ _).2 hh))⟩,by simp,hS2⟩
 simp(disch:=omega) only[↓RA,RZ,simprocAttr,hn,c0M,h]
 exact⟨by rw[sV _ xs.length fun q hq=>h0 q (by omega)],hS2.forget⟩
theorem b5C(v:Value)(xs:List Ct)(hv:Sl 2 lE H v xs)(hl:xs.length<1000000000)(d:Ct):
 Fn prog 107 [v,.agg #[I d.1,I d.2]] H fun r H'=>r=.bool (decide (d∈xs))∧St prog H H' []:=by
 have e:decide (0≤oY (fun j=>decide (iG xs j=d)) xs.length)=decide (d∈xs):=by
  rw[eu,decide_eq_true_iff,decide_eq_true_iff,vA]
  constructor
  ·rintro⟨j,hj,hp⟩
   rw[←of_decide_eq_true hp];exact iM hj
  ·intro hx
   obtain⟨j,hj,rfl⟩:=ek.1 hx
   exact⟨j,hj,by rw[jV xs j hj];simp⟩
 refine .aH func107 rfl (by kernel_rfl) (m:=9) rfl fun l hn g0 g1=> ?_
 simp(disch:=omega) only[↓RA,RB,simprocAttr,g1]
 refine(sR H).eNew 2 [I d.1,I d.2] rfl rfl rfl wH fun A1 H1 hS1=> ?_
 simp only[RT]at hS1
 simp(disch:=omega) only[↓RA,RZ,simprocAttr,hn,g0,hS1.ae 0 rfl]
 refine hS1.cF (a9O v xs (hS1.sl hv) hl d) fun H2 hS2=> ?_
 simp(disch:=omega) only[↓RA,RB,simprocAttr,hn,c3j]
 rw[←e]
 first|exact hS2.forget|exact⟨rfl,hS2.forget⟩
theorem b9h{s:Sn}{i:Int}{c:Ct}{f:Bool}(h:a0j s i=false):ldB s i c f=false:=by unfold ldB;rw[h];rfl
theorem yP{s:Sn}{i:Int}{c:Ct}{f:Bool}:ldB s i c f=true↔a0j s i=true∧(iG s.o.cpls i.toNat).src=c.1∧(f=true∨(iG s.o.cpls i.toNat).thr=true)∧(iG s.o.dvs (iG s.o.cpls i.toNat).dst.toNat).lo≤(to1 (iG s.o.cpls i.toNat) c).2∧(to1 (iG s.o.cpls i.toNat) c).2≤(iG s.o.dvs (iG s.o.cpls i.toNat).dst.toNat).hi:=by
 unfold ldB
 simp only[de,eG,decide_eq_true_eq,and_assoc]
theorem rR(s:Sn)(hs:s.In H)(hf:s.Fit)(i:Int)(c:Ct)(f:Bool):Fn prog 95 [s.v,I i,.agg #[I c.1,I c.2],.bool f] H fun r H'=>r=.tuple #[.agg #[I (lU s i c).1,I (lU s i c).2],.bool (ldB s i c f)]∧St prog H H' []:=by
 have hdl:=hs.o.2.2.2.2.2.2.1
 refine .cY func95 rfl (by kernel_rfl) (m:=67) rfl fun l hn g0 g1 g2 g3=> ?_
 simp(disch:=omega) only[↓RA,RB,simprocAttr,g0]
 refine(sR H).eNew 10 [(.string s.o.name),s.o.rv,s.o.dv,s.o.cv,s.sv,(.int .u64 s.rg.cpl),(.int .u64 s.rg.off),s.kv,I s.p.1,I s.p.2] rfl rfl (by simp[OC,((sR H).sl hs.o.1).cells.2.1,((sR H).sl hs.o.2.2.1).cells.2.1,((sR H).sl hs.o.2.2.2.2.1).cells.2.1,((sR H).sl hs.rg.1).cells.2.1,((sR H).sl hs.ks.sl).cells.2.1]) rQ fun A1 H1 hS1=> ?_
 simp only[RT]at hS1
 simp(disch:=omega) only[↓RA,RB,simprocAttr,g2]
 refine hS1.eNew 2 [I c.1,I c.2] rfl rfl rfl lG fun A2 H2 hS2=> ?_
 simp only[RT]at hS2
 simp(disch:=omega) only[↓RA,RZ,simprocAttr]
 refine hS2.eNew 2 [I 0,I 0] rfl rfl rfl lG fun A3 H3 hS3=> ?_
 simp only[RT]at hS3
 simp(disch:=omega) only[↓RA,RZ,simprocAttr,hn,g1,hS3.ae 0 rfl]
 refine hS3.cF (b3u s (hs.ag hS3) i) fun H4 hS4=> ?_
 simp(disch:=omega) only[↓RA,RB,simprocAttr,hn]
 refine jD (fun h1=> ?_) (fun h1=> ?_)
 ·have h1':a0j s i=false:=by simpa using h1
  simp(disch:=omega) only[↓RA,RB,simprocAttr,hn,c3C,h1]
  refine hS4.aa 2 rfl [I 0,I 0] rfl rfl lG (by simp) fun H5 hS5=> ?_
  simp only[RT]at hS5
  simp(disch:=omega) only[↓RA,RZ,simprocAttr,hn,a9a,hS5.ae 2 rfl,h1]
  exact⟨by rw[lU,if_neg (by simp[h1']),b9h h1'],hS5.forget⟩
 have h1':a0j s i=true:=by simpa using h1
 obtain⟨hc0,hc1,hc2⟩:=yL h1'
 obtain⟨k,rfl⟩:∃k:Nat,i=k:=⟨i.toNat,by omega⟩
 have hkl:k<s.o.cpls.length:=by omega
 obtain⟨d,hd,hdd⟩:=c1m hf.o hkl
 have hst:lU s k c=((d:Int),sZ (c.2+(iG s.o.cpls k).shift)):=by rw[lU,if_pos h1',eh,←hd];rfl
 have hld:ldB s k c f=(decide ((iG s.o.cpls k).src=c.1)&&(f||(iG s.o.cpls k).thr)&&decide ((iG s.o.dvs d).lo≤sZ (c.2+(iG s.o.cpls k).shift))&&decide (sZ (c.2+(iG s.o.cpls k).shift)≤(iG s.o.dvs d).hi)):=by
  unfold ldB
  rw[h1',eh,hd,eh]
  simp only[fT]
  rfl
 rw[hst,hld]
 simp(disch:=omega) only[↓RA,RZ,simprocAttr,hn,g1,hS4.ld 0 rfl,(hS4.sl hs.o.2.2.2.2.1).idx,(hS4.sl hs.o.2.2.2.2.1).ae,Cpl.cells,h1]
 refine hS4.eNew 5 [(.string ⟨#[]⟩),I 0,I 0,I 0,(.bool false)] rfl rfl rfl a0G fun A4 H6 hS6=> ?_
 simp only[RT]at hS6
 simp(disch:=omega) only[↓RA,RB,simprocAttr,hn,h1]
 refine hS6.aa 3 rfl [(.string (iG s.o.cpls k).name),I (iG s.o.cpls k).src,I (iG s.o.cpls k).dst,I (iG s.o.cpls k).shift,(.bool (iG s.o.cpls k).thr)] rfl rfl a0G (by simp) fun H7 hS7=> ?_
 simp only[RT]at hS7
 simp(disch:=omega) only[↓RA,RZ,simprocAttr,hn,hS7.ld 0 rfl,h1]
 simp(disch:=omega) only[↓RA,RZ,simprocAttr,hn,hS7.ld 3 rfl,(hS7.sl hs.o.2.2.1).idx,(hS7.sl hs.o.2.2.1).bp,(hS7.sl hs.o.2.2.1).cR 2,Dvn.cells,h1,hd]
 refine hS7.eNew 2 [I 0,I 0] rfl rfl rfl sG fun A5 H8 hS8=> ?_
 simp only[RT]at hS8
 simp(disch:=omega) only[↓RA,RB,simprocAttr,hn,h1,hd]
 refine hS8.aa 4 rfl [I (iG s.o.dvs d).lo,I (iG s.o.dvs d).hi] rfl rfl sG (by simp) fun H9 hS9=> ?_
 simp only[RT]at hS9
 simp(disch:=omega) only[↓RA,RZ,simprocAttr,hn,hS9.ld 3 rfl,hS9.ld 1 rfl,xN,h1,hd]
 refine hS9.eNew 2 [I 0,I 0] rfl rfl rfl lG fun A6 H10 hS10=> ?_
 simp only[RT]at hS10
 simp(disch:=omega) only[↓RA,RB,simprocAttr,hn,h1,hd]
 refine hS10.aa 5 rfl [I d,_] rfl rfl lG (by simp) fun H11 hS11=> ?_
 simp only[RT]at hS11
 simp(disch:=omega) only[↓RA,RB,simprocAttr,h1,hd]
 refine Wp.aL kJ [(22,28),(24,28)] (by kernel_rfl) (by kernel_rfl) ?_
 simp(disch:=omega) only[↓RA,RZ,simprocAttr,hn,hS11.ae 5 rfl,hS11.ld 3 rfl,hS11.ld 1 rfl,hd]
 refine jQ (fun h1=> ?_) (fun h1=> ?_)
 ·simp(disch:=omega) only[↓RA,RZ,simprocAttr,hn,g3,h1]
  refine kL (fun h2=> ?_) (fun h2=> ?_)
  ·simp(disch:=omega) only[↓RA,RZ,simprocAttr,hn,hS11.ld 5 rfl,hS11.ld 4 rfl,h1,h2]
   refine jQ (fun h3=> ?_) (fun h3=> ?_)
   ·simp(disch:=omega) only[↓RA,RZ,simprocAttr,hn,hS11.ld 5 rfl,hS11.ld 4 rfl,h1,h2,h3]
    refine hS11.aa 2 rfl [I d,_] rfl rfl lG (by simp) fun H12 hS12=> ?_
    simp only[RT]at hS12
    simp(disch:=omega) only[↓RA,RZ,simprocAttr,hn,hS12.ld 5 rfl,hS12.ld 4 rfl,a9a,hS12.ae 2 rfl,h1,h2,h3]
    exact⟨by simp[],hS12.forget⟩
   simp(disch:=omega) only[↓RA,RZ,simprocAttr,hn,h1,h2,h3]
   refine hS11.aa 2 rfl [I d,_] rfl rfl lG (by simp) fun H13 hS13=> ?_
   simp only[RT]at hS13
   simp(disch:=omega) only[↓RA,RZ,simprocAttr,hn,a9a,hS13.ae 2 rfl,h1,h2,h3]
   exact⟨by simp[],hS13.forget⟩
  simp(disch:=omega) only[↓RA,RZ,simprocAttr,hn,hS11.ld 3 rfl,hd,h1,h2]
  refine kL (fun h4=> ?_) (fun h4=> ?_)
  ·simp(disch:=omega) only[↓RA,RZ,simprocAttr,hn,hS11.ld 5 rfl,hS11.ld 4 rfl,h1,h2,h4]
   refine jQ (fun h5=> ?_) (fun h5=> ?_)
   ·simp(disch:=omega) only[↓RA,RZ,simprocAttr,hn,hS11.ld 5 rfl,hS11.ld 4 rfl,h1,h2,h4,h5]
    refine hS11.aa 2 rfl [I d,_] rfl rfl lG (by simp) fun H14 hS14=> ?_
    simp only[RT]at hS14
    simp(disch:=omega) only[↓RA,RZ,simprocAttr,hn,hS14.ld 5 rfl,hS14.ld 4 rfl,a9a,hS14.ae 2 rfl,h1,h2,h4,h5]
    exact⟨by simp[],hS14.forget⟩
   simp(disch:=omega) only[↓RA,RZ,simprocAttr,hn,h1,h2,h4,h5]
   refine hS11.aa 2 rfl [I d,_] rfl rfl lG (by simp) fun H15 hS15=> ?_
   simp only[RT]at hS15
   simp(disch:=omega) only[↓RA,RZ,simprocAttr,hn,a9a,hS15.ae 2 rfl,h1,h2,h4,h5]
   exact⟨by simp[],hS15.forget⟩
  simp(disch:=omega) only[↓RA,RZ,simprocAttr,hn,h1,h2,h4]
  refine hS11.aa 2 rfl [I d,_] rfl rfl lG (by simp) fun H16 hS16=> ?_
  simp only[RT]at hS16
  simp(disch:=omega) only[↓RA,RZ,simprocAttr,hn,a9a,hS16.ae 2 rfl,h1,h2,h4]
  exact⟨by simp[],hS16.forget⟩
 simp(disch:=omega) only[↓RA,RZ,simprocAttr,hn,h1]
 refine hS11.aa 2 rfl [I d,_] rfl rfl lG (by simp) fun H17 hS17=> ?_
 simp only[RT]at hS17
 simp(disch:=omega) only[↓RA,RZ,simprocAttr,hn,a9a,hS17.ae 2 rfl,h1]
 exact⟨by simp[],hS17.forget⟩
theorem a6U{s:Sn}{i:Int}{c:Ct}(h:¬(0≤i∧i<(iG s.o.dvs c.1.toNat).stops.length)):yW s i c=false:=by
 unfold yW
 by_cases h1:0≤i
 ·rw[decide_eq_false (show¬(i<(iG s.o.dvs c.1.toNat).stops.length) by omega)]
  simp
 ·rw[decide_eq_false h1]
  simp
theorem a3r(s:Sn)(hs:s.In H)(hf:s.Fit)(i:Int)(d:Nat)(z:Int)(hd:d<s.o.dvs.length):Fn prog 68 [s.v,I i,.agg #[I d,I z]] H fun r H'=>r=.bool (yW s i ((d:Int),z))∧St prog H H' []:=by
 have hdl:=hs.o.2.2.2.2.2.2.1
 have hsl:=hf.sl
 have hdv:=hs.o.2.2.2.1 _ (iM hd)
 refine .cB func68 rfl (by kernel_rfl) (m:=53) rfl fun l hn g0 g1 g2=> ?_
 simp(disch:=omega) only[↓RA,RB,simprocAttr,g0]
 refine(sR H).eNew 10 [(.string s.o.name),s.o.rv,s.o.dv,s.o.cv,s.sv,(.int .u64 s.rg.cpl),(.int .u64 s.rg.off),s.kv,I s.p.1,I s.p.2] rfl rfl (by simp[OC,((sR H).sl hs.o.1).cells.2.1,((sR H).sl hs.o.2.2.1).cells.2.1,((sR H).sl hs.o.2.2.2.2.1).cells.2.1,((sR H).sl hs.rg.1).cells.2.1,((sR H).sl hs.ks.sl).cells.2.1]) rQ fun A1 H1 hS1=> ?_
 simp only[RT]at hS1
 simp(disch:=omega) only[↓RA,RB,simprocAttr,g2]
 refine hS1.eNew 2 [I d,I z] rfl rfl rfl lG fun A2 H2 hS2=> ?_
 simp only[RT]at hS2
 simp(disch:=omega) only[↓RA,RZ,simprocAttr,hn,hS2.ld 0 rfl,hS2.ld 1 rfl,(hS2.sl hs.o.2.2.1).idx,(hS2.sl hs.o.2.2.1).ae,Dvn.cells]
 refine hS2.eNew 5 [(.string ⟨#[]⟩),(.bool false),I 0,I 0,(.slice none 0 0)] rfl rfl rfl rF fun A3 H3 hS3=> ?_
 simp only[RT]at hS3
 simp(disch:=omega) only[↓RA,RB,simprocAttr,hn]
 refine hS3.aa 2 rfl [(.string (iG s.o.dvs d).name),(.bool (iG s.o.dvs d).pedal),I (iG s.o.dvs d).lo,I (iG s.o.dvs d).hi,(iG s.o.dvs d).sv] rfl (by simp[OC,(hS3.sl (hs.o.2.2.2.1 (iG s.o.dvs d) (iM (by omega))).1).cells.2.1]) rF (by simp) fun H4 hS4=> ?_
 simp only[RT]at hS4
 simp(disch:=omega) only[↓RA,RB,simprocAttr]
 refine Wp.aL kJ [(35,0)] (by kernel_rfl) (by kernel_rfl) ?_
 simp(disch:=omega) only[↓RA,RZ,simprocAttr,hn,g1]
 refine jQ (fun h1=> ?_) (fun h1=> ?_)
 ·simp(disch:=omega) only[↓RA,RZ,simprocAttr,hn,g1,hS4.ld 2 rfl,(hS4.sl (hs.o.2.2.2.1 (iG s.o.dvs d) (iM (by omega))).1).len,h1]
  refine jQ (fun h2=> ?_) (fun h2=> ?_)
  ·obtain⟨k,rfl⟩:∃k:Nat,i=k:=⟨i.toNat,by omega⟩
   have hkl:k<(iG s.o.dvs d).stops.length:=by omega
   have hsm:=hs.rg.2.2.1 _ (iM (xs:=s.rg.stops) (j:=d) (by omega))
   have e1:=b3j (iG s.rg.stops d) k hsm
   have e2:=b4I (iG s.rg.stops d>>>k) (a8c _ hsm)
   have e3:=tb (iG s.rg.stops d) k
   have hE:yW s k ((d:Int),z)=((iG s.rg.stops d).testBit k&&decide (s.p∈a0c s.o.ranks (iG (iG s.o.dvs d).stops k) z)):=by
    unfold yW
    simp only[eh]
    rw[decide_eq_true (show(0:Int)≤k by omega),decide_eq_true (show(k:Int)<(iG s.o.dvs d).stops.length by omega)]
    simp only[fT]
   have hpl:=b2T s.o.ranks (iG (iG s.o.dvs d).stops k) z (hf.aT.draws d hd _ (iM hkl))
   simp(disch:=omega) only[↓RA,RZ,simprocAttr,hn,g1,hS4.ld 0 rfl,hS4.ld 1 rfl,(hS4.sl hs.rg.1).idx,(hS4.sl hs.rg.1).ld,one,u64,h1,h2,e1,e2]
   refine jQ (fun h3=> ?_) (fun h3=> ?_)
   ·simp(disch:=omega) only[↓RA,RZ,simprocAttr,hn,g1,hS4.ld 0 rfl,hS4.ld 2 rfl,(hS4.sl (hs.o.2.2.2.1 (iG s.o.dvs d) (iM (by omega))).1).idx,(hS4.sl (hs.o.2.2.2.1 (iG s.o.dvs d) (iM (by omega))).1).ae,Stp.cells,hS4.ld 1 rfl,h1,h2,h3]
    refine iR (b7b s.o.rv s.o.ranks (hS4.sl hs.o.1) (fun r hr=>(hs.o.2.1 r hr).ag hS4) hs.o.2.2.2.2.2.1 _ ((hdv.2.1 _ (iM hkl)).ag hS4) (hf.aT.draws d hd _ (iM hkl)) z) ?_
    rintro r H5⟨hx,hT1⟩
    have hS5:=hS4.trans hT1
    simp only[RT]at hS5
    obtain⟨pv,rfl⟩:∃w,w=r:=⟨r,rfl⟩
    simp(disch:=omega) only[↓RA,RZ,simprocAttr,hn,hS5.ae 0 rfl,h1,h2,h3]
    refine hS5.cF (b5C pv _ hx.1 (by omega) s.p) fun H6 hS6=> ?_
    simp(disch:=omega) only[↓RA,RZ,simprocAttr,hn,hS4.ae 0 rfl,b8o,h1,h2,h3]
    exact⟨by rw[hE,e3,decide_eq_true (show iG s.rg.stops d>>>k%2=1 by omega)];simp,hS6.forget⟩
   simp(disch:=omega) only[↓RA,RZ,simprocAttr,hn,b8o,h1,h2,h3]
   exact⟨by rw[hE,e3,decide_eq_false (show¬iG s.rg.stops d>>>k%2=1 by omega)];simp,hS4.forget⟩
  simp(disch:=omega) only[↓RA,RZ,simprocAttr,hn,b8o,h1,h2]
  exact⟨by rw[a6U (by simp;omega)],hS4.forget⟩
 simp(disch:=omega) only[↓RA,RZ,simprocAttr,hn,b8o,h1]
 exact⟨by rw[a6U (by simp;omega)],hS4.forget⟩
def okD(s:Sn)(c:Ct):Prop:=0≤c.1∧c.1<s.o.dvs.length
theorem wB{s:Sn}{c:Ct}(h:mB s.o c=true):okD s c:=by
 have:=(kU s.o c).1 h
 exact⟨by omega,by omega⟩
theorem a2e(s:Sn)(hs:s.In H)(hf:s.Fit)(i:Int)(c:Ct)(hc:okD s c):Fn prog 68 [s.v,I i,.agg #[I c.1,I c.2]] H fun r H'=>r=.bool (yW s i c)∧St prog H H' []:=by
 obtain⟨d,z⟩:=c
 obtain⟨j,rfl⟩:=fI hc.1
 exact a3r s hs hf i j z (by have:=hc.2;simp only at this;omega)
theorem b3o(s:Sn)(hs:s.In H)(hf:s.Fit)(d:Nat)(z:Int)(hd:d<s.o.dvs.length):Fn prog 94 [s.v,.agg #[I d,I z]] H fun r H'=>St prog H H' [⟨r,1,(lK s ((d:Int),z)).flatMap (one I)⟩]:=by
 have hst:=hf.aT.stops d hd
 have hLe:=b0U s ((d:Int),z)
 have hL:lK s ((d:Int),z)=a4V s ((d:Int),z) (iG s.o.dvs d).stops.length:=rfl
 refine .aH func94 rfl (by kernel_rfl) (m:=29) rfl fun l hn g0 g1=> ?_
 simp(disch:=omega) only[↓RA,RB,simprocAttr,g0]
 refine(sR H).eNew 10 [(.string s.o.name),s.o.rv,s.o.dv,s.o.cv,s.sv,(.int .u64 s.rg.cpl),(.int .u64 s.rg.off),s.kv,I s.p.1,I s.p.2] rfl rfl (by simp[OC,((sR H).sl hs.o.1).cells.2.1,((sR H).sl hs.o.2.2.1).cells.2.1,((sR H).sl hs.o.2.2.2.2.1).cells.2.1,((sR H).sl hs.rg.1).cells.2.1,((sR H).sl hs.ks.sl).cells.2.1]) rQ fun A1 H1 hS1=> ?_
 simp only[RT]at hS1
 simp(disch:=omega) only[↓RA,RB,simprocAttr,g1]
 refine hS1.eNew 2 [I d,I z] rfl rfl rfl lG fun A2 H2 hS2=> ?_
 simp only[RT]at hS2
 simp(disch:=omega) only[↓RA,RZ,simprocAttr,hn,hS2.ld 0 rfl,hS2.ld 1 rfl,(hS2.sl hs.o.2.2.1).idx,(hS2.sl hs.o.2.2.1).bp,(hS2.sl hs.o.2.2.1).ld,Dvn.cells,(hS2.sl (hs.o.2.2.2.1 (iG s.o.dvs d) (iM (by omega))).1).len]
 have hS3:=hS2.nil 0
 simp only[RT]at hS3
 refine Wp.aj (fun n l H'=>l.length=29∧get l 2=(ptr A1 0 10)∧get l 3=(ptr A2 0 2)∧get l 4=(.slice none 0 0)∧get l 15=I (iG s.o.dvs d).stops.length∧∃(i:Nat)(ov:Value),(n+i=(iG s.o.dvs d).stops.length)∧get l 16=I i∧get l 5=ov∧St prog H H' [⟨ptr A1 0 10,0,[(.string s.o.name),s.o.rv,s.o.dv,s.o.cv,s.sv,(.int .u64 s.rg.cpl),(.int .u64 s.rg.off),s.kv,I s.p.1,I s.p.2]⟩,⟨ptr A2 0 2,0,[I d,I z]⟩,⟨ov,1,(a4V s ((d:Int),z) i).flatMap (one I)⟩]) (iG s.o.dvs d).stops.length ?_ ?_
 ·simp(disch:=omega) only[RB,RC,simprocAttr,hn]
  exact⟨0,.slice none 0 0,by omega,rfl,rfl,hS3⟩
 rintro n l H3⟨hn,g2,g3,g4,g15,i,ov,hi,g16,g5,hS4⟩
 simp(disch:=omega) only[↓RA,RB,simprocAttr,hn,g15,g16]
 refine iF (fun q1=> ?_) (fun q1=> ?_)
 ·have hsu:=b3d s ((d:Int),z) i
  have hle:=hLe i
  simp(disch:=omega) only[↓RA,RZ,simprocAttr,hn,g2,g3,g16,hS4.ae 0 rfl,hS4.ae 1 rfl,q1]
  refine hS4.cF (a3r s (hs.ag hS4) hf i d z hd) fun H4 hS5=> ?_
  simp(disch:=omega) only[↓RA,RZ,simprocAttr,hn,q1]
  refine jD (fun q2=> ?_) (fun q2=> ?_)
  ·skip
   simp(disch:=omega) only[↓RA,RZ,simprocAttr,hn,g5,q1,q2]
   refine hS5.ak [I i] pZ wS rfl rfl (by simp[Value.cells]) rfl rfl (by decide) (by decide) fun w1 H5 hS6=> ?_
   simp only[RT]at hS6
   simp(disch:=omega) only[↓RA,RZ,simprocAttr,hn,q1,q2]
   refine hS6.av 2 rfl (hS6.rd 3 rfl) pZ (by rw[lN,dC];simp;omega) fun w2 H6 hS7=> ?_
   simp only[RT]at hS7
   simp(disch:=omega) only[↓RA,RZ,simprocAttr,hn,g2,g3,g4,g15,g16,q1,q2]
   refine⟨n-1,by omega,i+1,w2,by omega,by simp,rfl,?_⟩
   rw[hsu,if_pos (by simpa using q2),dD]
   exact hS7.pick [0,1,2] (by decide) rfl
  simp(disch:=omega) only[↓RA,RZ,simprocAttr,hn,g2,g3,g4,g15,g16,g5,q1,q2]
  refine⟨n-1,by omega,i+1,ov,by omega,by simp,rfl,?_⟩
  rw[hsu,if_neg (by simpa using q2),dA]
  exact hS5.pick [0,1,2] (by decide) rfl
 have hii:i=(iG s.o.dvs d).stops.length:=by omega
 simp(disch:=omega) only[↓RA,RZ,simprocAttr,hn,g5,c5D,q1]
 rw[hL,←hii]
 exact hS4.pick [2] (by decide) rfl
theorem uO(s:Sn)(hs:s.In H)(hf:s.Fit)(c:Ct)(hc:okD s c):Fn prog 94 [s.v,.agg #[I c.1,I c.2]] H fun r H'=>St prog H H' [⟨r,1,(lK s c).flatMap (one I)⟩]:=by
 obtain⟨d,z⟩:=c
 obtain⟨j,rfl⟩:=fI hc.1
 exact b3o s hs hf j z (by have:=hc.2;simp only at this;omega)
structure Rn where
 pl:Ct
 cv:Value
 cps:List Int
 tc:Ct
 stop:Int
 deriving Inhabited
abbrev Rn.v(r:Rn):Value:=.agg #[I r.pl.1,I r.pl.2,r.cv,I r.tc.1,I r.tc.2,I r.stop]
def Rn.cells(r:Rn):List Value:=[I r.pl.1,I r.pl.2,r.cv,I r.tc.1,I r.tc.2,I r.stop]
def Rn.In(H:Heap)(r:Rn):Prop:=Sl 1 (one I) H r.cv r.cps∧r.cps.length<100000000
theorem Rn.In.ag{r:Rn}{H0 H:Heap}{P:Program}{os:List Ob}(h:r.In H0)(hS:St P H0 H os):r.In H:=⟨hS.sl h.1,h.2⟩
def lH(s:Sn)(p:Ct)(cps:List Int):Nat→Option (List Ct×Ct)
 | 0=>some ([],p)
 | n+1=>match lH s p cps n with
   | none=>none
   | some (out,a)=>if ldB s (iG cps n) a (decide (n=0))&& !decide (lU s (iG cps n) a∈out)then some (out++[lU s (iG cps n) a],lU s (iG cps n) a)else none
def lY(s:Sn)(r:Rn):List Ct×Bool:=match lH s r.pl r.cps r.cps.length with
 | none=>([],false)
 | some (out,a)=>(out,decide (a=r.tc))
theorem a0I{s:Sn}{p:Ct}{cps:List Int}{n:Nat}(h:lH s p cps n=none):∀k,lH s p cps (n+k)=none
 | 0=>h
 | k+1=>by
   show lH s p cps ((n+k)+1)=none
   unfold lH
   rw[a0I h k]
theorem wC{s:Sn}{p:Ct}{cps:List Int}:∀{n:Nat}{out:List Ct}{a:Ct},lH s p cps n=some (out,a)→out.length=n
 | 0,out,a,h=>by
   unfold lH at h
   injection h with h
   obtain⟨rfl,rfl⟩:=gL h
   rfl
 | n+1,out,a,h=>by
   unfold lH at h
   cases h2:lH s p cps n with
   | none=>rw[h2]at h;cases h
   | some q=>
     obtain⟨o2,a2⟩:=q
     rw[h2]at h
     simp only at h
     split at h
     ·injection h with h
      obtain⟨rfl,rfl⟩:=gL h
      rw[du,wC h2]
      rfl
     ·cases h
theorem a7t(s:Sn)(hs:s.In H)(hf:s.Fit)(r:Rn)(hr:r.In H):Fn prog 56 [s.v,r.v] H fun q H'=>∃w,q=.tuple #[w,.bool (lY s r).2]∧St prog H H' [⟨w,2,pr (lY s r).1⟩]:=by
 have hrl:=hr.2
 refine .aH func56 rfl (by kernel_rfl) (m:=49) rfl fun l hn g0 g1=> ?_
 simp(disch:=omega) only[↓RA,RB,simprocAttr,g0]
 refine(sR H).eNew 10 [(.string s.o.name),s.o.rv,s.o.dv,s.o.cv,s.sv,(.int .u64 s.rg.cpl),(.int .u64 s.rg.off),s.kv,I s.p.1,I s.p.2] rfl rfl (by simp[OC,((sR H).sl hs.o.1).cells.2.1,((sR H).sl hs.o.2.2.1).cells.2.1,((sR H).sl hs.o.2.2.2.2.1).cells.2.1,((sR H).sl hs.rg.1).cells.2.1,((sR H).sl hs.ks.sl).cells.2.1]) rQ fun A1 H1 hS1=> ?_
 simp only[RT]at hS1
 simp(disch:=omega) only[↓RA,RB,simprocAttr,g1]
 refine hS1.eNew 6 [I r.pl.1,I r.pl.2,r.cv,I r.tc.1,I r.tc.2,I r.stop] rfl rfl (by simp[OC,(hS1.sl hr.1).cells.2.1]) nP fun A2 H2 hS2=> ?_
 simp only[RT]at hS2
 simp(disch:=omega) only[↓RA,RZ,simprocAttr,hn,hS2.ae 1 rfl]
 refine hS2.eNew 2 [I 0,I 0] rfl rfl rfl lG fun A3 H3 hS3=> ?_
 simp only[RT]at hS3
 simp(disch:=omega) only[↓RA,RB,simprocAttr,hn]
 refine hS3.aa 2 rfl [I r.pl.1,I r.pl.2] rfl rfl lG (by simp) fun H4 hS4=> ?_
 simp only[RT]at hS4
 simp(disch:=omega) only[↓RA,RZ,simprocAttr,hn,hS4.ld 1 rfl,(hS4.sl hr.1).len]
 have hS5:=hS4.nil 1
 simp only[RT]at hS5
 refine Wp.aj (fun n l H'=>l.length=49∧get l 2=(ptr A1 0 10)∧get l 3=(ptr A2 0 6)∧get l 7=(ptr A3 0 2)∧get l 15=r.cv∧get l 16=I r.cps.length∧∃(j:Nat)(ov:Value)(out:List Ct)(a:Ct),(n+j=r.cps.length∧lH s r.pl r.cps j=some (out,a))∧get l 17=I j∧get l 6=ov∧St prog H H' [⟨ptr A1 0 10,0,[(.string s.o.name),s.o.rv,s.o.dv,s.o.cv,s.sv,(.int .u64 s.rg.cpl),(.int .u64 s.rg.off),s.kv,I s.p.1,I s.p.2]⟩,⟨ptr A2 0 6,0,[I r.pl.1,I r.pl.2,r.cv,I r.tc.1,I r.tc.2,I r.stop]⟩,⟨ptr A3 0 2,0,[I a.1,I a.2]⟩,⟨ov,2,pr out⟩]) r.cps.length ?_ ?_
 ·simp(disch:=omega) only[RB,RC,simprocAttr,hn]
  exact⟨0,.slice none 0 0,[],r.pl,⟨by omega,rfl⟩,rfl,rfl,hS5⟩
 rintro n l H5⟨hn,g2,g3,g7,g15,g16,j,ov,out,a,⟨hj,hc⟩,g17,g6,hS6⟩
 simp(disch:=omega) only[↓RA,RB,simprocAttr,hn,g16,g17]
 refine iF (fun q1=> ?_) (fun q1=> ?_)
 ·have hol:=wC hc
  have hsu:lH s r.pl r.cps (j+1)=if ldB s (iG r.cps j) a (decide (j=0))&& !decide (lU s (iG r.cps j) a∈out)then some (out++[lU s (iG r.cps j) a],lU s (iG r.cps j) a)else none:=by
   rw[lH,hc]
  have hj0:decide ((j:Int)=0)=decide (j=0):=decide_eq_decide.2 (by omega)
  have hnone:lH s r.pl r.cps (j+1)=none→(lY s r)=([],false):=fun h=>by
   unfold lY
   have:=a0I h (r.cps.length-(j+1))
   rw[show j+1+(r.cps.length-(j+1))=r.cps.length from by omega]at this
   rw[this]
  simp(disch:=omega) only[↓RA,RZ,simprocAttr,hn,g2,g7,g15,g17,(hS6.sl hr.1).idx,(hS6.sl hr.1).ld,one,hS6.ae 0 rfl,hS6.ae 2 rfl,q1,hj0]
  refine hS6.cF (rR s (hs.ag hS6) hf (iG r.cps j) a (decide (j=0))) fun H6 hS7=> ?_
  simp(disch:=omega) only[↓RA,RZ,simprocAttr,hn,q1]
  refine hS7.eNew 2 [I 0,I 0] rfl rfl rfl lG fun A4 H7 hS8=> ?_
  simp only[RT]at hS8
  simp(disch:=omega) only[↓RA,RZ,simprocAttr,hn,q1]
  refine hS8.aa 4 rfl [I (lU s (iG r.cps j) a).1,I (lU s (iG r.cps j) a).2] rfl rfl lG (by simp) fun H8 hS9=> ?_
  simp only[RT]at hS9
  simp(disch:=omega) only[↓RA,RZ,simprocAttr,hn,q1]
  refine kL (fun q2=> ?_) (fun q2=> ?_)
  ·have hno:=hnone (by rw[hsu,show ldB s (iG r.cps j) a (decide (j=0))=false from by simpa using q2];rfl)
   simp(disch:=omega) only[↓RA,RZ,simprocAttr,hn,c1f,q1,q2]
   rw[hno]
   refine⟨.slice none 0 0,rfl,?_⟩
   exact(hS9.forget).nil 1
  have q2':ldB s (iG r.cps j) a (decide (j=0))=true:=by simpa using q2
  simp(disch:=omega) only[↓RA,RZ,simprocAttr,hn,g6,hS9.ae 4 rfl,q1,q2]
  refine hS9.cF (a2j ov out (hS9.az 3 rfl kI) (by omega) (lU s (iG r.cps j) a)) fun H9 hS10=> ?_
  simp(disch:=omega) only[↓RA,RZ,simprocAttr,hn,q1,q2]
  refine iF (fun q3=> ?_) (fun q3=> ?_)
  ·have hno:=hnone (by rw[hsu,decide_eq_true q3,q2'];rfl)
   simp(disch:=omega) only[↓RA,RZ,simprocAttr,hn,c1f,q1,q2,q3]
   rw[hno]
   refine⟨.slice none 0 0,rfl,?_⟩
   exact(hS10.forget).nil 1
  have q3':decide (lU s (iG r.cps j) a∈out)=false:=decide_eq_false q3
  simp(disch:=omega) only[↓RA,RZ,simprocAttr,hn,g7,hS10.ae 4 rfl,q1,q2,q3]
  refine hS10.aa 2 rfl [I (lU s (iG r.cps j) a).1,I (lU s (iG r.cps j) a).2] rfl rfl lG (by simp) fun H10 hS11=> ?_
  simp only[RT]at hS11
  simp(disch:=omega) only[↓RA,RZ,simprocAttr,hn,g6,hS11.ae 4 rfl,q1,q2,q3]
  refine hS11.ak [I (lU s (iG r.cps j) a).1,I (lU s (iG r.cps j) a).2] tH a7u rfl rfl (by simp[Value.cells]) rfl rfl (by decide) (by decide) fun w1 H11 hS12=> ?_
  simp only[RT]at hS12
  simp(disch:=omega) only[↓RA,RZ,simprocAttr,hn,q1,q2,q3]
  refine hS12.av 3 rfl (hS12.rd 5 rfl) tH (by rw[iO];simp;omega) fun w2 H12 hS13=> ?_
  simp only[RT]at hS13
  simp(disch:=omega) only[↓RA,RZ,simprocAttr,hn,g2,g3,g7,g15,g16,g17,q1,q2,q3]
  refine⟨n-1,by omega,j+1,w2,out++[lU s (iG r.cps j) a],lU s (iG r.cps j) a,⟨by omega,by rw[hsu,q2',q3'];rfl⟩,by simp,rfl,?_⟩
  rw[lF]
  exact hS13.pick [0,1,2,3] (by decide) rfl
 have hjj:j=r.cps.length:=by omega
 have hR:lY s r=(out,decide (a=r.tc)):=by unfold lY;rw[←hjj,hc]
 have hnt:=(hS6.az (cel:=lE) 3 rfl kI).bu
 have hpe:decide (a.1=r.tc.1∧a.2=r.tc.2)=decide (a=r.tc):=decide_eq_decide.2 Prod.ext_iff.symm
 simp(disch:=omega) only[↓RA,RC,simprocAttr,q1]
 refine Wp.drw kJ (by kernel_rfl) ?_
 simp(disch:=omega) only[↓RA,RZ,simprocAttr,hn,g3,g7,g6,hS6.ae 2 rfl,hS6.ae 1 rfl,c1f,hnt,hpe]
 rw[hR]
 exact⟨ov,rfl,hS6.pick [3] (by decide) rfl⟩
def vfE(s:Sn)(r:Rn):Int:=
 if snE s≠0 then snE s else if r.pl∉iK s.ks then 10 else if(lY s r).2=false∨(r.cps.length=0∧zB s r.pl.1=true)then 7 else if yW s r.stop r.tc=false then 11 else 0
theorem a4M(s:Sn)(hs:s.In H)(d:Int)(h0:0≤d):Fn prog 67 [s.v,I d] H fun r H'=>r=.bool (zB s d)∧St prog H H' []:=by
 obtain⟨j,rfl⟩:=fI h0
 exact c1J s hs j
theorem a3u{s:Sn}{r:Rn}(hf:s.Fit)(hp:mB s.o r.pl=true)(h:(lY s r).2=true):mB s.o r.tc=true:=by
 have key:∀n out a,lH s r.pl r.cps n=some (out,a)→mB s.o a=true:=by
  intro n
  induction n with
  | zero=>
    intro out a h
    unfold lH at h
    injection h with h
    obtain⟨_,rfl⟩:=gL h
    exact hp
  | succ n ih=>
    intro out a h
    unfold lH at h
    cases h2:lH s r.pl r.cps n with
    | none=>rw[h2]at h;cases h
    | some q=>
      obtain⟨o2,a2⟩:=q
      rw[h2]at h
      simp only at h
      split at h
      ·rename_i hb
       injection h with h
       obtain⟨_,rfl⟩:=gL h
       rw[de]at hb
       have h5:=yP.1 hb.1
       obtain⟨h6,h7,_⟩:=yL h5.1
       have hc:=Org.bg hf.o (j:=(iG r.cps n).toNat) (by omega)
       rw[lU,if_pos h5.1,kU]
       exact⟨hc.2.1.1,hc.2.1.2,h5.2.2.2.1,h5.2.2.2.2⟩
      ·cases h
 unfold lY at h
 cases h2:lH s r.pl r.cps r.cps.length with
 | none=>rw[h2]at h;cases h
 | some q=>
   obtain⟨o2,a2⟩:=q
   rw[h2]at h
   simp only[decide_eq_true_eq]at h
   rw[←h]
   exact key _ _ _ h2
theorem b1A(hG:Glob gH H)(s:Sn)(hs:s.In H)(x:Rn)(hx:x.In H):Fn prog 28 [s.v,x.v] H fun q H'=>q=I (vfE s x)∧St prog H H' []:=by
 have hrl:=hx.2
 refine .aH func28 rfl (by kernel_rfl) (m:=47) rfl fun l hn g0 g1=> ?_
 simp(disch:=omega) only[↓RA,RB,simprocAttr,g0]
 refine(sR H).eNew 10 [(.string s.o.name),s.o.rv,s.o.dv,s.o.cv,s.sv,(.int .u64 s.rg.cpl),(.int .u64 s.rg.off),s.kv,I s.p.1,I s.p.2] rfl rfl (by simp[OC,((sR H).sl hs.o.1).cells.2.1,((sR H).sl hs.o.2.2.1).cells.2.1,((sR H).sl hs.o.2.2.2.2.1).cells.2.1,((sR H).sl hs.rg.1).cells.2.1,((sR H).sl hs.ks.sl).cells.2.1]) rQ fun A1 H1 hS1=> ?_
 simp only[RT]at hS1
 simp(disch:=omega) only[↓RA,RB,simprocAttr,g1]
 refine hS1.eNew 6 [I x.pl.1,I x.pl.2,x.cv,I x.tc.1,I x.tc.2,I x.stop] rfl rfl (by simp[OC,(hS1.sl hx.1).cells.2.1]) nP fun A2 H2 hS2=> ?_
 simp only[RT]at hS2
 simp(disch:=omega) only[↓RA,RZ,simprocAttr,hn,hS2.ae 0 rfl]
 refine hS2.cF (zR s (hs.ag hS2)) fun H3 hS3=> ?_
 simp(disch:=omega) only[↓RA,RB,simprocAttr,hn]
 refine iF (fun h1=> ?_) (fun h1=> ?_)
 ·simp(disch:=omega) only[↓RA,RZ,simprocAttr,hn,a7P,h1]
  exact⟨by rw[vfE,if_pos h1],hS3.forget⟩
 have hf:=yJ.1 (dI.1 h1)
 have hpl:=zA hf.keys
 have hct:=sJ hs.ks.ok hf.keys
 simp(disch:=omega) only[↓RA,RC,simprocAttr,h1]
 refine Wp.aL kJ [(3,0)] (by kernel_rfl) (by kernel_rfl) ?_
 simp(disch:=omega) only[↓RA,RZ,simprocAttr,hn,hS3.ae 0 rfl]
 refine iR ((wW (hS3.gl hG) s (hs.ag hS3) hf).tr) ?_
 rintro r H4⟨-,hT2⟩
 have hS4:=hS3.trans hT2
 simp only[RT]at hS4
 obtain⟨pw,rfl⟩:∃w,w=r:=⟨r,rfl⟩
 simp(disch:=omega) only[↓RA,RZ,simprocAttr,hn,hS4.ae 1 rfl]
 refine hS4.cF (a2j pw (iK s.ks) (hS4.az 2 rfl kI) (by omega) x.pl) fun H5 hS5=> ?_
 simp(disch:=omega) only[↓RA,RZ,simprocAttr,hn,hS3.ae 1 rfl]
 refine jD (fun h2=> ?_) (fun h2=> ?_)
 ·simp(disch:=omega) only[↓RA,RB,simprocAttr,hn,a7P,h2]
  exact⟨by rw[vfE,if_neg h1,if_pos (by simpa using h2)],hS5.forget⟩
 have hm:x.pl∈iK s.ks:=by simpa using h2
 have hE:vfE s x=if(lY s x).2=false∨(x.cps.length=0∧zB s x.pl.1=true)then 7 else if yW s x.stop x.tc=false then 11 else 0:=by rw[vfE,if_neg h1,if_neg (by simpa using hm)]
 simp(disch:=omega) only[↓RA,RZ,simprocAttr,hn,hS5.ae 0 rfl,hS5.ae 1 rfl,h2]
 refine iR (a7t s (hs.ag hS5) hf x (hx.ag hS5)) ?_
 rintro r H6⟨cw,rfl,hT4⟩
 have hS6:=hS5.trans hT4
 simp only[RT]at hS6
 simp(disch:=omega) only[↓RA,RZ,simprocAttr,hn,h2]
 refine kL (fun h3=> ?_) (fun h3=> ?_)
 ·simp(disch:=omega) only[↓RA,RZ,simprocAttr,hn,a7P,h2,h3]
  exact⟨by rw[hE,if_pos (Or.inl (by simpa using h3))],hS6.forget⟩
 have hc:(lY s x).2=true:=by simpa using h3
 have hok:=a3u hf (hct _ hm) hc
 simp(disch:=omega) only[↓RA,RZ,simprocAttr,hn,hS6.ld 1 rfl,(hS6.sl hx.1).len,h2,h3]
 refine jQ (fun h4=> ?_) (fun h4=> ?_)
 ·simp(disch:=omega) only[↓RA,RZ,simprocAttr,hn,hS6.ae 0 rfl,hS6.ld 1 rfl,h2,h3,h4]
  refine hS6.cF (a4M s (hs.ag hS6) x.pl.1 ((wB (hct _ hm)).1)) fun H7 hS7=> ?_
  simp(disch:=omega) only[↓RA,RZ,simprocAttr,hn,h2,h3,h4]
  refine jD (fun h5=> ?_) (fun h5=> ?_)
  ·simp(disch:=omega) only[↓RA,RZ,simprocAttr,hn,a7P,h2,h3,h4,h5]
   exact⟨by rw[hE,if_pos (Or.inr ⟨by omega,by simpa using h5⟩)],hS7.forget⟩
  have h5':zB s x.pl.1=false:=by simpa using h5
  simp(disch:=omega) only[↓RA,RZ,simprocAttr,hn,hS7.ae 0 rfl,hS7.ld 1 rfl,hS7.ae 1 rfl,h2,h3,h4,h5]
  refine hS7.cF (a2e s (hs.ag hS7) hf x.stop x.tc (wB hok)) fun H8 hS8=> ?_
  simp(disch:=omega) only[↓RA,RZ,simprocAttr,hn,h2,h3,h4,h5]
  refine jD (fun h6=> ?_) (fun h6=> ?_)
  ·simp(disch:=omega) only[↓RA,RZ,simprocAttr,hn,a7P,h2,h3,h4,h5,h6]
   exact⟨by rw[hE,if_neg (by rw[hc,h5'];simp),if_pos (by simpa using h6)],hS8.forget⟩
  simp(disch:=omega) only[↓RA,RZ,simprocAttr,hn,a7P,h2,h3,h4,h5,h6]
  exact⟨by rw[hE,if_neg (by rw[hc,h5'];simp),if_neg (by simpa using h6)],hS8.forget⟩
 simp(disch:=omega) only[↓RA,RZ,simprocAttr,hn,hS6.ae 0 rfl,hS6.ld 1 rfl,hS6.ae 1 rfl,h2,h3,h4]
 refine hS6.cF (a2e s (hs.ag hS6) hf x.stop x.tc (wB hok)) fun H9 hS9=> ?_
 simp(disch:=omega) only[↓RA,RZ,simprocAttr,hn,h2,h3,h4]
 refine jD (fun h6=> ?_) (fun h6=> ?_)
 ·simp(disch:=omega) only[↓RA,RZ,simprocAttr,hn,a7P,h2,h3,h4,h6]
  exact⟨by rw[hE,if_neg (by rw[hc];rintro(h|h);(· cases h);(· omega)),if_pos (by simpa using h6)],hS9.forget⟩
 simp(disch:=omega) only[↓RA,RZ,simprocAttr,hn,a7P,h2,h3,h4,h6]
 exact⟨by rw[hE,if_neg (by rw[hc];rintro(h|h);(· cases h);(· omega)),if_neg (by simpa using h6)],hS9.forget⟩
end Go.Ds
namespace Go.Ds
open Go.Proofs Go.Proofs.Tryz Go.ChangeShapes Go.WideShapes Go.RowKit Go.Deep
set_option maxRecDepth 10000
theorem c4f:prog.cellsOf 26=6:=by kernel_rfl
theorem c5K:prog.cellsOf 24=1:=by kernel_rfl
theorem c5m:iJ prog 3=some 1:=by kernel_rfl
structure RnI(H:Heap)(r:Rn):Prop where
 sl:Sl 1 (one I) H r.cv r.cps
 len:r.cps.length<9223372036854775808
theorem RnI.ext{ρ ρ':Rho}{H H':Heap}{r:Rn}(h:RnI H r)(e:ExtW ρ H ρ' H'):RnI H' r:=⟨h.sl.ext e,h.len⟩
theorem RnI.ag{P:Program}{H H0:Heap}{os:List Ob}{r:Rn}(h:RnI H0 r)(hS:St P H0 H os):RnI H r:=⟨hS.sl h.sl,h.len⟩
theorem RnI.rn{H:Heap}{r:Rn}(h:RnI H r)(hl:r.cps.length<100000000):r.In H:=⟨h.sl,hl⟩
structure CtI(H:Heap)(v:Value)(l:List Ctl):Prop where
 sl:Sl 3 Ctl.cells H v l
 len:l.length<9223372036854775808
theorem CtI.ext{ρ ρ':Rho}{H H':Heap}{v:Value}{l:List Ctl}(h:CtI H v l)(e:ExtW ρ H ρ' H'):CtI H' v l:=⟨h.sl.ext e,h.len⟩
theorem CtI.ag{P:Program}{H H0:Heap}{os:List Ob}{v:Value}{l:List Ctl}(h:CtI H0 v l)(hS:St P H0 H os):CtI H v l:=⟨hS.sl h.sl,h.len⟩
section
variable {H0:Type} {enc:TypeId×Value→H0} {w:World} {base n:Nat} {spare:Nat→Bool} {lW:Bool} {x:DataW H0×List MemPlace}
theorem b6F{cs:List Value}(h:DataW.trod enc prog w base spare lW n 23 cs=some x):∃c:Ct,cs=[I c.1,I c.2]:=by
 obtain⟨hl,m,hf⟩:=b6J underlying23 h
 rw[c3U]at hl
 match cs,hl with
 | [x,y],_=>
   obtain⟨_,h0⟩:=hf 0 ⟨_,3,0,_,_,_,_⟩ rfl
   obtain⟨_,h1⟩:=hf 1 ⟨_,3,1,_,_,_,_⟩ rfl
   simp only[ce3]at h0 h1
   obtain⟨a,rfl,_⟩:=a4G h0
   obtain⟨b,rfl,_⟩:=a4G h1
   exact⟨(a,b),rfl⟩
end
section
variable {H0:Type} {enc:TypeId×Value→H0} {w:World} {base fuel:Nat} {lW:Bool} {x:DataW H0×List MemPlace} {ρ:Rho} {H:Heap}
theorem b8c{cs:List Value}(h:InW prog ρ H w){b0:Nat}{cur0:Array Value}{t0:TypeId}{fr0:Nat×Nat}(hb0:w.heap[b0]? =some (.cells cur0 t0 fr0))(hf:DataW.trod enc prog w base (fun _=>true) lW fuel 26 cs=some x):
 ∃(ρ':Rho)(H':Heap)(r:Rn)(c:Value),InW prog ρ' H' w∧ExtW ρ H ρ' H'∧cs=[I r.pl.1,I r.pl.2,c,I r.tc.1,I r.tc.2,I r.stop]∧C1 ρ' r.cv c∧RnI H' r:=by
 obtain⟨hl,m,hf⟩:=b6J underlying26 hf
 rw[c4f]at hl
 match cs,hl with
 | [x0,x1,x2,x3,x4,x5],_=>
   obtain⟨_,h0⟩:=hf 0 ⟨_,23,0,_,_,_,_⟩ rfl
   obtain⟨_,h1⟩:=hf 1 ⟨_,24,2,_,_,_,_⟩ rfl
   obtain⟨_,h2⟩:=hf 2 ⟨_,23,3,_,_,_,_⟩ rfl
   obtain⟨_,h3⟩:=hf 3 ⟨_,3,5,_,_,_,_⟩ rfl
   simp only[ce3,c3U,c5K]at h0 h1 h2 h3
   obtain⟨p,ep⟩:=b6F h0
   obtain⟨t,et⟩:=b6F h2
   obtain⟨ρ1,H1,v1,xs,i1,i2,i3,i4,i5,i6⟩:=b7L (cel:=one I) (ok:=fun _=>True) underlying24 ce3 c5m (by decide) (fun _=>rfl) (fun x c hc=>by
    simp only[one,ej,eF,or_false]at hc
    rw[hc]
    rfl) (fun{n cs x}hh=>by
     have hlc:cs.length=1:=by
      obtain⟨m,hv,_,_⟩:=DataW.trod_int underlying3 hh
      rw[hv];rfl
     match cs,hlc with
     | [c],_=>
       obtain⟨m,rfl,_⟩:=a4G hh
       exact⟨m,rfl,trivial⟩) h hb0 h1
   obtain⟨z,ez,_⟩:=a4G h3
   simp only[ir,gy,List.take_succ_cons,List.take_zero,fi,and_true]at ep et
   obtain⟨rfl,rfl⟩:=ep
   obtain⟨rfl,rfl⟩:=et
   subst ez
   exact⟨ρ1,H1,⟨p,v1,xs,t,z⟩,_,i1,i2,rfl,i3,i4,i6⟩
theorem b4y{v0:Value}{d0:DataW H0}{p0:List MemPlace}{c0:Nat}(h:InW prog ρ H w){b0:Nat}{cur0:Array Value}{t0:TypeId}{fr0:Nat×Nat}(hb0:w.heap[b0]? =some (.cells cur0 t0 fr0))(h0:DataW.Trod enc prog w base (fun _=>true) lW 26 v0 d0 p0)(hval:Value.okWide prog w .any c0 26 v0):
 ∃(ρ':Rho)(H':Heap)(r:Rn),InW prog ρ' H' w∧ExtW ρ H ρ' H'∧V ρ' r.v v0∧RnI H' r:=by
 obtain⟨cs,rfl,hsz⟩:=okWide_struct underlying26 hval
 obtain⟨fuel,hf⟩:=h0
 obtain⟨ρ1,H1,r,c,i1,i2,hcs,i3,i4⟩:=b8c h hb0 hf
 obtain⟨l⟩:=cs
 have hcs:l=_:=hcs
 subst hcs
 exact⟨ρ1,H1,r,i1,i2,.v1 (.agg ⟨.c0 (.flat rfl),.c0 (.flat rfl),i3,.c0 (.flat rfl),.c0 (.flat rfl),.c0 (.flat rfl),trivial⟩),i4⟩
end
end Go.Ds
namespace Go.Ds
open Go.Proofs
variable {H:Heap}
set_option maxRecDepth 10000
set_option maxHeartbeats 1000000
end Go.Ds
namespace Go.Ds
open Go.Proofs Go.Proofs.Tryz
variable {H:Heap}
set_option maxRecDepth 10000
set_option maxHeartbeats 1000000
theorem a0O(a:Addr)(m c:Nat):kN prog .eql 140 140 false true (.slice (some a) m c) (.slice none 0 0)=some (.bool false):=by kernel_rfl
theorem tU{v:Value}{a:Addr}{m c:Nat}(h:v=.slice (some a) m c)(K:Value→Prop):kY prog .eql 140 140 false true v (.slice none 0 0) K=nH (.bool false) K:=by
 subst h
 show jT (kN prog .eql 140 140 false true (.slice (some a) m c) (.slice none 0 0)) K=_
 rw[a0O]
 rfl
theorem a0g:kN prog .eql 140 140 false true (.slice none 0 0) (.slice none 0 0)=some (.bool true):=by kernel_rfl
theorem oR(K:Value→Prop):kY prog .eql 140 140 false true (.slice none 0 0) (.slice none 0 0) K=nH (.bool true) K:=by
 show jT (kN prog .eql 140 140 false true (.slice none 0 0) (.slice none 0 0)) K=_
 rw[a0g]
 rfl
theorem a9J(v:Value)(xs:List Ct)(hv:Sl 2 lE H v xs)(hl:xs.length<100000000):Fn prog 97 [v] H fun r H'=>St prog H H' [⟨r,2,xs.flatMap lE⟩]:=by
 rcases hv.rd with⟨rfl,h2⟩|⟨A,i,e,row,ty,rw',lo,ver,m,_,_,_,_,_,_,hvv⟩
 ·have hx:xs=[]:=by
   have:=congrArg List.length h2
   rw[show(xs.flatMap lE).length=xs.length*2 from jF (n:=2) (cel:=lE) (fun _=>rfl) xs,dZ]at this
   exact ed.1 (by omega)
  subst hx
  refine .aS func97 rfl (by kernel_rfl) (m:=8) rfl fun l hn g0=> ?_
  have hbe:=oR
  simp(disch:=omega) only[↓RA,RB,simprocAttr,hn,g0,oR]
  have hS1:=(sR H).nil 1
  simp only[RT]at hS1
  simp(disch:=omega) only[RB,simprocAttr,hn,c3f]
  exact hS1
 ·refine .aS func97 rfl (by kernel_rfl) (m:=8) rfl fun l hn g0=> ?_
  simp(disch:=omega) only[↓RA,RB,simprocAttr,hn,g0,tU hvv]
  refine(sR H).bH tH fun w1 H1 hS1=> ?_
  simp only[RT]at hS1
  simp(disch:=omega) only[↓RA,RZ,simprocAttr,hn,g0]
  refine hS1.av 0 rfl (hS1.sl hv).rd tH (by rw[show(xs.flatMap lE).length=xs.length*2 from jF (n:=2) (cel:=lE) (fun _=>rfl) xs];simp;omega) fun w2 H2 hS2=> ?_
  simp only[RT]at hS2
  simp(disch:=omega) only[↓RA,RB,simprocAttr,hn,c3f]
  exact hS2
end Go.Ds
namespace Go.Ds
open Go.Proofs
set_option maxRecDepth 10000
section
variable {o:Org} {b:Nat→Nat} {l:List Ct}
end
theorem c2i(a:Int):sZ a=if a%18446744073709551616≥9223372036854775808 then a%18446744073709551616-18446744073709551616 else a%18446744073709551616:=by
 show IntKind.wrap .i64 a=_
 unfold IntKind.wrap
 simp[IntKind.bits,IntKind.signed]
theorem a0k{a:Int}(h1: -9223372036854775808≤a)(h2:a<9223372036854775808):sZ a=a:=by
 rw[c2i]
 split<;>omega
end Go.Ds
namespace Go.Ds
open Go.Proofs
variable {H:Heap}
set_option maxRecDepth 10000
set_option maxHeartbeats 1000000
end Go.Ds
namespace Go.Ds
open Go.Proofs
set_option maxRecDepth 10000
end Go.Ds
namespace Go.Ds
open Go.Proofs
variable {H:Heap}
set_option maxRecDepth 10000
set_option maxHeartbeats 1000000
structure Kv where
 v:Value
 l:List Nt
 deriving Inhabited
def Kv.cells(k:Kv):List Value:=[k.v]
def Kv.In(H:Heap)(k:Kv):Prop:=Ks H k.v k.l
theorem Kv.In.ag{P:Program}{H':Heap}{k:Kv}{os:List Ob}(h:k.In H)(hS:St P H H' os):k.In H':=Ks.ag h hS
end Go.Ds
namespace Go.Ds
open Go.Proofs
set_option maxRecDepth 10000
end Go.Ds
namespace Go.Ds
open Go.Proofs
variable {H:Heap}
set_option maxRecDepth 10000
set_option maxHeartbeats 1000000
theorem b6G{o:Org}{c:Ct}(h:c∈nV o):mB o c=true:=by
 unfold nV at h
 obtain⟨i,hi,h⟩:=eT.1 h
 obtain⟨k,hk,rfl⟩:=dE.1 h
 have h1:=dG.1 hi
 have h2:=dG.1 hk
 rw[kU]
 simp only[eh]
 omega
theorem b6v{o:Org}{c:Ct}(h:mB o c=true):c∈nV o:=by
 rw[kU]at h
 unfold nV
 refine eT.2 ⟨c.1.toNat,dG.2 (by omega),dE.2 ⟨(c.2-(iG o.dvs c.1.toNat).lo).toNat,dG.2 (by omega),?_⟩⟩
 apply gV
 ·simp;omega
 ·simp;omega
theorem b8O{o:Org}(hf:o.Fine){i k:Nat}(hi:i<o.dvs.length)(hk:k≤wP o i):(sU o i k).length≤1024:=by
 have h1:=b6B hf
 by_cases hkk:k<wP o i
 ·obtain⟨e,he⟩:=a9N o (i:=i) (k:=k) (by omega) hkk
  rw[he,du]at h1
  omega
 ·have hk2:k=wP o i:=by omega
  rw[hk2,a0q]
  obtain⟨t,ht⟩:∃t,List.range o.dvs.length=List.range (i+1)++t:=⟨(List.range o.dvs.length).drop (i+1),by rw[show List.range (i+1)=(List.range o.dvs.length).take (i+1)from by rw[List.take_range,gD (by omega)],fQ]⟩
  unfold nV at h1
  rw[ht,dD,du]at h1
  omega
end Go.Ds
namespace Go.Ds
open Go.Proofs
set_option maxRecDepth 10000
def Nx(s:Sn)(c x:Ct):Prop:=∃i:Nat,i<s.o.cpls.length∧ldB s i c false=true∧lU s i c=x
theorem b2E(o:Org):(nV o).Pairwise ltP:=vW (fun i=>by
 unfold qZ
 rw[fO]
 exact(List.pairwise_lt_range).imp fun h=>.inr ⟨rfl,by simpa using h⟩) (fun i c hc=>by
  unfold qZ at hc
  obtain⟨k,_,rfl⟩:=dE.1 hc
  rfl) _
theorem b6R{l:List Ct}(h:l.Pairwise ltP):l.Nodup:=h.imp fun{a b}hab e=>by rw[e]at hab;exact b0y hab
inductive RN(s:Sn):Nat→Ct→Prop
 | zero {c:Ct} (h:mB s.o c=true) (hs:lK s c≠[]):RN s 0 c
 | succ {n:Nat} {c x:Ct} (h:mB s.o c=true) (hx:Nx s c x) (hr:RN s n x):RN s (n+1) c
theorem RN.ok{s:Sn}{n:Nat}{c:Ct}(h:RN s n c):mB s.o c=true:=by cases h<;>assumption
def Far(s:Sn)(c:Ct)(n:Nat):Prop:=RN s n c∧∀m,RN s m c→n≤m
theorem Far.uniq{s:Sn}{c:Ct}{n m:Nat}(h:Far s c n)(k:Far s c m):n=m:=Nat.le_antisymm (h.2 _ k.1) (k.2 _ h.1)
def frm(x:Cpl)(c:Ct):Ct:=(x.src,sZ (c.2-x.shift))
def pL(L:List (Ct×Nat))(t:Ct):Option Nat:=(L.find? fun e=>decide (e.1=t)).map (·.2)
def rA(s:Sn)(c:Ct)(i:Nat):Bool:=
 decide ((iG s.o.cpls i).dst=c.1)&&mB s.o (frm (iG s.o.cpls i) c)&&ldB s i (frm (iG s.o.cpls i) c) false&&decide (lU s i (frm (iG s.o.cpls i) c)=c)
def tN(s:Sn)(c:Ct×Nat)(L:List (Ct×Nat))(i:Nat):List (Ct×Nat):=
 if rA s c.1 i&& !decide (frm (iG s.o.cpls i) c.1∈L.map (·.1))then L++[(frm (iG s.o.cpls i) c.1,c.2+1)]else L
def lO(s:Sn)(c:Ct×Nat)(L:List (Ct×Nat))(n:Nat):List (Ct×Nat):=(List.range n).foldl (tN s c) L
theorem a0w(s:Sn)(c:Ct×Nat)(L:List (Ct×Nat))(n:Nat):lO s c L (n+1)=tN s c (lO s c L n) n:=by
 unfold lO
 rw[eN,gr]
 rfl
def a2O(s:Sn):Nat→Nat→List (Ct×Nat)→List (Ct×Nat)
 | 0,_,L=>L
 | n+1,h,L=>if h<L.length then a2O s n (h+1) (lO s (iG L h) L s.o.cpls.length)else L
def rC(s:Sn)(l:List Ct):List (Ct×Nat):=(l.filter fun c=>decide (lK s c≠[])).map fun c=>(c,0)
def qH(s:Sn):List (Ct×Nat):=a2O s 1100 0 (rC s (nV s.o))
theorem zE{L:List (Ct×Nat)}{t:Ct}:pL L t=none↔t∉L.map (·.1):=by
 unfold pL
 rw[Option.map_eq_none_iff,gh]
 simp only[decide_eq_true_eq,dE,not_exists,not_and]
theorem b4C{L M:List (Ct×Nat)}{t:Ct}:pL (L++M) t=(pL L t).or (pL M t):=by
 unfold pL
 rw[List.find?_append]
 cases L.find? fun e=>decide (e.1=t)<;>simp
theorem b6C{c t:Ct}{n:Nat}:pL [(c,n)] t=if c=t then some n else none:=by
 unfold pL
 by_cases h:c=t
 ·rw[if_pos h];simp[h]
 ·rw[if_neg h];simp[h]
theorem yR{L:List (Ct×Nat)}(hn:(L.map (·.1)).Nodup){t:Ct}{n:Nat}:pL L t=some n↔(t,n)∈L:=by
 unfold pL
 constructor
 ·intro h
  obtain⟨e,he,h2⟩:=dq.1 h
  have h3:=List.find?_some he
  have h4:=gQ he
  obtain⟨a,b⟩:=e
  simp only[decide_eq_true_eq]at h3
  simp only at h2
  rw[←h3,←h2]
  exact h4
 ·intro h
  induction L with
  | nil=>cases h
  | cons e L ih=>
    rw[dY,gW]at hn
    rw[List.find?_cons]
    rcases ej.1 h with h|h
    ·subst h;simp
    ·have hne:decide (e.1=t)=false:=by
      rw[decide_eq_false_iff_not]
      intro e1
      exact hn.1 (dE.2 ⟨(t,n),h,e1.symm⟩)
     rw[hne]
     exact ih hn.2 h
structure Bf(s:Sn)(h:Nat)(L:List (Ct×Nat)):Prop where
 nd:(L.map (·.1)).Nodup
 ok:∀e∈L,mB s.o e.1=true
 far:∀e∈L,Far s e.1 e.2
 zero:∀c,RN s 0 c→c∈L.map (·.1)
 srt:∀i j,i<j→j<L.length→(iG L i).2≤(iG L j).2
 hi:∀i,i<L.length→h<L.length→(iG L i).2≤(iG L h).2+1
 lt:∀j,j<L.length→(iG L j).2≤j
 done:∀j,j<h→j<L.length→∀c,mB s.o c=true→Nx s c (iG L j).1→c∈L.map (·.1)
theorem pK{α:Type}[Inhabited α](q t:List α){j:Nat}(h:j<q.length):iG (q++t) j=iG q j:=by
 rw[jV _ _ (by simp;omega),jV _ _ h,List.getElem_append_left h]
theorem a1q{α:Type}[Inhabited α](q:List α)(x:α):iG (q++[x]) q.length=x:=by
 rw[jV _ _ (by simp)]
 simp
theorem a6w{L:List (Ct×Nat)}{c:Ct}(h:c∈L.map (·.1)):∃j,j<L.length∧(iG L j).1=c:=by
 obtain⟨e,he,rfl⟩:=dE.1 h
 obtain⟨j,hj,rfl⟩:=ek.1 he
 exact⟨j,hj,by rw[jV _ _ hj]⟩
theorem Bf.cM{s:Sn}{h:Nat}{L:List (Ct×Nat)}(b:Bf s h L)(hh:h<L.length):∀k c,RN s k c→k≤(iG L h).2→c∈L.map (·.1)
 | 0,c,hr,_=>b.zero c hr
 | k+1,c,hr,hk=>by
   cases hr with
   | succ ho hx hr'=>
     rename_i x
     have hxm:=b.cM hh k x hr' (by omega)
     obtain⟨j,hj,rfl⟩:=a6w hxm
     have hf:=(b.far _ (iM hj)).2 _ hr'
     refine b.done j ?_ hj c ho hx
     rcases ik j h with h1|h1
     ·exact h1
     ·exfalso
      rcases hK h1 with h2|h2
      ·have:=b.srt h j h2 hj
       omega
      ·subst h2
       omega
theorem b6n{s:Sn}{c y:Ct}{i:Nat}(hi:i<s.o.cpls.length)(hf:s.Fit)(hy:mB s.o y=true):rA s c i=true∧frm (iG s.o.cpls i) c=y↔mB s.o c=true∧ldB s i y false=true∧lU s i y=c:=by
 have hc:=Org.bg hf.o hi
 constructor
 ·rintro⟨hb,rfl⟩
  unfold rA at hb
  simp only[de,decide_eq_true_eq]at hb
  obtain⟨⟨⟨h1,h2⟩,h3⟩,h4⟩:=hb
  refine⟨?_,h3,h4⟩
  have h5:=yP.1 h3
  rw[←h4,lU,if_pos h5.1,kU]
  simp only[eh]at h5 ⊢
  exact⟨hc.2.1.1,hc.2.1.2,h5.2.2.2.1,h5.2.2.2.2⟩
 ·rintro⟨h1,h2,h3⟩
  have h5:=yP.1 h2
  have h6:=(kU s.o y).1 hy
  have hk:=hf.aT.keys y.1.toNat (by omega)
  rw[lU,if_pos h5.1]at h3
  simp only[eh]at h5 h3
  have e:frm (iG s.o.cpls i) c=y:=by
   unfold frm
   rw[←h3]
   apply gV
   ·exact h5.2.1
   ·show sZ (sZ (y.2+(iG s.o.cpls i).shift)-(iG s.o.cpls i).shift)=y.2
    rw[a0k (a:=y.2+(iG s.o.cpls i).shift) (by omega) (by omega),a0k (by omega) (by omega)]
    omega
  refine⟨?_,e⟩
  unfold rA
  rw[e]
  simp only[de,decide_eq_true_eq]
  refine⟨⟨⟨?_,hy⟩,h2⟩,?_⟩
  ·rw[←h3];rfl
  ·rw[lU,if_pos h5.1,eh];exact h3
structure Bg(s:Sn)(h:Nat)(c:Ct×Nat)(L:List (Ct×Nat))(n:Nat):Prop where
 bf:Bf s h L
 hh:h<L.length
 hc:iG L h=c
 dn:∀i,i<n→∀y,mB s.o y=true→rA s c.1 i=true→frm (iG s.o.cpls i) c.1=y→y∈L.map (·.1)
theorem Bg.succ{s:Sn}{h:Nat}{c:Ct×Nat}{L:List (Ct×Nat)}{n:Nat}(hf:s.Fit)(hn:n<s.o.cpls.length)(b:Bg s h c L n):Bg s h c (tN s c L n) (n+1):=by
 unfold tN
 split
 ·rename_i hb
  simp only[de,dW,decide_eq_false_iff_not]at hb
  obtain⟨hb1,hb2⟩:=hb
  have hy:mB s.o (frm (iG s.o.cpls n) c.1)=true:=by
   unfold rA at hb1
   simp only[de,decide_eq_true_eq]at hb1
   exact hb1.1.1.2
  obtain⟨_,h2,h3⟩:=(b6n hn hf hy).1 ⟨hb1,rfl⟩
  have hcm:c∈L:=by rw[←b.hc];exact iM b.hh
  have hfc:=b.bf.far c hcm
  have hfy:Far s (frm (iG s.o.cpls n) c.1) (c.2+1):=by
   refine⟨.succ hy ⟨n,hn,h2,h3⟩ hfc.1,fun m hm=> ?_⟩
   rcases ik c.2 m with h4|h4
   ·exact h4
   ·exact absurd (b.bf.cM b.hh m _ hm (by rw[b.hc];exact h4)) hb2
  have hlen:(L++[(frm (iG s.o.cpls n) c.1,c.2+1)]).length=L.length+1:=by simp
  refine⟨⟨?_,?_,?_,?_,?_,?_,?_,?_⟩,by have:=b.hh;omega,by rw[pK _ _ b.hh];exact b.hc,?_⟩
  ·rw[dN,List.nodup_append]
   refine⟨b.bf.nd,by simp,fun x hx y hy e=> ?_⟩
   rw[dY,fN,dM]at hy
   rw[e,hy]at hx
   exact hb2 hx
  ·intro e he
   rcases dP.1 he with he|he
   ·exact b.bf.ok e he
   ·rw[dM.1 he];exact hy
  ·intro e he
   rcases dP.1 he with he|he
   ·exact b.bf.far e he
   ·rw[dM.1 he];exact hfy
  ·intro x hx
   rw[dN]
   exact List.mem_append_left _ (b.bf.zero x hx)
  ·intro i j hij hj
   rcases hK (show j≤L.length by omega)with h4|h4
   ·rw[pK _ _ h4,pK _ _ (by omega)]
    exact b.bf.srt i j hij h4
   ·rw[h4,a1q,pK _ _ (by omega)]
    have:=b.bf.hi i (by omega) b.hh
    rw[b.hc]at this
    exact this
  ·intro i hi hh2
   rw[pK _ _ b.hh,b.hc]
   rcases hK (show i≤L.length by omega)with h4|h4
   ·rw[pK _ _ h4]
    have:=b.bf.hi i h4 b.hh
    rw[b.hc]at this
    exact this
   ·rw[h4,a1q]
    exact dm _
  ·intro j hj
   rcases hK (show j≤L.length by omega)with h4|h4
   ·rw[pK _ _ h4];exact b.bf.lt j h4
   ·rw[h4,a1q]
    have:=b.bf.lt h b.hh
    have:=b.hh
    rw[b.hc]at*
    show c.2+1≤_
    omega
  ·intro j hj hjl y hy1 hy2
   have hjL:j<L.length:=by have:=b.hh;omega
   rw[pK _ _ hjL]at hy2
   rw[dN]
   exact List.mem_append_left _ (b.bf.done j hj hjL y hy1 hy2)
  ·intro i hi y hy1 hy2 hy3
   rw[dN]
   rcases dw.1 hi with h4|h4
   ·exact List.mem_append_left _ (b.dn i h4 y hy1 hy2 hy3)
   ·subst h4
    refine gk _ ?_
    rw[dY,fN,dM]
    exact hy3.symm
 ·rename_i hb
  refine⟨b.bf,b.hh,b.hc,fun i hi y hy1 hy2 hy3=> ?_⟩
  rcases dw.1 hi with h4|h4
  ·exact b.dn i h4 y hy1 hy2 hy3
  ·subst h4
   rw[←hy3]
   apply eS
   intro hne
   exact hb (by rw[hy2];simpa using hne)
theorem Bg.all{s:Sn}{h:Nat}{L:List (Ct×Nat)}(hf:s.Fit)(b:Bf s h L)(hh:h<L.length):∀n,n≤s.o.cpls.length→Bg s h (iG L h) (lO s (iG L h) L n) n
 | 0,_=>⟨b,hh,rfl,fun i hi=>absurd hi (dX _)⟩
 | n+1,hn=>by
   rw[a0w]
   exact(Bg.all hf b hh n (by omega)).succ hf (by omega)
theorem Bf.next{s:Sn}{h:Nat}{L:List (Ct×Nat)}(hf:s.Fit)(b:Bf s h L)(hh:h<L.length):Bf s (h+1) (lO s (iG L h) L s.o.cpls.length):=by
 have g:=Bg.all hf b hh s.o.cpls.length (dm _)
 generalize lO s (iG L h) L s.o.cpls.length=M at g
 refine⟨g.bf.nd,g.bf.ok,g.bf.far,g.bf.zero,g.bf.srt,fun i hi hh2=> ?_,g.bf.lt,fun j hj hjl y hy1 hy2=> ?_⟩
 ·have h1:=g.bf.hi i hi g.hh
  have h2:=g.bf.srt h (h+1) (by omega) hh2
  omega
 ·rcases dw.1 hj with h4|h4
  ·exact g.bf.done j h4 hjl y hy1 hy2
  ·subst h4
   rw[g.hc]at hy2
   obtain⟨i,hi,h5,h6⟩:=hy2
   have hcm:iG L j∈M:=by rw[←g.hc];exact iM g.hh
   obtain⟨h7,h8⟩:=(b6n hi hf hy1).2 ⟨g.bf.ok _ hcm,h5,h6⟩
   exact g.dn i hi y hy1 h7 h8
theorem Bf.len{s:Sn}{h:Nat}{L:List (Ct×Nat)}(hf:s.Fit)(b:Bf s h L):L.length≤1024:=by
 have:Que s.o (L.map (·.1)):=⟨b.nd,fun c hc=>by
  obtain⟨e,he,rfl⟩:=dE.1 hc
  exact b.ok e he⟩
 have:=this.len hf.aT
 rw[dC]at this
 exact this
theorem a5q{s:Sn}(hf:s.Fit):∀n h L,Bf s h L→1025≤n+h→∃k,Bf s k (a2O s n h L)∧(a2O s n h L).length≤k
 | 0,h,L,b,hn=>⟨h,b,by have:=b.len hf;unfold a2O;omega⟩
 | n+1,h,L,b,hn=>by
   unfold a2O
   split
   ·rename_i hh
    exact a5q hf n (h+1) _ (b.next hf hh) (by omega)
   ·exact⟨h,b,by omega⟩
theorem a4Y{s:Sn}:Bf s 0 (rC s (nV s.o)):=by
 have hm:(rC s (nV s.o)).map (·.1)=(nV s.o).filter fun c=>decide (lK s c≠[]):=by
  unfold rC
  rw[ig]
  exact List.map_id _
 have h0:∀e∈rC s (nV s.o),e.2=0∧mB s.o e.1=true∧lK s e.1≠[]:=by
  intro e he
  obtain⟨c,hc,rfl⟩:=dE.1 he
  have:=fG.1 hc
  exact⟨rfl,b6G this.1,by simpa using this.2⟩
 have h1:∀i,i<(rC s (nV s.o)).length→(iG (rC s (nV s.o)) i).2=0:=fun i hi=>(h0 _ (iM hi)).1
 refine⟨?_,fun e he=>(h0 e he).2.1,fun e he=> ?_,fun c hc=> ?_,fun i j hij hj=> ?_,fun i hi hh=> ?_,fun j hj=> ?_,fun j hj=>absurd hj (dX _)⟩
 ·rw[hm]
  exact(b6R (b2E s.o)).filter _
 ·obtain⟨h2,h3,h4⟩:=h0 e he
  rw[h2]
  exact⟨.zero h3 h4,fun m _=>eQ _⟩
 ·rw[hm]
  cases hc with
  | zero h2 h3=>exact fG.2 ⟨b6v h2,by simpa using h3⟩
 ·rw[h1 i (by omega),h1 j hj];exact dm _
 ·rw[h1 i hi];omega
 ·rw[h1 j hj];omega
theorem a4g{s:Sn}(hf:s.Fit):((qH s).map (·.1)).Nodup∧(∀e∈qH s,mB s.o e.1=true∧Far s e.1 e.2)∧(∀n c,RN s n c→∃m,pL (qH s) c=some m∧Far s c m)∧(qH s).length≤1024:=by
 obtain⟨k,b,hk⟩:=a5q hf 1100 0 _ a4Y (by decide)
 have hl:=b.len hf
 refine⟨b.nd,fun e he=>⟨b.ok e he,b.far e he⟩,fun n c hr=> ?_,hl⟩
 have hm:∀n c,RN s n c→c∈(a2O s 1100 0 (rC s (nV s.o))).map (·.1):=by
  intro n
  induction n with
  | zero=>exact b.zero
  | succ n ih=>
    intro c hr
    cases hr with
    | succ ho hx hr'=>
      obtain⟨j,hj,rfl⟩:=a6w (ih _ hr')
      exact b.done j (by omega) hj c ho hx
 obtain⟨e,he,rfl⟩:=dE.1 (hm n c hr)
 exact⟨e.2,(yR b.nd).2 he,b.far e he⟩
theorem sH{s:Sn}(hf:s.Fit){c:Ct}{n:Nat}:pL (qH s) c=some n↔Far s c n:=by
 obtain⟨h1,h2,h3,_⟩:=a4g hf
 constructor
 ·intro h
  exact(h2 _ ((yR h1).1 h)).2
 ·intro h
  obtain⟨m,hm,hfm⟩:=h3 n c h.1
  rw[hm,h.uniq hfm]
end Go.Ds
namespace Go.Ds
open Go.Proofs
variable {H:Heap}
set_option maxRecDepth 10000
set_option maxHeartbeats 1000000
structure Frs{α:Type}(n:Nat)(cel:α→List Value)(H:Heap)(v:Value)(xs:List α)(tl:List Value)(L:Nat):Prop where
 rd:RdAt H v n (xs.flatMap cel++tl)
 hc:∀x,(cel x).length=n
 pos:0<n
 hL:L=xs.length
theorem oC(v:Value)(n lo k j f:Nat):jS (kS v n lo k) n j f=jS v n (lo+j) f:=by
 unfold kS
 split
 ·simp only[jS,Value.pointer.injEq,dH,iE,true_and,and_true]
  rw[ft]
  omega
 ·rename_i h
  unfold jS
  split
  ·exact absurd rfl (h _ _ _ _ _)
  ·rfl
theorem a3e(v:Value)(n lo k lo2 k2:Nat):kS (kS v n lo k) n lo2 k2=kS v n (lo+lo2) k2:=by
 cases v with
 | slice a m c=>
   cases a with
   | none=>rfl
   | some a=>
     obtain⟨A,i,e⟩:=a
     simp only[kS,Value.slice.injEq,dH,iE,true_and,and_true]
     rw[ft]
     omega
 | _=>rfl
section
variable {P:Program} {α:Type} {n:Nat} {cel:α→List Value} {v:Value} {xs:List α} {tl:List Value} {L:Nat}
theorem Frs.sl(h:Frs n cel H v xs tl L):Sl n cel H (kS v n 0 L) xs:=by
 refine⟨?_,h.hc,h.pos⟩
 have hl:=jF h.hc xs
 rw[h.hL]
 by_cases h0:xs.flatMap cel++tl=[]
 ·have hx:xs.length=0:=by
   have:=congrArg List.length h0
   rw[du,hl,dZ]at this
   have h2:xs.length*n=0:=by omega
   rcases gX.1 h2 with h3|h3
   ·exact h3
   ·have:=h.pos;omega
  obtain rfl:=ed.1 hx
  have hr:=h.rd
  rw[h0]at hr
  obtain⟨m,rfl⟩:∃m,n=m+1:=⟨n-1,by have:=h.pos;omega⟩
  have e:=RdAt.sub_self (n:=0) hr (by simp)
  show RdAt H (kS v (m+1) 0 0) (m+1) []
  rw[e]
  exact hr
 ·have h5:=RdAt.sub h.rd 0 xs.length (by rw[du,hl];omega) h0
  rw[Nat.zero_mul,ir,←hl,List.take_left' rfl]at h5
  exact h5
theorem Frs.len(h:Frs n cel H v xs tl L)(m:Nat)(t:TypeId):a6t (some m) P H t (kS v n 0 L)=some (.int .i64 L):=by
 rw[h.sl.len m t,h.hL]
theorem Frs.idx(h:Frs n cel H v xs tl L)(t:TypeId)(k:IntKind)(j:Int)(h0:0≤j)(h1:j<xs.length):wG (some n) P t (kS v n 0 L) (.int k j)=some (jS v n j.toNat 0):=by
 rw[h.sl.idx t k j h0 h1,oC,fx]
theorem Frs.bp(h:Frs n cel H v xs tl L)(j:Nat)(hj:j<xs.length)(g d:Nat):a6F (some d) (jS v n j g)=some (jS v n j (g+d)):=by
 have:=h.sl.bp j hj g d
 rwa [oC,oC,fx]at this
theorem Frs.ld[Inhabited α](h:Frs n cel H v xs tl L)(s:Option Nat)(j f:Nat)(hj:j<xs.length)(hf:f<n):qC (some false) s H (jS v n j f)=(cel (iG xs j))[f]?:=by
 have:=h.sl.ld s j f hj hf
 rwa [oC,fx]at this
theorem Frs.ae[Inhabited α](h:Frs n cel H v xs tl L)(j:Nat)(hj:j<xs.length):qC (some true) (some n) H (jS v n j 0)=some (.agg (cel (iG xs j)).toArray):=by
 have:=h.sl.ae j hj
 rwa [oC,fx]at this
theorem Frs.aD(h:Frs n cel H v xs tl L)(o:Oper)(l:List Value)(H':Heap)(k:IntKind)(a:Int)(K:Value→Heap→Prop)(h0:0<xs.length)(h1:0≤a)(h2:a≤xs.length):
 nO P o l H' (some n) (kS v n 0 L) (some (.int k a)) none K=nH (kS v n a.toNat (L-a).toNat) fun v=>K v H':=by
 rw[h.sl.aD o l H' k a K h0 h1 h2,a3e,fx,h.hL]
theorem Frs.aP(h:Frs n cel H v xs tl L)(o:Oper)(l:List Value)(H':Heap)(k:IntKind)(a:Int)(K:Value→Heap→Prop)(h0:0<xs.length)(h1:0≤a)(h2:a≤xs.length):
 nO P o l H' (some n) (kS v n 0 L) none (some (.int k a)) K=nH (kS v n 0 a.toNat) fun v=>K v H':=by
 rw[h.sl.aP o l H' k a K h0 h1 h2,a3e,fx]
theorem Frs.cells(h:Frs n cel H v xs tl L):(kS v n 0 L).cells=#[kS v n 0 L]∧oneCell (kS v n 0 L)=true∧mK (kS v n 0 L)=true:=h.sl.cells
end
end Go.Ds
namespace Go.Ds
open Go
section
variable {P:Program} {H:Heap}
theorem SWr.mono:∀(c:Code){l:List Value}{H:Heap}{M Q:nA},(∀e l H,M e l H→Q e l H)→SWr P c l H M→SWr P c l H Q:=by
 intro c
 induction c with
 | skip=>intro l H M Q hm h;exact hm _ _ _ h
 | label t=>intro l H M Q hm h;exact hm _ _ _ h
 | exit id=>intro l H M Q hm h;exact hm _ _ _ h
 | ret=>intro l H M Q hm h;exact hm _ _ _ h
 | seq a b iha ihb=>
   intro l H M Q hm h
   refine iha ?_ h
   intro e l1 H1 h1
   cases e with
   | normal=>exact ihb hm h1
   | exit i=>exact hm _ _ _ h1
   | ret=>exact hm _ _ _ h1
 | block id b ih=>
   intro l H M Q hm h
   exact ih (fun e l1 H1 h1=>hm _ _ _ h1) h
 | cond c x y ihx ihy=>
   intro l H M Q hm h
   cases c with
   | tmp t=>exact wI h (ihx hm) (ihy hm)
   | _=>exact Wp.mono h hm
 | region id ops d=>
   intro l H M Q hm h
   cases d with
   | true=>exact Wp.mono h hm
   | false=>exact a0p (fun l H h=>hm _ _ _ h) _ _ _ h
 | _=>intro l H M Q hm h;exact Wp.mono h hm
def a7K(I:List Value→Heap→Prop)(Q:nA):nA:=fun e l1 H1=>match e with|.normal=>I l1 H1|e=>Q e l1 H1
theorem lC(I:List Value→Heap→Prop)(Q:nA)(l:List Value):a7K I Q .normal l H=I l H:=rfl
theorem b4x(I:List Value→Heap→Prop)(Q:nA)(l:List Value):a7K I Q .ret l H=Q .ret l H:=rfl
theorem a8y{v:Value}{x y:Code}{l:List Value}{Q:nA}(I:List Value→Heap→Prop)(hm:∀l H,I l H→Q .normal l H)(h:pG v (SW P x l H (a7K I Q)) (SW P y l H (a7K I Q))):pG v (SW P x l H Q) (SW P y l H Q):=by
 have hc:∀e l H,a7K I Q e l H→Q e l H:=fun e l H h=>by
  cases e with
  | normal=>exact hm _ _ h
  | exit i=>exact h
  | ret=>exact h
 exact wI h (SWr.mono x hc) (SWr.mono y hc)
end
end Go.Ds
namespace Go.Ds
noncomputable section
variable {P:Program} {H0:Base} {H:Heap} {os:List Ob} {κ β:Type} [DecidableEq κ] {enc:κ→Value} {f:β→Value} {z:Value} {t:TypeId}
theorem St.aR{o:Ob}(h:OwnAt P H o):St P ⟨H,qY [o]⟩ H [o] where
 len:=dm _
 old:=fun _ _ _=>rfl
 own:=fun x hx=>by rw[dM.1 hx];exact h
 new:=fun x hx B hB=>.inr ⟨x,hx,hB⟩
 sep:=List.pairwise_singleton _ _
theorem OwnAt.st{H0:Heap}{o:Ob}(h:OwnAt P H0 o)(hS:St P H0 H os):OwnAt P H o:=h.ag fun B hB=>hS.ag B (h.lt hB)
end
end Go.Ds
namespace Go.Ds
open Go.Proofs
variable {H:Heap}
set_option maxRecDepth 10000
set_option maxHeartbeats 1000000
abbrev KN(kvs:List (Ct×Int)):List Value:=kcs (fun p:Int×Int=>.agg #[I p.1,I p.2]) I kvs
structure Gn where
 c:Ct
 w:Value
 l:List Ct
 tl:List Value
 deriving Inhabited
abbrev Gn.v(g:Gn):Value:=kS g.w 2 0 g.l.length
def Gn.cells(g:Gn):List Value:=[I g.c.1,I g.c.2,g.v]
def Gn.row(g:Gn):Ob:=⟨g.w,2,pr g.l++g.tl⟩
def Gn.key(g:Gn):Ct×List Ct:=(g.c,g.l)
end Go.Ds
namespace Go.Ds
open Go.Proofs Go.Proofs.Tryz
variable {H:Heap}
set_option maxRecDepth 10000
set_option maxHeartbeats 1000000
def MapD(kvs:List (Ct×Int))(L:List (Ct×Nat)):Prop:=∀t,vL kvs t=(pL L t).map fun(n:Nat)=>(n:Int)
theorem MapD.put{kvs:List (Ct×Int)}{L:List (Ct×Nat)}(h:MapD kvs L){c:Ct}{n:Nat}(hn:c∉L.map (·.1)):MapD (a2L kvs c (n:Int)) (L++[(c,n)]):=by
 intro t
 rw[a7e,b4C,b6C]
 by_cases e:t=c
 ·rw[if_pos e,e,zE.2 hn,if_pos rfl]
  rfl
 ·rw[if_neg e,if_neg fun h=>e h.symm,h t]
  simp
theorem xU(s:Sn)(l:List Ct)(c:Ct):rC s (l++[c])=rC s l++(if lK s c≠[]then[(c,0)]else[]):=by
 unfold rC
 rw[fw,dN]
 congr 1
 by_cases h:lK s c≠[]
 ·rw[if_pos h];simp[h]
 ·rw[if_neg h];simp[h]
theorem a6J(s:Sn)(l:List Ct):(rC s l).map (·.1)=l.filter fun c=>decide (lK s c≠[]):=by
 unfold rC
 rw[ig]
 exact List.map_id _
theorem b5l(l:List Ct)(h:Nat):(pr (l.drop h)).drop (1*2)=pr (l.drop (h+1)):=by
 rw[←fD]
 cases l.drop h<;>rfl
theorem b4s{o:Org}{i k:Nat}:((i:Int),(iG o.dvs i).lo+(k:Int))∉sU o i k:=by
 unfold sU
 intro h
 rcases dP.1 h with h|h
 ·obtain⟨j,hj,h⟩:=eT.1 h
  unfold qZ at h
  obtain⟨q,_,e⟩:=dE.1 h
  have h1:=dG.1 hj
  have h2:(j:Int)=(i:Int):=congrArg Prod.fst e
  omega
 ·obtain⟨q,hq,e⟩:=dE.1 h
  have h1:=dG.1 hq
  have h2:(iG o.dvs i).lo+(q:Int)=(iG o.dvs i).lo+(k:Int):=congrArg Prod.snd e
  omega
theorem a3X{s:Sn}{c:Ct}{i:Nat}(h:mB s.o (frm (iG s.o.cpls i) c)=false):rA s c i=false:=by
 unfold rA
 rw[h]
 simp
theorem pV{s:Sn}{c:Ct×Nat}{L:List (Ct×Nat)}{i:Nat}(h:rA s c.1 i=false):tN s c L i=L:=by
 unfold tN
 rw[h]
 rfl
theorem yA(s:Sn)(hs:s.In H)(hf:s.Fit):Fn prog 50 [s.v] H fun r H'=>∃(M:Nat)(kvs:List (Ct×Int)),r=.map (some M)∧MapD kvs (qH s)∧St prog H H' [⟨.map (some M),0,KN kvs⟩]:=by
 have hfi:=hf.aT
 have hd8:=hfi.dlen
 have hc40:=hfi.clen
 refine .aS func50 rfl (by kernel_rfl) (m:=138) rfl fun l hn g0=> ?_
 have hfl:flat (Value.map none)=true:=rfl
 simp(disch:=omega) only[↓RA,RB,simprocAttr,g0]
 refine(sR H).eNew 10 [(.string s.o.name),s.o.rv,s.o.dv,s.o.cv,s.sv,(.int .u64 s.rg.cpl),(.int .u64 s.rg.off),s.kv,I s.p.1,I s.p.2] rfl rfl (by simp[OC,((sR H).sl hs.o.1).cells.2.1,((sR H).sl hs.o.2.2.1).cells.2.1,((sR H).sl hs.o.2.2.2.2.1).cells.2.1,((sR H).sl hs.rg.1).cells.2.1,((sR H).sl hs.ks.sl).cells.2.1]) rQ fun A1 H1 hS1=> ?_
 simp only[RT]at hS1
 simp(disch:=omega) only[↓RA,RB,simprocAttr,hfl]
 refine hS1.bV uT fun M1 H2 hS2=> ?_
 simp only[RT]at hS2
 simp(disch:=omega) only[↓RA,RZ,simprocAttr,hn,hS2.ld 0 rfl,(hS2.sl hs.o.2.2.1).len]
 have hS3:=hS2.nil 1
 simp only[RT]at hS3
 refine Wp.aj (fun n l H'=>l.length=138∧get l 1=(ptr A1 0 10)∧get l 2=(.map none)∧get l 3=(.map (some M1))∧get l 21=s.o.dv∧get l 22=I s.o.dvs.length∧∃(i:Nat)(kvs:List (Ct×Int))(ov:Value),(n+i=s.o.dvs.length∧MapD kvs (rC s ((List.range i).flatMap (qZ s.o))))∧get l 23=I i∧get l 4=ov∧St prog H H' [⟨ptr A1 0 10,0,[(.string s.o.name),s.o.rv,s.o.dv,s.o.cv,s.sv,(.int .u64 s.rg.cpl),(.int .u64 s.rg.off),s.kv,I s.p.1,I s.p.2]⟩,⟨.map (some M1),0,KN kvs⟩,⟨ov,2,pr ((rC s ((List.range i).flatMap (qZ s.o))).map (·.1))⟩]) s.o.dvs.length ?_ ?_
 ·simp(disch:=omega) only[RB,RC,simprocAttr,hn]
  exact⟨0,[],.slice none 0 0,⟨by omega,fun t=>rfl⟩,rfl,rfl,hS3⟩
 rintro n l H3⟨hn,g1,g2,g3,g21,g22,i,kvs,ov,⟨hi,hmd⟩,g23,g4,hS4⟩
 simp(disch:=omega) only[↓RA,RB,simprocAttr,hn,g22,g23]
 refine iF (fun q1=> ?_) (fun q1=> ?_)
 ·have hki:=hfi.keys i (by omega)
  have hcn:(wP s.o i:Int)=(iG s.o.dvs i).hi-(iG s.o.dvs i).lo+1:=by unfold wP;omega
  have hpre:sU s.o i 0=(List.range i).flatMap (qZ s.o):=by unfold sU;simp
  have hlen:=fun k=>b8O hfi (i:=i) (k:=k) (by omega)
  simp(disch:=omega) only[↓RA,RZ,simprocAttr,hn,g21,g23,(hS4.sl hs.o.2.2.1).idx,(hS4.sl hs.o.2.2.1).ae,Dvn.cells,q1]
  refine hS4.eNew 5 [(.string ⟨#[]⟩),(.bool false),I 0,I 0,(.slice none 0 0)] rfl rfl rfl rF fun A2 H4 hS5=> ?_
  simp only[RT]at hS5
  simp(disch:=omega) only[↓RA,RZ,simprocAttr,hn,q1]
  refine hS5.aa 3 rfl [(.string (iG s.o.dvs i).name),(.bool (iG s.o.dvs i).pedal),I (iG s.o.dvs i).lo,I (iG s.o.dvs i).hi,(iG s.o.dvs i).sv] rfl (by simp[OC,(hS5.sl (hs.o.2.2.2.1 (iG s.o.dvs i) (iM (by omega))).1).cells.2.1]) rF (by simp) fun H5 hS6=> ?_
  simp only[RT]at hS6
  simp(disch:=omega) only[↓RA,RZ,simprocAttr,hn,hS6.ld 3 rfl,q1]
  refine Wp.aj (fun n l H'=>l.length=138∧get l 1=(ptr A1 0 10)∧get l 2=(.map none)∧get l 3=(.map (some M1))∧get l 5=I i∧get l 6=(ptr A2 0 5)∧get l 21=s.o.dv∧get l 22=I s.o.dvs.length∧get l 23=I i∧∃(k:Nat)(kvt:List (Ct×Int))(ow:Value),(n+k=wP s.o i∧MapD kvt (rC s (sU s.o i k)))∧get l 7=I ((iG s.o.dvs i).lo+k)∧get l 4=ow∧St prog H H' [⟨ptr A1 0 10,0,[(.string s.o.name),s.o.rv,s.o.dv,s.o.cv,s.sv,(.int .u64 s.rg.cpl),(.int .u64 s.rg.off),s.kv,I s.p.1,I s.p.2]⟩,⟨.map (some M1),0,KN kvt⟩,⟨ow,2,pr ((rC s (sU s.o i k)).map (·.1))⟩,⟨ptr A2 0 5,0,[(.string (iG s.o.dvs i).name),(.bool (iG s.o.dvs i).pedal),I (iG s.o.dvs i).lo,I (iG s.o.dvs i).hi,(iG s.o.dvs i).sv]⟩]) (wP s.o i) ?_ ?_
  ·simp(disch:=omega) only[RB,RC,simprocAttr,hn,g1,g2,g3,g21,g22,g23,g4]
   refine⟨0,kvs,ov,⟨by omega,by rw[hpre];exact hmd⟩,by simp,rfl,?_⟩
   rw[hpre]
   exact hS6
  rintro n l H6⟨hn,g1,g2,g3,g5,g6,g21,g22,g23,k,kvt,ow,⟨hk,hmd2⟩,g7,g4,hS7⟩
  simp(disch:=omega) only[↓RA,RZ,simprocAttr,hn,g6,g7,hS7.ld 3 rfl]
  refine iF (fun q2=> ?_) (fun q2=> ?_)
  ·have hl:=hlen k (by omega)
   have hcx:mB s.o ((i:Int),(iG s.o.dvs i).lo+(k:Int))=true:=by
    rw[kU]
    simp only[eh]
    omega
   have hfs:sU s.o i (k+1)=sU s.o i k++[((i:Int),(iG s.o.dvs i).lo+(k:Int))]:=b1B s.o i k
   simp(disch:=omega) only[↓RA,RZ,simprocAttr,hn,g5,g7,xN,q2]
   refine hS7.eNew 2 [I 0,I 0] rfl rfl rfl lG fun A3 H7 hS8=> ?_
   simp only[RT]at hS8
   simp(disch:=omega) only[↓RA,RZ,simprocAttr,hn,q2]
   refine hS8.aa 4 rfl [I i,I ((iG s.o.dvs i).lo+k)] rfl rfl lG (by simp) fun H8 hS9=> ?_
   simp only[RT]at hS9
   simp(disch:=omega) only[↓RA,RZ,simprocAttr,hn,g1,hS9.ae 0 rfl,hS9.ae 4 rfl,q2]
   refine iR ((uO s (hs.ag hS9) hf ((i:Int),(iG s.o.dvs i).lo+(k:Int)) (wB hcx)).tr) ?_
   rintro r H9⟨-,hT1⟩
   have hS10:=hS9.trans hT1
   simp only[RT]at hS10
   obtain⟨sw,rfl⟩:∃w,w=r:=⟨r,rfl⟩
   simp(disch:=omega) only[↓RA,RZ,simprocAttr,hn,(hS10.az 5 rfl (fun _=>rfl)).len,q2]
   refine iF (fun q3=> ?_) (fun q3=> ?_)
   ·have hne:lK s ((i:Int),(iG s.o.dvs i).lo+(k:Int))≠[]:=by
     intro e
     rw[e]at q3
     simp at q3
    have hnm:((i:Int),(iG s.o.dvs i).lo+(k:Int))∉(rC s (sU s.o i k)).map (·.1):=by
     rw[a6J]
     intro h
     exact b4s (fG.1 h).1
    have hroom:(pr ((rC s (sU s.o i k)).map (·.1))).length≤2048:=by
     rw[iO,a6J]
     have:=fc (fun c=>decide (lK s c≠[])) (sU s.o i k)
     omega
    simp(disch:=omega) only[↓RA,RZ,simprocAttr,hn,g3,hS10.ae 4 rfl,q2,q3]
    refine hS10.cu (k:=((i:Int),(iG s.o.dvs i).lo+(k:Int))) 1 rfl uT fun H10 hS11=> ?_
    simp only[RT]at hS11
    simp(disch:=omega) only[↓RA,RZ,simprocAttr,hn,g4,hS11.ae 4 rfl,q2,q3]
    refine hS11.ak [I i,I ((iG s.o.dvs i).lo+k)] tH a7u rfl rfl (by simp[Value.cells]) rfl rfl (by decide) (by decide) fun w1 H11 hS12=> ?_
    simp only[RT]at hS12
    simp(disch:=omega) only[↓RA,RZ,simprocAttr,hn,q2,q3]
    refine hS12.av 2 rfl (hS12.rd 6 rfl) tH (by have h:=hroom;simp only[dT,dZ];omega) fun w2 H12 hS13=> ?_
    simp only[RT]at hS13
    simp(disch:=omega) only[↓RA,RZ,simprocAttr,hn,g1,g2,g3,g5,g6,g21,g22,g23,g7,q2,q3]
    refine⟨n-1,by omega,k+1,a2L kvt ((i:Int),(iG s.o.dvs i).lo+(k:Int)) ((0:Nat):Int),w2,⟨by omega,?_⟩,by congr 1;omega,rfl,?_⟩
    ·rw[hfs,xU,if_pos hne]
     exact hmd2.put hnm
    ·rw[hfs,xU,if_pos hne,dN,lF]
     exact hS13.pick [0,1,2,3] (by decide) rfl
   have hno:lK s ((i:Int),(iG s.o.dvs i).lo+(k:Int))=[]:=by
    apply eS
    intro h
    have:=fg.2 h
    omega
   simp(disch:=omega) only[↓RA,RZ,simprocAttr,hn,g1,g2,g3,g5,g6,g21,g22,g23,g7,g4,q2,q3]
   refine⟨n-1,by omega,k+1,kvt,ow,⟨by omega,?_⟩,by congr 1;omega,rfl,?_⟩
   ·rw[hfs,xU,if_neg (by simp[hno]),dA]
    exact hmd2
   ·rw[hfs,xU,if_neg (by simp[hno]),dA]
    exact hS10.pick [0,1,2,3] (by decide) rfl
  simp(disch:=omega) only[↓RA,RZ,simprocAttr,hn,g1,g2,g3,g21,g22,g23,g4,q2]
  have hkk:k=wP s.o i:=by omega
  refine⟨s.o.dvs.length-(i+1),by omega,i+1,kvt,ow,⟨by omega,?_⟩,by simp,rfl,?_⟩
  ·rw[←a0q,←hkk]
   exact hmd2
  ·rw[←a0q,←hkk]
   exact hS7.pick [0,1,2] (by decide) rfl
 have hii:i=s.o.dvs.length:=by omega
 have hfz:rC s ((List.range i).flatMap (qZ s.o))=rC s (nV s.o):=by rw[hii];rfl
 rw[hfz]at hmd
 rw[hfz]at hS4
 simp(disch:=omega) only[↓RA,RC,simprocAttr,q1]
 refine Wp.aj (fun n l H'=>l.length=138∧get l 1=(ptr A1 0 10)∧get l 2=(.map none)∧get l 3=(.map (some M1))∧∃(h:Nat)(L:List (Ct×Nat))(kvu:List (Ct×Int))(ow:Value),(n+h=1100∧Bf s h L∧a2O s (1100-h) h L=qH s∧h≤L.length∧MapD kvu L)∧get l 4=ow∧St prog H H' [⟨ptr A1 0 10,0,[(.string s.o.name),s.o.rv,s.o.dv,s.o.cv,s.sv,(.int .u64 s.rg.cpl),(.int .u64 s.rg.off),s.kv,I s.p.1,I s.p.2]⟩,⟨.map (some M1),0,KN kvu⟩,⟨ow,2,pr ((L.map (·.1)).drop h)⟩]) 1100 ?_ ?_
 ·simp(disch:=omega) only[RB,RC,simprocAttr,hn,g1,g2,g3,g4]
  exact⟨0,rC s (nV s.o),kvs,ov,⟨by omega,a4Y,rfl,eQ _,hmd⟩,rfl,hS4⟩
 rintro n l H13⟨hn,g1,g2,g3,h,L,kvu,ow,⟨hn1,hB,hR,hle,hM⟩,g4,hS14⟩
 have hlq:((L.map (·.1)).drop h).length=L.length-h:=by simp
 simp(disch:=omega) only[↓RA,RZ,simprocAttr,hn,g4,(hS14.az 2 rfl kI).len]
 refine iF (fun q1=> ?_) (fun q1=> ?_)
 ·have hhl:h<L.length:=by omega
  have hlL:=hB.len hf
  obtain⟨c,hcE⟩:∃c,iG L h=c:=⟨_,rfl⟩
  have hx0:iG ((L.map (·.1)).drop h) 0=c.1:=by
   rw[jV _ _ (by omega),List.getElem_drop,List.getElem_map,←jV _ _ (by omega:h+0<L.length),gM,hcE]
  have hcl:c.2≤h:=by rw[←hcE];exact hB.lt h hhl
  have hdq:(pr ((L.map (·.1)).drop h)).drop (1*2)=pr ((L.map (·.1)).drop (h+1)):=b5l _ _
  simp(disch:=omega) only[↓RA,RZ,simprocAttr,hn,g4,(hS14.az 2 rfl kI).idx,(hS14.az 2 rfl kI).ae,lE,q1,hx0]
  refine hS14.eNew 2 [I 0,I 0] rfl rfl rfl lG fun A4 H14 hS15=> ?_
  simp only[RT]at hS15
  simp(disch:=omega) only[↓RA,RZ,simprocAttr,hn,q1]
  refine hS15.aa 3 rfl [I c.1.1,I c.1.2] rfl rfl lG (by simp) fun H15 hS16=> ?_
  simp only[RT]at hS16
  simp(disch:=omega) only[↓RA,RZ,simprocAttr,hn,g1,g4,(hS16.az 2 rfl kI).aD,q1]
  have hS17:=hS16.suffix (size:=1) 2 rfl (n:=((L.map (·.1)).drop h).length) (by rw[iO]) 1 (by omega) (by omega)
  simp only[RT]at hS17
  rw[hdq]at hS17
  simp(disch:=omega) only[↓RA,RZ,simprocAttr,hn,hS17.ld 0 rfl,(hS17.sl hs.o.2.2.2.2.1).len,q1]
  refine Wp.aj (fun n l H'=>l.length=138∧get l 1=(ptr A1 0 10)∧get l 2=(.map none)∧get l 3=(.map (some M1))∧get l 9=(ptr A4 0 2)∧get l 63=s.o.cv∧get l 64=I s.o.cpls.length∧∃(i:Nat)(kvv:List (Ct×Int))(oz:Value),(n+i=s.o.cpls.length∧MapD kvv (lO s c L i))∧get l 65=I i∧get l 4=oz∧St prog H H' [⟨ptr A1 0 10,0,[(.string s.o.name),s.o.rv,s.o.dv,s.o.cv,s.sv,(.int .u64 s.rg.cpl),(.int .u64 s.rg.off),s.kv,I s.p.1,I s.p.2]⟩,⟨.map (some M1),0,KN kvv⟩,⟨oz,2,pr (((lO s c L i).map (·.1)).drop (h+1))⟩,⟨ptr A4 0 2,0,[I c.1.1,I c.1.2]⟩]) s.o.cpls.length ?_ ?_
  ·simp(disch:=omega) only[RB,RC,simprocAttr,hn,g1,g2,g3]
   exact⟨0,kvu,kS ow 2 1 (((L.map (·.1)).drop h).length-1),⟨by omega,hM⟩,rfl,by rw[show(((((L.map (·.1)).drop h).length:Nat):Int)-1).toNat=((L.map (·.1)).drop h).length-1 from by omega],hS17⟩
  rintro n l H16⟨hn,g1,g2,g3,g9,g63,g64,i,kvv,oz,⟨hi,hmd3⟩,g65,g4,hS18⟩
  simp(disch:=omega) only[↓RA,RB,simprocAttr,hn,g64,g65]
  refine iF (fun q2=> ?_) (fun q2=> ?_)
  ·have hil:i<s.o.cpls.length:=by omega
   have hgB:=Bg.all hf hB hhl i (by omega)
   rw[hcE]at hgB
   have hsu:=a0w s c L i
   obtain⟨a,ha,hal⟩:=c1b hf.o hil
   have hka:=hfi.keys a hal
   have hfr:frm (iG s.o.cpls i) c.1=((a:Int),sZ (c.1.2-(iG s.o.cpls i).shift)):=by unfold frm;rw[ha]
   have hML:=hgB.bf.len hf
   simp(disch:=omega) only[↓RA,RZ,simprocAttr,hn,g63,g65,(hS18.sl hs.o.2.2.2.2.1).idx,(hS18.sl hs.o.2.2.2.2.1).ae,Cpl.cells,q2]
   refine hS18.eNew 5 [(.string ⟨#[]⟩),I 0,I 0,I 0,(.bool false)] rfl rfl rfl a0G fun A5 H17 hS19=> ?_
   simp only[RT]at hS19
   simp(disch:=omega) only[↓RA,RZ,simprocAttr,hn,q2]
   refine hS19.aa 4 rfl [(.string (iG s.o.cpls i).name),I (iG s.o.cpls i).src,I (iG s.o.cpls i).dst,I (iG s.o.cpls i).shift,(.bool (iG s.o.cpls i).thr)] rfl rfl a0G (by simp) fun H18 hS20=> ?_
   simp only[RT]at hS20
   simp(disch:=omega) only[↓RA,RZ,simprocAttr,hn,g9,hS20.ld 4 rfl,hS20.ld 3 rfl,q2]
   refine iF (fun q3=> ?_) (fun q3=> ?_)
   ·have hb0:rA s c.1 i=false:=by unfold rA;rw[decide_eq_false q3];rfl
    simp(disch:=omega) only[↓RA,RZ,simprocAttr,hn,g1,g2,g3,g9,g63,g64,g65,g4,q2,q3]
    refine⟨n-1,by omega,i+1,kvv,oz,⟨by omega,by rw[hsu,pV hb0];exact hmd3⟩,by simp,rfl,?_⟩
    rw[hsu,pV hb0]
    exact hS20.pick [0,1,2,3] (by decide) rfl
   simp(disch:=omega) only[↓RA,RZ,simprocAttr,hn,q2,q3,ha]
   simp(disch:=omega) only[↓RA,RZ,simprocAttr,hn,g9,hS20.ld 4 rfl,hS20.ld 3 rfl,xN,q2,q3,ha]
   refine hS20.eNew 2 [I 0,I 0] rfl rfl rfl lG fun A6 H19 hS21=> ?_
   simp only[RT]at hS21
   simp(disch:=omega) only[↓RA,RZ,simprocAttr,hn,q2,q3,ha]
   refine hS21.aa 5 rfl [I a,_] rfl rfl lG (by simp) fun H20 hS22=> ?_
   simp only[RT]at hS22
   simp(disch:=omega) only[↓RA,RZ,simprocAttr,hn,g1,hS22.ld 0 rfl,hS22.ld 4 rfl,(hS22.sl hs.o.2.2.1).idx,(hS22.sl hs.o.2.2.1).bp,(hS22.sl hs.o.2.2.1).cR 2,Dvn.cells,q2,q3,ha]
   refine hS22.eNew 2 [I 0,I 0] rfl rfl rfl sG fun A7 H21 hS23=> ?_
   simp only[RT]at hS23
   simp(disch:=omega) only[↓RA,RZ,simprocAttr,hn,q2,q3,ha]
   refine hS23.aa 6 rfl [I (iG s.o.dvs a).lo,I (iG s.o.dvs a).hi] rfl rfl sG (by simp) fun H22 hS24=> ?_
   simp only[RT]at hS24
   simp(disch:=omega) only[↓RA,RZ,simprocAttr,hn,hS24.ld 5 rfl,hS24.ld 6 rfl,q2,q3,ha]
   refine iS (fun q4=> ?_) (fun q4=> ?_)
   ·have hb0:rA s c.1 i=false:=a3X (by rw[hfr,fM];intro h;have:=(kU s.o ((a:Int),sZ (c.1.2-(iG s.o.cpls i).shift))).1 h;simp only[eh,sZ]at this;omega)
    simp(disch:=omega) only[↓RA,RZ,simprocAttr,hn,g1,g2,g3,g9,g63,g64,g65,g4,q2,q3,ha,q4]
    refine⟨n-1,by omega,i+1,kvv,oz,⟨by omega,by rw[hsu,pV hb0];exact hmd3⟩,by simp,rfl,?_⟩
    rw[hsu,pV hb0]
    exact hS24.pick [0,1,2,3] (by decide) rfl
   simp(disch:=omega) only[↓RA,RZ,simprocAttr,hn,hS24.ld 5 rfl,hS24.ld 6 rfl,q2,q3,ha,q4]
   refine iF (fun q5=> ?_) (fun q5=> ?_)
   ·have hb0:rA s c.1 i=false:=a3X (by rw[hfr,fM];intro h;have:=(kU s.o ((a:Int),sZ (c.1.2-(iG s.o.cpls i).shift))).1 h;simp only[eh,sZ]at this;omega)
    simp(disch:=omega) only[↓RA,RZ,simprocAttr,hn,g1,g2,g3,g9,g63,g64,g65,g4,q2,q3,ha,q4,q5]
    refine⟨n-1,by omega,i+1,kvv,oz,⟨by omega,by rw[hsu,pV hb0];exact hmd3⟩,by simp,rfl,?_⟩
    rw[hsu,pV hb0]
    exact hS24.pick [0,1,2,3] (by decide) rfl
   have hoy:mB s.o ((a:Int),sZ (c.1.2-(iG s.o.cpls i).shift))=true:=by
    rw[kU]
    simp only[eh,sZ]
    omega
   have hbc:rA s c.1 i=(ldB s i ((a:Int),sZ (c.1.2-(iG s.o.cpls i).shift)) false&&decide (lU s i ((a:Int),sZ (c.1.2-(iG s.o.cpls i).shift))=c.1)):=by
    unfold rA
    rw[hfr,hoy,decide_eq_true (dI.1 q3)]
    simp only[fT]
   have hkn:=hmd3 ((a:Int),sZ (c.1.2-(iG s.o.cpls i).shift))
   have hkc:vL kvv c.1=some ((c.2:Nat):Int):=by
    have hcm:c∈lO s c L i:=by
     have h:=iM hgB.hh
     rw[hgB.hc]at h
     exact h
    rw[hmd3 c.1,(yR hgB.bf.nd).2 (show(c.1,c.2)∈lO s c L i from hcm)]
    rfl
   simp(disch:=omega) only[↓RA,RZ,simprocAttr,hn,g1,hS24.ae 0 rfl,hS24.ae 5 rfl,q2,q3,ha,q4,q5]
   refine hS24.cF (rR s (hs.ag hS24) hf i ((a:Int),sZ (c.1.2-(iG s.o.cpls i).shift)) false) fun H23 hS25=> ?_
   simp(disch:=omega) only[↓RA,RZ,simprocAttr,hn,q2,q3,ha,q4,q5]
   refine hS25.eNew 2 [I 0,I 0] rfl rfl rfl lG fun A8 H24 hS26=> ?_
   simp only[RT]at hS26
   simp(disch:=omega) only[↓RA,RZ,simprocAttr,hn,q2,q3,ha,q4,q5]
   refine hS26.aa 7 rfl [I (lU s i ((a:Int),sZ (c.1.2-(iG s.o.cpls i).shift))).1,I (lU s i ((a:Int),sZ (c.1.2-(iG s.o.cpls i).shift))).2] rfl rfl lG (by simp) fun H25 hS27=> ?_
   simp only[RT]at hS27
   simp(disch:=omega) only[↓RA,RZ,simprocAttr,hn,g3,hS27.ae 5 rfl,q2,q3,ha,q4,q5]
   refine hS27.aX (k:=((a:Int),sZ (c.1.2-(iG s.o.cpls i).shift))) 1 rfl uT (fun _=>rfl) ?_
   simp(disch:=omega) only[↓RA,RZ,simprocAttr,hn,q2,q3,ha,q4,q5]
   refine kL (fun q6=> ?_) (fun q6=> ?_)
   ·simp(disch:=omega) only[↓RA,RZ,simprocAttr,hn,g9,hS27.ae 7 rfl,hS27.ae 3 rfl,q2,q3,ha,q4,q5,q6]
    refine jQ (fun q7=> ?_) (fun q7=> ?_)
    ·have q7':lU s i ((a:Int),sZ (c.1.2-(iG s.o.cpls i).shift))=c.1:=gV q7.1 q7.2
     simp(disch:=omega) only[↓RA,RZ,simprocAttr,hn,q2,q3,ha,q4,q5,q6,q7]
     refine jD (fun q8=> ?_) (fun q8=> ?_)
     ·have hnm:((a:Int),sZ (c.1.2-(iG s.o.cpls i).shift))∉(lO s c L i).map (·.1):=by
       rw[←zE]
       cases hd:pL (lO s c L i) ((a:Int),sZ (c.1.2-(iG s.o.cpls i).shift))with
       | none=>rfl
       | some z=>rw[hd]at hkn;rw[hkn]at q8;simp at q8
      have hyes:tN s c (lO s c L i) i=lO s c L i++[(((a:Int),sZ (c.1.2-(iG s.o.cpls i).shift)),c.2+1)]:=by
       unfold tN
       rw[hbc,hfr,q6,decide_eq_true q7',decide_eq_false hnm]
       rfl
      have hput:=hmd3.put (n:=c.2+1) hnm
      have hcast:((c.2+1:Nat):Int)=(c.2:Int)+1:=by omega
      rw[hcast]at hput
      simp(disch:=omega) only[↓RA,RZ,simprocAttr,q2,q3,ha,q4,q5,q6,q7,q8]
      refine Wp.drw kJ (by kernel_rfl) ?_
      simp(disch:=omega) only[↓RA,RZ,simprocAttr,hn,g3,g9,hS27.ae 5 rfl,hS27.ae 3 rfl]
      refine hS27.aX (k:=c.1) 1 rfl uT (fun _=>rfl) ?_
      simp(disch:=omega) only[↓RA,RB,simprocAttr,hn,hkc]
      refine hS27.cu (k:=((a:Int),sZ (c.1.2-(iG s.o.cpls i).shift))) 1 rfl uT fun H26 hS28=> ?_
      simp only[RT]at hS28
      simp(disch:=omega) only[↓RA,RZ,simprocAttr,hn,g4,hS28.ae 5 rfl,hkc]
      refine hS28.ak [I a,_] tH a7u rfl rfl (by simp[Value.cells]) rfl rfl (by decide) (by decide) fun w3 H27 hS29=> ?_
      simp only[RT]at hS29
      simp(disch:=omega) only[↓RA,RZ,simprocAttr,hn,hkc]
      refine hS29.av 2 rfl (hS29.rd 8 rfl) tH (by rw[iO];simp;omega) fun w4 H28 hS30=> ?_
      simp only[RT]at hS30
      simp(disch:=omega) only[↓RA,RZ,simprocAttr,hn,g1,g2,g3,g9,g63,g64,g65,hkc]
      have hwr:IntKind.wrap .i64 ((some (c.2:Int)).getD 0+1)=(c.2:Int)+1:=a0k (a:=(c.2:Int)+1) (by omega) (by omega)
      rw[hwr]at hS30
      refine⟨n-1,by omega,i+1,a2L kvv ((a:Int),sZ (c.1.2-(iG s.o.cpls i).shift)) ((c.2:Int)+1),w4,⟨by omega,by rw[hsu,hyes];exact hput⟩,by simp,rfl,?_⟩
      rw[hsu,hyes,dN,List.drop_append_of_le_length (by rw[dC];have:=hgB.hh;omega),lF]
      exact hS30.pick [0,1,2,3] (by decide) rfl
     have hno:tN s c (lO s c L i) i=lO s c L i:=by
      have hym:((a:Int),sZ (c.1.2-(iG s.o.cpls i).shift))∈(lO s c L i).map (·.1):=by
       apply eS
       intro hne
       rw[zE.2 hne]at hkn
       rw[hkn]at q8
       simp at q8
      unfold tN
      rw[hfr,decide_eq_true hym]
      simp
     simp(disch:=omega) only[↓RA,RZ,simprocAttr,hn,g1,g2,g3,g9,g63,g64,g65,g4,q2,q3,ha,q4,q5,q6,q7,q8]
     refine⟨n-1,by omega,i+1,kvv,oz,⟨by omega,by rw[hsu,hno];exact hmd3⟩,by simp,rfl,?_⟩
     rw[hsu,hno]
     exact hS27.pick [0,1,2,3] (by decide) rfl
    have hno:tN s c (lO s c L i) i=lO s c L i:=pV (by rw[hbc,decide_eq_false (fun e=>q7 ⟨congrArg Prod.fst e,congrArg Prod.snd e⟩)];simp)
    simp(disch:=omega) only[↓RA,RZ,simprocAttr,hn,g1,g2,g3,g9,g63,g64,g65,g4,q2,q3,ha,q4,q5,q6,q7]
    refine⟨n-1,by omega,i+1,kvv,oz,⟨by omega,by rw[hsu,hno];exact hmd3⟩,by simp,rfl,?_⟩
    rw[hsu,hno]
    exact hS27.pick [0,1,2,3] (by decide) rfl
   have hno:tN s c (lO s c L i) i=lO s c L i:=pV (by rw[hbc,show ldB s i ((a:Int),sZ (c.1.2-(iG s.o.cpls i).shift)) false=false from by simpa using q6];rfl)
   simp(disch:=omega) only[↓RA,RZ,simprocAttr,hn,g1,g2,g3,g9,g63,g64,g65,g4,q2,q3,ha,q4,q5,q6]
   refine⟨n-1,by omega,i+1,kvv,oz,⟨by omega,by rw[hsu,hno];exact hmd3⟩,by simp,rfl,?_⟩
   rw[hsu,hno]
   exact hS27.pick [0,1,2,3] (by decide) rfl
  have hil:i=s.o.cpls.length:=by omega
  simp(disch:=omega) only[↓RA,RZ,simprocAttr,hn,g1,g2,g3,g4,q2]
  refine⟨1100-(h+1),by omega,h+1,lO s c L i,kvv,oz,⟨by omega,?_,?_,?_,hmd3⟩,rfl,hS18.pick [0,1,2] (by decide) rfl⟩
  ·rw[hil,←hcE];exact hB.next hf hhl
  ·rw[hil,←hR,show 1100-h=(1100-(h+1))+1 from by omega,a2O,if_pos hhl,hcE]
  ·have:=(Bg.all hf hB hhl i (by omega)).hh
   rw[hcE]at this
   exact this
 have hfin:qH s=L:=by
  rw[←hR]
  cases h2:1100-h with
  | zero=>rfl
  | succ k=>rw[a2O,if_neg (by omega)]
 simp(disch:=omega) only[↓RA,RZ,simprocAttr,hn,g3,c4Y,q1]
 exact⟨M1,kvu,rfl,by rw[hfin];exact hM,hS14.pick [1] (by decide) rfl⟩
end Go.Ds
namespace Go.Ds
open Go
section
variable {P:Program} {H:Heap}
def c4j:List Unit→Code→Code
 | _::us,.seq a b=>.seq a (c4j us b)
 | _,_=>.skip
def c2E:List Unit→Code→Code
 | _::us,.seq _ b=>c2E us b
 | _,c=>c
theorem a7f(I:List Value→Heap→Prop):∀(us:List Unit)(c:Code){l:List Value}{H:Heap}{Q:nA},(∀l H,I l H→SWr P (c2E us c) l H Q)→SWr P (c4j us c) l H (a7K I Q)→SWr P c l H Q:=by
 intro us
 induction us with
 | nil=>
   intro c l H Q hm h
   cases c<;>exact hm _ _ h
 | cons u us ih=>
   intro c l H Q hm h
   cases c with
   | seq a b=>
     refine SWr.mono a ?_ h
     intro e l1 H1 h1
     cases e with
     | normal=>exact ih b hm h1
     | exit i=>exact h1
     | ret=>exact h1
   | _=>exact hm _ _ h
variable {a b c d e f g h:Code} {l:List Value} {Q:nA}
theorem b7H(I:List Value→Heap→Prop)(hm:∀l H,I l H→SW P c l H Q)(hh:SW P (.seq a (.seq b .skip)) l H (a7K I Q)):SW P (.seq a (.seq b c)) l H Q:=a7f I [(),()] _ hm hh
theorem b0l(I:List Value→Heap→Prop)(hm:∀l H,I l H→SW P d l H Q)(hh:SW P (.seq a (.seq b (.seq c .skip))) l H (a7K I Q)):SW P (.seq a (.seq b (.seq c d))) l H Q:=a7f I [(),(),()] _ hm hh
end
end Go.Ds
namespace Go.Ds
open Go.Proofs Go.Proofs.Tryz
variable {H:Heap}
set_option maxRecDepth 10000
set_option maxHeartbeats 1000000
def mO(s:Sn)(i:Nat)(c:Ct)(f:Bool):Option Nat:=if ldB s i c f then pL (qH s) (lU s i c)else none
def oG(s:Sn)(c:Ct):Nat→Option (Nat×Nat)
 | 0=>none
 | n+1=>match mO s n c true,oG s c n with
   | none,b=>b
   | some d,none=>some (d,n)
   | some d,some b=>if d<b.1 then some (d,n)else some b
def c1a(s:Sn)(n:Nat)(c:Ct):Option Nat:=(List.range s.o.cpls.length).find? fun i=>decide (mO s i c false=some n)
def goN(s:Sn):Nat→Ct→List Int×Ct
 | 0,c=>([],c)
 | n+1,c=>match c1a s n c with
   | none=>([],c)
   | some i=>((i:Int)::(goN s n (lU s i c)).1,(goN s n (lU s i c)).2)
def uP(s:Sn)(c:Ct):Option (List Int×Ct):=
 if pL (qH s) c=some 0∧zB s c.1=false then some ([],c)else match oG s c s.o.cpls.length with
  | none=>none
  | some (d,i)=>some ((i:Int)::(goN s d (lU s i c)).1,(goN s d (lU s i c)).2)
def mQ(s:Sn)(c:Ct)(cv:Value):Rn:=match uP s c with
 | none=>⟨(0,0),cv,[],(0,0),0⟩
 | some (l,e)=>⟨c,cv,l,e,iG (lK s e) 0⟩
theorem a3V{s:Sn}(hf:s.Fit){i:Nat}{c:Ct}{f:Bool}{d:Nat}(h:mO s i c f=some d):ldB s i c f=true∧Far s (lU s i c) d:=by
 unfold mO at h
 split at h
 ·rename_i h1;exact⟨h1,(sH hf).1 h⟩
 ·cases h
theorem a1X{s:Sn}{c:Ct}:∀{n:Nat}{d i:Nat},oG s c n=some (d,i)→i<n∧mO s i c true=some d
 | 0,d,i,h=>by unfold oG at h;cases h
 | n+1,d,i,h=>by
   unfold oG at h
   cases h1:mO s n c true with
   | none=>
     rw[h1]at h
     have:=a1X h
     exact⟨by omega,this.2⟩
   | some e=>
     rw[h1]at h
     cases h2:oG s c n with
     | none=>
       rw[h2]at h
       injection h with h
       obtain⟨rfl,rfl⟩:=gL h
       exact⟨by omega,h1⟩
     | some b=>
       rw[h2]at h
       simp only at h
       split at h
       ·injection h with h
        obtain⟨rfl,rfl⟩:=gL h
        exact⟨by omega,h1⟩
       ·injection h with h
        subst h
        have:=a1X h2
        exact⟨by omega,this.2⟩
theorem Far.lt{s:Sn}(hf:s.Fit){c:Ct}{n:Nat}(h:Far s c n):n<1024:=by
 obtain⟨k,b,hk⟩:=a5q hf 1100 0 _ a4Y (by decide)
 have hd:=(yR b.nd).1 ((sH hf).2 h)
 obtain⟨j,hj,e⟩:=ek.1 hd
 have h1:=b.lt j hj
 rw[jV _ _ hj,e]at h1
 have h2:=b.len hf
 simp only at h1
 omega
theorem Far.da{s:Sn}(hf:s.Fit){c:Ct}{n:Nat}(h:Far s c (n+1)):∃i,i<s.o.cpls.length∧mO s i c false=some n:=by
 cases h.1 with
 | succ ho hx hr=>
   obtain⟨i,hi,h1,rfl⟩:=hx
   refine⟨i,hi,?_⟩
   unfold mO
   rw[if_pos h1,sH hf]
   refine⟨hr,fun m hm=> ?_⟩
   have:=h.2 (m+1) (.succ ho ⟨i,hi,h1,rfl⟩ hm)
   omega
theorem b9y{s:Sn}{n:Nat}{c:Ct}{i:Nat}(hi:i<s.o.cpls.length)(h:mO s i c false=some n)(h0:∀q,q<i→mO s q c false≠some n):c1a s n c=some i:=by
 unfold c1a
 rw[List.find?_eq_some_iff_getElem]
 refine⟨by simpa using h,i,by simpa using hi,by simp,fun q hq=> ?_⟩
 simpa using h0 q hq
def uM(b:Option (Nat×Nat))(bb ff:Int):Prop:=match b with
 | none=>ff=-1
 | some (d,i)=>bb=d∧ff=i
theorem a3G{s:Sn}{c:Ct}{j d:Nat}{bb ff:Int}(h:uM (oG s c j) bb ff)(hn:mO s j c true=some d)(hl:ff<0∨(d:Int)<bb):uM (oG s c (j+1)) d j:=by
 unfold oG
 rw[hn]
 cases h2:oG s c j with
 | none=>exact⟨rfl,rfl⟩
 | some b=>
   rw[h2]at h
   obtain⟨b1,b2⟩:=b
   simp only[uM]at h
   simp only
   rw[if_pos (by omega)]
   exact⟨rfl,rfl⟩
theorem a2p{s:Sn}{c:Ct}{j:Nat}{bb ff:Int}(h:uM (oG s c j) bb ff)(hl:∀d,mO s j c true=some d→¬(ff<0∨(d:Int)<bb)):uM (oG s c (j+1)) bb ff:=by
 unfold oG
 cases hn:mO s j c true with
 | none=>exact h
 | some d=>
   have hl:=hl d hn
   cases h2:oG s c j with
   | none=>
     rw[h2]at h
     simp only[uM]at h
     omega
   | some b=>
     rw[h2]at h
     obtain⟨b1,b2⟩:=b
     simp only[uM]at h
     simp only
     rw[if_neg (by omega)]
     exact h
theorem xX{s:Sn}{kvs:List (Ct×Int)}(hD:MapD kvs (qH s)){t:Ct}(h:(vL kvs t).isSome=true):∃d:Nat,pL (qH s) t=some d∧vL kvs t=some (d:Int):=by
 have:=hD t
 cases hd:pL (qH s) t with
 | none=>rw[hd]at this;rw[this]at h;cases h
 | some d=>rw[hd]at this;exact⟨d,rfl,this⟩
theorem a0Y{s:Sn}{kvs:List (Ct×Int)}(hD:MapD kvs (qH s)){t:Ct}(h:(vL kvs t).isSome=false):pL (qH s) t=none:=by
 have:=hD t
 cases hd:pL (qH s) t with
 | none=>rfl
 | some d=>rw[hd]at this;rw[this]at h;cases h
theorem a4C{s:Sn}(hf:s.Fit){i:Nat}{c:Ct}{f:Bool}(h:ldB s i c f=true):mB s.o (lU s i c)=true:=by
 have h5:=yP.1 h
 obtain⟨h6,h7,_⟩:=yL h5.1
 have hc:=Org.bg hf.o (j:=(i:Int).toNat) (by omega)
 rw[lU,if_pos h5.1,kU]
 exact⟨hc.2.1.1,hc.2.1.2,h5.2.2.2.1,h5.2.2.2.2⟩
theorem a7x(s:Sn)(hs:s.In H)(hf:s.Fit)(c:Ct)(hc:mB s.o c=true)(M:Nat)(kvs:List (Ct×Int))(hM:OwnAt prog H ⟨.map (some M),0,KN kvs⟩)(hD:MapD kvs (qH s)):
 Fn prog 54 [s.v,.agg #[I c.1,I c.2],.map (some M)] H fun r H'=>∃cv,r=.tuple #[(mQ s c cv).v,.bool (uP s c).isSome]∧St prog H H' [⟨cv,1,(mQ s c cv).cps.flatMap (one I)⟩]:=by
 have hcl:=hf.aT.clen
 refine .cB func54 rfl (by kernel_rfl) (m:=157) rfl fun l hn g0 g1 g2=> ?_
 refine b0l (fun l H'=>l.length=157∧get l 2=(.map (some M))∧∃(V1 V2 V3 V4:Nat),(¬(pL (qH s) c=some 0∧zB s c.1=false))∧get l 3=(ptr V1 0 10)∧get l 4=(ptr V2 0 2)∧get l 6=(ptr V3 0 6)∧get l 7=(.bool false)∧get l 8=(ptr V4 0 6)∧St prog H H' [⟨ptr V1 0 10,0,[(.string s.o.name),s.o.rv,s.o.dv,s.o.cv,s.sv,(.int .u64 s.rg.cpl),(.int .u64 s.rg.off),s.kv,I s.p.1,I s.p.2]⟩,⟨ptr V2 0 2,0,[I c.1,I c.2]⟩,⟨ptr V3 0 6,0,[I 0,I 0,(.slice none 0 0),I 0,I 0,I 0]⟩,⟨ptr V4 0 6,0,[I c.1,I c.2,(.slice none 0 0),I c.1,I c.2,I 0]⟩]) ?_ ?_
 ·rintro l H1⟨hn,g2,V1,V2,V3,V4,hno,g3,g4,g6,g7,g8,hS1⟩
  have hW:uP s c=match oG s c s.o.cpls.length with|none=>none|some (d,i)=>some ((i:Int)::(goN s d (lU s i c)).1,(goN s d (lU s i c)).2):=by unfold uP;rw[if_neg hno]
  simp(disch:=omega) only[↓RA,RZ,simprocAttr,hn,g3,hS1.ld 0 rfl,(hS1.sl hs.o.2.2.2.2.1).len]
  refine Wp.aj (fun n l H'=>l.length=157∧get l 2=(.map (some M))∧get l 3=(ptr V1 0 10)∧get l 4=(ptr V2 0 2)∧get l 6=(ptr V3 0 6)∧get l 7=(.bool false)∧get l 8=(ptr V4 0 6)∧get l 54=I s.o.cpls.length∧∃(j:Nat)(bb:Int)(ff:Int),(n+j=s.o.cpls.length∧uM (oG s c j) bb ff)∧get l 55=I j∧get l 11=I bb∧get l 12=I ff∧St prog H H' [⟨ptr V1 0 10,0,[(.string s.o.name),s.o.rv,s.o.dv,s.o.cv,s.sv,(.int .u64 s.rg.cpl),(.int .u64 s.rg.off),s.kv,I s.p.1,I s.p.2]⟩,⟨ptr V2 0 2,0,[I c.1,I c.2]⟩,⟨ptr V3 0 6,0,[I 0,I 0,(.slice none 0 0),I 0,I 0,I 0]⟩,⟨ptr V4 0 6,0,[I c.1,I c.2,(.slice none 0 0),I c.1,I c.2,I 0]⟩]) s.o.cpls.length ?_ ?_
  ·simp(disch:=omega) only[RB,RC,simprocAttr,hn,g2,g3,g4,g6,g7,g8]
   exact⟨0,0,-1,⟨by omega,rfl⟩,rfl,rfl,rfl,hS1⟩
  rintro n l H2⟨hn,g2,g3,g4,g6,g7,g8,g54,j,bb,ff,⟨hj,hb⟩,g55,g11,g12,hS2⟩
  simp(disch:=omega) only[↓RA,RB,simprocAttr,hn,g54,g55]
  refine iF (fun q1=> ?_) (fun q1=> ?_)
  ·simp(disch:=omega) only[↓RA,RZ,simprocAttr,hn,g3,g4,g55,hS2.ae 0 rfl,hS2.ae 1 rfl,q1]
   refine hS2.cF (rR s (hs.ag hS2) hf j c true) fun H3 hS3=> ?_
   simp(disch:=omega) only[↓RA,RZ,simprocAttr,hn,q1]
   refine hS3.eNew 2 [I 0,I 0] rfl rfl rfl lG fun A1 H4 hS4=> ?_
   simp only[RT]at hS4
   simp(disch:=omega) only[↓RA,RZ,simprocAttr,hn,q1]
   refine hS4.aa 4 rfl [I (lU s j c).1,I (lU s j c).2] rfl rfl lG (by simp) fun H5 hS5=> ?_
   simp only[RT]at hS5
   simp(disch:=omega) only[↓RA,RZ,simprocAttr,hn,g2,hS5.ae 4 rfl,q1]
   refine(St.aR ((hM.st hS5))).aX (k:=lU s j c) 0 rfl uT (fun _=>rfl) ?_
   simp(disch:=omega) only[↓RA,RZ,simprocAttr,hn,q1]
   refine kL (fun q2=> ?_) (fun q2=> ?_)
   ·simp(disch:=omega) only[↓RA,RZ,simprocAttr,hn,q1,q2]
    refine kL (fun q3=> ?_) (fun q3=> ?_)
    ·obtain⟨d,hd1,hd2⟩:=xX hD q3
     have hnr:mO s j c true=some d:=by unfold mO;rw[if_pos q2,hd1]
     have hs1:(some (d:Int)).isSome=true:=rfl
     have hs2:(some (d:Int)).getD 0=d:=rfl
     simp(disch:=omega) only[↓RA,RZ,simprocAttr,hn,g12,q1,q2,hd2,hs1,hs2]
     refine iS (fun q4=> ?_) (fun q4=> ?_)
     ·simp(disch:=omega) only[↓RA,RZ,simprocAttr,hn,g2,g3,g4,g6,g7,g8,g54,g55,q1,q2,hd2,hs1,hs2,q4]
      exact⟨n-1,by omega,j+1,(d:Int),(j:Int),⟨by omega,a3G hb hnr (.inl q4)⟩,by simp,rfl,rfl,hS5.pick [0,1,2,3] (by decide) rfl⟩
     simp(disch:=omega) only[↓RA,RZ,simprocAttr,hn,g11,q1,q2,hd2,hs1,hs2,q4]
     refine iF (fun q5=> ?_) (fun q5=> ?_)
     ·simp(disch:=omega) only[↓RA,RZ,simprocAttr,hn,g2,g3,g4,g6,g7,g8,g54,g55,q1,q2,hd2,hs1,hs2,q4,q5]
      exact⟨n-1,by omega,j+1,(d:Int),(j:Int),⟨by omega,a3G hb hnr (.inr q5)⟩,by simp,rfl,rfl,hS5.pick [0,1,2,3] (by decide) rfl⟩
     simp(disch:=omega) only[↓RA,RZ,simprocAttr,hn,g2,g3,g4,g6,g7,g8,g54,g55,g11,g12,q1,q2,hd2,hs1,hs2,q4,q5]
     exact⟨n-1,by omega,j+1,bb,ff,⟨by omega,a2p hb fun e he=>by rw[hnr]at he;cases he;rintro(h|h);(· exact q4 h);(· exact q5 h)⟩,by simp,rfl,rfl,hS5.pick [0,1,2,3] (by decide) rfl⟩
    have hd0:=a0Y hD (t:=lU s j c) (by simpa using q3)
    simp(disch:=omega) only[↓RA,RZ,simprocAttr,hn,g2,g3,g4,g6,g7,g8,g54,g55,g11,g12,q1,q2,q3]
    exact⟨n-1,by omega,j+1,bb,ff,⟨by omega,a2p hb fun e he=>by unfold mO at he;rw[if_pos q2,hd0]at he;cases he⟩,by simp,rfl,rfl,hS5.pick [0,1,2,3] (by decide) rfl⟩
   simp(disch:=omega) only[↓RA,RZ,simprocAttr,hn,g2,g3,g4,g6,g7,g8,g54,g55,g11,g12,q1,q2]
   exact⟨n-1,by omega,j+1,bb,ff,⟨by omega,a2p hb fun e he=>by unfold mO at he;rw[if_neg (by simpa using q2)]at he;cases he⟩,by simp,rfl,rfl,hS5.pick [0,1,2,3] (by decide) rfl⟩
  have hjj:j=s.o.cpls.length:=by omega
  rw[hjj]at hb
  simp(disch:=omega) only[↓RA,RZ,simprocAttr,hn,g12,q1]
  refine iF (fun q6=> ?_) (fun q6=> ?_)
  ·have hW0:uP s c=none:=by
    rw[hW]
    cases h2:oG s c s.o.cpls.length with
    | none=>rfl
    | some b=>obtain⟨b1,b2⟩:=b;rw[h2]at hb;simp only[uM]at hb;omega
   simp(disch:=omega) only[↓RA,RZ,simprocAttr,hn,g6,c0B,q1,q6]
   refine hS2.aa 2 rfl [I 0,I 0,(.slice none 0 0),I 0,I 0,I 0] rfl rfl nP (by simp) fun H6 hS6=> ?_
   simp only[RT]at hS6
   simp(disch:=omega) only[↓RA,RZ,simprocAttr,hn,g6,c2q,hS6.ae 2 rfl,q1,q6]
   refine⟨.slice none 0 0,by unfold mQ;rw[hW0];rfl,?_⟩
   unfold mQ
   rw[hW0]
   exact(hS6.forget).nil 0
  obtain⟨d,i,h2,rfl,rfl⟩:∃d i:Nat,oG s c s.o.cpls.length=some (d,i)∧bb=d∧ff=i:=by
   cases h2:oG s c s.o.cpls.length with
   | none=>rw[h2]at hb;simp only[uM]at hb;omega
   | some b=>obtain⟨b1,b2⟩:=b;rw[h2]at hb;simp only[uM]at hb;exact⟨b1,b2,rfl,hb.1,hb.2⟩
  obtain⟨hil,hni⟩:=a1X h2
  obtain⟨hld,hfar⟩:=a3V hf hni
  have hW1:uP s c=some ((i:Int)::(goN s d (lU s i c)).1,(goN s d (lU s i c)).2):=by rw[hW,h2]
  simp(disch:=omega) only[↓RA,RZ,simprocAttr,hn,g12,q1,q6]
  refine hS2.ak [I i] pZ wS rfl rfl (by simp[Value.cells]) rfl rfl (by decide) (by decide) fun w1 H7 hS7=> ?_
  simp only[RT]at hS7
  simp(disch:=omega) only[↓RA,RZ,simprocAttr,hn,g8,q1,q6]
  refine hS7.aa 3 rfl [w1] (by rw[(hS7.rd 4 rfl).cells.1]) (by simp[(hS7.rd 4 rfl).cells.2.1]) b4P (by simp) fun H8 hS8=> ?_
  simp only[RT]at hS8
  simp(disch:=omega) only[↓RA,RZ,simprocAttr,hn,g3,g4,g12,hS8.ae 0 rfl,hS8.ae 1 rfl,q1,q6]
  refine hS8.cF (rR s (hs.ag hS8) hf i c true) fun H9 hS9=> ?_
  simp(disch:=omega) only[↓RA,RZ,simprocAttr,hn,g8,q1,q6]
  refine hS9.aa 3 rfl [I (lU s i c).1,I (lU s i c).2] rfl rfl lG (by simp) fun H10 hS10=> ?_
  simp only[RT]at hS10
  simp(disch:=omega) only[↓RA,RZ,simprocAttr,q1,q6]
  refine Wp.aj (fun n l H'=>l.length=157∧get l 2=(.map (some M))∧get l 3=(ptr V1 0 10)∧get l 6=(ptr V3 0 6)∧get l 7=(.bool false)∧get l 8=(ptr V4 0 6)∧∃(a:Ct)(pre:List Int)(cv:Value),(Far s a n∧pre.length+n=d∧goN s d (lU s i c)=(pre++(goN s n a).1,(goN s n a).2))∧St prog H H' [⟨ptr V1 0 10,0,[(.string s.o.name),s.o.rv,s.o.dv,s.o.cv,s.sv,(.int .u64 s.rg.cpl),(.int .u64 s.rg.off),s.kv,I s.p.1,I s.p.2]⟩,⟨ptr V2 0 2,0,[I c.1,I c.2]⟩,⟨ptr V3 0 6,0,[I 0,I 0,(.slice none 0 0),I 0,I 0,I 0]⟩,⟨ptr V4 0 6,0,[I c.1,I c.2,cv,I a.1,I a.2,I 0]⟩,⟨cv,1,((i:Int)::pre).flatMap (one I)⟩]) d ?_ ?_
  ·simp(disch:=omega) only[RB,RC,simprocAttr,hn,g2,g3,g6,g7,g8]
   exact⟨lU s i c,[],w1,⟨hfar,by simp,by simp⟩,hS10⟩
  rintro n l H11⟨hn,g2,g3,g6,g7,g8,a,pre,cv,⟨ha1,ha2,ha3⟩,hS11⟩
  have hdl:=hfar.lt hf
  have hka:vL kvs a=some ((n:Nat):Int):=by rw[hD a,(sH hf).2 ha1];rfl
  simp(disch:=omega) only[↓RA,RZ,simprocAttr,hn,g2,g8,hS11.ae 3 rfl]
  refine(St.aR ((hM.st hS11))).aX (k:=a) 0 rfl uT (fun _=>rfl) ?_
  simp(disch:=omega) only[↓RA,RB,simprocAttr,hn,hka,dO]
  refine iF (fun q7=> ?_) (fun q7=> ?_)
  ·obtain⟨m,rfl⟩:∃m,n=m+1:=⟨n-1,by omega⟩
   have hao:=ha1.1.ok
   simp(disch:=omega) only[↓RA,RZ,simprocAttr,hn,g3,hS11.ld 0 rfl,(hS11.sl hs.o.2.2.2.2.1).len,hka,dO,q7]
   refine Wp.aj (fun n l H'=>l.length=157∧get l 2=(.map (some M))∧get l 3=(ptr V1 0 10)∧get l 6=(ptr V3 0 6)∧get l 7=(.bool false)∧get l 8=(ptr V4 0 6)∧get l 109=I s.o.cpls.length∧∃(j:Nat),(n+j=s.o.cpls.length∧∀q,q<j→mO s q a false≠some m)∧get l 110=I j∧St prog H H' [⟨ptr V1 0 10,0,[(.string s.o.name),s.o.rv,s.o.dv,s.o.cv,s.sv,(.int .u64 s.rg.cpl),(.int .u64 s.rg.off),s.kv,I s.p.1,I s.p.2]⟩,⟨ptr V2 0 2,0,[I c.1,I c.2]⟩,⟨ptr V3 0 6,0,[I 0,I 0,(.slice none 0 0),I 0,I 0,I 0]⟩,⟨ptr V4 0 6,0,[I c.1,I c.2,cv,I a.1,I a.2,I 0]⟩,⟨cv,1,((i:Int)::pre).flatMap (one I)⟩]) s.o.cpls.length ?_ ?_
   ·simp(disch:=omega) only[RB,RC,simprocAttr,hn,g2,g3,g6,g7,g8]
    exact⟨0,⟨by omega,fun q hq=>absurd hq (dX _)⟩,rfl,hS11⟩
   rintro n l H12⟨hn,g2,g3,g6,g7,g8,g109,j,⟨hj,hz⟩,g110,hS12⟩
   simp(disch:=omega) only[↓RA,RB,simprocAttr,hn,g109,g110]
   refine iF (fun q8=> ?_) (fun q8=> ?_)
   ·have hwm:IntKind.wrap .i64 (((m+1:Nat):Int)-1)=(m:Int):=by
     rw[show(((m+1:Nat):Int)-1)=(m:Int)from by omega]
     exact a0k (a:=(m:Int)) (by omega) (by omega)
    simp(disch:=omega) only[↓RA,RZ,simprocAttr,hn,g3,g8,g110,hS12.ae 0 rfl,hS12.ae 3 rfl,q8]
    refine hS12.cF (rR s (hs.ag hS12) hf j a false) fun H13 hS13=> ?_
    simp(disch:=omega) only[↓RA,RZ,simprocAttr,hn,q8]
    refine hS13.eNew 2 [I 0,I 0] rfl rfl rfl lG fun A2 H14 hS14=> ?_
    simp only[RT]at hS14
    simp(disch:=omega) only[↓RA,RZ,simprocAttr,hn,q8]
    refine hS14.aa 5 rfl [I (lU s j a).1,I (lU s j a).2] rfl rfl lG (by simp) fun H15 hS15=> ?_
    simp only[RT]at hS15
    simp(disch:=omega) only[↓RA,RZ,simprocAttr,hn,g2,hS15.ae 5 rfl,q8]
    refine(St.aR ((hM.st hS15))).aX (k:=lU s j a) 0 rfl uT (fun _=>rfl) ?_
    simp(disch:=omega) only[↓RA,RZ,simprocAttr,hn,q8]
    refine kL (fun q9=> ?_) (fun q9=> ?_)
    ·simp(disch:=omega) only[↓RA,RZ,simprocAttr,hn,q8,q9]
     refine kL (fun q10=> ?_) (fun q10=> ?_)
     ·obtain⟨e,he1,he2⟩:=xX hD q10
      have hnr:mO s j a false=some e:=by unfold mO;rw[if_pos q9,he1]
      have hs1:(some (e:Int)).isSome=true:=rfl
      simp(disch:=omega) only[↓RA,RZ,simprocAttr,hn,g2,g8,hS15.ae 3 rfl,q8,q9,he2,hs1,dO]
      refine(St.aR ((hM.st hS15))).aX (k:=a) 0 rfl uT (fun _=>rfl) ?_
      simp(disch:=omega) only[↓RA,RZ,simprocAttr,hn,q8,q9,he2,hs1,dO,hka,hwm]
      refine iF (fun q11=> ?_) (fun q11=> ?_)
      ·have hem:e=m:=by omega
       rw[hem]at hnr
       have hhop:=b9y (by omega) hnr hz
       simp(disch:=omega) only[↓RA,RZ,simprocAttr,hn,g8,hS15.ld 3 rfl,q8,q9,he2,dO,hka,q11]
       refine hS15.ak [I j] pZ wS rfl rfl (by simp[Value.cells]) rfl rfl (by decide) (by decide) fun w2 H16 hS16=> ?_
       simp only[RT]at hS16
       simp(disch:=omega) only[↓RA,RZ,simprocAttr,hn,q8,q9,he2,dO,hka,q11]
       refine hS16.av 4 rfl (hS16.rd 6 rfl) pZ (by rw[lN,dC];simp;omega) fun w3 H17 hS17=> ?_
       simp only[RT]at hS17
       simp(disch:=omega) only[↓RA,RZ,simprocAttr,hn,g8,q8,q9,he2,dO,hka,q11]
       refine hS17.aa 3 rfl [w3] (by rw[(hS17.rd 4 rfl).cells.1]) (by simp[(hS17.rd 4 rfl).cells.2.1]) b4P (by simp) fun H18 hS18=> ?_
       simp only[RT]at hS18
       simp(disch:=omega) only[↓RA,RZ,simprocAttr,hn,g8,hS18.ae 5 rfl,q8,q9,he2,dO,hka,q11]
       refine hS18.aa 3 rfl [I (lU s j a).1,I (lU s j a).2] rfl rfl lG (by simp) fun H19 hS19=> ?_
       simp only[RT]at hS19
       simp(disch:=omega) only[↓RA,RZ,simprocAttr,hn,g2,g3,g6,g7,g8,q8,q9,he2,dO,hka,q11]
       refine⟨m,by omega,lU s j a,pre++[(j:Int)],w3,⟨(a3V hf hnr).2,by simp;omega,?_⟩,?_⟩
       ·rw[ha3,goN,hhop]
        simp
       ·rw[←fJ,dD]
        exact hS19.pick [0,1,2,3,4] (by decide) rfl
      have hno:mO s j a false≠some m:=fun h=>by rw[hnr]at h;cases h;exact q11 rfl
      simp(disch:=omega) only[↓RA,RZ,simprocAttr,hn,g2,g3,g6,g7,g8,g109,g110,q8,q9,he2,hs1,dO,hka,q11]
      exact⟨n-1,by omega,j+1,⟨by omega,fun q hq=>by rcases dw.1 hq with e|e;(· exact hz q e);(· rw[e];exact hno)⟩,by simp,hS15.pick [0,1,2,3,4] (by decide) rfl⟩
     have hno:mO s j a false≠some m:=fun h=>by unfold mO at h;rw[if_pos q9,a0Y hD (by simpa using q10)]at h;cases h
     simp(disch:=omega) only[↓RA,RZ,simprocAttr,hn,g2,g3,g6,g7,g8,g109,g110,q8,q9,q10]
     exact⟨n-1,by omega,j+1,⟨by omega,fun q hq=>by rcases dw.1 hq with e|e;(· exact hz q e);(· rw[e];exact hno)⟩,by simp,hS15.pick [0,1,2,3,4] (by decide) rfl⟩
    have hno:mO s j a false≠some m:=fun h=>by unfold mO at h;rw[if_neg (by simpa using q9)]at h;cases h
    simp(disch:=omega) only[↓RA,RZ,simprocAttr,hn,g2,g3,g6,g7,g8,g109,g110,q8,q9]
    exact⟨n-1,by omega,j+1,⟨by omega,fun q hq=>by rcases dw.1 hq with e|e;(· exact hz q e);(· rw[e];exact hno)⟩,by simp,hS15.pick [0,1,2,3,4] (by decide) rfl⟩
   obtain⟨q,hq1,hq2⟩:=ha1.da hf
   exact absurd hq2 (hz q (by omega))
  have hn0:n=0:=by omega
  subst hn0
  have hao:=ha1.1.ok
  have hne:lK s a≠[]:=by
   cases ha1.1 with
   | zero _ h=>exact h
  have hpos:=fg.2 hne
  have hg:goN s d (lU s i c)=(pre,a):=by rw[ha3];simp[goN]
  have hW2:uP s c=some ((i:Int)::pre,a):=by rw[hW1,hg]
  simp(disch:=omega) only[↓RA,RZ,simprocAttr,hn,g3,g8,hS11.ae 0 rfl,hS11.ae 3 rfl,hka,dO]
  refine iR ((uO s (hs.ag hS11) hf a (wB hao)).tr) ?_
  rintro r H20⟨-,hT4⟩
  have hS20:=hS11.trans hT4
  simp only[RT]at hS20
  obtain⟨sw,rfl⟩:∃w,w=r:=⟨r,rfl⟩
  simp(disch:=omega) only[↓RA,RZ,simprocAttr,hn,g8,(hS20.az 5 rfl (fun _=>rfl)).idx,(hS20.az 5 rfl (fun _=>rfl)).ld,one,hka,dO]
  refine hS20.aa 3 rfl [I (iG (lK s a) 0)] rfl rfl tS3 (by simp) fun H21 hS21=> ?_
  simp only[RT]at hS21
  simp(disch:=omega) only[↓RA,RZ,simprocAttr,hn,g6,g8,hS21.ae 3 rfl,hka,dO]
  refine hS21.aa 2 rfl [I c.1,I c.2,cv,I a.1,I a.2,I (iG (lK s a) 0)] rfl (by simp[OC,(hS21.rd 4 rfl).cells.2.1]) nP (by simp) fun H22 hS22=> ?_
  simp only[RT]at hS22
  simp(disch:=omega) only[↓RA,RZ,simprocAttr,hn,g6,c2q,hS22.ae 2 rfl,hka,dO]
  refine⟨cv,by unfold mQ;rw[hW2];rfl,?_⟩
  unfold mQ
  rw[hW2]
  exact hS22.pick [4] (by decide) rfl
 simp(disch:=omega) only[↓RA,RB,simprocAttr,g0]
 refine(sR H).eNew 10 [(.string s.o.name),s.o.rv,s.o.dv,s.o.cv,s.sv,(.int .u64 s.rg.cpl),(.int .u64 s.rg.off),s.kv,I s.p.1,I s.p.2] rfl rfl (by simp[OC,((sR H).sl hs.o.1).cells.2.1,((sR H).sl hs.o.2.2.1).cells.2.1,((sR H).sl hs.o.2.2.2.2.1).cells.2.1,((sR H).sl hs.rg.1).cells.2.1,((sR H).sl hs.ks.sl).cells.2.1]) rQ fun A3 H23 hS23=> ?_
 simp only[RT]at hS23
 simp(disch:=omega) only[↓RA,RB,simprocAttr,g1]
 refine hS23.eNew 2 [I c.1,I c.2] rfl rfl rfl lG fun A4 H24 hS24=> ?_
 simp only[RT]at hS24
 simp(disch:=omega) only[↓RA,RZ,simprocAttr]
 refine hS24.eNew 6 [I 0,I 0,(.slice none 0 0),I 0,I 0,I 0] rfl rfl rfl nP fun A5 H25 hS25=> ?_
 simp only[RT]at hS25
 simp(disch:=omega) only[↓RA,RZ,simprocAttr,hn,hS25.ae 1 rfl,a6l]
 refine hS25.eNew 6 [I 0,I 0,(.slice none 0 0),I 0,I 0,I 0] rfl rfl rfl nP fun A6 H26 hS26=> ?_
 simp only[RT]at hS26
 simp(disch:=omega) only[↓RA,RB,simprocAttr,hn]
 refine hS26.aa 3 rfl [I c.1,I c.2,(.slice none 0 0),I c.1,I c.2,I 0] rfl rfl nP (by simp) fun H27 hS27=> ?_
 simp only[RT]at hS27
 simp(disch:=omega) only[↓RA,RZ,simprocAttr,hn,g2,hS27.ae 1 rfl]
 refine(St.aR ((hM.st hS27))).aX (k:=c) 0 rfl uT (fun _=>rfl) ?_
 simp(disch:=omega) only[↓RA,RZ,simprocAttr,hn]
 refine kL (fun p1=> ?_) (fun p1=> ?_)
 ·obtain⟨d,hd1,hd2⟩:=xX hD p1
  have hs1:(some (d:Int)).isSome=true:=rfl
  have hs2:(some (d:Int)).getD 0=d:=rfl
  simp(disch:=omega) only[↓RA,RZ,simprocAttr,hn,hd2,hs1,hs2]
  refine jQ (fun p2=> ?_) (fun p2=> ?_)
  ·have hd0:d=0:=by omega
   simp(disch:=omega) only[↓RA,RZ,simprocAttr,hn,hS27.ae 0 rfl,hS27.ld 1 rfl,hd2,p2]
   refine hS27.cF (a4M s (hs.ag hS27) c.1 (wB hc).1) fun H28 hS28=> ?_
   simp(disch:=omega) only[↓RA,RZ,simprocAttr,hn,hd2,p2]
   refine jD (fun p3=> ?_) (fun p3=> ?_)
   ·have hyes:pL (qH s) c=some 0∧zB s c.1=false:=⟨by rw[hd1,hd0],by simpa using p3⟩
    have hW:uP s c=some ([],c):=by unfold uP;rw[if_pos hyes]
    have hne:lK s c≠[]:=by
     cases ((sH hf).1 hyes.1).1 with
     | zero _ h=>exact h
    have hpos:=fg.2 hne
    simp(disch:=omega) only[↓RA,RZ,simprocAttr,hn,hS28.ae 0 rfl,hS28.ae 1 rfl,hd2,p2,p3]
    refine iR ((uO s (hs.ag hS28) hf c (wB hc)).tr) ?_
    rintro r H29⟨-,hT6⟩
    have hS29:=hS28.trans hT6
    simp only[RT]at hS29
    obtain⟨sw,rfl⟩:∃w,w=r:=⟨r,rfl⟩
    simp(disch:=omega) only[↓RA,RZ,simprocAttr,hn,(hS29.az 4 rfl (fun _=>rfl)).idx,(hS29.az 4 rfl (fun _=>rfl)).ld,one,hd2,p2,p3]
    refine hS29.aa 3 rfl [I (iG (lK s c) 0)] rfl rfl tS3 (by simp) fun H30 hS30=> ?_
    simp only[RT]at hS30
    simp(disch:=omega) only[↓RA,RZ,simprocAttr,hn,hS30.ae 3 rfl,hd2,p2,p3]
    refine hS30.aa 2 rfl [I c.1,I c.2,(.slice none 0 0),I c.1,I c.2,I (iG (lK s c) 0)] rfl rfl nP (by simp) fun H31 hS31=> ?_
    simp only[RT]at hS31
    simp(disch:=omega) only[↓RA,RZ,simprocAttr,hn,c2q,hS31.ae 2 rfl,b4x,hd2,p2,p3]
    refine⟨.slice none 0 0,by unfold mQ;rw[hW];rfl,?_⟩
    unfold mQ
    rw[hW]
    exact(hS31.forget).nil 0
   simp(disch:=omega) only[↓RA,RZ,simprocAttr,hn,g2,lC,hd2,p2,p3]
   exact⟨_,_,_,_,(by rintro⟨_,h⟩;rw[h]at p3;simp at p3),rfl,rfl,rfl,rfl,hS28⟩
  simp(disch:=omega) only[↓RA,RZ,simprocAttr,hn,g2,lC,hd2,hs1,hs2,p2]
  exact⟨_,_,_,_,(by rintro⟨h,_⟩;rw[hd1]at h;cases h;simp at p2),rfl,rfl,rfl,rfl,hS27⟩
 simp(disch:=omega) only[↓RA,RZ,simprocAttr,hn,g2,lC,p1]
 exact⟨_,_,_,_,(by rintro⟨h,_⟩;rw[a0Y hD (by simpa using p1)]at h;cases h),rfl,rfl,rfl,rfl,hS27⟩
end Go.Ds
namespace Go.Ds
open Go.Proofs
set_option maxRecDepth 10000
structure Rp where
 pl:Ct
 cps:List Int
 tc:Ct
 stop:Int
 deriving Inhabited,DecidableEq
def mF(s:Sn)(pl:Ct)(cps:List Int)(a:Ct):List Rp:=if cps≠[]∨zB s pl.1=false then(lK s a).map fun i=>⟨pl,cps,a,i⟩else[]
def onB(s:Sn)(cps:List Int)(a:Ct)(seen:List Ct)(i:Nat):Bool:=ldB s i a (decide (cps.length=0))&& !decide (lU s i a∈seen)
def full(s:Sn):Nat→Ct→List Int→Ct→List Ct→List Rp
 | 0,pl,cps,a,_=>mF s pl cps a
 | n+1,pl,cps,a,seen=>mF s pl cps a++(List.range s.o.cpls.length).flatMap fun i=>if onB s cps a seen i then full s n pl (cps++[(i:Int)]) (lU s i a) (seen++[lU s i a])else[]
theorem b5a{s:Sn}(hf:s.Fit):∀(n:Nat){pl:Ct}{cps:List Int}{a:Ct}{seen:List Ct},mB s.o a=true→cps≠[]→pL (qH s) a=none→full s n pl cps a seen=[]:=by
 have hz:∀a,mB s.o a=true→pL (qH s) a=none→lK s a=[]:=fun a ho h=>by
  apply eS
  intro hne
  obtain⟨m,hm,_⟩:=(a4g hf).2.2.1 0 a (.zero ho hne)
  rw[h]at hm
  cases hm
 intro n
 induction n with
 | zero=>
   intro pl cps a seen ho hc h
   unfold full mF
   rw[hz a ho h]
   simp
 | succ n ih=>
   intro pl cps a seen ho hc h
   unfold full
   have h1:mF s pl cps a=[]:=by unfold mF;rw[hz a ho h];simp
   rw[h1,fF,List.flatMap_eq_nil_iff]
   intro i hi
   split
   ·rename_i hb
    unfold onB at hb
    rw[de]at hb
    have hl:ldB s i a false=true:=by
     have:=hb.1
     rw[decide_eq_false (by intro e;exact hc (ed.1 e))]at this
     exact this
    refine ih (a4C hf hl) (by simp) ?_
    cases hd:pL (qH s) (lU s i a)with
    | none=>rfl
    | some m=>
      have hr:=((sH hf).1 hd).1
      obtain⟨m2,hm2,_⟩:=(a4g hf).2.2.1 (m+1) a (.succ ho ⟨i,dG.1 hi,hl,rfl⟩ hr)
      rw[h]at hm2
      cases hm2
   ·rfl
def rT(s:Sn)(cps:List Int)(a:Ct)(seen:List Ct)(i:Nat):Bool:=onB s cps a seen i&&(pL (qH s) (lU s i a)).isSome
def a0L(s:Sn):Nat→Ct→List Int→Ct→List Ct→List Rp×Bool→List Rp×Bool
 | 0,pl,cps,a,_,q=>(q.1++mF s pl cps a,q.2||decide (500<(q.1++mF s pl cps a).length))
 | n+1,pl,cps,a,seen,q=>(List.range s.o.cpls.length).foldl (fun q i=>if q.2 then q else if rT s cps a seen i then a0L s n pl (cps++[(i:Int)]) (lU s i a) (seen++[lU s i a]) q else q) (q.1++mF s pl cps a,q.2||decide (500<(q.1++mF s pl cps a).length))
def Met(l:List Rp)(q:List Rp×Bool):Prop:=(q.2=false→q.1=l∧l.length≤500)∧(q.2=true→500<l.length)
theorem Met.more{l m:List Rp}{q:List Rp×Bool}(h:Met l q)(hq:q.2=true):Met (l++m) q:=⟨fun h2=>(by rw[hq]at h2;cases h2),fun _=>by have:=h.2 hq;rw[du];omega⟩
theorem Met.node{l m:List Rp}{q:List Rp×Bool}(h:Met l q):Met (l++m) (q.1++m,q.2||decide (500<(q.1++m).length)):=by
 cases hq:q.2 with
 | true=>exact⟨fun h2=>by simp at h2,fun _=>by have:=h.2 hq;rw[du];omega⟩
 | false=>
   obtain⟨h1,h2⟩:=h.1 hq
   rw[h1]
   exact⟨fun h3=>⟨rfl,by simpa using h3⟩,fun h3=>by simpa using h3⟩
theorem b3U{s:Sn}(hf:s.Fit):∀(n:Nat){pl:Ct}{cps:List Int}{a:Ct}{seen:List Ct}{l:List Rp}{q:List Rp×Bool},mB s.o a=true→Met l q→Met (l++full s n pl cps a seen) (a0L s n pl cps a seen q):=by
 intro n
 induction n with
 | zero=>
   intro pl cps a seen l q _ h
   unfold full a0L
   exact h.node
 | succ n ih=>
   intro pl cps a seen l q ho h
   unfold full a0L
   rw[←ee]
   have h0:=h.node (m:=mF s pl cps a)
   generalize l++mF s pl cps a=l1 at h0
   generalize (q.1++mF s pl cps a,q.2||decide (500<(q.1++mF s pl cps a).length))=q1 at h0
   have key:∀k,Met (l1++(List.range k).flatMap fun i=>if onB s cps a seen i then full s n pl (cps++[(i:Int)]) (lU s i a) (seen++[lU s i a])else[]) ((List.range k).foldl (fun q i=>if q.2 then q else if rT s cps a seen i then a0L s n pl (cps++[(i:Int)]) (lU s i a) (seen++[lU s i a]) q else q) q1):=by
    intro k
    induction k with
    | zero=>simpa using h0
    | succ k ihk=>
      rw[eN,dD,gr,←ee]
      simp only[dL,eU,dA,fE,List.foldl_nil]
      generalize (List.range k).foldl _ q1=q2 at ihk
      generalize l1++(List.range k).flatMap _=l2 at ihk
      by_cases hm:q2.2=true
      ·rw[if_pos hm]
       exact ihk.more hm
      ·rw[if_neg hm]
       by_cases hb:onB s cps a seen k=true
       ·have hl:ldB s k a (decide (cps.length=0))=true:=by
         unfold onB at hb
         rw[de]at hb
         exact hb.1
        rw[if_pos hb]
        by_cases hn:rT s cps a seen k=true
        ·rw[if_pos hn]
         exact ih (a4C hf hl) ihk
        ·rw[if_neg hn,b5a hf n (a4C hf hl) (by simp),dA]
         ·exact ihk
         ·unfold rT at hn
          rw[hb]at hn
          simpa using hn
       ·rw[if_neg hb,if_neg (by unfold rT;rw[de];exact fun h=>hb h.1),dA]
        exact ihk
   exact key _
def a6A(s:Sn):List Rp:=(iK s.ks).flatMap fun c=>full s 1025 c [] c []
end Go.Ds
namespace Go.Ds
open Go.Proofs Go.Proofs.Tryz
variable {H:Heap}
set_option maxRecDepth 10000
set_option maxHeartbeats 1000000
def tR(s:Sn):Nat→Option (Ct×List Int×Ct)
 | 0=>none
 | n+1=>match uP s (iG (iK s.ks) n),tR s n with
   | none,b=>b
   | some w,none=>some (iG (iK s.ks) n,w)
   | some w,some b=>if w.1.length<b.2.1.length then some (iG (iK s.ks) n,w)else some b
def b2J(s:Sn)(q:Option (Ct×List Int×Ct))(cv:Value):Rn:=match q with
 | none=>⟨(0,0),cv,[],(0,0),0⟩
 | some (c,l,e)=>⟨c,cv,l,e,iG (lK s e) 0⟩
def a2W(s:Sn):Option (Ct×List Int×Ct):=if snE s=0 then tR s (iK s.ks).length else none
theorem b3J(s:Sn)(c:Ct)(w:List Int×Ct)(h:uP s c=some w)(cv:Value):b2J s (some (c,w)) cv=mQ s c cv:=by
 unfold mQ
 rw[h]
 rfl
theorem b0k(s:Sn)(c:Ct)(cv:Value):(mQ s c cv).cv=cv:=by unfold mQ;split<;>rfl
theorem c2e(s:Sn)(c:Ct)(cv:Value):(mQ s c cv).v=.agg #[I (mQ s c cv).pl.1,I (mQ s c cv).pl.2,cv,I (mQ s c cv).tc.1,I (mQ s c cv).tc.2,I (mQ s c cv).stop]:=by
 show Value.agg #[_,_,(mQ s c cv).cv,_,_,_]=_
 rw[b0k]
theorem b1u{s:Sn}{j:Nat}(h:uP s (iG (iK s.ks) j)=none):tR s (j+1)=tR s j:=by
 unfold tR
 rw[h]
 cases j<;>rfl
theorem a7D{s:Sn}{j:Nat}{w:List Int×Ct}(h:uP s (iG (iK s.ks) j)=some w)(hl:∀b,tR s j=some b→w.1.length<b.2.1.length):tR s (j+1)=some (iG (iK s.ks) j,w):=by
 show(match uP s (iG (iK s.ks) j),tR s j with
  | none,b=>b
  | some w,none=>some (iG (iK s.ks) j,w)
  | some w,some b=>if w.1.length<b.2.1.length then some (iG (iK s.ks) j,w)else some b)=_
 rw[h]
 cases hb:tR s j with
 | none=>rfl
 | some b=>exact if_pos (hl b hb)
theorem b9z{s:Sn}{j:Nat}{w:List Int×Ct}{b:Ct×List Int×Ct}(h:uP s (iG (iK s.ks) j)=some w)(hb:tR s j=some b)(hl:¬w.1.length<b.2.1.length):tR s (j+1)=tR s j:=by
 show(match uP s (iG (iK s.ks) j),tR s j with
  | none,b=>b
  | some w,none=>some (iG (iK s.ks) j,w)
  | some w,some b=>if w.1.length<b.2.1.length then some (iG (iK s.ks) j,w)else some b)=_
 rw[h,hb]
 exact if_neg hl
theorem b6p(hG:Glob gH H)(s:Sn)(hs:s.In H):Fn prog 22 [s.v] H fun r H'=>∃cv,r=.tuple #[(b2J s (a2W s) cv).v,.bool (a2W s).isSome,I (snE s)]∧St prog H H' [⟨cv,1,(b2J s (a2W s) cv).cps.flatMap (one I)⟩]:=by
 refine .aS func22 rfl (by kernel_rfl) (m:=51) rfl fun l hn g0=> ?_
 simp(disch:=omega) only[↓RA,RB,simprocAttr,g0]
 refine(sR H).eNew 10 [(.string s.o.name),s.o.rv,s.o.dv,s.o.cv,s.sv,(.int .u64 s.rg.cpl),(.int .u64 s.rg.off),s.kv,I s.p.1,I s.p.2] rfl rfl (by simp[OC,((sR H).sl hs.o.1).cells.2.1,((sR H).sl hs.o.2.2.1).cells.2.1,((sR H).sl hs.o.2.2.2.2.1).cells.2.1,((sR H).sl hs.rg.1).cells.2.1,((sR H).sl hs.ks.sl).cells.2.1]) rQ fun A1 H1 hS1=> ?_
 simp only[RT]at hS1
 simp(disch:=omega) only[↓RA,RZ,simprocAttr]
 refine hS1.eNew 6 [I 0,I 0,(.slice none 0 0),I 0,I 0,I 0] rfl rfl rfl nP fun A2 H2 hS2=> ?_
 simp only[RT]at hS2
 simp(disch:=omega) only[↓RA,RZ,simprocAttr,hn,hS2.ae 0 rfl]
 refine hS2.cF (zR s (hs.ag hS2)) fun H3 hS3=> ?_
 simp(disch:=omega) only[↓RA,RB,simprocAttr,hn]
 refine iF (fun h1=> ?_) (fun h1=> ?_)
 ·have hL:a2W s=none:=by unfold a2W;rw[if_neg h1]
  simp(disch:=omega) only[↓RA,RZ,simprocAttr,hn,c0B,h1]
  refine hS3.aa 1 rfl [I 0,I 0,(.slice none 0 0),I 0,I 0,I 0] rfl rfl nP (by simp) fun H4 hS4=> ?_
  simp only[RT]at hS4
  simp(disch:=omega) only[↓RA,RZ,simprocAttr,hn,c3o,hS4.ae 1 rfl,h1]
  rw[hL]
  exact⟨.slice none 0 0,rfl,(hS4.forget).nil 0⟩
 have hz:snE s=0:=dI.1 h1
 have hf:=yJ.1 hz
 have hpl:=zA hf.keys
 have hct:=sJ hs.ks.ok hf.keys
 have hL:a2W s=tR s (iK s.ks).length:=by unfold a2W;rw[if_pos hz]
 simp(disch:=omega) only[↓RA,RZ,simprocAttr,hn,hS3.ae 0 rfl,h1]
 refine iR (yA s (hs.ag hS3) hf) ?_
 rintro r H5⟨M,kvs,rfl,hD,hT2⟩
 have hS5:=hS3.trans hT2
 simp only[RT]at hS5
 simp(disch:=omega) only[↓RA,RZ,simprocAttr,hn,hS5.ae 0 rfl,h1]
 refine iR ((wW (hS5.gl hG) s (hs.ag hS5) hf).tr) ?_
 rintro r H6⟨-,hT3⟩
 have hS6:=hS5.trans hT3
 simp only[RT]at hS6
 obtain⟨pw,rfl⟩:∃w,w=r:=⟨r,rfl⟩
 simp(disch:=omega) only[↓RA,RZ,simprocAttr,hn,(hS6.az 3 rfl kI).len,h1]
 have hS7:=hS6.nil 0
 simp only[RT]at hS7
 refine Wp.aj (fun n l H'=>l.length=51∧get l 1=(ptr A1 0 10)∧get l 2=(ptr A2 0 6)∧get l 4=I 0∧get l 6=(.map (some M))∧get l 20=pw∧get l 21=I (iK s.ks).length∧∃(j:Nat)(x:Rn),(n+j=(iK s.ks).length∧x=b2J s (tR s j) x.cv)∧get l 22=I j∧get l 3=(.bool (tR s j).isSome)∧St prog H H' [⟨ptr A1 0 10,0,[(.string s.o.name),s.o.rv,s.o.dv,s.o.cv,s.sv,(.int .u64 s.rg.cpl),(.int .u64 s.rg.off),s.kv,I s.p.1,I s.p.2]⟩,⟨ptr A2 0 6,0,[I x.pl.1,I x.pl.2,x.cv,I x.tc.1,I x.tc.2,I x.stop]⟩,⟨.map (some M),0,KN kvs⟩,⟨pw,2,pr (iK s.ks)⟩,⟨x.cv,1,x.cps.flatMap (one I)⟩]) (iK s.ks).length ?_ ?_
 ·simp(disch:=omega) only[RB,RC,simprocAttr,hn]
  exact⟨0,⟨(0,0),.slice none 0 0,[],(0,0),0⟩,⟨by omega,rfl⟩,rfl,rfl,hS7⟩
 rintro n l H7⟨hn,g1,g2,g4,g6,g20,g21,j,x,⟨hj,hx⟩,g22,g3,hS8⟩
 simp(disch:=omega) only[↓RA,RB,simprocAttr,hn,g21,g22]
 refine iF (fun q1=> ?_) (fun q1=> ?_)
 ·have hcc:=hct _ (iM (xs:=iK s.ks) (j:=j) (by omega))
  simp(disch:=omega) only[↓RA,RZ,simprocAttr,hn,g20,g22,(hS8.az 3 rfl kI).idx,(hS8.az 3 rfl kI).ae,lE,q1]
  refine hS8.eNew 2 [I 0,I 0] rfl rfl rfl lG fun A3 H8 hS9=> ?_
  simp only[RT]at hS9
  simp(disch:=omega) only[↓RA,RZ,simprocAttr,hn,q1]
  refine hS9.aa 5 rfl [I (iG (iK s.ks) j).1,I (iG (iK s.ks) j).2] rfl rfl lG (by simp) fun H9 hS10=> ?_
  simp only[RT]at hS10
  simp(disch:=omega) only[↓RA,RZ,simprocAttr,hn,g1,g6,hS10.ae 0 rfl,hS10.ae 5 rfl,q1]
  refine iR (a7x s (hs.ag hS10) hf (iG (iK s.ks) j) hcc M kvs (hS10.own _ (dB (i:=2) rfl)) hD) ?_
  rintro r H10⟨cw,rfl,hT4⟩
  have hS11:=hS10.trans hT4
  simp only[RT]at hS11
  have hyc:=b0k s (iG (iK s.ks) j) cw
  have hyv:=c2e s (iG (iK s.ks) j) cw
  simp(disch:=omega) only[↓RA,RZ,simprocAttr,hn,q1,hyv]
  refine hS11.eNew 6 [I 0,I 0,(.slice none 0 0),I 0,I 0,I 0] rfl rfl rfl nP fun A4 H11 hS12=> ?_
  simp only[RT]at hS12
  simp(disch:=omega) only[↓RA,RZ,simprocAttr,hn,q1,hyv]
  refine hS12.aa 7 rfl [I (mQ s (iG (iK s.ks) j) cw).pl.1,I (mQ s (iG (iK s.ks) j) cw).pl.2,cw,I (mQ s (iG (iK s.ks) j) cw).tc.1,I (mQ s (iG (iK s.ks) j) cw).tc.2,I (mQ s (iG (iK s.ks) j) cw).stop] rfl (by simp[OC,(hS12.rd 6 rfl).cells.2.1]) nP (by simp) fun H12 hS13=> ?_
  simp only[RT]at hS13
  simp(disch:=omega) only[↓RA,RZ,simprocAttr,hn,q1,hyv]
  refine kL (fun q2=> ?_) (fun q2=> ?_)
  ·obtain⟨w,hw⟩:=eL.1 q2
   have hyl:(mQ s (iG (iK s.ks) j) cw).cps=w.1:=by unfold mQ;rw[hw]
   have hy2:=b3J s (iG (iK s.ks) j) w hw cw
   simp(disch:=omega) only[↓RA,RZ,simprocAttr,hn,g3,q1,hyv,q2]
   refine kL (fun q3=> ?_) (fun q3=> ?_)
   ·have hsu:=a7D (j:=j) hw (fun b hb=>by rw[hb]at q3;simp at q3)
    simp(disch:=omega) only[↓RA,RZ,simprocAttr,hn,g2,hS13.ae 7 rfl,q1,hyv,q2,q3]
    refine hS13.aa 1 rfl [I (mQ s (iG (iK s.ks) j) cw).pl.1,I (mQ s (iG (iK s.ks) j) cw).pl.2,cw,I (mQ s (iG (iK s.ks) j) cw).tc.1,I (mQ s (iG (iK s.ks) j) cw).tc.2,I (mQ s (iG (iK s.ks) j) cw).stop] rfl (by simp[OC,(hS13.rd 6 rfl).cells.2.1]) nP (by simp) fun H13 hS14=> ?_
    simp only[RT]at hS14
    simp(disch:=omega) only[↓RA,RZ,simprocAttr,hn,g1,g2,g4,g6,g20,g21,g22,q1,hyv,q2,q3]
    refine⟨n-1,by omega,j+1,mQ s (iG (iK s.ks) j) cw,⟨by omega,by rw[hsu,hyc,hy2]⟩,by simp,by rw[hsu];rfl,?_⟩
    rw[hyc]
    exact hS14.pick [0,1,2,3,6] (by decide) rfl
   obtain⟨b,hb⟩:∃b,tR s j=some b:=by
    cases hb:tR s j with
    | none=>rw[hb]at q3;simp at q3
    | some b=>exact⟨b,rfl⟩
   have hxl:x.cps=b.2.1:=by rw[hx,hb];rfl
   simp(disch:=omega) only[↓RA,RZ,simprocAttr,hn,g2,hS13.ld 7 rfl,(hS13.az 6 rfl (fun _=>rfl)).len,hS13.ld 1 rfl,(hS13.az 4 rfl (fun _=>rfl)).len,q1,hyv,q2,q3]
   refine iF (fun q4=> ?_) (fun q4=> ?_)
   ·have hsu:=a7D (j:=j) hw (fun b2 hb2=>by rw[hb]at hb2;cases hb2;rw[hyl,hxl]at q4;omega)
    simp(disch:=omega) only[↓RA,RZ,simprocAttr,hn,g2,hS13.ae 7 rfl,q1,hyv,q2,q3,q4]
    refine hS13.aa 1 rfl [I (mQ s (iG (iK s.ks) j) cw).pl.1,I (mQ s (iG (iK s.ks) j) cw).pl.2,cw,I (mQ s (iG (iK s.ks) j) cw).tc.1,I (mQ s (iG (iK s.ks) j) cw).tc.2,I (mQ s (iG (iK s.ks) j) cw).stop] rfl (by simp[OC,(hS13.rd 6 rfl).cells.2.1]) nP (by simp) fun H14 hS15=> ?_
    simp only[RT]at hS15
    simp(disch:=omega) only[↓RA,RZ,simprocAttr,hn,g1,g2,g4,g6,g20,g21,g22,q1,hyv,q2,q3,q4]
    refine⟨n-1,by omega,j+1,mQ s (iG (iK s.ks) j) cw,⟨by omega,by rw[hsu,hyc,hy2]⟩,by simp,by rw[hsu];rfl,?_⟩
    rw[hyc]
    exact hS15.pick [0,1,2,3,6] (by decide) rfl
   have hsu:=b9z (j:=j) hw hb (by rw[hyl,hxl]at q4;omega)
   simp(disch:=omega) only[↓RA,RZ,simprocAttr,hn,g1,g2,g4,g6,g20,g21,g22,g3,q1,hyv,q2,q3,q4]
   refine⟨n-1,by omega,j+1,x,⟨by omega,by rw[hsu];exact hx⟩,by simp,by rw[hsu],?_⟩
   exact hS13.pick [0,1,2,3,4] (by decide) rfl
  have hw:uP s (iG (iK s.ks) j)=none:=by simpa using q2
  have hsu:=b1u (j:=j) hw
  simp(disch:=omega) only[↓RA,RZ,simprocAttr,hn,g1,g2,g4,g6,g20,g21,g22,g3,q1,hyv,q2]
  refine⟨n-1,by omega,j+1,x,⟨by omega,by rw[hsu];exact hx⟩,by simp,by rw[hsu],?_⟩
  exact hS13.pick [0,1,2,3,4] (by decide) rfl
 have hjj:j=(iK s.ks).length:=by omega
 rw[hjj]at hx
 simp(disch:=omega) only[↓RA,RZ,simprocAttr,hn,g2,g3,hS8.ae 1 rfl,q1]
 refine hS8.aa 1 rfl [I x.pl.1,I x.pl.2,x.cv,I x.tc.1,I x.tc.2,I x.stop] rfl (by simp[OC,(hS8.rd 4 rfl).cells.2.1]) nP (by simp) fun H15 hS16=> ?_
 simp only[RT]at hS16
 simp(disch:=omega) only[↓RA,RZ,simprocAttr,hn,g2,c3o,hS16.ae 1 rfl,q1]
 rw[hL,hz,hjj]
 refine⟨x.cv,by rw[←hx],?_⟩
 rw[←hx]
 exact hS16.pick [4] (by decide) rfl
def a8z(v:Value):Option Value:=match v with
 | .pointer (some a)=>some (.pointer (some a))
 | .func (.func f) a b=>some (.func (.func f) a b)
 | _=>none
theorem lD{P:Program}(d:Option Tmp)(ty:TypeId)(pos:String)(af:Array Edge)(g:Option (Nat×Bool))(x:Operand)(l:List Value)(K:Value→Heap→Prop):mD P ⟨d,.nilCheck x,ty,pos,af,g⟩ l H K=jN x l fun x=>jT (a8z x) fun v=>K v H:=by
 have h:opD P ⟨d,.nilCheck x,ty,pos,af,g⟩ l H=(a8z (ev l x)).map fun v=>(v,H):=by
  simp only[opD,a8z]
  generalize ev l x=vx
  split
  ·rfl
  ·rfl
  ·rename_i h1 h2
   split
   ·exact(h1 _ rfl).elim
   ·exact(h2 _ _ _ rfl).elim
   ·rfl
 have h2:jZ ((a8z (ev l x)).map fun v=>(v,H)) K=jT (a8z (ev l x)) fun v=>K v H:=by cases a8z (ev l x)<;>rfl
 simp only[mD,h,jN,Op.operands,h2]
 simp
theorem lB(A o n:Nat)(K:Value→Prop):jT (a8z (ptr A o n)) K=nH (ptr A o n) K:=rfl
theorem b8X(a:Addr)(m c:Nat):kN prog .eql 24 24 false true (.slice (some a) m c) (.slice none 0 0)=some (.bool false):=by kernel_rfl
theorem a5m{v:Value}{a:Addr}{m c:Nat}(h:v=.slice (some a) m c)(K:Value→Prop):kY prog .eql 24 24 false true v (.slice none 0 0) K=nH (.bool false) K:=by
 subst h
 show jT (kN prog .eql 24 24 false true (.slice (some a) m c) (.slice none 0 0)) K=_
 rw[b8X]
 rfl
theorem b3X:kN prog .eql 24 24 false true (.slice none 0 0) (.slice none 0 0)=some (.bool true):=by kernel_rfl
theorem a2U(K:Value→Prop):kY prog .eql 24 24 false true (.slice none 0 0) (.slice none 0 0) K=nH (.bool true) K:=by
 show jT (kN prog .eql 24 24 false true (.slice none 0 0) (.slice none 0 0)) K=_
 rw[b3X]
 rfl
theorem a8S(v:Value)(xs:List Int)(hv:Sl 1 (one I) H v xs)(hl:xs.length<100000000):Fn prog 96 [v] H fun r H'=>St prog H H' [⟨r,1,xs.flatMap (one I)⟩]:=by
 have hxl:(xs.flatMap (one I)).length=xs.length:=by rw[lN,dC]
 rcases hv.rd with⟨rfl,h2⟩|⟨A,i,e,row,ty,rw',lo,ver,m,_,_,_,_,_,_,hvv⟩
 ·have hx:xs=[]:=by
   have:=congrArg List.length h2
   rw[hxl,dZ]at this
   exact ed.1 (by omega)
  subst hx
  refine .aS func96 rfl (by kernel_rfl) (m:=8) rfl fun l hn g0=> ?_
  simp(disch:=omega) only[↓RA,RB,simprocAttr,hn,g0,a2U]
  have hS1:=(sR H).nil 0
  simp only[RT]at hS1
  simp(disch:=omega) only[RB,simprocAttr,hn,c2T]
  exact hS1
 ·refine .aS func96 rfl (by kernel_rfl) (m:=8) rfl fun l hn g0=> ?_
  simp(disch:=omega) only[↓RA,RB,simprocAttr,hn,g0,a5m hvv]
  refine(sR H).bH pZ fun w1 H1 hS1=> ?_
  simp only[RT]at hS1
  simp(disch:=omega) only[↓RA,RZ,simprocAttr,hn,g0]
  refine hS1.av 0 rfl (hS1.sl hv).rd pZ (by rw[hxl];simp;omega) fun w2 H2 hS2=> ?_
  simp only[RT]at hS2
  simp(disch:=omega) only[↓RA,RB,simprocAttr,hn,c2T]
  exact hS2
def kX:List Int→List Int→Int
 | [],[]=>0
 | [],_::_=>-1
 | _::_,[]=>1
 | a::l,b::m=>if kA a b=0 then kX l m else kA a b
theorem nX{a b:Int}:kA a b=0↔a=b:=by unfold kA;split<;>(try split)<;>omega
theorem b2j(a:Int):kA a a=0:=nX.2 rfl
theorem uK:∀{u u' v v':List Int},u.length=u'.length→kX (u++v) (u'++v')=if kX u u'=0 then kX v v' else kX u u'
 | [],[],v,v',_=>by simp[kX]
 | [],_::_,_,_,h=>by cases h
 | _::_,[],_,_,h=>by cases h
 | a::u,b::u',v,v',h=>by
   have ih:=uK (u:=u) (u':=u') (v:=v) (v':=v') (by simpa using h)
   simp only[fJ,kX]
   by_cases hc:kA a b=0
   ·simp only[hc,if_true]
    exact ih
   ·simp only[hc,if_false]
theorem sE:∀{j:Nat}{xs ys:List Int},j≤xs.length→j≤ys.length→(∀q,q<j→iG xs q=iG ys q)→kX xs ys=kX (xs.drop j) (ys.drop j)
 | 0,_,_,_,_,_=>rfl
 | j+1,[],_,h,_,_=>by simp at h
 | j+1,_::_,[],_,h,_=>by simp at h
 | j+1,a::xs,b::ys,h1,h2,h=>by
   have h0:a=b:=h 0 (by omega)
   rw[gy,gy,←sE (by simpa using h1) (by simpa using h2) (fun q hq=>h (q+1) (by omega)),h0]
   show(if kA b b=0 then kX xs ys else kA b b)=_
   rw[if_pos (b2j b)]
theorem a4D{j:Nat}{xs ys:List Int}(h1:j<xs.length)(h2:j<ys.length)(h:∀q,q<j→iG xs q=iG ys q)(hc:kA (iG xs j) (iG ys j)≠0):kX xs ys=kA (iG xs j) (iG ys j):=by
 rw[sE (by omega) (by omega) h,oB xs j h1,oB ys j h2]
 exact if_neg hc
def xJ(r:Rn):List Int:=[(r.cps.length:Int),r.pl.1,r.pl.2]++r.cps++[r.tc.1,r.tc.2,r.stop]
def sC(a b:Rn):Int:=kX (xJ a) (xJ b)
theorem a5R(a:Int)(l:List Int):orI (a::l)=if a=0 then orI l else a:=rfl
theorem c3a(a b:Int):kX [a] [b]=kA a b:=by
 show(if kA a b=0 then 0 else kA a b)=_
 split
 ·rename_i h;exact h.symm
 ·rfl
theorem b8t(a b:Rn):sC a b=orI [kA a.cps.length b.cps.length,kX [a.pl.1,a.pl.2] [b.pl.1,b.pl.2],kX a.cps b.cps,kX [a.tc.1,a.tc.2] [b.tc.1,b.tc.2],kA a.stop b.stop]:=by
 have hr:∀r:Rn,xJ r=[(r.cps.length:Int)]++([r.pl.1,r.pl.2]++(r.cps++([r.tc.1,r.tc.2]++[r.stop]))):=fun r=>by simp[xJ]
 unfold sC
 rw[hr,hr,uK (by rfl),c3a,a5R]
 by_cases hl:kA a.cps.length b.cps.length=0
 ·rw[if_pos hl,if_pos hl]
  have hl2:a.cps.length=b.cps.length:=by have:=nX.1 hl;omega
  rw[uK (by rfl),uK hl2,uK (by rfl),c3a]
  simp only[a5R]
  congr 3
  show kA a.stop b.stop=if kA a.stop b.stop=0 then 0 else kA a.stop b.stop
  split
  ·assumption
  ·rfl
 ·rw[if_neg hl,if_neg hl]
theorem a5w(x y:Int×Int):Fn prog 41 [.agg #[I x.1,I x.2],.agg #[I y.1,I y.2]] H fun r H'=>r=I (kX [x.1,x.2] [y.1,y.2])∧St prog H H' []:=by
 refine .aH func41 rfl (by kernel_rfl) (m:=17) rfl fun l hn g0 g1=> ?_
 simp(disch:=omega) only[↓RA,RB,simprocAttr,g0]
 refine(sR H).eNew 2 [I x.1,I x.2] rfl rfl rfl lG fun A1 H1 hS1=> ?_
 simp only[RT]at hS1
 simp(disch:=omega) only[↓RA,RB,simprocAttr,g1]
 refine hS1.eNew 2 [I y.1,I y.2] rfl rfl rfl lG fun A2 H2 hS2=> ?_
 simp only[RT]at hS2
 simp(disch:=omega) only[↓RA,RB,simprocAttr]
 refine Wp.aL kJ [(6,0),(8,0)] (by kernel_rfl) (by kernel_rfl) ?_
 simp(disch:=omega) only[↓RA,RZ,simprocAttr,hn,hS2.ld 0 rfl,hS2.ld 1 rfl]
 refine hS2.cF (nM x.1 y.1) fun H3 hS3=> ?_
 simp(disch:=omega) only[↓RA,RZ,simprocAttr,hn,hS3.ld 0 rfl,hS3.ld 1 rfl]
 refine hS3.cF (nM x.2 y.2) fun H4 hS4=> ?_
 simp(disch:=omega) only[↓RA,RB,simprocAttr,hn]
 refine hS4.ak [I (kA x.1 y.1),I (kA x.2 y.2)] pZ wS rfl rfl (by simp[Value.cells]) rfl rfl (by decide) (by decide) fun w1 H5 hS5=> ?_
 simp only[RT]at hS5
 simp(disch:=omega) only[↓RA,RZ,simprocAttr,hn]
 refine hS5.cF (a7q w1 [kA x.1 y.1,kA x.2 y.2] (hS5.az 2 rfl (vE _)) (by simp)) fun H6 hS6=> ?_
 simp(disch:=omega) only[↓RA,RZ,simprocAttr,hn,hS2.ld 0 rfl,hS2.ld 1 rfl,c5U]
 exact⟨rfl,hS6.forget⟩
theorem b9I(v w:Value)(xs ys:List Int)(hv:Sl 1 (one I) H v xs)(hw:Sl 1 (one I) H w ys)(hl:xs.length<1000000000)(hl2:ys.length<1000000000):Fn prog 42 [v,w] H fun r H'=>r=I (kX xs ys)∧St prog H H' []:=by
 refine .aH func42 rfl (by kernel_rfl) (m:=36) rfl fun l hn g0 g1=> ?_
 simp(disch:=omega) only[↓RA,RZ,simprocAttr,hn,g0,((sR H).sl hv).len]
 refine Wp.aj (fun n l H'=>l.length=36∧get l 0=v∧get l 1=w∧get l 9=v∧get l 10=I xs.length∧∃(j:Nat),(n+j=xs.length∧j≤ys.length∧∀q,q<j→iG xs q=iG ys q)∧get l 11=I j∧St prog H H' []) xs.length ?_ ?_
 ·simp(disch:=omega) only[RB,RC,simprocAttr,hn,g0,g1]
  exact⟨0,⟨by omega,eQ _,fun q hq=>absurd hq (dX _)⟩,rfl,(sR H)⟩
 rintro n l H1⟨hn,g0,g1,g9,yT,j,⟨hj,hjy,hz⟩,g11,hS1⟩
 simp(disch:=omega) only[↓RA,RB,simprocAttr,hn,yT,g11]
 refine iF (fun q1=> ?_) (fun q1=> ?_)
 ·simp(disch:=omega) only[↓RA,RZ,simprocAttr,hn,g1,g9,g11,(hS1.sl hv).idx,(hS1.sl hv).ld,one,(hS1.sl hw).len,q1]
  refine iF (fun q2=> ?_) (fun q2=> ?_)
  ·simp(disch:=omega) only[↓RA,RZ,simprocAttr,hn,b7U,q1,q2]
   refine⟨?_,hS1⟩
   rw[sE (j:=j) (by omega) hjy hz,oB xs j (by omega),show ys.drop j=[]from fY (by omega)]
   rfl
  simp(disch:=omega) only[↓RA,RZ,simprocAttr,hn,g1,(hS1.sl hw).idx,(hS1.sl hw).ld,one,q1,q2]
  refine hS1.cF (nM (iG xs j) (iG ys j)) fun H2 hS2=> ?_
  simp(disch:=omega) only[↓RA,RZ,simprocAttr,hn,q1,q2]
  refine iF (fun q3=> ?_) (fun q3=> ?_)
  ·simp(disch:=omega) only[↓RA,RZ,simprocAttr,hn,b7U,q1,q2,q3]
   exact⟨by rw[a4D (by omega) (by omega) hz q3],hS2⟩
  have q3':iG xs j=iG ys j:=nX.1 (dI.1 q3)
  simp(disch:=omega) only[↓RA,RZ,simprocAttr,hn,g0,g1,g9,yT,g11,q1,q2,q3]
  exact⟨n-1,by omega,j+1,⟨by omega,by omega,fun q hq=>by rcases dw.1 hq with e|e;(· exact hz q e);(· rw[e];exact q3')⟩,by simp,hS2⟩
 have hjj:j=xs.length:=by omega
 have hd:kX xs ys=kX [] (ys.drop j):=by rw[sE (j:=j) (by omega) hjy hz,hjj,gP]
 simp(disch:=omega) only[↓RA,RZ,simprocAttr,hn,g0,g1,(hS1.sl hv).len,(hS1.sl hw).len,q1]
 refine iF (fun q4=> ?_) (fun q4=> ?_)
 ·simp(disch:=omega) only[↓RA,RZ,simprocAttr,hn,b7U,q1,q4]
  refine⟨?_,hS1⟩
  rw[hd,oB ys j (by omega)]
  rfl
 simp(disch:=omega) only[↓RA,RZ,simprocAttr,hn,b7U,q1,q4]
 refine⟨?_,hS1⟩
 rw[hd,fY (by omega)]
 rfl
theorem a5c(a b:Rn)(ha:a.In H)(hb:b.In H):Fn prog 11 [a.v,b.v] H fun r H'=>r=I (sC a b)∧St prog H H' []:=by
 have hal:=ha.2
 have hbl:=hb.2
 refine .aH func11 rfl (by kernel_rfl) (m:=34) rfl fun l hn g0 g1=> ?_
 simp(disch:=omega) only[↓RA,RB,simprocAttr,g0]
 refine(sR H).eNew 6 [I a.pl.1,I a.pl.2,a.cv,I a.tc.1,I a.tc.2,I a.stop] rfl rfl (by simp[OC,((sR H).sl ha.1).cells.2.1]) nP fun A1 H1 hS1=> ?_
 simp only[RT]at hS1
 simp(disch:=omega) only[↓RA,RB,simprocAttr,g1]
 refine hS1.eNew 6 [I b.pl.1,I b.pl.2,b.cv,I b.tc.1,I b.tc.2,I b.stop] rfl rfl (by simp[OC,(hS1.sl hb.1).cells.2.1]) nP fun A2 H2 hS2=> ?_
 simp only[RT]at hS2
 simp(disch:=omega) only[↓RA,RB,simprocAttr]
 refine Wp.aL kJ [(8,0),(10,0),(13,0),(13,7),(15,0),(15,7),(18,0),(18,7),(18,12),(20,0),(20,7),(20,12),(23,0),(23,7),(23,12),(23,17),(25,0),(25,7),(25,12),(25,17)] (by kernel_rfl) (by kernel_rfl) ?_
 simp(disch:=omega) only[↓RA,RZ,simprocAttr,hn,hS2.ld 0 rfl,(hS2.sl ha.1).len,hS2.ld 1 rfl,(hS2.sl hb.1).len]
 refine hS2.cF (nM a.cps.length b.cps.length) fun H3 hS3=> ?_
 simp(disch:=omega) only[↓RA,RZ,simprocAttr,hn,hS3.ae 0 rfl,hS3.ae 1 rfl]
 refine hS3.cF (a5w a.pl b.pl) fun H4 hS4=> ?_
 simp(disch:=omega) only[↓RA,RZ,simprocAttr,hn,hS4.ld 0 rfl,hS4.ld 1 rfl]
 refine hS4.cF (b9I a.cv b.cv a.cps b.cps (hS4.sl ha.1) (hS4.sl hb.1) (by omega) (by omega)) fun H5 hS5=> ?_
 simp(disch:=omega) only[↓RA,RZ,simprocAttr,hn,hS5.ae 0 rfl,hS5.ae 1 rfl]
 refine hS5.cF (a5w a.tc b.tc) fun H6 hS6=> ?_
 simp(disch:=omega) only[↓RA,RZ,simprocAttr,hn,hS6.ld 0 rfl,hS6.ld 1 rfl]
 refine hS6.cF (nM a.stop b.stop) fun H7 hS7=> ?_
 simp(disch:=omega) only[↓RA,RB,simprocAttr,hn]
 refine hS7.ak [I (kA a.cps.length b.cps.length),I (kX [a.pl.1,a.pl.2] [b.pl.1,b.pl.2]),I (kX a.cps b.cps),I (kX [a.tc.1,a.tc.2] [b.tc.1,b.tc.2]),I (kA a.stop b.stop)] pZ wS rfl rfl (by simp[Value.cells]) rfl rfl (by decide) (by decide) fun w1 H8 hS8=> ?_
 simp only[RT]at hS8
 simp(disch:=omega) only[↓RA,RZ,simprocAttr,hn]
 refine hS8.cF (a7q w1 [kA a.cps.length b.cps.length,kX [a.pl.1,a.pl.2] [b.pl.1,b.pl.2],kX a.cps b.cps,kX [a.tc.1,a.tc.2] [b.tc.1,b.tc.2],kA a.stop b.stop] (hS8.az 2 rfl (vE _)) (by simp)) fun H9 hS9=> ?_
 rw[←b8t]
 simp(disch:=omega) only[↓RA,RZ,simprocAttr,hn,hS2.ae 0 rfl,hS2.ae 1 rfl,hS2.ld 0 rfl,hS3.ld 0 rfl,hS2.ld 1 rfl,hS3.ld 1 rfl,hS3.ae 0 rfl,hS4.ae 0 rfl,hS3.ae 1 rfl,hS4.ae 1 rfl,hS4.ld 0 rfl,hS5.ld 0 rfl,hS4.ld 1 rfl,hS5.ld 1 rfl,c4P]
 exact hS9.forget
def h3(r:Rn):List Int:=[(r.cps.length:Int),r.pl.1,r.pl.2]
def t3(r:Rn):List Int:=[r.tc.1,r.tc.2,r.stop]
def pS(a b r:Rn):List Int:=if a.cps.length=b.cps.length then r.cps else[]
theorem b4r(a b:Rn):sC a b=kX (h3 a++pS a b a++t3 a) (h3 b++pS a b b++t3 b):=by
 unfold pS
 by_cases hl:a.cps.length=b.cps.length
 ·rw[if_pos hl,if_pos hl]
  rfl
 ·rw[if_neg hl,if_neg hl]
  have hne:kA a.cps.length b.cps.length≠0:=fun h=>hl (by have:=nX.1 h;omega)
  show(if kA a.cps.length b.cps.length=0 then _ else kA a.cps.length b.cps.length)=(if kA a.cps.length b.cps.length=0 then _ else kA a.cps.length b.cps.length)
  rw[if_neg hne,if_neg hne]
theorem a3U(a b:Rn)(ha:a.In H)(hb:b.In H):Fn prog 12 [a.v,b.v] H fun r H'=>r=I (sC a b)∧St prog H H' []:=by
 have hal:=ha.2
 have hbl:=hb.2
 refine .aH func12 rfl (by kernel_rfl) (m:=95) rfl fun l hn g0 g1=> ?_
 simp(disch:=omega) only[↓RA,RB,simprocAttr,g0]
 refine(sR H).eNew 6 [I a.pl.1,I a.pl.2,a.cv,I a.tc.1,I a.tc.2,I a.stop] rfl rfl (by simp[OC,((sR H).sl ha.1).cells.2.1]) nP fun A1 H1 hS1=> ?_
 simp only[RT]at hS1
 simp(disch:=omega) only[↓RA,RB,simprocAttr,g1]
 refine hS1.eNew 6 [I b.pl.1,I b.pl.2,b.cv,I b.tc.1,I b.tc.2,I b.stop] rfl rfl (by simp[OC,(hS1.sl hb.1).cells.2.1]) nP fun A2 H2 hS2=> ?_
 simp only[RT]at hS2
 simp(disch:=omega) only[↓RA,RZ,simprocAttr,hn,hS2.ld 0 rfl,(hS2.sl ha.1).len]
 refine hS2.ak [I a.cps.length,I a.pl.1,I a.pl.2] pZ wS rfl rfl (by simp[Value.cells]) rfl rfl (by decide) (by decide) fun w1 H3 hS3=> ?_
 simp only[RT]at hS3
 simp(disch:=omega) only[↓RA,RZ,simprocAttr,hn,hS3.ld 1 rfl,(hS3.sl hb.1).len]
 refine hS3.ak [I b.cps.length,I b.pl.1,I b.pl.2] pZ wS rfl rfl (by simp[Value.cells]) rfl rfl (by decide) (by decide) fun w2 H4 hS4=> ?_
 simp only[RT]at hS4
 simp(disch:=omega) only[↓RA,RZ,simprocAttr,hn,hS4.ld 0 rfl,(hS4.sl ha.1).len,hS4.ld 1 rfl,(hS4.sl hb.1).len]
 refine a8y (fun l H'=>l.length=95∧get l 2=(ptr A1 0 6)∧get l 3=(ptr A2 0 6)∧get l 4=I 0∧∃(u v:Value),get l 5=u∧get l 6=v∧St prog H H' [⟨ptr A1 0 6,0,[I a.pl.1,I a.pl.2,a.cv,I a.tc.1,I a.tc.2,I a.stop]⟩,⟨ptr A2 0 6,0,[I b.pl.1,I b.pl.2,b.cv,I b.tc.1,I b.tc.2,I b.stop]⟩,⟨u,1,(h3 a++pS a b a).flatMap (one I)⟩,⟨v,1,(h3 b++pS a b b).flatMap (one I)⟩]) ?_ ?_
 ·rintro l H5⟨hn,g2,g3,g4,u,v,g5,g6,hS5⟩
  have hXl:(h3 a++pS a b a++t3 a).length=(h3 b++pS a b b++t3 b).length:=by unfold pS;split<;>simp[h3,t3, *]
  have hXa:(h3 a++pS a b a++t3 a).length≤100000010:=by unfold pS;split<;>simp[h3,t3]<;>omega
  have hma:(pS a b a).length≤100000000:=by unfold pS;split;(· omega);(· simp)
  have hmb:(pS a b b).length≤100000000:=by unfold pS;split;(· omega);(· simp)
  have hsa:(h3 a++pS a b a).flatMap (one I)++[I a.tc.1,I a.tc.2,I a.stop]=(h3 a++pS a b a++t3 a).flatMap (one I):=(dD (xs:=h3 a++pS a b a) (ys:=t3 a)).symm
  have hsb:(h3 b++pS a b b).flatMap (one I)++[I b.tc.1,I b.tc.2,I b.stop]=(h3 b++pS a b b++t3 b).flatMap (one I):=(dD (xs:=h3 b++pS a b b) (ys:=t3 b)).symm
  simp(disch:=omega) only[↓RA,simprocAttr]
  refine Wp.aL kJ [(14,0),(17,0),(19,0)] (by kernel_rfl) (by kernel_rfl) ?_
  simp(disch:=omega) only[↓RA,RZ,simprocAttr,hn,g2,g5,hS5.ld 0 rfl]
  refine hS5.ak [I a.tc.1,I a.tc.2,I a.stop] pZ wS rfl rfl (by simp[Value.cells]) rfl rfl (by decide) (by decide) fun w3 H6 hS6=> ?_
  simp only[RT]at hS6
  simp(disch:=omega) only[↓RA,RZ,simprocAttr,hn]
  refine hS6.av 2 rfl (hS6.rd 4 rfl) pZ (by rw[lN,dC];simp[h3];omega) fun w4 H7 hS7=> ?_
  simp only[RT]at hS7
  simp(disch:=omega) only[↓RA,RZ,simprocAttr,hn,g3,g6]
  rw[hsa]at hS7
  simp(disch:=omega) only[↓RA,RZ,simprocAttr,hn,g3,hS7.ld 1 rfl]
  refine hS7.ak [I b.tc.1,I b.tc.2,I b.stop] pZ wS rfl rfl (by simp[Value.cells]) rfl rfl (by decide) (by decide) fun w5 H8 hS8=> ?_
  simp only[RT]at hS8
  simp(disch:=omega) only[↓RA,RZ,simprocAttr,hn]
  refine hS8.av 3 rfl (hS8.rd 5 rfl) pZ (by rw[lN,dC];simp[h3];omega) fun w6 H9 hS9=> ?_
  simp only[RT]at hS9
  simp(disch:=omega) only[↓RA,RZ,simprocAttr,hn,hS5.ld 1 rfl]
  rw[hsb]at hS9
  obtain⟨X,hX⟩:∃X,h3 a++pS a b a++t3 a=X:=⟨_,rfl⟩
  obtain⟨Y,hY⟩:∃Y,h3 b++pS a b b++t3 b=Y:=⟨_,rfl⟩
  have hR:sC a b=kX X Y:=by rw[b4r,hX,hY]
  rw[hX,hY]at hXl
  rw[hX]at hXa
  rw[hX,hY]at hS9
  refine Wp.aj (fun n l H'=>l.length=95∧get l 5=w4∧get l 6=w6∧∃(j:Nat),(n+j=X.length∧∀q,q<j→iG X q=iG Y q)∧get l 7=I j∧St prog H H' [⟨ptr A1 0 6,0,[I a.pl.1,I a.pl.2,a.cv,I a.tc.1,I a.tc.2,I a.stop]⟩,⟨ptr A2 0 6,0,[I b.pl.1,I b.pl.2,b.cv,I b.tc.1,I b.tc.2,I b.stop]⟩,⟨w4,1,X.flatMap (one I)⟩,⟨w6,1,Y.flatMap (one I)⟩,⟨w3,1,[I a.tc.1,I a.tc.2,I a.stop]⟩,⟨w5,1,[I b.tc.1,I b.tc.2,I b.stop]⟩]) X.length ?_ ?_
  ·simp(disch:=omega) only[RB,RC,simprocAttr,hn]
   exact⟨0,⟨by omega,fun q hq=>absurd hq (dX _)⟩,rfl,hS9⟩
  rintro n l H10⟨hn,g5,g6,j,⟨hj,hz⟩,g7,hS10⟩
  simp(disch:=omega) only[↓RA,RZ,simprocAttr,hn,g5,g7,(hS10.az 2 rfl (fun _=>rfl)).len]
  refine jQ (fun q1=> ?_) (fun q1=> ?_)
  ·simp(disch:=omega) only[↓RA,RZ,simprocAttr,hn,g6,g7,(hS10.az 3 rfl (fun _=>rfl)).len,q1]
   refine iF (fun q2=> ?_) (fun q2=> ?_)
   rotate_left
   ·exfalso;first|omega|(simp at q2;omega)
   simp(disch:=omega) only[↓RA,RC,simprocAttr,q1,q2]
   refine Wp.drw kJ (by kernel_rfl) ?_
   simp(disch:=omega) only[↓RA,RZ,simprocAttr,hn,g5,g6,g7,(hS10.az 2 rfl (fun _=>rfl)).idx,(hS10.az 2 rfl (fun _=>rfl)).ld,one,(hS10.az 3 rfl (fun _=>rfl)).idx,(hS10.az 3 rfl (fun _=>rfl)).ld]
   refine iF (fun q3=> ?_) (fun q3=> ?_)
   ·simp(disch:=omega) only[↓RA,RZ,simprocAttr,hn,c0S,q3]
    refine⟨?_,hS10.forget⟩
    rw[hR,a4D (j:=j) (by omega) (by omega) hz (by unfold kA;rw[if_pos q3];decide)]
    unfold kA
    rw[if_pos q3]
   simp(disch:=omega) only[↓RA,RC,simprocAttr,q3]
   refine Wp.drw kJ (by kernel_rfl) ?_
   simp(disch:=omega) only[↓RA,RZ,simprocAttr,hn,g5,g6,g7,(hS10.az 2 rfl (fun _=>rfl)).idx,(hS10.az 2 rfl (fun _=>rfl)).ld,one,(hS10.az 3 rfl (fun _=>rfl)).idx,(hS10.az 3 rfl (fun _=>rfl)).ld]
   refine iF (fun q4=> ?_) (fun q4=> ?_)
   ·simp(disch:=omega) only[↓RA,RZ,simprocAttr,hn,c0S,q4]
    refine⟨?_,hS10.forget⟩
    rw[hR,a4D (j:=j) (by omega) (by omega) hz (by unfold kA;rw[if_neg q3,if_pos q4];decide)]
    unfold kA
    rw[if_neg q3,if_pos q4]
   have q5:iG X j=iG Y j:=by omega
   simp(disch:=omega) only[↓RA,RZ,simprocAttr,hn,g5,g6,g7,q4]
   exact⟨n-1,by omega,j+1,⟨by omega,fun q hq=>by rcases dw.1 hq with e|e;(· exact hz q e);(· rw[e];exact q5)⟩,by simp,hS10.pick [0,1,2,3,4,5] (by decide) rfl⟩
  simp(disch:=omega) only[↓RA,RZ,simprocAttr,hn,c0S,q1]
  refine⟨?_,hS10.forget⟩
  rw[hR,sE (j:=j) (by omega) (by omega) hz,show X.drop j=[]from fY (by omega),show Y.drop j=[]from fY (by omega)]
  rfl
 refine iF (fun h1=> ?_) (fun h1=> ?_)
 ·have hl:a.cps.length=b.cps.length:=by omega
  have ma:pS a b a=a.cps:=if_pos hl
  have mb:pS a b b=b.cps:=if_pos hl
  simp(disch:=omega) only[↓RA,RC,simprocAttr,h1]
  refine Wp.aL kJ [(6,0)] (by kernel_rfl) (by kernel_rfl) ?_
  simp(disch:=omega) only[↓RA,RZ,simprocAttr,hn,hS4.ld 0 rfl,lC]
  refine hS4.av 2 rfl (hS4.sl ha.1).rd pZ (by simp only[lN,dC,dT,dZ];omega) fun w7 H11 hS11=> ?_
  simp only[RT]at hS11
  simp(disch:=omega) only[↓RA,RZ,simprocAttr,hn,hS11.ld 1 rfl]
  refine hS11.av 3 rfl (hS11.sl hb.1).rd pZ (by simp only[lN,dC,dT,dZ];omega) fun w8 H12 hS12=> ?_
  simp only[RT]at hS12
  simp(disch:=omega) only[↓RA,RZ,simprocAttr,hn,hS4.ld 1 rfl]
  refine⟨_,_,rfl,rfl,?_⟩
  rw[ma,mb,dD,dD]
  exact hS12.pick [0,1,2,3] (by decide) rfl
 have hl:¬a.cps.length=b.cps.length:=by omega
 have ma:pS a b a=[]:=if_neg hl
 have mb:pS a b b=[]:=if_neg hl
 simp(disch:=omega) only[↓RA,RZ,simprocAttr,hn,lC,h1]
 refine⟨_,_,rfl,rfl,?_⟩
 rw[ma,mb,dA,dA]
 exact hS4.pick [0,1,2,3] (by decide) rfl
end Go.Ds
namespace Go.Ds
open Go.Proofs
set_option maxRecDepth 10000
theorem b4J(a b:Int):kA b a=-kA a b:=by
 unfold kA
 repeat' split
 all_goals omega
theorem a4k{a b:Int}:kA a b=-1↔a<b:=by
 unfold kA
 repeat' split
 all_goals omega
theorem b5n(a b:Int):kA a b=-1∨kA a b=0∨kA a b=1:=by
 unfold kA
 repeat' split
 all_goals omega
theorem rU(a b:Int)(l m:List Int):kX (a::l) (b::m)=if kA a b=0 then kX l m else kA a b:=rfl
theorem mR:∀{l m:List Int},kX l m=0↔l=m
 | [],[]=>by simp[kX]
 | [],_::_=>by simp[kX]
 | _::_,[]=>by simp[kX]
 | a::l,b::m=>by
   rw[rU,fi]
   by_cases h:kA a b=0
   ·rw[if_pos h]
    exact⟨fun k=>⟨nX.1 h,mR.1 k⟩,fun k=>mR.2 k.2⟩
   ·rw[if_neg h]
    exact⟨fun k=>absurd k h,fun k=>absurd (nX.2 k.1) h⟩
theorem pJ:∀(l m:List Int),kX m l=-kX l m
 | [],[]=>rfl
 | [],_::_=>rfl
 | _::_,[]=>rfl
 | a::l,b::m=>by
   rw[rU,rU,b4J a b,pJ l m]
   by_cases h:kA a b=0
   ·rw[if_pos (by omega),if_pos h]
   ·rw[if_neg (by omega),if_neg h]
theorem pR:∀(l m:List Int),kX l m=-1∨kX l m=0∨kX l m=1
 | [],[]=>.inr (.inl rfl)
 | [],_::_=>.inl rfl
 | _::_,[]=>.inr (.inr rfl)
 | a::l,b::m=>by
   rw[rU]
   split
   ·exact pR l m
   ·exact b5n a b
theorem tA:∀{l m k:List Int},kX l m=-1→kX m k=-1→kX l k=-1
 | [],[],_,h,_=>by cases h
 | [],_::_,[],_,h=>by cases h
 | [],_::_,_::_,_,_=>rfl
 | _::_,[],_,h,_=>by cases h
 | _::_,_::_,[],_,h=>by cases h
 | a::l,b::m,c::k,h1,h2=>by
   rw[rU]at h1 h2 ⊢
   by_cases e1:kA a b=0
   ·rw[if_pos e1]at h1
    obtain rfl:=nX.1 e1
    by_cases e2:kA a c=0
    ·rw[if_pos e2]at h2 ⊢
     exact tA h1 h2
    ·rw[if_neg e2]at h2 ⊢
     exact h2
   ·rw[if_neg e1]at h1
    by_cases e2:kA b c=0
    ·obtain rfl:=nX.1 e2
     rw[if_neg e1]
     exact h1
    ·rw[if_neg e2]at h2
     have h3:=a4k.1 h1
     have h4:=a4k.1 h2
     have h5:kA a c=-1:=a4k.2 (by omega)
     rw[h5]
     rfl
def Rp.rn(r:Rp)(cv:Value):Rn:=⟨r.pl,cv,r.cps,r.tc,r.stop⟩
def b6z(r:Rp):List Int:=[(r.cps.length:Int),r.pl.1,r.pl.2]++r.cps++[r.tc.1,r.tc.2,r.stop]
theorem b5m{a b:Rp}(h:b6z a=b6z b):a=b:=by
 obtain⟨⟨p1,p2⟩,c,⟨t1,t2⟩,z⟩:=a
 obtain⟨⟨q1,q2⟩,d,⟨u1,u2⟩,y⟩:=b
 simp only[b6z,fJ,fF,fi]at h
 obtain⟨h1,h2,h3,h4⟩:=h
 have hl:c.length=d.length:=by omega
 obtain⟨h5,h6⟩:=List.append_inj h4 hl
 simp only[fi,and_true]at h6
 obtain⟨h7,h8,h9⟩:=h6
 rw[h2,h3,h5,h7,h8,h9]
def c4W(a b:Rp):Int:=kX (b6z a) (b6z b)
theorem vH{s:Sn}{pl:Ct}{cps:List Int}{a:Ct}{r:Rp}(h:r∈mF s pl cps a):r.pl=pl∧r.cps=cps∧r.tc=a:=by
 unfold mF at h
 split at h
 ·obtain⟨i,_,rfl⟩:=dE.1 h
  exact⟨rfl,rfl,rfl⟩
 ·cases h
theorem a1l{s:Sn}:∀(n:Nat){pl:Ct}{cps:List Int}{a:Ct}{seen:List Ct}{r:Rp},r∈full s n pl cps a seen→r.pl=pl∧∃t,r.cps=cps++t:=by
 intro n
 induction n with
 | zero=>
   intro pl cps a seen r h
   obtain⟨h1,h2,_⟩:=vH h
   exact⟨h1,[],by simp[h2]⟩
 | succ n ih=>
   intro pl cps a seen r h
   unfold full at h
   rcases dP.1 h with h|h
   ·obtain⟨h1,h2,_⟩:=vH h
    exact⟨h1,[],by simp[h2]⟩
   ·obtain⟨i,_,h⟩:=eT.1 h
    split at h
    ·obtain⟨h1,t,h2⟩:=ih h
     exact⟨h1,(i:Int)::t,by rw[h2];simp⟩
    ·cases h
theorem a6p(s:Sn)(pl:Ct)(cps:List Int)(a:Ct):(mF s pl cps a).Pairwise (·≠·):=by
 unfold mF
 split
 ·rw[fO]
  unfold lK a4V
  rw[fO]
  refine List.Pairwise.filter _ (List.pairwise_lt_range.imp fun h e=> ?_)
  simp only[Rp.mk.injEq,true_and]at e
  omega
 ·exact .nil
theorem b9N{s:Sn}:∀(n:Nat){pl:Ct}{cps:List Int}{a:Ct}{seen:List Ct},(full s n pl cps a seen).Pairwise (·≠·):=by
 intro n
 induction n with
 | zero=>intro pl cps a seen;exact a6p _ _ _ _
 | succ n ih=>
   intro pl cps a seen
   unfold full
   rw[eV]
   have hm:∀i,∀r∈(if onB s cps a seen i then full s n pl (cps++[(i:Int)]) (lU s i a) (seen++[lU s i a])else[]),∃t,r.cps=cps++(i:Int)::t:=fun i r h=>by
    split at h
    ·obtain⟨_,t,h2⟩:=a1l n h
     exact⟨t,by rw[h2];simp⟩
    ·cases h
   refine⟨a6p _ _ _ _,?_,fun x hx y hy e=> ?_⟩
   ·rw[List.pairwise_flatMap]
    refine⟨fun i _=> ?_,List.pairwise_lt_range.imp fun{i j}hij x hx y hy e=> ?_⟩
    ·split
     ·exact ih
     ·exact .nil
    ·obtain⟨t,h1⟩:=hm i x hx
     obtain⟨u,h2⟩:=hm j y hy
     rw[e,h2]at h1
     have h3:=List.append_cancel_left h1
     rw[fi]at h3
     omega
   ·obtain⟨i,_,hy⟩:=eT.1 hy
    obtain⟨t,h1⟩:=hm i y hy
    have h2:=(vH hx).2.1
    rw[e,h1]at h2
    have h3:=congrArg List.length h2
    simp at h3
theorem b9Y{s:Sn}:(a6A s).Pairwise (·≠·):=by
 unfold a6A
 rw[List.pairwise_flatMap]
 refine⟨fun c _=>b9N _,(b1p s.ks).imp fun{a b}hab x hx y hy e=> ?_⟩
 have h1:=(a1l _ hx).1
 have h2:=(a1l _ hy).1
 rw[e,h2]at h1
 rw[h1]at hab
 exact b0y hab
end Go.Ds
namespace Go.Ds
open Go.Proofs Go.Proofs.Tryz
variable {H:Heap}
set_option maxRecDepth 10000
set_option maxHeartbeats 1000000
def c5H(B:Base)(v:Value)(xs:List Int):Prop:=∀{H1:Heap}{os:List Ob},St prog B H1 os→Slx 1 (one I) H1 (nb (os.map (·.v))) v xs
def Rn.rp(r:Rn):Rp:=⟨r.pl,r.cps,r.tc,r.stop⟩
theorem a4X{s:Sn}(hf:s.Fit)(a:Ct):(lK s a).length≤60:=by
 refine dK (b0U s a _) ?_
 by_cases h:a.1.toNat<s.o.dvs.length
 ·exact hf.aT.stops _ h
 ·rw[show iG s.o.dvs a.1.toNat=default from by unfold iG;simp[h]]
  decide
theorem b6w{s:Sn}(hf:s.Fit)(pl:Ct)(cps:List Int)(a:Ct):(mF s pl cps a).length≤60:=by
 unfold mF
 split
 ·rw[dC];exact a4X hf a
 ·simp
theorem Slx.bn{α:Type}{n:Nat}{cel:α→List Value}{v:Value}{xs:List α}{vs vs':List Value}(h:Slx n cel H (nb vs) v xs)(hs:∀v∈vs',v∈vs):Slx n cel H (nb vs') v xs:=⟨h.1,fun b hb v hv=>h.2 b hb v (hs v hv)⟩
theorem St.cT{B:Base}{os rest:List Ob}{α:Type}{cel:α→List Value}{v:Value}{xs:List α}(hS:St prog B H (os++rest))(i:Nat){m:Nat}(ho:rest[i]? =some ⟨v,m+1,xs.flatMap cel⟩)(hc:∀x,(cel x).length=m+1):Slx (m+1) cel H (nb (os.map (·.v))) v xs:=by
 refine⟨hS.az (os.length+i) (by rw[dQ (by omega),eR];exact ho) hc,fun B hb=> ?_⟩
 rw[a9e]
 rintro⟨o,hm,hob⟩
 exact(eV.1 hS.sep).2.2 o hm _ (dB ho) B hob hb
theorem St.apart{B:Base}{os:List Ob}(hS:St prog B H os){i j:Nat}{o o':Ob}(hi:os[i]? =some o)(hj:os[j]? =some o')(hij:i<j){A:Nat}(h1:jY o.v=some A)(h2:jY o'.v=some A):False:=by
 obtain⟨hi1,rfl⟩:=dy.1 hi
 obtain⟨hj1,rfl⟩:=dy.1 hj
 exact eK.1 hS.sep i j hi1 hj1 hij A h1 h2
theorem Que.snoc{o:Org}{q:List Ct}{c:Ct}(h:Que o q)(hc:mB o c=true)(hn:c∉q):Que o (q++[c]):=by
 refine⟨List.nodup_append.2 ⟨h.1,by simp,fun a ha b hb e=> ?_⟩,fun x hx=> ?_⟩
 ·rw[dM]at hb
  exact hn (hb▸e▸ha)
 ·rcases dP.1 hx with h1|h1
  ·exact h.2 x h1
  ·rw[dM]at h1
   rw[h1]
   exact hc
def wA(s:Sn)(n:Nat)(pl:Ct)(cps:List Int)(a:Ct)(seen:List Ct)(q0:List Rp×Bool)(j:Nat):List Rp×Bool:=(List.range j).foldl (fun q i=>if q.2 then q else if rT s cps a seen i then a0L s n pl (cps++[(i:Int)]) (lU s i a) (seen++[lU s i a]) q else q) q0
theorem a0i(s:Sn)(n:Nat)(pl:Ct)(cps:List Int)(a:Ct)(seen:List Ct)(q0:List Rp×Bool)(j:Nat):wA s n pl cps a seen q0 (j+1)=if(wA s n pl cps a seen q0 j).2 then wA s n pl cps a seen q0 j else if rT s cps a seen j then a0L s n pl (cps++[(j:Int)]) (lU s j a) (seen++[lU s j a]) (wA s n pl cps a seen q0 j)else wA s n pl cps a seen q0 j:=by
 unfold wA
 rw[eN,gr]
 rfl
theorem a3P{s:Sn}{n:Nat}{pl:Ct}{cps:List Int}{a:Ct}{seen:List Ct}{q0:List Rp×Bool}{j:Nat}(h:(wA s n pl cps a seen q0 j).2=true):∀k,wA s n pl cps a seen q0 (j+k)=wA s n pl cps a seen q0 j
 | 0=>rfl
 | k+1=>by
   rw[←fZ,a0i,a3P h k,if_pos h]
theorem b1O(s:Sn)(n:Nat)(pl:Ct)(cps:List Int)(a:Ct)(seen:List Ct)(q:List Rp×Bool):a0L s (n+1) pl cps a seen q=wA s n pl cps a seen (q.1++mF s pl cps a,q.2||decide (500<(q.1++mF s pl cps a).length)) s.o.cpls.length:=rfl
def tT(s:Sn)(r:Rn):List Rn:=(mF s r.pl r.cps r.tc).map fun p=>p.rn r.cv
theorem b1e(s:Sn)(r:Rn):(tT s r).map Rn.rp=mF s r.pl r.cps r.tc:=by
 unfold tT
 rw[ig]
 exact List.map_id _
theorem b9X{s:Sn}{r:Rn}(h:r.cps=[])(h2:zB s r.pl.1=true):tT s r=[]:=by
 unfold tT mF
 rw[if_neg (by rw[h,h2];simp)]
 rfl
def wQ(s:Sn)(r:Rn)(j:Nat):List Rn:=((lK s r.tc).take j).map fun i=>⟨r.pl,r.cv,r.cps,r.tc,i⟩
theorem a6L{s:Sn}{r:Rn}(h:r.cps≠[]∨zB s r.pl.1=false):tT s r=wQ s r (lK s r.tc).length:=by
 unfold tT mF wQ
 rw[if_pos h,ig,eo]
 rfl
theorem a2Z(s:Sn)(r:Rn)(j:Nat)(h:j<(lK s r.tc).length):wQ s r (j+1)=wQ s r j++[⟨r.pl,r.cv,r.cps,r.tc,iG (lK s r.tc) j⟩]:=by
 unfold wQ
 rw[mS _ _ h,dN]
 rfl
theorem b6x{s:Sn}{r e:Rn}(h:e∈tT s r):e.cv=r.cv∧e.cps=r.cps:=by
 unfold tT at h
 obtain⟨p,hp,rfl⟩:=dE.1 h
 exact⟨rfl,(vH hp).2.1⟩
theorem b5H{s:Sn}(hf:s.Fit)(r:Rn):(tT s r).length≤60:=by
 unfold tT
 rw[dC]
 exact b6w hf _ _ _
theorem b5D(l:List Rn):(l.flatMap Rn.cells).length=l.length*6:=by
 induction l with
 | nil=>rfl
 | cons x l ih=>rw[dL,du,ih,dT,fS];show 6+_=_;omega
theorem b2X{s:Sn}(hf:s.Fit){M:Nat}{kvs:List (Ct×Int)}(hD:MapD kvs (qH s))(FV:Nat):∀(d:Nat){B:Base}{H:Heap}(r:Rn)(sv:Value)(seen:List Ct)(ov:Value)(es:List Rn)(many:Bool),
 St prog B H [⟨ptr FV 0 13,0,[.string s.o.name,s.o.rv,s.o.dv,s.o.cv,s.sv,.int .u64 s.rg.cpl,.int .u64 s.rg.off,s.kv,I s.p.1,I s.p.2,.map (some M),ov,.bool many]⟩,⟨ov,6,es.flatMap Rn.cells⟩]→
 (∀{H1 os},St prog B H1 os→s.In H1∧OwnAt prog H1 ⟨.map (some M),0,KN kvs⟩∧Sl 2 lE H1 sv seen)→c5H B r.cv r.cps→Que s.o seen→mB s.o r.tc=true→0≤r.pl.1→r.cps.length=seen.length→seen.length+d=1025→es.length≤90000→
 Fn prog 52 [ptr FV 0 13,r.v,sv] H fun q H'=>q=.tuple #[]∧∃(ov':Value)(new:List Rn)(many':Bool),(many'=false→(es++new).length≤500)∧((es++new).length≤es.length+60∨(es++new).length≤560)∧((es++new).map Rn.rp,many')=a0L s d r.pl r.cps r.tc seen (es.map Rn.rp,many)∧
  (∀e∈new,Slx 1 (one I) H' (nb [ptr FV 0 13,ov']) e.cv e.cps∧e.cps.length≤1024∧∀A,jY e.cv=some A→jY r.cv=some A∨B.H.length≤A)∧
  St prog B H' [⟨ptr FV 0 13,0,[.string s.o.name,s.o.rv,s.o.dv,s.o.cv,s.sv,.int .u64 s.rg.cpl,.int .u64 s.rg.off,s.kv,I s.p.1,I s.p.2,.map (some M),ov',.bool many']⟩,⟨ov',6,(es++new).flatMap Rn.cells⟩]:=by
 intro d
 induction d with
 | zero=>
   intro B H r sv seen ov es many hS hI hr hq hok hpl hrs hn hel
   have:=hq.len hf.aT
   omega
 | succ d ih=>
 intro B H r sv seen ov es many hS hI hr hq hok hpl hrs hn hel
 have hrl:r.cps.length<2000:=by have:=hq.len hf.aT;omega
 have hok2:=(kU s.o _).1 hok
 have hfi:=hf.aT
 have hcl:=hfi.clen
 refine .cB func52 rfl (by kernel_rfl) (m:=137) rfl fun l hn g0 g1 g2=> ?_
 refine b0l (fun l H'=>l.length=137∧get l 0=(ptr FV 0 13)∧get l 2=sv∧∃(V4:Nat)(ov1:Value)(z:Int)(mn0:Bool),(mn0=(or many (decide (500<(es++tT s r).length))))∧get l 4=(ptr V4 0 6)∧St prog B H' [⟨ptr FV 0 13,0,[(.string s.o.name),s.o.rv,s.o.dv,s.o.cv,s.sv,(.int .u64 s.rg.cpl),(.int .u64 s.rg.off),s.kv,I s.p.1,I s.p.2,(.map (some M)),ov1,(.bool mn0)]⟩,⟨ov1,6,(es++tT s r).flatMap Rn.cells⟩,⟨ptr V4 0 6,0,[I r.pl.1,I r.pl.2,r.cv,I r.tc.1,I r.tc.2,I z]⟩]) ?_ ?_
 ·rintro l H1⟨hn,g0,g2,V4,ov1,z,mn0,hm0,g4,hS1⟩
  have hnl:=b5H hf r
  obtain⟨q0,hq0⟩:∃q0,q0=((es++tT s r).map Rn.rp,mn0):=⟨_,rfl⟩
  have hq1:q0=(es.map Rn.rp++mF s r.pl r.cps r.tc,many||decide (500<(es.map Rn.rp++mF s r.pl r.cps r.tc).length)):=by
   rw[hq0,hm0,dN,b1e,du,du,dC,←b1e s r,dC]
  have hF:a0L s (d+1) r.pl r.cps r.tc seen (es.map Rn.rp,many)=wA s d r.pl r.cps r.tc seen q0 s.o.cpls.length:=by rw[b1O,hq1]
  simp(disch:=omega) only[↓RA,RZ,simprocAttr,hn,g0,lD,lB,hS1.ld 0 rfl,((hI hS1).1.o.2.2.2.2.1).len]
  refine Wp.aj (fun n l H'=>l.length=137∧get l 0=(ptr FV 0 13)∧get l 2=sv∧get l 4=(ptr V4 0 6)∧get l 75=I s.o.cpls.length∧∃(j:Nat)(ov2:Value)(new:List Rn)(mn:Bool),(n+j=s.o.cpls.length∧((es++new).map Rn.rp,mn)=wA s d r.pl r.cps r.tc seen q0 j∧(∀e∈new,Slx 1 (one I) H' (nb [ptr FV 0 13,ov2,ptr V4 0 6]) e.cv e.cps∧e.cps.length≤1024∧∀A,jY e.cv=some A→jY r.cv=some A∨B.H.length≤A)∧(mn=false→(es++new).length≤500)∧((es++new).length≤es.length+60∨(es++new).length≤560))∧get l 76=I j∧St prog B H' [⟨ptr FV 0 13,0,[.string s.o.name,s.o.rv,s.o.dv,s.o.cv,s.sv,.int .u64 s.rg.cpl,.int .u64 s.rg.off,s.kv,I s.p.1,I s.p.2,.map (some M),ov2,.bool mn]⟩,⟨ov2,6,(es++new).flatMap Rn.cells⟩,⟨ptr V4 0 6,0,[I r.pl.1,I r.pl.2,r.cv,I r.tc.1,I r.tc.2,I z]⟩]) s.o.cpls.length ?_ ?_
  ·simp(disch:=omega) only[RB,RC,simprocAttr,hn,g0,g2,g4]
   refine⟨0,ov1,tT s r,mn0,⟨by omega,by rw[hq0];rfl,fun e he=> ?_,fun h=> ?_,.inl ?_⟩,rfl,hS1⟩
   ·obtain⟨e1,e2⟩:=b6x he
    rw[e1,e2]
    exact⟨hr hS1,by have:=hq.len hfi;omega,fun A hA=>.inl hA⟩
   ·rw[h]at hm0
    cases many
    ·simpa using hm0
    ·simp at hm0
   ·rw[du]
    omega
  rintro n l H2⟨hn,g0,g2,g4,g75,j,ov2,new,mn,⟨hj,hQ,hN,hL1,hL2⟩,g76,hS2⟩
  simp(disch:=omega) only[↓RA,RB,simprocAttr,hn,g75,g76]
  refine iF (fun q1=> ?_) (fun q1=> ?_)
  ·simp(disch:=omega) only[↓RA,RZ,simprocAttr,hn,g0,g76,lD,lB,hS2.ld 0 rfl,q1]
   refine jD (fun q2=> ?_) (fun q2=> ?_)
   ·have hst:wA s d r.pl r.cps r.tc seen q0 s.o.cpls.length=wA s d r.pl r.cps r.tc seen q0 j:=by
     have:=a3P (s:=s) (n:=d) (pl:=r.pl) (cps:=r.cps) (a:=r.tc) (seen:=seen) (q0:=q0) (j:=j) (by rw[←hQ];exact q2) n
     rw[←hj,Nat.add_comm n j]
     exact this
    simp(disch:=omega) only[↓RA,RZ,simprocAttr,c4s,q1,q2]
    exact⟨ov2,new,mn,hL1,hL2,by rw[hF,hst,hQ],fun e he=>⟨(hN e he).1.bn (by simp),(hN e he).2⟩,hS2.pick [0,1] (by decide) rfl⟩
   have hmf:mn=false:=by simpa using q2
   have hel2:=hL1 hmf
   have hl0:decide ((r.cps.length:Int)=0)=decide (r.cps.length=0):=decide_eq_decide.2 (by omega)
   have hpre:=hS2
   obtain⟨B1,hBB1,hS3⟩:=hS2.aQ (os:=[⟨ptr FV 0 13,0,_⟩,⟨ov2,6,_⟩,⟨ptr V4 0 6,0,_⟩])
   have hun:∀{H1 os},St prog B1 H1 os→St prog B H1 os:=fun h=>hpre.ax hBB1 h
   simp(disch:=omega) only[↓RA,RC,simprocAttr,q1,q2]
   refine Wp.drw kJ (by kernel_rfl) ?_
   simp(disch:=omega) only[↓RA,RZ,simprocAttr,hn,g0,g4,lD,lB,hS3.ae 0 rfl,hS3.ae 2 rfl,hS3.ld 2 rfl,((hr (hS2.ax hBB1 hS3)).1).len,q2,hl0]
   refine hS3.cF (rR s (hI (hS2.ax hBB1 hS3)).1 hf j r.tc (decide (r.cps.length=0))) fun H3 hS4=> ?_
   simp(disch:=omega) only[↓RA,RZ,simprocAttr,hn]
   refine hS4.eNew 2 [I 0,I 0] rfl rfl rfl lG fun A1 H4 hS5=> ?_
   simp only[RT]at hS5
   simp(disch:=omega) only[↓RA,RB,simprocAttr,hn]
   refine hS5.aa 3 rfl [I (lU s j r.tc).1,I (lU s j r.tc).2] rfl rfl lG (by simp) fun H5 hS6=> ?_
   simp only[RT]at hS6
   simp(disch:=omega) only[↓RA,RB,simprocAttr,hn]
   refine Wp.drw kJ (by kernel_rfl) ?_
   simp(disch:=omega) only[↓RA,RZ,simprocAttr,hn,g0,lD,lB,hS6.ld 0 rfl,hS6.ae 3 rfl,q2]
   refine(St.aR (((hI (hS2.ax hBB1 hS6)).2.1))).aX (k:=lU s j r.tc) 0 rfl uT (fun _=>rfl) ?_
   simp(disch:=omega) only[↓RA,RZ,simprocAttr,hn]
   have hno:rT s r.cps r.tc seen j=false→((es++new).map Rn.rp,mn)=wA s d r.pl r.cps r.tc seen q0 (j+1):=fun h=>by rw[a0i,←hQ,if_neg (by simp[hmf]),h,if_neg (by simp)]
   have hkp:∀{H1 os},St prog B1 H1 os→∀e∈new,Slx 1 (one I) H1 (nb (os.map (·.v))) e.cv e.cps:=fun h e he=>(hN e he).1.step (h.kept hBB1)
   refine kL (fun q3=> ?_) (fun q3=> ?_)
   ·simp(disch:=omega) only[↓RA,RZ,simprocAttr,hn,g0,g2,g4,g75,g76,q3]
    refine⟨n-1,by omega,j+1,ov2,new,mn,⟨by omega,hno (by unfold rT onB;rw[show ldB s j r.tc (decide (r.cps.length=0))=false from by simpa using q3];simp),fun e he=>⟨(hkp hS6 e he).bn (by simp),(hN e he).2⟩,hL1,hL2⟩,by simp,?_⟩
    exact(hS2.ax hBB1 hS6).pick [0,1,2] (by decide) rfl
   have hld:ldB s j r.tc (decide (r.cps.length=0))=true:=by simpa using q3
   simp(disch:=omega) only[↓RA,RZ,simprocAttr,hn,q3]
   refine kL (fun q4=> ?_) (fun q4=> ?_)
   ·simp(disch:=omega) only[↓RA,RZ,simprocAttr,hn,g0,g2,g4,g75,g76,q3,q4]
    refine⟨n-1,by omega,j+1,ov2,new,mn,⟨by omega,hno (by unfold rT;rw[a0Y hD (t:=lU s j r.tc) (by simpa using q4)];simp),fun e he=>⟨(hkp hS6 e he).bn (by simp),(hN e he).2⟩,hL1,hL2⟩,by simp,?_⟩
    exact(hS2.ax hBB1 hS6).pick [0,1,2] (by decide) rfl
   have hkg:(vL kvs (lU s j r.tc)).isSome=true:=by simpa using q4
   simp(disch:=omega) only[↓RA,RZ,simprocAttr,hn,g2,hS6.ae 3 rfl,q3,q4]
   refine hS6.cF (a2j sv seen (hI (hS2.ax hBB1 hS6)).2.2 (by omega) (lU s j r.tc)) fun H6 hS7=> ?_
   simp(disch:=omega) only[↓RA,RB,simprocAttr,hn,q3,q4]
   refine iF (fun q5=> ?_) (fun q5=> ?_)
   ·simp(disch:=omega) only[↓RA,RZ,simprocAttr,hn,g0,g2,g4,g75,g76,q3,q4,q5]
    refine⟨n-1,by omega,j+1,ov2,new,mn,⟨by omega,hno (by unfold rT onB;rw[decide_eq_true q5];simp),fun e he=>⟨(hkp hS7 e he).bn (by simp),(hN e he).2⟩,hL1,hL2⟩,by simp,?_⟩
    exact(hS2.ax hBB1 hS7).pick [0,1,2] (by decide) rfl
   have hnr:rT s r.cps r.tc seen j=true:=by
    obtain⟨e,he1,_⟩:=xX hD hkg
    unfold rT onB
    rw[hld,he1,decide_eq_false q5]
    rfl
   have hsc:=a4C hf hld
   have hql:=hq.len hfi
   simp(disch:=omega) only[↓RA,RZ,simprocAttr,q3,q4,q5]
   refine Wp.aL kJ [(1,5),(1,8),(8,0),(8,5)] (by kernel_rfl) (by kernel_rfl) ?_
   simp(disch:=omega) only[↓RA,RZ,simprocAttr,hn,g4,hS7.ae 2 rfl,hS7.ld 2 rfl]
   refine iR ((a8S r.cv r.cps (hr (hS2.ax hBB1 hS7)).1 (by omega)).tr) ?_
   rintro r H7⟨-,hT3⟩
   have hS8:=hS7.trans hT3
   simp only[RT]at hS8
   obtain⟨cw,rfl⟩:∃w,w=r:=⟨r,rfl⟩
   simp(disch:=omega) only[↓RA,RB,simprocAttr,hn]
   refine hS8.ak [I j] pZ wS rfl rfl (by simp[Value.cells]) rfl rfl (by decide) (by decide) fun w1 H8 hS9=> ?_
   simp only[RT]at hS9
   simp(disch:=omega) only[↓RA,RZ,simprocAttr,hn]
   refine hS9.av 4 rfl (hS9.rd 5 rfl) pZ (by rw[lN,dC];simp;omega) fun w2 H9 hS10=> ?_
   simp only[RT]at hS10
   simp(disch:=omega) only[↓RA,RZ,simprocAttr,hn,hS10.ae 3 rfl,a8f (hS10.rd 4 rfl).cells]
   refine hS10.eNew 6 [I 0,I 0,(.slice none 0 0),I 0,I 0,I 0] rfl rfl rfl nP fun A2 H10 hS11=> ?_
   simp only[RT]at hS11
   simp(disch:=omega) only[↓RA,RB,simprocAttr,hn]
   refine hS11.aa 6 rfl [I r.pl.1,I r.pl.2,w2,I (lU s j r.tc).1,I (lU s j r.tc).2,I 0] rfl (by simp[OC,(hS11.rd 4 rfl).cells.2.1]) nP (by simp) fun H11 hS12=> ?_
   simp only[RT]at hS12
   simp(disch:=omega) only[↓RA,RZ,simprocAttr,hn,hS8.ae 2 rfl,hS10.ae 2 rfl,hS7.ae 3 rfl,hS8.ae 3 rfl]
   refine Wp.aL kJ [(1,4),(1,7),(4,0)] (by kernel_rfl) (by kernel_rfl) ?_
   simp(disch:=omega) only[↓RA,RZ,simprocAttr,hn,g0,g2,hS12.ae 6 rfl]
   refine iR ((a9J sv seen (hI (hS2.ax hBB1 hS12)).2.2 (by omega)).tr) ?_
   rintro r H12⟨-,hT4⟩
   have hS13:=hS12.trans hT4
   simp only[RT]at hS13
   obtain⟨sw,rfl⟩:∃w,w=r:=⟨r,rfl⟩
   simp(disch:=omega) only[↓RA,RZ,simprocAttr,hn,hS13.ae 3 rfl]
   refine hS13.ak [I (lU s j r.tc).1,I (lU s j r.tc).2] tH a7u rfl rfl (by simp[Value.cells]) rfl rfl (by decide) (by decide) fun w3 H13 hS14=> ?_
   simp only[RT]at hS14
   simp(disch:=omega) only[↓RA,RZ,simprocAttr,hn]
   refine hS14.av 7 rfl (hS14.rd 8 rfl) tH (by rw[show(seen.flatMap lE).length=seen.length*2 from iO seen];simp;omega) fun w4 H14 hS15=> ?_
   simp only[RT]at hS15
   simp(disch:=omega) only[↓RA,RZ,simprocAttr,hn]
   have hfm:r.cps.flatMap (one I)++[I j]=(r.cps++[(j:Int)]).flatMap (one I):=by rw[dD];rfl
   have hfs:seen.flatMap lE++[I (lU s j r.tc).1,I (lU s j r.tc).2]=(seen++[lU s j r.tc]).flatMap lE:=by rw[dD];rfl
   rw[hfm,hfs]at hS15
   have hSc:=hS15
   have hM1:=hS15.pick (os':=[⟨ptr FV 0 13,0,_⟩,⟨ov2,6,_⟩]) [0,1] (by decide) rfl
   have hR1:=hS15.pick (os':=[⟨ptr FV 0 13,0,_⟩,⟨ov2,6,_⟩,⟨ptr V4 0 6,0,_⟩,⟨ptr A1 0 2,0,_⟩,⟨w2,1,_⟩,⟨w1,1,_⟩,⟨ptr A2 0 6,0,_⟩,⟨w4,2,_⟩,⟨w3,2,_⟩]) [0,1,2,3,4,5,6,7,8] (by decide) rfl
   refine iR (ih ⟨r.pl,w2,r.cps++[(j:Int)],lU s j r.tc,0⟩ w4 (seen++[lU s j r.tc]) ov2 (es++new) mn hM1.aO (fun h=>⟨(hI (hun (hR1.frame h.forget))).1,(hI (hun (hR1.frame h.forget))).2.1,(hR1.frame h.forget).az 5 rfl kI⟩) (fun h=>St.cT (rest:=[_,_,⟨w2,0+1,(r.cps++[(j:Int)]).flatMap (one I)⟩,_,_,_,_]) (St.frame (ls:=[_,_]) hR1 h) 2 rfl (fun _=>rfl)) (hq.snoc hsc q5) hsc hpl (by simp;omega) (by simp;omega) (by omega)) ?_
   rintro r H15⟨rfl,ov3,new2,mn2,hM1,hM2,hM3,hM4,hT5⟩
   have hS16:=hR1.frame hT5
   simp only[RT]at hS16
   simp(disch:=omega) only[↓RA,RZ,simprocAttr,hn,g0,g2,g4,g75,g76,hS13.ae 6 rfl,hS15.ae 6 rfl,hS12.ae 3 rfl]
   have hl0:B.H.length≤H15.length:=((hS2.ax hBB1 hS16)).len
   refine⟨n-1,by omega,j+1,ov3,new++new2,mn2,⟨by omega,?_,fun e he=> ?_,fun h=> ?_,?_⟩,by simp,?_⟩
   ·rw[a0i,←hQ,if_neg (by simp[hmf]),if_pos hnr,←hM3,ee]
   ·rcases dP.1 he with he|he
    ·exact⟨(hkp hS16 e he).bn (by simp),(hN e he).2⟩
    ·obtain⟨h1,h0,h2⟩:=hM4 e he
     refine⟨⟨h1.1,fun A hA v hv=> ?_⟩,h0,fun A hA=> ?_⟩
     ·simp only[ej,eF,or_false]at hv
      rcases hv with rfl|rfl|rfl
      ·exact h1.2 A hA _ (by simp)
      ·exact h1.2 A hA _ (by simp)
      ·intro hV
       rcases h2 A hA with h3|h3
       ·exact hSc.apart (i:=2) (j:=4) rfl rfl (by decide) hV h3
       ·exact absurd ((hSc.own _ (dB (i:=2) rfl)).lt hV) (Nat.not_lt.2 h3)
     ·refine .inr ?_
      rcases h2 A hA with h3|h3
      ·rcases hSc.new _ (dB (i:=4) rfl) A h3 with h4|h4
       ·rw[hBB1]at h4
        exact dK hpre.len h4
       ·rw[hBB1]at h4
        obtain⟨o,ho,hob⟩:=h4
        simp only[ej,eF,or_false]at ho
        rcases ho with rfl|rfl|rfl
        ·exact(hSc.apart (i:=0) (j:=4) rfl rfl (by decide) hob h3).elim
        ·exact(hSc.apart (i:=1) (j:=4) rfl rfl (by decide) hob h3).elim
        ·exact(hSc.apart (i:=2) (j:=4) rfl rfl (by decide) hob h3).elim
      ·exact dK (hun hSc).len h3
   ·have:=hM1 h
    rw[ee]at this
    exact this
   ·have h5:(es++new++new2).length≤560:=by omega
    rw[ee]at h5
    exact .inr h5
   ·rw[←ee]
    exact(hS2.ax hBB1 hS16).pick [0,1,2] (by decide) rfl
  have hjj:j=s.o.cpls.length:=by omega
  simp(disch:=omega) only[↓RA,RZ,simprocAttr,c4s,q1]
  exact⟨ov2,new,mn,hL1,hL2,by rw[hF,←hjj,hQ],fun e he=>⟨(hN e he).1.bn (by simp),(hN e he).2⟩,hS2.pick [0,1] (by decide) rfl⟩
 refine b7H (fun l H'=>l.length=137∧get l 0=(ptr FV 0 13)∧get l 2=sv∧∃(V4:Nat)(ov1:Value)(z:Int),get l 4=(ptr V4 0 6)∧St prog B H' [⟨ptr FV 0 13,0,[(.string s.o.name),s.o.rv,s.o.dv,s.o.cv,s.sv,(.int .u64 s.rg.cpl),(.int .u64 s.rg.off),s.kv,I s.p.1,I s.p.2,(.map (some M)),ov1,(.bool many)]⟩,⟨ov1,6,(es++tT s r).flatMap Rn.cells⟩,⟨ptr V4 0 6,0,[I r.pl.1,I r.pl.2,r.cv,I r.tc.1,I r.tc.2,I z]⟩]) ?_ ?_
 ·rintro l H16⟨hn,g0,g2,V4,ov1,z,g4,hS17⟩
  simp(disch:=omega) only[↓RA,RZ,simprocAttr,hn,g0,lD,lB,hS17.ld 0 rfl]
  refine kL (fun q0=> ?_) (fun q0=> ?_)
  ·simp(disch:=omega) only[↓RA,RZ,simprocAttr,hn,lD,lB,q0]
   refine hS17.aa 0 rfl [(.bool true)] rfl rfl tS4 (by simp) fun H17 hS18=> ?_
   simp only[RT]at hS18
   simp(disch:=omega) only[↓RA,RZ,simprocAttr,hn,g0,g2,g4,lC,q0]
   refine⟨V4,ov1,z,true,?_,rfl,?_⟩
   ·rfl
   ·exact hS18
  simp(disch:=omega) only[↓RA,RZ,simprocAttr,hn,g0,lD,lB,hS17.ld 0 rfl,(hS17.az 1 rfl (fun _=>rfl)).len,q0]
  refine hS17.aa 0 rfl [_] rfl rfl tS4 (by simp) fun H18 hS19=> ?_
  simp only[RT]at hS19
  simp(disch:=omega) only[↓RA,RZ,simprocAttr,hn,g0,g2,g4,lC,q0]
  refine⟨V4,ov1,z,_,?_,rfl,hS19⟩
  rw[Bool.false_or]
  exact decide_eq_decide.2 (by omega)
 simp(disch:=omega) only[↓RA,RB,simprocAttr,g1]
 refine hS.eNew 6 [I r.pl.1,I r.pl.2,r.cv,I r.tc.1,I r.tc.2,I r.stop] rfl rfl (by simp[OC,((hr hS).1).cells.2.1]) nP fun A3 H19 hS20=> ?_
 simp only[RT]at hS20
 simp(disch:=omega) only[↓RA,simprocAttr]
 refine Wp.drw kJ (by kernel_rfl) ?_
 simp(disch:=omega) only[↓RA,RZ,simprocAttr,hn,hS20.ld 2 rfl,((hr hS20).1).len]
 refine iS (fun q1=> ?_) (fun q1=> ?_)
 ·have hyes:tT s r=wQ s r (lK s r.tc).length:=a6L (.inl fun h=>by rw[h]at q1;simp at q1)
  simp(disch:=omega) only[↓RA,RZ,simprocAttr,hn,q1]
  refine Wp.drw kJ (by kernel_rfl) ?_
  simp(disch:=omega) only[↓RA,RZ,simprocAttr,hn,g0,lD,lB,hS20.ae 0 rfl,hS20.ae 2 rfl]
  refine iR ((uO s (hI hS20).1 hf r.tc ⟨hok2.1,hok2.2.1⟩).tr) ?_
  rintro r H20⟨-,hT6⟩
  have hS21:=hS20.trans hT6
  simp only[RT]at hS21
  obtain⟨pw,rfl⟩:∃w,w=r:=⟨r,rfl⟩
  have hsl:=a4X hf r.tc
  simp(disch:=omega) only[↓RA,RZ,simprocAttr,hn,(hS21.az 3 rfl (fun _=>rfl)).len]
  refine Wp.aj (fun n l H'=>l.length=137∧get l 0=(ptr FV 0 13)∧get l 2=sv∧get l 4=(ptr A3 0 6)∧get l 35=pw∧get l 36=I (lK s r.tc).length∧∃(k:Nat)(ow:Value)(z:Int),(n+k=(lK s r.tc).length)∧get l 37=I k∧St prog B H' [⟨ptr FV 0 13,0,[.string s.o.name,s.o.rv,s.o.dv,s.o.cv,s.sv,.int .u64 s.rg.cpl,.int .u64 s.rg.off,s.kv,I s.p.1,I s.p.2,.map (some M),ow,.bool many]⟩,⟨ow,6,(es++wQ s r k).flatMap Rn.cells⟩,⟨ptr A3 0 6,0,[I r.pl.1,I r.pl.2,r.cv,I r.tc.1,I r.tc.2,I z]⟩,⟨pw,1,(lK s r.tc).flatMap (one I)⟩]) (lK s r.tc).length ?_ ?_
  ·simp(disch:=omega) only[RB,RC,simprocAttr,hn,g0,g2]
   refine⟨0,ov,r.stop,by omega,rfl,?_⟩
   rw[show wQ s r 0=[]from rfl,dA]
   exact hS21
  rintro n l H21⟨hn,g0,g2,g4,g35,g36,k,ow,z,hk,g37,hS22⟩
  simp(disch:=omega) only[↓RA,RB,simprocAttr,hn,g36,g37]
  refine iF (fun q3=> ?_) (fun q3=> ?_)
  ·have hnj:(wQ s r k).length≤60:=by
    unfold wQ
    rw[dC,fy]
    omega
   simp(disch:=omega) only[↓RA,RZ,simprocAttr,hn,g4,g35,g37,(hS22.az 3 rfl (fun _=>rfl)).idx,(hS22.az 3 rfl (fun _=>rfl)).ld,one,q3]
   refine hS22.aa 2 rfl [I (iG (lK s r.tc) k)] rfl rfl tS3 (by simp) fun H22 hS23=> ?_
   simp only[RT]at hS23
   simp(disch:=omega) only[↓RA,RZ,simprocAttr,q3]
   refine Wp.aL kJ [(4,7)] (by kernel_rfl) (by kernel_rfl) ?_
   simp(disch:=omega) only[↓RA,RZ,simprocAttr,hn,g0,g4,lD,lB,hS23.ld 0 rfl,hS23.ae 2 rfl]
   refine hS23.ak [I r.pl.1,I r.pl.2,r.cv,I r.tc.1,I r.tc.2,I (iG (lK s r.tc) k)] b8C c3A rfl rfl (by first|(simp[];done)|simp[Value.cells]) (by first|(simp[];done)|simp[Value.cells]) (by simp[OC,((hr hS23).1).cells.2.1]) (by decide) (by decide) fun w5 H23 hS24=> ?_
   simp only[RT]at hS24
   simp(disch:=omega) only[↓RA,RZ,simprocAttr,hn]
   refine hS24.av 1 rfl (hS24.rd 4 rfl) b8C (by rw[b5D];simp;omega) fun w6 H24 hS25=> ?_
   simp only[RT]at hS25
   simp(disch:=omega) only[↓RA,RZ,simprocAttr,hn,lD,lB]
   refine hS25.aa 0 rfl [w6] (by rw[(hS25.rd 1 rfl).cells.1]) (by simp[(hS25.rd 1 rfl).cells.2.1]) c2j (by simp) fun H25 hS26=> ?_
   simp only[RT]at hS26
   simp(disch:=omega) only[↓RA,RZ,simprocAttr,hn,g0,g2,g4,g35,g36,g37,hS24.ld 0 rfl]
   refine⟨n-1,by omega,k+1,w6,iG (lK s r.tc) k,by omega,by simp,?_⟩
   rw[a2Z s r k (by omega),←ee,dD]
   exact hS26.pick [0,1,2,3] (by decide) rfl
  have hkk:k=(lK s r.tc).length:=by omega
  simp(disch:=omega) only[↓RA,RZ,simprocAttr,hn,g0,g2,g4,q3,lC]
  rw[hyes,←hkk]
  exact⟨A3,ow,z,rfl,hS22.pick [0,1,2] (by decide) rfl⟩
 have hce:r.cps=[]:=ed.1 (by omega)
 simp(disch:=omega) only[↓RA,RZ,simprocAttr,hn,g0,lD,lB,hS20.ae 0 rfl,hS20.ld 2 rfl,q1]
 refine hS20.cF (a4M s (hI hS20).1 r.pl.1 hpl) fun H26 hS27=> ?_
 simp(disch:=omega) only[↓RA,RZ,simprocAttr,hn,q1]
 refine jD (fun q2=> ?_) (fun q2=> ?_)
 ·have hyes:tT s r=wQ s r (lK s r.tc).length:=a6L (.inr (by simpa using q2))
  simp(disch:=omega) only[↓RA,RC,simprocAttr,q1,q2]
  refine Wp.drw kJ (by kernel_rfl) ?_
  simp(disch:=omega) only[↓RA,RZ,simprocAttr,hn,g0,lD,lB,hS27.ae 0 rfl,hS27.ae 2 rfl]
  refine iR ((uO s (hI hS27).1 hf r.tc ⟨hok2.1,hok2.2.1⟩).tr) ?_
  rintro r H27⟨-,hT8⟩
  have hS28:=hS27.trans hT8
  simp only[RT]at hS28
  obtain⟨pw,rfl⟩:∃w,w=r:=⟨r,rfl⟩
  have hsl:=a4X hf r.tc
  simp(disch:=omega) only[↓RA,RZ,simprocAttr,hn,(hS28.az 3 rfl (fun _=>rfl)).len]
  refine Wp.aj (fun n l H'=>l.length=137∧get l 0=(ptr FV 0 13)∧get l 2=sv∧get l 4=(ptr A3 0 6)∧get l 35=pw∧get l 36=I (lK s r.tc).length∧∃(k:Nat)(ow:Value)(z:Int),(n+k=(lK s r.tc).length)∧get l 37=I k∧St prog B H' [⟨ptr FV 0 13,0,[.string s.o.name,s.o.rv,s.o.dv,s.o.cv,s.sv,.int .u64 s.rg.cpl,.int .u64 s.rg.off,s.kv,I s.p.1,I s.p.2,.map (some M),ow,.bool many]⟩,⟨ow,6,(es++wQ s r k).flatMap Rn.cells⟩,⟨ptr A3 0 6,0,[I r.pl.1,I r.pl.2,r.cv,I r.tc.1,I r.tc.2,I z]⟩,⟨pw,1,(lK s r.tc).flatMap (one I)⟩]) (lK s r.tc).length ?_ ?_
  ·simp(disch:=omega) only[RB,RC,simprocAttr,hn,g0,g2]
   refine⟨0,ov,r.stop,by omega,rfl,?_⟩
   rw[show wQ s r 0=[]from rfl,dA]
   exact hS28
  rintro n l H28⟨hn,g0,g2,g4,g35,g36,k,ow,z,hk,g37,hS29⟩
  simp(disch:=omega) only[↓RA,RB,simprocAttr,hn,g36,g37]
  refine iF (fun q3=> ?_) (fun q3=> ?_)
  ·have hnj:(wQ s r k).length≤60:=by
    unfold wQ
    rw[dC,fy]
    omega
   simp(disch:=omega) only[↓RA,RZ,simprocAttr,hn,g4,g35,g37,(hS29.az 3 rfl (fun _=>rfl)).idx,(hS29.az 3 rfl (fun _=>rfl)).ld,one,q3]
   refine hS29.aa 2 rfl [I (iG (lK s r.tc) k)] rfl rfl tS3 (by simp) fun H29 hS30=> ?_
   simp only[RT]at hS30
   simp(disch:=omega) only[↓RA,RZ,simprocAttr,q3]
   refine Wp.aL kJ [(4,7)] (by kernel_rfl) (by kernel_rfl) ?_
   simp(disch:=omega) only[↓RA,RZ,simprocAttr,hn,g0,g4,lD,lB,hS30.ld 0 rfl,hS30.ae 2 rfl]
   refine hS30.ak [I r.pl.1,I r.pl.2,r.cv,I r.tc.1,I r.tc.2,I (iG (lK s r.tc) k)] b8C c3A rfl rfl (by first|(simp[];done)|simp[Value.cells]) (by first|(simp[];done)|simp[Value.cells]) (by simp[OC,((hr hS30).1).cells.2.1]) (by decide) (by decide) fun w7 H30 hS31=> ?_
   simp only[RT]at hS31
   simp(disch:=omega) only[↓RA,RZ,simprocAttr,hn]
   refine hS31.av 1 rfl (hS31.rd 4 rfl) b8C (by rw[b5D];simp;omega) fun w8 H31 hS32=> ?_
   simp only[RT]at hS32
   simp(disch:=omega) only[↓RA,RZ,simprocAttr,hn,lD,lB]
   refine hS32.aa 0 rfl [w8] (by rw[(hS32.rd 1 rfl).cells.1]) (by simp[(hS32.rd 1 rfl).cells.2.1]) c2j (by simp) fun H32 hS33=> ?_
   simp only[RT]at hS33
   simp(disch:=omega) only[↓RA,RZ,simprocAttr,hn,g0,g2,g4,g35,g36,g37,hS31.ld 0 rfl]
   refine⟨n-1,by omega,k+1,w8,iG (lK s r.tc) k,by omega,by simp,?_⟩
   rw[a2Z s r k (by omega),←ee,dD]
   exact hS33.pick [0,1,2,3] (by decide) rfl
  have hkk:k=(lK s r.tc).length:=by omega
  simp(disch:=omega) only[↓RA,RZ,simprocAttr,hn,g0,g2,g4,q3,lC]
  rw[hyes,←hkk]
  exact⟨A3,ow,z,rfl,hS29.pick [0,1,2] (by decide) rfl⟩
 have hnot:tT s r=[]:=b9X hce (by simpa using q2)
 simp(disch:=omega) only[↓RA,RZ,simprocAttr,hn,g0,g2,lC,lC,q1,q2]
 rw[hnot,dA]
 exact⟨_,ov,r.stop,rfl,hS27⟩
end Go.Ds
namespace Go.Ds
open Go.Proofs
open Go.Shelf Go.RowKit Go.Lib Go.Sort
def b5k(P:Program)(K kc:FuncId)(k:Nat):Prop:=∀{N:Nat}[Inhabited (Fin N)](enc:Fin N→List Value)(_:∀x,(enc x).length=k)(_:∀x,∀v∈enc x,v.oneCell'=true)(cf:Fin N→Fin N→Int)(_:SWO (ltOf cf))(_:∀x y,(ltOf cf) x y=false→(ltOf cf) y x=false→x=y)(jY off cap:Nat)(d:Array (Fin N))(w:World),
    CmpLays P kc #[] enc k cf jY off d.size w→HoldsK enc k w jY off d→jY<w.heap.size→d.size<4611686018427387904→
    Calls P K #[.slice (some ⟨jY,off,none⟩) d.size cap,.func (.func kc) #[] #[]] w fun e w'=>e=.returned (.tuple #[])∧∃n os,w'=sortWorldK enc k w jY off n (d.toList.mergeSort fun x y=> !(ltOf cf) y x).toArray os
theorem b4e{α:Type}[Inhabited α]{enc:α→List Value}{k:Nat}(hk0:0<k)(hk:∀x,(enc x).length=k):∀(l:List α)(j:Nat),j<l.length*k→(enc (l.toArray[j/k]!))[j%k]! =(l.flatMap enc).getD j undef:=by
 intro l
 induction l with
 | nil=>intro j hj;simp at hj
 | cons x l ih=>
   intro j hj
   rw[dL]
   by_cases h:j<k
   ·have h1:j/k=0:=Nat.div_eq_of_lt h
    have h2:j%k=j:=iz h
    rw[h1,h2,dj,ew (by rw[hk];exact h)]
    simp only[List.getElem!_toArray,List.getElem!_cons_zero]
    rw[dx (by rw[hk];exact h),List.getElem!_eq_getElem?_getD,dx (by rw[hk];exact h)]
    rfl
   ·have h1:j/k=(j-k)/k+1:=by
     rw[←Nat.sub_add_cancel (gN h),Nat.add_div_right _ hk0,Nat.add_sub_cancel]
    have h2:j%k=(j-k)%k:=by
     conv=>lhs;rw[←Nat.sub_add_cancel (gN h),Nat.add_mod_right]
    have h3:=ih (j-k) (by rw[dT,fS]at hj;omega)
    rw[h1,h2,dj,dQ (by rw[hk];omega),hk,←dj,←h3]
    simp only[List.getElem!_toArray,List.getElem!_cons_succ]
theorem a7z{α:Type}{enc:α→List Value}{k:Nat}(hk:∀x,(enc x).length=k)(l:List α):(l.flatMap enc).length=l.length*k:=by
 rw[List.length_flatMap]
 induction l with
 | nil=>simp
 | cons x l ih=>rw[dY,List.sum_cons,ih,hk,dT,fS];omega
theorem All2.bz{α:Type}{R:Value→Value→Prop}{f g:α→List Value}(h:∀x,All2 R (f x) (g x)):∀l:List α,All2 R (l.flatMap f) (l.flatMap g)
 | []=>trivial
 | x::l=>by
   rw[dL,dL]
   exact(h x).append (All2.bz h l)
theorem All2.cN{R:Value→Value→Prop}:∀{l m:List Value},l.length=m.length→(∀(j:Nat)(c:Value),l[j]? =some c→∃c',m[j]? =some c'∧R c c')→All2 R l m
 | [],[],_,_=>trivial
 | [],_::_,h,_=>by cases h
 | _::_,[],h,_=>by cases h
 | a::l,b::m,h,hh=>by
   obtain⟨c',h1,h2⟩:=hh 0 a rfl
   cases h1
   exact⟨h2,All2.cN (by simpa using h) fun j c hj=>hh (j+1) c hj⟩
theorem a4W{k:Nat}:∀{rs:List (List Value)},(∀r∈rs,r.length=k)→rs.flatten.length=rs.length*k
 | [],_=>by simp
 | r::rs,h=>by
   rw[List.flatten_cons,du,a4W fun x hx=>h x (eH _ hx),h r (eX ..),dT,fS]
   omega
theorem b0s{k:Nat}:∀{rs:List (List Value)}(_:∀r∈rs,r.length=k)(x:Fin rs.length)(t:Nat),t<k→rs.flatten[x.1*k+t]? =(rs[x])[t]?
 | [],_,x,_,_=>absurd x.2 (dX _)
 | r::rs,h,⟨0,_⟩,t,ht=>by
   rw[List.flatten_cons,Nat.zero_mul,fx,ew (by rw[h r (eX ..)];exact ht)]
   rfl
 | r::rs,h,⟨x+1,hx⟩,t,ht=>by
   have hr:=h r (eX ..)
   rw[List.flatten_cons,fS,dQ (by rw[hr];omega),hr,show x*k+k+t-k=x*k+t from by omega]
   exact b0s (fun x hx=>h x (eH _ hx)) ⟨x,by simpa using hx⟩ t ht
theorem c5y(N:Nat)(j:Nat)(h:j<N)[Inhabited (Fin N)]:((List.finRange N).toArray)[j]! =⟨j,h⟩:=by
 simp[h]
set_option maxRecDepth 10000 in
theorem b3e{P:Program}{K kc:FuncId}{k:Nat}(hk0:0<k)(hso:b5k P K kc k){H:Heap}{A i lo ver:Nat}{ty:TypeId}{pre:List Value}{rs:List (List Value)}(hne:0<rs.length)(hbig:rs.length<100000000000)(hrk:∀r∈rs,r.length=k)
 (hg:iT H A=some (.cells (pre++rs.flatten) ty true lo ver)) (hlo:lo≤i+rs.flatten.length) (hpre:pre.length=i) (hty:iJ P ty=some k) (cf:Fin rs.length→Fin rs.length→Int) (hO:SWO (ltOf cf)) (hT:∀x y,(ltOf cf) x y=false→(ltOf cf) y x=false→x=y)
 (hcmp:∀{ρ:Rho}{w:World}{p:Place},HRel P ρ H w→ρ A (i+rs.flatten.length)=some p→∀enc:Fin rs.length→List Value,(∀x,All2 (C1 ρ) rs[x] (enc x))→∀W:World,(∀b,b<w.heap.size→b≠p.b→W.heap[b]? =w.heap[b]?)→w.heap.size≤W.heap.size→∀x y,Calls P kc #[.agg (enc x).toArray,.agg (enc y).toArray] W fun e w'=>e=.returned (.int .i64 (cf x y))∧∃q os',w'=Go.Sort.grow (W.drewN q) os'):
 CallOk P K [.slice (some ⟨A,i,some (i+rs.flatten.length)⟩) rs.length k,.func (.func kc) #[] #[]] H (.tuple #[]) (hset H A (.cells (jC (pre++rs.flatten) i (((List.finRange rs.length).mergeSort fun x y=> !(ltOf cf) y x).flatMap fun x=>rs[x])) ty true (pre++rs.flatten).length ver)):=by
 haveI:Inhabited (Fin rs.length):=⟨⟨0,hne⟩⟩
 intro q ρ w args' hr ha
 obtain⟨l⟩:=args'
 match l,ha with
 | [x,f],⟨hx,hf,_⟩=>
   obtain rfl:=V.func0 hf
   have hfl:=a4W hrk
   have hlen:(pre++rs.flatten).length=i+rs.flatten.length:=by rw[du,hpre]
   obtain⟨p,c',a,hp,h0',hin,hnc,hac,hpk,rfl⟩:=hx.aq
   have ha':a=⟨p.b,p.at i,none⟩:=by
    rcases hac with h|h
    ·exact h.1
    ·omega
   subst ha'
   have hp2:ρ A (pre++rs.flatten).length=some p:=by rw[hlen];exact hp
   obtain⟨_,_,hfit,cur,ty',fr,hw,hsz,hfr,hcell⟩:=(hr.cells _ _ _ _ _ _ hg).2 _ _ hp2
   obtain⟨rfl,hd0,_⟩:=hfr rfl
   have hNk:∀(x:Fin rs.length)(t:Nat),t<k→x.1*k+t<rs.length*k:=fun x t ht=>by
    have:=x.2
    calc x.1*k+t<x.1*k+k:=by omega
     _=(x.1+1)*k:=by rw[fS]
     _≤rs.length*k:=dU _ (by omega)
   have hcur:∀(x:Fin rs.length)(t:Nat),t<k→∀c,(rs[x])[t]? =some c→∃c',cur[p.at i+(x.1*k+t)]? =some c'∧C1 ρ c c':=fun x t ht c hc=>by
    have h1:=hNk x t ht
    have h2:(pre++rs.flatten)[i+(x.1*k+t)]? =some c:=by
     rw[dQ (by omega),hpre,eR,b0s hrk x t ht]
     exact hc
    obtain⟨c2,h3,h4⟩:=hcell (by rw[hlen];exact hlo) (i+(x.1*k+t)) _ (by rw[hlen];omega) (by omega) h2
    have hat:p.at (i+(x.1*k+t))=p.at i+(x.1*k+t):=by unfold Place.at;omega
    rw[hat]at h3
    exact⟨c2,h3,h4⟩
   obtain⟨enc,henc⟩:∃enc:Fin rs.length→List Value,enc=fun x=>(List.range k).map fun t=>(cur[p.at i+(x.1*k+t)]?).getD undef:=⟨_,rfl⟩
   have hel:∀x,(enc x).length=k:=fun x=>by rw[henc];simp
   have hrl:∀x:Fin rs.length,(rs[x]).length=k:=fun x=>hrk _ (ga _)
   have hA:∀x,All2 (C1 ρ) rs[x] (enc x):=fun x=>by
    refine All2.cN (by rw[hel,hrl]) fun t c hc=> ?_
    have ht:t<k:=by
     have:=(dy.1 hc).1
     rw[hrl]at this
     exact this
    obtain⟨c2,h1,h2⟩:=hcur x t ht c hc
    refine⟨c2,?_,h2⟩
    rw[henc]
    simp[ht,h1]
   have hone:∀x,∀v∈enc x,v.oneCell'=true:=fun x v hv=>(hA x).aG v hv
   obtain⟨d,hd⟩:∃d:Array (Fin rs.length),d=(List.finRange rs.length).toArray:=⟨_,rfl⟩
   have hds:d.size=rs.length:=by rw[hd];simp
   have hH:Go.Sort.HoldsK enc k w p.b (p.at i) d:=by
    intro j hj
    rw[Go.Sort.size_flatK,hds]at hj
    have hjk:j/k<rs.length:=Nat.div_lt_of_lt_mul (by rw[Nat.mul_comm];exact hj)
    have hjm:j%k<k:=iD _ hk0
    constructor
    ·rw[Go.Sort.get_flatK _ _ _ _ (by rw[hds];exact hj),hd,c5y _ _ hjk]
     have hjj:j/k*k+j%k=j:=by rw[Nat.mul_comm];exact Nat.div_add_mod j k
     obtain⟨c2,h1,_⟩:=hcur ⟨j/k,hjk⟩ (j%k) hjm _ (dx (by rw[hrl];exact hjm))
     simp only at h1
     rw[hjj]at h1
     have h2:(enc ⟨j/k,hjk⟩)[j%k]! =c2:=by
      rw[henc,List.getElem!_eq_getElem?_getD]
      simp[hjm,hjj,h1]
     rw[h2]
     simp only[World.cell?,hw]
     exact h1
    ·simp only[World.frozen?,hw]
     simp
   have hlay:CmpLays P kc #[] enc k cf p.b (p.at i) d.size w:=by
    intro m os dk hdk x y
    have hh:∀b,b<w.heap.size→(sortWorldK enc k w p.b (p.at i) m dk os).heap[b]? =(Go.Sort.putRowK enc k (Go.Sort.ahead w m) p.b (p.at i) dk).heap[b]?:=fun b hb=>by
     have:b<(Go.Sort.putRowK enc k (Go.Sort.ahead w m) p.b (p.at i) dk).heap.size:=by simpa [Go.Sort.putRowK,Go.Sort.putRow,Go.Sort.mapBlock,Go.Sort.ahead]using hb
     unfold sortWorldK Go.Sort.grow
     exact eO this
    refine hcmp hr hp enc hA _ (fun b hb hbp=> ?_) ?_ x y
    ·rw[hh b hb]
     simp[Go.Sort.putRowK,Go.Sort.putRow,Go.Sort.mapBlock,Go.Sort.ahead,eY,fm hbp]
    ·simp[sortWorldK,Go.Sort.grow,Go.Sort.putRowK,Go.Sort.putRow,Go.Sort.mapBlock,Go.Sort.ahead]
   have hcon:=hso enc hel hone cf hO hT p.b (p.at i) c' d w hlay hH (hr.dom _ _ _ hp).2 (by rw[hds];omega)
   rw[hds]at hcon
   obtain⟨σ,hσ⟩:∃σ,(List.finRange rs.length).mergeSort (fun x y=> !(ltOf cf) y x)=σ:=⟨_,rfl⟩
   have hdl:d.toList=List.finRange rs.length:=by rw[hd]
   rw[hdl,hσ]at hcon
   have hσl:σ.length=rs.length:=by rw[←hσ];simp
   have hll:(σ.flatMap fun x=>rs[x]).length=rs.length*k:=by rw[a7z (enc:=fun x:Fin rs.length=>rs[x]) hrl,hσl]
   have hlr:(σ.flatMap enc).length=rs.length*k:=by rw[a7z hel,hσl]
   obtain⟨w1,hrun,hpost⟩:=qR hr hg hp2 h0' (All2.bz hA σ) (by rw[hlen,hll];omega) (by rw[hlen];exact hlo)
   rw[hσ]
   have hcsz:p.at i+(σ.flatMap enc).length≤cur.size:=by
    rw[hlr,hsz]
    unfold Place.at
    rw[hlen]at hfit
    omega
   have hst:=run_storeCells_at (P:=P) p.b (p.at i) ty' (σ.flatMap enc) 0 cur w hw (by simpa using hcsz) (All2.bz hA σ).aG
   rw[hst]at hrun
   injection hrun with _ hw1
   subst hw1
   refine callsIn_wide.2 (hcon.mono ?_)
   rintro e w'⟨rfl,m,os,rfl⟩
   refine⟨ρ,_,rfl,?_,.tuple trivial⟩
   have hfs:∀j,j<rs.length*k→(Go.Sort.flatK enc k σ.toArray)[j]! =(σ.flatMap enc).getD j undef:=fun j hj=>by
    rw[Go.Sort.get_flatK _ _ _ _ (by rw[fA,hσl];exact hj)]
    exact b4e hk0 hel σ j (by rw[hσl];exact hj)
   have hFs:(Go.Sort.flatK enc k σ.toArray).size=rs.length*k:=by rw[Go.Sort.size_flatK,fA,hσl]
   unfold sortWorldK Go.Sort.putRowK
   generalize Go.Sort.flatK enc k σ.toArray=F at hfs hFs ⊢
   have hlt:=lZ hw
   have hh:∀b,b<w.heap.size→(Go.Sort.grow (Go.Sort.putRow id (Go.Sort.ahead w m) p.b (p.at i) F) os).heap[b]? =(Go.Sort.putRow id (Go.Sort.ahead w m) p.b (p.at i) F).heap[b]?:=fun b hb=>by
    have:b<(Go.Sort.putRow id (Go.Sort.ahead w m) p.b (p.at i) F).heap.size:=by simpa [Go.Sort.putRow,Go.Sort.mapBlock,Go.Sort.ahead]using hb
    unfold Go.Sort.grow
    exact eO this
   refine hpost.cz ?_ ?_ rfl ⟨rfl,Nat.le_add_right _ _⟩ rfl
   ·simp[Go.Sort.grow,Go.Sort.putRow,Go.Sort.mapBlock,Go.Sort.ahead]
   ·intro b hbs
    rw[setRow_size]at hbs
    rw[hh b hbs]
    by_cases e:b=p.b
    ·subst e
     rw[setRow_heap w p.b cur _ ty' (0,0) hw]
     have e2:(Go.Sort.putRow id (Go.Sort.ahead w m) p.b (p.at i) F).heap[p.b]? =some (.cells (Go.Sort.putCells id (p.at i) F cur) ty' (0,0)):=by
      simp[Go.Sort.putRow,Go.Sort.mapBlock,Go.Sort.ahead,eY,hw,Go.Sort.onCells]
     rw[e2]
     congr 2
     apply gb
     intro j
     have hseg:=xH cur.toList (σ.flatMap enc) (p.at i) j (by simpa using hcsz)
     have e3:((List.take (p.at i+0) cur.toList++σ.flatMap enc++List.drop (p.at i+0+(σ.flatMap enc).length) cur.toList).toArray)[j]? =(List.take (p.at i) cur.toList++σ.flatMap enc++List.drop (p.at i+(σ.flatMap enc).length) cur.toList)[j]?:=by simp
     rw[e3,hseg]
     simp only[Go.Sort.putCells,Array.getElem?_mapIdx,fP]
     rw[hlr]at hcsz ⊢
     by_cases h1:p.at i≤j∧j<p.at i+rs.length*k
     ·rw[if_pos h1]
      have hjc:j<cur.size:=by omega
      rw[fj hjc]
      simp only[dS]
      rw[if_pos (by rw[hFs];exact h1),hfs _ (by omega),dj,dx (by rw[hlr];omega)]
      rfl
     ·rw[if_neg h1]
      cases hc:cur[j]? with
      | none=>simp
      | some c=>
        simp only[dS]
        rw[if_neg (by rw[hFs];exact h1)]
    ·rw[setRow_other _ _ _ _ e]
     simp[Go.Sort.putRow,Go.Sort.mapBlock,Go.Sort.ahead,eY,fm e]
theorem b7j{P:Program}{kc:FuncId}{args:List Value}{Hc H1:Heap}{z:Int}{ρ:Rho}{W:World}{args':Array Value}(h:CallOk P kc args Hc (.int .i64 z) H1)(hr:HRel P ρ Hc W)(hs:Shut ρ Hc)(ha:All2 (V ρ) args args'.toList):
 Calls P kc args' W fun e w'=>e=.returned (.int .i64 z)∧∃q os',w'=Go.Sort.grow (W.drewN q) os':=by
 refine(h.calls hr ha).mono ?_
 rintro e w'⟨ρ',v',rfl,hp,hv⟩
 have hfr:∀b,b<W.heap.size→w'.heap[b]? =W.heap[b]?:=fun b hb=>(hp.frame b hb (hs b)).1
 refine⟨by rw[hv.ab rfl],w'.drawn-W.drawn,w'.heap.extract W.heap.size w'.heap.size,?_⟩
 have h1:=hp.os
 have h2:=hp.tape
 have h3:=hp.output
 have h4:=hp.size
 clear hp hv hr hs h
 obtain⟨wh,wt,wd,wo,wu⟩:=W
 obtain⟨ah,at',ad,ao,au⟩:=w'
 simp only at h1 h2 h3 h4 hfr
 simp only[Go.Sort.grow,World.drewN,World.mk.injEq]
 refine⟨?_,h2.1,by omega,h1,h3⟩
 apply gb
 intro i
 rw[Array.getElem?_append]
 split
 ·exact hfr i (by assumption)
 ·rw[Array.getElem?_extract]
  split
  ·congr 1;omega
  ·rw[Array.getElem?_eq_none (by omega)]
theorem b5S{P:Program}{K kc:FuncId}{k:Nat}(hso:b5k P K kc (k+1))(hno:rZ P K)(hent:nN P K){H:Heap}{B:Base}{os:List Ob}(hS:St P B H os)(i:Nat){v:Value}{rs:List (List Value)}(ho:os[i]? =some ⟨v,k+1,rs.flatten⟩)(hbig:rs.length<100000000000)(hrk:∀r∈rs,r.length=k+1)
 (cf:Fin rs.length→Fin rs.length→Int) (hO:SWO (ltOf cf)) (hT:∀x y,(ltOf cf) x y=false→(ltOf cf) y x=false→x=y)
 (hcmp:∀{A:Nat}{ρ:Rho}{w:World}{p:Place}{e:Nat},jY v=some A→(∃b,iT H A=some b∧b.wr=true)→HRel P ρ H w→ρ A e=some p→∀enc:Fin rs.length→List Value,(∀x,All2 (C1 ρ) rs[x] (enc x))→∀W:World,(∀b,b<w.heap.size→b≠p.b→W.heap[b]? =w.heap[b]?)→w.heap.size≤W.heap.size→∀x y,Calls P kc #[.agg (enc x).toArray,.agg (enc y).toArray] W fun e w'=>e=.returned (.int .i64 (cf x y))∧∃q os',w'=Go.Sort.grow (W.drewN q) os')
 {Q:Value→Heap→Prop} (h:∀H1,St P B H1 (os.set i ⟨v,k+1,((List.finRange rs.length).mergeSort fun x y=> !(ltOf cf) y x).flatMap fun x=>rs[x]⟩)→Q (.tuple #[]) H1):qW P K [v,.func (.func kc) #[] #[]] H Q:=by
 by_cases h0:rs=[]
 ·subst h0
  refine⟨.tuple #[],H,hent,?_,h H ?_⟩
  ·intro k ρ w args' hr ha
   obtain⟨l⟩:=args'
   match l,ha with
   | [x,f],⟨hx,hf,_⟩=>
     obtain rfl:=V.func0 hf
     have hown:=hS.own _ (dB ho)
     unfold OwnAt at hown
     rw[if_neg (by simp)]at hown
     have hx0:∃p cap,x=.slice p 0 cap:=by
      rcases hown with⟨h2,_⟩|⟨A,j,ty,lo',ver,pre,m,h2,h3,h4,h5,h6,h7⟩
      ·simp only at h2
       subst h2
       rcases hx.ay with⟨_,_,_,rfl⟩|⟨A,j,e,p,c',a,hh,_⟩
       ·exact⟨_,_,rfl⟩
       ·cases hh
      ·simp only at h5 h6
       subst h6
       have hm:m=0:=by
        rw[List.flatten_nil,dZ]at h5
        rcases gX.1 h5.symm with h|h
        ·exact h
        ·omega
       subst hm
       obtain⟨p,c',a,_,_,_,_,_,_,rfl⟩:=hx.aq
       exact⟨_,_,rfl⟩
     obtain⟨p,cap,rfl⟩:=hx0
     refine callsIn_wide.2 ((hno p cap _ w).mono ?_)
     rintro e w'⟨rfl,rfl⟩
     exact⟨ρ,_,rfl,.refl hr,.tuple trivial⟩
  ·obtain⟨hi,hoi⟩:=dy.1 ho
   have e0:∀l:List (Fin ([]:List (List Value)).length),(l.flatMap fun x=>([]:List (List Value))[x])=[]:=fun l=>by
    cases l with
    | nil=>rfl
    | cons x l=>exact absurd x.2 (dX _)
   rw[e0]
   have e:os[i]=⟨v,k+1,[]⟩:=by rw[hoi];rfl
   rw[←e,gi]
   exact hS
 ·have hown:=hS.own _ (dB ho)
  unfold OwnAt at hown
  rw[if_neg (by simp)]at hown
  have hne:0<rs.length:=fg.2 h0
  have hfl:=a4W hrk
  rcases hown with⟨_,h3⟩|⟨A,j,ty,lo',ver,pre,m,h2,h3,h4,h5,h6,h7⟩
  ·simp only at h3
   have:=congrArg List.length h3
   rw[hfl,dZ]at this
   rcases gX.1 this with h|h<;>omega
  ·simp only at h2 h3 h5 h6
   have hm:m=rs.length:=eP (fh k) (h5.symm.trans hfl)
   subst hm
   have hsl:(((List.finRange rs.length).mergeSort fun x y=> !(ltOf cf) y x).flatMap fun x=>rs[x]).length=rs.flatten.length:=by
    rw[a7z (enc:=fun x:Fin rs.length=>rs[x]) (k:=k+1) (fun x=>hrk _ (ga _)),hfl]
    simp
   have hcall:=b3e (fh k) hso hne hbig hrk h2 h3 h4 h7 cf hO hT (fun{ρ w p}hr hp enc hA W hW hWs x y=>hcmp (A:=A) (by rw[h6];rfl) ⟨_,h2,rfl⟩ hr hp enc hA W hW hWs x y)
   rw[←h6]at hcall
   refine⟨_,_,hent,hcall,h _ (hS.put i ho ?_ ?_ ?_ ?_)⟩
   ·unfold OwnAt
    rw[if_neg (by simp)]
    refine .inr ⟨A,j,ty,(pre++rs.flatten).length,ver,pre,rs.length,?_,?_,h4,?_,?_,h7⟩
    ·rw[iU _ (jP h2)]
     have:=lX (((List.finRange rs.length).mergeSort fun x y=> !(ltOf cf) y x).flatMap fun x=>rs[x]) pre rs.flatten (by rw[hsl];exact dm _)
     rw[h4]at this
     rw[this,hsl,gP,dA]
    ·simp only[du,h4,hsl];exact dm _
    ·simp only[hsl];exact h5
    ·simp only[hsl];exact h6
   ·rw[jR];exact dm _
   ·intro B' hB hne'
    refine pM fun hh=>hne' ?_
    simp[jY,h6,hh]
   ·intro B' hB
    exact .inl hB
section
variable {P:Program} {ρ ρ0:Rho} {H H0:Heap} {w W:World}
theorem b9t(xs:List Int)(j:Nat):(xs.flatMap (one I))[j]? =(xs[j]?).map I:=by
 rw[lN,eI]
theorem a6I(h0:InW P ρ0 H0 W)(hr:HRel P ρ H w){cv cv':Value}{xs:List Int}(hs:Sl 1 (one I) H cv xs)(hv:C1 ρ cv cv')(hne:∀A,jY cv=some A→∀e p,ρ A e=some p→W.heap[p.b]? =w.heap[p.b]?):
 ∃ρ1 H1 cv1,InW P ρ1 H1 W∧ExtW ρ0 H0 ρ1 H1∧Sl 1 (one I) H1 cv1 xs∧C1 ρ1 cv1 cv':=by
 have hxl:(xs.flatMap (one I)).length=xs.length:=by rw[lN,dC]
 have hV:V ρ cv cv':=.v1 (.c1 hv)
 rcases hs.rd with⟨rfl,h2⟩|⟨A,i,e,row,ty,rw',lo,ver,n,hg,hlo,hle,hfit,htk,hn,rfl⟩
 ·rcases hV.ay with⟨_,_,_,rfl⟩|⟨A,j,e,p,c',a,hh,_⟩
  ·exact⟨ρ0,H0,.slice none 0 0,h0,.refl _ _,⟨.inl ⟨rfl,h2⟩,hs.hc,hs.pos⟩,.c0 (.flat rfl)⟩
  ·cases hh
 ·obtain⟨p,c',a,hp,h00,hin,hnc,hac,hpk,rfl⟩:=hV.aq
  obtain⟨_,hk,hfit2,cur,ty',fr,hw,hsz,hfr,hcell⟩:=(hr.cells _ _ _ _ _ _ hg).2 _ _ hp
  have hWp:W.heap[p.b]? =w.heap[p.b]?:=hne A rfl _ _ hp
  have hrow:=h0.row ⟨p.b,p.d+i,p.sz,p.k⟩ (cur:=cur) (t':=ty') (fr:=fr) (by rw[hWp];exact hw) (ty:=ty) hk hsz (xs.flatMap (one I)) 2 (fun h=>by cases h) (by show((xs.flatMap (one I)).length:Int)+(p.d+i)≤p.sz;omega) (fun j c hj hj0 hc=>by
   have h1:row[i+j]? =some c:=by
    have h2:((row.drop i).take (xs.flatMap (one I)).length)[j]? =some c:=by rw[htk];exact hc
    rw[dR hj,dF]at h2
    exact h2
   obtain⟨c2,h3,h4⟩:=hcell hlo (i+j) c (by omega) (by omega) h1
   have hsc:iZ c=true:=by
    rw[b9t]at hc
    obtain⟨z,_,rfl⟩:=dq.1 hc
    rfl
   have:=h4.al hsc
   subst this
   refine⟨c2,?_,.c0 (.flat hsc)⟩
   have hat:Place.at ⟨p.b,p.d+i,p.sz,p.k⟩ j=p.at (i+j):=by unfold Place.at;simp only;omega
   rw[hat]
   exact h3)
  obtain⟨h1,h2⟩:=hrow
  refine⟨_,_,.slice (some ⟨H0.length,0,some (xs.flatMap (one I)).length⟩) n 1,h1,h2,⟨.inr ⟨H0.length,0,_,_,ty,false,0,2,n,iQ _ _,eQ _,dm _,by omega,by rw[ir,eo],by omega,rfl⟩,hs.hc,hs.pos⟩,?_⟩
  have hq:(ρ0.put H0.length (xs.flatMap (one I)).length ⟨p.b,p.d+i,p.sz,p.k⟩) H0.length (xs.flatMap (one I)).length=some ⟨p.b,p.d+i,p.sz,p.k⟩:=Rho.ai _ _ _ _
  have e1:n*p.k=n:=by rw[←hpk,gI]
  have e2:c'*p.k=c':=by rw[←hpk,gI]
  have hk1:p.k=1:=hpk.symm
  have:=C0.slice (n:=n) (c':=c') (a:=a) hq (i:=0) (by show(0:Int)≤((0:Nat):Int)+(p.d+i);omega) (by show 0+n*p.k≤_;rw[e1];omega) ⟨hnc.1,by show _≤0+c'*p.k;rw[e2];have:=hnc.1;omega⟩ (by
   rcases hac with⟨h3,h4⟩|h3
   ·refine .inl ⟨?_,?_⟩
    ·rw[h3]
     congr 1
     unfold Place.at
     simp only
     omega
    ·show Place.at ⟨p.b,p.d+i,p.sz,p.k⟩ 0+c'*p.k≤p.sz
     have:Place.at ⟨p.b,p.d+i,p.sz,p.k⟩ 0=p.at i:=by unfold Place.at;simp only;omega
     rw[this];exact h4
   ·exact .inr h3)
  simp only[hk1]at this ⊢
  exact .c0 this
theorem Sl.cU{n:Nat}{α:Type}{cel:α→List Value}{ρ1:Rho}{H1:Heap}{v:Value}{xs:List α}(h:Sl n cel H v xs)(he:ExtW ρ H ρ1 H1):Sl n cel H1 v xs:=by
 refine⟨?_,h.hc,h.pos⟩
 rcases h.rd with h1|⟨A,i,e,row,ty,rw',lo,ver,m,hg,hh⟩
 ·exact .inl h1
 ·exact .inr ⟨A,i,e,row,ty,rw',lo,ver,m,by rw[he.old A (jP hg)];exact hg,hh⟩
theorem b5G{kc:FuncId}(hfn:∀{Hc:Heap}(a b:Rn),a.In Hc→b.In Hc→Fn P kc [a.v,b.v] Hc fun r H'=>r=I (sC a b)∧St P Hc H' []){v:Value}{es:List Rn}(hin:∀r∈es,r.In H)(hne:∀r∈es,∀A,jY v=some A→jY r.cv≠some A):
 ∀{A:Nat}{ρ:Rho}{w:World}{p:Place}{e:Nat},jY v=some A→(∃b,iT H A=some b∧b.wr=true)→HRel P ρ H w→ρ A e=some p→∀enc:Fin (es.map Rn.cells).length→List Value,(∀x,All2 (C1 ρ) (es.map Rn.cells)[x] (enc x))→∀W:World,(∀b,b<w.heap.size→b≠p.b→W.heap[b]? =w.heap[b]?)→w.heap.size≤W.heap.size→∀x y,Calls P kc #[.agg (enc x).toArray,.agg (enc y).toArray] W fun e w'=>e=.returned (.int .i64 (sC (iG es x.1) (iG es y.1)))∧∃q os',w'=Go.Sort.grow (W.drewN q) os':=by
 intro A ρ w p e hv hwr hr hp enc hA W hW hWs x y
 obtain⟨b,hb,hbw⟩:=hwr
 have hlen:(es.map Rn.cells).length=es.length:=dC _
 have hcell:∀x:Fin (es.map Rn.cells).length,∃cv',enc x=[I (iG es x.1).pl.1,I (iG es x.1).pl.2,cv',I (iG es x.1).tc.1,I (iG es x.1).tc.2,I (iG es x.1).stop]∧C1 ρ (iG es x.1).cv cv':=fun x=>by
  have h:=hA x
  have hx:(es.map Rn.cells)[x]=(iG es x.1).cells:=by
   rw[jV es x.1 (by have:=x.2;omega)]
   simp
  rw[hx]at h
  unfold Rn.cells at h
  generalize enc x=l at h
  match l,h with
  | [a1,a2,a3,a4,a5,a6],⟨h1,h2,h3,h4,h5,h6,_⟩=>
    have e1:=h1.al rfl
    have e2:=h2.al rfl
    have e4:=h4.al rfl
    have e5:=h5.al rfl
    have e6:=h6.al rfl
    subst e1 e2 e4 e5 e6
    exact⟨a3,rfl,h3⟩
 have hmem:∀x:Fin (es.map Rn.cells).length,iG es x.1∈es:=fun x=>iM (by have:=x.2;omega)
 have hfr:∀x:Fin (es.map Rn.cells).length,∀B,jY (iG es x.1).cv=some B→∀e2 p2,ρ B e2=some p2→W.heap[p2.b]? =w.heap[p2.b]?:=fun x B hB e2 p2 hp2=>by
  refine hW _ (hr.dom _ _ _ hp2).2 fun heq=> ?_
  have:=(hr.excl A e p B e2 p2 b hp hp2 heq.symm hb hbw).1
  rw[this]at hB
  exact hne _ (hmem x) A hv hB
 obtain⟨cx,ex,hcx⟩:=hcell x
 obtain⟨cy,ey,hcy⟩:=hcell y
 have hix:=hin _ (hmem x)
 have hiy:=hin _ (hmem y)
 obtain⟨ρ1,H1,v1,hI1,hE1,hs1,hc1⟩:=a6I (InW.none (P:=P) W) hr hix.1 hcx (hfr x)
 obtain⟨ρ2,H2,v2,hI2,hE2,hs2,hc2⟩:=a6I hI1 hr hiy.1 hcy (hfr y)
 have hs1':=hs1.cU hE2
 have hc1':=hc1.mono hE2.le
 obtain⟨_,z,H3,hcall,rfl,_⟩:=hfn (Hc:=H2) {iG es x.1 with cv:=v1} {iG es y.1 with cv:=v2} ⟨hs1',hix.2⟩ ⟨hs2,hiy.2⟩
 rw[ex,ey]
 refine b7j hcall hI2.rel hI2.shut ?_
 exact⟨.v1 (.agg ⟨.c0 (.flat rfl),.c0 (.flat rfl),hc1',.c0 (.flat rfl),.c0 (.flat rfl),.c0 (.flat rfl),trivial⟩),.v1 (.agg ⟨.c0 (.flat rfl),.c0 (.flat rfl),hc2,.c0 (.flat rfl),.c0 (.flat rfl),.c0 (.flat rfl),trivial⟩),trivial⟩
end
end Go.Ds
namespace Go.Proofs
open Go.Shelf
def Tryz.bL:Go.Shelf.Ren:=⟨fun|6=>53|15=>99|14=>98|28=>139|29=>140|20=>131|21=>132|22=>133|23=>134|24=>135|25=>136|26=>137|27=>138|46=>175|47=>176|48=>177|49=>178|50=>179|57=>199|n=>n,fun|22=>75|24=>26|25=>28|3=>3|39=>64|0=>0|53=>252|55=>48|4=>4|46=>246|45=>245|50=>202|5=>5|9=>9|66=>281|70=>285|76=>308|77=>309|n=>n,fun|n=>n⟩
theorem Tryz.ch:Go.Proofs.SlLaysF0.n6 Tryz.prog Tryz.bL:={
 mixed:=by kernel_rfl
 f6:=⟨Tryz.f53.name,by decide,Tryz.func53.trans (congrArg some (by kernel_rfl))⟩
 f14:=⟨Tryz.f98.name,by decide,Tryz.func98.trans (congrArg some (by kernel_rfl))⟩
 f15:=Tryz.func99.trans (congrArg some (by kernel_rfl))
 f20:=⟨Tryz.f131.name,by decide,Tryz.func131.trans (congrArg some (by kernel_rfl))⟩
 f21:=⟨Tryz.f132.name,by decide,Tryz.func132.trans (congrArg some (by kernel_rfl))⟩
 f22:=⟨Tryz.f133.name,by decide,Tryz.func133.trans (congrArg some (by kernel_rfl))⟩
 f23:=⟨Tryz.f134.name,by decide,Tryz.func134.trans (congrArg some (by kernel_rfl))⟩
 f24:=⟨Tryz.f135.name,by decide,Tryz.func135.trans (congrArg some (by kernel_rfl))⟩
 f25:=⟨Tryz.f136.name,by decide,Tryz.func136.trans (congrArg some (by kernel_rfl))⟩
 f26:=⟨Tryz.f137.name,by decide,Tryz.func137.trans (congrArg some (by kernel_rfl))⟩
 f27:=⟨Tryz.f138.name,by decide,Tryz.func138.trans (congrArg some (by kernel_rfl))⟩
 f28:=Tryz.func139.trans (congrArg some (by kernel_rfl))
 f29:=Tryz.func140.trans (congrArg some (by kernel_rfl))
 f46:=⟨Tryz.f175.name,by decide,Tryz.func175.trans (congrArg some (by kernel_rfl))⟩
 f47:=Tryz.func176.trans (congrArg some (by kernel_rfl))
 f48:=Tryz.func177.trans (congrArg some (by kernel_rfl))
 f49:=⟨Tryz.f178.name,by decide,Tryz.func178.trans (congrArg some (by kernel_rfl))⟩
 f50:=⟨Tryz.f179.name,by decide,Tryz.func179.trans (congrArg some (by kernel_rfl))⟩
 f57:=⟨Tryz.f199.name,by decide,Tryz.func199.trans (congrArg some (by kernel_rfl))⟩
 t0:=Tryz.underlying0
 a0:=Tryz.isAgg0
 z0:=Tryz.sizeOf0
 v0:=Tryz.zeroValue0
 t3:=Tryz.underlying3
 a3:=Tryz.isAgg3
 z3:=Tryz.sizeOf3
 v3:=Tryz.zeroValue3
 t4:=Tryz.underlying4
 a4:=Tryz.isAgg4
 z4:=Tryz.sizeOf4
 v4:=Tryz.zeroValue4
 t5:=Tryz.underlying5
 a5:=Tryz.isAgg5
 z5:=Tryz.sizeOf5
 v5:=Tryz.zeroValue5
 t9:=Tryz.underlying9
 a9:=Tryz.isAgg9
 z9:=Tryz.sizeOf9
 v9:=Tryz.zeroValue9
 t22:=Tryz.underlying75
 a22:=Tryz.isAgg75
 z22:=Tryz.sizeOf75
 v22:=Tryz.zeroValue75
 t25:=Tryz.underlying28
 a25:=Tryz.isAgg28
 z25:=Tryz.sizeOf28
 v25:=Tryz.zeroValue28
 t39:=Tryz.underlying64
 a39:=Tryz.isAgg64
 z39:=Tryz.sizeOf64
 v39:=Tryz.zeroValue64
 t45:=Tryz.underlying245
 a45:=Tryz.isAgg245
 z45:=Tryz.sizeOf245
 v45:=Tryz.zeroValue245
 t46:=Tryz.underlying246
 a46:=Tryz.isAgg246
 z46:=Tryz.sizeOf246
 v46:=Tryz.zeroValue246
 t50:=Tryz.underlying202
 a50:=Tryz.isAgg202
 z50:=Tryz.sizeOf202
 v50:=Tryz.zeroValue202
 t53:=Tryz.underlying252
 a53:=Tryz.isAgg252
 z53:=Tryz.sizeOf252
 v53:=Tryz.zeroValue252
 t55:=Tryz.underlying48
 a55:=Tryz.isAgg48
 z55:=Tryz.sizeOf48
 v55:=Tryz.zeroValue48
 t66:=Tryz.underlying281
 a66:=Tryz.isAgg281
 z66:=Tryz.sizeOf281
 v66:=Tryz.zeroValue281
 t70:=Tryz.underlying285
 a70:=Tryz.isAgg285
 z70:=Tryz.sizeOf285
 v70:=Tryz.zeroValue285
 t76:=Tryz.underlying308
 a76:=Tryz.isAgg308
 z76:=Tryz.sizeOf308
 v76:=Tryz.zeroValue308
 t77:=Tryz.underlying309
 a77:=Tryz.isAgg309
 z77:=Tryz.sizeOf309
 v77:=Tryz.zeroValue309}
def Tryz.bM:Go.Shelf.Ren:=⟨fun|6=>62|15=>99|14=>105|28=>139|29=>140|20=>143|21=>144|22=>145|23=>146|24=>147|25=>148|26=>149|27=>150|46=>182|47=>176|48=>177|49=>183|50=>184|57=>200|n=>n,fun|22=>40|24=>63|25=>156|3=>3|39=>64|0=>0|53=>252|55=>48|4=>4|46=>246|45=>245|50=>202|5=>5|9=>9|66=>281|70=>285|76=>308|77=>309|n=>n,fun|n=>n⟩
theorem Tryz.cj:Go.Proofs.SlLaysF0.n6 Tryz.prog Tryz.bM:={
 mixed:=by kernel_rfl
 f6:=⟨Tryz.f62.name,by decide,Tryz.func62.trans (congrArg some (by kernel_rfl))⟩
 f14:=⟨Tryz.f105.name,by decide,Tryz.func105.trans (congrArg some (by kernel_rfl))⟩
 f15:=Tryz.func99.trans (congrArg some (by kernel_rfl))
 f20:=⟨Tryz.f143.name,by decide,Tryz.func143.trans (congrArg some (by kernel_rfl))⟩
 f21:=⟨Tryz.f144.name,by decide,Tryz.func144.trans (congrArg some (by kernel_rfl))⟩
 f22:=⟨Tryz.f145.name,by decide,Tryz.func145.trans (congrArg some (by kernel_rfl))⟩
 f23:=⟨Tryz.f146.name,by decide,Tryz.func146.trans (congrArg some (by kernel_rfl))⟩
 f24:=⟨Tryz.f147.name,by decide,Tryz.func147.trans (congrArg some (by kernel_rfl))⟩
 f25:=⟨Tryz.f148.name,by decide,Tryz.func148.trans (congrArg some (by kernel_rfl))⟩
 f26:=⟨Tryz.f149.name,by decide,Tryz.func149.trans (congrArg some (by kernel_rfl))⟩
 f27:=⟨Tryz.f150.name,by decide,Tryz.func150.trans (congrArg some (by kernel_rfl))⟩
 f28:=Tryz.func139.trans (congrArg some (by kernel_rfl))
 f29:=Tryz.func140.trans (congrArg some (by kernel_rfl))
 f46:=⟨Tryz.f182.name,by decide,Tryz.func182.trans (congrArg some (by kernel_rfl))⟩
 f47:=Tryz.func176.trans (congrArg some (by kernel_rfl))
 f48:=Tryz.func177.trans (congrArg some (by kernel_rfl))
 f49:=⟨Tryz.f183.name,by decide,Tryz.func183.trans (congrArg some (by kernel_rfl))⟩
 f50:=⟨Tryz.f184.name,by decide,Tryz.func184.trans (congrArg some (by kernel_rfl))⟩
 f57:=⟨Tryz.f200.name,by decide,Tryz.func200.trans (congrArg some (by kernel_rfl))⟩
 t0:=Tryz.underlying0
 a0:=Tryz.isAgg0
 z0:=Tryz.sizeOf0
 v0:=Tryz.zeroValue0
 t3:=Tryz.underlying3
 a3:=Tryz.isAgg3
 z3:=Tryz.sizeOf3
 v3:=Tryz.zeroValue3
 t4:=Tryz.underlying4
 a4:=Tryz.isAgg4
 z4:=Tryz.sizeOf4
 v4:=Tryz.zeroValue4
 t5:=Tryz.underlying5
 a5:=Tryz.isAgg5
 z5:=Tryz.sizeOf5
 v5:=Tryz.zeroValue5
 t9:=Tryz.underlying9
 a9:=Tryz.isAgg9
 z9:=Tryz.sizeOf9
 v9:=Tryz.zeroValue9
 t22:=Tryz.underlying40
 a22:=Tryz.isAgg40
 z22:=Tryz.sizeOf40
 v22:=Tryz.zeroValue40
 t25:=Tryz.underlying156
 a25:=Tryz.isAgg156
 z25:=Tryz.sizeOf156
 v25:=Tryz.zeroValue156
 t39:=Tryz.underlying64
 a39:=Tryz.isAgg64
 z39:=Tryz.sizeOf64
 v39:=Tryz.zeroValue64
 t45:=Tryz.underlying245
 a45:=Tryz.isAgg245
 z45:=Tryz.sizeOf245
 v45:=Tryz.zeroValue245
 t46:=Tryz.underlying246
 a46:=Tryz.isAgg246
 z46:=Tryz.sizeOf246
 v46:=Tryz.zeroValue246
 t50:=Tryz.underlying202
 a50:=Tryz.isAgg202
 z50:=Tryz.sizeOf202
 v50:=Tryz.zeroValue202
 t53:=Tryz.underlying252
 a53:=Tryz.isAgg252
 z53:=Tryz.sizeOf252
 v53:=Tryz.zeroValue252
 t55:=Tryz.underlying48
 a55:=Tryz.isAgg48
 z55:=Tryz.sizeOf48
 v55:=Tryz.zeroValue48
 t66:=Tryz.underlying281
 a66:=Tryz.isAgg281
 z66:=Tryz.sizeOf281
 v66:=Tryz.zeroValue281
 t70:=Tryz.underlying285
 a70:=Tryz.isAgg285
 z70:=Tryz.sizeOf285
 v70:=Tryz.zeroValue285
 t76:=Tryz.underlying308
 a76:=Tryz.isAgg308
 z76:=Tryz.sizeOf308
 v76:=Tryz.zeroValue308
 t77:=Tryz.underlying309
 a77:=Tryz.isAgg309
 z77:=Tryz.sizeOf309
 v77:=Tryz.zeroValue309}
end Go.Proofs
