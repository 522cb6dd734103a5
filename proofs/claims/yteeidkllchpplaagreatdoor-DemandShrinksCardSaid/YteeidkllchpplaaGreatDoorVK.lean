/-
  A part of the proof of DemandShrinks.
-/
import Derived.Test.YteeidkllchpplaaGreatDoorVI
import Derived.Test.YteeidkllchpplaaGreatDoorVD
set_option linter.unusedVariables false
set_option linter.unusedSimpArgs false
set_option linter.defProp false
set_option linter.unusedSectionVars false
namespace Go.Ds
open Go.Proofs Go.ChangeShapes Go.WideShapes Go.RowKit Go.Deep
set_option maxRecDepth 10000
section
variable {H0:Type} {enc:TypeId×Value→H0} {w:World} {base n:Nat} {spare:Nat→Bool} {kZ:Bool} {x:DataW H0×List MemPlace}
end
section
variable {H0:Type} {enc:TypeId×Value→H0} {w:World} {base:Nat} {kZ:Bool}
end
end Go.Ds
namespace Go.Ds
open Go.Proofs Go.Proofs.Tryz
variable {H:Heap}
set_option maxRecDepth 10000
set_option maxHeartbeats 1000000
def mkN(P:Program)(t:TypeId):Option (Nat×Nat×List Value):=
 (iJ P t).bind fun elem=>(iE P elem).bind fun size=>(mZ P elem).bind fun bytes=>(jA P elem).bind fun z=>if size !=0&&size !=1&&z.cells.size==size&&jB z then some (bytes,size,z.cells.toList)else none
theorem b6r{β:Type}(cel:β→List Value)(x:β)(z:Array Value)(hz:cel x=z.toList)(h0:0<z.size):∀a,(madeCells z (a*z.size)).toList=(List.replicate a x).flatMap cel:=by
 have key:∀a,(List.range (a*z.size)).map (fun i=>z[i%z.size]!)=(List.replicate a x).flatMap cel:=by
  intro a
  induction a with
  | zero=>simp
  | succ a ih=>
    rw[gL,Nat.add_comm,List.range_add,dT,List.map_map,List.replicate_succ,dD,←ih,hz]
    congr 1
    ·refine List.ext_getElem (by simp) fun i h1 h2=> ?_
     simp only[List.getElem_map,gW]
     rw[gk (by simpa using h1)]
     simp at h1
     simp[h1]
    ·refine List.map_congr_left fun i _=> ?_
     simp
 intro a
 rw[←key a]
 simp[madeCells]
theorem St.cq{P:Program}{H0:Base}{H:Heap}{os:List Ob}{β:Type}{cel:β→List Value}{x:β}(hS:St P H0 H os){t:TypeId}{bytes sz:Nat}{zs:List Value}{K:Value→Heap→Prop}(a:Nat)(ha:mkN P t=some (bytes,sz,zs))(hz:cel x=zs)(hroom:a*(bytes+1)≤17592186044416)
 (h:∀v H1,St P H0 H1 (os++[⟨v,sz,(List.replicate a x).flatMap cel⟩])→K v H1):pO P H t (.int .i64 a) (.int .i64 a) K:=by
 unfold mkN at ha
 cases he:iJ P t with
 | none=>rw[he]at ha;cases ha
 | some elem=>
 rw[he]at ha
 simp only[cZ]at ha
 cases hsz2:iE P elem with
 | none=>rw[hsz2]at ha;cases ha
 | some sz=>
 rw[hsz2]at ha
 simp only[cZ]at ha
 cases hby:mZ P elem with
 | none=>rw[hby]at ha;cases ha
 | some by'=>
 rw[hby]at ha
 simp only[cZ]at ha
 cases hz2:jA P elem with
 | none=>rw[hz2]at ha;cases ha
 | some z'=>
 rw[hz2]at ha
 simp only[cZ]at ha
 split at ha
 case isFalse=>cases ha
 rename_i hzs
 simp only[cY,beq_iff_eq,bne_iff_ne,ne_eq]at hzs
 obtain⟨⟨⟨hs0,hs1⟩,hz1⟩,hfl⟩:=hzs
 simp only[dH,gy]at ha
 obtain⟨rfl,rfl,rfl⟩:=ha
 have hm:=b6r cel x z'.cells hz (by omega) a
 rw[hz1]at hm
 have hln:((List.replicate a x).flatMap cel).length=a*sz:=by
  rw[←hm]
  simp[madeCells]
 refine⟨.slice (some ⟨H.length,0,some ((List.replicate a x).flatMap cel).length⟩) a sz,H.cons (.cells ((List.replicate a x).flatMap cel) elem true ((List.replicate a x).flatMap cel).length 0),?_,h _ _ (hS.add ?_ ?_ ?_ ?_)⟩
 ·unfold tZ
  simp only[he,hsz2,hby,hz2,cZ]
  rw[if_pos]
  ·rw[if_neg hs1]
   simp only[dN,hm]
   rw[lG]
  ·have:(a:Int)*(by'+1)≤(oJ:Int):=by
    have h3:((a*(by'+1):Nat):Int)≤((17592186044416:Nat):Int):=Int.ofNat_le.2 hroom
    simpa [oJ]using h3
   simp[hfl,hz1,this,hs0]
 ·unfold OwnAt
  rw[if_neg hs0]
  exact .inr ⟨_,0,elem,_,0,[],a,iN H _,by simp,rfl,hln,by simp,hsz2⟩
 ·simp[oY]
 ·exact fun B hB=>jQ _ hB
 ·intro B hB
  simp[kL]at hB
  omega
abbrev Nt:=Nat×Nat
def ntc(x:Nt):List Value:=[.int .u64 x.1,.int .u64 x.2]
def Nt.Ok(x:Nt):Prop:=x.1<18446744073709551616∧x.2<18446744073709551616
theorem c5s:mkN prog 43=some (16,2,ntc (0,0)):=by kernel_rfl
def rA(x:Nt)(n:Int):Nt:=if n<64 then(x.1|||2^n.toNat,x.2)else(x.1,x.2|||2^(n-64).toNat)
theorem a6k(i:Nat)(h:i<64):2^i<18446744073709551616:=by
 have:2^i≤2^63:=fw (by decide) (by omega)
 have e:2^63=9223372036854775808:=rfl
 omega
theorem b6X{a b:Nat}(ha:a<18446744073709551616)(hb:b<18446744073709551616):a|||b<18446744073709551616:=Nat.or_lt_two_pow (n:=64) ha hb
theorem orB(a b:Nat)(ha:a<18446744073709551616)(hb:b<18446744073709551616):IntKind.wrap .u64 ((BitVec.ofInt (IntKind.bits .u64) (a:Int)|||BitVec.ofInt (IntKind.bits .u64) (b:Int)).toNat:Int)=((a|||b:Nat):Int):=by
 have e:(BitVec.ofInt (IntKind.bits .u64) (a:Int)|||BitVec.ofInt (IntKind.bits .u64) (b:Int)).toNat=a|||b:=by
  rw[BitVec.toNat_or,vN a ha,vN b hb]
 rw[e]
 have:=b6X ha hb
 exact mX _ (by omega) (by omega)
theorem orN(n i:Nat)(hn:n<18446744073709551616)(hi:i<64):IntKind.wrap .u64 ((BitVec.ofInt (IntKind.bits .u64) (n:Int)|||BitVec.ofInt (IntKind.bits .u64) (IntKind.wrap .u64 (1*2^min i (IntKind.bits .u64)))).toNat:Int)=((n|||2^i:Nat):Int):=by
 rw[b6K i hi]
 exact orB n (2^i) hn (a6k i hi)
theorem c0k{x:Nt}(hx:Nt.Ok x){z:Int}(h0:0≤z)(h1:z<128):Nt.Ok (rA x z):=by
 unfold rA
 split
 ·exact⟨b6X hx.1 (a6k _ (by omega)),hx.2⟩
 ·exact⟨hx.1,b6X hx.2 (a6k _ (by omega))⟩
theorem a7j(x:Nt)(hx:Nt.Ok x)(z:Int)(h0:0≤z)(h1:z<128):Fn prog 99 [.agg #[.int .u64 x.1,.int .u64 x.2],I z] H fun r H'=>r=.agg #[.int .u64 (rA x z).1,.int .u64 (rA x z).2]∧St prog H H' []:=by
 obtain⟨m,rfl⟩:=eZ h0
 refine .aI func99 rfl (by kernel_rfl) (m:=21) rfl fun l hn g0 g1=> ?_
 simp(disch:=omega) only[↓RA,RB,simprocAttr,g0]
 refine(sR H).eNew 2 [(.int .u64 x.1),(.int .u64 x.2)] rfl rfl rfl nB fun A1 H1 hS1=> ?_
 simp only[RT]at hS1
 simp(disch:=omega) only[↓RA,RZ,simprocAttr]
 refine hS1.eNew 2 [(.int .u64 0),(.int .u64 0)] rfl rfl rfl nB fun A2 H2 hS2=> ?_
 simp only[RT]at hS2
 simp(disch:=omega) only[↓RA,RB,simprocAttr,hn,g1]
 refine iA (fun q1=> ?_) (fun q1=> ?_)
 ·have e1:=orN x.1 m hx.1 (by omega)
  have e2:rA x (m:Int)=(x.1|||2^m,x.2):=by unfold rA;rw[if_pos q1];rfl
  simp(disch:=omega) only[↓RA,RC,simprocAttr,q1]
  refine Wp.drw jZ (by kernel_rfl) ?_
  simp(disch:=omega) only[↓RA,RZ,simprocAttr,hn,g1,hS2.ld 0 rfl,e1]
  refine hS2.ae 0 rfl [(.int .u64 (x.1|||2^m:Nat))] rfl rfl c3X (by simp) fun H3 hS3=> ?_
  simp only[RT]at hS3
  simp(disch:=omega) only[↓RA,RZ,simprocAttr,hn,hS3.ai 0 rfl]
  refine hS3.ae 1 rfl [(.int .u64 (x.1|||2^m:Nat)),(.int .u64 x.2)] rfl rfl nB (by simp) fun H4 hS4=> ?_
  simp only[RT]at hS4
  simp(disch:=omega) only[↓RA,RZ,simprocAttr,hn,c6R,hS4.ai 1 rfl]
  rw[e2]
  exact⟨rfl,hS4.forget⟩
 have e1:=orN x.2 (m-64) hx.2 (by omega)
 have e3:(m:Int)-64=((m-64:Nat):Int):=by omega
 have e2:rA x (m:Int)=(x.1,x.2|||2^(m-64)):=by unfold rA;rw[if_neg q1,e3];rfl
 simp(disch:=omega) only[↓RA,RC,simprocAttr,q1]
 refine Wp.drw jZ (by kernel_rfl) ?_
 simp(disch:=omega) only[↓RA,RZ,simprocAttr,hn,g1,hS2.ld 0 rfl,e1,e3]
 refine hS2.ae 0 rfl [(.int .u64 (x.2|||2^(m-64):Nat))] rfl rfl c3X (by simp) fun H5 hS5=> ?_
 simp only[RT]at hS5
 simp(disch:=omega) only[↓RA,RZ,simprocAttr,hn,hS5.ai 0 rfl]
 refine hS5.ae 1 rfl [(.int .u64 x.1),(.int .u64 (x.2|||2^(m-64):Nat))] rfl rfl nB (by simp) fun H6 hS6=> ?_
 simp only[RT]at hS6
 simp(disch:=omega) only[↓RA,RZ,simprocAttr,hn,c6R,hS6.ai 1 rfl]
 rw[e2]
 exact⟨rfl,hS6.forget⟩
def jF(xs:List Int):Nt:=xs.foldl rA (0,0)
def isN(z:Int):Prop:=0≤z∧z<128
theorem sW:∀(xs:List Int)(x:Nt),(∀z∈xs,isN z)→Nt.Ok x→Nt.Ok (xs.foldl rA x)
 | [],_,_,h=>h
 | z::xs,x,hz,h=>by
   rw[eQ]
   exact sW xs _ (fun y hy=>hz y (dR _ hy)) (c0k h (hz z (dK ..)).1 (hz z (dK ..)).2)
theorem a7x(xs:List Int){j:Nat}(hj:j<xs.length):jF (xs.take (j+1))=rA (jF (xs.take j)) (iB xs j):=by
 unfold jF
 rw[List.take_add_one,du hj,Option.toList_some,fC,←jM _ j hj]
 rfl
theorem b4w(z:Int)(h:isN z):Fn prog 98 [I z] H fun r H'=>r=.bool true∧St prog H H' []:=by
 have h0:=h.1
 have h1:=h.2
 refine .aR func98 rfl (by kernel_rfl) (m:=9) rfl fun l hn g0=> ?_
 simp(disch:=omega) only[↓RA,RZ,simprocAttr,hn,g0]
 refine jH (fun q1=> ?_) (fun q1=> ?_)
 rotate_left
 ·exfalso;first|omega|(simp at q1;omega)
 simp(disch:=omega) only[↓RA,RZ,simprocAttr,hn,g0,c7U,q1]
 simpa using⟨(by omega:z≤127),(sR H)⟩
theorem xT(xs:List Int)(hz:∀z∈xs,isN z)(v:Value)(hv:Sl 1 (one I) H v xs)(hl:xs.length<1000000000):
 Fn prog 45 [v] H fun r H'=>r=.tuple #[.agg #[.int .u64 (jF xs).1,.int .u64 (jF xs).2],I 0]∧St prog H H' []:=by
 refine .aR func45 rfl (by kernel_rfl) (m:=22) rfl fun l hn g0=> ?_
 simp(disch:=omega) only[↓RA,RZ,simprocAttr]
 refine(sR H).eNew 2 [(.int .u64 0),(.int .u64 0)] rfl rfl rfl nB fun A1 H1 hS1=> ?_
 simp only[RT]at hS1
 simp(disch:=omega) only[↓RA,RZ,simprocAttr]
 refine hS1.eNew 2 [(.int .u64 0),(.int .u64 0)] rfl rfl rfl nB fun A2 H2 hS2=> ?_
 simp only[RT]at hS2
 simp(disch:=omega) only[↓RA,RZ,simprocAttr,hn,g0,(hS2.sl hv).len]
 refine Wp.aq (fun n l H'=>l.length=22∧get l 2=(ptr A1 0 2)∧get l 4=(ptr A2 0 2)∧get l 7=v∧get l 8=I xs.length∧∃(j:Nat),(n+j=xs.length)∧get l 9=I j∧St prog H H' [⟨ptr A1 0 2,0,[(.int .u64 0),(.int .u64 0)]⟩,⟨ptr A2 0 2,0,[.int .u64 (jF (xs.take j)).1,.int .u64 (jF (xs.take j)).2]⟩]) xs.length ?_ ?_
 ·simp(disch:=omega) only[RB,RC,simprocAttr,hn]
  exact⟨0,by omega,rfl,hS2⟩
 rintro n l H3⟨hn,g2,g4,g7,g8,j,hj,g9,hS3⟩
 simp(disch:=omega) only[↓RA,RB,simprocAttr,hn,g8,g9]
 refine iA (fun q1=> ?_) (fun q1=> ?_)
 ·have hx:=hz _ (iD (xs:=xs) (j:=j) (by omega))
  have hok:Nt.Ok (jF (xs.take j)):=sW _ _ (fun z h=>hz z (fX h)) ⟨by decide,by decide⟩
  simp(disch:=omega) only[↓RA,RZ,simprocAttr,hn,g7,g9,(hS3.sl hv).idx,(hS3.sl hv).ld,one,q1]
  refine hS3.cF (b4w (iB xs j) hx) fun H4 hS4=> ?_
  simp(disch:=omega) only[↓RA,RZ,simprocAttr,hn,g4,hS4.ai 1 rfl,q1]
  refine hS4.cF (a7j (jF (xs.take j)) hok (iB xs j) hx.1 hx.2) fun H5 hS5=> ?_
  simp(disch:=omega) only[↓RA,RZ,simprocAttr,hn,g4,q1]
  refine hS5.ae 1 rfl [(.int .u64 (rA (jF (xs.take j)) (iB xs j)).1),(.int .u64 (rA (jF (xs.take j)) (iB xs j)).2)] rfl rfl nB (by simp) fun H6 hS6=> ?_
  simp only[RT]at hS6
  simp(disch:=omega) only[↓RA,RZ,simprocAttr,hn,g2,g4,g7,g8,g9,q1]
  refine⟨n-1,by omega,j+1,by omega,by simp,?_⟩
  rw[a7x xs (by omega)]
  exact hS6.pick [0,1] (by decide) rfl
 have hjj:j=xs.length:=by omega
 simp(disch:=omega) only[↓RA,RZ,simprocAttr,hn,g2,g4,hS3.ai 1 rfl,q1]
 refine hS3.ae 0 rfl [(.int .u64 (jF (xs.take j)).1),(.int .u64 (jF (xs.take j)).2)] rfl rfl nB (by simp) fun H7 hS7=> ?_
 simp only[RT]at hS7
 simp(disch:=omega) only[↓RA,RZ,simprocAttr,hn,g2,c8l,hS7.ai 0 rfl,q1]
 rw[hjj,ee]
 exact⟨rfl,hS7.forget⟩
end Go.Ds
namespace Go.Ds
open Go.Proofs
variable {H:Heap}
set_option maxRecDepth 10000
set_option maxHeartbeats 1000000
theorem St.perm{P:Program}{H0:Base}{os os':List Ob}(h:St P H0 H os)(hp:os.Perm os'):St P H0 H os' where
 len:=h.len
 old:=h.old
 own o ho:=h.own o (hp.mem_iff.2 ho)
 new o ho:=h.new o (hp.mem_iff.2 ho)
 sep:=(List.Perm.pairwise_iff (fun{_ _}hxy B hB hB2=>hxy B hB2 hB) hp).1 h.sep
theorem Lp.swap{P:Program}{B:Base}{L:Nat}{r:Loop}{xs ys zs:List Ob}(h:Lp P B L r H ((xs++ys)++zs)):Lp P B L r H ((xs++zs)++ys):=by
 have hp:((xs++ys)++zs).Perm ((xs++zs)++ys):=by
  rw[eh,eh]
  exact(List.perm_append_comm).append_left xs
 exact⟨h.st.perm hp,h.get,h.lo,fun o ho=>h.ne o (hp.mem_iff.2 ho)⟩
end Go.Ds
namespace Go.Ds
open Go.Proofs Go.Proofs.Tryz
variable {H:Heap}
set_option maxRecDepth 10000
set_option maxHeartbeats 1000000
def ctz(x:Nat):Nat:=((List.range 64).find? fun i=>x.testBit i).getD 64
theorem a2o{x:Nat}(h0:x≠0)(h1:x<18446744073709551616):ctz x<64∧x.testBit (ctz x)=true∧∀j,j<ctz x→x.testBit j=false:=by
 have hx:∃i,i<64∧x.testBit i=true:=by
  refine fT fun hn=>h0 ?_
  refine fY fun i=> ?_
  rw[iw]
  by_cases hi:i<64
  ·by_cases hb:x.testBit i=true
   ·exact absurd ⟨i,hi,hb⟩ hn
   ·simpa using hb
  ·exact Nat.testBit_lt_two_pow (dP (show x<2^64 by simpa using h1) (fw (by decide) (by omega)))
 unfold ctz
 cases hf:(List.range 64).find? fun i=>x.testBit i with
 | none=>
   obtain⟨i,hi,hb⟩:=hx
   have:=gu.1 hf i (dx.2 hi)
   exact absurd hb (by simpa using this)
 | some i=>
   obtain⟨hb,ys,bs,he,hn⟩:=List.find?_eq_some_iff_append.1 hf
   have hi:i<64:=dx.1 (he▸(by simp:i∈ys++i::bs))
   refine⟨hi,hb,fun j hj0=> ?_⟩
   have hj:j<i:=hj0
   have hl:ys.length=i:=by
    have h2:(List.range 64)[ys.length]? =some i:=by rw[he];simp
    have h3:ys.length<64:=by
     have:=congrArg List.length he
     simp at this
     omega
    rw[gQ h3]at h2
    exact cX h2
   have hm:j∈ys:=by
    have h2:(List.range 64)[j]? =some j:=gQ (by omega)
    rw[he,eJ (by simpa using(hl▸hj))]at h2
    exact dU h2
   simpa using hn j hm
theorem a4R{x:Nat}(h0:x≠0)(h1:x<18446744073709551616):∃m,x=2^ctz x*(2*m+1):=by
 obtain⟨c1,c2,c3⟩:=a2o h0 h1
 generalize ctz x=k at c1 c2 c3
 have hd:x%2^k=0:=by
  refine fY fun i=> ?_
  rw[Nat.testBit_mod_two_pow,iw]
  by_cases hi:i<k
  ·rw[c3 i hi,Bool.and_false]
  ·rw[decide_eq_false hi,fo]
 have h2:x/2^k%2=1:=by
  rw[←eP]
  have:=c2
  rw[tb]at this
  exact of_decide_eq_true this
 refine⟨x/2^k/2,?_⟩
 have h3:=Nat.div_add_mod x (2^k)
 have h4:=Nat.div_add_mod (x/2^k) 2
 rw[hd,gZ]at h3
 rw[←h3]
 congr 1
 rw[h3]
 omega
theorem b9l{x:Nat}(h0:x≠0)(h1:x<18446744073709551616):x&&&(18446744073709551616-x)=2^ctz x:=by
 obtain⟨m,hm⟩:=a4R h0 h1
 obtain⟨c1,_,_⟩:=a2o h0 h1
 generalize ctz x=k at hm c1
 have e64:(18446744073709551616:Nat)=2^k*(2*2^(63-k)):=by
  have:2^k*(2*2^(63-k))=2^64:=by rw[←Nat.pow_succ',←Nat.pow_add];congr 1;omega
  rw[this]
 have hml:m<2^(63-k):=by
  rw[e64,hm]at h1
  have:=Nat.lt_of_mul_lt_mul_left h1
  omega
 have e2:18446744073709551616-x=2^k*(2*(2^(63-k)-(m+1))+1):=by
  rw[e64,hm,←Nat.mul_sub]
  congr 1
  omega
 rw[e2,hm]
 refine fY fun i=> ?_
 rw[Nat.testBit_and,gh]
 have hs:∀y:Nat,(2^k*y).testBit i=(decide (k≤i)&&y.testBit (i-k)):=fun y=>by rw[Nat.mul_comm,Nat.testBit_mul_two_pow]
 rw[hs,hs]
 by_cases hi:k≤i
 ·rw[decide_eq_true hi,gS,gS]
  by_cases he:i=k
  ·subst he
   rw[Nat.sub_self,Nat.testBit_zero,Nat.testBit_zero]
   simp
  ·obtain⟨j,hj⟩:∃j,i-k=j+1:=⟨i-k-1,by omega⟩
   rw[hj,Nat.testBit_succ,Nat.testBit_succ,show(2*m+1)/2=m by omega,show(2*(2^(63-k)-(m+1))+1)/2=2^(63-k)-(m+1) by omega,Nat.testBit_two_pow_sub_succ hml,decide_eq_false (by omega:¬k=i)]
   cases m.testBit j<;>simp
 ·rw[decide_eq_false hi,fo,decide_eq_false (by omega)]
  rfl
theorem c7s:((List.range 64).all fun k=>decide (2^k*285870213051353865%18446744073709551616/288230376151711744<64)&&decide (t64.getD (2^k*285870213051353865%18446744073709551616/288230376151711744) 99=k))=true:=by kernel_rfl
theorem b5C{P:Program}{t:TypeId}{n:Nat}{elem:TypeId}{size:Nat}(ha:P.underlying t=some (.array n elem))(hs:iE P elem=some size)(A i:Nat)(k:IntKind)(j:Int)(h0:0≤j)(h1:j<n):
 wZ (iR P t) P t (.pointer (some ⟨A,i,none⟩)) (.int k j)=some (.pointer (some ⟨A,i+j.toNat*size,none⟩)):=by
 have hn:iR P t=none:=by simp[iR,iJ,ha]
 rw[hn]
 simp only[wZ,a2i,ha,hs,cZ]
 rw[if_pos (by simp[h0,h1])]
theorem c4b(k:IntKind)(j:Int)(h0:0≤j)(h1:j<64):wZ (iR prog 332) prog 332 (.pointer (some ⟨0,0,none⟩)) (.int k j)=some (.pointer (some ⟨0,0+j.toNat*1,none⟩)):=
 b5C (n:=64) (elem:=5) (size:=1) (by kernel_rfl) (by kernel_rfl) 0 0 k j h0 h1
theorem b3O(g:Nat)(l:List Value)(K:Value→Prop):jN (.global g) l K=K (.pointer (some ⟨g,0,none⟩)):=by simp[jN,iP,ev]
theorem gld(hG:Glob gH H)(j:Nat)(hj:j<64)(s:Option Nat):pF (some false) s H (.pointer (some ⟨0,j,none⟩))=some (.int .u8 (t64.getD j 0:Nat)):=by
 have h0:iS H 0=some (.cells (t64.map fun(n:Nat)=>Value.int .u8 (.ofNat n)) 5 false 0 1):=by
  rw[hG.same 0 (by decide)]
  rfl
 simp only[pF,jC,h0]
 have hl:(t64.map fun(n:Nat)=>Value.int .u8 (.ofNat n)).length=64:=by rw[eu];rfl
 rw[if_pos (by rw[hl];simp;omega)]
 simp only[cZ]
 rw[dY (by omega),dJ,gZ,eR,du (show j<t64.length from hj)]
 rw[dS,dg,du (show j<t64.length from hj)]
 rfl
theorem b0G(m:Int):IntKind.wrap .u64 m=m%18446744073709551616:=by
 show(if(false&&decide (m%18446744073709551616≥9223372036854775808))=true then m%18446744073709551616-18446744073709551616 else m%18446744073709551616)=_
 simp
theorem c6A(hG:Glob gH H)(x:Nat)(h0:x≠0)(h1:x<18446744073709551616):Fn prog 186 [.int .u64 x] H fun r H'=>r=I (ctz x)∧St prog H H' []:=by
 obtain⟨c1,_,_⟩:=a2o h0 h1
 have hd:=dz.1 c7s (ctz x) (dx.2 c1)
 rw[cY,decide_eq_true_eq,decide_eq_true_eq]at hd
 have eA:IntKind.wrap .u64 (0-(x:Int))=((18446744073709551616-x:Nat):Int):=by
  rw[b0G]
  omega
 have eB:IntKind.wrap .u64 ((BitVec.ofInt (IntKind.bits .u64) (x:Int)&&&BitVec.ofInt (IntKind.bits .u64) ((18446744073709551616-x:Nat):Int)).toNat:Int)=((2^ctz x:Nat):Int):=by
  rw[gO,vN x h1,vN _ (by omega),b9l h0 h1]
  exact mX _ (by omega) (by have:=a6k (ctz x) c1;omega)
 have eC:IntKind.wrap .u64 (((2^ctz x:Nat):Int)*285870213051353865)=((2^ctz x*285870213051353865%18446744073709551616:Nat):Int):=by
  rw[b0G]
  rfl
 have eD:((2^ctz x*285870213051353865%18446744073709551616:Nat):Int).fdiv (2^min 58 (IntKind.bits .u64))=((2^ctz x*285870213051353865%18446744073709551616/288230376151711744:Nat):Int):=by
  rw[show(2:Int)^min 58 (IntKind.bits .u64)=((288230376151711744:Nat):Int)from rfl]
  exact gI _ (by omega)
 have hd1:=hd.1
 have hd2:=hd.2
 generalize 2^ctz x*285870213051353865%18446744073709551616/288230376151711744=i at eD hd1 hd2
 refine .aR func186 rfl (by kernel_rfl) (m:=14) rfl fun l hn g0=> ?_
 have iS:=gld hG i hd1 (some 1)
 rw[show t64.getD i 0=ctz x from by rw[←hd2,dg,dg,du (show i<t64.length from hd1)];rfl]at iS
 have hidx:=c4b .u64 (i:Int) (by omega) (by omega)
 rw[dN,Nat.mul_one,fQ]at hidx
 simp(disch:=omega) only[↓RA,RB,simprocAttr,hn,g0]
 refine iA (fun q=> ?_) (fun q=> ?_)
 ·exfalso;omega
 simp(disch:=omega) only[↓RA,RZ,simprocAttr,hn,g0,c6n,eA,eB,eC,eD,b3O,iS,hidx,q]
 first|exact(sR H)|exact⟨rfl,(sR H)⟩
theorem a5Z{x:Nat}(h0:x≠0)(h1:x<18446744073709551616)(j:Nat):(x&&&(x-1)).testBit j=(x.testBit j&& !decide (j=ctz x)):=by
 obtain⟨m,hm⟩:=a4R h0 h1
 generalize ctz x=k at hm
 have hp:0<2^k:=Nat.two_pow_pos k
 have e1:x=2^(k+1)*m+2^k:=by rw[hm,Nat.pow_succ,Nat.mul_add,Nat.mul_one,Nat.mul_assoc]
 have e2:x-1=2^(k+1)*m+(2^k-1):=by omega
 have hl:2^k<2^(k+1):=Nat.pow_lt_pow_right (by decide) (by omega)
 rw[Nat.testBit_and,e2]
 rw[e1,Nat.testBit_two_pow_mul_add m hl,Nat.testBit_two_pow_mul_add m (by omega:2^k-1<2^(k+1))]
 by_cases hj:j<k+1
 ·rw[if_pos hj,if_pos hj,gh,Nat.testBit_two_pow_sub_one]
  by_cases he:j=k
  ·simp[he]
  ·simp[show¬k=j by omega]
 ·rw[if_neg hj,if_neg hj,show decide (j=k)=false from decide_eq_false (by omega)]
  simp
theorem b4R{x:Nat}(h0:x≠0)(h1:x<18446744073709551616):pJ x=ctz x::pJ (x&&&(x-1)):=by
 obtain⟨c1,c2,c3⟩:=a2o h0 h1
 have hb:=a5Z h0 h1
 generalize ctz x=k at c1 c2 c3 hb
 obtain⟨t,ht⟩:=vE c1
 have hnd:(List.range 64).Nodup:=List.nodup_range
 unfold pJ
 rw[ht,eS,eS,List.filter_cons_of_pos (by simpa using c2),List.filter_cons_of_neg (by rw[hb];simp)]
 rw[ht]at hnd
 have e1:(List.range k).filter (fun i=>x.testBit i)=[]:=gw.2 fun i hi=>by simpa using c3 i (dx.1 hi)
 have e2:(List.range k).filter (fun i=>(x&&&(x-1)).testBit i)=[]:=gw.2 fun i hi=>by rw[hb,c3 i (dx.1 hi)];simp
 rw[e1,e2,fp,fp]
 congr 1
 refine List.filter_congr fun i hi=> ?_
 have hne:i≠k:=fun e=>by
  subst e
  exact(List.nodup_cons.1 (List.nodup_append.1 hnd).2.1).1 hi
 rw[hb,decide_eq_false hne]
 simp
theorem b1d:pJ 0=[]:=gw.2 fun i _=>by simp
def qD(x:Nt):List Int:=(pJ x.1).map (fun(i:Nat)=>(i:Int))++(pJ x.2).map fun(i:Nat)=>64+(i:Int)
def a8o(x:Nt)(i:Nat):Nat:=if i=0 then x.1 else x.2
def a6a(x:Nt)(i:Nat):List Int:=(pJ (a8o x i)).map fun(j:Nat)=>64*(i:Int)+(j:Int)
def a6r(x:Nt)(i:Nat):List Int:=(List.range i).flatMap (a6a x)
theorem a0w(x:Nt)(i:Nat):a6r x (i+1)=a6r x i++a6a x i:=by
 unfold a6r
 rw[ec,dF,dD,ez,dr]
theorem a6O(x:Nt):a6r x 2=qD x:=by
 rw[a0w,a0w]
 unfold qD a6r a6a a8o
 simp
theorem c0O{x:Nt}(hx:Nt.Ok x)(i:Nat):a8o x i<18446744073709551616:=by
 unfold a8o
 split
 ·exact hx.1
 ·exact hx.2
theorem c5d(a b:Int):pY prog 302 (.agg #[.int .u64 a,.int .u64 b]) (I 0)=some (.int .u64 a):=by kernel_rfl
theorem c7h(a b:Int):pY prog 302 (.agg #[.int .u64 a,.int .u64 b]) (I 1)=some (.int .u64 b):=by kernel_rfl
theorem c8O(x:Nt)(i:Nat)(h:i<2):a3B (oP prog 302) prog 302 (.agg #[.int .u64 x.1,.int .u64 x.2]) (I i)=some (.int .u64 (a8o x i)):=by
 rw[←a8j]
 rcases(by omega:i=0∨i=1)with rfl|rfl
 ·exact c5d _ _
 ·exact c7h _ _
theorem c3y(x:Nt)(hx:Nt.Ok x)(A:Nat)(f:Value)(J:List Int→Heap→Prop)(h0:J [] H)(hg:∀d H1,J d H1→Var H1 A 2 [.int .u64 x.1,.int .u64 x.2]∧Glob gH H1)
 (hst:∀d H1 H2,J d H1→St prog H1 H2 []→J d H2)
 (hf:∀d c e H1,qD x=d++c::e→J d H1→uQ prog f [I c] H1 fun v H2=>v=.bool true∧J (d++[c]) H2):
 FnS prog 185 [f,ptr A 0 2] H fun _ H'=>J (qD x) H':=by
 have hV0:=(hg _ _ h0).1
 refine FnS.aZ func185 rfl (by kernel_rfl) fun l hl=> ?_
 have hn:l.length=29:=by rw[hl];rfl
 have g0:get l 0=f:=by rw[hl];rfl
 have g1:get l 1=(ptr A 0 2):=by rw[hl];rfl
 clear hl
 simp(disch:=omega) only[↓RA,RZ,simprocAttr,hn,g1,hV0.ld,b3N]
 refine Wp.aq (fun n l H'=>l.length=29∧get l 0=f∧get l 1=ptr A 0 2∧get l 9=.agg #[.int .u64 x.1,.int .u64 x.2]∧∃i:Nat,n+i=2∧get l 10=I i∧J (a6r x i) H') 2 ?_ ?_
 ·simp(disch:=omega) only[RB,RC,simprocAttr,hn,g0,g1]
  exact⟨0,rfl,rfl,h0⟩
 rintro n l H9⟨hn,g0,g1,g9,i,hi,oO,hJ⟩
 simp(disch:=omega) only[↓RA,RB,simprocAttr,hn,oO]
 refine iA (fun q1=> ?_) (fun q1=> ?_)
 ·have hix:=c8O x i (by omega)
  have hwl:=c0O hx i
  simp(disch:=omega) only[↓RA,RZ,simprocAttr,hn,g9,oO,q1,hix]
  refine Wp.aq (fun n2 l H'=>l.length=29∧get l 0=f∧get l 1=ptr A 0 2∧get l 9=.agg #[.int .u64 x.1,.int .u64 x.2]∧get l 10=I i∧get l 3=I i∧∃(y:Nat)(d:List Nat),(n2=(pJ y).length∧y<18446744073709551616∧pJ (a8o x i)=d++pJ y)∧get l 4=.int .u64 y∧J (a6r x i++d.map fun(j:Nat)=>64*(i:Int)+(j:Int)) H') (pJ (a8o x i)).length ?_ ?_
  ·simp(disch:=omega) only[RB,RC,simprocAttr,hn,g0,g1,g9,oO]
   exact⟨a8o x i,[],⟨rfl,hwl,rfl⟩,rfl,by rw[gr,dr];exact hJ⟩
  rintro n2 l H8⟨hn,g0,g1,g9,oO,g3,y,d,⟨hn2,hy,hbd⟩,g4,hJ2⟩
  simp(disch:=omega) only[↓RA,RB,simprocAttr,hn,g4]
  refine iA (fun q2=> ?_) (fun q2=> ?_)
  ·have hy0:y≠0:=by omega
   have hc:=a2o hy0 hy
   have hlow:=b4R hy0 hy
   have hGl:=(hg _ _ hJ2).2
   have eY1:IntKind.wrap .u64 ((y:Int)-1)=((y-1:Nat):Int):=by
    rw[b0G]
    omega
   have eY2:IntKind.wrap .u64 ((BitVec.ofInt (IntKind.bits .u64) (y:Int)&&&BitVec.ofInt (IntKind.bits .u64) ((y-1:Nat):Int)).toNat:Int)=((y&&&(y-1):Nat):Int):=by
    rw[gO,vN y hy,vN _ (by omega)]
    have:=Nat.and_le_left (n:=y) (m:=y-1)
    exact mX _ (by omega) (by omega)
   have hyl:y&&&(y-1)<18446744073709551616:=Nat.lt_of_le_of_lt Nat.and_le_left hy
   have hmem:qD x=(a6r x i++d.map fun(j:Nat)=>64*(i:Int)+(j:Int))++(64*(i:Int)+(ctz y:Int))::((pJ (y&&&(y-1))).map (fun(j:Nat)=>64*(i:Int)+(j:Int))++((List.range 2).drop (i+1)).flatMap (a6a x)):=by
    rw[←a6O]
    unfold a6r
    have e:List.range 2=List.range i++i::(List.range 2).drop (i+1):=by
     rcases(by omega:i=0∨i=1)with rfl|rfl<;>rfl
    rw[congrArg (List.flatMap (a6a x)) e,dF,dD]
    rw[show a6a x i=(d++pJ y).map (fun(j:Nat)=>64*(i:Int)+(j:Int))from by unfold a6a;rw[hbd]]
    rw[hlow,dT,eF]
    simp only[eh,iq]
   have hc1:=hc.1
   simp(disch:=omega) only[↓RA,RZ,simprocAttr,hn,g0,g3,g4,q2]
   refine(sR H8).cF (c6A ((sR H8).gl hGl) y hy0 hy) fun H1 hS1=> ?_
   simp(disch:=omega) only[↓RA,RZ,simprocAttr,hn,q2]
   refine a9Q (hf _ _ _ _ hmem (hst _ _ _ hJ2 hS1)) ?_
   rintro r H10⟨rfl,hJ3⟩
   simp(disch:=omega) only[↓RA,RZ,simprocAttr,hn,g0,g1,g9,oO,g3,g4,q2,eY1,eY2]
   refine⟨(pJ (y&&&(y-1))).length,by rw[hn2,hlow];simp,y&&&(y-1),d++[ctz y],⟨rfl,hyl,by rw[hbd,hlow];simp⟩,rfl,?_⟩
   rw[dT,eF,gr,←eh]
   exact hJ3
  simp(disch:=omega) only[↓RA,RZ,simprocAttr,hn,g0,g1,g9,oO,q2]
  have hy0:y=0:=by omega
  subst hy0
  refine⟨n-1,by omega,i+1,by omega,by simp,?_⟩
  rw[a0w]
  have:a6a x i=d.map fun(j:Nat)=>64*(i:Int)+(j:Int):=by
   unfold a6a
   rw[hbd,b1d,dr]
  rw[this]
  exact hJ2
 simp(disch:=omega) only[↓RA,RZ,simprocAttr,c6r,q1]
 have e:i=2:=by omega
 subst e
 rw[←a6O]
 exact hJ
theorem a2l(x:Nt):(qD x).length≤128:=by
 unfold qD
 rw[dq,eu,eu]
 have h1:=a8k x.1 64
 have h2:=a8k x.2 64
 unfold b8i at h1 h2
 unfold pJ
 omega
theorem b3B(hG:Glob gH H)(x:Nt)(hx:Nt.Ok x)(A:Nat)(hA:Var H A 2 [.int .u64 x.1,.int .u64 x.2]):
 Fn prog 184 [.slice none 0 0,.func (.func 185) #[] #[ptr A 0 2]] H fun r H'=>St prog H H' [⟨r,1,(qD x).flatMap (one I)⟩]:=by
 refine .aI func184 rfl (by kernel_rfl) (m:=13) rfl fun l hn g0 g1=> ?_
 simp(disch:=omega) only[↓RA,RB,simprocAttr,g0]
 refine(sR H).eNew 1 [(.slice none 0 0)] rfl rfl rfl b4E fun A1 H1 hS1=> ?_
 simp only[RT]at hS1
 simp(disch:=omega) only[↓RA,RB,simprocAttr,g1]
 have hS2:=hS1.nil 0
 simp only[RT]at hS2
 refine Wp.cJ fun lrg1 hlrg1=> ?_
 have hnrg1:lrg1.length=13:=by rw[hlrg1];simp(disch:=omega) only[RB,simprocAttr,hn]
 have g2rg1:get lrg1 2=(ptr A1 0 1):=by rw[hlrg1];simp(disch:=omega) only[RB,simprocAttr,hn]
 have g4rg1:get lrg1 4=(.slice none 0 0):=by rw[hlrg1];simp(disch:=omega) only[RB,simprocAttr,hn]
 have gfrg1:get lrg1 6=.func (.func 185) #[] [(ptr A 0 2)].toArray:=by rw[hlrg1];simp(disch:=omega) only[RB,simprocAttr,hn]
 clear hlrg1
 refine Wp.cm gfrg1 fun rg1 hstrg1 hpdrg1 htmrg1 hpsrg1 hasrg1 hbdrg1=> ?_
 have hreqrg1:({rg1 with state:=.ready,pending:=none}:Loop)=rg1:=by
  cases rg1
  simp only at hstrg1 hpdrg1
  subst hstrg1 hpdrg1
  rfl
 have hLprg1:=Lp.enter hS2 rg1
 generalize H1.cons (.loop rg1)=Hcrg1 at hLprg1 ⊢
 generalize H1.length=Lrg1 at hLprg1 ⊢
 refine(c3y x hx A (.func (.yield Lrg1) #[] #[]) (fun d H1=>∃ow,Lp prog H Lrg1 rg1 H1 [⟨ptr A1 0 1,0,[ow]⟩,⟨ow,1,d.flatMap (one I)⟩]) ⟨.slice none 0 0,hLprg1⟩ ?_ ?_ ?_).mono ?_
 ·rintro d H1⟨ow,h⟩
  exact⟨hA.ag h.st.ag,h.st.gl hG⟩
 ·rintro d H1 H2⟨ow,h⟩hS
  exact⟨ow,by simpa using h.ext hS⟩
 ·rintro d c e H20 hm⟨ow,hLpj⟩
  have hml:=a2l x
  have hdl:d.length<128:=by
   rw[hm,dq,dV]at hml
   omega
  refine a1r hLpj.get (by rw[hpsrg1];rfl) hstrg1 ?_
  refine Wp.bQ (l:=put lrg1 (some 7) (I c)) hasrg1 (by rw[hpsrg1,htmrg1];first|exact(nH ..).symm|rfl|simp[put,nH]) ?_
  simp(disch:=omega) only[↓RA,RZ,simprocAttr,hnrg1]
  refine⟨rg1,hLpj.get,hstrg1,?_⟩
  have hYBs1:=hLpj.set (fun h=>h) {rg1 with state:=.busy}
  have hKBs1:∀B,B≠Lrg1→iS (hset H20 Lrg1 (.loop {rg1 with state:=.busy})) B=iS H20 B:=fun B h=>iZ _ (fb h)
  have hNBs1:(hset H20 Lrg1 (.loop {rg1 with state:=.busy})).length=H20.length:=jS ..
  generalize hset H20 Lrg1 (.loop {rg1 with state:=.busy})=HBs1 at hYBs1 hKBs1 hNBs1 ⊢
  refine Wp.bQ hbdrg1 rfl ?_
  have hZBs1:=hYBs1.st
  obtain⟨Bs1,hBBs1,hS3⟩:=hZBs1.aE (os:=[⟨ptr A1 0 1,0,_⟩,⟨ow,1,_⟩])
  simp(disch:=omega) only[↓RA,RZ,simprocAttr,hnrg1,g2rg1,hS3.ld 0 rfl]
  refine hS3.ak [I c] a0e a3i rfl rfl (by simp[Value.cells]) rfl rfl (by decide) (by decide) fun w1 H2 hS4=> ?_
  simp only[RT]at hS4
  simp(disch:=omega) only[↓RA,RZ,simprocAttr,hnrg1]
  refine hS4.aw 1 rfl (hS4.rd 2 rfl) a0e (by rw[qE,eu];simp;omega) fun w2 H3 hS5=> ?_
  simp only[RT]at hS5
  simp(disch:=omega) only[↓RA,RB,simprocAttr,hnrg1,g2rg1]
  refine hS5.ae 0 rfl [w2] (by rw[(hS5.rd 1 rfl).cells.1]) (by simp[(hS5.rd 1 rfl).cells.2.1]) b4E (by simp) fun H4 hS6=> ?_
  simp only[RT]at hS6
  simp(disch:=omega) only[↓RA,simprocAttr]
  have hS7:=hS6.pick (os':=[⟨ptr A1 0 1,0,_⟩,⟨w2,1,_⟩]) [0,1] (by decide) rfl
  have hWBs1:=(hYBs1.body (hBBs1▸hS7)).set (fun h=>h) rg1
  rw[←hreqrg1]at hWBs1
  refine⟨_,(hYBs1.body (hBBs1▸hS7)).get,rfl,w2,?_⟩
  rw[dF]
  exact hreqrg1▸hWBs1
 ·rintro _ H21⟨ow,hLp2⟩
  refine⟨_,hLp2.get,(by rw[hstrg1];exact fun h=>by cases h),fun _=> ?_,fun c hc=>by rw[hpdrg1]at hc;cases hc⟩
  have hAAf1:=(hLp2.set (fun h=>h) {rg1 with state:=.exhausted}).st
  have hKAf1:∀B,B≠Lrg1→iS (hset H21 Lrg1 (.loop {rg1 with state:=.exhausted})) B=iS H21 B:=fun B h=>iZ _ (fb h)
  generalize hset H21 Lrg1 (.loop {rg1 with state:=.exhausted})=HAf1 at hAAf1 hKAf1 ⊢
  simp(disch:=omega) only[↓RA,RZ,simprocAttr,hnrg1,g2rg1,hAAf1.ld 0 rfl,c5l]
  exact hAAf1.pick [1] (by decide) rfl
theorem b0p(hG:Glob gH H)(x:Nt)(hx:Nt.Ok x)(A:Nat)(hA:Var H A 2 [.int .u64 x.1,.int .u64 x.2]):
 Fn prog 134 [.func (.func 185) #[] #[ptr A 0 2]] H fun r H'=>St prog H H' [⟨r,1,(qD x).flatMap (one I)⟩]:=by
 refine .aR func134 rfl (by kernel_rfl) (m:=5) rfl fun l hn g0=> ?_
 simp(disch:=omega) only[↓RA,RZ,simprocAttr,hn,g0]
 refine iG ((b3B ((sR H).gl hG) x hx A (hA.ag (sR H).ag)).tr) ?_
 rintro r H1⟨-,hT1⟩
 have hS1:=(sR H).trans hT1
 simp only[RT]at hS1
 simp(disch:=omega) only[↓RA,RB,simprocAttr,hn,c5i]
 exact hS1
theorem b9M(x:Nt):Fn prog 135 [.agg #[.int .u64 x.1,.int .u64 x.2]] H fun r H'=>∃A,r=.func (.func 185) #[] #[ptr A 0 2]∧St prog H H' [⟨ptr A 0 2,0,[.int .u64 x.1,.int .u64 x.2]⟩]:=by
 refine .aR func135 rfl (by kernel_rfl) (m:=4) rfl fun l hn g0=> ?_
 simp(disch:=omega) only[↓RA,RB,simprocAttr,g0]
 refine(sR H).eNew 2 [(.int .u64 x.1),(.int .u64 x.2)] rfl rfl rfl nB fun A1 H1 hS1=> ?_
 simp only[RT]at hS1
 simp(disch:=omega) only[↓RA,RZ,simprocAttr,hn,c5W]
 exact⟨A1,rfl,hS1⟩
theorem b1k(hG:Glob gH H)(x:Nt)(hx:Nt.Ok x):
 Fn prog 84 [.agg #[.int .u64 x.1,.int .u64 x.2]] H fun r H'=>St prog H H' [⟨r,1,(qD x).flatMap (one I)⟩]:=by
 refine .aR func84 rfl (by kernel_rfl) (m:=6) rfl fun l hn g0=> ?_
 simp(disch:=omega) only[↓RA,RB,simprocAttr,g0]
 refine(sR H).eNew 2 [(.int .u64 x.1),(.int .u64 x.2)] rfl rfl rfl nB fun A1 H1 hS1=> ?_
 simp only[RT]at hS1
 simp(disch:=omega) only[↓RA,RZ,simprocAttr,hn,hS1.ai 0 rfl]
 refine iG (b9M x) ?_
 rintro r H2⟨A2,rfl,hT1⟩
 have hS2:=hS1.trans hT1
 simp only[RT]at hS2
 simp(disch:=omega) only[↓RA,RZ,simprocAttr,hn]
 refine iG ((b0p (hS2.gl hG) x hx A2 (hS2.var 1 rfl)).tr) ?_
 rintro r H3⟨-,hT2⟩
 have hS3:=hS2.trans hT2
 simp only[RT]at hS3
 simp(disch:=omega) only[↓RA,RB,simprocAttr,hn,c8A]
 exact hS3.pick [2] (by decide) rfl
def a8u(a b:Nat):Nat:=(BitVec.ofNat 64 a&&&~~~ BitVec.ofNat 64 b).toNat
theorem a5W(a b:Nat):a8u a b<18446744073709551616:=(BitVec.ofNat 64 a&&&~~~ BitVec.ofNat 64 b).isLt
theorem c2z(a b:Nat):IntKind.wrap .u64 ((BitVec.ofInt (IntKind.bits .u64) (a:Int)&&&~~~ BitVec.ofInt (IntKind.bits .u64) (b:Int)).toNat:Int)=((a8u a b:Nat):Int):=by
 have e:(BitVec.ofInt (IntKind.bits .u64) (a:Int)&&&~~~ BitVec.ofInt (IntKind.bits .u64) (b:Int)).toNat=a8u a b:=by
  unfold a8u
  rw[fW,fW]
  rfl
 rw[e]
 have:=a5W a b
 exact mX _ (by omega) (by omega)
theorem a8W(a b j:Nat)(ha:a<18446744073709551616)(hj:j<64):(a8u a b).testBit j=(a.testBit j&& !b.testBit j):=by
 unfold a8u
 have h1:(BitVec.ofNat 64 a&&&~~~ BitVec.ofNat 64 b).toNat.testBit j=(BitVec.ofNat 64 a&&&~~~ BitVec.ofNat 64 b).getLsbD j:=rfl
 rw[h1,BitVec.getLsbD_and,BitVec.getLsbD_not,BitVec.getLsbD_ofNat,BitVec.getLsbD_ofNat]
 simp[hj]
def woF(x y:Nt):Nt:=(a8u x.1 y.1,a8u x.2 y.2)
theorem c3r(x y:Nt):Nt.Ok (woF x y):=⟨a5W _ _,a5W _ _⟩
theorem c3E(x y:Nt):Fn prog 159 [.agg #[.int .u64 x.1,.int .u64 x.2],.agg #[.int .u64 y.1,.int .u64 y.2]] H fun r H'=>r=.agg #[.int .u64 (woF x y).1,.int .u64 (woF x y).2]∧St prog H H' []:=by
 have e1:=c2z x.1 y.1
 have e2:=c2z x.2 y.2
 refine .aI func159 rfl (by kernel_rfl) (m:=16) rfl fun l hn g0 g1=> ?_
 simp(disch:=omega) only[↓RA,RB,simprocAttr,g0]
 refine(sR H).eNew 2 [(.int .u64 x.1),(.int .u64 x.2)] rfl rfl rfl nB fun A1 H1 hS1=> ?_
 simp only[RT]at hS1
 simp(disch:=omega) only[↓RA,RB,simprocAttr,g1]
 refine hS1.eNew 2 [(.int .u64 y.1),(.int .u64 y.2)] rfl rfl rfl nB fun A2 H2 hS2=> ?_
 simp only[RT]at hS2
 simp(disch:=omega) only[↓RA,RZ,simprocAttr]
 refine hS2.eNew 2 [(.int .u64 0),(.int .u64 0)] rfl rfl rfl nB fun A3 H3 hS3=> ?_
 simp only[RT]at hS3
 simp(disch:=omega) only[↓RA,RZ,simprocAttr,hn,hS3.ld 0 rfl,hS3.ld 1 rfl,b7w,e1,e2]
 refine hS3.ae 2 rfl [_,_] rfl rfl nB (by simp) fun H4 hS4=> ?_
 simp only[RT]at hS4
 simp(disch:=omega) only[↓RA,RZ,simprocAttr,hn,c5K,hS4.ai 2 rfl]
 exact⟨rfl,hS4.forget⟩
theorem b0R(x y:Nt):Fn prog 119 [.agg #[.int .u64 x.1,.int .u64 x.2],.agg #[.int .u64 y.1,.int .u64 y.2]] H fun r H'=>r=.bool (decide (woF x y=(0,0)))∧St prog H H' []:=by
 refine .aI func119 rfl (by kernel_rfl) (m:=10) rfl fun l hn g0 g1=> ?_
 simp(disch:=omega) only[↓RA,RB,simprocAttr,g0]
 refine(sR H).eNew 2 [(.int .u64 x.1),(.int .u64 x.2)] rfl rfl rfl nB fun A1 H1 hS1=> ?_
 simp only[RT]at hS1
 simp(disch:=omega) only[↓RA,RB,simprocAttr,g1]
 refine hS1.eNew 2 [(.int .u64 y.1),(.int .u64 y.2)] rfl rfl rfl nB fun A2 H2 hS2=> ?_
 simp only[RT]at hS2
 simp(disch:=omega) only[↓RA,RZ,simprocAttr,hn,hS2.ai 0 rfl,hS2.ai 1 rfl]
 refine hS2.cF (c3E x y) fun H3 hS3=> ?_
 simp(disch:=omega) only[↓RA,RZ,simprocAttr,hn,b7K,c6q]
 refine⟨?_,hS3.forget⟩
 congr 1
 rw[decide_eq_decide]
 constructor
 ·rintro⟨h1,h2⟩
  exact fP (by simpa using h1) (by simpa using h2)
 ·intro h
  rw[h]
  exact⟨rfl,rfl⟩
def yA(lo hi:Int):Nt:=jF ((List.range (hi-lo+1).toNat).map fun(k:Nat)=>lo+(k:Int))
theorem b4A(lo hi:Int)(h0:0≤lo)(h1:lo≤hi)(h2:hi≤127):Fn prog 118 [.agg #[I lo,I hi]] H fun r H'=>r=.tuple #[.agg #[.int .u64 (yA lo hi).1,.int .u64 (yA lo hi).2],I 0]∧St prog H H' []:=by
 have hce:rD lo hi=0:=by
  unfold rD
  rw[if_neg (by omega),if_neg (by omega)]
 refine .aR func118 rfl (by kernel_rfl) (m:=25) rfl fun l hn g0=> ?_
 simp(disch:=omega) only[↓RA,RB,simprocAttr,g0]
 refine(sR H).eNew 2 [I lo,I hi] rfl rfl rfl yT fun A1 H1 hS1=> ?_
 simp only[RT]at hS1
 simp(disch:=omega) only[↓RA,RZ,simprocAttr]
 refine hS1.eNew 2 [(.int .u64 0),(.int .u64 0)] rfl rfl rfl nB fun A2 H2 hS2=> ?_
 simp only[RT]at hS2
 simp(disch:=omega) only[↓RA,RZ,simprocAttr]
 refine hS2.eNew 2 [(.int .u64 0),(.int .u64 0)] rfl rfl rfl nB fun A3 H3 hS3=> ?_
 simp only[RT]at hS3
 simp(disch:=omega) only[↓RA,RZ,simprocAttr,hn,hS3.ai 0 rfl]
 refine hS3.cF (a2c lo hi) fun H4 hS4=> ?_
 rw[hce]
 simp(disch:=omega) only[↓RA,RZ,simprocAttr,hn,hS4.ld 0 rfl]
 refine Wp.aq (fun n l H'=>l.length=25∧get l 1=(ptr A1 0 2)∧get l 2=(ptr A2 0 2)∧get l 3=I 0∧get l 4=(ptr A3 0 2)∧∃(j:Nat),(n+j=(hi-lo+1).toNat)∧get l 6=I (lo+(j:Int))∧St prog H H' [⟨ptr A1 0 2,0,[I lo,I hi]⟩,⟨ptr A2 0 2,0,[(.int .u64 0),(.int .u64 0)]⟩,⟨ptr A3 0 2,0,[.int .u64 (jF ((List.range j).map fun(k:Nat)=>lo+(k:Int))).1,.int .u64 (jF ((List.range j).map fun(k:Nat)=>lo+(k:Int))).2]⟩]) (hi-lo+1).toNat ?_ ?_
 ·simp(disch:=omega) only[RB,RC,simprocAttr,hn]
  exact⟨0,by omega,by simp,hS4⟩
 rintro n l H5⟨hn,g1,g2,g3,g4,j,hj,g6,hS5⟩
 simp(disch:=omega) only[↓RA,RZ,simprocAttr,hn,g1,g6,hS5.ld 0 rfl]
 refine iA (fun q1=> ?_) (fun q1=> ?_)
 ·have hok:Nt.Ok (jF ((List.range j).map fun(k:Nat)=>lo+(k:Int))):=sW _ _ (fun z h=>by
   obtain⟨k,hk,rfl⟩:=dC.1 h
   have:=dx.1 hk
   exact⟨by omega,by omega⟩) ⟨by decide,by decide⟩
  have hsu:jF ((List.range (j+1)).map fun(k:Nat)=>lo+(k:Int))=rA (jF ((List.range j).map fun(k:Nat)=>lo+(k:Int))) (lo+(j:Int)):=by
   unfold jF
   rw[ec,dT,fC]
   rfl
  simp(disch:=omega) only[↓RA,RZ,simprocAttr,hn,g4,g6,hS5.ai 2 rfl,q1]
  refine hS5.cF (a7j (jF ((List.range j).map fun(k:Nat)=>lo+(k:Int))) hok (lo+(j:Int)) (by omega) (by omega)) fun H6 hS6=> ?_
  simp(disch:=omega) only[↓RA,RZ,simprocAttr,hn,g4,q1]
  refine hS6.ae 2 rfl [(.int .u64 (rA (jF ((List.range j).map fun(k:Nat)=>lo+(k:Int))) (lo+(j:Int))).1),(.int .u64 (rA (jF ((List.range j).map fun(k:Nat)=>lo+(k:Int))) (lo+(j:Int))).2)] rfl rfl nB (by simp) fun H7 hS7=> ?_
  simp only[RT]at hS7
  simp(disch:=omega) only[↓RA,RZ,simprocAttr,hn,g1,g2,g3,g4,g6,q1]
  refine⟨n-1,by omega,j+1,by omega,by congr 1;omega,?_⟩
  rw[hsu]
  exact hS7.pick [0,1,2] (by decide) rfl
 have hjj:j=(hi-lo+1).toNat:=by omega
 simp(disch:=omega) only[↓RA,RZ,simprocAttr,hn,g2,g4,hS5.ai 2 rfl,q1]
 refine hS5.ae 1 rfl [(.int .u64 (jF ((List.range j).map fun(k:Nat)=>lo+(k:Int))).1),(.int .u64 (jF ((List.range j).map fun(k:Nat)=>lo+(k:Int))).2)] rfl rfl nB (by simp) fun H8 hS8=> ?_
 simp only[RT]at hS8
 simp(disch:=omega) only[↓RA,RZ,simprocAttr,hn,g2,c6J,hS8.ai 1 rfl,q1]
 rw[hjj]
 exact⟨rfl,hS8.forget⟩
structure Ks(H:Heap)(kv:Value)(ks:List Nt):Prop where
 sl:Sl 2 ntc H kv ks
 len:ks.length<1000000000
 ok:∀x∈ks,Nt.Ok x
theorem Ks.ag{P:Program}{H':Heap}{kv:Value}{ks:List Nt}{os:List Ob}(h:Ks H kv ks)(hS:St P H H' os):Ks H' kv ks:=⟨hS.sl h.sl,h.len,h.ok⟩
def mI(o:Org)(ks:List Nt):Int:=if organE o≠0 then organE o else if ks.length≠o.dvs.length then 5 else if ∃j,j<o.dvs.length∧woF (iB ks j) (yA (iB o.dvs j).lo (iB o.dvs j).hi)≠(0,0)then 23 else 0
theorem a7O(o:Org)(ho:o.In H)(kv:Value)(ks:List Nt)(hk:Ks H kv ks):Fn prog 64 [.agg #[.string o.name,o.rv,o.dv,o.cv],kv] H fun r H'=>r=I (mI o ks)∧St prog H H' []:=by
 have hkl:=hk.len
 have hdl:=ho.2.2.2.2.2.2.1
 refine .aI func64 rfl (by kernel_rfl) (m:=43) rfl fun l hn g0 g1=> ?_
 simp(disch:=omega) only[↓RA,RB,simprocAttr,g0]
 refine(sR H).eNew 4 [(.string o.name),o.rv,o.dv,o.cv] rfl rfl (by simp[OC,((sR H).sl ho.1).cells.2.1,((sR H).sl ho.2.2.1).cells.2.1,((sR H).sl ho.2.2.2.2.1).cells.2.1]) lP fun A1 H1 hS1=> ?_
 simp only[RT]at hS1
 simp(disch:=omega) only[↓RA,RZ,simprocAttr,hn,hS1.ai 0 rfl]
 refine hS1.cF (a0a o (ho.ag hS1)) fun H2 hS2=> ?_
 simp(disch:=omega) only[↓RA,RB,simprocAttr,hn]
 refine iA (fun h1=> ?_) (fun h1=> ?_)
 ·simp(disch:=omega) only[↓RA,RZ,simprocAttr,hn,c0R,h1]
  exact⟨by unfold mI;rw[if_pos h1],hS2.forget⟩
 have hz:organE o=0:=dy.1 h1
 have hf:=Org.aJ hz
 simp(disch:=omega) only[↓RA,RZ,simprocAttr,hn,g1,(hS2.sl hk.sl).len,hS2.ld 0 rfl,(hS2.sl ho.2.2.1).len,h1]
 refine iA (fun h2=> ?_) (fun h2=> ?_)
 ·simp(disch:=omega) only[↓RA,RZ,simprocAttr,hn,c0R,h1,h2]
  exact⟨by unfold mI;rw[if_neg h1,if_pos (by omega)],hS2.forget⟩
 have hlen:ks.length=o.dvs.length:=by omega
 simp(disch:=omega) only[↓RA,RZ,simprocAttr,hn,hS2.ld 0 rfl,(hS2.sl ho.2.2.1).len,h1,h2]
 refine Wp.aq (fun n l H'=>l.length=43∧get l 1=kv∧get l 22=o.dv∧get l 23=I o.dvs.length∧∃(j:Nat),(n+j=o.dvs.length∧∀q,q<j→woF (iB ks q) (yA (iB o.dvs q).lo (iB o.dvs q).hi)=(0,0))∧get l 24=I j∧St prog H H' [⟨ptr A1 0 4,0,[(.string o.name),o.rv,o.dv,o.cv]⟩]) o.dvs.length ?_ ?_
 ·simp(disch:=omega) only[RB,RC,simprocAttr,hn,g1]
  exact⟨0,⟨by omega,fun q hq=>absurd hq (dM _)⟩,rfl,hS2⟩
 rintro n l H3⟨hn,g1,g22,g23,j,⟨hj,hq⟩,g24,hS3⟩
 simp(disch:=omega) only[↓RA,RB,simprocAttr,hn,g23,g24]
 refine iA (fun h3=> ?_) (fun h3=> ?_)
 ·have hky:=hf.keys j (by omega)
  simp(disch:=omega) only[↓RA,RZ,simprocAttr,hn,g22,g24,(hS3.sl ho.2.2.1).idx,(hS3.sl ho.2.2.1).ai,Dvn.cells,h3]
  refine hS3.eNew 5 [(.string ⟨#[]⟩),(.bool false),I 0,I 0,(.slice none 0 0)] rfl rfl rfl xB fun A2 H4 hS4=> ?_
  simp only[RT]at hS4
  simp(disch:=omega) only[↓RA,RZ,simprocAttr,hn,h3]
  refine hS4.ae 1 rfl [(.string (iB o.dvs j).name),(.bool (iB o.dvs j).pedal),I (iB o.dvs j).lo,I (iB o.dvs j).hi,(iB o.dvs j).sv] rfl (by simp[OC,(hS4.sl (ho.2.2.2.1 (iB o.dvs j) (iD (by omega))).1).cells.2.1]) xB (by simp) fun H5 hS5=> ?_
  simp only[RT]at hS5
  simp(disch:=omega) only[↓RA,RZ,simprocAttr,hn,hS5.ai 1 rfl,h3]
  refine hS5.cF (b4A (iB o.dvs j).lo (iB o.dvs j).hi hky.1 hky.2.1 hky.2.2) fun H6 hS6=> ?_
  simp(disch:=omega) only[↓RA,RZ,simprocAttr,hn,h3]
  refine hS6.eNew 2 [(.int .u64 0),(.int .u64 0)] rfl rfl rfl nB fun A3 H7 hS7=> ?_
  simp only[RT]at hS7
  simp(disch:=omega) only[↓RA,RZ,simprocAttr,hn,h3]
  refine hS7.ae 2 rfl [(.int .u64 (yA (iB o.dvs j).lo (iB o.dvs j).hi).1),(.int .u64 (yA (iB o.dvs j).lo (iB o.dvs j).hi).2)] rfl rfl nB (by simp) fun H8 hS8=> ?_
  simp only[RT]at hS8
  simp(disch:=omega) only[↓RA,RZ,simprocAttr,hn,h3]
  refine Wp.drw jZ (by kernel_rfl) ?_
  simp(disch:=omega) only[↓RA,RZ,simprocAttr,hn,g1,(hS8.sl hk.sl).idx,(hS8.sl hk.sl).ai,ntc,hS8.ai 2 rfl]
  refine hS8.cF (b0R (iB ks j) (yA (iB o.dvs j).lo (iB o.dvs j).hi)) fun H9 hS9=> ?_
  simp(disch:=omega) only[↓RA,RB,simprocAttr,hn]
  refine jO (fun h4=> ?_) (fun h4=> ?_)
  ·have h5:¬woF (iB ks j) (yA (iB o.dvs j).lo (iB o.dvs j).hi)=(0,0):=by simpa using h4
   simp(disch:=omega) only[↓RA,RB,simprocAttr,hn,c0R,h4]
   exact⟨by unfold mI;rw[if_neg h1,if_neg (by omega),if_pos ⟨j,by omega,h5⟩],hS9.forget⟩
  have h5:woF (iB ks j) (yA (iB o.dvs j).lo (iB o.dvs j).hi)=(0,0):=by simpa using h4
  simp(disch:=omega) only[↓RA,RZ,simprocAttr,hn,g1,g22,g23,g24,h4]
  exact⟨n-1,by omega,j+1,⟨by omega,fun q hq'=>by rcases dw.1 hq' with e|e;(· exact hq q e);(· rw[e];exact h5)⟩,by simp,hS9.pick [0] (by decide) rfl⟩
 simp(disch:=omega) only[↓RA,RZ,simprocAttr,hn,c0R,h3]
 refine⟨?_,hS3.forget⟩
 unfold mI
 rw[if_neg h1,if_neg (by omega),if_neg]
 rintro⟨q,hq1,hq2⟩
 exact hq2 (hq q (by omega))
def plD(ks:List Nt)(i:Nat):List Ct:=(qD (iB ks i)).map fun z=>((i:Int),z)
def iF(ks:List Nt):List Ct:=(List.range ks.length).flatMap (plD ks)
theorem c3J(ks:List Nt)(i:Nat):(plD ks i).length≤128:=by
 unfold plD
 rw[eu]
 exact a2l _
theorem a6U(ks:List Nt):∀i,((List.range i).flatMap (plD ks)).length≤i*128
 | 0=>by simp
 | i+1=>by
   have:=a6U ks i
   have:=c3J ks i
   rw[ec,dF,dq,dD,ez,dr]
   omega
theorem a4G(hG:Glob gH H)(kv:Value)(ks:List Nt)(hk:Ks H kv ks)(h8:ks.length≤8):Fn prog 94 [kv] H fun r H'=>St prog H H' [⟨r,2,pr (iF ks)⟩]:=by
 refine .aR func94 rfl (by kernel_rfl) (m:=31) rfl fun l hn g0=> ?_
 simp(disch:=omega) only[↓RA,RZ,simprocAttr,hn,g0,((sR H).sl hk.sl).len]
 have hS1:=(sR H).nil 1
 simp only[RT]at hS1
 refine Wp.aq (fun n l H'=>l.length=31∧get l 2=(.slice none 0 0)∧get l 8=kv∧get l 9=I ks.length∧∃(i:Nat)(ov:Value),(n+i=ks.length)∧get l 10=I i∧get l 3=ov∧St prog H H' [⟨ov,2,pr ((List.range i).flatMap (plD ks))⟩]) ks.length ?_ ?_
 ·simp(disch:=omega) only[RB,RC,simprocAttr,hn]
  exact⟨0,.slice none 0 0,by omega,rfl,rfl,hS1⟩
 rintro n l H1⟨hn,g2,g8,g9,i,ov,hi,oO,g3,hS2⟩
 simp(disch:=omega) only[↓RA,RB,simprocAttr,hn,g9,oO]
 refine iA (fun q1=> ?_) (fun q1=> ?_)
 ·have hmo:=hk.ok _ (iD (xs:=ks) (j:=i) (by omega))
  have hml:=a2l (iB ks i)
  have hpl:=a6U ks i
  simp(disch:=omega) only[↓RA,RZ,simprocAttr,hn,g8,oO,(hS2.sl hk.sl).idx,(hS2.sl hk.sl).ai,ntc,q1]
  refine hS2.eNew 2 [(.int .u64 0),(.int .u64 0)] rfl rfl rfl nB fun A1 H2 hS3=> ?_
  simp only[RT]at hS3
  simp(disch:=omega) only[↓RA,RZ,simprocAttr,hn,q1]
  refine hS3.ae 1 rfl [(.int .u64 (iB ks i).1),(.int .u64 (iB ks i).2)] rfl rfl nB (by simp) fun H3 hS4=> ?_
  simp only[RT]at hS4
  simp(disch:=omega) only[↓RA,RZ,simprocAttr,hn,hS4.ai 1 rfl,q1]
  refine iG ((b1k (hS4.gl hG) (iB ks i) hmo).tr) ?_
  rintro r H4⟨-,hT1⟩
  have hS5:=hS4.trans hT1
  simp only[RT]at hS5
  obtain⟨mw,rfl⟩:∃w,w=r:=⟨r,rfl⟩
  simp(disch:=omega) only[↓RA,RZ,simprocAttr,hn,(hS5.ay 2 rfl (fun _=>rfl)).len,q1]
  refine Wp.aq (fun n l H'=>l.length=31∧get l 2=(.slice none 0 0)∧get l 4=I i∧get l 8=kv∧get l 9=I ks.length∧get l 10=I i∧get l 16=mw∧get l 17=I (qD (iB ks i)).length∧∃(j:Nat)(ow:Value),(n+j=(qD (iB ks i)).length)∧get l 18=I j∧get l 3=ow∧St prog H H' [⟨ow,2,pr ((List.range i).flatMap (plD ks)++((qD (iB ks i)).take j).map fun z=>((i:Int),z))⟩,⟨ptr A1 0 2,0,[(.int .u64 (iB ks i).1),(.int .u64 (iB ks i).2)]⟩,⟨mw,1,(qD (iB ks i)).flatMap (one I)⟩]) (qD (iB ks i)).length ?_ ?_
  ·simp(disch:=omega) only[RB,RC,simprocAttr,hn,g2,g8,g9,oO,g3]
   refine⟨0,ov,by omega,rfl,rfl,?_⟩
   rw[List.take_zero,gr,dr]
   exact hS5
  rintro n l H5⟨hn,g2,g4,g8,g9,oO,g16,g17,j,ow,hj,g18,g3,hS6⟩
  simp(disch:=omega) only[↓RA,RB,simprocAttr,hn,g17,g18]
  refine iA (fun q2=> ?_) (fun q2=> ?_)
  ·have hroom:(pr ((List.range i).flatMap (plD ks)++((qD (iB ks i)).take j).map fun z=>((i:Int),z))).length≤4000:=by
    rw[iI,dq,eu,gp]
    omega
   simp(disch:=omega) only[↓RA,RZ,simprocAttr,hn,g4,g16,g18,g3,(hS6.ay 2 rfl (fun _=>rfl)).idx,(hS6.ay 2 rfl (fun _=>rfl)).ld,one,oQ,q2]
   refine hS6.ak [I i,I (iB (qD (iB ks i)) j)] mJ uL rfl rfl (by simp[Value.cells]) rfl rfl (by decide) (by decide) fun w1 H6 hS7=> ?_
   simp only[RT]at hS7
   simp(disch:=omega) only[↓RA,RZ,simprocAttr,hn,q2]
   refine hS7.aw 0 rfl (hS7.rd 3 rfl) mJ (by have h:=hroom;simp only[dV,eI];omega) fun w2 H7 hS8=> ?_
   simp only[RT]at hS8
   simp(disch:=omega) only[↓RA,RZ,simprocAttr,hn,g2,g4,g8,g9,oO,g16,g17,g18,q2]
   refine⟨n-1,by omega,j+1,w2,by omega,by simp,rfl,?_⟩
   rw[List.take_add_one,du (by omega),Option.toList_some,dT,←eh,jG]
   rw[show(qD (iB ks i))[j]=iB (qD (iB ks i)) j from(jM _ _ (by omega)).symm]
   exact hS8.pick [0,1,2] (by decide) rfl
  simp(disch:=omega) only[↓RA,RZ,simprocAttr,hn,g2,g8,g9,oO,g3,q2]
  have hjj:j=(qD (iB ks i)).length:=by omega
  refine⟨ks.length-(i+1),by omega,i+1,ow,by omega,by simp,rfl,?_⟩
  rw[ec,dF,dD,ez,dr]
  rw[show plD ks i=((qD (iB ks i)).take j).map (fun z=>((i:Int),z))from by rw[hjj,ee];rfl]
  exact hS6.pick [0] (by decide) rfl
 have hii:i=ks.length:=by omega
 simp(disch:=omega) only[↓RA,RZ,simprocAttr,hn,g3,c8j,q1]
 have hfin:=hS2
 rw[hii]at hfin
 exact hfin
end Go.Ds
namespace Go.Ds
open Go.Proofs Go.Proofs.Tryz Go.ChangeShapes Go.WideShapes Go.RowKit Go.Deep
set_option maxRecDepth 10000
structure RgI(H:Heap)(r:Reg)(sv:Value):Prop where
 sl:Sl 1 (one u64) H sv r.stops
 len:r.stops.length<9223372036854775808
 ok:∀x∈r.stops,x<18446744073709551616
 cpl:r.cpl<18446744073709551616
 off:r.off<18446744073709551616
structure KsI(H:Heap)(kv:Value)(ks:List Nt):Prop where
 sl:Sl 2 ntc H kv ks
 len:ks.length<9223372036854775808
 ok:∀x∈ks,Nt.Ok x
theorem RgI.ext{ρ ρ':Rho}{H H':Heap}{r:Reg}{sv:Value}(h:RgI H r sv)(e:ExtW ρ H ρ' H'):RgI H' r sv:=⟨h.sl.ext e,h.len,h.ok,h.cpl,h.off⟩
theorem RgI.ag{P:Program}{H H0:Heap}{os:List Ob}{r:Reg}{sv:Value}(h:RgI H0 r sv)(hS:St P H0 H os):RgI H r sv:=⟨hS.sl h.sl,h.len,h.ok,h.cpl,h.off⟩
theorem KsI.ag{P:Program}{H H0:Heap}{os:List Ob}{kv:Value}{ks:List Nt}(h:KsI H0 kv ks)(hS:St P H0 H os):KsI H kv ks:=⟨hS.sl h.sl,h.len,h.ok⟩
theorem RgI.reg{H:Heap}{r:Reg}{sv:Value}(h:RgI H r sv)(hl:r.stops.length<1000000000):r.In H sv:=⟨h.sl,hl,h.ok,h.cpl,h.off⟩
theorem KsI.ks{H:Heap}{kv:Value}{ks:List Nt}(h:KsI H kv ks)(hl:ks.length<1000000000):Ks H kv ks:=⟨h.sl,hl,h.ok⟩
theorem Pln.In.ext{ρ ρ':Rho}{H H':Heap}{p:Pln}(h:p.In H)(e:ExtW ρ H ρ' H'):p.In H':=⟨h.1.ext e,h.2.1.ext e,fun b hb=>⟨(h.2.2.1 b hb).1.ext e,(h.2.2.1 b hb).2⟩,h.2.2.2.1.ext e,h.2.2.2.2⟩
section
variable {H0:Type} {enc:TypeId×Value→H0} {w:World} {base n:Nat} {spare:Nat→Bool} {kZ:Bool} {x:DataW H0×List MemPlace}
theorem c1y{cs:List Value}(h:DataW.trod enc prog w base spare kZ n 38 cs=some x):∃m:Nat,cs=one u64 m∧m<18446744073709551616:=by
 obtain⟨m,hv,_,hw⟩:=DataW.trod_int underlying38 h
 have hm:0≤m∧m≤18446744073709551615:=by simpa [Lit.wf,IntKind.min,IntKind.max,IntKind.signed,IntKind.bits]using hw
 refine⟨m.toNat,?_,by omega⟩
 rw[hv]
 show _=[Value.int .u64 ((m.toNat:Nat):Int)]
 rw[fO hm.1]
theorem u64_in{v:Value}(h:DataW.trod enc prog w base spare kZ n 38 [v]=some x):∃m:Nat,v=.int .u64 m∧m<18446744073709551616:=by
 obtain⟨m,hv,hm⟩:=c1y h
 exact⟨m,by simpa [one,u64]using hv,hm⟩
end
section
variable {H0:Type} {enc:TypeId×Value→H0} {w:World} {base fuel:Nat} {kZ:Bool} {x:DataW H0×List MemPlace} {ρ:Rho} {H:Heap}
end
end Go.Ds
namespace Go.Ds
open Go.Proofs Go.Proofs.Tryz Go.ChangeShapes Go.WideShapes Go.RowKit Go.Deep
set_option maxRecDepth 10000
variable {H0:Type} {enc:TypeId×Value→H0} {w:World} {base:Nat} {kZ:Bool}
theorem c4n{v0:Value}{d0:DataW H0}{p0:List MemPlace}{c0:Nat}(h0:DataW.Trod enc prog w base (fun _=>true) kZ 28 v0 d0 p0)(hval:Value.okWide prog w .any c0 28 v0):
 ∃a b:Nat,a<256∧b<256∧v0=.agg #[.int .u8 a,.int .u8 b]:=by
 simp only[Value.okWide,underlying28]at hval
 obtain⟨cs,rfl,hsz,_⟩:=hval
 rw[show prog.cellsOf 28=2 by kernel_rfl]at hsz
 obtain⟨fuel,h⟩:=h0
 obtain⟨l⟩:=cs
 have hl:l.length=2:=hsz
 match l,hl with
 | [x,y],_=>
   obtain⟨xs,m,_,_,_,hxl,hf⟩:=DataW.trod_array (cs:=[x,y]) underlying28 h
   have hy:∀i,i<2→∃y',DataW.trod enc prog w base (fun _=>true) kZ m 5 ((([x,y]:List Value).drop (i*1)).take 1)=some y':=fun i hi=>by
    have:=hf i hi
    rw[ce5]at this
    exact⟨xs[i],by rw[this,du (by omega)]⟩
   obtain⟨_,h0⟩:=hy 0 (by decide)
   obtain⟨_,h1⟩:=hy 1 (by decide)
   obtain⟨a,rfl,ha⟩:=pK h0
   obtain⟨b,rfl,hb⟩:=pK h1
   exact⟨a,b,ha,hb,rfl⟩
end Go.Ds
namespace Go.Ds
open Go.Proofs
set_option maxRecDepth 10000
def tN(x y:Int×Int):Prop:=x.1<y.1∨(x.1=y.1∧x.2<y.2)
theorem a1V{x:Int×Int}:¬tN x x:=by unfold tN;omega
theorem a0A{x y z:Int×Int}(h:tN x y)(k:tN y z):tN x z:=by unfold tN at*;omega
theorem pN:∀(l m:List (Int×Int)),l.Pairwise tN→m.Pairwise tN→(∀x,x∈l↔x∈m)→l=m
 | [],[],_,_,_=>rfl
 | [],b::m,_,_,h=>absurd ((h b).2 (dK ..)) ef
 | a::l,[],_,_,h=>absurd ((h a).1 (dK ..)) ef
 | a::l,b::m,hl,hm,h=>by
   rw[gX]at hl hm
   have hab:a=b:=by
    rcases dX.1 ((h a).1 (dK ..))with e|e
    ·exact e
    ·rcases dX.1 ((h b).2 (dK ..))with e2|e2
     ·exact e2.symm
     ·exact absurd (a0A (hm.1 a e) (hl.1 b e2)) a1V
   subst hab
   congr 1
   refine pN l m hl.2 hm.2 fun x=> ?_
   constructor
   ·intro hx
    rcases dX.1 ((h x).1 (dR _ hx))with e|e
    ·subst e
     exact absurd (hl.1 x hx) a1V
    ·exact e
   ·intro hx
    rcases dX.1 ((h x).2 (dR _ hx))with e|e
    ·subst e
     exact absurd (hm.1 x hx) a1V
    ·exact e
theorem b6t{es:List (Int×Int)}(h:es.Pairwise fun a b=>le2 a b=true){i j:Nat}(hij:i<j)(hj:j<es.length):le2 (iB es i) (iB es j)=true:=by
 rw[jM _ _ (by omega),jM _ _ hj]
 exact eK.1 h i j (by omega) hj hij
theorem b0N{es:List (Int×Int)}(h:es.Pairwise fun a b=>le2 a b=true):∀m,m≤es.length→(zN es m).Pairwise tN∧∀x,x∈zN es m↔∃j,j<m∧iB es j=x
 | 0,_=>⟨by simp[zN],fun x=>by simp[zN]⟩
 | m+1,hm=>by
   obtain⟨h1,h2⟩:=b0N h m (by omega)
   rw[sP]
   by_cases hc:m=0∨iB es m≠iB es (m-1)
   ·rw[if_pos hc]
    refine⟨?_,fun x=> ?_⟩
    ·rw[fg]
     refine⟨h1,by simp,fun a ha b hb=> ?_⟩
     obtain⟨j,hj,rfl⟩:=(h2 a).1 ha
     obtain rfl:=dB.1 hb
     have h3:=(nY _ _).1 (b6t h hj (by omega))
     rcases hc with hc|hc
     ·omega
     ·by_cases he:j=m-1
      ·subst he
       have hne:¬(iB es (m-1)=iB es m):=fun e=>hc e.symm
       rw[Prod.ext_iff]at hne
       unfold tN
       omega
      ·have h4:=(nY _ _).1 (b6t h (show j<m-1 by omega) (by omega))
       have h5:=(nY _ _).1 (b6t h (show m-1<m by omega) (by omega))
       have hne:¬(iB es (m-1)=iB es m):=fun e=>hc e.symm
       rw[Prod.ext_iff]at hne
       unfold tN
       omega
    ·rw[dG,h2,dB]
     constructor
     ·rintro(⟨j,hj,e⟩|e)
      ·exact⟨j,by omega,e⟩
      ·exact⟨m,by omega,e.symm⟩
     ·rintro⟨j,hj,e⟩
      rcases dw.1 hj with e2|e2
      ·exact .inl ⟨j,e2,e⟩
      ·subst e2
       exact .inr e.symm
   ·rw[if_neg hc,dr]
    refine⟨h1,fun x=> ?_⟩
    rw[h2]
    constructor
    ·rintro⟨j,hj,e⟩
     exact⟨j,by omega,e⟩
    ·rintro⟨j,hj,e⟩
     rcases dw.1 hj with e2|e2
     ·exact⟨j,e2,e⟩
     ·subst e2
      have hc':¬(j=0)∧iB es j=iB es (j-1):=⟨fun e=>hc (.inl e),fT fun e=>hc (.inr e)⟩
      exact⟨j-1,by omega,by rw[←hc'.2];exact e⟩
theorem a5M(l:List (Int×Int)):(dd (pG l)).Pairwise tN:=(b0N (tG l) _ (dj _)).1
theorem pZ{l:List (Int×Int)}{x:Int×Int}:x∈dd (pG l)↔x∈l:=by
 unfold dd
 rw[(b0N (tG l) _ (dj _)).2 x,←(nA l).mem_iff]
 constructor
 ·rintro⟨j,hj,rfl⟩
  exact iD hj
 ·intro hx
  obtain⟨j,hj,e⟩:=dL.1 hx
  exact⟨j,hj,by rw[jM _ _ hj];exact e⟩
theorem b2b{l m:List (Int×Int)}(h:∀x,x∈l↔x∈m):dd (pG l)=dd (pG m):=
 pN _ _ (a5M l) (a5M m) fun x=>by rw[pZ,pZ,h]
def a5K(o:Org)(cp:Nat)(thr:Bool)(c x:Ct):Prop:=∃i,i<o.cpls.length∧rN cp thr c (iB o.cpls i) i=true∧kV o (to1 (iB o.cpls i) c)=true∧x=to1 (iB o.cpls i) c
theorem a5n{o:Org}{cp:Nat}{thr:Bool}{c x:Ct}{q:List Ct}:∀n,x∈stepN o cp thr c q n↔x∈q∨∃i,i<n∧rN cp thr c (iB o.cpls i) i=true∧kV o (to1 (iB o.cpls i) c)=true∧x=to1 (iB o.cpls i) c
 | 0=>by
   unfold stepN
   simp
 | n+1=>by
   rw[lI]
   have ih:=a5n (o:=o) (cp:=cp) (thr:=thr) (c:=c) (x:=x) (q:=q) n
   have hs:x∈step1 o cp thr c (stepN o cp thr c q n) n↔x∈stepN o cp thr c q n∨(rN cp thr c (iB o.cpls n) n=true∧kV o (to1 (iB o.cpls n) c)=true∧x=to1 (iB o.cpls n) c):=by
    unfold step1
    split
    ·rename_i hh
     simp only[cY]at hh
     rw[dG,dB]
     constructor
     ·rintro(h|h)
      ·exact .inl h
      ·exact .inr ⟨hh.1.1,hh.1.2,h⟩
     ·rintro(h|⟨_,_,h⟩)
      ·exact .inl h
      ·exact .inr h
    ·rename_i hh
     simp only[cY,dI,decide_eq_false_iff_not,not_and,dy]at hh
     constructor
     ·exact fun h=>.inl h
     ·rintro(h|⟨h1,h2,h3⟩)
      ·exact h
      ·rw[h3]
       exact hh ⟨h1,h2⟩
   rw[hs,ih]
   constructor
   ·rintro((h|⟨i,hi,h⟩)|h)
    ·exact .inl h
    ·exact .inr ⟨i,by omega,h⟩
    ·exact .inr ⟨n,by omega,h⟩
   ·rintro(h|⟨i,hi,h⟩)
    ·exact .inl (.inl h)
    ·rcases dw.1 hi with e|e
     ·exact .inl (.inr ⟨i,e,h⟩)
     ·subst e
      exact .inr h
theorem sZ{o:Org}{cp:Nat}{thr:Bool}{c x:Ct}{q:List Ct}:x∈stepF o cp thr c q↔x∈q∨a5K o cp thr c x:=a5n _
inductive Star{α:Type}(R:α→α→Prop):α→α→Prop
 | refl (a:α):Star R a a
 | tail {a b c:α}:Star R a b→R b c→Star R a c
theorem Star.stay{α:Type}{R:α→α→Prop}{p:α→Prop}(hc:∀a,p a→∀b,R a b→p b){a b:α}(ha:p a)(h:Star R a b):p b:=by
 induction h with
 | refl=>exact ha
 | tail _ h2 ih=>exact hc _ ih _ h2
theorem a2G{o:Org}{cp:Nat}{l:List Ct}{x:Ct}:x∈kI o cp l↔∃c,c∈l∧a5K o cp false c x:=by
 unfold kI
 have h:∀(l:List Ct)(q:List Ct),x∈l.foldl (fun q c=>stepF o cp false c q) q↔x∈q∨∃c,c∈l∧a5K o cp false c x:=by
  intro l
  induction l with
  | nil=>intro q;simp
  | cons a l ih=>
    intro q
    rw[eQ,ih,sZ]
    constructor
    ·rintro((h|h)|⟨c,hc,h⟩)
     ·exact .inl h
     ·exact .inr ⟨a,dK ..,h⟩
     ·exact .inr ⟨c,dR _ hc,h⟩
    ·rintro(h|⟨c,hc,h⟩)
     ·exact .inl (.inl h)
     ·rcases dX.1 hc with e|e
      ·subst e
       exact .inl (.inr h)
      ·exact .inr ⟨c,e,h⟩
 rw[h]
 simp
theorem a4Z{o:Org}{cp:Nat}{thr:Bool}{c:Ct}{q:List Ct}:∀n,∃t,stepN o cp thr c q n=q++t
 | 0=>⟨[],by simp[stepN]⟩
 | n+1=>by
   obtain⟨t,ht⟩:=a4Z (o:=o) (cp:=cp) (thr:=thr) (c:=c) (q:=q) n
   rw[lI,ht]
   unfold step1
   split
   ·exact⟨t++[to1 (iB o.cpls n) c],by rw[eh]⟩
   ·exact⟨t,rfl⟩
theorem a7m{α:Type}[Inhabited α](q t:List α){j:Nat}(h:j<q.length):iB (q++t) j=iB q j:=by
 rw[jM _ _ (by simp;omega),jM _ _ h,List.getElem_append_left h]
theorem b2w{o:Org}(hf:o.Fine)(cp:Nat):∀(n i:Nat)(q:List Ct),Que o q→1025≤n+i→(∀j,j<i→j<q.length→∀y,a5K o cp true (iB q j) y→y∈q)→
 ∀x,x∈bfs o cp n i q↔∃a,a∈q∧Star (a5K o cp true) a x
 | 0,i,q,hq,hn,hc,x=>by
   have hl:=hq.len hf
   have hcl:∀a,a∈q→∀y,a5K o cp true a y→y∈q:=fun a ha y hy=>by
    obtain⟨j,hj,e⟩:=dL.1 ha
    exact hc j (by omega) hj y (by rw[jM _ _ hj,e];exact hy)
   unfold bfs
   exact⟨fun h=>⟨x,h,.refl x⟩,fun⟨a,ha,hs⟩=>hs.stay hcl ha⟩
 | n+1,i,q,hq,hn,hc,x=>by
   rw[bfs]
   split
   ·rename_i hi
    obtain⟨t,ht⟩:=a4Z (o:=o) (cp:=cp) (thr:=true) (c:=iB q i) (q:=q) o.cpls.length
    have ht:stepF o cp true (iB q i) q=q++t:=ht
    rw[b2w hf cp n (i+1) _ (hq.stepF cp true _) (by omega) (fun j hj hjl y hy=> ?_)]
    ·constructor
     ·rintro⟨a,ha,hs⟩
      rcases sZ.1 ha with h|h
      ·exact⟨a,h,hs⟩
      ·refine⟨iB q i,iD hi,?_⟩
       clear ha
       induction hs with
       | refl=>exact .tail (.refl _) h
       | tail _ h2 ih=>exact .tail ih h2
     ·rintro⟨a,ha,hs⟩
      exact⟨a,sZ.2 (.inl ha),hs⟩
    ·rcases dw.1 hj with e|e
     ·rw[ht,a7m _ _ (by omega)]at hy
      exact sZ.2 (.inl (hc j e (by omega) y hy))
     ·subst e
      rw[ht,a7m _ _ hi]at hy
      exact sZ.2 (.inr hy)
   ·rename_i hi
    have hcl:∀a,a∈q→∀y,a5K o cp true a y→y∈q:=fun a ha y hy=>by
     obtain⟨j,hj,e⟩:=dL.1 ha
     exact hc j (by omega) hj y (by rw[jM _ _ hj,e];exact hy)
    exact⟨fun h=>⟨x,h,.refl x⟩,fun⟨a,ha,hs⟩=>hs.stay hcl ha⟩
def Snd(o:Org)(r:Reg)(c x:Ct):Prop:=(x=c∧r.off.testBit c.1.toNat=false)∨∃a,a5K o r.cpl false c a∧Star (a5K o r.cpl true) a x
theorem xS(o:Org)(cp:Nat)(l:List Ct):Que o (kI o cp l):=by
 unfold kI
 have h:∀(l:List Ct)(q:List Ct),Que o q→Que o (l.foldl (fun q c=>stepF o cp false c q) q):=by
  intro l
  induction l with
  | nil=>exact fun q h=>h
  | cons a l ih=>exact fun q h=>ih _ (h.stepF cp false a)
 exact h l [] (Que.nil o)
theorem a2t{o:Org}(hf:o.Fine){r:Reg}{l:List Ct}{x:Ct}:x∈kA o r l↔∃c,c∈l∧Snd o r c x:=by
 unfold kA
 rw[pZ,dG,dZ,b2w hf r.cpl 1100 0 _ (xS o r.cpl l) (by decide) (fun j hj=>absurd hj (dM _))]
 constructor
 ·rintro(⟨h1,h2⟩|⟨a,ha,hs⟩)
  ·exact⟨x,h1,.inl ⟨rfl,by simpa using h2⟩⟩
  ·obtain⟨c,hc,h⟩:=a2G.1 ha
   exact⟨c,hc,.inr ⟨a,h,hs⟩⟩
 ·rintro⟨c,hc,h⟩
  rcases h with⟨rfl,h2⟩|⟨a,h,hs⟩
  ·exact .inl ⟨hc,by simpa using h2⟩
  ·exact .inr ⟨a,a2G.2 ⟨c,hc,h⟩,hs⟩
theorem oG{o:Org}(hf:o.Fine){r:Reg}{l:List Ct}{p:Ct}:p∈jK o r l↔∃c,c∈l∧∃x,Snd o r c x∧p∈mF o r x:=by
 unfold jK uH
 rw[pZ,dQ]
 constructor
 ·rintro⟨x,hx,hp⟩
  obtain⟨c,hc,h⟩:=(a2t hf).1 hx
  exact⟨c,hc,x,h,hp⟩
 ·rintro⟨c,hc,x,h,hp⟩
  exact⟨x,(a2t hf).2 ⟨c,hc,h⟩,hp⟩
theorem sT(o:Org)(r:Reg)(l:List Ct):(jK o r l).Pairwise tN:=a5M _
theorem a2K{o:Org}(hf:o.Fine){r:Reg}{c p:Ct}:p∈jK o r [c]↔∃x,Snd o r c x∧p∈mF o r x:=by
 rw[oG hf]
 constructor
 ·rintro⟨c',hc,h⟩
  rw[dB.1 hc]at h
  exact h
 ·rintro h
  exact⟨c,dB.2 rfl,h⟩
def IsP(o:Org)(p:Ct):Prop:=0≤p.1∧p.1<o.ranks.length∧0≤p.2∧p.2<(iB o.ranks p.1.toNat).wind.length
theorem b0P{rs:List Rk}{s:Stp}{key:Int}{p:Ct}(h:p∈qI rs s key):0≤p.1∧p.1<rs.length∧0≤p.2∧p.2<(iB rs p.1.toNat).wind.length:=by
 unfold qI at h
 obtain⟨d,hd,rfl⟩:=dC.1 (pZ.1 h)
 have hh:=(dZ.1 hd).2
 unfold rH at hh
 rw[cY,cY,dI,decide_eq_true_eq,decide_eq_true_eq,decide_eq_false_iff_not]at hh
 obtain⟨⟨h1,h2⟩,h3⟩:=hh
 have e:(mO rs d key).1=d.rank:=by unfold mO;rw[if_neg h1]
 rw[e]
 exact⟨by omega,by omega,h2,h3⟩
theorem xU{o:Org}{r:Reg}{c p:Ct}(h:p∈mF o r c):IsP o p:=by
 unfold mF at h
 obtain⟨i,_,h⟩:=dQ.1 h
 split at h
 ·exact b0P h
 ·exact absurd h ef
theorem a8p{o:Org}{r:Reg}{l:List Ct}{p:Ct}(h:p∈uH o r l):IsP o p:=by
 unfold uH at h
 obtain⟨c,_,h⟩:=dQ.1 (pZ.1 h)
 exact xU h
theorem pM{o:Org}{r:Reg}{l:List Ct}{p:Ct}(h:p∈jK o r l):IsP o p:=a8p h
theorem b9I{o:Org}{r:Reg}{c p:Ct}(h:p∈ofF o r c):IsP o p:=by
 unfold ofF at h
 split at h
 ·exact pM h
 ·exact absurd h ef
theorem IsP.small{o:Org}{H:Heap}(hf:o.Fine)(ho:o.In H){p:Ct}(h:IsP o p): -1000000000≤p.1∧p.1≤1000000000∧-1000000000≤p.2∧p.2≤1000000000:=by
 obtain⟨h1,h2,h3,h4⟩:=h
 have hr:=(ho.2.1 _ (iD (xs:=o.ranks) (j:=p.1.toNat) (by omega))).2
 have:=hf.rlen
 exact⟨by omega,by omega,by omega,by omega⟩
theorem sL{o:Org}(hf:o.Fine)(rg:Reg){l:List Ct}(hl:l.length≤1024)(ho:∀c∈kA o rg l,kV o c=true):(jK o rg l).length≤1000000:=by
 have h1:=sJ hf rg (kA o rg l) ho
 have h2:=uC hf (rg:=rg) hl
 have h3:=a8C (pG ((kA o rg l).flatMap (mF o rg)))
 rw[lW]at h3
 have:(jK o rg l).length≤(kA o rg l).length*480:=dE h3 h1
 omega
def nG(x:Nt)(z:Int):Bool:=if z<64 then x.1.testBit z.toNat else x.2.testBit (z-64).toNat
theorem sK{x i:Nat}:i∈pJ x↔i<64∧x.testBit i=true:=by
 unfold pJ
 rw[dZ,dx]
theorem vG{x:Nt}{z:Int}:z∈qD x↔isN z∧nG x z=true:=by
 unfold qD nG isN
 rw[dG,dC,dC]
 constructor
 ·rintro(⟨i,hi,rfl⟩|⟨i,hi,rfl⟩)
  ·obtain⟨h1,h2⟩:=sK.1 hi
   exact⟨by omega,by rw[if_pos (by omega)];exact h2⟩
  ·obtain⟨h1,h2⟩:=sK.1 hi
   refine⟨by omega,?_⟩
   rw[if_neg (by omega),show(64+(i:Int)-64).toNat=i by omega]
   exact h2
 ·rintro⟨h1,h2⟩
  by_cases h:z<64
  ·rw[if_pos h]at h2
   exact .inl ⟨z.toNat,sK.2 ⟨by omega,h2⟩,by omega⟩
  ·rw[if_neg h]at h2
   exact .inr ⟨(z-64).toNat,sK.2 ⟨by omega,h2⟩,by omega⟩
theorem b8C(x:Nt)(n z:Int)(hn:isN n)(hz:isN z):nG (rA x n) z=(nG x z||decide (z=n)):=by
 unfold nG rA isN at*
 by_cases h1:n<64
 ·rw[if_pos h1]
  by_cases h2:z<64
  ·rw[if_pos h2,if_pos h2,Nat.testBit_or,gh]
   congr 1
   rw[decide_eq_decide]
   omega
  ·rw[if_neg h2,if_neg h2,decide_eq_false (by omega),Bool.or_false]
 ·rw[if_neg h1]
  by_cases h2:z<64
  ·rw[if_pos h2,if_pos h2,decide_eq_false (by omega),Bool.or_false]
  ·rw[if_neg h2,if_neg h2,Nat.testBit_or,gh]
   congr 1
   rw[decide_eq_decide]
   omega
theorem a0u(z:Int):nG (0,0) z=false:=by
 unfold nG
 split<;>simp
theorem a4P:∀(xs:List Int)(x:Nt)(z:Int),(∀n∈xs,isN n)→isN z→nG (xs.foldl rA x) z=(nG x z||decide (z∈xs))
 | [],x,z,_,_=>by simp
 | n::xs,x,z,h,hz=>by
   rw[eQ,a4P xs _ z (fun y hy=>h y (dR _ hy)) hz,b8C x n z (h n (dK ..)) hz,Bool.or_assoc]
   congr 1
   rw[eH]
   simp
theorem uB{xs:List Int}{z:Int}(h:∀n∈xs,isN n)(hz:isN z):nG (jF xs) z=decide (z∈xs):=by
 unfold jF
 rw[a4P xs _ z h hz,a0u,Bool.false_or]
theorem sI{lo hi z:Int}(h0:0≤lo)(h2:hi≤127)(hz:isN z):nG (yA lo hi) z=(decide (lo≤z)&&decide (z≤hi)):=by
 unfold yA
 rw[uB (fun n hn=>by
  obtain⟨k,hk,rfl⟩:=dC.1 hn
  have:=dx.1 hk
  exact⟨by omega,by omega⟩) hz,eH,cY,decide_eq_true_eq,decide_eq_true_eq,decide_eq_true_eq,dC]
 constructor
 ·rintro⟨k,hk,rfl⟩
  have:=dx.1 hk
  omega
 ·rintro⟨h3,h4⟩
  exact⟨(z-lo).toNat,dx.2 (by omega),by omega⟩
theorem b2J{x y:Nt}(hx:Nt.Ok x){z:Int}(hz:isN z):nG (woF x y) z=(nG x z&& !nG y z):=by
 obtain⟨h1,h2⟩:=hz
 unfold nG woF
 by_cases h:z<64
 ·rw[if_pos h,if_pos h,if_pos h,a8W _ _ _ hx.1 (by omega)]
 ·rw[if_neg h,if_neg h,if_neg h,a8W _ _ _ hx.2 (by omega)]
theorem a2M{x y:Nt}(hx:Nt.Ok x)(h:woF x y=(0,0)){z:Int}(hz:isN z)(hh:nG x z=true):nG y z=true:=by
 have:=b2J (y:=y) hx hz
 rw[h,a0u,hh]at this
 simpa using this.symm
theorem oH{o:Org}{ks:List Nt}(h:mI o ks=0):organE o=0∧ks.length=o.dvs.length∧∀j,j<o.dvs.length→woF (iB ks j) (yA (iB o.dvs j).lo (iB o.dvs j).hi)=(0,0):=by
 unfold mI at h
 split at h
 ·rename_i hh;exact absurd h hh
 rename_i h1
 split at h
 ·omega
 rename_i h2
 split at h
 ·omega
 rename_i h3
 refine⟨dy.1 h1,by omega,fun j hj=> ?_⟩
 by_cases hh:woF (iB ks j) (yA (iB o.dvs j).lo (iB o.dvs j).hi)=(0,0)
 ·exact hh
 ·exact absurd ⟨j,hj,hh⟩ h3
theorem pX{o:Org}{ks:List Nt}(hok:∀x∈ks,Nt.Ok x)(h:mI o ks=0):∀c∈iF ks,kV o c=true:=by
 obtain⟨h1,h2,h3⟩:=oH h
 have hf:=Org.aJ h1
 intro c hc
 unfold iF at hc
 obtain⟨i,hi,hc⟩:=dQ.1 hc
 have hi:=dx.1 hi
 unfold plD at hc
 obtain⟨z,hz,rfl⟩:=dC.1 hc
 obtain⟨hz1,hz2⟩:=vG.1 hz
 have hky:=hf.keys i (by omega)
 have hw:=a2M (hok _ (iD hi)) (h3 i (by omega)) hz1 hz2
 rw[sI hky.1 hky.2.2 hz1]at hw
 simp only[cY,decide_eq_true_eq]at hw
 unfold kV
 simp only[cY,decide_eq_true_eq,dN]
 omega
theorem qV{o:Org}{ks:List Nt}(h:mI o ks=0):(iF ks).length≤1024:=by
 obtain⟨h1,h2,_⟩:=oH h
 have h8:=(Org.aJ h1).dlen
 have:=a6U ks ks.length
 unfold iF
 omega
structure SegsOk(m:Nat)(lo hi:Int)(gs:List Seg):Prop where
 ord:∀i,i<gs.length→(iB gs i).lo≤(iB gs i).hi
 up:∀i,i<gs.length→0<i→(iB gs (i-1)).hi<(iB gs i).lo
 within:∀i,i<gs.length→lo≤(iB gs i).lo∧(iB gs i).hi≤hi
 draws:∀i,i<gs.length→kX m (iB gs i).draws=0
 len:gs.length≤12
theorem a0R{o:Org}(h:organE o=0){j:Nat}(hj:j<o.dvs.length){s:Stp}(hs:s∈(iB o.dvs j).stops):SegsOk o.ranks.length (iB o.dvs j).lo (iB o.dvs j).hi s.segs:=by
 unfold organE at h
 split at h
 ·omega
 split at h
 ·omega
 split at h
 ·rename_i hh;exact absurd h hh
 split at h
 ·omega
 split at h
 ·omega
 split at h
 ·rename_i hh;exact absurd h hh
 rename_i h6
 have h6:=dy.1 h6
 have e:=oM h6 j hj
 unfold tI at e
 split at e
 ·omega
 split at e
 ·omega
 unfold divE at e
 split at e
 ·rename_i hh;exact absurd e hh
 split at e
 ·omega
 obtain⟨k,hk,rfl⟩:=dL.1 hs
 have e2:=oM e k hk
 unfold pB at e2
 rw[jM _ k hk]at e2
 split at e2
 ·rename_i hh;exact absurd e2 hh
 rename_i e3
 have e3:=dy.1 e3
 unfold stopE at e3
 split at e3
 ·rename_i hh;exact absurd e3 hh
 split at e3
 ·omega
 split at e3
 ·rename_i hh;exact absurd e3 hh
 split at e3
 ·omega
 split at e3
 ·omega
 have key:∀i,i<((iB o.dvs j).stops[k]).segs.length→(iB ((iB o.dvs j).stops[k]).segs i).lo≤(iB ((iB o.dvs j).stops[k]).segs i).hi∧(0<i→(iB ((iB o.dvs j).stops[k]).segs (i-1)).hi<(iB ((iB o.dvs j).stops[k]).segs i).lo)∧((iB o.dvs j).lo≤(iB ((iB o.dvs j).stops[k]).segs i).lo∧(iB ((iB o.dvs j).stops[k]).segs i).hi≤(iB o.dvs j).hi)∧kX o.ranks.length (iB ((iB o.dvs j).stops[k]).segs i).draws=0:=by
  intro i hi
  have e4:=oM e3 i hi
  unfold lA at e4
  split at e4
  ·omega
  split at e4
  ·omega
  exact⟨by omega,fun h0=>by omega,⟨by omega,by omega⟩,e4⟩
 exact⟨fun i hi=>(key i hi).1,fun i hi=>(key i hi).2.1,fun i hi=>(key i hi).2.2.1,fun i hi=>(key i hi).2.2.2,by omega⟩
theorem SegsOk.lt{m:Nat}{lo hi:Int}{gs:List Seg}(h:SegsOk m lo hi gs){i:Nat}:∀k,i+1+k<gs.length→(iB gs i).hi<(iB gs (i+1+k)).lo
 | 0,hk=>h.up (i+1) hk (by omega)
 | k+1,hk=>by
   have h1:=h.lt (i:=i) k (by omega)
   have h2:=h.ord (i+1+k) (by omega)
   have h3:=h.up (i+1+(k+1)) hk (by omega)
   rw[show i+1+(k+1)-1=i+1+k by omega]at h3
   omega
theorem SegsOk.one{m:Nat}{lo hi:Int}{gs:List Seg}(h:SegsOk m lo hi gs){key:Int}{i j:Nat}(hi':i<gs.length)(hj:j<gs.length)(h1:(iB gs i).lo≤key∧key≤(iB gs i).hi)(h2:(iB gs j).lo≤key∧key≤(iB gs j).hi):i=j:=by
 rcases Nat.lt_trichotomy i j with e|e|e
 ·have:=h.lt (i:=i) (j-i-1) (by omega)
  rw[show i+1+(j-i-1)=j by omega]at this
  omega
 ·exact e
 ·have:=h.lt (i:=j) (i-j-1) (by omega)
  rw[show j+1+(i-j-1)=i by omega]at this
  omega
theorem a6S{m:Nat}{lo hi:Int}{s:Stp}(h:SegsOk m lo hi s.segs){key:Int}{d:Drw}:d∈a5U s key↔∃i,i<s.segs.length∧vF s key i=true∧d∈(iB s.segs i).draws:=by
 unfold a5U
 by_cases hf:pU (vF s key) s.segs.length<0
 ·rw[if_pos hf]
  constructor
  ·intro hd;exact absurd hd ef
  ·rintro⟨i,hi',hp,_⟩
   have:=(zB (vF s key) s.segs.length).2 ⟨i,hi',hp⟩
   omega
 ·rw[if_neg hf]
  obtain⟨k,hk⟩:∃k:Nat,pU (vF s key) s.segs.length=k:=⟨(pU (vF s key) s.segs.length).toNat,by omega⟩
  have hkl:=a1T hk
  have hkp:vF s key k=true:=by
   unfold pU at hk
   cases e:(List.range s.segs.length).find? (vF s key)with
   | none=>rw[e]at hk;simp only at hk;omega
   | some j=>
     rw[e]at hk
     have hk:(j:Int)=k:=hk
     have:=List.find?_some e
     rw[show k=j by omega]
     exact this
  rw[hk,dN]
  constructor
  ·intro hd;exact⟨k,hkl,hkp,hd⟩
  ·rintro⟨i,hi',hp,hd⟩
   unfold vF at hp hkp
   rw[cY,decide_eq_true_eq,decide_eq_true_eq]at hp hkp
   rw[h.one hkl hi' hkp hp]
   exact hd
def rP(o:Org)(g:Seg)(key:Int):List Ct:=if g.lo≤key∧key≤g.hi then(g.draws.filter fun d=>rH o.ranks d key).map fun d=>mO o.ranks d key else[]
def vQ(o:Org)(r:Reg)(c:Ct)(i:Nat):List Ct:=if(iB r.stops c.1.toNat).testBit i then(iB (iB o.dvs c.1.toNat).stops i).segs.flatMap fun g=>rP o g c.2 else[]
def qB(o:Org)(r:Reg)(c:Ct):List Ct:=(List.range (iB o.dvs c.1.toNat).stops.length).flatMap (vQ o r c)
theorem wP{o:Org}(h:organE o=0){r:Reg}{c:Ct}(hc:kV o c=true){p:Ct}:p∈qB o r c↔p∈mF o r c:=by
 have hc':=(kK o c).1 hc
 unfold qB mF
 rw[dQ,dQ]
 refine exists_congr fun i=>and_congr_right fun hi=> ?_
 have hi:=dx.1 hi
 unfold vQ
 split
 ·have hso:=a0R h (j:=c.1.toNat) (by omega) (iD hi)
  unfold qI
  rw[pZ,dC,dQ]
  constructor
  ·rintro⟨g,hg,hp⟩
   unfold rP at hp
   split at hp
   ·rename_i hk
    obtain⟨d,hd,rfl⟩:=dC.1 hp
    obtain⟨hd1,hd2⟩:=dZ.1 hd
    obtain⟨k,hk',rfl⟩:=dL.1 hg
    refine⟨d,dZ.2 ⟨(a6S hso).2 ⟨k,hk',?_,by rw[jM _ k hk'];exact hd1⟩,hd2⟩,rfl⟩
    unfold vF
    rw[jM _ k hk',decide_eq_true hk.1,decide_eq_true hk.2]
    rfl
   ·exact absurd hp ef
  ·rintro⟨d,hd,rfl⟩
   obtain⟨hd1,hd2⟩:=dZ.1 hd
   obtain⟨k,hk,hp,hd1⟩:=(a6S hso).1 hd1
   refine⟨iB _ k,iD hk,?_⟩
   unfold rP
   unfold vF at hp
   rw[cY,decide_eq_true_eq,decide_eq_true_eq]at hp
   rw[if_pos hp]
   exact dC.2 ⟨d,dZ.2 ⟨hd1,hd2⟩,rfl⟩
 ·exact Iff.rfl
theorem c1A{o:Org}(h:organE o=0){r:Reg}{c:Ct}(hc:kV o c=true):dd (pG (qB o r c))=dd (pG (mF o r c)):=b2b fun _=>wP h hc
theorem b8v{o:Org}(h:organE o=0){r:Reg}{l:List Ct}(hl:∀c∈l,kV o c=true):dd (pG (l.flatMap fun c=>dd (pG (qB o r c))))=uH o r l:=by
 unfold uH
 refine b2b fun p=> ?_
 rw[dQ,dQ]
 refine exists_congr fun c=>and_congr_right fun hc=> ?_
 rw[pZ,wP h (hl c hc)]
def sX(r:Reg)(q:List Ct)(c:Ct):List Ct:=if !r.off.testBit c.1.toNat&& !decide (c∈q)then q++[c]else q
def b6k(o:Org)(r:Reg)(l:List Ct):List Ct:=pG (l.foldl (sX r) (bfs o r.cpl 1100 0 (kI o r.cpl l)))
theorem a3o{r:Reg}:∀{l q:List Ct}{x:Ct},x∈l.foldl (sX r) q↔x∈q∨(x∈l∧r.off.testBit x.1.toNat=false)
 | [],q,x=>by simp
 | c::l,q,x=>by
   rw[eQ,a3o]
   unfold sX
   by_cases h1:r.off.testBit c.1.toNat=false
   ·by_cases h2:c∈q
    ·rw[if_neg (by simp[h2])]
     constructor
     ·rintro(h|⟨h,k⟩)
      ·exact .inl h
      ·exact .inr ⟨dR _ h,k⟩
     ·rintro(h|⟨h,k⟩)
      ·exact .inl h
      ·rcases dX.1 h with e|e
       ·exact .inl (by rw[e];exact h2)
       ·exact .inr ⟨e,k⟩
    ·rw[if_pos (by simp[h1,h2])]
     constructor
     ·rintro(h|⟨h,k⟩)
      ·rcases dG.1 h with h|h
       ·exact .inl h
       ·have:=dB.1 h
        subst this
        exact .inr ⟨dK ..,h1⟩
      ·exact .inr ⟨dR _ h,k⟩
     ·rintro(h|⟨h,k⟩)
      ·exact .inl (dG.2 (.inl h))
      ·rcases dX.1 h with e|e
       ·exact .inl (dG.2 (.inr (by rw[e];simp)))
       ·exact .inr ⟨e,k⟩
   ·rw[if_neg (by simp[h1])]
    constructor
    ·rintro(h|⟨h,k⟩)
     ·exact .inl h
     ·exact .inr ⟨dR _ h,k⟩
    ·rintro(h|⟨h,k⟩)
     ·exact .inl h
     ·rcases dX.1 h with e|e
      ·subst e;exact absurd k h1
      ·exact .inr ⟨e,k⟩
theorem yC{r:Reg}:∀{l q:List Ct},q.Nodup→(l.foldl (sX r) q).Nodup
 | [],_,h=>h
 | c::l,q,h=>by
   rw[eQ]
   refine yC ?_
   unfold sX
   split
   ·rename_i hh
    simp only[cY,dI,decide_eq_false_iff_not]at hh
    rw[List.nodup_append]
    exact⟨h,by simp,fun a ha b hb e=>hh.2 (by simp at hb;rw[←hb,←e];exact ha)⟩
   ·exact h
theorem c3x{l:List Ct}(h:l.Nodup):(pG l).Pairwise tN:=by
 have h1:(pG l).Nodup:=(nA l).nodup_iff.2 h
 refine List.Pairwise.imp₂ ?_ (tG l) h1
 intro a b h2 h3
 rw[nY]at h2
 unfold tN
 by_cases e:a.1=b.1
 ·by_cases e2:a.2=b.2
  ·exact absurd (fP e e2) h3
  ·omega
 ·omega
theorem a6h{o:Org}(cp:Nat):∀(n i:Nat)(q:List Ct),Que o q→Que o (bfs o cp n i q)
 | 0,_,_,h=>h
 | n+1,i,q,h=>by
   rw[bfs]
   split
   ·exact a6h cp n (i+1) _ (h.stepF cp true _)
   ·exact h
theorem b6u(o:Org)(r:Reg)(l:List Ct):b6k o r l=kA o r l:=by
 unfold b6k kA
 refine pN _ _ (c3x (yC (a6h r.cpl 1100 0 _ (xS o r.cpl l)).1)) (a5M _) fun x=> ?_
 rw[pZ,(nA _).mem_iff,a3o,dG,dZ]
 constructor
 ·rintro(h|⟨h,k⟩)
  ·exact .inr h
  ·exact .inl ⟨h,by simpa using k⟩
 ·rintro(⟨h,k⟩|h)
  ·exact .inr ⟨h,by simpa using k⟩
  ·exact .inl h
def a3n(o:Org)(ks:List Nt)(i:Nat):List Ct:=((List.range ((iB o.dvs i).hi-(iB o.dvs i).lo+1).toNat).filter fun(j:Nat)=>nG (iB ks i) ((iB o.dvs i).lo+(j:Int))).map fun(j:Nat)=>((i:Int),(iB o.dvs i).lo+(j:Int))
def b1o(o:Org)(ks:List Nt):List Ct:=(List.range o.dvs.length).flatMap (a3n o ks)
theorem yL{f:Nat→List Ct}(h1:∀i,(f i).Pairwise tN)(h2:∀i,∀c∈f i,c.1=(i:Int)):∀n,((List.range n).flatMap f).Pairwise tN
 | 0=>.nil
 | n+1=>by
   rw[ec,dF,dD,ez,dr,fg]
   refine⟨yL h1 h2 n,h1 n,fun a ha b hb=> ?_⟩
   obtain⟨i,hi,ha⟩:=dQ.1 ha
   have hi:=dx.1 hi
   unfold tN
   rw[h2 i a ha,h2 n b hb]
   omega
theorem b9g(o:Org)(ks:List Nt)(i:Nat):(a3n o ks i).Pairwise tN:=by
 unfold a3n
 rw[gG]
 refine List.Pairwise.imp ?_ (List.Pairwise.filter _ List.pairwise_lt_range)
 intro a b h
 unfold tN
 omega
theorem a7i(x:Nt):(qD x).Pairwise (·<·):=by
 unfold qD
 rw[fg,gG,gG]
 have h:∀n,(pJ n).Pairwise (·<·):=fun n=>List.Pairwise.filter _ List.pairwise_lt_range
 refine⟨(h _).imp (by intro a b h;omega),(h _).imp (by intro a b h;omega),fun a ha b hb=> ?_⟩
 obtain⟨i,hi,rfl⟩:=dC.1 ha
 obtain⟨j,_,rfl⟩:=dC.1 hb
 have:=(sK.1 hi).1
 omega
theorem c2W(ks:List Nt)(i:Nat):(plD ks i).Pairwise tN:=by
 unfold plD
 rw[gG]
 exact(a7i _).imp fun h=>.inr ⟨rfl,h⟩
theorem a4O(ks:List Nt):(iF ks).Pairwise tN:=yL (c2W ks) (fun i c hc=>by
 unfold plD at hc
 obtain⟨z,_,rfl⟩:=dC.1 hc
 rfl) _
theorem b9Y{o:Org}{ks:List Nt}(hok:∀x∈ks,Nt.Ok x)(h:mI o ks=0):b1o o ks=iF ks:=by
 obtain⟨h1,h2,h3⟩:=oH h
 have hf:=Org.aJ h1
 refine pN _ _ (yL (b9g o ks) (fun i c hc=>by
  unfold a3n at hc
  obtain⟨z,_,rfl⟩:=dC.1 hc
  rfl) _) (a4O ks) fun x=> ?_
 constructor
 ·intro hx
  obtain⟨i,hi,hx⟩:=dQ.1 hx
  have hi:=dx.1 hi
  have hk:=hf.keys i hi
  unfold a3n at hx
  obtain⟨z,hz,rfl⟩:=dC.1 hx
  obtain⟨hz1,hz2⟩:=dZ.1 hz
  have hz1:=dx.1 hz1
  unfold iF
  refine dQ.2 ⟨i,dx.2 (by omega),?_⟩
  unfold plD
  exact dC.2 ⟨_,vG.2 ⟨⟨by omega,by omega⟩,hz2⟩,rfl⟩
 ·intro hx
  unfold iF at hx
  obtain⟨i,hi,hx⟩:=dQ.1 hx
  have hi:=dx.1 hi
  have hk:=hf.keys i (by omega)
  unfold plD at hx
  obtain⟨z,hz,rfl⟩:=dC.1 hx
  obtain⟨hz1,hz2⟩:=vG.1 hz
  have hw:=a2M (hok _ (iD hi)) (h3 i (by omega)) hz1 hz2
  rw[sI hk.1 hk.2.2 hz1,cY,decide_eq_true_eq,decide_eq_true_eq]at hw
  unfold b1o
  refine dQ.2 ⟨i,dx.2 (by omega),?_⟩
  unfold a3n
  refine dC.2 ⟨(z-(iB o.dvs i).lo).toNat,dZ.2 ⟨dx.2 (by omega),?_⟩,?_⟩
  ·rw[show(iB o.dvs i).lo+((z-(iB o.dvs i).lo).toNat:Int)=z by omega]
   exact hz2
  ·rw[show(iB o.dvs i).lo+((z-(iB o.dvs i).lo).toNat:Int)=z by omega]
end Go.Ds
namespace Go.Ds
open Go.Proofs Go.Proofs.Tryz
variable {H:Heap}
set_option maxRecDepth 10000
set_option maxHeartbeats 1000000
def b8E(o:Org)(l:List (Value×Reg))(ks:List Nt):Int:=if rO o l≠0 then rO o l else mI o ks
theorem b8D(o:Org)(ho:o.In H)(lv:Value)(xs:List (Value×Reg))(hl:Sl 3 rgc H lv xs)(hle:xs.length<1000000000)(hr:∀p∈xs,p.2.In H p.1)(kv:Value)(ks:List Nt)(hk:Ks H kv ks):
 Fn prog 92 [.agg #[.string o.name,o.rv,o.dv,o.cv],lv,kv] H fun r H'=>r=I (b8E o xs ks)∧St prog H H' []:=by
 refine .bg func92 rfl (by kernel_rfl) (m:=17) rfl fun l hn g0 g1 g2=> ?_
 simp(disch:=omega) only[↓RA,RB,simprocAttr,g0]
 refine(sR H).eNew 4 [(.string o.name),o.rv,o.dv,o.cv] rfl rfl (by simp[OC,((sR H).sl ho.1).cells.2.1,((sR H).sl ho.2.2.1).cells.2.1,((sR H).sl ho.2.2.2.2.1).cells.2.1]) lP fun A1 H1 hS1=> ?_
 simp only[RT]at hS1
 simp(disch:=omega) only[↓RA,RZ,simprocAttr,hn,g1,hS1.ai 0 rfl]
 refine hS1.cF (a5v o (ho.ag hS1) lv xs (hS1.sl hl) hle (fun p hp=>(hr p hp).ag hS1)) fun H2 hS2=> ?_
 simp(disch:=omega) only[↓RA,RB,simprocAttr,hn]
 refine iA (fun h1=> ?_) (fun h1=> ?_)
 ·simp(disch:=omega) only[↓RA,RZ,simprocAttr,hn,c5Z,h1]
  exact⟨by unfold b8E;rw[if_pos h1],hS2.forget⟩
 simp(disch:=omega) only[↓RA,RZ,simprocAttr,hn,g2,hS2.ai 0 rfl,h1]
 refine hS2.cF (a7O o (ho.ag hS2) kv ks (hk.ag hS2)) fun H3 hS3=> ?_
 simp(disch:=omega) only[↓RA,RZ,simprocAttr,hn,c5Z,h1]
 exact⟨by unfold b8E;rw[if_neg h1],hS3.forget⟩
def rkE(o:Org)(rg:Reg)(ks:List Nt):Int:=if nJ o rg≠0 then nJ o rg else mI o ks
theorem a7T(o:Org)(sv:Value)(rg:Reg)(ks:List Nt):b8E o [(sv,rg)] ks=rkE o rg ks:=by
 unfold b8E rkE
 rw[a1y]
theorem vO{o:Org}{rg:Reg}{ks:List Nt}(h:rkE o rg ks=0):nJ o rg=0∧mI o ks=0:=by
 unfold rkE at h
 split at h
 ·rename_i hh;exact absurd h hh
 ·rename_i hh;exact⟨dy.1 hh,h⟩
def oA(o:Org)(rg:Reg)(ks:List Nt):List Ct:=if rkE o rg ks=0 then jK o rg (iF ks)else[]
theorem a1q(hG:Glob gH H)(o:Org)(ho:o.In H)(rg:Reg)(sv:Value)(hr:rg.In H sv)(kv:Value)(ks:List Nt)(hk:Ks H kv ks):
 Fn prog 42 [.agg #[.string o.name,o.rv,o.dv,o.cv],.agg #[sv,.int .u64 rg.cpl,.int .u64 rg.off],kv] H fun r H'=>∃pv,r=.tuple #[pv,I (rkE o rg ks)]∧Slx 2 jL H' (fun B=>H.length≤B) pv (oA o rg ks)∧St prog H H' []:=by
 refine .bg func42 rfl (by kernel_rfl) (m:=22) rfl fun l hn g0 g1 g2=> ?_
 simp(disch:=omega) only[↓RA,RB,simprocAttr,g0]
 refine(sR H).eNew 4 [(.string o.name),o.rv,o.dv,o.cv] rfl rfl (by simp[OC,((sR H).sl ho.1).cells.2.1,((sR H).sl ho.2.2.1).cells.2.1,((sR H).sl ho.2.2.2.2.1).cells.2.1]) lP fun A1 H1 hS1=> ?_
 simp only[RT]at hS1
 simp(disch:=omega) only[↓RA,RB,simprocAttr,g1]
 refine hS1.eNew 3 [sv,(.int .u64 rg.cpl),(.int .u64 rg.off)] rfl rfl (by simp[OC,(hS1.sl hr.1).cells.2.1]) mK fun A2 H2 hS2=> ?_
 simp only[RT]at hS2
 simp(disch:=omega) only[↓RA,RZ,simprocAttr,hn,hS2.ai 0 rfl,hS2.ai 1 rfl]
 refine hS2.ak [sv,(.int .u64 rg.cpl),(.int .u64 rg.off)] b8M b5L rfl rfl (by first|(simp[];done)|simp[Value.cells]) (by first|(simp[];done)|simp[Value.cells]) (by simp[OC,(hS2.sl hr.1).cells.2.1]) (by decide) (by decide) fun w1 H3 hS3=> ?_
 simp only[RT]at hS3
 simp(disch:=omega) only[↓RA,RZ,simprocAttr,hn,g2]
 refine hS3.cF (b8D o (ho.ag hS3) w1 [(sv,rg)] (hS3.ay 2 rfl (fun _=>rfl)) (by simp) (by intro p hp;rw[dB.1 hp];exact hr.ag hS3) kv ks (hk.ag hS3)) fun H4 hS4=> ?_
 have hsc:=a7T o sv rg ks
 simp(disch:=omega) only[↓RA,RB,simprocAttr,hn,hsc]
 refine iA (fun h1=> ?_) (fun h1=> ?_)
 ·simp(disch:=omega) only[↓RA,RZ,simprocAttr,hn,c7v,hsc,h1]
  exact⟨.slice none 0 0,rfl,⟨⟨.inl ⟨rfl,by rw[oA,if_neg h1];rfl⟩,jR,by decide⟩,fun b h=>by simp[kL]at h⟩,hS4.forget⟩
 have h0:=dy.1 h1
 obtain⟨hz1,hk0⟩:=vO h0
 obtain⟨hz3,hz4⟩:=lX hz1
 have hf:=Org.aJ hz3
 have h8:ks.length≤8:=by
  have:=hf.dlen
  have:=(oH hk0).2.1
  omega
 simp(disch:=omega) only[↓RA,RC,simprocAttr,hsc,h1]
 refine Wp.aO jZ [(0,4),(1,4)] (by kernel_rfl) (by kernel_rfl) ?_
 simp(disch:=omega) only[↓RA,RZ,simprocAttr,hn,g2,hS4.ai 0 rfl,hS4.ai 1 rfl]
 refine iG ((a4G (hS4.gl hG) kv ks (hk.ag hS4) h8).tr) ?_
 rintro r H5⟨-,hT2⟩
 have hS5:=hS4.trans hT2
 simp only[RT]at hS5
 obtain⟨pv,rfl⟩:∃w,w=r:=⟨r,rfl⟩
 simp(disch:=omega) only[↓RA,RZ,simprocAttr,hn]
 have hSd:=hS5
 refine iG (vR o (ho.ag hS5) hf rg sv (hr.ag hS5) hz4 pv (iF ks) (hS5.ay 3 rfl jR) (qV hk0) (pX hk.ok hk0)) ?_
 rintro r H6⟨hx,hT3⟩
 have hS6:=hS5.trans hT3
 simp only[RT]at hS6
 obtain⟨qv,rfl⟩:∃w,w=r:=⟨r,rfl⟩
 simp(disch:=omega) only[↓RA,RZ,simprocAttr,hn,hS5.ai 0 rfl,hS5.ai 1 rfl,c7v,hx.1.bF]
 rw[h0]
 refine⟨qv,rfl,⟨?_,fun b h=> ?_⟩,hS6.forget⟩
 ·rw[oA,if_pos h0]
  exact hx.1
 ·have:=hx.2 b h
  have:H.length≤_:=hSd.len
  omega
end Go.Ds
namespace Go.Ds
open Go.Proofs
variable {H:Heap}
set_option maxRecDepth 10000
set_option maxHeartbeats 1000000
end Go.Ds
namespace Go.Ds
open Go.Proofs Go.Proofs.Tryz
variable {H:Heap}
set_option maxRecDepth 10000
set_option maxHeartbeats 1000000
def a1O(lo:Int)(w m:Nat):List Int:=((List.range m).filter fun j=>w.testBit j).map fun(j:Nat)=>lo+(j:Int)
def wA(lo hi:Int):Nat:=min 16 (hi-lo+1).toNat
def xA(o:Org)(b:Nat→Nat)(i:Nat):Nt:=jF (a1O (iB o.dvs i).lo (b (i%3)) (wA (iB o.dvs i).lo (iB o.dvs i).hi))
def mB(o:Org)(b:Nat→Nat):List Nt:=(List.range o.dvs.length).map (xA o b)
theorem c3l(a b:Nat)(h:a<65536):((a:Nat):Int).fdiv (2^min b (IntKind.bits .u16))=((a>>>b:Nat):Int):=by
 have e:IntKind.bits .u16=16:=rfl
 rw[e]
 have h1:((a:Nat):Int).fdiv (2^min b 16)=((a/2^min b 16:Nat):Int):=by
  rw[gI _ (by exact Int.le_of_lt (Int.pow_pos (by decide)))]
  simp
 rw[h1,eP]
 by_cases hb:b≤16
 ·rw[fN hb]
 ·rw[Nat.min_eq_right (by omega)]
  have h2:a/2^16=0:=gN (by simpa using h)
  have h3:a/2^b=0:=gN (dP (by simpa using h) (fw (by decide) (show 16≤b by omega)))
  rw[h2,h3]
theorem c0S(n:Nat)(h:n<65536):IntKind.wrap .u16 ((BitVec.ofInt (IntKind.bits .u16) (n:Int)&&&BitVec.ofInt (IntKind.bits .u16) 1).toNat:Int)=((n%2:Nat):Int):=by
 have e:(BitVec.ofInt (IntKind.bits .u16) (n:Int)&&&BitVec.ofInt (IntKind.bits .u16) 1).toNat=n%2:=by
  show(BitVec.ofInt 16 (n:Int)&&&BitVec.ofInt 16 1).toNat=n%2
  rw[gO]
  have h1:(BitVec.ofInt 16 (n:Int)).toNat=n:=by
   rw[fW,BitVec.toNat_ofNat]
   exact gk (by simpa using h)
  have h2:(BitVec.ofInt 16 1).toNat=1:=rfl
  rw[h1,h2,Nat.and_one_is_mod]
 rw[e]
 have:n%2<2:=eU _ (by decide)
 have hh:n%2=0∨n%2=1:=by omega
 rcases hh with h|h<;>rw[h]<;>rfl
theorem b6v{a:Nat}(b:Nat)(h:a<65536):a>>>b<65536:=by
 rw[eP]
 exact Nat.lt_of_le_of_lt (Nat.div_le_self _ _) h
theorem b3H(lo:Int)(w m:Nat):a1O lo w (m+1)=a1O lo w m++(if w.testBit m then[lo+(m:Int)]else[]):=by
 unfold a1O
 rw[ec,eS,dT]
 congr 1
 cases h:w.testBit m<;>simp[h]
theorem b7s(lo:Int)(w m:Nat):(a1O lo w m).length≤m:=by
 unfold a1O
 rw[eu]
 exact dE (eo _ _) (by simp)
theorem c1E(lo hi:Int):wA lo hi≤16:=Nat.min_le_left _ _
theorem sQ{o:Org}(hf:o.Fine)(w:Nat){i:Nat}(hi:i<o.dvs.length):∀z∈a1O (iB o.dvs i).lo w (wA (iB o.dvs i).lo (iB o.dvs i).hi),isN z∧(iB o.dvs i).lo≤z∧z≤(iB o.dvs i).hi:=by
 intro z hz
 have hk:=hf.keys i hi
 unfold a1O wA at hz
 obtain⟨j,hj,rfl⟩:=dC.1 hz
 have hj:=dx.1 (dZ.1 hj).1
 exact⟨⟨by omega,by omega⟩,by omega,by omega⟩
theorem a2v(o:Org)(ho:o.In H)(hf:o.Fine)(b:Nat→Nat)(hb:∀i,b i<65536):
 Fn prog 13 [.agg #[.string o.name,o.rv,o.dv,o.cv],.agg #[.int .u16 (b 0),.int .u16 (b 1),.int .u16 (b 2)]] H fun r H'=>
  St prog H H' [⟨r,2,(mB o b).flatMap ntc⟩]:=by
 have hd8:=hf.dlen
 refine .aI func13 rfl (by kernel_rfl) (m:=66) rfl fun l hn g0 g1=> ?_
 simp(disch:=omega) only[↓RA,RB,simprocAttr,g0]
 refine(sR H).eNew 4 [(.string o.name),o.rv,o.dv,o.cv] rfl rfl (by simp[OC,((sR H).sl ho.1).cells.2.1,((sR H).sl ho.2.2.1).cells.2.1,((sR H).sl ho.2.2.2.2.1).cells.2.1]) lP fun A1 H1 hS1=> ?_
 simp only[RT]at hS1
 simp(disch:=omega) only[↓RA,RB,simprocAttr,g1]
 refine hS1.eNew 3 [(.int .u16 (b 0)),(.int .u16 (b 1)),(.int .u16 (b 2))] rfl rfl rfl c7n fun A2 H2 hS2=> ?_
 simp only[RT]at hS2
 simp(disch:=omega) only[↓RA,RB,simprocAttr]
 have hS3:=hS2.nil 1
 simp only[RT]at hS3
 refine Wp.aq (fun n l H'=>l.length=66∧get l 2=(ptr A1 0 4)∧get l 3=(ptr A2 0 3)∧get l 4=(.slice none 0 0)∧∃(i:Nat)(kv:Value),(n+i=o.dvs.length)∧get l 6=I i∧get l 5=kv∧St prog H H' [⟨ptr A1 0 4,0,[(.string o.name),o.rv,o.dv,o.cv]⟩,⟨ptr A2 0 3,0,[(.int .u16 (b 0)),(.int .u16 (b 1)),(.int .u16 (b 2))]⟩,⟨kv,2,((List.range i).map (xA o b)).flatMap ntc⟩]) o.dvs.length ?_ ?_
 ·simp(disch:=omega) only[RB,RC,simprocAttr,hn]
  exact⟨0,.slice none 0 0,by omega,rfl,rfl,hS3⟩
 rintro n l H3⟨hn,g2,g3,g4,i,kv,hi,g6,g5,hS4⟩
 simp(disch:=omega) only[↓RA,RZ,simprocAttr,hn,g2,g6,hS4.ld 0 rfl,(hS4.sl ho.2.2.1).len]
 refine iA (fun q=> ?_) (fun q=> ?_)
 ·have hk:=hf.keys i (by omega)
  simp(disch:=omega) only[↓RA,RZ,simprocAttr,hn,g2,g6,hS4.ld 0 rfl,(hS4.sl ho.2.2.1).idx,(hS4.sl ho.2.2.1).ba,(hS4.sl ho.2.2.1).cD 2,Dvn.cells,q]
  refine hS4.eNew 2 [I 0,I 0] rfl rfl rfl yT fun A3 H4 hS5=> ?_
  simp only[RT]at hS5
  simp(disch:=omega) only[↓RA,RZ,simprocAttr,hn,q]
  refine hS5.ae 3 rfl [I (iB o.dvs i).lo,I (iB o.dvs i).hi] rfl rfl yT (by simp) fun H5 hS6=> ?_
  simp only[RT]at hS6
  simp(disch:=omega) only[↓RA,RZ,simprocAttr,hn,hS6.ld 3 rfl,q]
  have hS7:=hS6.nil 0
  simp only[RT]at hS7
  refine Wp.aq (fun n l H'=>l.length=66∧get l 2=(ptr A1 0 4)∧get l 3=(ptr A2 0 3)∧get l 4=(.slice none 0 0)∧get l 5=kv∧get l 6=I i∧get l 8=(ptr A3 0 2)∧∃(m:Nat)(lv:Value),(n+m=wA (iB o.dvs i).lo (iB o.dvs i).hi)∧get l 9=I ((iB o.dvs i).lo+m)∧get l 7=lv∧St prog H H' [⟨ptr A1 0 4,0,[(.string o.name),o.rv,o.dv,o.cv]⟩,⟨ptr A2 0 3,0,[(.int .u16 (b 0)),(.int .u16 (b 1)),(.int .u16 (b 2))]⟩,⟨kv,2,((List.range i).map (xA o b)).flatMap ntc⟩,⟨ptr A3 0 2,0,[I (iB o.dvs i).lo,I (iB o.dvs i).hi]⟩,⟨lv,1,(a1O (iB o.dvs i).lo (b (i%3)) m).flatMap (one I)⟩]) (wA (iB o.dvs i).lo (iB o.dvs i).hi) ?_ ?_
  ·simp(disch:=omega) only[RB,RC,simprocAttr,hn,g2,g3,g4,g6,g5]
   exact⟨0,.slice none 0 0,by omega,by simp,rfl,hS7⟩
  rintro n l H6⟨hn,g2,g3,g4,g5,g6,g8,m,lv,hm,g9,g7,hS8⟩
  simp(disch:=omega) only[↓RA,RZ,simprocAttr,hn,g8,g9,hS8.ld 3 rfl]
  have hM:=c1E (iB o.dvs i).lo (iB o.dvs i).hi
  have hi3:(i:Int).tmod 3=((i%3:Nat):Int):=(ey i 3).symm
  have hw:([Value.int .u16 (b 0),.int .u16 (b 1),.int .u16 (b 2)]:List Value)[i%3]? =some (.int .u16 (b (i%3))):=by
   have:i%3=0∨i%3=1∨i%3=2:=by omega
   rcases this with e|e|e<;>rw[e]<;>rfl
  have hsub:(iB o.dvs i).lo+(m:Int)-(iB o.dvs i).lo=(m:Int):=by omega
  have e1:=c3l (b (i%3)) m (hb _)
  have e2:=c0S (b (i%3)>>>m) (b6v m (hb _))
  have e3:=tb (b (i%3)) m
  have hsu:=b3H (iB o.dvs i).lo (b (i%3)) m
  have hpl:=b7s (iB o.dvs i).lo (b (i%3)) m
  refine jH (fun q1=> ?_) (fun q1=> ?_)
  ·simp(disch:=omega) only[↓RA,RZ,simprocAttr,hn,g8,g9,hS8.ld 3 rfl,q1]
   refine iA (fun q2=> ?_) (fun q2=> ?_)
   ·skip
    simp(disch:=omega) only[↓RA,RC,simprocAttr,q1,q2]
    refine Wp.drw jZ (by kernel_rfl) ?_
    simp(disch:=omega) only[↓RA,RZ,simprocAttr,hn,g3,g6,g8,g9,hS8.ld 1 rfl,hw,hS8.ld 3 rfl,hi3,hsub,e1,e2]
    refine iA (fun q3=> ?_) (fun q3=> ?_)
    ·rw[e3,decide_eq_true (by omega),if_pos rfl]at hsu
     simp(disch:=omega) only[↓RA,RZ,simprocAttr,hn,g9,g7,q3]
     refine hS8.ak [I ((iB o.dvs i).lo+m)] a0e a3i rfl rfl (by simp[Value.cells]) rfl rfl (by decide) (by decide) fun w1 H7 hS9=> ?_
     simp only[RT]at hS9
     simp(disch:=omega) only[↓RA,RZ,simprocAttr,hn,q3]
     refine hS9.aw 4 rfl (hS9.rd 5 rfl) a0e (by rw[iO (n:=1) (cel:=one I) (fun _=>rfl)];simp;omega) fun w2 H8 hS10=> ?_
     simp only[RT]at hS10
     simp(disch:=omega) only[↓RA,RZ,simprocAttr,hn,g2,g3,g4,g5,g6,g8,g9,q3]
     refine⟨n-1,by unfold wA at hm;omega,m+1,w2,by unfold wA at hm ⊢;omega,by simp;omega,rfl,?_⟩
     rw[hsu,dF]
     exact hS10.pick [0,1,2,3,4] (by decide) rfl
    rw[e3,decide_eq_false (by omega),if_neg (by simp),dr]at hsu
    simp(disch:=omega) only[↓RA,RZ,simprocAttr,hn,g2,g3,g4,g5,g6,g8,g9,g7,q3]
    refine⟨n-1,by unfold wA at hm;omega,m+1,lv,by unfold wA at hm ⊢;omega,by simp;omega,rfl,?_⟩
    rw[hsu]
    exact hS8.pick [0,1,2,3,4] (by decide) rfl
   have hmM:m=wA (iB o.dvs i).lo (iB o.dvs i).hi:=by unfold wA at hm hM ⊢;omega
   have hz:=sQ hf (b (i%3)) (show i<o.dvs.length by omega)
   subst hmM
   simp(disch:=omega) only[↓RA,RZ,simprocAttr,hn,g7,q1,q2]
   refine hS8.cF (xT (a1O (iB o.dvs i).lo (b (i%3)) (wA (iB o.dvs i).lo (iB o.dvs i).hi)) (fun z h=>(hz z h).1) lv (hS8.ay 4 rfl (tL _)) (by omega)) fun H9 hS11=> ?_
   simp(disch:=omega) only[↓RA,RZ,simprocAttr,hn,q1,q2]
   refine hS11.eNew 2 [(.int .u64 0),(.int .u64 0)] rfl rfl rfl nB fun A4 H10 hS12=> ?_
   simp only[RT]at hS12
   simp(disch:=omega) only[↓RA,RZ,simprocAttr,hn,q1,q2]
   refine hS12.ae 5 rfl [(.int .u64 (xA o b i).1),(.int .u64 (xA o b i).2)] rfl rfl nB (by simp) fun H11 hS13=> ?_
   simp only[RT]at hS13
   simp(disch:=omega) only[↓RA,RZ,simprocAttr,hn,g5,hS13.ai 5 rfl,q1,q2]
   refine hS13.ak [(.int .u64 (xA o b i).1),(.int .u64 (xA o b i).2)] b4a b9h rfl rfl (by simp[Value.cells]) rfl rfl (by decide) (by decide) fun w3 H12 hS14=> ?_
   simp only[RT]at hS14
   simp(disch:=omega) only[↓RA,RZ,simprocAttr,hn,q1,q2]
   refine hS14.aw 2 rfl (hS14.rd 6 rfl) b4a (by rw[iO (n:=2) (cel:=ntc) (fun _=>rfl)];simp;omega) fun w4 H13 hS15=> ?_
   simp only[RT]at hS15
   simp(disch:=omega) only[↓RA,RZ,simprocAttr,hn,g2,g3,g4,g6,q1,q2]
   refine⟨o.dvs.length-(i+1),by omega,i+1,w4,by omega,by simp,rfl,?_⟩
   rw[ec,dT,dF]
   exact hS15.pick [0,1,2] (by decide) rfl
  have hmM:m=wA (iB o.dvs i).lo (iB o.dvs i).hi:=by unfold wA at hm hM ⊢;omega
  have hz:=sQ hf (b (i%3)) (show i<o.dvs.length by omega)
  subst hmM
  simp(disch:=omega) only[↓RA,RZ,simprocAttr,hn,g7,q1]
  refine hS8.cF (xT (a1O (iB o.dvs i).lo (b (i%3)) (wA (iB o.dvs i).lo (iB o.dvs i).hi)) (fun z h=>(hz z h).1) lv (hS8.ay 4 rfl (tL _)) (by omega)) fun H14 hS16=> ?_
  simp(disch:=omega) only[↓RA,RZ,simprocAttr,hn,q1]
  refine hS16.eNew 2 [(.int .u64 0),(.int .u64 0)] rfl rfl rfl nB fun A5 H15 hS17=> ?_
  simp only[RT]at hS17
  simp(disch:=omega) only[↓RA,RZ,simprocAttr,hn,q1]
  refine hS17.ae 5 rfl [(.int .u64 (xA o b i).1),(.int .u64 (xA o b i).2)] rfl rfl nB (by simp) fun H16 hS18=> ?_
  simp only[RT]at hS18
  simp(disch:=omega) only[↓RA,RZ,simprocAttr,hn,g5,hS18.ai 5 rfl,q1]
  refine hS18.ak [(.int .u64 (xA o b i).1),(.int .u64 (xA o b i).2)] b4a b9h rfl rfl (by simp[Value.cells]) rfl rfl (by decide) (by decide) fun w5 H17 hS19=> ?_
  simp only[RT]at hS19
  simp(disch:=omega) only[↓RA,RZ,simprocAttr,hn,q1]
  refine hS19.aw 2 rfl (hS19.rd 6 rfl) b4a (by rw[iO (n:=2) (cel:=ntc) (fun _=>rfl)];simp;omega) fun w6 H18 hS20=> ?_
  simp only[RT]at hS20
  simp(disch:=omega) only[↓RA,RZ,simprocAttr,hn,g2,g3,g4,g6,q1]
  refine⟨o.dvs.length-(i+1),by omega,i+1,w6,by omega,by simp,rfl,?_⟩
  rw[ec,dT,dF]
  exact hS20.pick [0,1,2] (by decide) rfl
 simp(disch:=omega) only[↓RA,RZ,simprocAttr,hn,g5,c8e,q]
 have hii:i=o.dvs.length:=by omega
 subst hii
 exact hS4.pick [2] (by decide) rfl
theorem oX(o:Org)(b:Nat→Nat):(mB o b).length=o.dvs.length:=by simp[mB]
theorem tM{o:Org}{b:Nat→Nat}{i:Nat}(hi:i<o.dvs.length):iB (mB o b) i=xA o b i:=by
 rw[jM _ i (by rw[oX];exact hi)]
 simp[mB]
theorem b2y{o:Org}(hf:o.Fine)(b:Nat→Nat){i:Nat}(hi:i<o.dvs.length):Nt.Ok (xA o b i):=sW _ _ (fun z h=>(sQ hf (b (i%3)) hi z h).1) ⟨by decide,by decide⟩
theorem a1z{o:Org}(hf:o.Fine)(b:Nat→Nat):∀x∈mB o b,Nt.Ok x:=by
 intro x hx
 obtain⟨i,hi,rfl⟩:=dC.1 hx
 exact b2y hf b (dx.1 hi)
theorem a7u{x y:Nt}(hx:Nt.Ok x)(h:∀z,isN z→nG x z=true→nG y z=true):woF x y=(0,0):=by
 have k:∀z,isN z→nG (woF x y) z=false:=fun z hz=>by
  rw[b2J hx hz]
  cases e:nG x z with
  | false=>rfl
  | true=>rw[h z hz e];rfl
 have big:∀a:Nat,a<18446744073709551616→∀j,64≤j→a.testBit j=false:=fun a ha j hj=>
  Nat.testBit_lt_two_pow (dP (show a<2^64 from ha) (fw (by decide) hj))
 obtain⟨h1,h2⟩:=c3r x y
 apply fP
 ·apply fY
  intro j
  rw[iw]
  by_cases hj:64≤j
  ·exact big _ h1 j hj
  ·have:=k (j:Int) ⟨by omega,by omega⟩
   unfold nG at this
   rw[if_pos (by omega)]at this
   exact this
 ·apply fY
  intro j
  rw[iw]
  by_cases hj:64≤j
  ·exact big _ h2 j hj
  ·have:=k (64+j:Int) ⟨by omega,by omega⟩
   unfold nG at this
   rw[if_neg (by omega),show(64+(j:Int)-64).toNat=j by omega]at this
   exact this
theorem a2Y{o:Org}(h0:organE o=0)(b:Nat→Nat):mI o (mB o b)=0:=by
 have hf:=Org.aJ h0
 unfold mI
 rw[if_neg (by rw[h0];simp),if_neg (by rw[oX];simp),if_neg]
 rintro⟨j,hj,hne⟩
 apply hne
 have hk:=hf.keys j hj
 rw[tM hj]
 refine a7u (b2y hf b hj) fun z hz hh=> ?_
 rw[xA,uB (fun n hn=>(sQ hf (b (j%3)) hj n hn).1) hz]at hh
 have:=sQ hf (b (j%3)) hj z (of_decide_eq_true hh)
 rw[sI hk.1 hk.2.2 hz,decide_eq_true this.2.1,decide_eq_true this.2.2]
 rfl
end Go.Ds
namespace Go.Ds
open Go.Proofs
set_option maxRecDepth 10000
theorem rV{ks:List Nt}{x:Ct}:x∈iF ks↔(0≤x.1∧x.1<ks.length)∧isN x.2∧nG (iB ks x.1.toNat) x.2=true:=by
 unfold iF plD
 rw[dQ]
 constructor
 ·rintro⟨i,hi,h⟩
  have hi:=dx.1 hi
  obtain⟨z,hz,rfl⟩:=dC.1 h
  exact⟨⟨by simp,by simp;omega⟩,vG.1 hz⟩
 ·rintro⟨⟨h1,h2⟩,h3⟩
  refine⟨x.1.toNat,dx.2 (by omega),dC.2 ⟨x.2,vG.2 h3,?_⟩⟩
  apply fP
  ·simp;omega
  ·rfl
def pP(o:Org)(c:Ct):List Nt:=(List.replicate o.dvs.length ((0,0):Nt)).set c.1.toNat (jF [c.2])
theorem yE(o:Org)(c:Ct):(pP o c).length=o.dvs.length:=by simp[pP]
theorem sG{o:Org}(hf:o.Fine){c:Ct}(hc:kV o c=true):isN c.2:=by
 have h:=vX hf hc
 exact⟨by omega,by omega⟩
theorem b4W{z:Int}(h:isN z):Nt.Ok (jF [z]):=sW _ _ (fun y hy=>by rw[dB.1 hy];exact h) ⟨by decide,by decide⟩
theorem a2h{z y:Int}(h:isN z)(hy:isN y):nG (jF [z]) y=decide (y=z):=by
 rw[uB (fun n hn=>by rw[dB.1 hn];exact h) hy]
 simp
theorem a4H{o:Org}(hf:o.Fine){c:Ct}(hc:kV o c=true):∀x∈pP o c,Nt.Ok x:=by
 intro x hx
 unfold pP at hx
 rcases List.mem_or_eq_of_mem_set hx with h|h
 ·rw[List.eq_of_mem_replicate h]
  exact⟨by decide,by decide⟩
 ·rw[h]
  exact b4W (sG hf hc)
theorem b2a{α:Type}[Inhabited α](l:List α)(i j:Nat)(x:α)(h:i<l.length):iB (l.set i x) j=if j=i then x else iB l j:=by
 unfold iB
 rw[dg,dg]
 by_cases e:j=i
 ·subst e
  rw[if_pos rfl,List.getElem?_set_self h]
  rfl
 ·rw[if_neg e,List.getElem?_set_ne (fb e)]
theorem zS{o:Org}(hf:o.Fine){c:Ct}(hc:kV o c=true):iF (pP o c)=[c]:=by
 have h:=(kK o c).1 hc
 refine pN _ _ (a4O _) (List.pairwise_singleton _ _) fun x=> ?_
 rw[rV,yE,dB]
 constructor
 ·rintro⟨⟨h1,h2⟩,h3,h4⟩
  unfold pP at h4
  rw[b2a _ _ _ _ (by simp;omega)]at h4
  split at h4
  ·rename_i e
   rw[a2h (sG hf hc) h3]at h4
   exact fP (by omega) (of_decide_eq_true h4)
  ·rw[jM _ _ (by simp;omega),List.getElem_replicate,a0u]at h4
   exact absurd h4 (by simp)
 ·rintro rfl
  refine⟨⟨h.1,h.2.1⟩,sG hf hc,?_⟩
  unfold pP
  rw[b2a _ _ _ _ (by simp;omega),if_pos rfl,a2h (sG hf hc) (sG hf hc)]
  simp
theorem b7i{o:Org}(h0:organE o=0){ks:List Nt}(hl:ks.length=o.dvs.length)(hok:∀x∈ks,Nt.Ok x)(hc:∀x∈iF ks,kV o x=true):mI o ks=0:=by
 have hf:=Org.aJ h0
 unfold mI
 rw[if_neg (by rw[h0];simp),if_neg (by rw[hl];simp),if_neg]
 rintro⟨j,hj,hne⟩
 apply hne
 have hk:=hf.keys j hj
 refine a7u (hok _ (iD (by omega))) fun z hz hh=> ?_
 have:=(kK o _).1 (hc ((j:Int),z) (rV.2 ⟨⟨by simp,by simp;omega⟩,hz,by simpa using hh⟩))
 simp only[dN]at this
 rw[sI hk.1 hk.2.2 hz,decide_eq_true this.2.2.1,decide_eq_true this.2.2.2]
 rfl
theorem c1t{o:Org}(h0:organE o=0){c:Ct}(hc:kV o c=true):mI o (pP o c)=0:=
 b7i h0 (yE o c) (a4H (Org.aJ h0) hc) fun x hx=>by
  rw[zS (Org.aJ h0) hc]at hx
  rw[dB.1 hx]
  exact hc
theorem Star.mono{α:Type}{R R':α→α→Prop}(h:∀a b,R a b→R' a b){a b:α}(hs:Star R a b):Star R' a b:=by
 induction hs with
 | refl=>exact .refl _
 | tail _ h2 ih=>exact .tail ih (h _ _ h2)
end Go.Ds
namespace Go.Ds
open Go.Proofs Go.Proofs.Tryz Go.Shelf Go.RowKit Go.Lib Go.Sort
def sm(x:Int×Int):Prop:=-1000000000≤x.1∧x.1≤1000000000∧-1000000000≤x.2∧x.2≤1000000000
abbrev Sm:={x:Int×Int//sm x}
instance:Inhabited Sm:=⟨⟨(0,0),by unfold sm;decide⟩⟩
def cfd(x y:Sm):Int:=if x.1.1≠y.1.1 then x.1.1-y.1.1 else x.1.2-y.1.2
theorem ltd(x y:Sm):ltOf cfd x y=decide (x.1.1<y.1.1∨(x.1.1=y.1.1∧x.1.2<y.1.2)):=by
 unfold ltOf cfd
 congr 1
 apply propext
 split<;>omega
theorem c5O:SWO (ltOf cfd) where
 irrefl x:=by rw[ltd];simp
 trans x y z h1 h2:=by rw[ltd]at*;simp at*;omega
 ntrans x y z h1 h2:=by rw[ltd]at*;simp at*;omega
theorem c5m(x y:Sm)(h1:ltOf cfd x y=false)(h2:ltOf cfd y x=false):x=y:=by
 rw[ltd]at*
 simp at h1 h2
 apply Subtype.ext
 apply fP<;>omega
theorem c2K(x y:Sm):(!(ltOf cfd) y x)=le2 x.1 y.1:=by
 rw[ltd,←b1E]
 simp only[lt2]
theorem b6G(l:Array Sm):flatK (fun x:Sm=>jL x.1) 2 l=flatK jL 2 (l.map (·.1)):=by
 unfold flatK
 rw[Array.size_map]
 congr 1
 funext t
 congr 2
 by_cases h:t/2<l.size
 ·simp[h]
 ·simp[h]
  rfl
theorem b5i(w:World)(kL off n:Nat)(l:List Sm)(os:Array Obj):sortWorldK (fun x:Sm=>jL x.1) 2 w kL off n l.toArray os=sortWorldK jL 2 w kL off n (l.map (·.1)).toArray os:=by
 unfold sortWorldK putRowK
 rw[b6G,List.map_toArray]
theorem c0I(l:List (Int×Int))(h:∀x∈l,sm x):(l.attachWith sm h).map (·.1)=l:=by
 rw[List.map_attachWith]
 exact List.attach_map_subtype_val l
theorem b7W(l:List Sm):(l.mergeSort fun x y=> !(ltOf cfd) y x).map (·.1)=(l.map (·.1)).mergeSort le2:=
 List.map_mergeSort fun x _ y _=>c2K x y
theorem c7F(kc:FuncId)(eg:∀args w,(callFunc kc args).run prog w=.ok (.enter kc args) w)(hf:∀x y:Sm,Fn prog kc [.agg #[I x.1.1,I x.1.2],.agg #[I y.1.1,I y.1.2]] .nil fun r H'=>r=I (cfd x y)∧St prog (.nil:Heap) H' []):a0I prog 188 kc sm:=
 fun kL off cap d w hs hH hblk hsz=>by
  have hd:(d.toList.attachWith sm hs).toArray.map (·.1)=d:=by
   rw[List.map_toArray,c0I]
  have hl:(d.toList.attachWith sm hs).toArray.size=d.size:=by simp
  have hH':HoldsK (fun x:Sm=>jL x.1) 2 w kL off (d.toList.attachWith sm hs).toArray:=by
   unfold HoldsK at hH ⊢
   rw[b6G,hd]
   exact hH
  have h:=AnyQ.slices_SortFunc_total Tryz.bD 2 Tryz.isAgg71 Tryz.sizeOf71 (fun x:Sm=>jL x.1) (fun _=>rfl) (fun x=>zO x.1) cfd c5O kc #[] kL off cap (d.toList.attachWith sm hs).toArray w eg (a2I (fun x:Sm=>x.1) cfd hf kL off _ w) hH' hblk (by rw[hl];exact hsz) c5m
  rw[hl]at h
  refine h.mono ?_
  rintro e w'⟨h1,n,os,h2⟩
  exact⟨h1,n,os,by rw[h2,b5i,List.toList_toArray,b7W,c0I]⟩
def b2A(K kc:FuncId):Prop:=∀{H:Heap}{B:Base}{os:List Ob}(hS:St prog B H os)(i:Nat){v:Value}{es:List (Int×Int)}(ho:os[i]? =some ⟨v,2,pr es⟩)(hl:es.length<100000000000)(hsm:∀x∈es,sm x){Q:Value→Heap→Prop}
    (h:∀H1,St prog B H1 (os.set i ⟨v,2,pr (pG es)⟩)→Q (.tuple #[]) H1),vS prog K [v,.func (.func kc) #[] #[]] H Q
section
variable {H:Heap}
theorem b9a(x y:Sm):Fn prog 232 [.agg #[I x.1.1,I x.1.2],.agg #[I y.1.1,I y.1.2]] H fun r H'=>r=I (cfd x y)∧St prog H H' []:=by
 obtain⟨⟨x1,x2⟩,hx⟩:=x
 obtain⟨⟨y1,y2⟩,hy⟩:=y
 unfold sm at hx hy
 simp only at hx hy ⊢
 refine .aI func232 rfl (by kernel_rfl) (m:=20) rfl fun l hn g0 g1=> ?_
 simp(disch:=omega) only[↓RA,RB,simprocAttr,g0]
 refine(sR H).eNew 2 [I x1,I x2] rfl rfl rfl rM fun A1 H1 hS1=> ?_
 simp only[RT]at hS1
 simp(disch:=omega) only[↓RA,RB,simprocAttr,g1]
 refine hS1.eNew 2 [I y1,I y2] rfl rfl rfl rM fun A2 H2 hS2=> ?_
 simp only[RT]at hS2
 simp(disch:=omega) only[↓RA,RZ,simprocAttr,hn,hS2.ld 0 rfl,hS2.ld 1 rfl]
 refine iA (fun q=> ?_) (fun q=> ?_)
 ·simp(disch:=omega) only[↓RA,RZ,simprocAttr,hn,hS2.ld 0 rfl,hS2.ld 1 rfl,c1G,q]
  exact⟨by unfold cfd;rw[if_pos q],hS2.forget⟩
 simp(disch:=omega) only[↓RA,RZ,simprocAttr,hn,hS2.ld 0 rfl,hS2.ld 1 rfl,c1G,q]
 exact⟨by unfold cfd;rw[if_neg q],hS2.forget⟩
end
theorem c2e:b2A 188 232:=fun hS i _ _ ho hl hsm _ h=>vZ (c7F 232 (enters_of func232 (by kernel_rfl) rfl) fun x y=>b9a x y) c3V c3p hS i ho hl hsm h
end Go.Ds
namespace Go.Ds
open Go.Proofs Go.Proofs.Tryz
variable {H:Heap}
set_option maxRecDepth 10000
set_option maxHeartbeats 1000000
theorem c5S(o:Org)(ho:o.In H)(d z:Int):Fn prog 288 [.agg #[.string o.name,o.rv,o.dv,o.cv],.agg #[I d,I z]] H fun r H'=>r=.bool (kV o (d,z))∧St prog H H' []:=by
 have hl:=ho.2.2.2.2.2.2.1
 by_cases hd:0≤d
 ·obtain⟨j,rfl⟩:=eZ hd
  refine .aI func288 rfl (by kernel_rfl) (m:=42) rfl fun l hn g0 g1=> ?_
  simp(disch:=omega) only[↓RA,RB,simprocAttr,g0]
  refine(sR H).eNew 4 [(.string o.name),o.rv,o.dv,o.cv] rfl rfl (by simp[OC,((sR H).sl ho.1).cells.2.1,((sR H).sl ho.2.2.1).cells.2.1,((sR H).sl ho.2.2.2.2.1).cells.2.1]) lP fun A1 H1 hS1=> ?_
  simp only[RT]at hS1
  simp(disch:=omega) only[↓RA,RB,simprocAttr,g1]
  refine hS1.eNew 2 [I j,I z] rfl rfl rfl kY fun A2 H2 hS2=> ?_
  simp only[RT]at hS2
  simp(disch:=omega) only[↓RA,RB,simprocAttr]
  refine Wp.drw jZ (by kernel_rfl) ?_
  simp(disch:=omega) only[↓RA,RZ,simprocAttr,hn,hS2.ld 1 rfl]
  refine jH (fun g1=> ?_) (fun g1=> ?_)
  rotate_left
  ·exfalso;first|omega|(simp at g1;omega)
  simp(disch:=omega) only[↓RA,RZ,simprocAttr,hn,hS2.ld 1 rfl,hS2.ld 0 rfl,(hS2.sl ho.2.2.1).len,g1]
  refine jH (fun g2=> ?_) (fun g2=> ?_)
  ·simp(disch:=omega) only[↓RA,RZ,simprocAttr,hn,hS2.ld 1 rfl,hS2.ld 0 rfl,(hS2.sl ho.2.2.1).idx,(hS2.sl ho.2.2.1).ba,(hS2.sl ho.2.2.1).ld,Dvn.cells,g1,g2]
   refine jH (fun g3=> ?_) (fun g3=> ?_)
   ·simp(disch:=omega) only[↓RA,RZ,simprocAttr,hn,hS2.ld 1 rfl,hS2.ld 0 rfl,(hS2.sl ho.2.2.1).idx,(hS2.sl ho.2.2.1).ba,(hS2.sl ho.2.2.1).ld,Dvn.cells,b2r,g1,g2,g3]
    exact⟨by unfold kV;simp only[dN];congr 1;simp;omega,hS2.forget⟩
   simp(disch:=omega) only[↓RA,RZ,simprocAttr,hn,b2r,g1,g2,g3]
   exact⟨by congr 1;symm;rw[←eL,kK];simp only[dN];omega,hS2.forget⟩
  simp(disch:=omega) only[↓RA,RZ,simprocAttr,hn,b2r,g1,g2]
  exact⟨by congr 1;symm;rw[←eL,kK];simp only[dN];omega,hS2.forget⟩
 ·refine .aI func288 rfl (by kernel_rfl) (m:=42) rfl fun l hn g0 g1=> ?_
  simp(disch:=omega) only[↓RA,RB,simprocAttr,g0]
  refine(sR H).eNew 4 [(.string o.name),o.rv,o.dv,o.cv] rfl rfl (by simp[OC,((sR H).sl ho.1).cells.2.1,((sR H).sl ho.2.2.1).cells.2.1,((sR H).sl ho.2.2.2.2.1).cells.2.1]) lP fun A1 H1 hS1=> ?_
  simp only[RT]at hS1
  simp(disch:=omega) only[↓RA,RB,simprocAttr,g1]
  refine hS1.eNew 2 [I d,I z] rfl rfl rfl kY fun A2 H2 hS2=> ?_
  simp only[RT]at hS2
  simp(disch:=omega) only[↓RA,RB,simprocAttr]
  refine Wp.drw jZ (by kernel_rfl) ?_
  simp(disch:=omega) only[↓RA,RZ,simprocAttr,hn,hS2.ld 1 rfl]
  refine jH (fun g1=> ?_) (fun g1=> ?_)
  ·exfalso;first|omega|(simp at g1;omega)
  simp(disch:=omega) only[↓RA,RZ,simprocAttr,hn,b2r,g1]
  exact⟨by congr 1;symm;rw[←eL,kK];simp only;omega,hS2.forget⟩
theorem b1K(o:Org)(ho:o.In H)(c:Ct):Fn prog 288 [.agg #[.string o.name,o.rv,o.dv,o.cv],.agg #[I c.1,I c.2]] H fun r H'=>r=.bool (kV o c)∧St prog H H' []:=c5S o ho c.1 c.2
def a7l(o:Org)(ks:List Nt)(i n:Nat):List Ct:=((List.range n).filter fun(j:Nat)=>nG (iB ks i) ((iB o.dvs i).lo+(j:Int))).map fun(j:Nat)=>((i:Int),(iB o.dvs i).lo+(j:Int))
theorem b3s(o:Org)(ks:List Nt)(i n:Nat):a7l o ks i (n+1)=a7l o ks i n++(if nG (iB ks i) ((iB o.dvs i).lo+(n:Int))then[((i:Int),(iB o.dvs i).lo+(n:Int))]else[]):=by
 unfold a7l
 rw[ec,eS,dT]
 congr 1
 cases h:nG (iB ks i) ((iB o.dvs i).lo+(n:Int))<;>simp[h]
theorem b2z(o:Org)(ks:List Nt)(i n:Nat):(a7l o ks i n).length≤n:=by
 unfold a7l
 rw[eu]
 exact dE (eo _ _) (by simp)
theorem a7K{o:Org}(hf:o.Fine)(ks:List Nt):∀i,i≤o.dvs.length→((List.range i).flatMap (a3n o ks)).length≤i*128
 | 0,_=>by simp
 | i+1,h=>by
   have h1:=a7K hf ks i (by omega)
   have h2:=b2z o ks i ((iB o.dvs i).hi-(iB o.dvs i).lo+1).toNat
   have hk:=hf.keys i (by omega)
   have h3:(a3n o ks i).length≤128:=dE h2 (by omega)
   rw[ec,dF,dq,dD,ez,dr]
   omega
theorem a7k(o:Org)(ho:o.In H)(hf:o.Fine)(kv:Value)(ks:List Nt)(hk:Ks H kv ks)(hl:ks.length=o.dvs.length):
 Fn prog 268 [.agg #[.string o.name,o.rv,o.dv,o.cv],kv] H fun r H'=>St prog H H' [⟨r,2,pr (b1o o ks)⟩]:=by
 have hd8:=hf.dlen
 refine .aI func268 rfl (by kernel_rfl) (m:=55) rfl fun l hn g0 g1=> ?_
 simp(disch:=omega) only[↓RA,RB,simprocAttr,g0]
 refine(sR H).eNew 4 [(.string o.name),o.rv,o.dv,o.cv] rfl rfl (by simp[OC,((sR H).sl ho.1).cells.2.1,((sR H).sl ho.2.2.1).cells.2.1,((sR H).sl ho.2.2.2.2.1).cells.2.1]) lP fun A1 H1 hS1=> ?_
 simp only[RT]at hS1
 simp(disch:=omega) only[↓RA,RZ,simprocAttr,hn,hS1.ld 0 rfl,(hS1.sl ho.2.2.1).len]
 have hS2:=hS1.nil 1
 simp only[RT]at hS2
 refine Wp.aq (fun n l H'=>l.length=55∧get l 1=kv∧get l 4=(.slice none 0 0)∧get l 11=o.dv∧get l 12=I o.dvs.length∧∃(i:Nat)(ov:Value),(n+i=o.dvs.length)∧get l 13=I i∧get l 5=ov∧St prog H H' [⟨ptr A1 0 4,0,[(.string o.name),o.rv,o.dv,o.cv]⟩,⟨ov,2,pr ((List.range i).flatMap (a3n o ks))⟩]) o.dvs.length ?_ ?_
 ·simp(disch:=omega) only[RB,RC,simprocAttr,hn,g1]
  exact⟨0,.slice none 0 0,by omega,rfl,rfl,hS2⟩
 rintro n l H2⟨hn,g1,g4,g11,g12,i,ov,hi,g13,g5,hS3⟩
 simp(disch:=omega) only[↓RA,RB,simprocAttr,hn,g12,g13]
 refine iA (fun q=> ?_) (fun q=> ?_)
 ·have hky:=hf.keys i (by omega)
  have hx:=hk.ok _ (iD (xs:=ks) (j:=i) (by omega))
  have hpl:=a7K hf ks i (by omega)
  simp(disch:=omega) only[↓RA,RZ,simprocAttr,hn,g11,g13,(hS3.sl ho.2.2.1).idx,(hS3.sl ho.2.2.1).ai,Dvn.cells,q]
  refine hS3.eNew 5 [(.string ⟨#[]⟩),(.bool false),I 0,I 0,(.slice none 0 0)] rfl rfl rfl xB fun A2 H3 hS4=> ?_
  simp only[RT]at hS4
  simp(disch:=omega) only[↓RA,RZ,simprocAttr,hn,q]
  refine hS4.ae 2 rfl [(.string (iB o.dvs i).name),(.bool (iB o.dvs i).pedal),I (iB o.dvs i).lo,I (iB o.dvs i).hi,(iB o.dvs i).sv] rfl (by simp[OC,(hS4.sl (ho.2.2.2.1 (iB o.dvs i) (iD (by omega))).1).cells.2.1]) xB (by simp) fun H4 hS5=> ?_
  simp only[RT]at hS5
  simp(disch:=omega) only[↓RA,RZ,simprocAttr,hn,hS5.ld 2 rfl,q]
  refine Wp.aq (fun n l H'=>l.length=55∧get l 1=kv∧get l 4=(.slice none 0 0)∧get l 6=I i∧get l 7=(ptr A2 0 5)∧get l 11=o.dv∧get l 12=I o.dvs.length∧get l 13=I i∧∃(j:Nat)(ow:Value),(n+j=((iB o.dvs i).hi-(iB o.dvs i).lo+1).toNat)∧get l 8=I ((iB o.dvs i).lo+j)∧get l 5=ow∧St prog H H' [⟨ptr A1 0 4,0,[(.string o.name),o.rv,o.dv,o.cv]⟩,⟨ow,2,pr ((List.range i).flatMap (a3n o ks)++a7l o ks i j)⟩,⟨ptr A2 0 5,0,[(.string (iB o.dvs i).name),(.bool (iB o.dvs i).pedal),I (iB o.dvs i).lo,I (iB o.dvs i).hi,(iB o.dvs i).sv]⟩]) ((iB o.dvs i).hi-(iB o.dvs i).lo+1).toNat ?_ ?_
  ·simp(disch:=omega) only[RB,RC,simprocAttr,hn,g1,g4,g11,g12,g13,g5]
   refine⟨0,ov,by omega,by simp,rfl,?_⟩
   rw[show a7l o ks i 0=[]from rfl,dr]
   exact hS5
  rintro n l H5⟨hn,g1,g4,g6,g7,g11,g12,g13,j,ow,hj,g8,g5,hS6⟩
  simp(disch:=omega) only[↓RA,RZ,simprocAttr,hn,g7,g8,hS6.ld 2 rfl]
  refine iA (fun q2=> ?_) (fun q2=> ?_)
  ·have hsu:=b3s o ks i j
   have hpj:=b2z o ks i j
   obtain⟨m,hm⟩:∃m:Nat,(iB o.dvs i).lo+(j:Int)=m:=⟨((iB o.dvs i).lo+(j:Int)).toNat,by omega⟩
   rw[hm]at hsu
   simp(disch:=omega) only[↓RA,RZ,simprocAttr,hn,g1,g6,g8,(hS6.sl hk.sl).idx,(hS6.sl hk.sl).ba,(hS6.sl hk.sl).ld,ntc,hm]
   refine iA (fun q3=> ?_) (fun q3=> ?_)
   ·have e0:(m:Int).tmod 64=((m-64:Nat):Int):=by rw[show(m:Int).tmod 64=((m%64:Nat):Int)from(ey m 64).symm];omega
    have e1:=a1i (iB ks i).2 (m-64) hx.2
    have e2:=yZ ((iB ks i).2>>>(m-64)) (tX _ hx.2)
    have e3:=tb (iB ks i).2 (m-64)
    have e4:nG (iB ks i) (m:Int)=(iB ks i).2.testBit (m-64):=by unfold nG;rw[if_neg (by omega),show((m:Int)-64).toNat=m-64 by omega]
    simp(disch:=omega) only[↓RA,RZ,simprocAttr,hn,g1,g6,g8,(hS6.sl hk.sl).idx,(hS6.sl hk.sl).ba,(hS6.sl hk.sl).ld,ntc,hm,q3,e0,e1,e2]
    refine iA (fun q4=> ?_) (fun q4=> ?_)
    ·rw[e4,e3,decide_eq_true (by omega),if_pos rfl]at hsu
     simp(disch:=omega) only[↓RA,RZ,simprocAttr,hn,g6,g8,g5,oQ,hm,q3,q4]
     refine hS6.ak [I i,I m] mJ uL rfl rfl (by simp[Value.cells]) rfl rfl (by decide) (by decide) fun w1 H6 hS7=> ?_
     simp only[RT]at hS7
     simp(disch:=omega) only[↓RA,RZ,simprocAttr,hn,hm,q3,q4]
     refine hS7.aw 1 rfl (hS7.rd 3 rfl) mJ (by rw[iI,dq];simp only[dV,eI];omega) fun w2 H7 hS8=> ?_
     simp only[RT]at hS8
     simp(disch:=omega) only[↓RA,RZ,simprocAttr,hn,g1,g4,g6,g7,g11,g12,g13,g8,hm,q3,q4]
     refine⟨n-1,by omega,j+1,w2,by omega,by simp;omega,rfl,?_⟩
     rw[hsu,←eh,jG]
     exact hS8.pick [0,1,2] (by decide) rfl
    rw[e4,e3,decide_eq_false (by omega),if_neg (by simp),dr]at hsu
    simp(disch:=omega) only[↓RA,RZ,simprocAttr,hn,g1,g4,g6,g7,g11,g12,g13,g8,g5,hm,q3,q4]
    refine⟨n-1,by omega,j+1,ow,by omega,by simp;omega,rfl,?_⟩
    rw[hsu]
    exact hS6.pick [0,1,2] (by decide) rfl
   have e0:(m:Int).tmod 64=((m:Nat):Int):=by rw[show(m:Int).tmod 64=((m%64:Nat):Int)from(ey m 64).symm];omega
   have e1:=a1i (iB ks i).1 m hx.1
   have e2:=yZ ((iB ks i).1>>>m) (tX _ hx.1)
   have e3:=tb (iB ks i).1 m
   have e4:nG (iB ks i) (m:Int)=(iB ks i).1.testBit m:=by unfold nG;rw[if_pos (by omega)];rfl
   simp(disch:=omega) only[↓RA,RZ,simprocAttr,hn,g8,hm,q3,e0,e1,e2]
   refine iA (fun q4=> ?_) (fun q4=> ?_)
   ·rw[e4,e3,decide_eq_true (by omega),if_pos rfl]at hsu
    simp(disch:=omega) only[↓RA,RZ,simprocAttr,hn,g6,g8,g5,oQ,hm,q3,q4]
    refine hS6.ak [I i,I m] mJ uL rfl rfl (by simp[Value.cells]) rfl rfl (by decide) (by decide) fun w3 H8 hS9=> ?_
    simp only[RT]at hS9
    simp(disch:=omega) only[↓RA,RZ,simprocAttr,hn,hm,q3,q4]
    refine hS9.aw 1 rfl (hS9.rd 3 rfl) mJ (by rw[iI,dq];simp only[dV,eI];omega) fun w4 H9 hS10=> ?_
    simp only[RT]at hS10
    simp(disch:=omega) only[↓RA,RZ,simprocAttr,hn,g1,g4,g6,g7,g11,g12,g13,g8,hm,q3,q4]
    refine⟨n-1,by omega,j+1,w4,by omega,by simp;omega,rfl,?_⟩
    rw[hsu,←eh,jG]
    exact hS10.pick [0,1,2] (by decide) rfl
   rw[e4,e3,decide_eq_false (by omega),if_neg (by simp),dr]at hsu
   simp(disch:=omega) only[↓RA,RZ,simprocAttr,hn,g1,g4,g6,g7,g11,g12,g13,g8,g5,hm,q3,q4]
   refine⟨n-1,by omega,j+1,ow,by omega,by simp;omega,rfl,?_⟩
   rw[hsu]
   exact hS6.pick [0,1,2] (by decide) rfl
  simp(disch:=omega) only[↓RA,RZ,simprocAttr,hn,g1,g4,g11,g12,g13,g5,q2]
  refine⟨o.dvs.length-(i+1),by omega,i+1,ow,by omega,by simp,rfl,?_⟩
  have hjj:j=((iB o.dvs i).hi-(iB o.dvs i).lo+1).toNat:=by omega
  rw[ec,dF,dD,ez,dr]
  rw[show a3n o ks i=a7l o ks i j from by rw[hjj];rfl]
  exact hS6.pick [0,1] (by decide) rfl
 simp(disch:=omega) only[↓RA,RZ,simprocAttr,hn,g5,c7x,q]
 have hii:i=o.dvs.length:=by omega
 subst hii
 exact hS3.pick [1] (by decide) rfl
end Go.Ds
namespace Go.Ds
open Go.Proofs Go.Proofs.Tryz Go.Shelf Go.RowKit Go.Lib Go.Sort
theorem c3Q(kc:FuncId)(eg:∀args w,(callFunc kc args).run prog w=.ok (.enter kc args) w)(hf:∀x y:Sm,Fn prog kc [.agg #[I x.1.1,I x.1.2],.agg #[I y.1.1,I y.1.2]] .nil fun r H'=>r=I (cfd x y)∧St prog (.nil:Heap) H' []):a0I prog 191 kc sm:=
 fun kL off cap d w hs hH hblk hsz=>by
  have hd:(d.toList.attachWith sm hs).toArray.map (·.1)=d:=by
   rw[List.map_toArray,c0I]
  have hl:(d.toList.attachWith sm hs).toArray.size=d.size:=by simp
  have hH':HoldsK (fun x:Sm=>jL x.1) 2 w kL off (d.toList.attachWith sm hs).toArray:=by
   unfold HoldsK at hH ⊢
   rw[b6G,hd]
   exact hH
  have h:=AnyQ.slices_SortFunc_total Tryz.bn 2 Tryz.isAgg53 Tryz.sizeOf53 (fun x:Sm=>jL x.1) (fun _=>rfl) (fun x=>zO x.1) cfd c5O kc #[] kL off cap (d.toList.attachWith sm hs).toArray w eg (a2I (fun x:Sm=>x.1) cfd hf kL off _ w) hH' hblk (by rw[hl];exact hsz) c5m
  rw[hl]at h
  refine h.mono ?_
  rintro e w'⟨h1,n,os,h2⟩
  exact⟨h1,n,os,by rw[h2,b5i,List.toList_toArray,b7W,c0I]⟩
section
variable {H:Heap}
theorem b9p(x y:Sm):Fn prog 270 [.agg #[I x.1.1,I x.1.2],.agg #[I y.1.1,I y.1.2]] H fun r H'=>r=I (cfd x y)∧St prog H H' []:=by
 obtain⟨⟨x1,x2⟩,hx⟩:=x
 obtain⟨⟨y1,y2⟩,hy⟩:=y
 unfold sm at hx hy
 simp only at hx hy ⊢
 refine .aI func270 rfl (by kernel_rfl) (m:=20) rfl fun l hn g0 g1=> ?_
 simp(disch:=omega) only[↓RA,RB,simprocAttr,g0]
 refine(sR H).eNew 2 [I x1,I x2] rfl rfl rfl kY fun A1 H1 hS1=> ?_
 simp only[RT]at hS1
 simp(disch:=omega) only[↓RA,RB,simprocAttr,g1]
 refine hS1.eNew 2 [I y1,I y2] rfl rfl rfl kY fun A2 H2 hS2=> ?_
 simp only[RT]at hS2
 simp(disch:=omega) only[↓RA,RZ,simprocAttr,hn,hS2.ld 0 rfl,hS2.ld 1 rfl]
 refine iA (fun q=> ?_) (fun q=> ?_)
 ·simp(disch:=omega) only[↓RA,RZ,simprocAttr,hn,hS2.ld 0 rfl,hS2.ld 1 rfl,c2A,q]
  exact⟨by unfold cfd;rw[if_pos q],hS2.forget⟩
 simp(disch:=omega) only[↓RA,RZ,simprocAttr,hn,hS2.ld 0 rfl,hS2.ld 1 rfl,c2A,q]
 exact⟨by unfold cfd;rw[if_neg q],hS2.forget⟩
end
theorem c5Y:b2A 191 270:=fun hS i _ _ ho hl hsm _ h=>vZ (c3Q 270 (enters_of func270 (by kernel_rfl) rfl) fun x y=>b9p x y) c1X c2B hS i ho hl hsm h
end Go.Ds
namespace Go.Ds
open Go.Proofs Go.Proofs.Tryz
variable {H:Heap}
set_option maxRecDepth 10000
set_option maxHeartbeats 1000000
theorem Ct.cT(a b:Ct):(a.1=b.1∧a.2=b.2)↔b=a:=⟨fun h=>fP h.1.symm h.2.symm,fun h=>by rw[h];exact⟨rfl,rfl⟩⟩
theorem b0i(v:Value)(xs:List Ct)(hv:Sl 2 jL H v xs)(hl:xs.length<1000000000)(d:Ct):
 Fn prog 131 [v,.agg #[I d.1,I d.2]] H fun r H'=>r=I (pU (fun j=>decide (iB xs j=d)) xs.length)∧St prog H H' []:=by
 refine .aI func131 rfl (by kernel_rfl) (m:=19) rfl fun l hn g0 g1=> ?_
 simp(disch:=omega) only[↓RA,RB,simprocAttr,g1]
 refine(sR H).eNew 2 [I d.1,I d.2] rfl rfl rfl kY fun A1 H1 hS1=> ?_
 simp only[RT]at hS1
 simp(disch:=omega) only[↓RA,RZ,simprocAttr,hn,g0,(hS1.sl hv).len]
 refine Wp.aq (fun n l H'=>l.length=19∧get l 0=v∧get l 3=(ptr A1 0 2)∧get l 7=I xs.length∧∃(j:Nat),(n+j=xs.length∧∀q,q<j→decide (iB xs q=d)=false)∧get l 8=I j∧St prog H H' [⟨ptr A1 0 2,0,[I d.1,I d.2]⟩]) xs.length ?_ ?_
 ·simp(disch:=omega) only[RB,RC,simprocAttr,hn,g0]
  exact⟨0,⟨by omega,fun q hq=>absurd hq (dM _)⟩,rfl,hS1⟩
 rintro n l H2⟨hn,g0,g3,g7,j,⟨hi,h0⟩,g8,hS2⟩
 simp(disch:=omega) only[↓RA,RB,simprocAttr,hn,g7,g8]
 refine iA (fun h=> ?_) (fun h=> ?_)
 ·simp(disch:=omega) only[↓RA,RZ,simprocAttr,hn,g8,h]
  refine Wp.drw jZ (by kernel_rfl) ?_
  simp(disch:=omega) only[↓RA,RZ,simprocAttr,hn,g0,g3,hS2.ai 0 rfl,(hS2.sl hv).idx,(hS2.sl hv).ai,jL]
  refine iA (fun hp=> ?_) (fun hp=> ?_)
  ·simp(disch:=omega) only[↓RA,RZ,simprocAttr,hn,c2a,hp]
   exact⟨by rw[yU _ xs.length j (by omega) (by simpa using(Ct.cT _ _).1 hp) h0],hS2.forget⟩
  simp(disch:=omega) only[↓RA,RZ,simprocAttr,hn,g0,g3,g7,g8,hp]
  exact⟨n-1,by omega,j+1,⟨by omega,fun q hq=>by rcases dw.1 hq with e|e;(· exact h0 q e);(· rw[e];simpa using fun hh=>hp ((Ct.cT _ _).2 hh))⟩,by simp,hS2⟩
 simp(disch:=omega) only[↓RA,RZ,simprocAttr,hn,c2a,h]
 exact⟨by rw[zT _ xs.length fun q hq=>h0 q (by omega)],hS2.forget⟩
theorem a2F(v:Value)(xs:List Ct)(hv:Sl 2 jL H v xs)(hl:xs.length<1000000000)(d:Ct):
 Fn prog 81 [v,.agg #[I d.1,I d.2]] H fun r H'=>r=.bool (decide (d∈xs))∧St prog H H' []:=by
 have e:decide (0≤pU (fun j=>decide (iB xs j=d)) xs.length)=decide (d∈xs):=by
  rw[eH,decide_eq_true_iff,decide_eq_true_iff,zB]
  constructor
  ·rintro⟨j,hj,hp⟩
   rw[←of_decide_eq_true hp];exact iD hj
  ·intro hx
   obtain⟨j,hj,rfl⟩:=dL.1 hx
   exact⟨j,hj,by rw[jM xs j hj];simp⟩
 refine .aI func81 rfl (by kernel_rfl) (m:=9) rfl fun l hn g0 g1=> ?_
 simp(disch:=omega) only[↓RA,RB,simprocAttr,g1]
 refine(sR H).eNew 2 [I d.1,I d.2] rfl rfl rfl kY fun A1 H1 hS1=> ?_
 simp only[RT]at hS1
 simp(disch:=omega) only[↓RA,RZ,simprocAttr,hn,g0,hS1.ai 0 rfl]
 refine hS1.cF (b0i v xs (hS1.sl hv) hl d) fun H2 hS2=> ?_
 simp(disch:=omega) only[↓RA,RB,simprocAttr,hn,c8T]
 rw[←e]
 first|exact hS2.forget|exact⟨rfl,hS2.forget⟩
theorem a8t{B:Base}(o:Org)(r:Reg)(sv:Value)(c:Ct)(thr:Bool)(AO AR AQ:Nat)(qv:Value)(q:List Ct)
 (hS:St prog B H [⟨ptr AQ 0 1,0,[qv]⟩,⟨qv,2,pr q⟩])
 (hO:∀{H1:Heap}{os:List Ob},St prog B H1 os→Var H1 AO 4 [.string o.name,o.rv,o.dv,o.cv]∧o.In H1∧Var H1 AR 3 [sv,.int .u64 r.cpl,.int .u64 r.off])
 (hq:Que o q) (ho:o.Fine) (hr:r.Ok):
 Fn prog 287 [.agg #[I c.1,I c.2],.bool thr,ptr AO 0 4,ptr AR 0 3,ptr AQ 0 1] H fun rr H'=>∃qv',rr=.tuple #[]∧
  St prog B H' [⟨ptr AQ 0 1,0,[qv']⟩,⟨qv',2,pr (stepF o r.cpl thr c q)⟩]:=by
 have hcl:=ho.clen
 refine .cU func287 rfl (by kernel_rfl) (m:=64) rfl fun l hn g0 g1 g2 g3 g4=> ?_
 simp(disch:=omega) only[↓RA,RB,simprocAttr,g0]
 refine hS.eNew 2 [I c.1,I c.2] rfl rfl rfl kY fun A1 H1 hS1=> ?_
 simp only[RT]at hS1
 simp(disch:=omega) only[↓RA,RZ,simprocAttr,hn,g2,((hO hS1).1).ld,((hO hS1).2.1.2.2.2.2.1).len]
 refine Wp.aq (fun n l H'=>l.length=64∧get l 1=(.bool thr)∧get l 2=(ptr AO 0 4)∧get l 3=(ptr AR 0 3)∧get l 4=(ptr AQ 0 1)∧get l 5=(ptr A1 0 2)∧get l 11=o.cv∧get l 12=I o.cpls.length∧∃(i:Nat)(qv':Value),(n+i=o.cpls.length)∧get l 13=I i∧St prog B H' [⟨ptr AQ 0 1,0,[qv']⟩,⟨qv',2,pr (stepN o r.cpl thr c q i)⟩,⟨ptr A1 0 2,0,[I c.1,I c.2]⟩]) o.cpls.length ?_ ?_
 ·simp(disch:=omega) only[RB,RC,simprocAttr,hn,g1,g2,g3,g4]
  exact⟨0,qv,by omega,rfl,hS1⟩
 rintro n l H2⟨hn,g1,g2,g3,g4,g5,g11,g12,i,qv',hi,g13,hS2⟩
 simp(disch:=omega) only[↓RA,RB,simprocAttr,hn,g12,g13]
 refine iA (fun q1=> ?_) (fun q1=> ?_)
 ·have hql:(stepN o r.cpl thr c q i).length≤1024:=(hq.stepN r.cpl thr c i).len ho
  have e1:=a1i r.cpl i hr.2.2.1
  have e2:=yZ (r.cpl>>>i) (tX i hr.2.2.1)
  have e3:=tb r.cpl i
  have hstay:(rN r.cpl thr c (iB o.cpls i) i&&kV o (to1 (iB o.cpls i) c)&& !decide (to1 (iB o.cpls i) c∈stepN o r.cpl thr c q i))=false→stepN o r.cpl thr c q (i+1)=stepN o r.cpl thr c q i:=fun h=>by
   rw[lI,step1,if_neg (by rw[h];simp)]
  simp(disch:=omega) only[↓RA,RZ,simprocAttr,hn,g11,g13,((hO hS2).2.1.2.2.2.2.1).idx,((hO hS2).2.1.2.2.2.2.1).ai,Cpl.cells,q1]
  refine hS2.eNew 5 [(.string ⟨#[]⟩),I 0,I 0,I 0,(.bool false)] rfl rfl rfl uN fun A2 H3 hS3=> ?_
  simp only[RT]at hS3
  simp(disch:=omega) only[↓RA,RZ,simprocAttr,hn,q1]
  refine hS3.ae 3 rfl [(.string (iB o.cpls i).name),I (iB o.cpls i).src,I (iB o.cpls i).dst,I (iB o.cpls i).shift,(.bool (iB o.cpls i).thr)] rfl rfl uN (by simp) fun H4 hS4=> ?_
  simp only[RT]at hS4
  simp(disch:=omega) only[↓RA,RZ,simprocAttr,hn,g5,hS4.ld 3 rfl,hS4.ld 2 rfl,q1]
  simp(disch:=omega) only[↓RA,RZ,simprocAttr,oQ]
  refine hS4.eNew 2 [I 0,I 0] rfl rfl rfl kY fun A3 H5 hS5=> ?_
  simp only[RT]at hS5
  simp(disch:=omega) only[↓RA,RZ,simprocAttr,hn,q1]
  refine hS5.ae 4 rfl [I (iB o.cpls i).dst,I (nF (c.2+(iB o.cpls i).shift))] rfl rfl kY (by simp) fun H6 hS6=> ?_
  simp only[RT]at hS6
  simp(disch:=omega) only[↓RA,RZ,simprocAttr,hn,g3,((hO hS6).2.2).ld,q1,e1,e2]
  refine jH (fun b1=> ?_) (fun b1=> ?_)
  ·have hb:r.cpl.testBit i=true:=by rw[e3];exact decide_eq_true (by omega)
   simp(disch:=omega) only[↓RA,RZ,simprocAttr,hn,g5,hS6.ld 3 rfl,hS6.ld 2 rfl,q1,b1]
   refine jH (fun b2=> ?_) (fun b2=> ?_)
   ·have hsrc:(iB o.cpls i).src=c.1:=by omega
    have hgg:rN r.cpl thr c (iB o.cpls i) i=(!thr||(iB o.cpls i).thr):=by unfold rN;rw[hb,decide_eq_true hsrc];rfl
    simp(disch:=omega) only[↓RA,RZ,simprocAttr,hn,hS6.ld 3 rfl,q1,b1,b2]
    refine pL (fun b3=> ?_) (fun b3=> ?_)
    ·have hg:rN r.cpl thr c (iB o.cpls i) i=true:=by rw[hgg,b3];simp
     simp(disch:=omega) only[↓RA,RZ,simprocAttr,hn,g2,((hO hS6).1).ai,hS6.ai 4 rfl,q1,b1,b2,b3]
     refine hS6.cF (b1K o (hO hS6).2.1 ((iB o.cpls i).dst,nF (c.2+(iB o.cpls i).shift))) fun H7 hS7=> ?_
     simp(disch:=omega) only[↓RA,RZ,simprocAttr,hn,q1,b1,b2,b3]
     refine pL (fun b5=> ?_) (fun b5=> ?_)
     ·simp(disch:=omega) only[↓RA,RZ,simprocAttr,hn,g4,hS7.ld 0 rfl,hS7.ai 4 rfl,q1,b1,b2,b3,b5]
      refine hS7.cF (a2F qv' (stepN o r.cpl thr c q i) (hS7.ay 1 rfl (fun _=>rfl)) (by omega) ((iB o.cpls i).dst,nF (c.2+(iB o.cpls i).shift))) fun H8 hS8=> ?_
      simp(disch:=omega) only[↓RA,RZ,simprocAttr,hn,q1,b1,b2,b3,b5]
      refine jO (fun b6=> ?_) (fun b6=> ?_)
      ·have hs:stepN o r.cpl thr c q (i+1)=stepN o r.cpl thr c q i++[((iB o.cpls i).dst,nF (c.2+(iB o.cpls i).shift))]:=by
        rw[lI]
        unfold step1
        have hnot:((iB o.cpls i).dst,nF (c.2+(iB o.cpls i).shift))∉stepN o r.cpl thr c q i:=by simpa using b6
        rw[if_pos (by rw[hg];simp only[to1,b5];simp[hnot])]
        rfl
       simp(disch:=omega) only[↓RA,RZ,simprocAttr,hn,g4,hS8.ld 0 rfl,hS8.ai 4 rfl,q1,b1,b2,b3,b5,b6]
       refine hS8.ak [I (iB o.cpls i).dst,I (nF (c.2+(iB o.cpls i).shift))] mJ uL rfl rfl (by simp[Value.cells]) rfl rfl (by decide) (by decide) fun w1 H9 hS9=> ?_
       simp only[RT]at hS9
       simp(disch:=omega) only[↓RA,RZ,simprocAttr,hn,q1,b1,b2,b3,b5,b6]
       refine hS9.aw 1 rfl (hS9.rd 5 rfl) mJ (by rw[iI];simp;omega) fun w2 H10 hS10=> ?_
       simp only[RT]at hS10
       simp(disch:=omega) only[↓RA,RZ,simprocAttr,hn,g4,q1,b1,b2,b3,b5,b6]
       refine hS10.ae 0 rfl [w2] (by rw[(hS10.rd 1 rfl).cells.1]) (by simp[(hS10.rd 1 rfl).cells.2.1]) a2Z (by simp) fun H11 hS11=> ?_
       simp only[RT]at hS11
       simp(disch:=omega) only[↓RA,RZ,simprocAttr,hn,g1,g2,g3,g4,g5,g11,g12,g13,q1,b1,b2,b3,b5,b6]
       refine⟨n-1,by omega,i+1,w2,by omega,by simp,?_⟩
       rw[hs,jG]
       exact hS11.pick [0,1,2] (by decide) rfl
      have hin:((iB o.cpls i).dst,nF (c.2+(iB o.cpls i).shift))∈stepN o r.cpl thr c q i:=by simpa using b6
      have hs:=hstay (by simp only[to1];simp[hin])
      simp(disch:=omega) only[↓RA,RZ,simprocAttr,hn,g1,g2,g3,g4,g5,g11,g12,g13,q1,b1,b2,b3,b5,b6]
      exact⟨n-1,by omega,i+1,qv',by omega,by simp,by rw[hs];exact hS8.pick [0,1,2] (by decide) rfl⟩
     have hs:=hstay (by rw[eO,eO];exact .inl (.inr (by simpa [to1]using b5)))
     simp(disch:=omega) only[↓RA,RZ,simprocAttr,hn,g1,g2,g3,g4,g5,g11,g12,g13,q1,b1,b2,b3,b5]
     exact⟨n-1,by omega,i+1,qv',by omega,by simp,by rw[hs];exact hS7.pick [0,1,2] (by decide) rfl⟩
    simp(disch:=omega) only[↓RA,RZ,simprocAttr,hn,g1,q1,b1,b2,b3]
    refine pL (fun b4=> ?_) (fun b4=> ?_)
    ·have hg:rN r.cpl thr c (iB o.cpls i) i=true:=by
      have:thr=false:=by simpa using b4
      rw[hgg,this];rfl
     simp(disch:=omega) only[↓RA,RZ,simprocAttr,hn,g2,((hO hS6).1).ai,hS6.ai 4 rfl,q1,b1,b2,b3,b4]
     refine hS6.cF (b1K o (hO hS6).2.1 ((iB o.cpls i).dst,nF (c.2+(iB o.cpls i).shift))) fun H12 hS12=> ?_
     simp(disch:=omega) only[↓RA,RZ,simprocAttr,hn,q1,b1,b2,b3,b4]
     refine pL (fun b5=> ?_) (fun b5=> ?_)
     ·simp(disch:=omega) only[↓RA,RZ,simprocAttr,hn,g4,hS12.ld 0 rfl,hS12.ai 4 rfl,q1,b1,b2,b3,b4,b5]
      refine hS12.cF (a2F qv' (stepN o r.cpl thr c q i) (hS12.ay 1 rfl (fun _=>rfl)) (by omega) ((iB o.cpls i).dst,nF (c.2+(iB o.cpls i).shift))) fun H13 hS13=> ?_
      simp(disch:=omega) only[↓RA,RZ,simprocAttr,hn,q1,b1,b2,b3,b4,b5]
      refine jO (fun b6=> ?_) (fun b6=> ?_)
      ·have hs:stepN o r.cpl thr c q (i+1)=stepN o r.cpl thr c q i++[((iB o.cpls i).dst,nF (c.2+(iB o.cpls i).shift))]:=by
        rw[lI]
        unfold step1
        have hnot:((iB o.cpls i).dst,nF (c.2+(iB o.cpls i).shift))∉stepN o r.cpl thr c q i:=by simpa using b6
        rw[if_pos (by rw[hg];simp only[to1,b5];simp[hnot])]
        rfl
       simp(disch:=omega) only[↓RA,RZ,simprocAttr,hn,g4,hS13.ld 0 rfl,hS13.ai 4 rfl,q1,b1,b2,b3,b4,b5,b6]
       refine hS13.ak [I (iB o.cpls i).dst,I (nF (c.2+(iB o.cpls i).shift))] mJ uL rfl rfl (by simp[Value.cells]) rfl rfl (by decide) (by decide) fun w3 H14 hS14=> ?_
       simp only[RT]at hS14
       simp(disch:=omega) only[↓RA,RZ,simprocAttr,hn,q1,b1,b2,b3,b4,b5,b6]
       refine hS14.aw 1 rfl (hS14.rd 5 rfl) mJ (by rw[iI];simp;omega) fun w4 H15 hS15=> ?_
       simp only[RT]at hS15
       simp(disch:=omega) only[↓RA,RZ,simprocAttr,hn,g4,q1,b1,b2,b3,b4,b5,b6]
       refine hS15.ae 0 rfl [w4] (by rw[(hS15.rd 1 rfl).cells.1]) (by simp[(hS15.rd 1 rfl).cells.2.1]) a2Z (by simp) fun H16 hS16=> ?_
       simp only[RT]at hS16
       simp(disch:=omega) only[↓RA,RZ,simprocAttr,hn,g1,g2,g3,g4,g5,g11,g12,g13,q1,b1,b2,b3,b4,b5,b6]
       refine⟨n-1,by omega,i+1,w4,by omega,by simp,?_⟩
       rw[hs,jG]
       exact hS16.pick [0,1,2] (by decide) rfl
      have hin:((iB o.cpls i).dst,nF (c.2+(iB o.cpls i).shift))∈stepN o r.cpl thr c q i:=by simpa using b6
      have hs:=hstay (by simp only[to1];simp[hin])
      simp(disch:=omega) only[↓RA,RZ,simprocAttr,hn,g1,g2,g3,g4,g5,g11,g12,g13,q1,b1,b2,b3,b4,b5,b6]
      exact⟨n-1,by omega,i+1,qv',by omega,by simp,by rw[hs];exact hS13.pick [0,1,2] (by decide) rfl⟩
     have hs:=hstay (by rw[eO,eO];exact .inl (.inr (by simpa [to1]using b5)))
     simp(disch:=omega) only[↓RA,RZ,simprocAttr,hn,g1,g2,g3,g4,g5,g11,g12,g13,q1,b1,b2,b3,b4,b5]
     exact⟨n-1,by omega,i+1,qv',by omega,by simp,by rw[hs];exact hS12.pick [0,1,2] (by decide) rfl⟩
    have h4:thr=true:=by simpa using b4
    have h3:(iB o.cpls i).thr=false:=by simpa using b3
    have hs:=hstay (by rw[hgg,h4,h3];rfl)
    simp(disch:=omega) only[↓RA,RZ,simprocAttr,hn,g1,g2,g3,g4,g5,g11,g12,g13,q1,b1,b2,b3,b4]
    exact⟨n-1,by omega,i+1,qv',by omega,by simp,by rw[hs];exact hS6.pick [0,1,2] (by decide) rfl⟩
   have hs:=hstay (by unfold rN;rw[decide_eq_false (by omega)];simp)
   simp(disch:=omega) only[↓RA,RZ,simprocAttr,hn,g1,g2,g3,g4,g5,g11,g12,g13,q1,b1,b2]
   exact⟨n-1,by omega,i+1,qv',by omega,by simp,by rw[hs];exact hS6.pick [0,1,2] (by decide) rfl⟩
  have hs:=hstay (by unfold rN;rw[e3,decide_eq_false (by omega)];rfl)
  simp(disch:=omega) only[↓RA,RZ,simprocAttr,hn,g1,g2,g3,g4,g5,g11,g12,g13,q1,b1]
  exact⟨n-1,by omega,i+1,qv',by omega,by simp,by rw[hs];exact hS6.pick [0,1,2] (by decide) rfl⟩
 simp(disch:=omega) only[↓RA,RZ,simprocAttr,c5h,q1]
 have hii:i=o.cpls.length:=by omega
 subst hii
 exact⟨qv',hS2.pick [0,1] (by decide) rfl⟩
theorem a5B(o:Org)(ho:o.In H)(hf:o.Fine)(r:Reg)(sv:Value)(hr:r.In H sv)(fv:Value)(first:List Ct)(hfi:Sl 2 jL H fv first)(hfl:first.length≤1024):
 Fn prog 269 [.agg #[.string o.name,o.rv,o.dv,o.cv],.agg #[sv,.int .u64 r.cpl,.int .u64 r.off],fv] H fun rr H'=>St prog H H' [⟨rr,2,pr (bfs o r.cpl 1100 0 (kI o r.cpl first))⟩]:=by
 refine .bg func269 rfl (by kernel_rfl) (m:=36) rfl fun l hn g0 g1 g2=> ?_
 simp(disch:=omega) only[↓RA,RB,simprocAttr,g0]
 refine(sR H).eNew 4 [(.string o.name),o.rv,o.dv,o.cv] rfl rfl (by simp[OC,((sR H).sl ho.1).cells.2.1,((sR H).sl ho.2.2.1).cells.2.1,((sR H).sl ho.2.2.2.2.1).cells.2.1]) lP fun A1 H1 hS1=> ?_
 simp only[RT]at hS1
 simp(disch:=omega) only[↓RA,RB,simprocAttr,g1]
 refine hS1.eNew 3 [sv,(.int .u64 r.cpl),(.int .u64 r.off)] rfl rfl (by simp[OC,(hS1.sl hr.1).cells.2.1]) mK fun A2 H2 hS2=> ?_
 simp only[RT]at hS2
 simp(disch:=omega) only[↓RA,RZ,simprocAttr]
 refine hS2.eNew 1 [(.slice none 0 0)] rfl rfl rfl a2Z fun A3 H3 hS3=> ?_
 simp only[RT]at hS3
 simp(disch:=omega) only[↓RA,RZ,simprocAttr,hn,g2,(hS3.sl hfi).len]
 have hS4:=hS3.nil 1
 simp only[RT]at hS4
 refine Wp.aq (fun n l H'=>l.length=36∧get l 6=(.slice none 0 0)∧get l 7=(ptr A3 0 1)∧get l 8=(.func (.func 287) #[] #[(ptr A1 0 4),(ptr A2 0 3),(ptr A3 0 1)])∧get l 13=fv∧get l 14=I first.length∧∃(i:Nat)(qv:Value),(n+i=first.length)∧get l 15=I i∧St prog H H' [⟨ptr A1 0 4,0,[(.string o.name),o.rv,o.dv,o.cv]⟩,⟨ptr A2 0 3,0,[sv,(.int .u64 r.cpl),(.int .u64 r.off)]⟩,⟨ptr A3 0 1,0,[qv]⟩,⟨qv,2,pr (kI o r.cpl (first.take i))⟩]) first.length ?_ ?_
 ·simp(disch:=omega) only[RB,RC,simprocAttr,hn]
  refine⟨0,.slice none 0 0,by omega,rfl,?_⟩
  rw[show kI o r.cpl (first.take 0)=[]from rfl]
  exact hS4
 rintro n l H4⟨hn,g6,g7,g8,g13,g14,i,qv,hi,g15,hS5⟩
 simp(disch:=omega) only[↓RA,RB,simprocAttr,hn,g14,g15]
 refine iA (fun q1=> ?_) (fun q1=> ?_)
 ·have hqu:=oC o r.cpl (first.take i)
  have hqs:=a1n o r.cpl first i (by omega)
  simp(disch:=omega) only[↓RA,RZ,simprocAttr,hn,g13,g15,(hS5.sl hfi).idx,(hS5.sl hfi).ai,jL,q1]
  refine hS5.eNew 2 [I 0,I 0] rfl rfl rfl kY fun A4 H5 hS6=> ?_
  simp only[RT]at hS6
  simp(disch:=omega) only[↓RA,RZ,simprocAttr,hn,q1]
  refine hS6.ae 4 rfl [I (iB first i).1,I (iB first i).2] rfl rfl kY (by simp) fun H6 hS7=> ?_
  simp only[RT]at hS7
  simp(disch:=omega) only[↓RA,RZ,simprocAttr,hn,g8,hS7.ai 4 rfl,q1]
  have hM1:=hS7.pick (os':=[⟨ptr A3 0 1,0,_⟩,⟨qv,2,_⟩]) [2,3] (by decide) rfl
  have hR1:=hS7.pick (os':=[⟨ptr A3 0 1,0,_⟩,⟨qv,2,_⟩,⟨ptr A1 0 4,0,_⟩,⟨ptr A2 0 3,0,_⟩,⟨ptr A4 0 2,0,_⟩]) [2,3,0,1,4] (by decide) rfl
  refine iG (a8t o r sv (iB first i) false A1 A2 A3 qv (kI o r.cpl (first.take i)) hM1.aF (fun h=>⟨(hR1.frame h.forget).var 0 rfl,ho.ag (hR1.frame h.forget),(hR1.frame h.forget).var 1 rfl⟩) hqu hf hr.2) ?_
  rintro r H7⟨qv',rfl,hT1⟩
  have hS8:=hR1.frame hT1
  simp only[RT]at hS8
  simp(disch:=omega) only[↓RA,RZ,simprocAttr,hn,g6,g7,g8,g13,g14,g15,q1]
  refine⟨n-1,by omega,i+1,qv',by omega,by simp,?_⟩
  rw[hqs]
  exact hS8.pick [2,3,0,1] (by decide) rfl
 simp(disch:=omega) only[↓RA,RZ,simprocAttr,q1]
 have hii:i=first.length:=by omega
 subst hii
 rw[ee]at hS5
 have hqu:=oC o r.cpl first
 refine Wp.aq (fun n l H'=>l.length=36∧get l 6=(.slice none 0 0)∧get l 7=(ptr A3 0 1)∧get l 8=(.func (.func 287) #[] #[(ptr A1 0 4),(ptr A2 0 3),(ptr A3 0 1)])∧∃(j:Nat)(qv:Value)(q:List Ct),(n+j=1100∧bfs o r.cpl n j q=bfs o r.cpl 1100 0 (kI o r.cpl first)∧Que o q)∧get l 11=I j∧St prog H H' [⟨ptr A1 0 4,0,[(.string o.name),o.rv,o.dv,o.cv]⟩,⟨ptr A2 0 3,0,[sv,(.int .u64 r.cpl),(.int .u64 r.off)]⟩,⟨ptr A3 0 1,0,[qv]⟩,⟨qv,2,pr q⟩]) 1100 ?_ ?_
 ·simp(disch:=omega) only[RB,RC,simprocAttr,hn,g6,g7,g8]
  exact⟨0,qv,_,⟨rfl,rfl,hqu⟩,rfl,hS5⟩
 rintro n l H8⟨hn,g6,g7,g8,j,qv,q,⟨hj,hbf,hqq⟩,g11,hS9⟩
 have hql:=hqq.len hf
 simp(disch:=omega) only[↓RA,RZ,simprocAttr,hn,g7,g11,hS9.ld 2 rfl,(hS9.ay 3 rfl (fun _=>rfl)).len]
 refine iA (fun q3=> ?_) (fun q3=> ?_)
 ·have hjl:j<q.length:=by omega
  simp(disch:=omega) only[↓RA,RZ,simprocAttr,hn,g7,g8,g11,hS9.ld 2 rfl,(hS9.ay 3 rfl (fun _=>rfl)).idx,(hS9.ay 3 rfl (fun _=>rfl)).ai,jL,q3]
  have hM2:=hS9.pick (os':=[⟨ptr A3 0 1,0,_⟩,⟨qv,2,_⟩]) [2,3] (by decide) rfl
  have hR2:=hS9.pick (os':=[⟨ptr A3 0 1,0,_⟩,⟨qv,2,_⟩,⟨ptr A1 0 4,0,_⟩,⟨ptr A2 0 3,0,_⟩]) [2,3,0,1] (by decide) rfl
  refine iG (a8t o r sv (iB q j) true A1 A2 A3 qv q hM2.aF (fun h=>⟨(hR2.frame h.forget).var 0 rfl,ho.ag (hR2.frame h.forget),(hR2.frame h.forget).var 1 rfl⟩) hqq hf hr.2) ?_
  rintro r H9⟨qv',rfl,hT2⟩
  have hS10:=hR2.frame hT2
  simp only[RT]at hS10
  simp(disch:=omega) only[↓RA,RZ,simprocAttr,hn,g6,g7,g8,g11,q3]
  obtain⟨n',rfl⟩:∃n',n=n'+1:=⟨n-1,by omega⟩
  rw[bfs,if_pos hjl]at hbf
  exact⟨n',by omega,j+1,qv',_,⟨by omega,hbf,hqq.stepF _ _ _⟩,by simp,hS10.pick [2,3,0,1] (by decide) rfl⟩
 have hbq:bfs o r.cpl 1100 0 (kI o r.cpl first)=q:=by
  rw[←hbf]
  cases n with
  | zero=>rfl
  | succ n=>rw[bfs,if_neg (by omega)]
 simp(disch:=omega) only[↓RA,RZ,simprocAttr,hn,g7,hS9.ld 2 rfl,c5c,q3]
 rw[hbq]
 exact hS9.pick [3] (by decide) rfl
theorem a7V{o:Org}{r:Reg}{l q:List Ct}(hq:Que o q)(hl:∀c∈l,kV o c=true):Que o (l.foldl (sX r) q):=
 ⟨yC hq.1,fun c hc=>by
  rcases a3o.1 hc with h|h
  ·exact hq.2 c h
  ·exact hl c h.1⟩
theorem c3u{o:Org}(hf:o.Fine){q:List Ct}(hq:Que o q):∀x∈q,sm x:=fun x hx=>by
 have:=vX hf (hq.2 x hx)
 unfold sm
 omega
theorem a4a(o:Org)(ho:o.In H)(hf:o.Fine)(rg:Reg)(sv:Value)(hr:rg.In H sv)(kv:Value)(ks:List Nt)(hk:Ks H kv ks)(h0:mI o ks=0):
 Fn prog 230 [.agg #[.string o.name,o.rv,o.dv,o.cv],.agg #[sv,.int .u64 rg.cpl,.int .u64 rg.off],kv] H fun rr H'=>St prog H H' [⟨rr,2,pr (kA o rg (iF ks))⟩]:=by
 have hkl:=(oH h0).2.1
 have hple:=b9Y hk.ok h0
 have hpll:=qV h0
 have hplc:=pX hk.ok h0
 refine .bg func230 rfl (by kernel_rfl) (m:=46) rfl fun l hn g0 g1 g2=> ?_
 simp(disch:=omega) only[↓RA,RB,simprocAttr,g0]
 refine(sR H).eNew 4 [(.string o.name),o.rv,o.dv,o.cv] rfl rfl (by simp[OC,((sR H).sl ho.1).cells.2.1,((sR H).sl ho.2.2.1).cells.2.1,((sR H).sl ho.2.2.2.2.1).cells.2.1]) lP fun A1 H1 hS1=> ?_
 simp only[RT]at hS1
 simp(disch:=omega) only[↓RA,RB,simprocAttr,g1]
 refine hS1.eNew 3 [sv,(.int .u64 rg.cpl),(.int .u64 rg.off)] rfl rfl (by simp[OC,(hS1.sl hr.1).cells.2.1]) mK fun A2 H2 hS2=> ?_
 simp only[RT]at hS2
 simp(disch:=omega) only[↓RA,RZ,simprocAttr,hn,g2,hS2.ai 0 rfl]
 refine iG ((a7k o (ho.ag hS2) hf kv ks (hk.ag hS2) hkl).tr) ?_
 rintro r H3⟨-,hT1⟩
 have hS3:=hS2.trans hT1
 simp only[RT]at hS3
 obtain⟨pv,rfl⟩:∃w,w=r:=⟨r,rfl⟩
 rw[hple]at hS3
 simp(disch:=omega) only[↓RA,RZ,simprocAttr,hn,hS3.ai 0 rfl,hS3.ai 1 rfl]
 refine iG ((a5B o (ho.ag hS3) hf rg sv (hr.ag hS3) pv (iF ks) (hS3.ay 2 rfl jR) hpll).tr) ?_
 rintro r H4⟨-,hT2⟩
 have hS4:=hS3.trans hT2
 simp only[RT]at hS4
 obtain⟨qv,rfl⟩:∃w,w=r:=⟨r,rfl⟩
 have hQ:=a6h rg.cpl 1100 0 _ (xS o rg.cpl (iF ks))
 have hfin:b6k o rg (iF ks)=pG ((iF ks).foldl (sX rg) (bfs o rg.cpl 1100 0 (kI o rg.cpl (iF ks)))):=rfl
 rw[b6u]at hfin
 rw[hfin]
 clear hfin
 simp(disch:=omega) only[↓RA,RZ,simprocAttr,hn,(hS4.ay 2 rfl jR).len]
 refine Wp.aq (fun n l H'=>l.length=46∧get l 4=(ptr A2 0 3)∧get l 6=(.slice none 0 0)∧get l 18=pv∧get l 19=I (iF ks).length∧∃(i:Nat)(ov:Value),(n+i=(iF ks).length)∧get l 20=I i∧get l 8=ov∧St prog H H' [⟨ptr A1 0 4,0,[(.string o.name),o.rv,o.dv,o.cv]⟩,⟨ptr A2 0 3,0,[sv,(.int .u64 rg.cpl),(.int .u64 rg.off)]⟩,⟨pv,2,pr (iF ks)⟩,⟨ov,2,pr (((iF ks).take i).foldl (sX rg) (bfs o rg.cpl 1100 0 (kI o rg.cpl (iF ks))))⟩]) (iF ks).length ?_ ?_
 ·simp(disch:=omega) only[RB,RC,simprocAttr,hn]
  exact⟨0,qv,by omega,rfl,rfl,hS4⟩
 rintro n l H5⟨hn,g4,g6,g18,g19,i,ov,hi,g20,g8,hS5⟩
 simp(disch:=omega) only[↓RA,RB,simprocAttr,hn,g19,g20]
 refine iA (fun q1=> ?_) (fun q1=> ?_)
 ·have hci:=(kK o _).1 (hplc _ (iD (xs:=iF ks) (j:=i) (by omega)))
  have hqi:Que o (((iF ks).take i).foldl (sX rg) (bfs o rg.cpl 1100 0 (kI o rg.cpl (iF ks)))):=a7V hQ fun c hc=>hplc c (fX hc)
  have hql:=hqi.len hf
  have hsu:((iF ks).take (i+1)).foldl (sX rg) (bfs o rg.cpl 1100 0 (kI o rg.cpl (iF ks)))=sX rg (((iF ks).take i).foldl (sX rg) (bfs o rg.cpl 1100 0 (kI o rg.cpl (iF ks)))) (iB (iF ks) i):=by
   rw[kH _ i (by omega),fC]
   rfl
  generalize ((iF ks).take i).foldl (sX rg) (bfs o rg.cpl 1100 0 (kI o rg.cpl (iF ks)))=Q at*
  have hd8:=hf.dlen
  obtain⟨d,hd⟩:∃d:Nat,(iB (iF ks) i).1.toNat=d:=⟨_,rfl⟩
  have hwd:IntKind.wrap .u64 (iB (iF ks) i).1=((d:Nat):Int):=by rw[mX _ (by omega) (by omega)];omega
  have e1:=a1i rg.off d hr.2.2.2.2
  have e2:=yZ (rg.off>>>d) (tX _ hr.2.2.2.2)
  have e3:=tb rg.off d
  simp(disch:=omega) only[↓RA,RZ,simprocAttr,hn,g18,g20,(hS5.ay 2 rfl jR).idx,(hS5.ay 2 rfl jR).ai,jL,q1]
  refine hS5.eNew 2 [I 0,I 0] rfl rfl rfl kY fun A3 H6 hS6=> ?_
  simp only[RT]at hS6
  simp(disch:=omega) only[↓RA,RZ,simprocAttr,hn,q1]
  refine hS6.ae 4 rfl [I (iB (iF ks) i).1,I (iB (iF ks) i).2] rfl rfl kY (by simp) fun H7 hS7=> ?_
  simp only[RT]at hS7
  simp(disch:=omega) only[↓RA,RZ,simprocAttr,hn,g4,hS7.ld 1 rfl,hS7.ld 4 rfl,q1,e1,e2,hwd]
  refine jH (fun q2=> ?_) (fun q2=> ?_)
  ·have hb:rg.off.testBit (iB (iF ks) i).1.toNat=false:=by rw[hd,e3];exact decide_eq_false (by omega)
   simp(disch:=omega) only[↓RA,RZ,simprocAttr,hn,g8,hS7.ai 4 rfl,q1,q2]
   refine hS7.cF (a2F ov Q (hS7.ay 3 rfl jR) (by omega) (iB (iF ks) i)) fun H8 hS8=> ?_
   simp(disch:=omega) only[↓RA,RZ,simprocAttr,hn,q1,q2]
   refine jO (fun q3=> ?_) (fun q3=> ?_)
   ·have hs:sX rg Q (iB (iF ks) i)=Q++[iB (iF ks) i]:=by unfold sX;rw[if_pos (by rw[hb];simpa using q3)]
    simp(disch:=omega) only[↓RA,RZ,simprocAttr,hn,g8,hS8.ai 4 rfl,q1,q2,q3]
    refine hS8.ak [I (iB (iF ks) i).1,I (iB (iF ks) i).2] mJ uL rfl rfl (by simp[Value.cells]) rfl rfl (by decide) (by decide) fun w1 H9 hS9=> ?_
    simp only[RT]at hS9
    simp(disch:=omega) only[↓RA,RZ,simprocAttr,hn,q1,q2,q3]
    refine hS9.aw 3 rfl (hS9.rd 5 rfl) mJ (by rw[iI];simp;omega) fun w2 H10 hS10=> ?_
    simp only[RT]at hS10
    simp(disch:=omega) only[↓RA,RZ,simprocAttr,hn,g4,g6,g18,g19,g20,q1,q2,q3]
    refine⟨n-1,by omega,i+1,w2,by omega,by simp,rfl,?_⟩
    rw[hsu,hs,jG]
    exact hS10.pick [0,1,2,3] (by decide) rfl
   have hs:sX rg Q (iB (iF ks) i)=Q:=by unfold sX;rw[if_neg (by rw[hb];simpa using q3)]
   simp(disch:=omega) only[↓RA,RZ,simprocAttr,hn,g4,g6,g18,g19,g20,g8,q1,q2,q3]
   refine⟨n-1,by omega,i+1,ov,by omega,by simp,rfl,?_⟩
   rw[hsu,hs]
   exact hS8.pick [0,1,2,3] (by decide) rfl
  have hb:rg.off.testBit (iB (iF ks) i).1.toNat=true:=by rw[hd,e3];exact decide_eq_true (by omega)
  have hs:sX rg Q (iB (iF ks) i)=Q:=by unfold sX;rw[if_neg (by rw[hb];simp)]
  simp(disch:=omega) only[↓RA,RZ,simprocAttr,hn,g4,g6,g18,g19,g20,g8,q1,q2]
  refine⟨n-1,by omega,i+1,ov,by omega,by simp,rfl,?_⟩
  rw[hsu,hs]
  exact hS7.pick [0,1,2,3] (by decide) rfl
 simp(disch:=omega) only[↓RA,RZ,simprocAttr,hn,g8,q1]
 have hii:i=(iF ks).length:=by omega
 rw[hii,ee]at hS5
 have hqn:Que o ((iF ks).foldl (sX rg) (bfs o rg.cpl 1100 0 (kI o rg.cpl (iF ks)))):=a7V hQ hplc
 have hql:=hqn.len hf
 refine c5Y hS5 3 rfl (by omega) (c3u hf hqn) fun HS hSS=> ?_
 simp only[fS,fh]at hSS
 simp(disch:=omega) only[↓RA,RZ,simprocAttr,hn,g8,c5z,q1]
 exact hSS.pick [3] (by decide) rfl
theorem a7R{m:Nat}{l:List Drw}(h:kX m l=0):l.length≤8∧∀q,q<l.length→0≤(iB l q).rank∧(iB l q).rank<m:=by
 unfold kX at h
 split at h
 ·omega
 refine⟨by omega,fun q hq=> ?_⟩
 have e:=oM h q hq
 unfold kO at e
 split at e
 ·omega
 ·omega
def wJ(o:Org)(rg:Reg)(j i:Nat)(z:Int)(k:Nat):List Ct:=if(iB rg.stops j).testBit i then((iB (iB o.dvs j).stops i).segs.take k).flatMap fun g=>rP o g z else[]
def dr3(o:Org)(z:Int)(l:List Drw):List Ct:=(l.filter fun d=>rH o.ranks d z).map fun d=>mO o.ranks d z
theorem b7P(o:Org)(z:Int)(l:List Drw):(dr3 o z l).length≤l.length:=by
 unfold dr3
 rw[eu]
 exact eo _ _
theorem b5k(o:Org)(z:Int)(l:List Drw)(q:Nat)(h:q<l.length):dr3 o z (l.take (q+1))=dr3 o z (l.take q)++(if rH o.ranks (iB l q) z then[mO o.ranks (iB l q) z]else[]):=by
 unfold dr3
 rw[kH l q h,eS,dT]
 congr 1
 cases e:rH o.ranks (iB l q) z<;>simp[e]
theorem b7q{o:Org}(g:Seg)(z:Int)(h:g.draws.length≤8):(rP o g z).length≤8:=by
 unfold rP
 split
 ·exact dE (b7P o z g.draws) h
 ·simp
theorem b2c{o:Org}(z:Int):∀(gs:List Seg),(∀g∈gs,g.draws.length≤8)→(gs.flatMap fun g=>rP o g z).length≤gs.length*8
 | [],_=>by simp
 | g::gs,h=>by
   have h1:=b7q (o:=o) g z (h g (dK ..))
   have h2:=b2c (o:=o) z gs fun x hx=>h x (dR _ hx)
   rw[dD,dq,dV]
   omega
theorem c1g{o:Org}(rg:Reg)(j i:Nat)(z:Int)(k:Nat)(h:∀g∈(iB (iB o.dvs j).stops i).segs,g.draws.length≤8)(h2:(iB (iB o.dvs j).stops i).segs.length≤12):(wJ o rg j i z k).length≤96:=by
 unfold wJ
 split
 ·have h1:=b2c (o:=o) z ((iB (iB o.dvs j).stops i).segs.take k) fun g hg=>h g (fX hg)
  have h3:=List.length_take_le k (iB (iB o.dvs j).stops i).segs
  have h4:((iB (iB o.dvs j).stops i).segs.take k).length≤(iB (iB o.dvs j).stops i).segs.length:=by rw[gp];omega
  omega
 ·simp
theorem a4o(o:Org)(rg:Reg)(j i:Nat)(z:Int):vQ o rg ((j:Int),z) i=wJ o rg j i z (iB (iB o.dvs j).stops i).segs.length:=by
 unfold vQ wJ
 simp only[dN]
 rw[ee]
theorem a4C{o:Org}(rg:Reg)(j:Nat)(z:Int)(h:∀i,i<(iB o.dvs j).stops.length→(wJ o rg j i z (iB (iB o.dvs j).stops i).segs.length).length≤96):∀i,i≤(iB o.dvs j).stops.length→((List.range i).flatMap (vQ o rg ((j:Int),z))).length≤i*96
 | 0,_=>by simp
 | i+1,hi=>by
   have h1:=a4C rg j z h i (by omega)
   have h2:=h i (by omega)
   rw[ec,dF,dq,dD,ez,dr,a4o]
   omega
theorem b6n(o:Org)(ho:o.In H)(h0:organE o=0)(rg:Reg)(sv:Value)(hr:rg.In H sv)(hrl:rg.stops.length=o.dvs.length)(j:Nat)(z:Int)(hc:kV o ((j:Int),z)=true):
 Fn prog 231 [.agg #[.string o.name,o.rv,o.dv,o.cv],.agg #[sv,.int .u64 rg.cpl,.int .u64 rg.off],.agg #[I j,I z]] H fun rr H'=>Slx 2 jL H' (fun B=>H.length≤B) rr (dd (pG (qB o rg ((j:Int),z))))∧St prog H H' []:=by
 have hf:=Org.aJ h0
 have hcc:=(kK o _).1 hc
 simp only[dN]at hcc
 have hj:j<o.dvs.length:=by omega
 have hky:=hf.keys j hj
 have hst:=hf.stops j hj
 have hsb:∀i,i<(iB o.dvs j).stops.length→iB (iB o.dvs j).stops i∈(iB o.dvs j).stops:=fun i hi=>iD hi
 have hsl:∀i,i<(iB o.dvs j).stops.length→∀k,(wJ o rg j i z k).length≤96:=fun i hi k=>c1g rg j i z k (hf.draws j hj _ (hsb i hi)) (a0R h0 hj (hsb i hi)).len
 have hdl:=a4C rg j z fun i hi=>hsl i hi _
 refine .bg func231 rfl (by kernel_rfl) (m:=108) rfl fun l hn g0 g1 g2=> ?_
 simp(disch:=omega) only[↓RA,RB,simprocAttr,g0]
 refine(sR H).eNew 4 [(.string o.name),o.rv,o.dv,o.cv] rfl rfl (by simp[OC,((sR H).sl ho.1).cells.2.1,((sR H).sl ho.2.2.1).cells.2.1,((sR H).sl ho.2.2.2.2.1).cells.2.1]) lP fun A1 H1 hS1=> ?_
 simp only[RT]at hS1
 simp(disch:=omega) only[↓RA,RB,simprocAttr,g1]
 refine hS1.eNew 3 [sv,(.int .u64 rg.cpl),(.int .u64 rg.off)] rfl rfl (by simp[OC,(hS1.sl hr.1).cells.2.1]) mK fun A2 H2 hS2=> ?_
 simp only[RT]at hS2
 simp(disch:=omega) only[↓RA,RB,simprocAttr,g2]
 refine hS2.eNew 2 [I j,I z] rfl rfl rfl kY fun A3 H3 hS3=> ?_
 simp only[RT]at hS3
 simp(disch:=omega) only[↓RA,RZ,simprocAttr,hn,hS3.ld 0 rfl,hS3.ld 2 rfl,(hS3.sl ho.2.2.1).idx,(hS3.sl ho.2.2.1).ba,(hS3.sl ho.2.2.1).ld,Dvn.cells,(hS3.sl (ho.2.2.2.1 (iB o.dvs j) (iD (by omega))).1).len]
 have hS4:=hS3.nil 1
 simp only[RT]at hS4
 refine Wp.aq (fun n l H'=>l.length=108∧get l 3=(ptr A1 0 4)∧get l 4=(ptr A2 0 3)∧get l 5=(ptr A3 0 2)∧get l 6=(.slice none 0 0)∧get l 21=(iB o.dvs j).sv∧get l 22=I (iB o.dvs j).stops.length∧∃(i:Nat)(ov:Value),(n+i=(iB o.dvs j).stops.length)∧get l 23=I i∧get l 7=ov∧St prog H H' [⟨ptr A1 0 4,0,[(.string o.name),o.rv,o.dv,o.cv]⟩,⟨ptr A2 0 3,0,[sv,(.int .u64 rg.cpl),(.int .u64 rg.off)]⟩,⟨ptr A3 0 2,0,[I j,I z]⟩,⟨ov,2,pr ((List.range i).flatMap (vQ o rg ((j:Int),z)))⟩]) (iB o.dvs j).stops.length ?_ ?_
 ·simp(disch:=omega) only[RB,RC,simprocAttr,hn]
  exact⟨0,.slice none 0 0,by omega,rfl,rfl,hS4⟩
 rintro n l H4⟨hn,g3,g4,g5,g6,g21,g22,i,ov,hi,g23,g7,hS5⟩
 simp(disch:=omega) only[↓RA,RB,simprocAttr,hn,g22,g23]
 refine iA (fun q1=> ?_) (fun q1=> ?_)
 ·have hil:i<(iB o.dvs j).stops.length:=by omega
  have hso:=a0R h0 hj (hsb i hil)
  have hsu:(List.range (i+1)).flatMap (vQ o rg ((j:Int),z))=(List.range i).flatMap (vQ o rg ((j:Int),z))++wJ o rg j i z (iB (iB o.dvs j).stops i).segs.length:=by
   rw[ec,dF,dD,ez,dr,a4o]
  have hpl:=hdl i (by omega)
  have hsn:(iB (iB o.dvs j).stops i).segs.length<1000000000:=((ho.2.2.2.1 _ (iD hj)).2.1 _ (hsb i hil)).2.2
  have e1:=a1i (iB rg.stops j) i (hr.2.2.1 _ (iD (by omega)))
  have e2:=yZ ((iB rg.stops j)>>>i) (tX _ (hr.2.2.1 _ (iD (by omega))))
  have e3:=tb (iB rg.stops j) i
  simp(disch:=omega) only[↓RA,RZ,simprocAttr,hn,g21,g23,(hS5.sl (ho.2.2.2.1 (iB o.dvs j) (iD (by omega))).1).idx,(hS5.sl (ho.2.2.2.1 (iB o.dvs j) (iD (by omega))).1).ai,Stp.cells,q1]
  refine hS5.eNew 4 [(.string ⟨#[]⟩),I 0,I 0,(.slice none 0 0)] rfl rfl rfl oK fun A4 H5 hS6=> ?_
  simp only[RT]at hS6
  simp(disch:=omega) only[↓RA,RZ,simprocAttr,hn,q1]
  refine hS6.ae 4 rfl [(.string (iB (iB o.dvs j).stops i).name),I (iB (iB o.dvs j).stops i).num,I (iB (iB o.dvs j).stops i).den,(iB (iB o.dvs j).stops i).gv] rfl (by simp[OC,(hS6.sl ((ho.2.2.2.1 (iB o.dvs j) (iD (by omega))).2.1 (iB (iB o.dvs j).stops i) (iD (by omega))).1).cells.2.1]) oK (by simp) fun H6 hS7=> ?_
  simp only[RT]at hS7
  simp(disch:=omega) only[↓RA,RZ,simprocAttr,hn,hS7.ld 4 rfl,(hS7.sl ((ho.2.2.2.1 (iB o.dvs j) (iD (by omega))).2.1 (iB (iB o.dvs j).stops i) (iD (by omega))).1).len,q1]
  refine Wp.aq (fun n l H'=>l.length=108∧get l 3=(ptr A1 0 4)∧get l 4=(ptr A2 0 3)∧get l 5=(ptr A3 0 2)∧get l 6=(.slice none 0 0)∧get l 8=I i∧get l 21=(iB o.dvs j).sv∧get l 22=I (iB o.dvs j).stops.length∧get l 23=I i∧get l 29=(iB (iB o.dvs j).stops i).gv∧get l 30=I (iB (iB o.dvs j).stops i).segs.length∧∃(k:Nat)(ow:Value),(n+k=(iB (iB o.dvs j).stops i).segs.length)∧get l 31=I k∧get l 7=ow∧St prog H H' [⟨ptr A1 0 4,0,[(.string o.name),o.rv,o.dv,o.cv]⟩,⟨ptr A2 0 3,0,[sv,(.int .u64 rg.cpl),(.int .u64 rg.off)]⟩,⟨ptr A3 0 2,0,[I j,I z]⟩,⟨ow,2,pr ((List.range i).flatMap (vQ o rg ((j:Int),z))++wJ o rg j i z k)⟩,⟨ptr A4 0 4,0,[(.string (iB (iB o.dvs j).stops i).name),I (iB (iB o.dvs j).stops i).num,I (iB (iB o.dvs j).stops i).den,(iB (iB o.dvs j).stops i).gv]⟩]) (iB (iB o.dvs j).stops i).segs.length ?_ ?_
  ·simp(disch:=omega) only[RB,RC,simprocAttr,hn,g3,g4,g5,g6,g21,g22,g23,g7]
   refine⟨0,ov,by omega,rfl,rfl,?_⟩
   rw[show wJ o rg j i z 0=[]from by unfold wJ;split<;>rfl,dr]
   exact hS7
  rintro n l H7⟨hn,g3,g4,g5,g6,g8,g21,g22,g23,g29,g30,k,ow,hk,g31,g7,hS8⟩
  simp(disch:=omega) only[↓RA,RB,simprocAttr,hn,g30,g31]
  refine iA (fun q2=> ?_) (fun q2=> ?_)
  ·have hkl:k<(iB (iB o.dvs j).stops i).segs.length:=by omega
   have hsk:=hsl i hil k
   have hgd:=hso.draws k hkl
   have hgd2:=a7R hgd
   simp(disch:=omega) only[↓RA,RZ,simprocAttr,hn,g29,g31,(hS8.sl ((ho.2.2.2.1 (iB o.dvs j) (iD (by omega))).2.1 (iB (iB o.dvs j).stops i) (iD (by omega))).1).idx,(hS8.sl ((ho.2.2.2.1 (iB o.dvs j) (iD (by omega))).2.1 (iB (iB o.dvs j).stops i) (iD (by omega))).1).ai,Seg.cells,q2]
   refine hS8.eNew 3 [I 0,I 0,(.slice none 0 0)] rfl rfl rfl yX fun A5 H8 hS9=> ?_
   simp only[RT]at hS9
   simp(disch:=omega) only[↓RA,RZ,simprocAttr,hn,q2]
   refine hS9.ae 5 rfl [I (iB (iB (iB o.dvs j).stops i).segs k).lo,I (iB (iB (iB o.dvs j).stops i).segs k).hi,(iB (iB (iB o.dvs j).stops i).segs k).dv] rfl (by simp[OC,(hS9.sl (((ho.2.2.2.1 (iB o.dvs j) (iD (by omega))).2.1 (iB (iB o.dvs j).stops i) (iD (by omega))).2.1 (iB (iB (iB o.dvs j).stops i).segs k) (iD (by omega))).1).cells.2.1]) yX (by simp) fun H9 hS10=> ?_
   simp only[RT]at hS10
   simp(disch:=omega) only[↓RA,RZ,simprocAttr,hn,g4,g5,g8,hS10.ld 1 rfl,hS10.ld 2 rfl,(hS10.sl hr.1).idx,(hS10.sl hr.1).ld,one,u64,q2,e1,e2]
   refine iL (fun q3=> ?_) (fun q3=> ?_)
   ·have hb:(iB rg.stops j).testBit i=false:=by rw[e3];exact decide_eq_false (by omega)
    have hsg:∀k,wJ o rg j i z k=[]:=fun k=>by unfold wJ;rw[if_neg (by rw[hb];simp)]
    simp(disch:=omega) only[↓RA,RZ,simprocAttr,hn,g3,g4,g5,g6,g8,g21,g22,g23,g29,g30,g31,g7,q2,q3]
    refine⟨n-1,by omega,k+1,ow,by omega,by simp,rfl,?_⟩
    rw[hsg,←hsg k]
    exact hS10.pick [0,1,2,3,4] (by decide) rfl
   have hb:(iB rg.stops j).testBit i=true:=by rw[e3];exact decide_eq_true (by omega)
   have hsg:wJ o rg j i z (k+1)=wJ o rg j i z k++rP o (iB (iB (iB o.dvs j).stops i).segs k) z:=by
    unfold wJ
    rw[if_pos hb,if_pos hb,List.take_add_one,du hkl,Option.toList_some,←jM _ k hkl,dF,dD,ez,dr]
   simp(disch:=omega) only[↓RA,RZ,simprocAttr,hn,g5,hS10.ld 2 rfl,hS10.ld 5 rfl,q2,q3]
   refine iL (fun q4=> ?_) (fun q4=> ?_)
   ·have hd1:rP o (iB (iB (iB o.dvs j).stops i).segs k) z=[]:=by unfold rP;rw[if_neg (by omega)]
    simp(disch:=omega) only[↓RA,RZ,simprocAttr,hn,g3,g4,g5,g6,g8,g21,g22,g23,g29,g30,g31,g7,q2,q3,q4]
    refine⟨n-1,by omega,k+1,ow,by omega,by simp,rfl,?_⟩
    rw[hsg,hd1,dr]
    exact hS10.pick [0,1,2,3,4] (by decide) rfl
   simp(disch:=omega) only[↓RA,RZ,simprocAttr,hn,g5,hS10.ld 2 rfl,hS10.ld 5 rfl,q2,q3,q4]
   refine iA (fun q5=> ?_) (fun q5=> ?_)
   ·have hd1:rP o (iB (iB (iB o.dvs j).stops i).segs k) z=[]:=by unfold rP;rw[if_neg (by omega)]
    simp(disch:=omega) only[↓RA,RZ,simprocAttr,hn,g3,g4,g5,g6,g8,g21,g22,g23,g29,g30,g31,g7,q2,q3,q4,q5]
    refine⟨n-1,by omega,k+1,ow,by omega,by simp,rfl,?_⟩
    rw[hsg,hd1,dr]
    exact hS10.pick [0,1,2,3,4] (by decide) rfl
   have hd1:rP o (iB (iB (iB o.dvs j).stops i).segs k) z=dr3 o z (iB (iB (iB o.dvs j).stops i).segs k).draws:=by unfold rP;rw[if_pos (by omega)];rfl
   have hsm2:(wJ o rg j i z k).length≤96:=hsk
   simp(disch:=omega) only[↓RA,RZ,simprocAttr,hn,hS10.ld 5 rfl,(hS10.sl (((ho.2.2.2.1 (iB o.dvs j) (iD (by omega))).2.1 (iB (iB o.dvs j).stops i) (iD (by omega))).2.1 (iB (iB (iB o.dvs j).stops i).segs k) (iD (by omega))).1).len,q2,q3,q4,q5]
   refine Wp.aq (fun n l H'=>l.length=108∧get l 3=(ptr A1 0 4)∧get l 4=(ptr A2 0 3)∧get l 5=(ptr A3 0 2)∧get l 6=(.slice none 0 0)∧get l 8=I i∧get l 21=(iB o.dvs j).sv∧get l 22=I (iB o.dvs j).stops.length∧get l 23=I i∧get l 29=(iB (iB o.dvs j).stops i).gv∧get l 30=I (iB (iB o.dvs j).stops i).segs.length∧get l 31=I k∧get l 61=(iB (iB (iB o.dvs j).stops i).segs k).dv∧get l 62=I (iB (iB (iB o.dvs j).stops i).segs k).draws.length∧∃(q:Nat)(oy:Value),(n+q=(iB (iB (iB o.dvs j).stops i).segs k).draws.length)∧get l 63=I q∧get l 7=oy∧St prog H H' [⟨ptr A1 0 4,0,[(.string o.name),o.rv,o.dv,o.cv]⟩,⟨ptr A2 0 3,0,[sv,(.int .u64 rg.cpl),(.int .u64 rg.off)]⟩,⟨ptr A3 0 2,0,[I j,I z]⟩,⟨oy,2,pr ((List.range i).flatMap (vQ o rg ((j:Int),z))++wJ o rg j i z k++dr3 o z ((iB (iB (iB o.dvs j).stops i).segs k).draws.take q))⟩,⟨ptr A4 0 4,0,[(.string (iB (iB o.dvs j).stops i).name),I (iB (iB o.dvs j).stops i).num,I (iB (iB o.dvs j).stops i).den,(iB (iB o.dvs j).stops i).gv]⟩,⟨ptr A5 0 3,0,[I (iB (iB (iB o.dvs j).stops i).segs k).lo,I (iB (iB (iB o.dvs j).stops i).segs k).hi,(iB (iB (iB o.dvs j).stops i).segs k).dv]⟩]) (iB (iB (iB o.dvs j).stops i).segs k).draws.length ?_ ?_
   ·simp(disch:=omega) only[RB,RC,simprocAttr,hn,g3,g4,g5,g6,g8,g21,g22,g23,g29,g30,g31,g7]
    refine⟨0,ow,by omega,rfl,rfl,?_⟩
    rw[List.take_zero,show dr3 o z []=[]from rfl,dr]
    exact hS10
   rintro n l H10⟨hn,g3,g4,g5,g6,g8,g21,g22,g23,g29,g30,g31,g61,g62,q,oy,hq,g63,g7,hS11⟩
   simp(disch:=omega) only[↓RA,RB,simprocAttr,hn,g62,g63]
   refine iA (fun q6=> ?_) (fun q6=> ?_)
   ·have hql:q<(iB (iB (iB o.dvs j).stops i).segs k).draws.length:=by omega
    have hdr:=hgd2.2 q hql
    obtain⟨e,he⟩:∃e:Nat,(iB (iB (iB (iB o.dvs j).stops i).segs k).draws q).rank=e:=⟨(iB (iB (iB (iB o.dvs j).stops i).segs k).draws q).rank.toNat,by omega⟩
    have hel:e<o.ranks.length:=by omega
    have hd3:=b5k o z (iB (iB (iB o.dvs j).stops i).segs k).draws q hql
    have hd3l:=b7P o z ((iB (iB (iB o.dvs j).stops i).segs k).draws.take q)
    have hwl:(iB o.ranks e).wind.length<1000000000:=(ho.2.1 _ (iD hel)).2
    have htl:=List.length_take_le q (iB (iB (iB o.dvs j).stops i).segs k).draws
    have hp1:mO o.ranks (iB (iB (iB (iB o.dvs j).stops i).segs k).draws q) z=((e:Int),nF (nF (z+(iB (iB (iB (iB o.dvs j).stops i).segs k).draws q).shift)-(iB o.ranks e).first)):=by
     unfold mO
     rw[if_neg (by omega),he]
     rfl
    have hhp:rH o.ranks (iB (iB (iB (iB o.dvs j).stops i).segs k).draws q) z=(decide (0≤nF (nF (z+(iB (iB (iB (iB o.dvs j).stops i).segs k).draws q).shift)-(iB o.ranks e).first))&&decide (nF (nF (z+(iB (iB (iB (iB o.dvs j).stops i).segs k).draws q).shift)-(iB o.ranks e).first)<(iB o.ranks e).wind.length)):=by
     unfold rH
     rw[hp1,decide_eq_false (by omega),he]
     rfl
    simp(disch:=omega) only[↓RA,RZ,simprocAttr,hn,g61,g63,(hS11.sl (((ho.2.2.2.1 (iB o.dvs j) (iD (by omega))).2.1 (iB (iB o.dvs j).stops i) (iD (by omega))).2.1 (iB (iB (iB o.dvs j).stops i).segs k) (iD (by omega))).1).idx,(hS11.sl (((ho.2.2.2.1 (iB o.dvs j) (iD (by omega))).2.1 (iB (iB o.dvs j).stops i) (iD (by omega))).2.1 (iB (iB (iB o.dvs j).stops i).segs k) (iD (by omega))).1).ai,Drw.cells,q6]
    refine hS11.eNew 2 [I 0,I 0] rfl rfl rfl xE fun A6 H11 hS12=> ?_
    simp only[RT]at hS12
    simp(disch:=omega) only[↓RA,RZ,simprocAttr,hn,q6]
    refine hS12.ae 6 rfl [I (iB (iB (iB (iB o.dvs j).stops i).segs k).draws q).rank,I (iB (iB (iB (iB o.dvs j).stops i).segs k).draws q).shift] rfl rfl xE (by simp) fun H12 hS13=> ?_
    simp only[RT]at hS13
    simp(disch:=omega) only[↓RA,RZ,simprocAttr,q6]
    refine Wp.drw jZ (by kernel_rfl) ?_
    simp(disch:=omega) only[↓RA,RZ,simprocAttr,hn,g3,g5,hS13.ld 2 rfl,hS13.ld 6 rfl,hS13.ld 0 rfl]
    simp(disch:=omega) only[↓RA,RZ,simprocAttr,hn,(hS13.sl ho.1).idx,(hS13.sl ho.1).ba,(hS13.sl ho.1).ld,Rk.cells,he]
    refine jH (fun q7=> ?_) (fun q7=> ?_)
    ·simp(disch:=omega) only[↓RA,RZ,simprocAttr,hn,g3,hS13.ld 0 rfl,hS13.ld 6 rfl,(hS13.sl ho.1).idx,(hS13.sl ho.1).ba,(hS13.sl ho.1).ld,Rk.cells,(hS13.sl (ho.2.1 (iB o.ranks e) (iD (by omega))).1).len,he,q7]
     refine iA (fun q8=> ?_) (fun q8=> ?_)
     ·have hht:rH o.ranks (iB (iB (iB (iB o.dvs j).stops i).segs k).draws q) z=true:=by rw[hhp,decide_eq_true (by omega),decide_eq_true (by omega)];rfl
      simp(disch:=omega) only[↓RA,RZ,simprocAttr,hn,g7,hS13.ld 6 rfl,a6V,he,q7,q8]
      refine hS13.ak [I e,I (nF (nF (z+(iB (iB (iB (iB o.dvs j).stops i).segs k).draws q).shift)-(iB o.ranks e).first))] a1D b8a rfl rfl (by simp[Value.cells]) rfl rfl (by decide) (by decide) fun w1 H13 hS14=> ?_
      simp only[RT]at hS14
      simp(disch:=omega) only[↓RA,RZ,simprocAttr,hn,he,q7,q8]
      refine hS14.aw 3 rfl (hS14.rd 7 rfl) a1D (by rw[iI,dq,dq];simp only[dV,eI];omega) fun w2 H14 hS15=> ?_
      simp only[RT]at hS15
      simp(disch:=omega) only[↓RA,RZ,simprocAttr,hn,g3,g4,g5,g6,g8,g21,g22,g23,g29,g30,g31,g61,g62,g63,he,q7,q8]
      refine⟨n-1,by omega,q+1,w2,by omega,by simp,rfl,?_⟩
      rw[hd3,hht,if_pos rfl,hp1,←eh,jG]
      exact hS15.pick [0,1,2,3,4,5] (by decide) rfl
     have hhf:rH o.ranks (iB (iB (iB (iB o.dvs j).stops i).segs k).draws q) z=false:=by rw[hhp,decide_eq_false (show¬nF (nF (z+(iB (iB (iB (iB o.dvs j).stops i).segs k).draws q).shift)-(iB o.ranks e).first)<_ by omega),Bool.and_false]
     simp(disch:=omega) only[↓RA,RZ,simprocAttr,hn,g3,g4,g5,g6,g8,g21,g22,g23,g29,g30,g31,g61,g62,g63,g7,he,q7,q8]
     refine⟨n-1,by omega,q+1,oy,by omega,by simp,rfl,?_⟩
     rw[hd3,hhf,if_neg (by simp),dr]
     exact hS13.pick [0,1,2,3,4,5] (by decide) rfl
    have hhf:rH o.ranks (iB (iB (iB (iB o.dvs j).stops i).segs k).draws q) z=false:=by rw[hhp,decide_eq_false (show¬0≤nF (nF (z+(iB (iB (iB (iB o.dvs j).stops i).segs k).draws q).shift)-(iB o.ranks e).first) by omega),fo]
    simp(disch:=omega) only[↓RA,RZ,simprocAttr,hn,g3,g4,g5,g6,g8,g21,g22,g23,g29,g30,g31,g61,g62,g63,g7,he,q7]
    refine⟨n-1,by omega,q+1,oy,by omega,by simp,rfl,?_⟩
    rw[hd3,hhf,if_neg (by simp),dr]
    exact hS13.pick [0,1,2,3,4,5] (by decide) rfl
   simp(disch:=omega) only[↓RA,RZ,simprocAttr,hn,g3,g4,g5,g6,g8,g21,g22,g23,g29,g30,g31,g7,q6]
   have hqq:q=(iB (iB (iB o.dvs j).stops i).segs k).draws.length:=by omega
   refine⟨(iB (iB o.dvs j).stops i).segs.length-(k+1),by omega,k+1,oy,by omega,by simp,rfl,?_⟩
   rw[hsg,hd1,←eh]
   rw[hqq,ee]at hS11
   exact hS11.pick [0,1,2,3,4] (by decide) rfl
  simp(disch:=omega) only[↓RA,RZ,simprocAttr,hn,g3,g4,g5,g6,g21,g22,g23,g7,q2]
  have hkk:k=(iB (iB o.dvs j).stops i).segs.length:=by omega
  refine⟨(iB o.dvs j).stops.length-(i+1),by omega,i+1,ow,by omega,by simp,rfl,?_⟩
  rw[hsu,←hkk]
  exact hS8.pick [0,1,2,3] (by decide) rfl
 simp(disch:=omega) only[↓RA,RZ,simprocAttr,hn,g7,q1]
 have hii:i=(iB o.dvs j).stops.length:=by omega
 rw[hii]at hS5
 have hdl2:=hdl _ (dj _)
 have hc2:kV o ((j:Int),z)=true:=hc
 have hd3e:(List.range (iB o.dvs j).stops.length).flatMap (vQ o rg ((j:Int),z))=qB o rg ((j:Int),z):=by unfold qB;rfl
 rw[hd3e]at hS5
 rw[hd3e]at hdl2
 have hsm:∀x∈qB o rg ((j:Int),z),sm x:=fun x hx=>(xU ((wP h0 hc2).1 hx)).small hf ho
 refine c2e hS5 3 rfl (by omega) hsm fun HS hSS=> ?_
 simp only[fS,fh]at hSS
 simp(disch:=omega) only[↓RA,RZ,simprocAttr,hn,g7,q1]
 have hM1:=hSS.pick (os':=[⟨ov,2,_⟩]) [3] (by decide) rfl
 have hR1:=hSS.pick (os':=[⟨ov,2,_⟩,⟨ptr A1 0 4,0,_⟩,⟨ptr A2 0 3,0,_⟩,⟨ptr A3 0 2,0,_⟩]) [3,0,1,2] (by decide) rfl
 refine iG (wB hM1.aF (by rw[lW];omega)) ?_
 rintro r H15⟨rest,hb,hrd,hT1⟩
 have hS16:=hR1.frame hT1
 simp only[RT]at hS16
 have hrr:=hrd _ (hS16.rd 0 rfl)
 have hrc:=hrr.cells
 simp(disch:=omega) only[↓RA,RZ,simprocAttr,hn,c6P,q1]
 refine⟨⟨⟨hrr,jR,by decide⟩,fun b h=> ?_⟩,hS16.forget⟩
 rcases hS16.new _ (dK ..) b (hb b h)with h|h
 ·exact h
 ·exact h.elim
theorem b0w(o:Org)(ho:o.In H)(h0:organE o=0)(rg:Reg)(sv:Value)(hr:rg.In H sv)(hrl:rg.stops.length=o.dvs.length)(c:Ct)(hc:kV o c=true):
 Fn prog 231 [.agg #[.string o.name,o.rv,o.dv,o.cv],.agg #[sv,.int .u64 rg.cpl,.int .u64 rg.off],.agg #[I c.1,I c.2]] H fun rr H'=>Slx 2 jL H' (fun B=>H.length≤B) rr (dd (pG (qB o rg c)))∧St prog H H' []:=by
 obtain⟨d,z⟩:=c
 have h:=(kK o _).1 hc
 obtain⟨j,rfl⟩:=eZ h.1
 exact b6n o ho h0 rg sv hr hrl j z hc
theorem b6F{o:Org}(h0:organE o=0)(rg:Reg){c:Ct}(hc:kV o c=true):(dd (pG (qB o rg c))).length≤480:=by
 rw[c1A h0 hc]
 have h1:=a8C (pG (mF o rg c))
 rw[lW]at h1
 exact dE h1 (a5w (Org.aJ h0) rg hc)
theorem b2F{o:Org}(h0:organE o=0)(rg:Reg):∀(l:List Ct),(∀c∈l,kV o c=true)→(l.flatMap fun c=>dd (pG (qB o rg c))).length≤l.length*480
 | [],_=>by simp
 | c::l,h=>by
   have h1:=b6F h0 rg (h c (dK ..))
   have h2:=b2F h0 rg l fun x hx=>h x (dR _ hx)
   rw[dD,dq,dV]
   omega
theorem a4k(o:Org)(ho:o.In H)(h0:organE o=0)(rg:Reg)(sv:Value)(hr:rg.In H sv)(hrl:rg.stops.length=o.dvs.length)(kv:Value)(ks:List Nt)(hk:Ks H kv ks)(hke:mI o ks=0):
 Fn prog 198 [.agg #[.string o.name,o.rv,o.dv,o.cv],.agg #[sv,.int .u64 rg.cpl,.int .u64 rg.off],kv] H fun rr H'=>Slx 2 jL H' (fun B=>H.length≤B) rr (jK o rg (iF ks))∧St prog H H' []:=by
 have hf:=Org.aJ h0
 have hplc:=pX hk.ok hke
 have hpll:=qV hke
 have hsc:=nE (o:=o) (rg:=rg) hplc
 have hsl:=uC hf (rg:=rg) hpll
 have hsp:dd (pG ((kA o rg (iF ks)).flatMap fun c=>dd (pG (qB o rg c))))=jK o rg (iF ks):=b8v h0 hsc
 have hsm:∀x∈(kA o rg (iF ks)).flatMap (fun c=>dd (pG (qB o rg c))),sm x:=fun x hx=>by
  obtain⟨c,hc,hx⟩:=dQ.1 hx
  exact(xU ((wP h0 (hsc c hc)).1 (pZ.1 hx))).small hf ho
 have hle:∀i,(((kA o rg (iF ks)).take i).flatMap fun c=>dd (pG (qB o rg c))).length≤2048*480:=fun i=>by
  have h1:=b2F h0 rg ((kA o rg (iF ks)).take i) fun c hc=>hsc c (fX hc)
  have h2:((kA o rg (iF ks)).take i).length≤(kA o rg (iF ks)).length:=by rw[gp];omega
  exact dE h1 (dO _ (by omega))
 rw[←hsp]
 refine .bg func198 rfl (by kernel_rfl) (m:=30) rfl fun l hn g0 g1 g2=> ?_
 simp(disch:=omega) only[↓RA,RB,simprocAttr,g0]
 refine(sR H).eNew 4 [(.string o.name),o.rv,o.dv,o.cv] rfl rfl (by simp[OC,((sR H).sl ho.1).cells.2.1,((sR H).sl ho.2.2.1).cells.2.1,((sR H).sl ho.2.2.2.2.1).cells.2.1]) lP fun A1 H1 hS1=> ?_
 simp only[RT]at hS1
 simp(disch:=omega) only[↓RA,RB,simprocAttr,g1]
 refine hS1.eNew 3 [sv,(.int .u64 rg.cpl),(.int .u64 rg.off)] rfl rfl (by simp[OC,(hS1.sl hr.1).cells.2.1]) mK fun A2 H2 hS2=> ?_
 simp only[RT]at hS2
 simp(disch:=omega) only[↓RA,RZ,simprocAttr,hn,g2,hS2.ai 0 rfl,hS2.ai 1 rfl]
 refine iG ((a4a o (ho.ag hS2) hf rg sv (hr.ag hS2) kv ks (hk.ag hS2) hke).tr) ?_
 rintro r H3⟨-,hT1⟩
 have hS3:=hS2.trans hT1
 simp only[RT]at hS3
 obtain⟨cv,rfl⟩:∃w,w=r:=⟨r,rfl⟩
 simp(disch:=omega) only[↓RA,RZ,simprocAttr,hn,(hS3.ay 2 rfl jR).len]
 have hS4:=hS3.nil 1
 simp only[RT]at hS4
 refine Wp.aq (fun n l H'=>l.length=30∧get l 3=(ptr A1 0 4)∧get l 4=(ptr A2 0 3)∧get l 6=(.slice none 0 0)∧get l 13=cv∧get l 14=I (kA o rg (iF ks)).length∧∃(i:Nat)(ov:Value),(n+i=(kA o rg (iF ks)).length)∧get l 15=I i∧get l 7=ov∧St prog H H' [⟨ptr A1 0 4,0,[(.string o.name),o.rv,o.dv,o.cv]⟩,⟨ptr A2 0 3,0,[sv,(.int .u64 rg.cpl),(.int .u64 rg.off)]⟩,⟨cv,2,pr (kA o rg (iF ks))⟩,⟨ov,2,pr (((kA o rg (iF ks)).take i).flatMap fun c=>dd (pG (qB o rg c)))⟩]) (kA o rg (iF ks)).length ?_ ?_
 ·simp(disch:=omega) only[RB,RC,simprocAttr,hn]
  exact⟨0,.slice none 0 0,by omega,rfl,rfl,hS4⟩
 rintro n l H4⟨hn,g3,g4,g6,g13,g14,i,ov,hi,g15,g7,hS5⟩
 simp(disch:=omega) only[↓RA,RB,simprocAttr,hn,g14,g15]
 refine iA (fun q1=> ?_) (fun q1=> ?_)
 ·have hci:=hsc _ (iD (xs:=kA o rg (iF ks)) (j:=i) (by omega))
  have htk:=kH (kA o rg (iF ks)) i (by omega)
  have hli:=hle i
  have hl1:=b6F h0 rg hci
  simp(disch:=omega) only[↓RA,RZ,simprocAttr,hn,g13,g15,(hS5.ay 2 rfl jR).idx,(hS5.ay 2 rfl jR).ai,jL,q1]
  refine hS5.eNew 2 [I 0,I 0] rfl rfl rfl kY fun A3 H5 hS6=> ?_
  simp only[RT]at hS6
  simp(disch:=omega) only[↓RA,RZ,simprocAttr,hn,q1]
  refine hS6.ae 4 rfl [I (iB (kA o rg (iF ks)) i).1,I (iB (kA o rg (iF ks)) i).2] rfl rfl kY (by simp) fun H6 hS7=> ?_
  simp only[RT]at hS7
  simp(disch:=omega) only[↓RA,RZ,simprocAttr,hn,g3,g4,g7,hS7.ai 0 rfl,hS7.ai 1 rfl,hS7.ai 4 rfl,q1]
  refine iG (b0w o (ho.ag hS7) h0 rg sv (hr.ag hS7) hrl (iB (kA o rg (iF ks)) i) hci) ?_
  rintro r H7⟨hqx,hT2⟩
  have hS8:=hS7.trans hT2
  simp only[RT]at hS8
  obtain⟨qv,rfl⟩:∃w,w=r:=⟨r,rfl⟩
  simp(disch:=omega) only[↓RA,RZ,simprocAttr,hn,q1]
  refine hS8.aw 3 rfl hqx.1.rd a1D (by rw[iI,show((dd (pG (qB o rg (iB (kA o rg (iF ks)) i)))).flatMap jL).length=(dd (pG (qB o rg (iB (kA o rg (iF ks)) i)))).length*2 from iI _];omega) fun w1 H8 hS9=> ?_
  simp only[RT]at hS9
  simp(disch:=omega) only[↓RA,RZ,simprocAttr,hn,g3,g4,g6,g13,g14,g15,q1]
  refine⟨n-1,by omega,i+1,w1,by omega,by simp,rfl,?_⟩
  rw[htk,dF,jG,dD,ez,dr]
  exact hS9.pick [0,1,2,3] (by decide) rfl
 simp(disch:=omega) only[↓RA,RZ,simprocAttr,hn,g7,q1]
 have hii:i=(kA o rg (iF ks)).length:=by omega
 have hli:=hle i
 rw[hii,ee]at hS5
 rw[hii,ee]at hli
 refine c2e hS5 3 rfl (by omega) hsm fun HS hSS=> ?_
 simp only[fS,fh]at hSS
 simp(disch:=omega) only[↓RA,RZ,simprocAttr,hn,g7,q1]
 have hM1:=hSS.pick (os':=[⟨ov,2,_⟩]) [3] (by decide) rfl
 have hR1:=hSS.pick (os':=[⟨ov,2,_⟩,⟨ptr A1 0 4,0,_⟩,⟨ptr A2 0 3,0,_⟩,⟨cv,2,_⟩]) [3,0,1,2] (by decide) rfl
 refine iG (wB hM1.aF (by rw[lW];omega)) ?_
 rintro r H9⟨rest,hb,hrd,hT3⟩
 have hS10:=hR1.frame hT3
 simp only[RT]at hS10
 have hrr:=hrd _ (hS10.rd 0 rfl)
 have hrc:=hrr.cells
 simp(disch:=omega) only[↓RA,RZ,simprocAttr,hn,c7D,q1]
 refine⟨⟨⟨hrr,jR,by decide⟩,fun b h=> ?_⟩,hS10.forget⟩
 rcases hS10.new _ (dK ..) b (hb b h)with h|h
 ·exact h
 ·exact h.elim
end Go.Ds
namespace Go.Ds
open Go.Proofs
variable {H:Heap}
set_option maxRecDepth 10000
set_option maxHeartbeats 1000000
end Go.Ds
namespace Go.Ds
open Go.Proofs Go.Proofs.Tryz
variable {H:Heap}
set_option maxRecDepth 10000
set_option maxHeartbeats 1000000
theorem b8h{x y:Int×Int}:cf2 x y<0↔tN x y:=by
 unfold cf2 tN
 split
 ·omega
 ·split
  ·omega
  ·split
   ·omega
   ·split<;>omega
theorem b8f{x y:Int×Int}:cf2 x y=0↔x=y:=by
 unfold cf2
 constructor
 ·intro h
  split at h
  ·omega
  ·split at h
   ·omega
   ·split at h
    ·omega
    ·split at h
     ·omega
     ·exact fP (by omega) (by omega)
 ·rintro rfl
  rw[if_neg (by omega),if_neg (by omega),if_neg (by omega),if_neg (by omega)]
theorem a5O{xs:List Ct}(hs:xs.Pairwise tN){i j:Nat}(h:i<j)(hj:j<xs.length):tN (iB xs i) (iB xs j):=by
 rw[jM _ _ (by omega),jM _ _ hj]
 exact eK.1 hs i j (by omega) hj h
theorem c3e(v:Value)(xs:List Ct)(hv:Sl 2 jL H v xs)(hl:xs.length<1000000000)(hs:xs.Pairwise tN)(t:Ct):
 Fn prog 146 [v,.agg #[I t.1,I t.2],.func (.func 147) #[] #[]] H fun r H'=>∃k:Nat,r=.tuple #[I k,.bool (decide (t∈xs))]∧St prog H H' []:=by
 refine .bg func146 rfl (by kernel_rfl) (m:=49) rfl fun l hn g0 g1 g2=> ?_
 simp(disch:=omega) only[↓RA,RB,simprocAttr,g1]
 refine(sR H).eNew 2 [I t.1,I t.2] rfl rfl rfl rM fun A1 H1 hS1=> ?_
 simp only[RT]at hS1
 simp(disch:=omega) only[↓RA,RZ,simprocAttr,hn,g0,(hS1.sl hv).len]
 refine Wp.aq (fun n l H'=>l.length=49∧get l 0=v∧get l 2=(.func (.func 147) #[] #[])∧get l 4=(ptr A1 0 2)∧get l 6=I 0∧get l 7=(.bool false)∧get l 8=I xs.length∧∃(i:Nat)(j:Nat),(n+i=j∧j≤xs.length∧(∀q,q<i→tN (iB xs q) t)∧∀q,j≤q→q<xs.length→¬tN (iB xs q) t)∧get l 9=I i∧get l 10=I j∧St prog H H' [⟨ptr A1 0 2,0,[I t.1,I t.2]⟩]) xs.length ?_ ?_
 ·simp(disch:=omega) only[RB,RC,simprocAttr,hn,g0,g2]
  exact⟨0,xs.length,⟨by omega,by omega,fun q hq=>absurd hq (dM _),fun q h1 h2=>absurd h2 (by omega)⟩,rfl,rfl,hS1⟩
 rintro n l H2⟨hn,g0,g2,g4,g6,g7,g8,i,j,⟨h1,h2,h3,h4⟩,g9,oO,hS2⟩
 simp(disch:=omega) only[↓RA,RB,simprocAttr,hn,g9,oO]
 refine iA (fun q1=> ?_) (fun q1=> ?_)
 ·obtain⟨m,hm⟩:∃m:Nat,(i+j)/2=m:=⟨_,rfl⟩
  have e1:((i:Int)+j).fdiv (2^min 1 (IntKind.bits .u64))=((m:Nat):Int):=by
   have h:=a1i (i+j) 1 (by omega)
   rw[eP]at h
   rw[←hm]
   exact h
  simp(disch:=omega) only[↓RA,RZ,simprocAttr,hn,g9,oO,q1,e1]
  refine Wp.drw jZ (by kernel_rfl) ?_
  simp(disch:=omega) only[↓RA,RZ,simprocAttr,hn,g0,g2]
  simp(disch:=omega) only[↓RA,RZ,simprocAttr,hn,g4,(hS2.sl hv).idx,(hS2.sl hv).ai,jL,hS2.ai 0 rfl]
  refine hS2.cF (a5Y (iB xs m) t) fun H3 hS3=> ?_
  simp(disch:=omega) only[↓RA,RB,simprocAttr,hn]
  refine iA (fun q2=> ?_) (fun q2=> ?_)
  ·have hlt:=b8h.1 q2
   simp(disch:=omega) only[↓RA,RZ,simprocAttr,hn,g0,g2,g4,g6,g7,g8,oO,q2]
   refine⟨j-(m+1),by omega,m+1,j,⟨by omega,h2,fun q hq=> ?_,h4⟩,by simp,rfl,hS3⟩
   by_cases e:q=m
   ·rw[e];exact hlt
   ·exact a0A (a5O hs (show q<m by omega) (by omega)) hlt
  have hnl:¬tN (iB xs m) t:=fun h=>q2 (b8h.2 h)
  simp(disch:=omega) only[↓RA,RZ,simprocAttr,hn,g0,g2,g4,g6,g7,g8,g9,q2]
  refine⟨m-i,by omega,i,m,⟨by omega,by omega,h3,fun q hq hql h=> ?_⟩,rfl,by simp,hS3⟩
  by_cases e:q=m
  ·rw[e]at h;exact hnl h
  ·exact hnl (a0A (a5O hs (show m<q by omega) hql) h)
 have hij:i=j:=by omega
 have hno:∀q,q<xs.length→q≠i→iB xs q≠t:=fun q hq hne e=>by
  by_cases hqi:q<i
  ·have:=h3 q hqi
   rw[e]at this
   exact a1V this
  ·have h5:=h4 i (by omega) (by omega)
   have h6:=a5O hs (show i<q by omega) hq
   rw[e]at h6
   exact h5 h6
 simp(disch:=omega) only[↓RA,RC,simprocAttr,q1]
 refine Wp.drw jZ (by kernel_rfl) ?_
 simp(disch:=omega) only[↓RA,RZ,simprocAttr,hn,g8,g9]
 refine jH (fun q3=> ?_) (fun q3=> ?_)
 ·simp(disch:=omega) only[↓RA,RZ,simprocAttr,hn,g0,g2,g4,g9,(hS2.sl hv).idx,(hS2.sl hv).ai,jL,hS2.ai 0 rfl,q3]
  refine hS2.cF (a5Y (iB xs i) t) fun H4 hS4=> ?_
  simp(disch:=omega) only[↓RA,RZ,simprocAttr,hn,c2m,q3]
  have he:decide (cf2 (iB xs i) t=0)=decide (t∈xs):=by
   rw[decide_eq_decide,b8f]
   constructor
   ·intro e
    rw[←e]
    exact iD (by omega)
   ·intro hm
    obtain⟨q,hq,e⟩:=dL.1 hm
    rw[←jM _ _ hq]at e
    by_cases hqi:q=i
    ·rw[hqi]at e;exact e
    ·exact absurd e (hno q hq hqi)
  exact⟨i,by rw[←he],hS4.forget⟩
 have hf:decide (t∈xs)=false:=by
  rw[decide_eq_false_iff_not]
  intro hm
  obtain⟨q,hq,e⟩:=dL.1 hm
  rw[←jM _ _ hq]at e
  exact hno q hq (by omega) e
 simp(disch:=omega) only[↓RA,RZ,simprocAttr,hn,c2m,q3]
 exact⟨i,by rw[hf],hS2.forget⟩
def rB(xs ys:List Ct):List Ct:=xs.filter fun c=> !decide (c∈ys)
theorem a6Y(xs ys:List Ct):(rB xs ys).length≤xs.length:=eo _ _
theorem b1v(xs ys:List Ct)(i:Nat)(h:i<xs.length):rB (xs.take (i+1)) ys=rB (xs.take i) ys++(if iB xs i∈ys then[]else[iB xs i]):=by
 unfold rB
 rw[kH xs i h,eS]
 congr 1
 by_cases e:iB xs i∈ys<;>simp[e]
theorem a8d(v w:Value)(xs ys:List Ct)(hv:Sl 2 jL H v xs)(hw:Sl 2 jL H w ys)(hl:xs.length<100000000)(hl2:ys.length<100000000)(hs:ys.Pairwise tN):
 Fn prog 106 [v,w] H fun r H'=>St prog H H' [⟨r,2,pr (rB xs ys)⟩]:=by
 refine .aI func106 rfl (by kernel_rfl) (m:=30) rfl fun l hn g0 g1=> ?_
 simp(disch:=omega) only[↓RA,RZ,simprocAttr,hn,g0,((sR H).sl hv).len]
 have hS1:=(sR H).nil 1
 simp only[RT]at hS1
 refine Wp.aq (fun n l H'=>l.length=30∧get l 1=w∧get l 4=(.slice none 0 0)∧get l 10=v∧get l 11=I xs.length∧∃(i:Nat)(ov:Value),(n+i=xs.length)∧get l 12=I i∧get l 5=ov∧St prog H H' [⟨ov,2,pr (rB (xs.take i) ys)⟩]) xs.length ?_ ?_
 ·simp(disch:=omega) only[RB,RC,simprocAttr,hn,g1]
  exact⟨0,.slice none 0 0,by omega,rfl,rfl,hS1⟩
 rintro n l H1⟨hn,g1,g4,oO,g11,i,ov,hi,g12,g5,hS2⟩
 simp(disch:=omega) only[↓RA,RB,simprocAttr,hn,g11,g12]
 refine iA (fun q1=> ?_) (fun q1=> ?_)
 ·have hsu:=b1v xs ys i (by omega)
  have hle:=a6Y (xs.take i) ys
  have htl:=List.length_take_le i xs
  simp(disch:=omega) only[↓RA,RZ,simprocAttr,hn,oO,g12,(hS2.sl hv).idx,(hS2.sl hv).ai,jL,q1]
  refine hS2.eNew 2 [I 0,I 0] rfl rfl rfl rM fun A1 H2 hS3=> ?_
  simp only[RT]at hS3
  simp(disch:=omega) only[↓RA,RZ,simprocAttr,hn,q1]
  refine hS3.ae 1 rfl [I (iB xs i).1,I (iB xs i).2] rfl rfl rM (by simp) fun H3 hS4=> ?_
  simp only[RT]at hS4
  simp(disch:=omega) only[↓RA,RZ,simprocAttr,hn,g1,hS4.ai 1 rfl,q1]
  refine iG (c3e w ys (hS4.sl hw) (by omega) hs (iB xs i)) ?_
  rintro r H4⟨k,rfl,hT1⟩
  have hS5:=hS4.trans hT1
  simp only[RT]at hS5
  simp(disch:=omega) only[↓RA,RZ,simprocAttr,hn,q1]
  refine jO (fun q2=> ?_) (fun q2=> ?_)
  ·have hni:¬iB xs i∈ys:=by simpa using q2
   rw[if_neg hni]at hsu
   simp(disch:=omega) only[↓RA,RZ,simprocAttr,hn,g5,hS5.ai 1 rfl,q1,q2]
   refine hS5.ak [I (iB xs i).1,I (iB xs i).2] a1D b8a rfl rfl (by simp[Value.cells]) rfl rfl (by decide) (by decide) fun w1 H5 hS6=> ?_
   simp only[RT]at hS6
   simp(disch:=omega) only[↓RA,RZ,simprocAttr,hn,q1,q2]
   refine hS6.aw 0 rfl (hS6.rd 2 rfl) a1D (by rw[iI];simp only[dV,eI];omega) fun w2 H6 hS7=> ?_
   simp only[RT]at hS7
   simp(disch:=omega) only[↓RA,RZ,simprocAttr,hn,g1,g4,oO,g11,g12,q1,q2]
   refine⟨n-1,by omega,i+1,w2,by omega,by simp,rfl,?_⟩
   rw[hsu,jG]
   exact hS7.pick [0] (by decide) rfl
  have hni:iB xs i∈ys:=by simpa using q2
  rw[if_pos hni,dr]at hsu
  simp(disch:=omega) only[↓RA,RZ,simprocAttr,hn,g1,g4,oO,g11,g12,g5,q1,q2]
  refine⟨n-1,by omega,i+1,ov,by omega,by simp,rfl,?_⟩
  rw[hsu]
  exact hS5.pick [0] (by decide) rfl
 simp(disch:=omega) only[↓RA,RZ,simprocAttr,hn,g5,c7A,q1]
 have hii:i=xs.length:=by omega
 rw[hii,ee]at hS2
 exact hS2
theorem a1K(a:Addr)(m c:Nat):lC prog .eql 167 167 false true (.slice (some a) m c) (.slice none 0 0)=some (.bool false):=by kernel_rfl
theorem vV{v:Value}{a:Addr}{m c:Nat}(h:v=.slice (some a) m c)(K:Value→Prop):lD prog .eql 167 167 false true v (.slice none 0 0) K=pE (.bool false) K:=by
 subst h
 show jY (lC prog .eql 167 167 false true (.slice (some a) m c) (.slice none 0 0)) K=_
 rw[a1K]
 rfl
theorem a1e:lC prog .eql 167 167 false true (.slice none 0 0) (.slice none 0 0)=some (.bool true):=by kernel_rfl
theorem pH(K:Value→Prop):lD prog .eql 167 167 false true (.slice none 0 0) (.slice none 0 0) K=pE (.bool true) K:=by
 show jY (lC prog .eql 167 167 false true (.slice none 0 0) (.slice none 0 0)) K=_
 rw[a1e]
 rfl
theorem b0O(v:Value)(xs:List Ct)(hv:Sl 2 jL H v xs)(hl:xs.length<100000000):Fn prog 107 [v] H fun r H'=>St prog H H' [⟨r,2,xs.flatMap jL⟩]:=by
 rcases hv.rd with⟨rfl,h2⟩|⟨A,i,e,row,ty,rw',lo,ver,m,_,_,_,_,_,_,hvv⟩
 ·have hx:xs=[]:=by
   have:=congrArg List.length h2
   rw[show(xs.flatMap jL).length=xs.length*2 from iO (n:=2) (cel:=jL) (fun _=>rfl) xs,eI]at this
   exact ft.1 (by omega)
  subst hx
  refine .aR func107 rfl (by kernel_rfl) (m:=8) rfl fun l hn g0=> ?_
  have hbe:=pH
  simp(disch:=omega) only[↓RA,RB,simprocAttr,hn,g0,pH]
  have hS1:=(sR H).nil 1
  simp only[RT]at hS1
  simp(disch:=omega) only[RB,simprocAttr,hn,c2n]
  exact hS1
 ·refine .aR func107 rfl (by kernel_rfl) (m:=8) rfl fun l hn g0=> ?_
  simp(disch:=omega) only[↓RA,RB,simprocAttr,hn,g0,vV hvv]
  refine(sR H).bV mJ fun w1 H1 hS1=> ?_
  simp only[RT]at hS1
  simp(disch:=omega) only[↓RA,RZ,simprocAttr,hn,g0]
  refine hS1.aw 0 rfl (hS1.sl hv).rd mJ (by rw[show(xs.flatMap jL).length=xs.length*2 from iO (n:=2) (cel:=jL) (fun _=>rfl) xs];simp;omega) fun w2 H2 hS2=> ?_
  simp only[RT]at hS2
  simp(disch:=omega) only[↓RA,RB,simprocAttr,hn,c2n]
  exact hS2
theorem b4p{m:Nat}(h:m<64):jF [(m:Int)]=(2^m,0):=by
 show rA (0,0) (m:Int)=_
 unfold rA
 rw[if_pos (by omega)]
 simp
theorem b4e{m:Nat}(h:64≤m):jF [(m:Int)]=(0,2^(m-64)):=by
 show rA (0,0) (m:Int)=_
 unfold rA
 rw[if_neg (by omega),show((m:Int)-64).toNat=m-64 by omega]
 simp
theorem b8c(z:Int)(hz:isN z):Fn prog 233 [I z] H fun r H'=>r=.agg #[.int .u64 (jF [z]).1,.int .u64 (jF [z]).2]∧St prog H H' []:=by
 have hz2:=hz.2
 obtain⟨m,rfl⟩:=eZ hz.1
 refine .aR func233 rfl (by kernel_rfl) (m:=14) rfl fun l hn g0=> ?_
 simp(disch:=omega) only[↓RA,RZ,simprocAttr]
 refine(sR H).eNew 2 [(.int .u64 0),(.int .u64 0)] rfl rfl rfl nB fun A1 H1 hS1=> ?_
 simp only[RT]at hS1
 simp(disch:=omega) only[↓RA,RB,simprocAttr,hn,g0]
 refine iA (fun q=> ?_) (fun q=> ?_)
 ·have hw:IntKind.wrap .u64 ((m:Int)-64)=((m-64:Nat):Int):=by rw[mX _ (by omega) (by omega)];omega
  have hp:=b6K (m-64) (by omega)
  simp(disch:=omega) only[↓RA,RZ,simprocAttr,hn,g0,c4C,q,hw,hp]
  refine hS1.ae 0 rfl [(.int .u64 0),_] rfl rfl nB (by simp) fun H2 hS2=> ?_
  simp only[RT]at hS2
  simp(disch:=omega) only[↓RA,RZ,simprocAttr,hn,c2l,hS2.ai 0 rfl,q]
  rw[b4e (by omega)]
  exact⟨rfl,hS2.forget⟩
 have hw:IntKind.wrap .u64 (m:Int)=((m:Nat):Int):=mX _ (by omega) (by omega)
 have hp:=b6K m (by omega)
 simp(disch:=omega) only[↓RA,RZ,simprocAttr,hn,g0,c4y,q,hw,hp]
 refine hS1.ae 0 rfl [_,(.int .u64 0)] rfl rfl nB (by simp) fun H3 hS3=> ?_
 simp only[RT]at hS3
 simp(disch:=omega) only[↓RA,RZ,simprocAttr,hn,c2l,hS3.ai 0 rfl,q]
 rw[b4p (by omega)]
 exact⟨rfl,hS3.forget⟩
theorem b7F(o:Org)(ho:o.In H)(hf:o.Fine)(d:Nat)(z:Int)(hc:kV o ((d:Int),z)=true):Fn prog 199 [.agg #[.string o.name,o.rv,o.dv,o.cv],.agg #[I d,I z]] H fun r H'=>St prog H H' [⟨r,2,(pP o ((d:Int),z)).flatMap ntc⟩]:=by
 have hd1:=hf.dpos
 have hd2:=hf.dlen
 have h:=(kK o _).1 hc
 have hz:=sG hf hc
 simp only[dN]at h
 refine .aI func199 rfl (by kernel_rfl) (m:=18) rfl fun l hn g0 g1=> ?_
 have hlr:(List.replicate o.dvs.length ((0,0):Nt)).length=o.dvs.length:=eN
 simp(disch:=omega) only[↓RA,RB,simprocAttr,g0]
 refine(sR H).eNew 4 [(.string o.name),o.rv,o.dv,o.cv] rfl rfl (by simp[OC,((sR H).sl ho.1).cells.2.1,((sR H).sl ho.2.2.1).cells.2.1,((sR H).sl ho.2.2.2.2.1).cells.2.1]) lP fun A1 H1 hS1=> ?_
 simp only[RT]at hS1
 simp(disch:=omega) only[↓RA,RB,simprocAttr,g1]
 refine hS1.eNew 2 [I d,I z] rfl rfl rfl kY fun A2 H2 hS2=> ?_
 simp only[RT]at hS2
 simp(disch:=omega) only[↓RA,RZ,simprocAttr,hn,hS2.ld 0 rfl,(hS2.sl ho.2.2.1).len]
 refine hS2.cq (cel:=ntc) (x:=(0,0)) o.dvs.length c5s rfl (by omega) fun w1 H3 hS3=> ?_
 simp only[RT]at hS3
 simp(disch:=omega) only[↓RA,RB,simprocAttr,hn]
 refine Wp.aO jZ [(2,6)] (by kernel_rfl) (by kernel_rfl) ?_
 simp(disch:=omega) only[↓RA,RZ,simprocAttr,hn,hS3.ld 1 rfl]
 refine hS3.cF (b8c z hz) fun H4 hS4=> ?_
 simp(disch:=omega) only[↓RA,RZ,simprocAttr,hn,(hS4.ay 2 rfl (fun _=>rfl)).idx]
 refine hS4.aV 2 rfl [(.int .u64 (jF [z]).1),(.int .u64 (jF [z]).2)] rfl rfl nB (by simp) (by rw[show((List.replicate o.dvs.length ((0,0):Nt)).flatMap ntc).length=o.dvs.length*2 from by rw[iO (n:=2) (fun _=>rfl)];simp];simp only[dV,eI];omega) fun H5 hS5=> ?_
 simp only[RT]at hS5
 simp(disch:=omega) only[↓RA,RZ,simprocAttr,hn,hS4.ld 1 rfl,c7z]
 have hset:(((List.replicate o.dvs.length ((0,0):Nt)).flatMap ntc).set (d*2) (.int .u64 (jF [z]).1)).set (d*2+1) (.int .u64 (jF [z]).2)=(pP o ((d:Int),z)).flatMap ntc:=by
  unfold pP
  simp only[dN]
  rw[←rX ((((List.replicate o.dvs.length ((0,0):Nt)).flatMap ntc).set (d*2) _).set (d*2+1) _) (d*2+1+1),←lU,←lU]
  exact a5f (n:=2) (cel:=ntc) (fun _=>rfl) _ d 0 [_,_] (jF [z]) (by simp;omega) (by simp) rfl
 rw[hset]at hS5
 exact hS5.pick [2] (by decide) rfl
theorem a9F(o:Org)(ho:o.In H)(hf:o.Fine)(c:Ct)(hc:kV o c=true):Fn prog 199 [.agg #[.string o.name,o.rv,o.dv,o.cv],.agg #[I c.1,I c.2]] H fun r H'=>St prog H H' [⟨r,2,(pP o c).flatMap ntc⟩]:=by
 obtain⟨d,z⟩:=c
 obtain⟨j,rfl⟩:=eZ ((kK o _).1 hc).1
 exact b7F o ho hf j z hc
theorem b2N(o:Org)(ho:o.In H)(h0:organE o=0)(rg:Reg)(sv:Value)(hr:rg.In H sv)(hrl:rg.stops.length=o.dvs.length)(c:Ct)(hc:kV o c=true):
 Fn prog 149 [.agg #[.string o.name,o.rv,o.dv,o.cv],.agg #[sv,.int .u64 rg.cpl,.int .u64 rg.off],.agg #[I c.1,I c.2]] H fun rr H'=>Slx 2 jL H' (fun B=>H.length≤B) rr (jK o rg [c])∧St prog H H' []:=by
 have hf:=Org.aJ h0
 have hl:=yE o c
 have hokA:=a4H hf hc
 have hEA:=c1t h0 hc
 have hpA:=zS hf hc
 have hd:=hf.dlen
 refine .bg func149 rfl (by kernel_rfl) (m:=13) rfl fun l hn g0 g1 g2=> ?_
 simp(disch:=omega) only[↓RA,RB,simprocAttr,g0]
 refine(sR H).eNew 4 [(.string o.name),o.rv,o.dv,o.cv] rfl rfl (by simp[OC,((sR H).sl ho.1).cells.2.1,((sR H).sl ho.2.2.1).cells.2.1,((sR H).sl ho.2.2.2.2.1).cells.2.1]) lP fun A1 H1 hS1=> ?_
 simp only[RT]at hS1
 simp(disch:=omega) only[↓RA,RB,simprocAttr,g1]
 refine hS1.eNew 3 [sv,(.int .u64 rg.cpl),(.int .u64 rg.off)] rfl rfl (by simp[OC,(hS1.sl hr.1).cells.2.1]) mK fun A2 H2 hS2=> ?_
 simp only[RT]at hS2
 simp(disch:=omega) only[↓RA,RB,simprocAttr,g2]
 refine hS2.eNew 2 [I c.1,I c.2] rfl rfl rfl kY fun A3 H3 hS3=> ?_
 simp only[RT]at hS3
 simp(disch:=omega) only[↓RA,RB,simprocAttr]
 refine Wp.aO jZ [(0,5),(1,5)] (by kernel_rfl) (by kernel_rfl) ?_
 simp(disch:=omega) only[↓RA,RZ,simprocAttr,hn,hS3.ai 0 rfl,hS3.ai 1 rfl,hS3.ai 2 rfl]
 refine iG ((a9F o (ho.ag hS3) hf c hc).tr) ?_
 rintro r H4⟨-,hT1⟩
 have hS4:=hS3.trans hT1
 simp only[RT]at hS4
 obtain⟨av,rfl⟩:∃w,w=r:=⟨r,rfl⟩
 simp(disch:=omega) only[↓RA,RZ,simprocAttr,hn]
 have hSd:=hS4
 refine iG (a4k o (ho.ag hS4) h0 rg sv (hr.ag hS4) hrl av (pP o c) ⟨hS4.ay 3 rfl (fun _=>rfl),by omega,hokA⟩ hEA) ?_
 rintro r H5⟨hx,hT2⟩
 have hS5:=hS4.trans hT2
 simp only[RT]at hS5
 rw[hpA]at hx
 simp(disch:=omega) only[↓RA,RZ,simprocAttr,hn,hS4.ai 0 rfl,hS4.ai 1 rfl,c6F]
 refine⟨⟨hx.1,fun B h=> ?_⟩,hS5.forget⟩
 have:=hx.2 B h
 have:H.length≤_:=hSd.len
 omega
end Go.Ds
namespace Go.Ds
open Go.Proofs
set_option maxRecDepth 10000
theorem b3q{xs ys:List Ct}(h:∀x∈xs,x∈ys):rB xs ys=[]:=by
 unfold rB
 rw[gw]
 intro x hx
 simp[h x hx]
section
variable {o:Org} {b:Nat→Nat} {l:List Ct}
end
def uR(o:Org)(p:Ct):Int:=iB (iB o.ranks p.1.toNat).wind p.2.toNat
def tB(o:Org)(l:List Ct):Int:=l.foldl (fun n p=>nF (n+uR o p)) 0
theorem a9s(o:Org)(l:List Ct)(i:Nat)(h:i<l.length):tB o (l.take (i+1))=nF (tB o (l.take i)+uR o (iB l i)):=by
 unfold tB
 rw[kH l i h,fC]
 rfl
def nT(o:Org)(l:List Ct):Int:=(l.map (uR o)).sum
theorem b8u(a:Int):nF a=if a%18446744073709551616≥9223372036854775808 then a%18446744073709551616-18446744073709551616 else a%18446744073709551616:=by
 show IntKind.wrap .i64 a=_
 unfold IntKind.wrap
 simp[IntKind.bits,IntKind.signed]
theorem c1e(a b:Int):nF (nF a+b)=nF (a+b):=by
 simp only[b8u]
 (repeat' split)<;>omega
theorem a5H{a:Int}(h1: -9223372036854775808≤a)(h2:a<9223372036854775808):nF a=a:=by
 rw[b8u]
 split<;>omega
theorem qZ(o:Org)(p:Ct)(l:List Ct):nT o (p::l)=uR o p+nT o l:=by simp[nT]
theorem a2j(o:Org):∀(l:List Ct)(a:Int),l.foldl (fun n p=>nF (n+uR o p)) (nF a)=nF (a+nT o l)
 | [],a=>by simp[nT]
 | p::l,a=>by
   rw[eQ,c1e,a2j o l,qZ,Int.add_assoc]
theorem b7T(o:Org)(l:List Ct):tB o l=nF (nT o l):=by
 have:=a2j o l 0
 rw[a5H (by decide) (by decide),Int.zero_add]at this
 exact this
theorem a1C(o:Org)(q:Ct→Bool):∀l:List Ct,nT o (l.filter q)+nT o (l.filter fun c=> !q c)=nT o l
 | []=>rfl
 | p::l=>by
   have ih:=a1C o q l
   rw[iu,iu,qZ]
   cases q p
   ·simp only[ia,if_true,qZ]
    rw[if_neg (by decide)]
    omega
   ·simp only[Bool.not_true,if_true,qZ]
    rw[if_neg (by decide)]
    omega
theorem b4O{A B:List Ct}(hA:A.Pairwise tN)(hB:B.Pairwise tN)(h:∀x∈B,x∈A):A.filter (fun c=>decide (c∈B))=B:=
 pN _ _ (hA.filter _) hB fun x=>by
  rw[dZ,decide_eq_true_eq]
  exact⟨fun h=>h.2,fun hx=>⟨h x hx,hx⟩⟩
theorem b1b{o:Org}{A B:List Ct}(hA:A.Pairwise tN)(hB:B.Pairwise tN)(h:∀x∈B,x∈A):nT o B+nT o (rB A B)=nT o A:=by
 have e:=a1C o (fun c=>decide (c∈B)) A
 rw[b4O hA hB h]at e
 exact e
theorem Org.cK{o:Org}(h:organE o=0):∀j,j<o.ranks.length→rankE (iB o.ranks j)=0:=by
 unfold organE at h
 split at h
 ·omega
 split at h
 ·omega
 split at h
 ·rename_i hh;exact absurd h hh
 rename_i h3
 have h3:=dy.1 h3
 intro j hj
 have e:=oM h3 j hj
 unfold oI at e
 split at e
 ·exact e
 ·rename_i h4;exact dy.1 h4
theorem c0V{o:Org}(h:organE o=0){j:Nat}(hj:j<o.ranks.length){i:Nat}(hi:i<(iB o.ranks j).wind.length):0≤iB (iB o.ranks j).wind i∧iB (iB o.ranks j).wind i≤1000000:=by
 have e:=Org.cK h j hj
 unfold rankE at e
 split at e
 ·omega
 split at e
 ·rename_i hh;exact absurd e hh
 split at e
 ·omega
 split at e
 ·omega
 split at e
 ·omega
 unfold xX at e
 split at e
 ·omega
 rename_i hw
 have hn:=iD hi
 have h2:¬(decide (iB (iB o.ranks j).wind i<0)||decide (1000000<iB (iB o.ranks j).wind i))=true:=fun e=>hw (gm.2 ⟨_,hn,e⟩)
 simp only[eE,decide_eq_true_eq]at h2
 omega
theorem b7v{o:Org}(h:organE o=0){p:Ct}(hp:IsP o p):0≤uR o p∧uR o p≤1000000:=
 c0V h (by have:=hp.1;have:=hp.2.1;omega) (by have:=hp.2.2.1;have:=hp.2.2.2;omega)
theorem zX{o:Org}(h:organE o=0):∀{l:List Ct},(∀p∈l,IsP o p)→0≤nT o l∧nT o l≤1000000*l.length
 | [],_=>by simp[nT]
 | p::l,hl=>by
   have h1:=b7v h (hl p (dK ..))
   have h2:=zX h (l:=l) fun x hx=>hl x (dR _ hx)
   rw[qZ,dV]
   omega
theorem b2E{o:Org}(h:organE o=0){l:List Ct}(hl:∀p∈l,IsP o p)(hle:l.length≤1000000):tB o l=nT o l:=by
 have h1:=zX h hl
 rw[b7T,a5H (by omega) (by omega)]
theorem b0v{o:Org}(h:organE o=0){A B:List Ct}(hA:A.Pairwise tN)(hB:B.Pairwise tN)(hAB:∀x∈B,x∈A)(hP:∀p∈A,IsP o p):nT o B≤nT o A:=by
 have h1:=b1b (o:=o) hA hB hAB
 have h2:=zX h (l:=rB A B) fun p hp=>hP p (dZ.1 hp).1
 omega
end Go.Ds
namespace Go.Ds
open Go.Proofs Go.Proofs.Tryz
variable {H:Heap}
set_option maxRecDepth 10000
set_option maxHeartbeats 1000000
theorem a2T(o:Org)(ho:o.In H)(v:Value)(ps:List Ct)(hv:Sl 2 jL H v ps)(hl:ps.length<100000000)(hp:∀p∈ps,IsP o p):
 Fn prog 52 [.agg #[.string o.name,o.rv,o.dv,o.cv],v] H fun r H'=>r=I (tB o ps)∧St prog H H' []:=by
 refine .aI func52 rfl (by kernel_rfl) (m:=29) rfl fun l hn g0 g1=> ?_
 simp(disch:=omega) only[↓RA,RB,simprocAttr,g0]
 refine(sR H).eNew 4 [(.string o.name),o.rv,o.dv,o.cv] rfl rfl (by simp[OC,((sR H).sl ho.1).cells.2.1,((sR H).sl ho.2.2.1).cells.2.1,((sR H).sl ho.2.2.2.2.1).cells.2.1]) lP fun A1 H1 hS1=> ?_
 simp only[RT]at hS1
 simp(disch:=omega) only[↓RA,RZ,simprocAttr,hn,g1,(hS1.sl hv).len]
 refine Wp.aq (fun n l H'=>l.length=29∧get l 2=(ptr A1 0 4)∧get l 4=I 0∧get l 8=v∧get l 9=I ps.length∧∃(i:Nat),(n+i=ps.length)∧get l 10=I i∧get l 5=I (tB o (ps.take i))∧St prog H H' [⟨ptr A1 0 4,0,[(.string o.name),o.rv,o.dv,o.cv]⟩]) ps.length ?_ ?_
 ·simp(disch:=omega) only[RB,RC,simprocAttr,hn]
  exact⟨0,by omega,rfl,rfl,hS1⟩
 rintro n l H2⟨hn,g2,g4,g8,g9,i,hi,oO,g5,hS2⟩
 simp(disch:=omega) only[↓RA,RB,simprocAttr,hn,g9,oO]
 refine iA (fun q1=> ?_) (fun q1=> ?_)
 ·have hpi:=hp _ (iD (xs:=ps) (j:=i) (by omega))
  obtain⟨e,he⟩:∃e:Nat,(iB ps i).1=e:=⟨(iB ps i).1.toNat,by have:=hpi.1;omega⟩
  obtain⟨f,hf⟩:∃f:Nat,(iB ps i).2=f:=⟨(iB ps i).2.toNat,by have:=hpi.2.2.1;omega⟩
  have hel:e<o.ranks.length:=by have:=hpi.2.1;omega
  have hfl:f<(iB o.ranks e).wind.length:=by
   have:=hpi.2.2.2
   rw[he,dN]at this
   omega
  have hsu:=a9s o ps i (by omega)
  have hwt:uR o (iB ps i)=iB (iB o.ranks e).wind f:=by unfold uR;rw[he,hf,dN,dN]
  rw[hwt]at hsu
  simp(disch:=omega) only[↓RA,RZ,simprocAttr,hn,g8,oO,(hS2.sl hv).idx,(hS2.sl hv).ai,jL,q1]
  refine hS2.eNew 2 [I 0,I 0] rfl rfl rfl rM fun A2 H3 hS3=> ?_
  simp only[RT]at hS3
  simp(disch:=omega) only[↓RA,RZ,simprocAttr,hn,q1]
  refine hS3.ae 1 rfl [I (iB ps i).1,I (iB ps i).2] rfl rfl rM (by simp) fun H4 hS4=> ?_
  simp only[RT]at hS4
  simp(disch:=omega) only[↓RA,RZ,simprocAttr,q1]
  refine Wp.drw jZ (by kernel_rfl) ?_
  simp(disch:=omega) only[↓RA,RZ,simprocAttr,hn,g2,g5,hS4.ld 0 rfl]
  simp(disch:=omega) only[↓RA,RZ,simprocAttr,hn,g2,g4,g8,g9,oO,hS4.ld 1 rfl,(hS4.sl ho.1).idx,(hS4.sl ho.1).ba,(hS4.sl ho.1).ld,Rk.cells,(hS4.sl (ho.2.1 (iB o.ranks e) (iD (by omega))).1).idx,(hS4.sl (ho.2.1 (iB o.ranks e) (iD (by omega))).1).ld,one,he,hf]
  refine⟨n-1,by omega,i+1,by omega,by simp,?_,hS4.pick [0] (by decide) rfl⟩
  first|(rw[hsu];done)|(rw[hsu];rfl)|(rw[hsu];simp)
 simp(disch:=omega) only[↓RA,RZ,simprocAttr,hn,g5,c7R,q1]
 have hii:i=ps.length:=by omega
 rw[hii,ee]
 exact⟨rfl,hS2.forget⟩
theorem b1Y{o:Org}{rg:Reg}{ks:List Nt}:∀p∈oA o rg ks,IsP o p:=by
 intro p hp
 unfold oA at hp
 split at hp
 ·exact pM hp
 ·exact absurd hp ef
theorem b5l{o:Org}{rg:Reg}{ks:List Nt}(hok:∀x∈ks,Nt.Ok x):(oA o rg ks).length≤1000000:=by
 unfold oA
 split
 ·rename_i h
  obtain⟨h1,h2⟩:=vO h
  exact sL (Org.aJ (lX h1).1) rg (qV h2) (nE (pX hok h2))
 ·simp
def a3Z(o:Org)(rg:Reg)(ks:List Nt):Int:=tB o (oA o rg ks)
theorem b0D(hG:Glob gH H)(o:Org)(ho:o.In H)(rg:Reg)(sv:Value)(hr:rg.In H sv)(kv:Value)(ks:List Nt)(hk:Ks H kv ks):
 Fn prog 17 [.agg #[.string o.name,o.rv,o.dv,o.cv],.agg #[sv,.int .u64 rg.cpl,.int .u64 rg.off],kv] H fun r H'=>r=.tuple #[I (a3Z o rg ks),I (rkE o rg ks)]∧St prog H H' []:=by
 have hle:=b5l (o:=o) (rg:=rg) hk.ok
 refine .bg func17 rfl (by kernel_rfl) (m:=23) rfl fun l hn g0 g1 g2=> ?_
 simp(disch:=omega) only[↓RA,RB,simprocAttr,g0]
 refine(sR H).eNew 4 [(.string o.name),o.rv,o.dv,o.cv] rfl rfl (by simp[OC,((sR H).sl ho.1).cells.2.1,((sR H).sl ho.2.2.1).cells.2.1,((sR H).sl ho.2.2.2.2.1).cells.2.1]) lP fun A1 H1 hS1=> ?_
 simp only[RT]at hS1
 simp(disch:=omega) only[↓RA,RB,simprocAttr,g1]
 refine hS1.eNew 3 [sv,(.int .u64 rg.cpl),(.int .u64 rg.off)] rfl rfl (by simp[OC,(hS1.sl hr.1).cells.2.1]) mK fun A2 H2 hS2=> ?_
 simp only[RT]at hS2
 simp(disch:=omega) only[↓RA,RZ,simprocAttr,hn,g2,hS2.ai 0 rfl,hS2.ai 1 rfl]
 refine iG (a1q (hS2.gl hG) o (ho.ag hS2) rg sv (hr.ag hS2) kv ks (hk.ag hS2)) ?_
 rintro r H3⟨pv,rfl,hx,hT1⟩
 have hS3:=hS2.trans hT1
 simp only[RT]at hS3
 simp(disch:=omega) only[↓RA,RB,simprocAttr,hn]
 refine iA (fun h1=> ?_) (fun h1=> ?_)
 ·have hs:a3Z o rg ks=0:=by unfold a3Z oA;rw[if_neg h1];rfl
  simp(disch:=omega) only[↓RA,RZ,simprocAttr,hn,c6M,h1]
  exact⟨by rw[hs],hS3.forget⟩
 have h0:=dy.1 h1
 simp(disch:=omega) only[↓RA,RZ,simprocAttr,hn,hS3.ai 0 rfl,h1]
 refine hS3.cF (a2T o (ho.ag hS3) pv (oA o rg ks) hx.1 (by omega) b1Y) fun H4 hS4=> ?_
 simp(disch:=omega) only[↓RA,RZ,simprocAttr,hn,c6M,h1]
 rw[h0]
 exact⟨rfl,hS4.forget⟩
def sY(o:Org)(rg:Reg)(c:Ct):Int:=tB o (ofF o rg c)
theorem c2S{o:Org}{rg:Reg}{c:Ct}:(ofF o rg c).length≤1000000:=by
 by_cases h:a0t o rg c=0
 ·exact c4K (Org.aJ (lX (a0s h).1).1) rg c
 ·unfold ofF
  rw[if_neg h]
  simp
theorem b2m(o:Org)(ho:o.In H)(rg:Reg)(sv:Value)(hr:rg.In H sv)(c:Ct):
 Fn prog 14 [.agg #[.string o.name,o.rv,o.dv,o.cv],.agg #[sv,.int .u64 rg.cpl,.int .u64 rg.off],.agg #[I c.1,I c.2]] H fun r H'=>r=.tuple #[I (sY o rg c),I (a0t o rg c)]∧St prog H H' []:=by
 have hle:=c2S (o:=o) (rg:=rg) (c:=c)
 refine .bg func14 rfl (by kernel_rfl) (m:=23) rfl fun l hn g0 g1 g2=> ?_
 simp(disch:=omega) only[↓RA,RB,simprocAttr,g0]
 refine(sR H).eNew 4 [(.string o.name),o.rv,o.dv,o.cv] rfl rfl (by simp[OC,((sR H).sl ho.1).cells.2.1,((sR H).sl ho.2.2.1).cells.2.1,((sR H).sl ho.2.2.2.2.1).cells.2.1]) lP fun A1 H1 hS1=> ?_
 simp only[RT]at hS1
 simp(disch:=omega) only[↓RA,RB,simprocAttr,g1]
 refine hS1.eNew 3 [sv,(.int .u64 rg.cpl),(.int .u64 rg.off)] rfl rfl (by simp[OC,(hS1.sl hr.1).cells.2.1]) mK fun A2 H2 hS2=> ?_
 simp only[RT]at hS2
 simp(disch:=omega) only[↓RA,RB,simprocAttr,g2]
 refine hS2.eNew 2 [I c.1,I c.2] rfl rfl rfl kY fun A3 H3 hS3=> ?_
 simp only[RT]at hS3
 simp(disch:=omega) only[↓RA,RZ,simprocAttr,hn,hS3.ai 0 rfl,hS3.ai 1 rfl,hS3.ai 2 rfl]
 refine iG (c7j o (ho.ag hS3) rg sv (hr.ag hS3) c) ?_
 rintro r H4⟨pv,rfl,hx,hT1⟩
 have hS4:=hS3.trans hT1
 simp only[RT]at hS4
 simp(disch:=omega) only[↓RA,RB,simprocAttr,hn]
 refine iA (fun h1=> ?_) (fun h1=> ?_)
 ·have hs:sY o rg c=0:=by unfold sY ofF;rw[if_neg h1];rfl
  simp(disch:=omega) only[↓RA,RZ,simprocAttr,hn,c6s,h1]
  exact⟨by rw[hs],hS4.forget⟩
 have h0:=dy.1 h1
 simp(disch:=omega) only[↓RA,RZ,simprocAttr,hn,hS4.ai 0 rfl,h1]
 refine hS4.cF (a2T o (ho.ag hS4) pv (ofF o rg c) hx.1 (by omega) (fun p hp=>b9I hp)) fun H5 hS5=> ?_
 simp(disch:=omega) only[↓RA,RZ,simprocAttr,hn,c6s,h1]
 rw[h0]
 exact⟨rfl,hS5.forget⟩
end Go.Ds
namespace Go.Ds
open Go.Proofs
set_option maxRecDepth 10000
def a7c(o:Org):List Nt:=o.dvs.map fun d=>yA d.lo d.hi
theorem a4l(o:Org):(a7c o).length=o.dvs.length:=by simp[a7c]
theorem a4y{o:Org}{i:Nat}(hi:i<o.dvs.length):iB (a7c o) i=yA (iB o.dvs i).lo (iB o.dvs i).hi:=by
 rw[jM _ i (by rw[a4l];exact hi)]
 simp[a7c,jM _ i hi]
theorem c4S{o:Org}(hf:o.Fine){x:Ct}:x∈iF (a7c o)↔kV o x=true:=by
 rw[rV,a4l,kK]
 constructor
 ·rintro⟨⟨h1,h2⟩,h3,h4⟩
  have hj:x.1.toNat<o.dvs.length:=by omega
  have hk:=hf.keys _ hj
  rw[a4y hj,sI hk.1 hk.2.2 h3,cY,decide_eq_true_eq,decide_eq_true_eq]at h4
  exact⟨h1,h2,h4⟩
 ·rintro⟨h1,h2,h3,h4⟩
  have hj:x.1.toNat<o.dvs.length:=by omega
  have hk:=hf.keys _ hj
  have hz:isN x.2:=⟨by omega,by omega⟩
  refine⟨⟨h1,h2⟩,hz,?_⟩
  rw[a4y hj,sI hk.1 hk.2.2 hz,cY,decide_eq_true_eq,decide_eq_true_eq]
  exact⟨h3,h4⟩
def pS:Nat→Nat:=fun _=>65535
theorem c6B:∀j,j<16→(65535:Nat).testBit j=true:=by decide
theorem c0d{o:Org}(hf:o.Fine)(hw:∀j,j<o.dvs.length→(iB o.dvs j).hi≤(iB o.dvs j).lo+8){x:Ct}:x∈iF (mB o pS)↔kV o x=true:=by
 rw[rV,oX,kK]
 have key:∀j,j<o.dvs.length→∀z,isN z→(nG (xA o pS j) z=true↔(iB o.dvs j).lo≤z∧z≤(iB o.dvs j).hi):=fun j hj z hz=>by
  have hL:=sQ hf (pS (j%3)) hj
  rw[xA,uB (fun n hn=>(hL n hn).1) hz,decide_eq_true_eq]
  refine⟨fun h=>(hL z h).2,fun⟨h1,h2⟩=> ?_⟩
  have h3:=hw j hj
  unfold a1O
  refine dC.2 ⟨(z-(iB o.dvs j).lo).toNat,dZ.2 ⟨dx.2 ?_,c6B _ (by omega)⟩,by omega⟩
  unfold wA
  omega
 constructor
 ·rintro⟨⟨h1,h2⟩,h3,h4⟩
  have hj:x.1.toNat<o.dvs.length:=by omega
  rw[tM hj,key _ hj _ h3]at h4
  exact⟨h1,h2,h4⟩
 ·rintro⟨h1,h2,h3,h4⟩
  have hj:x.1.toNat<o.dvs.length:=by omega
  have hk:=hf.keys _ hj
  have hz:isN x.2:=⟨by omega,by omega⟩
  refine⟨⟨h1,h2⟩,hz,?_⟩
  rw[tM hj,key _ hj _ hz]
  exact⟨h3,h4⟩
theorem b3P{o:Org}(hf:o.Fine){r:Reg}{l m:List Ct}(h:∀x∈l,x∈m):∀p∈jK o r l,p∈jK o r m:=by
 intro p hp
 obtain⟨c,hc,x,h1,h2⟩:=(oG hf).1 hp
 exact(oG hf).2 ⟨c,h c hc,x,h1,h2⟩
def grS(f:Ct→Int)(a:Ct×Int)(c:Ct):Ct×Int:=if f c>a.2 then(c,f c)else a
def grF(f:Ct→Int)(l:List Ct)(a:Ct×Int):Ct×Int:=l.foldl (grS f) a
theorem b9V(f:Ct→Int)(l:List Ct)(c:Ct)(a:Ct×Int):grF f (l++[c]) a=grS f (grF f l a) c:=by
 unfold grF
 rw[fC]
 rfl
end Go.Ds
namespace Go.Ds
open Go.Proofs Go.Proofs.Tryz
variable {H:Heap}
set_option maxRecDepth 10000
set_option maxHeartbeats 1000000
structure Kv where
 v:Value
 l:List Nt
 deriving Inhabited
def Kv.cells(k:Kv):List Value:=[k.v]
def Kv.In(H:Heap)(k:Kv):Prop:=Ks H k.v k.l
theorem Kv.In.ag{P:Program}{H':Heap}{k:Kv}{os:List Ob}(h:k.In H)(hS:St P H H' os):k.In H':=Ks.ag h hS
def a1s(o:Org)(rg:Reg)(l:List Kv):Int:=if organE o≠0 then organE o else if nJ o rg≠0 then nJ o rg else if 200<l.length then 4 else lL (fun j=>mI o (iB l j).l) l.length
theorem c1h(o:Org)(ho:o.In H)(rg:Reg)(sv:Value)(hr:rg.In H sv)(lv:Value)(ls:List Kv)(hl:Sl 1 Kv.cells H lv ls)(hle:ls.length<1000000000)(hk:∀k∈ls,k.In H):
 Fn prog 100 [.agg #[.string o.name,o.rv,o.dv,o.cv],.agg #[sv,.int .u64 rg.cpl,.int .u64 rg.off],lv] H fun r H'=>r=I (a1s o rg ls)∧St prog H H' []:=by
 have hlc:=hl.cells
 refine .bg func100 rfl (by kernel_rfl) (m:=39) rfl fun l hn g0 g1 g2=> ?_
 simp(disch:=omega) only[↓RA,RB,simprocAttr,g0]
 refine(sR H).eNew 4 [(.string o.name),o.rv,o.dv,o.cv] rfl rfl (by simp[OC,((sR H).sl ho.1).cells.2.1,((sR H).sl ho.2.2.1).cells.2.1,((sR H).sl ho.2.2.2.2.1).cells.2.1]) lP fun A1 H1 hS1=> ?_
 simp only[RT]at hS1
 simp(disch:=omega) only[↓RA,RB,simprocAttr,g1]
 refine hS1.eNew 3 [sv,(.int .u64 rg.cpl),(.int .u64 rg.off)] rfl rfl (by simp[OC,(hS1.sl hr.1).cells.2.1]) mK fun A2 H2 hS2=> ?_
 simp only[RT]at hS2
 simp(disch:=omega) only[↓RA,RZ,simprocAttr,hn,hS2.ai 0 rfl]
 refine hS2.cF (a0a o (ho.ag hS2)) fun H3 hS3=> ?_
 simp(disch:=omega) only[↓RA,RB,simprocAttr,hn]
 refine iA (fun h1=> ?_) (fun h1=> ?_)
 ·simp(disch:=omega) only[↓RA,RZ,simprocAttr,hn,a8O,h1]
  exact⟨by rw[a1s,if_pos h1],hS3.forget⟩
 simp(disch:=omega) only[↓RA,RZ,simprocAttr,hn,hS3.ai 0 rfl,hS3.ai 1 rfl,h1]
 refine hS3.cF (b7B o (ho.ag hS3) rg sv (hr.ag hS3)) fun H4 hS4=> ?_
 simp(disch:=omega) only[↓RA,RZ,simprocAttr,hn,h1]
 refine iA (fun h2=> ?_) (fun h2=> ?_)
 ·simp(disch:=omega) only[↓RA,RZ,simprocAttr,hn,a8O,h1,h2]
  exact⟨by rw[a1s,if_neg h1,if_pos h2],hS4.forget⟩
 simp(disch:=omega) only[↓RA,RZ,simprocAttr,hn,g2,(hS4.sl hl).len,h1,h2]
 refine iA (fun h3=> ?_) (fun h3=> ?_)
 ·simp(disch:=omega) only[↓RA,RZ,simprocAttr,hn,a8O,h1,h2,h3]
  exact⟨by rw[a1s,if_neg h1,if_neg h2,if_pos (by omega)],hS4.forget⟩
 have hE:a1s o rg ls=lL (fun j=>mI o (iB ls j).l) ls.length:=by rw[a1s,if_neg h1,if_neg h2,if_neg (by omega)]
 simp(disch:=omega) only[↓RA,RZ,simprocAttr,hn,g2,(hS4.sl hl).len,h1,h2,h3]
 refine Wp.aq (fun n l H'=>l.length=39∧get l 3=(ptr A1 0 4)∧get l 26=lv∧get l 27=I ls.length∧∃(j:Nat),(n+j=ls.length∧∀q,q<j→mI o (iB ls q).l=0)∧get l 28=I j∧St prog H H' [⟨ptr A1 0 4,0,[(.string o.name),o.rv,o.dv,o.cv]⟩,⟨ptr A2 0 3,0,[sv,(.int .u64 rg.cpl),(.int .u64 rg.off)]⟩]) ls.length ?_ ?_
 ·simp(disch:=omega) only[RB,RC,simprocAttr,hn]
  exact⟨0,⟨by omega,fun q hq=>absurd hq (dM _)⟩,rfl,hS4⟩
 rintro n l H5⟨hn,g3,g26,g27,j,⟨hj,hz⟩,g28,hS5⟩
 simp(disch:=omega) only[↓RA,RB,simprocAttr,hn,g27,g28]
 refine iA (fun q1=> ?_) (fun q1=> ?_)
 ·simp(disch:=omega) only[↓RA,RZ,simprocAttr,hn,g3,g26,g28,(hS5.sl hl).idx,(hS5.sl hl).ld,Kv.cells,hS5.ai 0 rfl,q1]
  refine hS5.cF (a7O o (ho.ag hS5) (iB ls j).v (iB ls j).l ((hk _ (iD (by omega))).ag hS5)) fun H6 hS6=> ?_
  simp(disch:=omega) only[↓RA,RZ,simprocAttr,hn,q1]
  refine iA (fun q2=> ?_) (fun q2=> ?_)
  ·simp(disch:=omega) only[↓RA,RZ,simprocAttr,hn,a8O,q1,q2]
   exact⟨by rw[hE,nU (fun j=>mI o (iB ls j).l) ls.length j (by omega) q2 hz],hS6.forget⟩
  simp(disch:=omega) only[↓RA,RZ,simprocAttr,hn,g3,g26,g27,g28,q1,q2]
  exact⟨n-1,by omega,j+1,⟨by omega,fun q hq=>by rcases dw.1 hq with e|e;(· exact hz q e);(· rw[e];exact dy.1 q2)⟩,by simp,hS6.pick [0,1] (by decide) rfl⟩
 simp(disch:=omega) only[↓RA,RZ,simprocAttr,hn,a8O,q1]
 exact⟨by rw[hE,kM (fun j=>mI o (iB ls j).l) ls.length fun q hq=>hz q (by omega)],hS5.forget⟩
end Go.Ds
namespace Go.Ds
open Go.Proofs
variable {H:Heap}
set_option maxRecDepth 10000
set_option maxHeartbeats 1000000
end Go.Ds
namespace Go.Ds
open Go.Proofs Go.Proofs.Tryz
variable {H:Heap}
set_option maxRecDepth 10000
set_option maxHeartbeats 1000000
def yY(o:Org)(rg:Reg)(ks:List Nt)(c:Ct):Int:=if rkE o rg ks≠0 then rkE o rg ks else vL o c
def adF(o:Org)(rg:Reg)(ks:List Nt)(c:Ct):List Ct:=if yY o rg ks c=0 then rB (jK o rg (iF ks++[c])) (jK o rg (iF ks))else[]
theorem b7y(hG:Glob gH H)(o:Org)(ho:o.In H)(hdv:o.dvs.length≤7)(rg:Reg)(sv:Value)(hr:rg.In H sv)(kv:Value)(ks:List Nt)(hk:Ks H kv ks)(c:Ct):
 Fn prog 53 [.agg #[.string o.name,o.rv,o.dv,o.cv],.agg #[sv,.int .u64 rg.cpl,.int .u64 rg.off],kv,.agg #[I c.1,I c.2]] H fun r H'=>∃v,r=.tuple #[v,I (yY o rg ks c)]∧Slx 2 jL H' (fun B=>H.length≤B) v (adF o rg ks c)∧St prog H H' []:=by
 have hnil:∀{H':Heap},Slx 2 jL H' (fun B=>H.length≤B) (.slice none 0 0) ([]:List Ct):=fun{H'}=>⟨⟨.inl ⟨rfl,rfl⟩,jR,by decide⟩,fun b h=>by simp[kL]at h⟩
 refine .cM func53 rfl (by kernel_rfl) (m:=42) rfl fun l hn g0 g1 g2 g3=> ?_
 simp(disch:=omega) only[↓RA,RB,simprocAttr,g0]
 refine(sR H).eNew 4 [(.string o.name),o.rv,o.dv,o.cv] rfl rfl (by simp[OC,((sR H).sl ho.1).cells.2.1,((sR H).sl ho.2.2.1).cells.2.1,((sR H).sl ho.2.2.2.2.1).cells.2.1]) lP fun A1 H1 hS1=> ?_
 simp only[RT]at hS1
 simp(disch:=omega) only[↓RA,RB,simprocAttr,g1]
 refine hS1.eNew 3 [sv,(.int .u64 rg.cpl),(.int .u64 rg.off)] rfl rfl (by simp[OC,(hS1.sl hr.1).cells.2.1]) mK fun A2 H2 hS2=> ?_
 simp only[RT]at hS2
 simp(disch:=omega) only[↓RA,RB,simprocAttr,g3]
 refine hS2.eNew 2 [I c.1,I c.2] rfl rfl rfl kY fun A3 H3 hS3=> ?_
 simp only[RT]at hS3
 simp(disch:=omega) only[↓RA,RZ,simprocAttr,hn,hS3.ai 0 rfl,hS3.ai 1 rfl]
 refine hS3.ak [sv,(.int .u64 rg.cpl),(.int .u64 rg.off)] b8M b5L rfl rfl (by first|(simp[];done)|simp[Value.cells]) (by first|(simp[];done)|simp[Value.cells]) (by simp[OC,(hS3.sl hr.1).cells.2.1]) (by decide) (by decide) fun w1 H4 hS4=> ?_
 simp only[RT]at hS4
 simp(disch:=omega) only[↓RA,RZ,simprocAttr,hn,g2]
 refine hS4.cF (b8D o (ho.ag hS4) w1 [(sv,rg)] (hS4.ay 3 rfl (fun _=>rfl)) (by simp) (by intro p hp;rw[dB.1 hp];exact hr.ag hS4) kv ks (hk.ag hS4)) fun H5 hS5=> ?_
 have hsc:=a7T o sv rg ks
 simp(disch:=omega) only[↓RA,RB,simprocAttr,hn,hsc]
 refine iA (fun h1=> ?_) (fun h1=> ?_)
 ·have hd:yY o rg ks c=rkE o rg ks:=by rw[yY,if_pos h1]
  simp(disch:=omega) only[↓RA,RZ,simprocAttr,hn,c4e,hsc,h1]
  rw[hd,adF,if_neg (by rw[hd];exact h1)]
  exact⟨.slice none 0 0,rfl,hnil,hS5.forget⟩
 have hd:yY o rg ks c=vL o c:=by rw[yY,if_neg h1]
 have h0:=dy.1 h1
 simp(disch:=omega) only[↓RA,RZ,simprocAttr,hn,hS5.ai 0 rfl,hS5.ai 2 rfl,hsc,h1]
 refine hS5.cF (tP o (ho.ag hS5) c) fun H6 hS6=> ?_
 simp(disch:=omega) only[↓RA,RZ,simprocAttr,hn,hsc,h1]
 refine iA (fun h2=> ?_) (fun h2=> ?_)
 ·simp(disch:=omega) only[↓RA,RZ,simprocAttr,hn,c4e,hsc,h1,h2]
  rw[hd,adF,if_neg (by rw[hd];exact h2)]
  exact⟨.slice none 0 0,rfl,hnil,hS6.forget⟩
 have h3:=dy.1 h2
 have hc:=(mT o c).1 h3
 obtain⟨hz1,hz2⟩:=vO h0
 obtain⟨hz3,hz4⟩:=lX hz1
 have hf:=Org.aJ hz3
 have hplc:=pX hk.ok hz2
 have hkl:=(oH hz2).2.1
 have hpl:=a6U ks ks.length
 have hpl2:(iF ks).length≤896:=by unfold iF;omega
 have hpll:=qV hz2
 have hplc2:∀x∈iF ks++[c],kV o x=true:=fun x hx=>by
  rcases dG.1 hx with h|h
  ·exact hplc x h
  ·rw[dB.1 h];exact hc
 have hpll2:(iF ks++[c]).length≤1024:=by rw[dq,gD];omega
 rw[hd,h3,adF,if_pos (by rw[hd];exact h3)]
 simp(disch:=omega) only[↓RA,RZ,simprocAttr,hn,g2,hsc,h1]
 refine iG ((a4G (hS6.gl hG) kv ks (hk.ag hS6) (by omega)).tr) ?_
 rintro r H7⟨-,hT3⟩
 have hS7:=hS6.trans hT3
 simp only[RT]at hS7
 obtain⟨pv,rfl⟩:∃w,w=r:=⟨r,rfl⟩
 simp(disch:=omega) only[↓RA,RZ,simprocAttr,hn,hsc,h1]
 refine Wp.aO jZ [(0,4),(0,7),(1,4),(1,7),(4,0),(8,0),(8,4),(8,7),(9,0),(9,4),(9,7)] (by kernel_rfl) (by kernel_rfl) ?_
 simp(disch:=omega) only[↓RA,RZ,simprocAttr,hn,hS7.ai 0 rfl,hS7.ai 1 rfl]
 refine iG ((b0O pv (iF ks) (hS7.ay 4 rfl jR) (by omega)).tr) ?_
 rintro r H8⟨-,hT4⟩
 have hS8:=hS7.trans hT4
 simp only[RT]at hS8
 obtain⟨qv,rfl⟩:∃w,w=r:=⟨r,rfl⟩
 simp(disch:=omega) only[↓RA,RZ,simprocAttr,hn,hS8.ai 2 rfl]
 refine hS8.ak [I c.1,I c.2] mJ uL rfl rfl (by simp[Value.cells]) rfl rfl (by decide) (by decide) fun w2 H9 hS9=> ?_
 simp only[RT]at hS9
 simp(disch:=omega) only[↓RA,RZ,simprocAttr,hn]
 refine hS9.aw 5 rfl (hS9.rd 6 rfl) mJ (by rw[show((iF ks).flatMap jL).length=(iF ks).length*2 from iI _];simp only[dV,eI];omega) fun w3 H10 hS10=> ?_
 simp only[RT]at hS10
 simp(disch:=omega) only[↓RA,RZ,simprocAttr,hn]
 have happ:(iF ks).flatMap jL++[I c.1,I c.2]=pr (iF ks++[c]):=by rw[jG];rfl
 rw[happ]at hS10
 have hS1:=hS10
 refine iG (vR o (ho.ag hS10) hf rg sv (hr.ag hS10) hz4 w3 (iF ks++[c]) (hS10.ay 5 rfl jR) hpll2 hplc2) ?_
 rintro r H11⟨hx,hT5⟩
 have hS11:=hS10.trans hT5
 simp only[RT]at hS11
 obtain⟨av,rfl⟩:∃w,w=r:=⟨r,rfl⟩
 have hx2:=hx.step (hS1.bc (H':=H11))
 obtain⟨X,hBX,hS12⟩:=hS11.aE (os:=[⟨ptr A1 0 4,0,_⟩,⟨ptr A2 0 3,0,_⟩,⟨ptr A3 0 2,0,_⟩,⟨w1,3,_⟩,⟨pv,2,_⟩,⟨w3,2,_⟩,⟨w2,2,_⟩])
 simp(disch:=omega) only[↓RA,RZ,simprocAttr,hn,hS12.ai 0 rfl,hS12.ai 1 rfl]
 have hS2:=hS12
 refine iG (vR o (ho.ag (hS11.al hBX hS12)) hf rg sv (hr.ag (hS11.al hBX hS12)) hz4 pv (iF ks) (hS12.ay 4 rfl jR) hpll hplc) ?_
 rintro r H12⟨hy,hT6⟩
 have hS13:=hS12.trans hT6
 simp only[RT]at hS13
 obtain⟨bv,rfl⟩:∃w,w=r:=⟨r,rfl⟩
 have hx3:=hx2.step (hS13.kept hBX)
 have hy2:=hy.step (hS2.bc (H':=H12))
 obtain⟨Y,hBY,hS14⟩:=hS13.aE (os:=[⟨ptr A1 0 4,0,_⟩,⟨ptr A2 0 3,0,_⟩,⟨ptr A3 0 2,0,_⟩,⟨w1,3,_⟩,⟨pv,2,_⟩,⟨w3,2,_⟩,⟨w2,2,_⟩])
 have hla:=sL hf rg hpll2 (nE hplc2)
 have hlb:=sL hf rg hpll (nE hplc)
 have hsb:=sT o rg (iF ks)
 have hx4:=hx3.step (hS14.kept hBY)
 have hy3:=hy2.step (hS14.kept hBY)
 simp(disch:=omega) only[↓RA,RZ,simprocAttr,hn]
 refine iG ((a8d av bv (jK o rg (iF ks++[c])) (jK o rg (iF ks)) hx4.1 hy3.1 (by omega) (by omega) hsb).tr) ?_
 rintro r H13⟨-,hT7⟩
 have hS15:=hS14.trans hT7
 simp only[RT]at hS15
 obtain⟨gv,rfl⟩:∃w,w=r:=⟨r,rfl⟩
 have hnt1:=(hS15.ay (cel:=jL) 7 rfl jR).bF
 simp(disch:=omega) only[↓RA,RZ,simprocAttr,hn,hS8.ai 0 rfl,hS10.ai 0 rfl,hS8.ai 1 rfl,hS10.ai 1 rfl,hS7.ai 2 rfl,hS7.ai 0 rfl,hS7.ai 1 rfl,c4e,hnt1]
 exact⟨gv,rfl,(hS11.al hBX (hS13.al hBY hS15)).ct 7 rfl jR,(hS11.al hBX (hS13.al hBY hS15)).forget⟩
theorem b5o(o:Org)(rg:Reg):a1s o rg []=nJ o rg:=by
 unfold a1s
 split
 ·rename_i h
  unfold nJ
  rw[if_pos h]
 ·split
  ·rfl
  ·rename_i h
   rw[if_neg (by simp),dy.1 h]
   exact kM _ _ fun j hj=>absurd hj (dM _)
theorem c4N{H:Heap}:Sl 1 Kv.cells H (.slice none 0 0) []:=⟨.inl ⟨rfl,rfl⟩,fun _=>rfl,by decide⟩
theorem b6w(o:Org)(ho:o.In H)(rg:Reg)(sv:Value)(hr:rg.In H sv):
 Fn prog 100 [.agg #[.string o.name,o.rv,o.dv,o.cv],.agg #[sv,.int .u64 rg.cpl,.int .u64 rg.off],.slice none 0 0] H fun r H'=>r=I (nJ o rg)∧St prog H H' []:=by
 have h:=c1h o ho rg sv hr (.slice none 0 0) [] c4N (by simp) (by simp)
 rw[b5o]at h
 exact h
def a8I(o:Org)(rg:Reg)(ks:List Nt)(c:Ct):Int:=tB o (adF o rg ks c)
theorem b1L{o:Org}{rg:Reg}{ks:List Nt}{c:Ct}:∀p∈adF o rg ks c,IsP o p:=by
 intro p hp
 unfold adF at hp
 split at hp
 ·exact pM (dZ.1 hp).1
 ·exact absurd hp ef
theorem b7l{o:Org}(hdv:o.dvs.length≤7){rg:Reg}{ks:List Nt}{c:Ct}(hok:∀x∈ks,Nt.Ok x):(adF o rg ks c).length≤1000000:=by
 unfold adF
 split
 ·rename_i h
  refine dE (a6Y _ _) ?_
  have h1:rkE o rg ks=0:=by
   unfold yY at h
   split at h
   ·rename_i h2;exact absurd h h2
   ·rename_i h2;exact dy.1 h2
  have h2:vL o c=0:=by
   unfold yY at h
   rw[if_neg (by rw[h1];simp)]at h
   exact h
  obtain⟨z1,z2⟩:=vO h1
  have hf:=Org.aJ (lX z1).1
  have hcc:=(mT o c).1 h2
  have hwl:(iF ks++[c]).length≤1024:=by
   have hkl:=(oH z2).2.1
   have hd:=hf.dlen
   have hpl:=a6U ks ks.length
   rw[dq,gD]
   unfold iF
   omega
  exact sL hf rg hwl (nE fun x hx=>by
   rcases dG.1 hx with h|h
   ·exact pX hok z2 x h
   ·rw[dB.1 h];exact hcc)
 ·simp
theorem a1F(hG:Glob gH H)(o:Org)(ho:o.In H)(hdv:o.dvs.length≤7)(rg:Reg)(sv:Value)(hr:rg.In H sv)(kv:Value)(ks:List Nt)(hk:Ks H kv ks)(c:Ct):
 Fn prog 15 [.agg #[.string o.name,o.rv,o.dv,o.cv],.agg #[sv,.int .u64 rg.cpl,.int .u64 rg.off],kv,.agg #[I c.1,I c.2]] H fun r H'=>r=.tuple #[I (a8I o rg ks c),I (yY o rg ks c)]∧St prog H H' []:=by
 have hle:=b7l hdv (rg:=rg) (c:=c) hk.ok
 refine .cM func15 rfl (by kernel_rfl) (m:=26) rfl fun l hn g0 g1 g2 g3=> ?_
 simp(disch:=omega) only[↓RA,RB,simprocAttr,g0]
 refine(sR H).eNew 4 [(.string o.name),o.rv,o.dv,o.cv] rfl rfl (by simp[OC,((sR H).sl ho.1).cells.2.1,((sR H).sl ho.2.2.1).cells.2.1,((sR H).sl ho.2.2.2.2.1).cells.2.1]) lP fun A1 H1 hS1=> ?_
 simp only[RT]at hS1
 simp(disch:=omega) only[↓RA,RB,simprocAttr,g1]
 refine hS1.eNew 3 [sv,(.int .u64 rg.cpl),(.int .u64 rg.off)] rfl rfl (by simp[OC,(hS1.sl hr.1).cells.2.1]) mK fun A2 H2 hS2=> ?_
 simp only[RT]at hS2
 simp(disch:=omega) only[↓RA,RB,simprocAttr,g3]
 refine hS2.eNew 2 [I c.1,I c.2] rfl rfl rfl kY fun A3 H3 hS3=> ?_
 simp only[RT]at hS3
 simp(disch:=omega) only[↓RA,RZ,simprocAttr,hn,g2,hS3.ai 0 rfl,hS3.ai 1 rfl,hS3.ai 2 rfl]
 refine iG (b7y (hS3.gl hG) o (ho.ag hS3) hdv rg sv (hr.ag hS3) kv ks (hk.ag hS3) c) ?_
 rintro r H4⟨av,rfl,hx,hT1⟩
 have hS4:=hS3.trans hT1
 simp only[RT]at hS4
 simp(disch:=omega) only[↓RA,RB,simprocAttr,hn]
 refine iA (fun h1=> ?_) (fun h1=> ?_)
 ·have hs:a8I o rg ks c=0:=by unfold a8I adF;rw[if_neg h1];rfl
  simp(disch:=omega) only[↓RA,RZ,simprocAttr,hn,c5j,h1]
  exact⟨by rw[hs],hS4.forget⟩
 have h0:=dy.1 h1
 simp(disch:=omega) only[↓RA,RZ,simprocAttr,hn,hS4.ai 0 rfl,h1]
 refine hS4.cF (a2T o (ho.ag hS4) av (adF o rg ks c) hx.1 (by omega) b1L) fun H5 hS5=> ?_
 simp(disch:=omega) only[↓RA,RZ,simprocAttr,hn,c5j,h1]
 rw[h0]
 exact⟨rfl,hS5.forget⟩
def grR(o:Org)(rg:Reg):Ct×Int:=if nJ o rg=0 then grF (sY o rg) (lT o) (((0:Int),(iB o.dvs 0).lo),0)else((0,0),0)
theorem a8f(o:Org)(ho:o.In H)(rg:Reg)(sv:Value)(hr:rg.In H sv):
 Fn prog 47 [.agg #[.string o.name,o.rv,o.dv,o.cv],.agg #[sv,.int .u64 rg.cpl,.int .u64 rg.off]] H fun r H'=>r=.tuple #[.agg #[I (grR o rg).1.1,I (grR o rg).1.2],I (grR o rg).2,I (nJ o rg)]∧St prog H H' []:=by
 refine .aI func47 rfl (by kernel_rfl) (m:=64) rfl fun l hn g0 g1=> ?_
 simp(disch:=omega) only[↓RA,RB,simprocAttr,g0]
 refine(sR H).eNew 4 [(.string o.name),o.rv,o.dv,o.cv] rfl rfl (by simp[OC,((sR H).sl ho.1).cells.2.1,((sR H).sl ho.2.2.1).cells.2.1,((sR H).sl ho.2.2.2.2.1).cells.2.1]) lP fun A1 H1 hS1=> ?_
 simp only[RT]at hS1
 simp(disch:=omega) only[↓RA,RB,simprocAttr,g1]
 refine hS1.eNew 3 [sv,(.int .u64 rg.cpl),(.int .u64 rg.off)] rfl rfl (by simp[OC,(hS1.sl hr.1).cells.2.1]) mK fun A2 H2 hS2=> ?_
 simp only[RT]at hS2
 simp(disch:=omega) only[↓RA,RZ,simprocAttr]
 refine hS2.eNew 2 [I 0,I 0] rfl rfl rfl kY fun A3 H3 hS3=> ?_
 simp only[RT]at hS3
 simp(disch:=omega) only[↓RA,RZ,simprocAttr,hn,hS3.ai 0 rfl,hS3.ai 1 rfl]
 refine hS3.cF (b6w o (ho.ag hS3) rg sv (hr.ag hS3)) fun H4 hS4=> ?_
 simp(disch:=omega) only[↓RA,RB,simprocAttr,hn]
 refine iA (fun h1=> ?_) (fun h1=> ?_)
 ·have e:grR o rg=((0,0),0):=by unfold grR;rw[if_neg h1]
  simp(disch:=omega) only[↓RA,RZ,simprocAttr,hn,c2q,h1]
  refine hS4.ae 2 rfl [I 0,I 0] rfl rfl kY (by simp) fun H5 hS5=> ?_
  simp only[RT]at hS5
  simp(disch:=omega) only[↓RA,RZ,simprocAttr,hn,c6z,hS5.ai 2 rfl,h1]
  exact⟨by rw[e],hS5.forget⟩
 have h0:=dy.1 h1
 have hf:=Org.aJ (lX h0).1
 have hd:=hf.dpos
 have hdl:=hf.dlen
 have e:grR o rg=grF (sY o rg) (lT o) (((0:Int),(iB o.dvs 0).lo),0):=by unfold grR;rw[if_pos h0]
 simp(disch:=omega) only[↓RA,RZ,simprocAttr,hn,hS4.ld 0 rfl,(hS4.sl ho.2.2.1).idx,(hS4.sl ho.2.2.1).ba,(hS4.sl ho.2.2.1).ld,Dvn.cells,h1]
 refine hS4.ae 2 rfl [I (iB o.dvs 0).lo] rfl rfl tS3 (by simp) fun H6 hS6=> ?_
 simp only[RT]at hS6
 simp(disch:=omega) only[↓RA,RZ,simprocAttr,hn,hS6.ld 0 rfl,(hS6.sl ho.2.2.1).len,h1]
 refine Wp.aq (fun n l H'=>l.length=64∧get l 2=(ptr A1 0 4)∧get l 3=(ptr A2 0 3)∧get l 4=(ptr A3 0 2)∧get l 6=I 0∧get l 29=o.dv∧get l 30=I o.dvs.length∧∃(i:Nat),(n+i=o.dvs.length)∧get l 31=I i∧get l 5=I (grF (sY o rg) ((List.range i).flatMap (qL o)) (((0:Int),(iB o.dvs 0).lo),0)).2∧St prog H H' [⟨ptr A1 0 4,0,[(.string o.name),o.rv,o.dv,o.cv]⟩,⟨ptr A2 0 3,0,[sv,(.int .u64 rg.cpl),(.int .u64 rg.off)]⟩,⟨ptr A3 0 2,0,[I (grF (sY o rg) ((List.range i).flatMap (qL o)) (((0:Int),(iB o.dvs 0).lo),0)).1.1,I (grF (sY o rg) ((List.range i).flatMap (qL o)) (((0:Int),(iB o.dvs 0).lo),0)).1.2]⟩]) o.dvs.length ?_ ?_
 ·simp(disch:=omega) only[RB,RC,simprocAttr,hn]
  exact⟨0,by omega,rfl,rfl,hS6⟩
 rintro n l H7⟨hn,g2,g3,g4,g6,g29,g30,i,hi,g31,g5,hS7⟩
 simp(disch:=omega) only[↓RA,RB,simprocAttr,hn,g30,g31]
 refine iA (fun q1=> ?_) (fun q1=> ?_)
 ·have hki:=hf.keys i (by omega)
  have hcn:(sM o i:Int)=(iB o.dvs i).hi-(iB o.dvs i).lo+1:=by unfold sM;omega
  have hpre:uZ o i 0=(List.range i).flatMap (qL o):=by unfold uZ;simp
  simp(disch:=omega) only[↓RA,RZ,simprocAttr,hn,g29,g31,(hS7.sl ho.2.2.1).idx,(hS7.sl ho.2.2.1).ai,Dvn.cells,q1]
  refine hS7.eNew 5 [(.string ⟨#[]⟩),(.bool false),I 0,I 0,(.slice none 0 0)] rfl rfl rfl xB fun A4 H8 hS8=> ?_
  simp only[RT]at hS8
  simp(disch:=omega) only[↓RA,RZ,simprocAttr,hn,q1]
  refine hS8.ae 3 rfl [(.string (iB o.dvs i).name),(.bool (iB o.dvs i).pedal),I (iB o.dvs i).lo,I (iB o.dvs i).hi,(iB o.dvs i).sv] rfl (by simp[OC,(hS8.sl (ho.2.2.2.1 (iB o.dvs i) (iD (by omega))).1).cells.2.1]) xB (by simp) fun H9 hS9=> ?_
  simp only[RT]at hS9
  simp(disch:=omega) only[↓RA,RZ,simprocAttr,hn,hS9.ld 3 rfl,q1]
  refine Wp.aq (fun n l H'=>l.length=64∧get l 2=(ptr A1 0 4)∧get l 3=(ptr A2 0 3)∧get l 4=(ptr A3 0 2)∧get l 6=I 0∧get l 8=I i∧get l 9=(ptr A4 0 5)∧get l 29=o.dv∧get l 30=I o.dvs.length∧get l 31=I i∧∃(k:Nat),(n+k=sM o i)∧get l 10=I ((iB o.dvs i).lo+k)∧get l 5=I (grF (sY o rg) (uZ o i k) (((0:Int),(iB o.dvs 0).lo),0)).2∧St prog H H' [⟨ptr A1 0 4,0,[(.string o.name),o.rv,o.dv,o.cv]⟩,⟨ptr A2 0 3,0,[sv,(.int .u64 rg.cpl),(.int .u64 rg.off)]⟩,⟨ptr A3 0 2,0,[I (grF (sY o rg) (uZ o i k) (((0:Int),(iB o.dvs 0).lo),0)).1.1,I (grF (sY o rg) (uZ o i k) (((0:Int),(iB o.dvs 0).lo),0)).1.2]⟩,⟨ptr A4 0 5,0,[(.string (iB o.dvs i).name),(.bool (iB o.dvs i).pedal),I (iB o.dvs i).lo,I (iB o.dvs i).hi,(iB o.dvs i).sv]⟩]) (sM o i) ?_ ?_
  ·simp(disch:=omega) only[RB,RC,simprocAttr,hn,g2,g3,g4,g6,g29,g30,g31,g5]
   refine⟨0,by omega,by simp,?_⟩
   rw[hpre]
   exact⟨rfl,hS9⟩
  rintro n l H10⟨hn,g2,g3,g4,g6,g8,g9,g29,g30,g31,k,hk,oO,g5,hS10⟩
  simp(disch:=omega) only[↓RA,RZ,simprocAttr,hn,g9,oO,hS10.ld 3 rfl]
  refine iA (fun q2=> ?_) (fun q2=> ?_)
  ·have hsu:grF (sY o rg) (uZ o i (k+1)) (((0:Int),(iB o.dvs 0).lo),0)=grS (sY o rg) (grF (sY o rg) (uZ o i k) (((0:Int),(iB o.dvs 0).lo),0)) (kAt o i k):=by rw[a5h,b9V]
   unfold grS at hsu
   simp(disch:=omega) only[↓RA,RZ,simprocAttr,hn,g8,oO,oQ,q2]
   refine hS10.eNew 2 [I 0,I 0] rfl rfl rfl kY fun A5 H11 hS11=> ?_
   simp only[RT]at hS11
   simp(disch:=omega) only[↓RA,RZ,simprocAttr,hn,q2]
   refine hS11.ae 4 rfl [I i,I ((iB o.dvs i).lo+k)] rfl rfl kY (by simp) fun H12 hS12=> ?_
   simp only[RT]at hS12
   simp(disch:=omega) only[↓RA,RZ,simprocAttr,hn,g2,g3,hS12.ai 0 rfl,hS12.ai 1 rfl,hS12.ai 4 rfl,q2]
   refine hS12.cF (b2m o (ho.ag hS12) rg sv (hr.ag hS12) (kAt o i k)) fun H13 hS13=> ?_
   simp(disch:=omega) only[↓RA,RZ,simprocAttr,hn,g5,q2]
   refine iA (fun q3=> ?_) (fun q3=> ?_)
   ·simp(disch:=omega) only[↓RA,RZ,simprocAttr,hn,g4,hS13.ai 4 rfl,q2,q3]
    refine hS13.ae 2 rfl [I i,I ((iB o.dvs i).lo+k)] rfl rfl kY (by simp) fun H14 hS14=> ?_
    simp only[RT]at hS14
    simp(disch:=omega) only[↓RA,RZ,simprocAttr,hn,g2,g3,g4,g6,g8,g9,g29,g30,g31,oO,q2,q3]
    rw[if_pos q3]at hsu
    refine⟨n-1,by omega,k+1,by omega,by congr 1;omega,by rw[hsu],?_⟩
    rw[hsu]
    exact hS14.pick [0,1,2,3] (by decide) rfl
   simp(disch:=omega) only[↓RA,RZ,simprocAttr,hn,g2,g3,g4,g6,g8,g9,g29,g30,g31,oO,g5,q2,q3]
   rw[if_neg q3]at hsu
   refine⟨n-1,by omega,k+1,by omega,by congr 1;omega,by rw[hsu],?_⟩
   rw[hsu]
   exact hS13.pick [0,1,2,3] (by decide) rfl
  simp(disch:=omega) only[↓RA,RZ,simprocAttr,hn,g2,g3,g4,g6,g29,g30,g31,g5,q2]
  have hkk:k=sM o i:=by omega
  rw[hkk,wU]at hS10
  refine⟨o.dvs.length-(i+1),by omega,i+1,by omega,by simp,?_,?_⟩
  ·rw[hkk,wU]
  ·exact hS10.pick [0,1,2] (by decide) rfl
 simp(disch:=omega) only[↓RA,RZ,simprocAttr,hn,g4,g5,hS7.ai 2 rfl,q1]
 refine hS7.ae 2 rfl [I (grF (sY o rg) ((List.range i).flatMap (qL o)) (((0:Int),(iB o.dvs 0).lo),0)).1.1,I (grF (sY o rg) ((List.range i).flatMap (qL o)) (((0:Int),(iB o.dvs 0).lo),0)).1.2] rfl rfl kY (by simp) fun H15 hS15=> ?_
 simp only[RT]at hS15
 simp(disch:=omega) only[↓RA,RZ,simprocAttr,hn,g4,c6z,hS15.ai 2 rfl,q1]
 have hii:i=o.dvs.length:=by omega
 rw[h0]
 refine⟨?_,hS15.forget⟩
 rw[hii,e]
 rfl
end Go.Ds
namespace Go.Ds
open Go.Proofs
set_option maxRecDepth 10000
theorem b7D{o:Org}{rg:Reg}{ks:List Nt}{c:Ct}(h0:organE o=0)(hdv:o.dvs.length≤7)(hok:∀x∈ks,Nt.Ok x)(hrk:rkE o rg ks=0)(hc:kV o c=true):
 a8I o rg ks c=nT o (rB (jK o rg (iF ks++[c])) (jK o rg (iF ks))):=by
 unfold a8I
 rw[b2E h0 b1L (b7l hdv hok)]
 unfold adF
 rw[if_pos]
 unfold yY
 rw[if_neg (by rw[hrk];simp)]
 exact(mT o c).2 hc
theorem b5w{A B:List Ct}(h:A.Pairwise tN):(rB A B).Pairwise tN:=h.filter _
theorem a4w{A B:List Ct}{p:Ct}:p∈rB A B↔p∈A∧p∉B:=by
 unfold rB
 rw[dZ]
 simp
theorem c4D{o:Org}{rg:Reg}{ks:List Nt}{c:Ct}(h0:organE o=0)(hdv:o.dvs.length≤7)(hok:∀x∈ks,Nt.Ok x)(hrk:rkE o rg ks=0)(hc:kV o c=true):
 0≤a8I o rg ks c∧a8I o rg ks c≤nT o (jK o rg [c]):=by
 have hf:=Org.aJ h0
 rw[b7D h0 hdv hok hrk hc]
 refine⟨(zX h0 fun p hp=>pM (a4w.1 hp).1).1,?_⟩
 refine b0v h0 (sT _ _ _) (b5w (sT _ _ _)) (fun p hp=> ?_) fun p hp=>pM hp
 obtain⟨h1,h2⟩:=a4w.1 hp
 obtain⟨x,hx,y,h3,h4⟩:=(oG hf).1 h1
 rcases dG.1 hx with hx|hx
 ·exact absurd ((oG hf).2 ⟨x,hx,y,h3,h4⟩) h2
 ·exact(oG hf).2 ⟨x,hx,y,h3,h4⟩
theorem b6g{o:Org}{rg:Reg}{ks:List Nt}{c:Ct}(h0:organE o=0)(hdv:o.dvs.length≤7)(hok:∀x∈ks,Nt.Ok x)(hrk:rkE o rg ks=0)(hc:kV o c=true)(hm:c∈iF ks):
 a8I o rg ks c=0:=by
 have hf:=Org.aJ h0
 rw[b7D h0 hdv hok hrk hc,b3q (b3P hf fun x hx=> ?_)]
 ·rfl
 ·rcases dG.1 hx with hx|hx
  ·exact hx
  ·rw[dB.1 hx];exact hm
theorem b1s{o:Org}(hf:o.Fine){r s:Reg}{l:List Ct}(h:∀c∈l,jK o r [c]=jK o s [c]):jK o r l=jK o s l:=by
 refine pN _ _ (sT o r l) (sT o s l) fun p=> ?_
 have key:∀q:Reg,p∈jK o q l↔∃c∈l,p∈jK o q [c]:=fun q=>by
  rw[oG hf]
  constructor
  ·rintro⟨c,hc,x,h1,h2⟩
   exact⟨c,hc,(a2K hf).2 ⟨x,h1,h2⟩⟩
  ·rintro⟨c,hc,h1⟩
   obtain⟨x,h2,h3⟩:=(a2K hf).1 h1
   exact⟨c,hc,x,h2,h3⟩
 rw[key,key]
 constructor
 ·rintro⟨c,hc,h1⟩;exact⟨c,hc,h c hc▸h1⟩
 ·rintro⟨c,hc,h1⟩;exact⟨c,hc,(h c hc).symm▸h1⟩
end Go.Ds
namespace Go.Ds
open Go.Proofs Go.Proofs.Tryz
variable {H:Heap}
set_option maxRecDepth 10000
set_option maxHeartbeats 1000000
theorem b8w{o:Org}{c:Ct}(h:c∈lT o):kV o c=true:=by
 unfold lT at h
 obtain⟨i,hi,h⟩:=dQ.1 h
 obtain⟨k,hk,rfl⟩:=dC.1 h
 have h1:=dx.1 hi
 have h2:=dx.1 hk
 rw[kK]
 simp only[dN]
 omega
theorem b5p{o:Org}{c:Ct}(h:kV o c=true):c∈lT o:=by
 rw[kK]at h
 unfold lT
 refine dQ.2 ⟨c.1.toNat,dx.2 (by omega),dC.2 ⟨(c.2-(iB o.dvs c.1.toNat).lo).toNat,dx.2 (by omega),?_⟩⟩
 apply fP
 ·simp;omega
 ·simp;omega
theorem c1u{o:Org}(hf:o.Fine){i k:Nat}(hi:i<o.dvs.length)(hk:k≤sM o i):(uZ o i k).length≤1024:=by
 have h1:=a8g hf
 by_cases hkk:k<sM o i
 ·obtain⟨e,he⟩:=a9U o (i:=i) (k:=k) (by omega) hkk
  rw[he,dq]at h1
  omega
 ·have hk2:k=sM o i:=by omega
  rw[hk2,wU]
  obtain⟨t,ht⟩:∃t,List.range o.dvs.length=List.range (i+1)++t:=⟨(List.range o.dvs.length).drop (i+1),by rw[show List.range (i+1)=(List.range o.dvs.length).take (i+1)from by rw[List.take_range,fN (by omega)],gC]⟩
  unfold lT at h1
  rw[ht,dF,dq]at h1
  omega
theorem a4g(o:Org)(ho:o.In H)(hf:o.Fine):Fn prog 148 [.agg #[.string o.name,o.rv,o.dv,o.cv]] H fun r H'=>St prog H H' [⟨r,2,pr (lT o)⟩]:=by
 have hdl:=ho.2.2.2.2.2.2.1
 have hd8:=hf.dlen
 refine .aR func148 rfl (by kernel_rfl) (m:=33) rfl fun l hn g0=> ?_
 simp(disch:=omega) only[↓RA,RB,simprocAttr,g0]
 refine(sR H).eNew 4 [(.string o.name),o.rv,o.dv,o.cv] rfl rfl (by simp[OC,((sR H).sl ho.1).cells.2.1,((sR H).sl ho.2.2.1).cells.2.1,((sR H).sl ho.2.2.2.2.1).cells.2.1]) lP fun A1 H1 hS1=> ?_
 simp only[RT]at hS1
 simp(disch:=omega) only[↓RA,RZ,simprocAttr,hn,hS1.ld 0 rfl,(hS1.sl ho.2.2.1).len]
 have hS2:=hS1.nil 1
 simp only[RT]at hS2
 refine Wp.aq (fun n l H'=>l.length=33∧get l 2=(.slice none 0 0)∧get l 8=o.dv∧get l 9=I o.dvs.length∧∃(i:Nat)(ov:Value),(n+i=o.dvs.length)∧get l 10=I i∧get l 3=ov∧St prog H H' [⟨ptr A1 0 4,0,[(.string o.name),o.rv,o.dv,o.cv]⟩,⟨ov,2,pr ((List.range i).flatMap (qL o))⟩]) o.dvs.length ?_ ?_
 ·simp(disch:=omega) only[RB,RC,simprocAttr,hn]
  exact⟨0,.slice none 0 0,by omega,rfl,rfl,hS2⟩
 rintro n l H2⟨hn,g2,g8,g9,i,ov,hi,oO,g3,hS3⟩
 simp(disch:=omega) only[↓RA,RB,simprocAttr,hn,g9,oO]
 refine iA (fun q1=> ?_) (fun q1=> ?_)
 ·have hki:=hf.keys i (by omega)
  have hcn:(sM o i:Int)=(iB o.dvs i).hi-(iB o.dvs i).lo+1:=by unfold sM;omega
  have hpre:uZ o i 0=(List.range i).flatMap (qL o):=by unfold uZ;simp
  have hlen:=fun k=>c1u hf (i:=i) (k:=k) (by omega)
  simp(disch:=omega) only[↓RA,RZ,simprocAttr,hn,g8,oO,(hS3.sl ho.2.2.1).idx,(hS3.sl ho.2.2.1).ai,Dvn.cells,q1]
  refine hS3.eNew 5 [(.string ⟨#[]⟩),(.bool false),I 0,I 0,(.slice none 0 0)] rfl rfl rfl xB fun A2 H3 hS4=> ?_
  simp only[RT]at hS4
  simp(disch:=omega) only[↓RA,RZ,simprocAttr,hn,q1]
  refine hS4.ae 2 rfl [(.string (iB o.dvs i).name),(.bool (iB o.dvs i).pedal),I (iB o.dvs i).lo,I (iB o.dvs i).hi,(iB o.dvs i).sv] rfl (by simp[OC,(hS4.sl (ho.2.2.2.1 (iB o.dvs i) (iD (by omega))).1).cells.2.1]) xB (by simp) fun H4 hS5=> ?_
  simp only[RT]at hS5
  simp(disch:=omega) only[↓RA,RZ,simprocAttr,hn,hS5.ld 2 rfl,q1]
  refine Wp.aq (fun n l H'=>l.length=33∧get l 2=(.slice none 0 0)∧get l 4=I i∧get l 5=(ptr A2 0 5)∧get l 8=o.dv∧get l 9=I o.dvs.length∧get l 10=I i∧∃(k:Nat)(ow:Value),(n+k=sM o i)∧get l 6=I ((iB o.dvs i).lo+k)∧get l 3=ow∧St prog H H' [⟨ptr A1 0 4,0,[(.string o.name),o.rv,o.dv,o.cv]⟩,⟨ow,2,pr (uZ o i k)⟩,⟨ptr A2 0 5,0,[(.string (iB o.dvs i).name),(.bool (iB o.dvs i).pedal),I (iB o.dvs i).lo,I (iB o.dvs i).hi,(iB o.dvs i).sv]⟩]) (sM o i) ?_ ?_
  ·simp(disch:=omega) only[RB,RC,simprocAttr,hn,g2,g8,g9,oO,g3]
   refine⟨0,ov,by omega,by simp,rfl,?_⟩
   rw[hpre]
   exact hS5
  rintro n l H5⟨hn,g2,g4,g5,g8,g9,oO,k,ow,hk,g6,g3,hS6⟩
  simp(disch:=omega) only[↓RA,RZ,simprocAttr,hn,g5,g6,hS6.ld 2 rfl]
  refine iA (fun q2=> ?_) (fun q2=> ?_)
  ·have hl:=hlen k (by omega)
   simp(disch:=omega) only[↓RA,RZ,simprocAttr,hn,g4,g6,g3,oQ,q2]
   refine hS6.ak [I i,I ((iB o.dvs i).lo+k)] mJ uL rfl rfl (by simp[Value.cells]) rfl rfl (by decide) (by decide) fun w1 H6 hS7=> ?_
   simp only[RT]at hS7
   simp(disch:=omega) only[↓RA,RZ,simprocAttr,hn,q2]
   refine hS7.aw 1 rfl (hS7.rd 3 rfl) mJ (by rw[iI];simp;omega) fun w2 H7 hS8=> ?_
   simp only[RT]at hS8
   simp(disch:=omega) only[↓RA,RZ,simprocAttr,hn,g2,g4,g5,g8,g9,oO,g6,q2]
   refine⟨n-1,by omega,k+1,w2,by omega,by congr 1;omega,rfl,?_⟩
   rw[a5h,jG]
   exact hS8.pick [0,1,2] (by decide) rfl
  simp(disch:=omega) only[↓RA,RZ,simprocAttr,hn,g2,g8,g9,oO,g3,q2]
  have hkk:k=sM o i:=by omega
  refine⟨o.dvs.length-(i+1),by omega,i+1,ow,by omega,by simp,rfl,?_⟩
  rw[←wU,←hkk]
  exact hS6.pick [0,1] (by decide) rfl
 simp(disch:=omega) only[↓RA,RZ,simprocAttr,hn,g3,c6y,q1]
 have hii:i=o.dvs.length:=by omega
 subst hii
 exact hS3.pick [1] (by decide) rfl
theorem b8m(v w:Value)(xs ys:List Ct)(hv:Sl 2 jL H v xs)(hw:Sl 2 jL H w ys)(hl:xs.length<1000000000)(hl2:ys.length<1000000000):
 Fn prog 109 [v,w] H fun r H'=>r=.bool (decide (xs=ys))∧St prog H H' []:=by
 refine .aI func109 rfl (by kernel_rfl) (m:=8) rfl fun l hn g0 g1=> ?_
 simp(disch:=omega) only[↓RA,RZ,simprocAttr,hn,g0,g1]
 refine(sR H).cF (b6O v w xs ys ((sR H).sl hv) ((sR H).sl hw) hl hl2) fun H1 hS1=> ?_
 simp(disch:=omega) only[↓RA,RZ,simprocAttr,hn,c6l]
 exact hS1
def b7z(o:Org)(rg sg:Reg):Prop:=∀c∈lT o,jK o rg [c]=jK o sg [c]
theorem a0V{o:Org}(hf:o.Fine)(rg:Reg){c:Ct}(hc:kV o c=true):(jK o rg [c]).length≤1000000:=
 sL hf rg (l:=[c]) (by simp) (nE fun x hx=>by rw[dB.1 hx];exact hc)
theorem b1g(o:Org)(ho:o.In H)(h0:organE o=0)(rg:Reg)(sv:Value)(hr:rg.In H sv)(hrl:rg.stops.length=o.dvs.length)(sg:Reg)(tv:Value)(hs:sg.In H tv)(hsl:sg.stops.length=o.dvs.length):
 Fn prog 108 [.agg #[.string o.name,o.rv,o.dv,o.cv],.agg #[sv,.int .u64 rg.cpl,.int .u64 rg.off],.agg #[tv,.int .u64 sg.cpl,.int .u64 sg.off],.func (.func 109) #[] #[]] H fun r H'=>∃(c:Ct)(b:Bool),r=.tuple #[.agg #[I c.1,I c.2],.bool b]∧(b=true→b7z o rg sg)∧St prog H H' []:=by
 have hf:=Org.aJ h0
 refine .cM func108 rfl (by kernel_rfl) (m:=33) rfl fun l hn g0 g1 g2 g3=> ?_
 simp(disch:=omega) only[↓RA,RB,simprocAttr,g0]
 refine(sR H).eNew 4 [(.string o.name),o.rv,o.dv,o.cv] rfl rfl (by simp[OC,((sR H).sl ho.1).cells.2.1,((sR H).sl ho.2.2.1).cells.2.1,((sR H).sl ho.2.2.2.2.1).cells.2.1]) lP fun A1 H1 hS1=> ?_
 simp only[RT]at hS1
 simp(disch:=omega) only[↓RA,RB,simprocAttr,g1]
 refine hS1.eNew 3 [sv,(.int .u64 rg.cpl),(.int .u64 rg.off)] rfl rfl (by simp[OC,(hS1.sl hr.1).cells.2.1]) mK fun A2 H2 hS2=> ?_
 simp only[RT]at hS2
 simp(disch:=omega) only[↓RA,RB,simprocAttr,g2]
 refine hS2.eNew 3 [tv,(.int .u64 sg.cpl),(.int .u64 sg.off)] rfl rfl (by simp[OC,(hS2.sl hs.1).cells.2.1]) mK fun A3 H3 hS3=> ?_
 simp only[RT]at hS3
 simp(disch:=omega) only[↓RA,RZ,simprocAttr]
 refine hS3.eNew 2 [I 0,I 0] rfl rfl rfl kY fun A4 H4 hS4=> ?_
 simp only[RT]at hS4
 simp(disch:=omega) only[↓RA,RZ,simprocAttr,hn,hS4.ai 0 rfl]
 refine iG ((a4g o (ho.ag hS4) hf).tr) ?_
 rintro r H5⟨-,hT1⟩
 have hS5:=hS4.trans hT1
 simp only[RT]at hS5
 obtain⟨kw,rfl⟩:∃w,w=r:=⟨r,rfl⟩
 have hkl:=a8g hf
 simp(disch:=omega) only[↓RA,RZ,simprocAttr,hn,(hS5.ay 4 rfl jR).len]
 refine Wp.aq (fun n l H'=>l.length=33∧get l 3=(.func (.func 109) #[] #[])∧get l 4=(ptr A1 0 4)∧get l 5=(ptr A2 0 3)∧get l 6=(ptr A3 0 3)∧get l 8=(ptr A4 0 2)∧get l 13=kw∧get l 14=I (lT o).length∧∃(j:Nat),(n+j=(lT o).length∧∀q,q<j→jK o rg [iB (lT o) q]=jK o sg [iB (lT o) q])∧get l 15=I j∧St prog H H' [⟨ptr A1 0 4,0,[(.string o.name),o.rv,o.dv,o.cv]⟩,⟨ptr A2 0 3,0,[sv,(.int .u64 rg.cpl),(.int .u64 rg.off)]⟩,⟨ptr A3 0 3,0,[tv,(.int .u64 sg.cpl),(.int .u64 sg.off)]⟩,⟨ptr A4 0 2,0,[I 0,I 0]⟩,⟨kw,2,pr (lT o)⟩]) (lT o).length ?_ ?_
 ·simp(disch:=omega) only[RB,RC,simprocAttr,hn,g3]
  exact⟨0,⟨by omega,fun q hq=>absurd hq (dM _)⟩,rfl,hS5⟩
 rintro n l H6⟨hn,g3,g4,g5,g6,g8,g13,g14,j,⟨hj,hz⟩,g15,hS6⟩
 simp(disch:=omega) only[↓RA,RB,simprocAttr,hn,g14,g15]
 refine iA (fun q1=> ?_) (fun q1=> ?_)
 ·have hcm:=b8w (iD (xs:=lT o) (j:=j) (by omega))
  simp(disch:=omega) only[↓RA,RZ,simprocAttr,hn,g13,g15,(hS6.ay 4 rfl jR).idx,(hS6.ay 4 rfl jR).ai,jL,q1]
  refine hS6.eNew 2 [I 0,I 0] rfl rfl rfl kY fun A5 H7 hS7=> ?_
  simp only[RT]at hS7
  simp(disch:=omega) only[↓RA,RZ,simprocAttr,hn,q1]
  refine hS7.ae 5 rfl [I (iB (lT o) j).1,I (iB (lT o) j).2] rfl rfl kY (by simp) fun H8 hS8=> ?_
  simp only[RT]at hS8
  simp(disch:=omega) only[↓RA,RZ,simprocAttr,q1]
  refine Wp.aO jZ [(5,0),(6,0),(7,0)] (by kernel_rfl) (by kernel_rfl) ?_
  simp(disch:=omega) only[↓RA,RZ,simprocAttr,hn,g3,g4,g5,hS8.ai 0 rfl,hS8.ai 1 rfl,hS8.ai 5 rfl]
  refine iG (b2N o (ho.ag hS8) h0 rg sv (hr.ag hS8) hrl (iB (lT o) j) hcm) ?_
  rintro r H9⟨hx1,hT2⟩
  have hS9:=hS8.trans hT2
  simp only[RT]at hS9
  obtain⟨p1,rfl⟩:∃w,w=r:=⟨r,rfl⟩
  simp(disch:=omega) only[↓RA,RZ,simprocAttr,hn,g4,g6,hS9.ai 0 rfl,hS9.ai 2 rfl,hS9.ai 5 rfl]
  refine iG (b2N o (ho.ag hS9) h0 sg tv (hs.ag hS9) hsl (iB (lT o) j) hcm) ?_
  rintro r H10⟨hx2,hT3⟩
  have hS10:=hS9.trans hT3
  simp only[RT]at hS10
  obtain⟨p2,rfl⟩:∃w,w=r:=⟨r,rfl⟩
  have hx3:=Sl.ag hx1.1 hT3.ag
  have b1:=a0V hf rg hcm
  have b2:=a0V hf sg hcm
  simp(disch:=omega) only[↓RA,RZ,simprocAttr,hn]
  refine hS10.cF (b8m p1 p2 _ _ hx3 hx2.1 (by omega) (by omega)) fun H11 hS11=> ?_
  simp(disch:=omega) only[↓RA,RZ,simprocAttr,hn,g4,g6,hS8.ai 0 rfl,hS8.ai 2 rfl,hS8.ai 5 rfl]
  refine jO (fun q2=> ?_) (fun q2=> ?_)
  ·simp(disch:=omega) only[↓RA,RZ,simprocAttr,hn,g8,hS11.ai 5 rfl,q2]
   refine hS11.ae 3 rfl [I (iB (lT o) j).1,I (iB (lT o) j).2] rfl rfl kY (by simp) fun H12 hS12=> ?_
   simp only[RT]at hS12
   simp(disch:=omega) only[↓RA,RZ,simprocAttr,hn,g8,c1J,hS12.ai 3 rfl,q2]
   exact⟨iB (lT o) j,false,rfl,fun h=>(by cases h),hS12.forget⟩
  have q3:jK o rg [iB (lT o) j]=jK o sg [iB (lT o) j]:=by simpa using q2
  simp(disch:=omega) only[↓RA,RZ,simprocAttr,hn,g3,g4,g5,g6,g8,g13,g14,g15,q2]
  exact⟨n-1,by omega,j+1,⟨by omega,fun q hq=>by rcases dw.1 hq with e|e;(· exact hz q e);(· rw[e];exact q3)⟩,by simp,hS11.pick [0,1,2,3,4] (by decide) rfl⟩
 simp(disch:=omega) only[↓RA,RZ,simprocAttr,hn,g8,c2q,q1]
 refine hS6.ae 3 rfl [I 0,I 0] rfl rfl kY (by simp) fun H13 hS13=> ?_
 simp only[RT]at hS13
 simp(disch:=omega) only[↓RA,RZ,simprocAttr,hn,g8,c1J,hS13.ai 3 rfl,q1]
 refine⟨(0,0),true,rfl,fun _ c hc=> ?_,hS13.forget⟩
 obtain⟨q,hq,e⟩:=dL.1 hc
 have:=hz q (by omega)
 rw[jM _ q hq,e]at this
 exact this
theorem b1r(o:Org)(ho:o.In H)(h0:organE o=0)(rg:Reg)(sv:Value)(hr:rg.In H sv)(hrl:rg.stops.length=o.dvs.length)(sg:Reg)(tv:Value)(hs:sg.In H tv)(hsl:sg.stops.length=o.dvs.length):
 Fn prog 54 [.agg #[.string o.name,o.rv,o.dv,o.cv],.agg #[sv,.int .u64 rg.cpl,.int .u64 rg.off],.agg #[tv,.int .u64 sg.cpl,.int .u64 sg.off]] H fun r H'=>∃b:Bool,r=.bool b∧(b=true→b7z o rg sg)∧St prog H H' []:=by
 refine .bg func54 rfl (by kernel_rfl) (m:=17) rfl fun l hn g0 g1 g2=> ?_
 simp(disch:=omega) only[↓RA,RB,simprocAttr,g0]
 refine(sR H).eNew 4 [(.string o.name),o.rv,o.dv,o.cv] rfl rfl (by simp[OC,((sR H).sl ho.1).cells.2.1,((sR H).sl ho.2.2.1).cells.2.1,((sR H).sl ho.2.2.2.2.1).cells.2.1]) lP fun A1 H1 hS1=> ?_
 simp only[RT]at hS1
 simp(disch:=omega) only[↓RA,RB,simprocAttr,g1]
 refine hS1.eNew 3 [sv,(.int .u64 rg.cpl),(.int .u64 rg.off)] rfl rfl (by simp[OC,(hS1.sl hr.1).cells.2.1]) mK fun A2 H2 hS2=> ?_
 simp only[RT]at hS2
 simp(disch:=omega) only[↓RA,RB,simprocAttr,g2]
 refine hS2.eNew 3 [tv,(.int .u64 sg.cpl),(.int .u64 sg.off)] rfl rfl (by simp[OC,(hS2.sl hs.1).cells.2.1]) mK fun A3 H3 hS3=> ?_
 simp only[RT]at hS3
 simp(disch:=omega) only[↓RA,RZ,simprocAttr,hn,hS3.ai 0 rfl,hS3.ai 1 rfl,hS3.ai 2 rfl]
 refine iG (b1g o (ho.ag hS3) h0 rg sv (hr.ag hS3) hrl sg tv (hs.ag hS3) hsl) ?_
 rintro r H4⟨c,b,rfl,hb,hT1⟩
 have hS4:=hS3.trans hT1
 simp only[RT]at hS4
 simp(disch:=omega) only[↓RA,RZ,simprocAttr,hn]
 refine hS4.eNew 2 [I 0,I 0] rfl rfl rfl kY fun A4 H5 hS5=> ?_
 simp only[RT]at hS5
 simp(disch:=omega) only[↓RA,RB,simprocAttr,hn]
 refine hS5.ae 3 rfl [I c.1,I c.2] rfl rfl kY (by simp) fun H6 hS6=> ?_
 simp only[RT]at hS6
 simp(disch:=omega) only[↓RA,RB,simprocAttr,hn,c8h]
 exact⟨b,rfl,hb,hS6.forget⟩
theorem b0J(o:Org)(ho:o.In H)(h0:organE o=0)(rg:Reg)(sv:Value)(hr:rg.In H sv)(hrl:rg.stops.length=o.dvs.length)(sg:Reg)(tv:Value)(hs:sg.In H tv)(hsl:sg.stops.length=o.dvs.length):
 Fn prog 18 [.agg #[.string o.name,o.rv,o.dv,o.cv],.agg #[sv,.int .u64 rg.cpl,.int .u64 rg.off],.agg #[tv,.int .u64 sg.cpl,.int .u64 sg.off]] H fun r H'=>∃b:Bool,r=.bool b∧(b=true→b7z o rg sg)∧St prog H H' []:=by
 refine .bg func18 rfl (by kernel_rfl) (m:=11) rfl fun l hn g0 g1 g2=> ?_
 simp(disch:=omega) only[↓RA,RB,simprocAttr,g0]
 refine(sR H).eNew 4 [(.string o.name),o.rv,o.dv,o.cv] rfl rfl (by simp[OC,((sR H).sl ho.1).cells.2.1,((sR H).sl ho.2.2.1).cells.2.1,((sR H).sl ho.2.2.2.2.1).cells.2.1]) lP fun A1 H1 hS1=> ?_
 simp only[RT]at hS1
 simp(disch:=omega) only[↓RA,RB,simprocAttr,g1]
 refine hS1.eNew 3 [sv,(.int .u64 rg.cpl),(.int .u64 rg.off)] rfl rfl (by simp[OC,(hS1.sl hr.1).cells.2.1]) mK fun A2 H2 hS2=> ?_
 simp only[RT]at hS2
 simp(disch:=omega) only[↓RA,RB,simprocAttr,g2]
 refine hS2.eNew 3 [tv,(.int .u64 sg.cpl),(.int .u64 sg.off)] rfl rfl (by simp[OC,(hS2.sl hs.1).cells.2.1]) mK fun A3 H3 hS3=> ?_
 simp only[RT]at hS3
 simp(disch:=omega) only[↓RA,RZ,simprocAttr,hn,hS3.ai 0 rfl,hS3.ai 1 rfl,hS3.ai 2 rfl]
 refine iG (b1r o (ho.ag hS3) h0 rg sv (hr.ag hS3) hrl sg tv (hs.ag hS3) hsl) ?_
 rintro r H4⟨b,rfl,hb,hT1⟩
 have hS4:=hS3.trans hT1
 simp only[RT]at hS4
 simp(disch:=omega) only[↓RA,RB,simprocAttr,hn,c8k]
 exact⟨b,rfl,hb,hS4.forget⟩
end Go.Ds
namespace Go.Ds
open Go.Proofs Go.Proofs.Tryz
variable {H:Heap}
set_option maxRecDepth 100000
set_option maxHeartbeats 1000000
def b1U(r:Rs)(n:Int):Bool:=match r with
 | .ok (.tuple vs) _=>(match vs.toList with
   | [.int .u64 a,.int .u64 b]=>decide (a=0)&&decide (b=n)
   | _=>false)
 | .th (.tuple vs) _=>(match vs.toList with
   | [.int .u64 a,.int .u64 b]=>decide (a=0)&&decide (b=n)
   | _=>false)
 | _=>false
theorem c4k:(uU prog [97,142,143] .e fun T=>[(25:Int)].all fun n=>b1U (nD T (exF prog T 4000) [] (kT 97) [.int .u64 1,.int .u64 n] gH) n)=true:=by kernel_rfl
theorem b8b{T:LT}(hT:TOk prog T){k:FuncId}{args:List Value}{n:Int}(h:b1U (nD T (exF prog T 4000) [] (kT k) args gH) n=true):Fn prog k args gH fun r _=>r=.tuple #[.int .u64 0,.int .u64 n]:=by
 have hv:∀(vs:Array Value),(match vs.toList with
  | [.int .u64 a,.int .u64 b]=>decide (a=0)&&decide (b=n)
  | _=>false)=true→Value.tuple vs=.tuple #[.int .u64 0,.int .u64 n]:=by
  intro vs h
  split at h
  ·rename_i a b e
   rw[cY,decide_eq_true_eq,decide_eq_true_eq]at h
   obtain⟨rfl,rfl⟩:=h
   congr 1
   exact gU e
  ·cases h
 unfold b1U at h
 split at h
 ·rename_i vs H1 e
  rw[←hv vs h]
  exact mH hT (.inl e)
 ·rename_i vs H1 e
  rw[←hv vs h]
  exact mH hT (.inr e)
 ·cases h
theorem b6T(hG:Glob gH H):Fn prog 97 [.int .u64 1,.int .u64 25] H fun r H'=>r=.tuple #[.int .u64 0,.int .u64 25]∧St prog H H' []:=by
 obtain⟨T,hT,h⟩:=rJ (ps:=[(25:Int)]) (f:=fun T n=>b1U (nD T (exF prog T 4000) [] (kT 97) [.int .u64 1,.int .u64 n] gH) n) c4k
 exact tA (by simp[flat,jB,iY]) rfl (b8b hT (h 25 (by simp))) hG
theorem rS(c z:Value):∀(m x n:Nat),x+m≤n→iX (List.replicate x c++List.replicate (n-x) z) x (List.replicate m c)=List.replicate (x+m) c++List.replicate (n-(x+m)) z:=by
 intro m x n h
 have e:List.replicate (n-x) z=List.replicate m z++List.replicate (n-(x+m)) z:=by
  rw[List.replicate_append_replicate];congr 1;omega
 have:=nI (List.replicate m c) (List.replicate x c) (List.replicate (n-x) z) (by simp;omega)
 rw[eN]at this
 rw[this,List.replicate_append_replicate]
 congr 1
 simp
 omega
theorem b0m{H:Heap}{v:Value}{cs:List Value}(h:RdAt H v 1 cs)(h0:cs≠[]):mW v 1 0 cs.length=v:=by
 rcases h with⟨rfl,rfl⟩|⟨A,i,e,row,ty,rw,lo',ver,n,h1,h2,h3,h4,h5,h6,rfl⟩
 ·exact(h0 rfl).elim
 ·simp[mW,h6]
theorem St.cr{P:Program}{H0:Base}{os:List Ob}(hS:St P H0 H os)(i:Nat){v:Value}{cs:List Value}(ho:os[i]? =some ⟨v,1,cs⟩){x:Value}{ys:List Value}(hx:RdAt H x 1 ys)(h0:0<cs.length)(hy:0<ys.length){t:TypeId}(ht:iR P t=some 1){K:Value→Heap→Prop}
 (h:∀H1,St P H0 H1 (os.set i ⟨v,1,iX cs 0 (ys.take (min ys.length cs.length))⟩)→K (.int .i64 ((min ys.length cs.length:Nat):Int)) H1):a5k P H t v x K:=by
 have e:=b0m (hS.rd (size:=0) i ho) (by intro e;simp[e]at h0)
 have:=hS.bN i ho hx 0 cs.length (by omega) h0 hy ht h
 rwa [e]at this
theorem a2J(hG:Glob gH H){c:Int}(v:Value)(hv:Sl 1 (one I) H v [c]):Fn prog 44 [v,I 25] H fun r H'=>St prog H H' [⟨r,1,List.replicate 25 (I c)⟩]:=by
 have h1:(([c]:List Int).length:Int)=1:=rfl
 refine .aI func44 rfl (by kernel_rfl) (m:=48) rfl fun l hn g0 g1=> ?_
 simp(disch:=omega) only[↓RA,RZ,simprocAttr,hn,g0,g1,((sR H).sl hv).len]
 refine(sR H).cF (b6T ((sR H).gl hG)) fun H1 hS1=> ?_
 simp(disch:=omega) only[↓RA,RZ,simprocAttr,hn]
 refine hS1.bM 25 c6h (by omega) fun w H2 hS2=> ?_
 simp only[RT]at hS2
 simp(disch:=omega) only[↓RA,RB,simprocAttr,hn,g0]
 refine hS2.cr 0 rfl (hS2.sl hv).rd (by simp) (by simp[one]) c3z fun H3 hS3=> ?_
 have e1:min ([c].flatMap (one I)).length (List.replicate 25 (Value.int .i64 0)).length=1:=by simp[one]
 rw[e1]at hS3 ⊢
 have e2:=rS (I c) (.int .i64 0) 1 0 25 (by omega)
 simp only[List.replicate_zero,fp,Nat.sub_zero,fQ]at e2
 have hS4:St prog H H3 [⟨w,1,List.replicate 1 (I c)++List.replicate (25-1) (.int .i64 0)⟩]:=by
  rw[←e2]
  exact hS3
 simp(disch:=omega) only[↓RA,RB,simprocAttr,hn]
 have e3:∀x:Nat,List.replicate x (I c)++List.replicate (25-x) (.int .i64 0)=(List.replicate x (c:Int)++List.replicate (25-x) 0).flatMap (one I):=fun x=>by
  rw[qE,dT,List.map_replicate,List.map_replicate]
 refine Wp.aq (fun n l H'=>l.length=48∧get l 4=(.slice none 0 0)∧∃(x:Nat),(n+x=25∧1≤x)∧get l 8=I x∧get l 7=w∧St prog H H' [⟨w,1,(List.replicate x (c:Int)++List.replicate (25-x) 0).flatMap (one I)⟩]) 24 ?_ ?_
 ·simp(disch:=omega) only[RB,RC,simprocAttr,hn]
  rw[e3]at hS4
  exact⟨1,⟨by omega,by omega⟩,rfl,hS4⟩
 rintro n l H2⟨hn,g4,x,⟨hx,hx1⟩,g8,g7,hS2⟩
 have hln:(List.replicate x (c:Int)++List.replicate (25-x) 0).length=25:=by simp;omega
 simp(disch:=omega) only[↓RA,RZ,simprocAttr,hn,g8,g7,(hS2.ay 0 rfl (fun _=>rfl)).len,hln]
 refine iA (fun q1=> ?_) (fun q1=> ?_)
 ·simp(disch:=omega) only[↓RA,RC,simprocAttr,q1]
  refine Wp.drw jZ (by kernel_rfl) ?_
  simp(disch:=omega) only[↓RA,RZ,simprocAttr,hn,g8,g7,(hS2.ay 0 rfl (fun _=>rfl)).aW,(hS2.ay 0 rfl (fun _=>rfl)).aX,hln]
  have hxt:((25:Int)-(x:Int)).toNat=25-x:=by omega
  rw[hxt]
  have hlc:((List.replicate x (c:Int)++List.replicate (25-x) 0).flatMap (one I)).length=25:=by rw[qE,eu,hln]
  have hrd:=hS2.rd 0 rfl
  have hsub:=hrd.sub 0 x (by rw[hlc];omega) (by intro e;rw[e]at hlc;simp at hlc)
  have e5:(((List.replicate x (c:Int)++List.replicate (25-x) 0).flatMap (one I)).drop (0*(0+1))).take (x*(0+1))=List.replicate x (I c):=by
   rw[←e3]
   simp[]
  rw[e5]at hsub
  refine hS2.bN 0 rfl hsub x (25-x) (by rw[hlc];omega) (by omega) (by simp;omega) c3z fun H4 hS5=> ?_
  have e6:(List.replicate x (I c)).take (min (List.replicate x (I c)).length (25-x))=List.replicate (min x (25-x)) (I c):=by simp
  rw[e6]at hS5
  have e7:min (List.replicate x (I c)).length (25-x)=min x (25-x):=by simp
  rw[e7]
  have e8:=rS (I c) (.int .i64 0) (min x (25-x)) x 25 (by omega)
  have hS6:St prog H H4 [⟨w,1,(List.replicate (x+min x (25-x)) (c:Int)++List.replicate (25-(x+min x (25-x))) 0).flatMap (one I)⟩]:=by
   rw[←e3,←e8,e3]
   exact hS5
  simp(disch:=omega) only[↓RA,RZ,simprocAttr,hn,g4,g7]
  exact⟨25-(x+min x (25-x)),by omega,x+min x (25-x),⟨by omega,by omega⟩,by simp,hS6⟩
 simp(disch:=omega) only[↓RA,RZ,simprocAttr,hn,g7,c8v,q1]
 have e:x=25:=by omega
 subst e
 have hfin:((List.replicate 25 (c:Int)++List.replicate (25-25) 0).flatMap (one I))=List.replicate 25 (I c):=by rw[←e3];rfl
 have h9:=hS2
 rw[hfin]at h9
 exact h9
end Go.Ds
namespace Go.Ds
open Go.Proofs
variable {H:Heap}
set_option maxRecDepth 10000
set_option maxHeartbeats 1000000
section
variable (w1 w2 w3 w4 w5 w6 w7:Value)
def b0o(x:Int×Int):List (Int×Int)→List (Int×Int)
 | []=>[x]
 | y::l=>if le2 x y then x::y::l else y::b0o x l
def a3O:List (Int×Int)→List (Int×Int)
 | []=>[]
 | x::l=>b0o x (a3O l)
theorem a1d(x:Int×Int):∀l,(b0o x l).Perm (x::l)
 | []=>.refl _
 | y::l=>by
   unfold b0o
   split
   ·exact .refl _
   ·exact((a1d x l).cons y).trans (.swap ..)
theorem a4v:∀l,(a3O l).Perm l
 | []=>.refl _
 | x::l=>(a1d x _).trans ((a4v l).cons x)
theorem b4J(x y:Int×Int):le2 x y=false→le2 y x=true:=by
 intro h
 rw[←eL]at h
 rw[nY]at h ⊢
 omega
theorem a1H(x:Int×Int):∀l:List (Int×Int),l.Pairwise (fun a b=>le2 a b=true)→(b0o x l).Pairwise fun a b=>le2 a b=true
 | [],_=>by simp[b0o]
 | y::l,h=>by
   have h1:=gX.1 h
   unfold b0o
   split
   ·rename_i hxy
    refine gX.2 ⟨fun z hz=> ?_,h⟩
    rcases dX.1 hz with rfl|hz
    ·exact hxy
    ·have h2:=h1.1 z hz
     rw[nY]at*
     omega
   ·rename_i hxy
    refine gX.2 ⟨fun z hz=> ?_,a1H x l h1.2⟩
    rcases dX.1 ((a1d x l).mem_iff.1 hz)with rfl|hz
    ·exact b4J _ _ (by simpa using hxy)
    ·exact h1.1 z hz
theorem a1v:∀l:List (Int×Int),(a3O l).Pairwise fun a b=>le2 a b=true
 | []=>.nil
 | x::l=>a1H x _ (a1v l)
theorem c4q:pG=a3O:=by
 funext l
 refine List.Perm.eq_of_pairwise (le:=fun a b=>le2 a b=true) (fun a b _ _ h1 h2=> ?_) (tG l) (a1v l) ((nA l).trans (a4v l).symm)
 rw[nY]at h1 h2
 exact fP (by omega) (by omega)
def b8d(s:List Ct→List Ct)(o:Org)(r:Reg)(l:List Ct):List Ct:=dd (s (l.filter (fun c=> !r.off.testBit c.1.toNat)++bfs o r.cpl 1100 0 (kI o r.cpl l)))
def c4J(s:List Ct→List Ct)(rs:List Rk)(p:Stp)(key:Int):List Ct:=dd (s (((a5U p key).filter fun d=>rH rs d key).map fun d=>mO rs d key))
def b5P(s:List Ct→List Ct)(o:Org)(r:Reg)(c:Ct):List Ct:=(List.range (iB o.dvs c.1.toNat).stops.length).flatMap fun i=>if(iB r.stops c.1.toNat).testBit i then c4J s o.ranks (iB (iB o.dvs c.1.toNat).stops i) c.2 else[]
end
end Go.Ds
namespace Go.Ds
open Go.Proofs Go.Proofs.Tryz
variable {H:Heap}
set_option maxRecDepth 10000
set_option maxHeartbeats 1000000
theorem a4T(hG:Glob gH H)(s:ByteArray):Fn prog 96 [.string s] H fun r H'=>∃wv,r=.agg #[.string s,.string ⟨#[102,108,117,116,101]⟩,I 8,I 1,I 36,wv]∧St prog H H' [⟨wv,1,List.replicate 25 (I 1)⟩]:=by
 refine .aR func96 rfl (by kernel_rfl) (m:=8) rfl fun l hn g0=> ?_
 simp(disch:=omega) only[↓RA,RZ,simprocAttr]
 refine(sR H).eNew 6 [(.string ⟨#[]⟩),(.string ⟨#[]⟩),I 0,I 0,I 0,(.slice none 0 0)] rfl rfl rfl uP fun A1 H1 hS1=> ?_
 simp only[RT]at hS1
 simp(disch:=omega) only[↓RA,RB,simprocAttr,g0,wW]
 refine hS1.ak [I 1] a0e a3i rfl rfl (by simp[Value.cells]) rfl rfl (by decide) (by decide) fun w1 H2 hS2=> ?_
 simp only[RT]at hS2
 simp(disch:=omega) only[↓RA,RZ,simprocAttr,hn]
 refine iG ((a2J (hS2.gl hG) w1 (hS2.ay 1 rfl (fun _=>rfl))).tr) ?_
 rintro r H3⟨-,hT1⟩
 have hS3:=hS2.trans hT1
 simp only[RT]at hS3
 obtain⟨wv,rfl⟩:∃w,w=r:=⟨r,rfl⟩
 simp(disch:=omega) only[↓RA,RB,simprocAttr,hn,a1I (hS3.rd 2 rfl).cells]
 refine hS3.ae 0 rfl [(.string s),(.string ⟨#[102,108,117,116,101]⟩),I 8,I 1,I 36,wv] rfl (by simp[OC,(hS3.rd 2 rfl).cells.2.1]) uP (by simp) fun H4 hS4=> ?_
 simp only[RT]at hS4
 simp(disch:=omega) only[↓RA,RZ,simprocAttr,hn,c7V,hS4.ai 0 rfl]
 exact⟨wv,rfl,hS4.pick [2] (by decide) rfl⟩
theorem a5p(n feet shift:Int):Fn prog 95 [I n,I feet,I shift] H fun r H'=>∃dv gv,St prog H H' [⟨dv,2,[I n,I shift]⟩,⟨gv,3,[I 36,I 48,dv]⟩,⟨r,4,[.string ⟨#[97]⟩,I feet,I 1,gv]⟩]:=by
 refine .bg func95 rfl (by kernel_rfl) (m:=17) rfl fun l hn g0 g1 g2=> ?_
 simp(disch:=omega) only[↓RA,RB,simprocAttr,hn,g0,g1,g2,wW,qT]
 refine(sR H).ak [I n,I shift] a4n a4s rfl rfl (by simp[Value.cells]) rfl rfl (by decide) (by decide) fun w1 H1 hS1=> ?_
 simp only[RT]at hS1
 simp(disch:=omega) only[↓RA,RB,simprocAttr,hn,lN (hS1.rd 0 rfl).cells]
 refine hS1.ak [I 36,I 48,w1] qM xK rfl rfl (by first|(simp[];done)|simp[Value.cells]) (by first|(simp[];done)|simp[Value.cells]) (by simp[OC,(hS1.rd 0 rfl).cells.2.1]) (by decide) (by decide) fun w2 H2 hS2=> ?_
 simp only[RT]at hS2
 simp(disch:=omega) only[↓RA,RB,simprocAttr,hn,a8i (hS2.rd 1 rfl).cells]
 refine hS2.ak [(.string ⟨#[97]⟩),I feet,I 1,w2] c3a c4U rfl rfl (by first|(simp[];done)|simp[Value.cells]) (by first|(simp[];done)|simp[Value.cells]) (by simp[OC,(hS2.rd 1 rfl).cells.2.1]) (by decide) (by decide) fun w3 H3 hS3=> ?_
 simp only[RT]at hS3
 simp(disch:=omega) only[↓RA,RB,simprocAttr,hn,c7Q]
 exact⟨w1,w2,hS3⟩
section
variable (w1 w2 d1 g1 s1 d2 g2 s2 w3 w4 w5:Value)
end
def a0Z(c1 c2:Int)(w1 w2:Value):List Rk:=[⟨⟨#[114]⟩,⟨#[102,108,117,116,101]⟩,8,1,36,w1,List.replicate 25 c1⟩,⟨⟨#[115]⟩,⟨#[102,108,117,116,101]⟩,8,1,36,w2,List.replicate 25 c2⟩]
def b6J(d1 g1 s1 d2 g2 s2:Value):List Dvn:=[⟨⟨#[111,110,101]⟩,false,36,48,s1,[⟨⟨#[97]⟩,8,1,g1,[⟨36,48,d1,[⟨0,0⟩]⟩]⟩]⟩,⟨⟨#[116,119,111]⟩,false,36,48,s2,[⟨⟨#[97]⟩,4,1,g2,[⟨36,48,d2,[⟨1,12⟩]⟩]⟩]⟩]
def c0s:List Cpl:=[⟨⟨#[99]⟩,0,1,0,false⟩]
def exW(c1 c2:Int)(w1 w2 d1 g1 s1 d2 g2 s2 w3 w4 w5:Value):Org:=⟨⟨#[101]⟩,w3,a0Z c1 c2 w1 w2,w4,b6J d1 g1 s1 d2 g2 s2,w5,c0s⟩
theorem a7w(hG:Glob gH H):Fn prog 43 [] H fun r H'=>∃w1 w2 d1 g1 s1 d2 g2 s2 w3 w4 w5,r=.agg #[.string ⟨#[101]⟩,w3,w4,w5]∧St prog H H' [⟨w1,1,(List.replicate 25 (1:Int)).flatMap (one I)⟩,⟨w2,1,(List.replicate 25 (1:Int)).flatMap (one I)⟩,
 ⟨d1,2,[(⟨0,0⟩:Drw)].flatMap Drw.cells⟩,⟨g1,3,[(⟨36,48,d1,[⟨0,0⟩]⟩:Seg)].flatMap Seg.cells⟩,⟨s1,4,[(⟨⟨#[97]⟩,8,1,g1,[⟨36,48,d1,[⟨0,0⟩]⟩]⟩:Stp)].flatMap Stp.cells⟩,
 ⟨d2,2,[(⟨1,12⟩:Drw)].flatMap Drw.cells⟩,⟨g2,3,[(⟨36,48,d2,[⟨1,12⟩]⟩:Seg)].flatMap Seg.cells⟩,⟨s2,4,[(⟨⟨#[97]⟩,4,1,g2,[⟨36,48,d2,[⟨1,12⟩]⟩]⟩:Stp)].flatMap Stp.cells⟩,
 ⟨w3,6,(a0Z 1 1 w1 w2).flatMap Rk.cells⟩,⟨w4,5,(b6J d1 g1 s1 d2 g2 s2).flatMap Dvn.cells⟩,⟨w5,5,c0s.flatMap Cpl.cells⟩]:=by
 refine .cQ func43 rfl (by kernel_rfl) (m:=19) rfl fun l hn=> ?_
 simp(disch:=omega) only[↓RA,RZ,simprocAttr]
 refine(sR H).eNew 4 [(.string ⟨#[]⟩),(.slice none 0 0),(.slice none 0 0),(.slice none 0 0)] rfl rfl rfl lP fun A1 H1 hS1=> ?_
 simp only[RT]at hS1
 simp(disch:=omega) only[↓RA,RZ,simprocAttr,a7L]
 refine hS1.eNew 2 [I 0,I 0] rfl rfl rfl yT fun A2 H2 hS2=> ?_
 simp only[RT]at hS2
 simp(disch:=omega) only[↓RA,RB,simprocAttr,hn]
 refine hS2.ae 1 rfl [I 36,I 48] rfl rfl yT (by simp) fun H3 hS3=> ?_
 simp only[RT]at hS3
 simp(disch:=omega) only[↓RA,RB,simprocAttr]
 refine Wp.cj jZ [0,1,4,5,8,9,2,3,6,7,10,11,12,13,14,15] [0,1,6,7,2,3,8,9,4,5,10,11,12,13,14,15] ⟨true,[35],[]⟩ [(7,0),(7,1),(7,2),(7,4),(7,6),(9,0),(9,1),(9,2),(9,4),(9,6)] (by kernel_rfl) (by kernel_rfl) (by kernel_rfl) ?_
 simp(disch:=omega) only[↓RA,RZ,simprocAttr]
 refine iG (a4T (hS3.gl hG) _) ?_
 rintro r H4⟨wv1,rfl,hT1⟩
 have hS4:=hS3.trans hT1
 simp only[RT]at hS4
 simp(disch:=omega) only[↓RA,RZ,simprocAttr]
 refine iG (a4T (hS4.gl hG) _) ?_
 rintro r H5⟨wv2,rfl,hT2⟩
 have hS5:=hS4.trans hT2
 simp only[RT]at hS5
 simp(disch:=omega) only[↓RA,RZ,simprocAttr,hn]
 refine iG (a5p 0 8 0) ?_
 rintro r H6⟨d1,g1,hT3⟩
 have hS6:=hS5.trans hT3
 simp only[RT]at hS6
 obtain⟨s1,rfl⟩:∃w,w=r:=⟨r,rfl⟩
 simp(disch:=omega) only[↓RA,RZ,simprocAttr,hn]
 refine iG (a5p 1 4 12) ?_
 rintro r H7⟨d2,g2,hT4⟩
 have hS7:=hS6.trans hT4
 simp only[RT]at hS7
 obtain⟨s2,rfl⟩:∃w,w=r:=⟨r,rfl⟩
 simp(disch:=omega) only[↓RA,RB,simprocAttr,hn]
 refine hS7.ak [(.string ⟨#[114]⟩),(.string ⟨#[102,108,117,116,101]⟩),I 8,I 1,I 36,wv1,(.string ⟨#[115]⟩),(.string ⟨#[102,108,117,116,101]⟩),I 8,I 1,I 36,wv2] c2Q c7I rfl rfl (by first|(simp[];done)|simp[Value.cells]) (by first|(simp[];done)|simp[Value.cells]) (by simp[OC,(hS7.rd 2 rfl).cells.2.1,(hS7.rd 3 rfl).cells.2.1]) (by decide) (by decide) fun w1 H8 hS8=> ?_
 simp only[RT]at hS8
 simp(disch:=omega) only[↓RA,RZ,simprocAttr,hn,hS8.ai 1 rfl,a2X (hS8.rd 6 rfl).cells,a2X (hS8.rd 9 rfl).cells]
 refine hS8.ak [(.string ⟨#[111,110,101]⟩),(.bool false),I 36,I 48,s1,(.string ⟨#[116,119,111]⟩),(.bool false),I 36,I 48,s2] c2F c5u rfl rfl (by first|(simp[];done)|simp[Value.cells]) (by first|(simp[];done)|simp[Value.cells]) (by simp[OC,(hS8.rd 6 rfl).cells.2.1,(hS8.rd 9 rfl).cells.2.1]) (by decide) (by decide) fun w2 H9 hS9=> ?_
 simp only[RT]at hS9
 simp(disch:=omega) only[↓RA,RB,simprocAttr,hn,a9e]
 refine hS9.ak [(.string ⟨#[99]⟩),I 0,I 1,I 0,(.bool false)] b0A c0J rfl rfl (by simp[Value.cells]) rfl rfl (by decide) (by decide) fun w3 H10 hS10=> ?_
 simp only[RT]at hS10
 simp(disch:=omega) only[↓RA,RB,simprocAttr,hn,a6l (hS10.rd 10 rfl).cells (hS10.rd 11 rfl).cells (hS10.rd 12 rfl).cells]
 refine hS10.ae 0 rfl [(.string ⟨#[101]⟩),w1,w2,w3] rfl (by simp[OC,(hS10.rd 10 rfl).cells.2.1,(hS10.rd 11 rfl).cells.2.1,(hS10.rd 12 rfl).cells.2.1]) lP (by simp) fun H11 hS11=> ?_
 simp only[RT]at hS11
 simp(disch:=omega) only[↓RA,RZ,simprocAttr,hn,hS3.ai 1 rfl,hS4.ai 1 rfl,hS5.ai 1 rfl,hS6.ai 1 rfl,hS7.ai 1 rfl,c8K,hS11.ai 0 rfl]
 exact⟨wv1,wv2,d1,g1,s1,d2,g2,s2,w1,w2,w3,rfl,hS11.pick [2,3,4,5,6,7,8,9,10,11,12] (by decide) rfl⟩
section
variable (w1 w2 d1 g1 s1 d2 g2 s2 w3 w4 w5:Value)
theorem a6p:nJ (exW 7 2 w1 w2 d1 g1 s1 d2 g2 s2 w3 w4 w5) ⟨[1,1],1,0⟩=0:=by kernel_rfl
theorem b5Y:mI (exW 7 2 w1 w2 d1 g1 s1 d2 g2 s2 w3 w4 w5) [jF [40,41],(0,0)]=0:=by kernel_rfl
theorem b1n:rkE (exW 7 2 w1 w2 d1 g1 s1 d2 g2 s2 w3 w4 w5) ⟨[1,1],1,0⟩ [jF [40,41],(0,0)]=0:=by
 unfold rkE
 rw[a6p,if_neg (by decide),b5Y]
end
def rkS(o:Org)(acc:List Int)(p:Ct):List Int:=acc.set p.1.toNat (nF (iB acc p.1.toNat+uR o p))
def rkF(o:Org)(ps:List Ct):List Int:=ps.foldl (rkS o) (List.replicate o.ranks.length 0)
theorem b2P(o:Org):∀(ps:List Ct)(acc:List Int),(ps.foldl (rkS o) acc).length=acc.length
 | [],_=>rfl
 | p::ps,acc=>by
   rw[eQ,b2P o ps]
   unfold rkS
   rw[gT]
theorem c1C(o:Org)(ps:List Ct):(rkF o ps).length=o.ranks.length:=by unfold rkF;rw[b2P,eN]
theorem b5X(o:Org)(ps:List Ct)(i:Nat)(h:i<ps.length):rkF o (ps.take (i+1))=rkS o (rkF o (ps.take i)) (iB ps i):=by
 unfold rkF
 rw[kH ps i h,fC]
 rfl
theorem b5h(acc:List Int)(e:Nat)(x:Int):((acc.flatMap (one I)).set e (I x))=(acc.set e x).flatMap (one I):=by
 rw[qE,qE,ig]
def byF(o:Org)(rg:Reg)(ks:List Nt):List Int:=if rkE o rg ks=0 then rkF o (oA o rg ks)else[]
theorem b4t(hG:Glob gH H)(o:Org)(ho:o.In H)(rg:Reg)(sv:Value)(hr:rg.In H sv)(kv:Value)(ks:List Nt)(hk:Ks H kv ks):
 Fn prog 46 [.agg #[.string o.name,o.rv,o.dv,o.cv],.agg #[sv,.int .u64 rg.cpl,.int .u64 rg.off],kv] H fun r H'=>∃v,r=.tuple #[v,I (rkE o rg ks)]∧St prog H H' [⟨v,1,(byF o rg ks).flatMap (one I)⟩]:=by
 have hle:=b5l (o:=o) (rg:=rg) hk.ok
 refine .bg func46 rfl (by kernel_rfl) (m:=53) rfl fun l hn g0 g1 g2=> ?_
 simp(disch:=omega) only[↓RA,RB,simprocAttr,g0]
 refine(sR H).eNew 4 [(.string o.name),o.rv,o.dv,o.cv] rfl rfl (by simp[OC,((sR H).sl ho.1).cells.2.1,((sR H).sl ho.2.2.1).cells.2.1,((sR H).sl ho.2.2.2.2.1).cells.2.1]) lP fun A1 H1 hS1=> ?_
 simp only[RT]at hS1
 simp(disch:=omega) only[↓RA,RB,simprocAttr,g1]
 refine hS1.eNew 3 [sv,(.int .u64 rg.cpl),(.int .u64 rg.off)] rfl rfl (by simp[OC,(hS1.sl hr.1).cells.2.1]) mK fun A2 H2 hS2=> ?_
 simp only[RT]at hS2
 simp(disch:=omega) only[↓RA,RZ,simprocAttr,hn,g2,hS2.ai 0 rfl,hS2.ai 1 rfl]
 have hS1:=hS2
 refine iG (a1q (hS2.gl hG) o (ho.ag hS2) rg sv (hr.ag hS2) kv ks (hk.ag hS2)) ?_
 rintro r H3⟨pv,rfl,hx,hT1⟩
 have hS3:=hS2.trans hT1
 simp only[RT]at hS3
 simp(disch:=omega) only[↓RA,RB,simprocAttr,hn]
 refine iA (fun h1=> ?_) (fun h1=> ?_)
 ·have hb:byF o rg ks=[]:=by unfold byF;rw[if_neg h1]
  have hS4:=hS3.nil 0
  simp only[RT]at hS4
  simp(disch:=omega) only[↓RA,RZ,simprocAttr,hn,c5Q,h1]
  rw[hb]
  exact⟨.slice none 0 0,rfl,hS4.pick [2] (by decide) rfl⟩
 have h0:=dy.1 h1
 obtain⟨hz1,hz2⟩:=vO h0
 have hf:=Org.aJ (lX hz1).1
 have hrl:=hf.rlen
 have hb:byF o rg ks=rkF o (oA o rg ks):=by unfold byF;rw[if_pos h0]
 have hx2:=hx.step (hS1.bc (H':=H3))
 obtain⟨X,hBX,hS5⟩:=hS3.aE (os:=[⟨ptr A1 0 4,0,_⟩,⟨ptr A2 0 3,0,_⟩])
 have hx3:=hx2.step (hS5.kept hBX)
 simp(disch:=omega) only[↓RA,RZ,simprocAttr,hn,hS5.ld 0 rfl,((hS3.al hBX hS5).sl ho.1).len,h1]
 refine hS5.bM o.ranks.length c6h (by omega) fun w1 H4 hS6=> ?_
 simp only[RT]at hS6
 rw[show List.replicate o.ranks.length (Value.int .i64 0)=(List.replicate o.ranks.length (0:Int)).flatMap (one I)from by rw[qE,List.map_replicate]]at hS6
 simp(disch:=omega) only[↓RA,RZ,simprocAttr,hn,(hx2.step (hS6.kept hBX)).1.len,h1]
 refine Wp.aq (fun n l H'=>l.length=53∧get l 3=(ptr A1 0 4)∧get l 6=(.slice none 0 0)∧get l 7=I 0∧get l 27=pv∧get l 28=I (oA o rg ks).length∧∃(i:Nat),(n+i=(oA o rg ks).length)∧get l 29=I i∧get l 10=w1∧St prog X H' [⟨ptr A1 0 4,0,[(.string o.name),o.rv,o.dv,o.cv]⟩,⟨ptr A2 0 3,0,[sv,(.int .u64 rg.cpl),(.int .u64 rg.off)]⟩,⟨w1,1,(rkF o ((oA o rg ks).take i)).flatMap (one I)⟩]) (oA o rg ks).length ?_ ?_
 ·simp(disch:=omega) only[RB,RC,simprocAttr,hn]
  exact⟨0,by omega,rfl,hS6⟩
 rintro n l H5⟨hn,g3,g6,g7,g27,g28,i,hi,g29,oO,hS7⟩
 simp(disch:=omega) only[↓RA,RB,simprocAttr,hn,g28,g29]
 refine iA (fun q1=> ?_) (fun q1=> ?_)
 ·have hpi:=b1Y (o:=o) (rg:=rg) (ks:=ks) _ (iD (xs:=oA o rg ks) (j:=i) (by omega))
  obtain⟨e,he⟩:∃e:Nat,(iB (oA o rg ks) i).1=e:=⟨(iB (oA o rg ks) i).1.toNat,by have:=hpi.1;omega⟩
  obtain⟨f,hff⟩:∃f:Nat,(iB (oA o rg ks) i).2=f:=⟨(iB (oA o rg ks) i).2.toNat,by have:=hpi.2.2.1;omega⟩
  have hel:e<o.ranks.length:=by have:=hpi.2.1;omega
  have hfl:f<(iB o.ranks e).wind.length:=by
   have:=hpi.2.2.2
   rw[he,dN]at this
   omega
  have hlr:=c1C o ((oA o rg ks).take i)
  have hsu:=b5X o (oA o rg ks) i (by omega)
  have hwt:uR o (iB (oA o rg ks) i)=iB (iB o.ranks e).wind f:=by unfold uR;rw[he,hff,dN,dN]
  unfold rkS at hsu
  rw[hwt,he,dN]at hsu
  simp(disch:=omega) only[↓RA,RZ,simprocAttr,hn,g27,g29,(hx2.step (hS7.kept hBX)).1.idx,(hx2.step (hS7.kept hBX)).1.ai,jL,q1]
  refine hS7.eNew 2 [I 0,I 0] rfl rfl rfl rM fun A3 H6 hS8=> ?_
  simp only[RT]at hS8
  simp(disch:=omega) only[↓RA,RZ,simprocAttr,hn,q1]
  refine hS8.ae 3 rfl [I (iB (oA o rg ks) i).1,I (iB (oA o rg ks) i).2] rfl rfl rM (by simp) fun H7 hS9=> ?_
  simp only[RT]at hS9
  simp(disch:=omega) only[↓RA,RZ,simprocAttr,q1]
  refine Wp.drw jZ (by kernel_rfl) ?_
  simp(disch:=omega) only[↓RA,RZ,simprocAttr,hn,oO]
  simp(disch:=omega) only[↓RA,RZ,simprocAttr,hn,g3,hS9.ld 3 rfl,(hS9.ay 2 rfl (fun _=>rfl)).idx,(hS9.ay 2 rfl (fun _=>rfl)).ld,one,hS9.ld 0 rfl,((hS3.al hBX hS9).sl ho.1).idx,((hS3.al hBX hS9).sl ho.1).ba,((hS3.al hBX hS9).sl ho.1).ld,Rk.cells,((hS3.al hBX hS9).sl (ho.2.1 (iB o.ranks e) (iD (by omega))).1).idx,((hS3.al hBX hS9).sl (ho.2.1 (iB o.ranks e) (iD (by omega))).1).ld,he,hff]
  refine hS9.aV 2 rfl [_] rfl rfl tS3 (by simp) (by rw[qE,eu,hlr];simp;omega) fun H8 hS10=> ?_
  simp only[RT]at hS10
  simp(disch:=omega) only[↓RA,RZ,simprocAttr,hn,g3,g6,g7,g27,g28,g29,oO,he,hff]
  refine⟨n-1,by omega,i+1,by omega,by simp,?_⟩
  rw[hsu,←b5h]
  exact hS10.pick [0,1,2] (by decide) rfl
 have hnt:=(hS7.ay (cel:=one I) 2 rfl (fun _=>rfl)).bF
 simp(disch:=omega) only[↓RA,RZ,simprocAttr,hn,oO,c5Q,q1,hnt]
 have hii:i=(oA o rg ks).length:=by omega
 rw[hb,h0]
 refine⟨_,rfl,?_⟩
 have h9:=(hS3.al hBX hS7).pick (os':=[⟨w1,1,_⟩]) [2] (by decide) rfl
 rw[hii,ee]at h9
 exact h9
end Go.Ds
namespace Go.Ds
open Go.Proofs
variable {H:Heap}
set_option maxRecDepth 10000
set_option maxHeartbeats 1000000
theorem a4V(o:Org)(r:Reg)(l:List Ct):jK o r l=dd (a3O ((b8d a3O o r l).flatMap (b5P a3O o r))):=by
 rw[←c4q]
 rfl
section
variable (w1 w2 d1 g1 s1 d2 g2 s2 w3 w4 w5:Value)
end
end Go.Ds
namespace Go.Ds
open Go.Proofs Go.Proofs.Tryz
variable {H:Heap}
set_option maxRecDepth 10000
set_option maxHeartbeats 1000000
theorem b4s(v w:Value)(xs ys:List Int)(hv:Sl 1 (one I) H v xs)(hw:Sl 1 (one I) H w ys)(hl:xs.length<1000000000)(hl2:ys.length<1000000000):
 Fn prog 48 [v,w] H fun r H'=>r=.bool (decide (xs=ys))∧St prog H H' []:=by
 refine .aI func48 rfl (by kernel_rfl) (m:=26) rfl fun l hn g0 g1=> ?_
 simp(disch:=omega) only[↓RA,RZ,simprocAttr,hn,g0,g1,((sR H).sl hv).len,((sR H).sl hw).len]
 refine iA (fun h1=> ?_) (fun h1=> ?_)
 ·simp(disch:=omega) only[↓RA,RZ,simprocAttr,hn,c3o,h1]
  exact⟨by rw[decide_eq_false];intro e;rw[e]at h1;exact h1 rfl,(sR H)⟩
 simp(disch:=omega) only[↓RA,RZ,simprocAttr,hn,g0,((sR H).sl hv).len,h1]
 refine Wp.aq (fun n l H'=>l.length=26∧get l 0=v∧get l 1=w∧get l 12=I xs.length∧∃(j:Nat),(n+j=xs.length∧∀q,q<j→iB xs q=iB ys q)∧get l 13=I j∧St prog H H' []) xs.length ?_ ?_
 ·simp(disch:=omega) only[RB,RC,simprocAttr,hn,g0,g1]
  exact⟨0,⟨by omega,fun q hq=>absurd hq (dM _)⟩,rfl,(sR H)⟩
 rintro n l H1⟨hn,g0,g1,g12,j,⟨hj,hz⟩,g13,hS1⟩
 simp(disch:=omega) only[↓RA,RB,simprocAttr,hn,g12,g13]
 refine iA (fun q1=> ?_) (fun q1=> ?_)
 ·simp(disch:=omega) only[↓RA,RZ,simprocAttr,hn,g13,q1]
  refine Wp.drw jZ (by kernel_rfl) ?_
  simp(disch:=omega) only[↓RA,RZ,simprocAttr,hn,g0,g1,(hS1.sl hv).idx,(hS1.sl hv).ld,one,(hS1.sl hw).idx,(hS1.sl hw).ld]
  refine iA (fun q2=> ?_) (fun q2=> ?_)
  ·simp(disch:=omega) only[↓RA,RZ,simprocAttr,hn,c3o,q2]
   refine⟨?_,hS1⟩
   rw[decide_eq_false]
   intro e
   rw[e]at q2
   exact q2 rfl
  have q3:=dy.1 q2
  simp(disch:=omega) only[↓RA,RZ,simprocAttr,hn,g0,g1,g12,g13,q2]
  exact⟨n-1,by omega,j+1,⟨by omega,fun q hq=>by rcases dw.1 hq with e|e;(· exact hz q e);(· rw[e];exact q3)⟩,by simp,hS1⟩
 simp(disch:=omega) only[↓RA,RZ,simprocAttr,hn,c3o,q1]
 exact⟨by rw[decide_eq_true];exact a2D (by omega) fun q hq=>hz q (by omega),hS1⟩
def rgX:Reg:=⟨[1,1],1,0⟩
def ksX:List Nt:=[jF [40,41],(0,0)]
section
variable (w1 w2 d1 g1 s1 d2 g2 s2 w3 w4 w5:Value)
theorem b1S:oA (exW 7 2 w1 w2 d1 g1 s1 d2 g2 s2 w3 w4 w5) rgX ksX=[(0,4),(0,5),(1,16),(1,17)]:=by
 unfold oA
 rw[show rkE (exW 7 2 w1 w2 d1 g1 s1 d2 g2 s2 w3 w4 w5) rgX ksX=0 from b1n ..,if_pos rfl,a4V]
 kernel_rfl
theorem c0Y:a3Z (exW 7 2 w1 w2 d1 g1 s1 d2 g2 s2 w3 w4 w5) rgX ksX=18:=by
 unfold a3Z
 rw[b1S]
 kernel_rfl
theorem c2X:byF (exW 7 2 w1 w2 d1 g1 s1 d2 g2 s2 w3 w4 w5) rgX ksX=[14,4]:=by
 unfold byF
 rw[show rkE (exW 7 2 w1 w2 d1 g1 s1 d2 g2 s2 w3 w4 w5) rgX ksX=0 from b1n ..,if_pos rfl,b1S]
 kernel_rfl
theorem c0o(o:Org)(rg:Reg):sY o rg=fun c=>tB o (if a0t o rg c=0 then dd (a3O ((b8d a3O o rg [c]).flatMap (b5P a3O o rg)))else[]):=by
 funext c
 unfold sY ofF
 rw[a4V]
theorem c3A:grR (exW 7 2 w1 w2 d1 g1 s1 d2 g2 s2 w3 w4 w5) rgX=((0,36),9):=by
 unfold grR
 rw[show nJ (exW 7 2 w1 w2 d1 g1 s1 d2 g2 s2 w3 w4 w5) rgX=0 from a6p ..,if_pos rfl,c0o]
 kernel_rfl
end
theorem a9M:rgX.Ok:=⟨by decide,by decide,by decide,by decide⟩
theorem b8K:∀x∈ksX,Nt.Ok x:=by
 intro x hx
 simp only[ksX,dX,ef,or_false]at hx
 rcases hx with rfl|rfl<;>exact⟨by decide,by decide⟩
theorem a2O(hG:Glob gH H):Fn prog 9 [] H fun r H'=>r=.bool true∧St prog H H' []:=by
 refine .cQ func9 rfl (by kernel_rfl) (m:=89) rfl fun l hn=> ?_
 simp(disch:=omega) only[↓RA,RZ,simprocAttr]
 refine iG (a7w ((sR H).gl hG)) ?_
 rintro r H1⟨xa,xb,da,ga,sa,db,gb,sb,xr,xd,xc,rfl,hT1⟩
 have hS1:=(sR H).trans hT1
 simp only[RT]at hS1
 simp(disch:=omega) only[↓RA,RZ,simprocAttr]
 refine hS1.eNew 4 [(.string ⟨#[]⟩),(.slice none 0 0),(.slice none 0 0),(.slice none 0 0)] rfl rfl rfl lP fun A1 H2 hS2=> ?_
 simp only[RT]at hS2
 simp(disch:=omega) only[↓RA,RB,simprocAttr,hn]
 refine hS2.ae 11 rfl [(.string ⟨#[101]⟩),xr,xd,xc] rfl (by simp[OC,(hS2.rd 8 rfl).cells.2.1,(hS2.rd 9 rfl).cells.2.1,(hS2.rd 10 rfl).cells.2.1]) lP (by simp) fun H3 hS3=> ?_
 simp only[RT]at hS3
 simp(disch:=omega) only[↓RA,RB,simprocAttr]
 refine Wp.aO jZ [(1,3),(1,4)] (by kernel_rfl) (by kernel_rfl) ?_
 simp(disch:=omega) only[↓RA,RZ,simprocAttr,hn,hS3.ld 11 rfl]
 refine hS3.ak [I 7] a0e a3i rfl rfl (by simp[Value.cells]) rfl rfl (by decide) (by decide) fun w1 H4 hS4=> ?_
 simp only[RT]at hS4
 simp(disch:=omega) only[↓RA,RZ,simprocAttr,hn]
 refine iG ((a2J (c:=7) (hS4.gl hG) w1 (hS4.ay 12 rfl (fun _=>rfl))).tr) ?_
 rintro r H5⟨-,hT2⟩
 have hS5:=hS4.trans hT2
 simp only[RT]at hS5
 obtain⟨ya,rfl⟩:∃w,w=r:=⟨r,rfl⟩
 have hl1:(a0Z 1 1 xa xb).length=2:=rfl
 simp(disch:=omega) only[↓RA,RZ,simprocAttr,hn,(hS5.ay 8 rfl (fun _=>rfl)).idx,(hS5.ay 8 rfl (fun _=>rfl)).ba]
 refine hS5.aV 8 rfl [ya] (by rw[(hS5.rd 13 rfl).cells.1]) (by simp[(hS5.rd 13 rfl).cells.2.1]) b4E (by simp) (by simp[a0Z,Rk.cells]) fun H6 hS6=> ?_
 simp only[RT]at hS6
 simp(disch:=omega) only[↓RA,RZ,simprocAttr,hn,hS4.ld 11 rfl,hS5.ld 11 rfl]
 refine Wp.aO jZ [(1,3),(1,4)] (by kernel_rfl) (by kernel_rfl) ?_
 simp(disch:=omega) only[↓RA,RZ,simprocAttr,hn,hS6.ld 11 rfl]
 refine hS6.ak [I 2] a0e a3i rfl rfl (by simp[Value.cells]) rfl rfl (by decide) (by decide) fun w2 H7 hS7=> ?_
 simp only[RT]at hS7
 simp(disch:=omega) only[↓RA,RZ,simprocAttr,hn]
 have hset1:((a0Z 1 1 xa xb).flatMap Rk.cells).set 5 ya=(a0Z 7 1 ya xb).flatMap Rk.cells:=rfl
 simp only[Nat.zero_mul,fQ,hset1]at hS7
 refine iG ((a2J (c:=2) (hS7.gl hG) w2 (hS7.ay 14 rfl (fun _=>rfl))).tr) ?_
 rintro r H8⟨-,hT3⟩
 have hS8:=hS7.trans hT3
 simp only[RT]at hS8
 obtain⟨yb,rfl⟩:∃w,w=r:=⟨r,rfl⟩
 have hl2:(a0Z 7 1 ya xb).length=2:=rfl
 simp(disch:=omega) only[↓RA,RZ,simprocAttr,hn,(hS8.ay 8 rfl (fun _=>rfl)).idx,(hS8.ay 8 rfl (fun _=>rfl)).ba]
 refine hS8.aV 8 rfl [yb] (by rw[(hS8.rd 15 rfl).cells.1]) (by simp[(hS8.rd 15 rfl).cells.2.1]) b4E (by simp) (by simp[a0Z,Rk.cells]) fun H9 hS9=> ?_
 simp only[RT]at hS9
 simp(disch:=omega) only[↓RA,RZ,simprocAttr,hn,hS7.ld 11 rfl,hS8.ld 11 rfl]
 have hset2:((a0Z 7 1 ya xb).flatMap Rk.cells).set 11 yb=(a0Z 7 2 ya yb).flatMap Rk.cells:=rfl
 simp only[Nat.one_mul,Nat.reduceAdd,hset2]at hS9
 have h1:Sl 1 (one I) H9 ya (List.replicate 25 7):=hS9.ay 13 rfl (fun _=>rfl)
 have h2:Sl 1 (one I) H9 yb (List.replicate 25 2):=hS9.ay 15 rfl (fun _=>rfl)
 have h3:Sl 2 Drw.cells H9 da [⟨0,0⟩]:=hS9.ay 2 rfl (fun _=>rfl)
 have h4:Sl 3 Seg.cells H9 ga [⟨36,48,da,[⟨0,0⟩]⟩]:=hS9.ay 3 rfl (fun _=>rfl)
 have h5:Sl 4 Stp.cells H9 sa [⟨⟨#[97]⟩,8,1,ga,[⟨36,48,da,[⟨0,0⟩]⟩]⟩]:=hS9.ay 4 rfl (fun _=>rfl)
 have h6:Sl 2 Drw.cells H9 db [⟨1,12⟩]:=hS9.ay 5 rfl (fun _=>rfl)
 have h7:Sl 3 Seg.cells H9 gb [⟨36,48,db,[⟨1,12⟩]⟩]:=hS9.ay 6 rfl (fun _=>rfl)
 have h8:Sl 4 Stp.cells H9 sb [⟨⟨#[97]⟩,4,1,gb,[⟨36,48,db,[⟨1,12⟩]⟩]⟩]:=hS9.ay 7 rfl (fun _=>rfl)
 have h9:Sl 6 Rk.cells H9 xr (a0Z 7 2 ya yb):=hS9.ay 8 rfl (fun _=>rfl)
 have h10:Sl 5 Dvn.cells H9 xd (b6J da ga sa db gb sb):=hS9.ay 9 rfl (fun _=>rfl)
 have h11:Sl 5 Cpl.cells H9 xc c0s:=hS9.ay 10 rfl (fun _=>rfl)
 have hS0:=hS9
 have hG2:=hS0.gl hG
 have hvA:Var H9 A1 4 [.string ⟨#[101]⟩,xr,xd,xc]:=hS0.var 11 rfl
 obtain⟨o,hoe⟩:∃o,o=exW 7 2 ya yb da ga sa db gb sb xr xd xc:=⟨_,rfl⟩
 have ho:o.In H9:=by
  subst hoe
  refine⟨h9,?_,h10,?_,h11,by simp[exW,a0Z],by simp[exW,b6J],by simp[exW,c0s]⟩
  ·intro r hr
   simp only[exW,a0Z,dX,ef,or_false]at hr
   rcases hr with rfl|rfl
   ·exact⟨h1,by simp⟩
   ·exact⟨h2,by simp⟩
  ·intro d hd
   simp only[exW,b6J,dX,ef,or_false]at hd
   rcases hd with rfl|rfl
   ·exact⟨h5,fun s hs=>by rw[dB.1 hs];exact⟨h4,fun g hg=>by rw[dB.1 hg];exact⟨h3,by simp⟩,by simp⟩,by simp⟩
   ·exact⟨h8,fun s hs=>by rw[dB.1 hs];exact⟨h7,fun g hg=>by rw[dB.1 hg];exact⟨h6,by simp⟩,by simp⟩,by simp⟩
 have hv0:Var H9 A1 4 [.string o.name,o.rv,o.dv,o.cv]:=by rw[hoe];exact hvA
 have q1:rkE o rgX ksX=0:=by subst hoe;exact b1n ..
 have q2:a3Z o rgX ksX=18:=by subst hoe;exact c0Y ..
 have q3:byF o rgX ksX=[14,4]:=by subst hoe;exact c2X ..
 have q4:grR o rgX=((0,36),9):=by subst hoe;exact c3A ..
 have q5:nJ o rgX=0:=by subst hoe;exact a6p ..
 have hG1:∀z∈[(40:Int),41],isN z:=fun z hz=>by
  simp only[dX,ef,or_false]at hz
  rcases hz with rfl|rfl<;>exact⟨by decide,by decide⟩
 clear hoe h1 h2 h3 h4 h5 h6 h7 h8 h9 h10 h11 hvA
 refine(sR H9).ak [(.int .u64 1),(.int .u64 1)] c3g c6S rfl rfl (by simp[Value.cells]) rfl rfl (by decide) (by decide) fun w3 H10 hS10=> ?_
 simp only[RT]at hS10
 simp(disch:=omega) only[↓RA,RZ,simprocAttr,hn,b7G (hS10.rd 0 rfl).cells]
 refine hS10.eNew 3 [(.slice none 0 0),(.int .u64 0),(.int .u64 0)] rfl rfl rfl mK fun A2 H11 hS11=> ?_
 simp only[RT]at hS11
 simp(disch:=omega) only[↓RA,RB,simprocAttr,hn]
 refine hS11.ae 1 rfl [w3,(.int .u64 1),(.int .u64 0)] rfl (by simp[OC,(hS11.rd 0 rfl).cells.2.1]) mK (by simp) fun H12 hS12=> ?_
 simp only[RT]at hS12
 simp(disch:=omega) only[↓RA,RB,simprocAttr]
 refine hS12.ak [I 40,I 41] a0e a3i rfl rfl (by simp[Value.cells]) rfl rfl (by decide) (by decide) fun w4 H13 hS13=> ?_
 simp only[RT]at hS13
 simp(disch:=omega) only[↓RA,RZ,simprocAttr,hn]
 refine hS13.cF (xT [40,41] hG1 w4 (hS13.ay 2 rfl (fun _=>rfl)) (by simp)) fun H14 hS14=> ?_
 simp(disch:=omega) only[↓RA,RZ,simprocAttr,hn]
 refine hS14.eNew 2 [(.int .u64 0),(.int .u64 0)] rfl rfl rfl nB fun A3 H15 hS15=> ?_
 simp only[RT]at hS15
 simp(disch:=omega) only[↓RA,RB,simprocAttr,hn]
 refine hS15.ae 3 rfl [(.int .u64 (jF [40,41]).1),(.int .u64 (jF [40,41]).2)] rfl rfl nB (by simp) fun H16 hS16=> ?_
 simp only[RT]at hS16
 simp(disch:=omega) only[↓RA,RZ,simprocAttr,hn,(hv0.ag hS16.ag).ai,hS16.ai 1 rfl,hS16.ai 3 rfl,b7K]
 refine hS16.ak [(.int .u64 (jF [40,41]).1),(.int .u64 (jF [40,41]).2),(.int .u64 0),(.int .u64 0)] b4a b9h rfl rfl (by simp[Value.cells]) rfl rfl (by decide) (by decide) fun w5 H17 hS17=> ?_
 simp only[RT]at hS17
 simp(disch:=omega) only[↓RA,RZ,simprocAttr,hn]
 refine hS17.cF (b0D (hS17.gl hG2) o (ho.ag hS17) rgX w3 ⟨hS17.ay 0 rfl (fun _=>rfl),a9M⟩ w5 ksX ⟨hS17.ay 4 rfl (fun _=>rfl),by decide,b8K⟩) fun H18 hS18=> ?_
 rw[q1,q2]
 simp(disch:=omega) only[↓RA,RZ,simprocAttr,hn,(hv0.ag hS18.ag).ai,hS18.ai 1 rfl,hS18.ai 3 rfl,b7K]
 refine hS18.ak [(.int .u64 (jF [40,41]).1),(.int .u64 (jF [40,41]).2),(.int .u64 0),(.int .u64 0)] b4a b9h rfl rfl (by simp[Value.cells]) rfl rfl (by decide) (by decide) fun w6 H19 hS19=> ?_
 simp only[RT]at hS19
 simp(disch:=omega) only[↓RA,RZ,simprocAttr,hn]
 refine iG (b4t (hS19.gl hG2) o (ho.ag hS19) rgX w3 ⟨hS19.ay 0 rfl (fun _=>rfl),a9M⟩ w6 ksX ⟨hS19.ay 5 rfl (fun _=>rfl),by decide,b8K⟩) ?_
 rintro r H20⟨bv,rfl,hT6⟩
 have hS20:=hS19.trans hT6
 simp only[RT]at hS20
 rw[q1]
 rw[q3]at hS20
 simp(disch:=omega) only[↓RA,RZ,simprocAttr,hn,(hv0.ag hS20.ag).ai,hS20.ai 1 rfl]
 refine hS20.cF (a8f o (ho.ag hS20) rgX w3 ⟨hS20.ay 0 rfl (fun _=>rfl),a9M⟩) fun H21 hS21=> ?_
 rw[q4,q5]
 dsimp only
 simp(disch:=omega) only[↓RA,RZ,simprocAttr,hn]
 refine hS21.eNew 2 [I 0,I 0] rfl rfl rfl kY fun A4 H22 hS22=> ?_
 simp only[RT]at hS22
 simp(disch:=omega) only[↓RA,RB,simprocAttr,hn]
 refine hS22.ae 7 rfl [I 0,I 36] rfl rfl kY (by simp) fun H23 hS23=> ?_
 simp only[RT]at hS23
 simp(disch:=omega) only[↓RA,RZ,simprocAttr,hn]
 refine hS23.ak [I 14,I 4] a0e a3i rfl rfl (by simp[Value.cells]) rfl rfl (by decide) (by decide) fun w7 H24 hS24=> ?_
 simp only[RT]at hS24
 simp(disch:=omega) only[↓RA,RZ,simprocAttr,hn]
 refine hS24.cF (b4s bv w7 [14,4] [14,4] (hS24.ay 6 rfl (fun _=>rfl)) (hS24.ay 8 rfl (fun _=>rfl)) (by simp) (by simp)) fun H25 hS25=> ?_
 rw[decide_eq_true rfl]
 simp(disch:=omega) only[↓RA,RZ,simprocAttr,hn,hS25.ai 7 rfl,c4H]
 simp(disch:=omega) only[RB,RC,simprocAttr,hn,tR9]
 exact hS0.forget.trans hS25.forget
end Go.Ds
namespace Go.Ds
open Go.Proofs
variable {H:Heap}
set_option maxRecDepth 10000
set_option maxHeartbeats 1000000
end Go.Ds
namespace Go.Ds
open Go.Proofs Go.Proofs.Tryz
variable {H:Heap}
set_option maxRecDepth 10000
set_option maxHeartbeats 1000000
theorem b6x(o:Org)(ho:o.In H)(hf:o.Fine):Fn prog 16 [.agg #[.string o.name,o.rv,o.dv,o.cv]] H fun r H'=>St prog H H' [⟨r,2,(mB o pS).flatMap ntc⟩]:=by
 refine .aR func16 rfl (by kernel_rfl) (m:=6) rfl fun l hn g0=> ?_
 simp(disch:=omega) only[↓RA,RB,simprocAttr,g0]
 refine(sR H).eNew 4 [(.string o.name),o.rv,o.dv,o.cv] rfl rfl (by simp[OC,((sR H).sl ho.1).cells.2.1,((sR H).sl ho.2.2.1).cells.2.1,((sR H).sl ho.2.2.2.2.1).cells.2.1]) lP fun A1 H1 hS1=> ?_
 simp only[RT]at hS1
 simp(disch:=omega) only[↓RA,RZ,simprocAttr,hn,hS1.ai 0 rfl,a2m]
 have hP:=a2v o (ho.ag hS1) hf pS (fun _=>by unfold pS;decide)
 have e0:∀i,((pS i:Nat):Int)=65535:=fun _=>rfl
 rw[e0,e0,e0]at hP
 refine iG (hP.tr) ?_
 rintro r H2⟨-,hT1⟩
 have hS2:=hS1.trans hT1
 simp only[RT]at hS2
 obtain⟨kv,rfl⟩:∃w,w=r:=⟨r,rfl⟩
 simp(disch:=omega) only[↓RA,RB,simprocAttr,hn,c8F]
 exact hS2.pick [1] (by decide) rfl
theorem Made.wide{p:Pln}{o:Org}(h:Made p o):∀j,j<o.dvs.length→(iB o.dvs j).hi≤(iB o.dvs j).lo+8:=fun j hj=>(h.ok.dvs j hj).wide
end Go.Ds
