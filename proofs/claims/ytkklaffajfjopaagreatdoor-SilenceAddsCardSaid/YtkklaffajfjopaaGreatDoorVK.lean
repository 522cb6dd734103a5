/-
  A part of the proof of SilenceAdds.
-/
import Derived.Test.YtkklaffajfjopaaGreatDoorVI
import Derived.Test.YtkklaffajfjopaaGreatDoorVD
import Derived.Test.YtkklaffajfjopaaGreatDoorVB
import Derived.Test.YtkklaffajfjopaaGreatDoorVC
set_option linter.unusedVariables false
set_option linter.unusedSimpArgs false
set_option linter.defProp false
set_option linter.unusedSectionVars false
namespace Go.Ds
open Go.Proofs Go.Proofs.Tryz Go.ChangeShapes Go.WideShapes Go.RowKit Go.Deep
set_option maxRecDepth 10000
theorem c5J:prog.cellsOf 28=1:=by kernel_rfl
theorem c5y:prog.cellsOf 29=3:=by kernel_rfl
section
variable {H0:Type} {enc:TypeId×Value→H0} {w:World} {base n:Nat} {spare:Nat→Bool} {lB:Bool} {x:DataW H0×List MemPlace}
theorem a8z{v:Value}(h:DataW.trod enc prog w base spare lB n 28 [v]=some x):∃m:Nat,v=.int .u16 m∧m<65536:=by
 obtain⟨m,hv,_,hw⟩:=DataW.trod_int underlying28 h
 have hv:v=.int .u16 m:=by simpa using hv
 have hm:0≤m∧m≤65535:=by simpa [Lit.wf,IntKind.min,IntKind.max,IntKind.signed,IntKind.bits]using hw
 exact⟨m.toNat,by rw[hv,fi hm.1],by omega⟩
theorem c1c{cs:List Value}(h:DataW.trod enc prog w base spare lB n 29 cs=some x):∃b:Nat→Nat,(∀i,b i<65536)∧cs=[.int .u16 (b 0),.int .u16 (b 1),.int .u16 (b 2)]:=by
 obtain⟨xs,m,_,_,hl,hxl,hf⟩:=DataW.trod_array underlying29 h
 rw[c5y]at hl
 match cs,hl with
 | [c0,c1,c2],_=>
   have hy:∀i,i<3→∃y,DataW.trod enc prog w base spare lB m 28 ((([c0,c1,c2]:List Value).drop (i*1)).take 1)=some y:=fun i hi=>by
    have:=hf i hi
    rw[c5J]at this
    exact⟨xs[i],by rw[this,dx (by omega)]⟩
   obtain⟨_,h0⟩:=hy 0 (by decide)
   obtain⟨_,h1⟩:=hy 1 (by decide)
   obtain⟨_,h2⟩:=hy 2 (by decide)
   obtain⟨b0,rfl,k0⟩:=a8z h0
   obtain⟨b1,rfl,k1⟩:=a8z h1
   obtain⟨b2,rfl,k2⟩:=a8z h2
   exact⟨fun i=>match i with|0=>b0|1=>b1|_=>b2,fun i=>by
    match i with
    | 0=>exact k0
    | 1=>exact k1
    | _+2=>exact k2,rfl⟩
end
section
variable {H0:Type} {enc:TypeId×Value→H0} {w:World} {base:Nat} {lB:Bool}
theorem c3T{v0:Value}{d0:DataW H0}{p0:List MemPlace}{c0:Nat}(h0:DataW.Trod enc prog w base (fun _=>true) lB 29 v0 d0 p0)(hval:Value.okWide prog w .any c0 29 v0):
 ∃b:Nat→Nat,(∀i,b i<65536)∧v0=.agg #[.int .u16 (b 0),.int .u16 (b 1),.int .u16 (b 2)]:=by
 simp only[Value.okWide,underlying29]at hval
 obtain⟨cs,rfl,_,_⟩:=hval
 obtain⟨fuel,hf⟩:=h0
 obtain⟨b,hb,he⟩:=c1c hf
 obtain⟨l⟩:=cs
 have he:l=_:=he
 exact⟨b,hb,by rw[he]⟩
end
end Go.Ds
namespace Go.Ds
open Go.Proofs Go.Proofs.Tryz
variable {H:Heap}
set_option maxRecDepth 10000
set_option maxHeartbeats 1000000
def mkN(P:Program)(t:TypeId):Option (Nat×Nat×List Value):=
 (iI P t).bind fun elem=>(iD P elem).bind fun size=>(nQ P elem).bind fun bytes=>(iX P elem).bind fun z=>if size !=0&&size !=1&&z.cells.size==size&&jC z then some (bytes,size,z.cells.toList)else none
theorem b6G{β:Type}(cel:β→List Value)(x:β)(z:Array Value)(hz:cel x=z.toList)(h0:0<z.size):∀a,(madeCells z (a*z.size)).toList=(List.replicate a x).flatMap cel:=by
 have key:∀a,(List.range (a*z.size)).map (fun i=>z[i%z.size]!)=(List.replicate a x).flatMap cel:=by
  intro a
  induction a with
  | zero=>simp
  | succ a ih=>
    rw[gD,Nat.add_comm,List.range_add,dA,List.map_map,List.replicate_succ,dK,←ih,hz]
    congr 1
    ·refine List.ext_getElem (by simp) fun i h1 h2=> ?_
     simp only[List.getElem_map,gT]
     rw[fT (by simpa using h1)]
     simp at h1
     simp[h1]
    ·refine List.map_congr_left fun i _=> ?_
     simp
 intro a
 rw[←key a]
 simp[madeCells]
theorem St.cq{P:Program}{H0:Base}{H:Heap}{os:List Ob}{β:Type}{cel:β→List Value}{x:β}(hS:St P H0 H os){t:TypeId}{bytes sz:Nat}{zs:List Value}{K:Value→Heap→Prop}(a:Nat)(ha:mkN P t=some (bytes,sz,zs))(hz:cel x=zs)(hroom:a*(bytes+1)≤17592186044416)
 (h:∀v H1,St P H0 H1 (os++[⟨v,sz,(List.replicate a x).flatMap cel⟩])→K v H1):qV P H t (.int .i64 a) (.int .i64 a) K:=by
 unfold mkN at ha
 cases he:iI P t with
 | none=>rw[he]at ha;cases ha
 | some elem=>
 rw[he]at ha
 simp only[da]at ha
 cases hsz2:iD P elem with
 | none=>rw[hsz2]at ha;cases ha
 | some sz=>
 rw[hsz2]at ha
 simp only[da]at ha
 cases hby:nQ P elem with
 | none=>rw[hby]at ha;cases ha
 | some by'=>
 rw[hby]at ha
 simp only[da]at ha
 cases hz2:iX P elem with
 | none=>rw[hz2]at ha;cases ha
 | some z'=>
 rw[hz2]at ha
 simp only[da]at ha
 split at ha
 case isFalse=>cases ha
 rename_i hzs
 simp only[dc,beq_iff_eq,bne_iff_ne,ne_eq]at hzs
 obtain⟨⟨⟨hs0,hs1⟩,hz1⟩,hfl⟩:=hzs
 simp only[dE,gM]at ha
 obtain⟨rfl,rfl,rfl⟩:=ha
 have hm:=b6G cel x z'.cells hz (by omega) a
 rw[hz1]at hm
 have hln:((List.replicate a x).flatMap cel).length=a*sz:=by
  rw[←hm]
  simp[madeCells]
 refine⟨.slice (some ⟨H.length,0,some ((List.replicate a x).flatMap cel).length⟩) a sz,H.cons (.cells ((List.replicate a x).flatMap cel) elem true ((List.replicate a x).flatMap cel).length 0),?_,h _ _ (hS.add ?_ ?_ ?_ ?_)⟩
 ·unfold wW
  simp only[he,hsz2,hby,hz2,da]
  rw[if_pos]
  ·rw[if_neg hs1]
   simp only[fj,hm]
   rw[lK]
  ·have:(a:Int)*(by'+1)≤(oR:Int):=by
    have h3:((a*(by'+1):Nat):Int)≤((17592186044416:Nat):Int):=Int.ofNat_le.2 hroom
    simpa [oR]using h3
   simp[hfl,hz1,this,hs0]
 ·unfold OwnAt
  rw[if_neg hs0]
  exact .inr ⟨_,0,elem,_,0,[],a,iQ H _,by simp,rfl,hln,by simp,hsz2⟩
 ·simp[pH]
 ·exact fun B hB=>jQ _ hB
 ·intro B hB
  simp[kI]at hB
  omega
abbrev Nt:=Nat×Nat
def zI(x:Nt):List Value:=[.int .u64 x.1,.int .u64 x.2]
def Nt.Ok(x:Nt):Prop:=x.1<18446744073709551616∧x.2<18446744073709551616
theorem c3O:mkN prog 44=some (16,2,zI (0,0)):=by kernel_rfl
def nX(x:Nt)(n:Int):Nt:=if n<64 then(x.1|||2^n.toNat,x.2)else(x.1,x.2|||2^(n-64).toNat)
theorem a8A(i:Nat)(h:i<64):2^i<18446744073709551616:=by
 have:2^i≤2^63:=fz (by decide) (by omega)
 have e:2^63=9223372036854775808:=rfl
 omega
theorem a6t{a b:Nat}(ha:a<18446744073709551616)(hb:b<18446744073709551616):a|||b<18446744073709551616:=Nat.or_lt_two_pow (n:=64) ha hb
theorem orB(a b:Nat)(ha:a<18446744073709551616)(hb:b<18446744073709551616):IntKind.wrap .u64 ((BitVec.ofInt (IntKind.bits .u64) (a:Int)|||BitVec.ofInt (IntKind.bits .u64) (b:Int)).toNat:Int)=((a|||b:Nat):Int):=by
 have e:(BitVec.ofInt (IntKind.bits .u64) (a:Int)|||BitVec.ofInt (IntKind.bits .u64) (b:Int)).toNat=a|||b:=by
  rw[BitVec.toNat_or,a5v a ha,a5v b hb]
 rw[e]
 have:=a6t ha hb
 exact qO _ (by omega) (by omega)
theorem orN(n i:Nat)(hn:n<18446744073709551616)(hi:i<64):IntKind.wrap .u64 ((BitVec.ofInt (IntKind.bits .u64) (n:Int)|||BitVec.ofInt (IntKind.bits .u64) (IntKind.wrap .u64 (1*2^min i (IntKind.bits .u64)))).toNat:Int)=((n|||2^i:Nat):Int):=by
 rw[b9O i hi]
 exact orB n (2^i) hn (a8A i hi)
theorem b1h{x:Nt}(hx:Nt.Ok x){z:Int}(h0:0≤z)(h1:z<128):Nt.Ok (nX x z):=by
 unfold nX
 split
 ·exact⟨a6t hx.1 (a8A _ (by omega)),hx.2⟩
 ·exact⟨hx.1,a6t hx.2 (a8A _ (by omega))⟩
theorem a2e(x:Nt)(hx:Nt.Ok x)(z:Int)(h0:0≤z)(h1:z<128):Fn prog 72 [.agg #[.int .u64 x.1,.int .u64 x.2],I z] H fun r H'=>r=.agg #[.int .u64 (nX x z).1,.int .u64 (nX x z).2]∧St prog H H' []:=by
 obtain⟨m,rfl⟩:=fS h0
 refine .aD func72 rfl (by kernel_rfl) (m:=21) rfl fun l hn g0 g1=> ?_
 simp(disch:=omega) only[↓RA,RB,simprocAttr,g0]
 refine(sR H).eNew 2 [(.int .u64 x.1),(.int .u64 x.2)] rfl rfl rfl lT fun A1 H1 hS1=> ?_
 simp only[RT]at hS1
 simp(disch:=omega) only[↓RA,RZ,simprocAttr]
 refine hS1.eNew 2 [(.int .u64 0),(.int .u64 0)] rfl rfl rfl lT fun A2 H2 hS2=> ?_
 simp only[RT]at hS2
 simp(disch:=omega) only[↓RA,RB,simprocAttr,hn,g1]
 refine iA (fun q1=> ?_) (fun q1=> ?_)
 ·have e1:=orN x.1 m hx.1 (by omega)
  have e2:nX x (m:Int)=(x.1|||2^m,x.2):=by unfold nX;rw[if_pos q1];rfl
  simp(disch:=omega) only[↓RA,RC,simprocAttr,q1]
  refine Wp.drw jZ (by kernel_rfl) ?_
  simp(disch:=omega) only[↓RA,RZ,simprocAttr,hn,g1,hS2.ld 0 rfl,e1]
  refine hS2.aa 0 rfl [(.int .u64 (x.1|||2^m:Nat))] rfl rfl a5d (by simp) fun H3 hS3=> ?_
  simp only[RT]at hS3
  simp(disch:=omega) only[↓RA,RZ,simprocAttr,hn,hS3.ag 0 rfl]
  refine hS3.aa 1 rfl [(.int .u64 (x.1|||2^m:Nat)),(.int .u64 x.2)] rfl rfl lT (by simp) fun H4 hS4=> ?_
  simp only[RT]at hS4
  simp(disch:=omega) only[↓RA,RZ,simprocAttr,hn,c2S,hS4.ag 1 rfl]
  rw[e2]
  exact⟨rfl,hS4.forget⟩
 have e1:=orN x.2 (m-64) hx.2 (by omega)
 have e3:(m:Int)-64=((m-64:Nat):Int):=by omega
 have e2:nX x (m:Int)=(x.1,x.2|||2^(m-64)):=by unfold nX;rw[if_neg q1,e3];rfl
 simp(disch:=omega) only[↓RA,RC,simprocAttr,q1]
 refine Wp.drw jZ (by kernel_rfl) ?_
 simp(disch:=omega) only[↓RA,RZ,simprocAttr,hn,g1,hS2.ld 0 rfl,e1,e3]
 refine hS2.aa 0 rfl [(.int .u64 (x.2|||2^(m-64):Nat))] rfl rfl a5d (by simp) fun H5 hS5=> ?_
 simp only[RT]at hS5
 simp(disch:=omega) only[↓RA,RZ,simprocAttr,hn,hS5.ag 0 rfl]
 refine hS5.aa 1 rfl [(.int .u64 x.1),(.int .u64 (x.2|||2^(m-64):Nat))] rfl rfl lT (by simp) fun H6 hS6=> ?_
 simp only[RT]at hS6
 simp(disch:=omega) only[↓RA,RZ,simprocAttr,hn,c2S,hS6.ag 1 rfl]
 rw[e2]
 exact⟨rfl,hS6.forget⟩
def jD(xs:List Int):Nt:=xs.foldl nX (0,0)
def isN(z:Int):Prop:=0≤z∧z<128
theorem oU:∀(xs:List Int)(x:Nt),(∀z∈xs,isN z)→Nt.Ok x→Nt.Ok (xs.foldl nX x)
 | [],_,_,h=>h
 | z::xs,x,hz,h=>by
   rw[fc]
   exact oU xs _ (fun y hy=>hz y (eB _ hy)) (b1h h (hz z (dU ..)).1 (hz z (dU ..)).2)
theorem a0I(xs:List Int){j:Nat}(hj:j<xs.length):jD (xs.take (j+1))=nX (jD (xs.take j)) (iB xs j):=by
 unfold jD
 rw[List.take_add_one,dx hj,Option.toList_some,gx,←jR _ j hj]
 rfl
theorem a4j(z:Int)(h:isN z):Fn prog 71 [I z] H fun r H'=>r=.bool true∧St prog H H' []:=by
 have h0:=h.1
 have h1:=h.2
 refine .aY func71 rfl (by kernel_rfl) (m:=9) rfl fun l hn g0=> ?_
 simp(disch:=omega) only[↓RA,RZ,simprocAttr,hn,g0]
 refine kB (fun q1=> ?_) (fun q1=> ?_)
 rotate_left
 ·exfalso;first|omega|(simp at q1;omega)
 simp(disch:=omega) only[↓RA,RZ,simprocAttr,hn,g0,c5Q,q1]
 simpa using⟨(by omega:z≤127),(sR H)⟩
theorem wJ(xs:List Int)(hz:∀z∈xs,isN z)(v:Value)(hv:Sl 1 (one I) H v xs)(hl:xs.length<1000000000):
 Fn prog 36 [v] H fun r H'=>r=.tuple #[.agg #[.int .u64 (jD xs).1,.int .u64 (jD xs).2],I 0]∧St prog H H' []:=by
 refine .aY func36 rfl (by kernel_rfl) (m:=22) rfl fun l hn g0=> ?_
 simp(disch:=omega) only[↓RA,RZ,simprocAttr]
 refine(sR H).eNew 2 [(.int .u64 0),(.int .u64 0)] rfl rfl rfl lT fun A1 H1 hS1=> ?_
 simp only[RT]at hS1
 simp(disch:=omega) only[↓RA,RZ,simprocAttr]
 refine hS1.eNew 2 [(.int .u64 0),(.int .u64 0)] rfl rfl rfl lT fun A2 H2 hS2=> ?_
 simp only[RT]at hS2
 simp(disch:=omega) only[↓RA,RZ,simprocAttr,hn,g0,(hS2.sl hv).len]
 refine Wp.al (fun n l H'=>l.length=22∧get l 2=(ptr A1 0 2)∧get l 4=(ptr A2 0 2)∧get l 7=v∧get l 8=I xs.length∧∃(j:Nat),(n+j=xs.length)∧get l 9=I j∧St prog H H' [⟨ptr A1 0 2,0,[(.int .u64 0),(.int .u64 0)]⟩,⟨ptr A2 0 2,0,[.int .u64 (jD (xs.take j)).1,.int .u64 (jD (xs.take j)).2]⟩]) xs.length ?_ ?_
 ·simp(disch:=omega) only[RB,RC,simprocAttr,hn]
  exact⟨0,by omega,rfl,hS2⟩
 rintro n l H3⟨hn,g2,g4,g7,g8,j,hj,g9,hS3⟩
 simp(disch:=omega) only[↓RA,RB,simprocAttr,hn,g8,g9]
 refine iA (fun q1=> ?_) (fun q1=> ?_)
 ·have hx:=hz _ (iE (xs:=xs) (j:=j) (by omega))
  have hok:Nt.Ok (jD (xs.take j)):=oU _ _ (fun z h=>hz z (List.mem_of_mem_take h)) ⟨by decide,by decide⟩
  simp(disch:=omega) only[↓RA,RZ,simprocAttr,hn,g7,g9,(hS3.sl hv).idx,(hS3.sl hv).ld,one,q1]
  refine hS3.cF (a4j (iB xs j) hx) fun H4 hS4=> ?_
  simp(disch:=omega) only[↓RA,RZ,simprocAttr,hn,g4,hS4.ag 1 rfl,q1]
  refine hS4.cF (a2e (jD (xs.take j)) hok (iB xs j) hx.1 hx.2) fun H5 hS5=> ?_
  simp(disch:=omega) only[↓RA,RZ,simprocAttr,hn,g4,q1]
  refine hS5.aa 1 rfl [(.int .u64 (nX (jD (xs.take j)) (iB xs j)).1),(.int .u64 (nX (jD (xs.take j)) (iB xs j)).2)] rfl rfl lT (by simp) fun H6 hS6=> ?_
  simp only[RT]at hS6
  simp(disch:=omega) only[↓RA,RZ,simprocAttr,hn,g2,g4,g7,g8,g9,q1]
  refine⟨n-1,by omega,j+1,by omega,by simp,?_⟩
  rw[a0I xs (by omega)]
  exact hS6.pick [0,1] (by decide) rfl
 have hjj:j=xs.length:=by omega
 simp(disch:=omega) only[↓RA,RZ,simprocAttr,hn,g2,g4,hS3.ag 1 rfl,q1]
 refine hS3.aa 0 rfl [(.int .u64 (jD (xs.take j)).1),(.int .u64 (jD (xs.take j)).2)] rfl rfl lT (by simp) fun H7 hS7=> ?_
 simp only[RT]at hS7
 simp(disch:=omega) only[↓RA,RZ,simprocAttr,hn,g2,c6b,hS7.ag 0 rfl,q1]
 rw[hjj,ek]
 exact⟨rfl,hS7.forget⟩
def unF(x y:Nt):Nt:=(x.1|||y.1,x.2|||y.2)
theorem c0M{x y:Nt}(hx:Nt.Ok x)(hy:Nt.Ok y):Nt.Ok (unF x y):=⟨a6t hx.1 hy.1,a6t hx.2 hy.2⟩
theorem b3t(x y:Nt)(hx:Nt.Ok x)(hy:Nt.Ok y):Fn prog 60 [.agg #[.int .u64 x.1,.int .u64 x.2],.agg #[.int .u64 y.1,.int .u64 y.2]] H fun r H'=>r=.agg #[.int .u64 (unF x y).1,.int .u64 (unF x y).2]∧St prog H H' []:=by
 have e1:=orB x.1 y.1 hx.1 hy.1
 have e2:=orB x.2 y.2 hx.2 hy.2
 refine .aD func60 rfl (by kernel_rfl) (m:=16) rfl fun l hn g0 g1=> ?_
 simp(disch:=omega) only[↓RA,RB,simprocAttr,g0]
 refine(sR H).eNew 2 [(.int .u64 x.1),(.int .u64 x.2)] rfl rfl rfl lT fun A1 H1 hS1=> ?_
 simp only[RT]at hS1
 simp(disch:=omega) only[↓RA,RB,simprocAttr,g1]
 refine hS1.eNew 2 [(.int .u64 y.1),(.int .u64 y.2)] rfl rfl rfl lT fun A2 H2 hS2=> ?_
 simp only[RT]at hS2
 simp(disch:=omega) only[↓RA,RZ,simprocAttr]
 refine hS2.eNew 2 [(.int .u64 0),(.int .u64 0)] rfl rfl rfl lT fun A3 H3 hS3=> ?_
 simp only[RT]at hS3
 simp(disch:=omega) only[↓RA,RZ,simprocAttr,hn,hS3.ld 0 rfl,hS3.ld 1 rfl,e1,e2]
 simp(disch:=omega) only[↓RA,RB,simprocAttr,hn,a6T]
 refine hS3.aa 2 rfl [(.int .u64 (x.1|||y.1:Nat)),(.int .u64 (x.2|||y.2:Nat))] rfl rfl lT (by simp) fun H4 hS4=> ?_
 simp only[RT]at hS4
 simp(disch:=omega) only[↓RA,RZ,simprocAttr,hn,c5p,hS4.ag 2 rfl]
 exact⟨rfl,hS4.forget⟩
theorem St.perm{P:Program}{H0:Base}{os os':List Ob}(h:St P H0 H os)(hp:os.Perm os'):St P H0 H os' where
 len:=h.len
 old:=h.old
 own o ho:=h.own o (hp.mem_iff.2 ho)
 new o ho:=h.new o (hp.mem_iff.2 ho)
 sep:=(List.Perm.pairwise_iff (fun{_ _}hxy B hB hB2=>hxy B hB2 hB) hp).1 h.sep
theorem Lp.swap{P:Program}{B:Base}{L:Nat}{r:Loop}{xs ys zs:List Ob}(h:Lp P B L r H ((xs++ys)++zs)):Lp P B L r H ((xs++zs)++ys):=by
 have hp:((xs++ys)++zs).Perm ((xs++zs)++ys):=by
  rw[dD,dD]
  exact(List.perm_append_comm).append_left xs
 exact⟨h.st.perm hp,h.get,h.lo,fun o ho=>h.ne o (hp.mem_iff.2 ho)⟩
def a3g(o:Org)(rg:Reg)(acc:List Nt)(c:Ct):List Nt:=if(lI o rg c).length=0 then acc.set c.1.toNat (unF (iB acc c.1.toNat) (jD [c.2]))else acc
def pN(o:Org)(rg:Reg)(d:List Ct):List Nt:=d.foldl (a3g o rg) (List.replicate o.dvs.length (0,0))
theorem a7R(o:Org)(rg:Reg)(d:List Ct)(c:Ct):pN o rg (d++[c])=a3g o rg (pN o rg d) c:=by
 unfold pN
 rw[gx]
 rfl
theorem a4Z{o:Org}(hf:o.Fine){c:Ct}(h:c∈kG o):∃(i:Nat)(z:Int),c=((i:Int),z)∧i<o.dvs.length∧isN z:=by
 obtain⟨i,hi,h⟩:=eC.1 h
 obtain⟨k,hk,rfl⟩:=dy.1 h
 have hi:=dB.1 hi
 have hk:=dB.1 hk
 have:=hf.keys i hi
 exact⟨i,_,rfl,hi,by omega,by omega⟩
theorem b0S(o:Org)(rg:Reg):∀(d:List Ct)(acc:List Nt),(d.foldl (a3g o rg) acc).length=acc.length
 | [],_=>rfl
 | c::d,acc=>by
   rw[fc,b0S o rg d]
   unfold a3g
   split
   ·rw[gj]
   ·rfl
theorem b3O(o:Org)(hf:o.Fine)(rg:Reg):∀(d:List Ct)(acc:List Nt),(∀c∈d,c∈kG o)→(∀x∈acc,Nt.Ok x)→acc.length=o.dvs.length→∀x∈d.foldl (a3g o rg) acc,Nt.Ok x
 | [],_,_,h,_=>h
 | c::d,acc,hd,h,hl=>by
   rw[fc]
   obtain⟨i,z,rfl,hi,hz⟩:=a4Z hf (hd _ (dU ..))
   refine b3O o hf rg d _ (fun c hc=>hd c (eB _ hc)) (fun x hx=> ?_) ?_
   ·unfold a3g at hx
    split at hx
    ·rcases List.mem_or_eq_of_mem_set hx with hx|hx
     ·exact h x hx
     ·rw[hx]
      refine c0M (h _ (iE (by simp;omega))) (oU _ _ (fun y hy=> ?_) ⟨by decide,by decide⟩)
      rw[dC.1 hy]
      exact hz
    ·exact h x hx
   ·unfold a3g
    split
    ·rw[gj];exact hl
    ·exact hl
theorem b1J(o:Org)(ho:o.In H)(rg:Reg)(sv:Value)(hr:rg.In H sv):
 Fn prog 26 [.agg #[.string o.name,o.rv,o.dv,o.cv],.agg #[sv,.int .u64 rg.cpl,.int .u64 rg.off]] H fun r H'=>∃lv,r=.tuple #[lv,I (mA o rg)]∧St prog H H' [⟨lv,2,(if mA o rg=0 then pN o rg (kG o)else[]).flatMap zI⟩]:=by
 refine .aD func26 rfl (by kernel_rfl) (m:=49) rfl fun l hn g0 g1=> ?_
 simp(disch:=omega) only[↓RA,RB,simprocAttr,g0]
 refine(sR H).eNew 4 [(.string o.name),o.rv,o.dv,o.cv] rfl rfl (by simp[OC,((sR H).sl ho.1).cells.2.1,((sR H).sl ho.2.2.1).cells.2.1,((sR H).sl ho.2.2.2.2.1).cells.2.1]) mV fun A1 H1 hS1=> ?_
 simp only[RT]at hS1
 simp(disch:=omega) only[↓RA,RB,simprocAttr,g1]
 refine hS1.eNew 3 [sv,(.int .u64 rg.cpl),(.int .u64 rg.off)] rfl rfl (by simp[OC,(hS1.sl hr.1).cells.2.1]) mP fun A2 H2 hS2=> ?_
 simp only[RT]at hS2
 simp(disch:=omega) only[↓RA,RZ,simprocAttr,hn,hS2.ag 0 rfl,hS2.ag 1 rfl]
 refine hS2.cF (rF o (ho.ab hS2) rg sv (hr.ab hS2)) fun H3 hS3=> ?_
 simp(disch:=omega) only[↓RA,RB,simprocAttr,hn]
 refine iA (fun h1=> ?_) (fun h1=> ?_)
 ·simp(disch:=omega) only[↓RA,RZ,simprocAttr,hn,c3B,h1]
  exact⟨.slice none 0 0,rfl,hS3.forget.nil 1⟩
 have h0:=dG.1 h1
 obtain⟨hz3,hz4⟩:=oW h0
 have hf:=Org.bg hz3
 have hd1:=hf.dpos
 have hd2:=hf.dlen
 simp(disch:=omega) only[↓RA,RZ,simprocAttr,hn,hS3.ld 0 rfl,(hS3.sl ho.2.2.1).len,h1]
 refine hS3.cq (cel:=zI) (x:=(0,0)) o.dvs.length c3O rfl (by omega) fun w1 H4 hS4=> ?_
 simp only[RT]at hS4
 simp(disch:=omega) only[↓RA,RZ,simprocAttr]
 refine hS4.eNew 1 [(.slice none 0 0)] rfl rfl rfl b7Q fun A3 H5 hS5=> ?_
 simp only[RT]at hS5
 simp(disch:=omega) only[↓RA,RZ,simprocAttr,hn,h1]
 refine hS5.aa 3 rfl [w1] (by rw[(hS5.rd 2 rfl).cells.1]) (by simp[(hS5.rd 2 rfl).cells.2.1]) b7Q (by simp) fun H6 hS6=> ?_
 simp only[RT]at hS6
 simp(disch:=omega) only[↓RA,RZ,simprocAttr,hn,hS6.ag 0 rfl,hS6.ag 1 rfl,h1]
 refine iJ (a1D o (ho.ab hS6) rg sv (hr.ab hS6)) ?_
 rintro r H7⟨AK,AL,rfl,hT2⟩
 have hS7:=hS6.trans hT2
 simp only[RT]at hS7
 simp(disch:=omega) only[↓RA,RZ,simprocAttr,h1]
 refine Wp.bl fun lrg1 hlrg1=> ?_
 have hnrg1:lrg1.length=49:=by rw[hlrg1];simp(disch:=omega) only[RB,simprocAttr,hn]
 have g4rg1:get lrg1 4=(.slice none 0 0):=by rw[hlrg1];simp(disch:=omega) only[RB,simprocAttr,hn]
 have g5rg1:get lrg1 5=I 0:=by rw[hlrg1];simp(disch:=omega) only[RB,simprocAttr,hn]
 have g7rg1:get lrg1 7=(ptr A3 0 1):=by rw[hlrg1];simp(disch:=omega) only[RB,simprocAttr,hn]
 have gfrg1:get lrg1 24=.func (.func 77) #[] [(ptr AK 0 4),(ptr AL 0 3)].toArray:=by rw[hlrg1];simp(disch:=omega) only[RB,simprocAttr,hn]
 clear hlrg1
 refine Wp.aZ gfrg1 fun rg1 hstrg1 hpdrg1 htmrg1 hpsrg1 hasrg1 hbdrg1=> ?_
 have hreqrg1:({rg1 with state:=.ready,pending:=none}:Loop)=rg1:=by
  cases rg1
  simp only at hstrg1 hpdrg1
  subst hstrg1 hpdrg1
  rfl
 have hLprg1:=Lp.enter hS7 rg1
 generalize H7.cons (.loop rg1)=Hcrg1 at hLprg1 ⊢
 generalize H7.length=Lrg1 at hLprg1 ⊢
 refine(b1b o hf rg sv AK AL (.func (.yield Lrg1) #[] #[]) (fun d xs H1=>
  Lp prog H Lrg1 rg1 H1 ([⟨ptr A1 0 4,0,oC o⟩,⟨ptr A2 0 3,0,rC rg sv⟩,⟨w1,2,(pN o rg d).flatMap zI⟩,⟨ptr A3 0 1,0,[w1]⟩,⟨ptr AK 0 4,0,oC o⟩,⟨ptr AL 0 3,0,rC rg sv⟩]++xs)) ?_ ?_ ?_ ?_ ?_).mono ?_
 ·rw[dr]
  exact hLprg1
 ·rintro d xs H1 h
  have hs:=h.left.st
  exact⟨hs.var 4 rfl,ho.ab hs,hs.var 5 rfl,hr.ab hs,fun x hx=>h.st.own x (eN _ hx)⟩
 ·rintro d xs H1 H2 ys h hT
  have h3:=h.ext hT
  rwa [dD]at h3
 ·rintro d xs ys H1 h
  rw[←dD]at h
  exact h.left
 ·rintro d c e xs H1 H20 pv he hLp hT hx
  have hLpj:=hLp.ext hT
  rw[dr]at hLpj
  have hdm:∀c∈d,c∈kG o:=fun c hc=>by rw[he];exact List.mem_append_left _ hc
  have hal:(pN o rg d).length=o.dvs.length:=by unfold pN;rw[b0S,fp]
  have hOk:∀x∈pN o rg d,Nt.Ok x:=b3O o hf rg d _ hdm (fun x hx=>by rw[List.eq_of_mem_replicate hx];exact⟨by decide,by decide⟩) (by simp)
  obtain⟨i,z,rfl,hi,hz⟩:=a4Z hf (c:=c) (by rw[he];simp)
  refine mQ hLpj.get (by rw[hpsrg1];rfl) hstrg1 ?_
  refine Wp.aE (l:=put (put lrg1 (some 25) (.agg #[I i,I z])) (some 26) (pv)) hasrg1 (by rw[hpsrg1,htmrg1];first|exact(kP ..).symm|rfl|simp[put,kP]) ?_
  simp(disch:=omega) only[↓RA,RZ,simprocAttr]
  refine(sR H20).eNew 2 [I 0,I 0] rfl rfl rfl pQ fun A4 H8 hS8=> ?_
  simp only[RT]at hS8
  simp(disch:=omega) only[↓RA,RB,simprocAttr,hnrg1]
  refine hS8.aa 0 rfl [I i,I z] rfl rfl pQ (by simp) fun H9 hS9=> ?_
  simp only[RT]at hS9
  simp(disch:=omega) only[↓RA,RZ,simprocAttr,hnrg1]
  have hSy:=hS9
  have hLl:Lrg1<H1.length:=jG hLp.get
  have hLpx:=Lp.swap (hLpj.ext hS9)
  refine⟨rg1,hLpx.get,hstrg1,?_⟩
  have hYBs1:=hLpx.set (fun h=>h) {rg1 with state:=.busy}
  have hKBs1:∀B,B≠Lrg1→iP (hset H9 Lrg1 (.loop {rg1 with state:=.busy})) B=iP H9 B:=fun B h=>iM _ (eH h)
  have hNBs1:(hset H9 Lrg1 (.loop {rg1 with state:=.busy})).length=H9.length:=jA ..
  generalize hset H9 Lrg1 (.loop {rg1 with state:=.busy})=HBs1 at hYBs1 hKBs1 hNBs1 ⊢
  refine Wp.aE hbdrg1 rfl ?_
  have hZBs1:=hYBs1.left.st
  obtain⟨Bs1,hBBs1,hS10⟩:=hZBs1.ax (os:=[⟨ptr A1 0 4,0,_⟩,⟨ptr A2 0 3,0,_⟩,⟨w1,2,_⟩,⟨ptr A3 0 1,0,_⟩,⟨ptr AK 0 4,0,_⟩,⟨ptr AL 0 3,0,_⟩,⟨ptr A4 0 2,0,_⟩])
  have hxB:Slx 2 jS HBs1 (fun B=>H1.length≤B) pv (lI o rg ((i:Int),z)):=hx.step fun B hB hl=>⟨by rw[hKBs1 B (by omega),hSy.ab B hl],hB⟩
  simp(disch:=omega) only[↓RA,RZ,simprocAttr,hnrg1,hxB.1.len]
  refine iA (fun q1=> ?_) (fun q1=> ?_)
  ·have hq:(lI o rg ((i:Int),z)).length=0:=by omega
   have hz1:∀y∈[z],isN y:=fun y hy=>by rw[dC.1 hy];exact hz
   have hnok:Nt.Ok (jD [z]):=oU _ _ hz1 ⟨by decide,by decide⟩
   have hiok:=hOk _ (iE (xs:=pN o rg d) (j:=i) (by omega))
   simp(disch:=omega) only[↓RA,RZ,simprocAttr,hnrg1,hS10.ld 6 rfl,q1]
   refine hS10.ai [I z] a3d a6j rfl rfl (by simp[Value.cells]) rfl rfl (by decide) (by decide) fun w2 H10 hS11=> ?_
   simp only[RT]at hS11
   simp(disch:=omega) only[↓RA,RZ,simprocAttr,hnrg1,q1]
   refine hS11.cF (wJ [z] hz1 _ (hS11.av 7 rfl (fun _=>rfl)) (by simp)) fun H11 hS12=> ?_
   simp(disch:=omega) only[↓RA,RZ,simprocAttr,hnrg1,q1]
   refine hS12.eNew 2 [(.int .u64 0),(.int .u64 0)] rfl rfl rfl lT fun A5 H12 hS13=> ?_
   simp only[RT]at hS13
   simp(disch:=omega) only[↓RA,RZ,simprocAttr,hnrg1,q1]
   refine hS13.aa 8 rfl [(.int .u64 (jD [z]).1),(.int .u64 (jD [z]).2)] rfl rfl lT (by simp) fun H13 hS14=> ?_
   simp only[RT]at hS14
   simp(disch:=omega) only[↓RA,RZ,simprocAttr,hnrg1,q1]
   refine Wp.aO jZ [(0,10),(2,10)] (by kernel_rfl) (by kernel_rfl) ?_
   simp(disch:=omega) only[↓RA,RZ,simprocAttr,hnrg1,g7rg1,hS14.ld 3 rfl,hS14.ld 6 rfl,(hS14.av 2 rfl (fun _=>rfl)).idx,(hS14.av 2 rfl (fun _=>rfl)).ag,zI,hS14.ag 8 rfl]
   refine hS14.cF (b3t (iB (pN o rg d) i) (jD [z]) hiok hnok) fun H14 hS15=> ?_
   simp(disch:=omega) only[↓RA,RZ,simprocAttr,hnrg1,(hS15.av 2 rfl (fun _=>rfl)).idx]
   refine hS15.aR 2 rfl [(.int .u64 (unF (iB (pN o rg d) i) (jD [z])).1),(.int .u64 (unF (iB (pN o rg d) i) (jD [z])).2)] rfl rfl lT (by simp) (by rw[iL (n:=2) (cel:=zI) (fun _=>rfl)];simp;omega) fun H15 hS16=> ?_
   simp only[RT]at hS16
   simp(disch:=omega) only[↓RA,RZ,simprocAttr,hnrg1,g7rg1,hS15.ld 3 rfl,hS15.ld 6 rfl]
   have hS17:=hS16.pick (os':=[⟨ptr A1 0 4,0,_⟩,⟨ptr A2 0 3,0,_⟩,⟨w1,2,_⟩,⟨ptr A3 0 1,0,_⟩,⟨ptr AK 0 4,0,_⟩,⟨ptr AL 0 3,0,_⟩]) [0,1,2,3,4,5] (by decide) rfl
   have hset2:((List.flatMap zI (pN o rg d)).set (i*2) (.int .u64 (unF (iB (pN o rg d) i) (jD [z])).1)).set (i*2+1) (.int .u64 (unF (iB (pN o rg d) i) (jD [z])).2)=(pN o rg (d++[((i:Int),z)])).flatMap zI:=by
    rw[a7R,a3g,if_pos hq]
    simp only[fj]
    rw[←pO ((((pN o rg d).flatMap zI).set (i*2) _).set (i*2+1) _) (i*2+1+1),←lL,←lL]
    exact zX (n:=2) (cel:=zI) (fun _=>rfl) (pN o rg d) i 0 [_,_] (unF (iB (pN o rg d) i) (jD [z])) (by omega) (by simp) rfl
   rw[hset2]at hS17
   have hWBs1:=(hYBs1.aV (hBBs1▸hS17)).set (fun h=>h) rg1
   rw[←hreqrg1]at hWBs1
   have hfin:Lp prog H Lrg1 rg1 (hset H15 Lrg1 (.loop rg1)) ([⟨ptr A1 0 4,0,oC o⟩,⟨ptr A2 0 3,0,rC rg sv⟩,⟨w1,2,(pN o rg (d++[((i:Int),z)])).flatMap zI⟩,⟨ptr A3 0 1,0,[w1]⟩,⟨ptr AK 0 4,0,oC o⟩,⟨ptr AL 0 3,0,rC rg sv⟩]++xs):=hreqrg1▸hWBs1
   rw[←hreqrg1]at hfin
   exact⟨_,(hYBs1.aV (hBBs1▸hS17)).get,rfl,hreqrg1▸hfin⟩
  have hq:¬(lI o rg ((i:Int),z)).length=0:=by omega
  have hsame:pN o rg (d++[((i:Int),z)])=pN o rg d:=by rw[a7R,a3g,if_neg hq]
  simp(disch:=omega) only[↓RA,RC,simprocAttr]
  have hS18:=hS10.pick (os':=[⟨ptr A1 0 4,0,_⟩,⟨ptr A2 0 3,0,_⟩,⟨w1,2,_⟩,⟨ptr A3 0 1,0,_⟩,⟨ptr AK 0 4,0,_⟩,⟨ptr AL 0 3,0,_⟩]) [0,1,2,3,4,5] (by decide) rfl
  have hWBs1:=(hYBs1.aV (hBBs1▸hS18)).set (fun h=>h) rg1
  rw[←hreqrg1]at hWBs1
  have hfin:Lp prog H Lrg1 rg1 (hset HBs1 Lrg1 (.loop rg1)) ([⟨ptr A1 0 4,0,oC o⟩,⟨ptr A2 0 3,0,rC rg sv⟩,⟨w1,2,(pN o rg (d++[((i:Int),z)])).flatMap zI⟩,⟨ptr A3 0 1,0,[w1]⟩,⟨ptr AK 0 4,0,oC o⟩,⟨ptr AL 0 3,0,rC rg sv⟩]++xs):=by
   rw[hsame]
   exact hreqrg1▸hWBs1
  rw[←hreqrg1]at hfin
  exact⟨_,(hYBs1.aV (hBBs1▸hS18)).get,rfl,hreqrg1▸hfin⟩
 rintro _ H21 hLp2
 rw[dr]at hLp2
 refine⟨_,hLp2.get,(by rw[hstrg1];exact fun h=>by cases h),fun _=> ?_,fun c hc=>by rw[hpdrg1]at hc;cases hc⟩
 have hAAf1:=(hLp2.set (fun h=>h) {rg1 with state:=.exhausted}).st
 have hKAf1:∀B,B≠Lrg1→iP (hset H21 Lrg1 (.loop {rg1 with state:=.exhausted})) B=iP H21 B:=fun B h=>iM _ (eH h)
 generalize hset H21 Lrg1 (.loop {rg1 with state:=.exhausted})=HAf1 at hAAf1 hKAf1 ⊢
 have hnt:jP w1=true:=(hAAf1.av (cel:=zI) 2 rfl (fun _=>rfl)).bB
 simp(disch:=omega) only[↓RA,RZ,simprocAttr,hnrg1,g7rg1,hAAf1.ld 3 rfl,c3B,hnt]
 exact⟨w1,by rw[h0],by rw[if_pos h0];exact hAAf1.pick [2] (by decide) rfl⟩
theorem b4S(x:Nt)(hx:Nt.Ok x)(z:Int)(h0:0≤z)(h1:z<128):Fn prog 68 [.agg #[.int .u64 x.1,.int .u64 x.2],I z] H fun r H'=>r=.agg #[.int .u64 (nX x z).1,.int .u64 (nX x z).2]∧St prog H H' []:=by
 obtain⟨m,rfl⟩:=fS h0
 refine .aD func68 rfl (by kernel_rfl) (m:=23) rfl fun l hn g0 g1=> ?_
 simp(disch:=omega) only[↓RA,RB,simprocAttr,g0]
 refine(sR H).eNew 2 [(.int .u64 x.1),(.int .u64 x.2)] rfl rfl rfl lT fun A1 H1 hS1=> ?_
 simp only[RT]at hS1
 simp(disch:=omega) only[↓RA,RZ,simprocAttr]
 refine hS1.eNew 2 [(.int .u64 0),(.int .u64 0)] rfl rfl rfl lT fun A2 H2 hS2=> ?_
 simp only[RT]at hS2
 simp(disch:=omega) only[↓RA,RB,simprocAttr,hn,g1]
 refine iA (fun q1=> ?_) (fun q1=> ?_)
 ·have e1:=orN x.1 m hx.1 (by omega)
  have e2:nX x (m:Int)=(x.1|||2^m,x.2):=by unfold nX;rw[if_pos q1];rfl
  simp(disch:=omega) only[↓RA,RZ,simprocAttr,hn,g1,hS2.ld 0 rfl,q1,e1]
  refine hS2.aa 0 rfl [(.int .u64 (x.1|||2^m:Nat))] rfl rfl a5d (by simp) fun H3 hS3=> ?_
  simp only[RT]at hS3
  simp(disch:=omega) only[↓RA,RZ,simprocAttr,hn,hS3.ag 0 rfl,q1]
  refine hS3.aa 1 rfl [(.int .u64 (x.1|||2^m:Nat)),(.int .u64 x.2)] rfl rfl lT (by simp) fun H4 hS4=> ?_
  simp only[RT]at hS4
  simp(disch:=omega) only[↓RA,RZ,simprocAttr,hn,c4F,hS4.ag 1 rfl,q1]
  rw[e2]
  exact⟨rfl,hS4.forget⟩
 have e1:=orN x.2 (m-64) hx.2 (by omega)
 have e3:(m:Int)-64=((m-64:Nat):Int):=by omega
 have e2:nX x (m:Int)=(x.1,x.2|||2^(m-64)):=by unfold nX;rw[if_neg q1,e3];rfl
 simp(disch:=omega) only[↓RA,RZ,simprocAttr,hn,g1,hS2.ld 0 rfl,q1,e1,e3]
 refine hS2.aa 0 rfl [(.int .u64 (x.2|||2^(m-64):Nat))] rfl rfl a5d (by simp) fun H5 hS5=> ?_
 simp only[RT]at hS5
 simp(disch:=omega) only[↓RA,RZ,simprocAttr,hn,hS5.ag 0 rfl,q1]
 refine hS5.aa 1 rfl [(.int .u64 x.1),(.int .u64 (x.2|||2^(m-64):Nat))] rfl rfl lT (by simp) fun H6 hS6=> ?_
 simp only[RT]at hS6
 simp(disch:=omega) only[↓RA,RZ,simprocAttr,hn,c4F,hS6.ag 1 rfl,q1]
 rw[e2]
 exact⟨rfl,hS6.forget⟩
theorem c1o(xs:List Int)(hz:∀z∈xs,isN z)(v:Value)(hv:Sl 1 (one I) H v xs)(hl:xs.length<1000000000):
 Fn prog 33 [v] H fun r H'=>r=.agg #[.int .u64 (jD xs).1,.int .u64 (jD xs).2]∧St prog H H' []:=by
 refine .aY func33 rfl (by kernel_rfl) (m:=30) rfl fun l hn g0=> ?_
 simp(disch:=omega) only[↓RA,RZ,simprocAttr]
 refine(sR H).eNew 2 [(.int .u64 0),(.int .u64 0)] rfl rfl rfl lT fun A1 H1 hS1=> ?_
 simp only[RT]at hS1
 simp(disch:=omega) only[↓RA,RZ,simprocAttr]
 refine hS1.eNew 2 [(.int .u64 0),(.int .u64 0)] rfl rfl rfl lT fun A2 H2 hS2=> ?_
 simp only[RT]at hS2
 simp(disch:=omega) only[↓RA,RB,simprocAttr]
 refine Wp.al (fun n l H'=>l.length=30∧get l 0=v∧get l 2=(ptr A1 0 2)∧get l 3=(ptr A2 0 2)∧∃(j:Nat),(n+j=xs.length)∧get l 4=I j∧St prog H H' [⟨ptr A1 0 2,0,[(.int .u64 0),(.int .u64 0)]⟩,⟨ptr A2 0 2,0,[.int .u64 (jD (xs.take j)).1,.int .u64 (jD (xs.take j)).2]⟩]) xs.length ?_ ?_
 ·simp(disch:=omega) only[RB,RC,simprocAttr,hn,g0]
  exact⟨0,by omega,rfl,hS2⟩
 rintro n l H3⟨hn,g0,g2,g3,j,hj,g4,hS3⟩
 simp(disch:=omega) only[↓RA,RZ,simprocAttr,hn,g0,g4,(hS3.sl hv).len]
 refine iA (fun q1=> ?_) (fun q1=> ?_)
 ·have hx:=hz _ (iE (xs:=xs) (j:=j) (by omega))
  have hx0:=hx.1
  have hx1:=hx.2
  have hok:Nt.Ok (jD (xs.take j)):=oU _ _ (fun z h=>hz z (List.mem_of_mem_take h)) ⟨by decide,by decide⟩
  simp(disch:=omega) only[↓RA,RZ,simprocAttr,hn,g0,g4,(hS3.sl hv).idx,(hS3.sl hv).ld,one,q1]
  refine kB (fun q2=> ?_) (fun q2=> ?_)
  rotate_left
  ·exfalso;first|omega|(simp at q2;omega)
  simp(disch:=omega) only[↓RA,RZ,simprocAttr,hn,g0,g4,(hS3.sl hv).idx,(hS3.sl hv).ld,one,q1,q2]
  refine iA (fun q3=> ?_) (fun q3=> ?_)
  rotate_left
  ·exfalso;first|omega|(simp at q3;omega)
  simp(disch:=omega) only[↓RA,RC,simprocAttr,q1,q2,q3]
  refine Wp.drw jZ (by kernel_rfl) ?_
  simp(disch:=omega) only[↓RA,RZ,simprocAttr,hn,g0,g3,g4,hS3.ag 1 rfl,(hS3.sl hv).idx,(hS3.sl hv).ld,one]
  refine hS3.cF (b4S (jD (xs.take j)) hok (iB xs j) hx.1 hx.2) fun H4 hS4=> ?_
  simp(disch:=omega) only[↓RA,RB,simprocAttr,hn,g3]
  refine hS4.aa 1 rfl [(.int .u64 (nX (jD (xs.take j)) (iB xs j)).1),(.int .u64 (nX (jD (xs.take j)) (iB xs j)).2)] rfl rfl lT (by simp) fun H5 hS5=> ?_
  simp only[RT]at hS5
  simp(disch:=omega) only[↓RA,RZ,simprocAttr,hn,g0,g2,g3,g4]
  refine⟨n-1,by omega,j+1,by omega,by simp,?_⟩
  rw[a0I xs (by omega)]
  exact hS5.pick [0,1] (by decide) rfl
 have hjj:j=xs.length:=by omega
 simp(disch:=omega) only[↓RA,RZ,simprocAttr,hn,g2,g3,hS3.ag 1 rfl,q1]
 refine hS3.aa 0 rfl [(.int .u64 (jD (xs.take j)).1),(.int .u64 (jD (xs.take j)).2)] rfl rfl lT (by simp) fun H6 hS6=> ?_
 simp only[RT]at hS6
 simp(disch:=omega) only[↓RA,RZ,simprocAttr,g2,c6j,hS6.ag 0 rfl,q1]
 rw[hjj,ek]
 exact⟨rfl,hS6.forget⟩
def exO(w1 w2 w3 w4 w5 w6 w7:Value):Org:=⟨⟨#[111]⟩,w4,[⟨⟨#[114]⟩,⟨#[116]⟩,8,1,36,w3,[1,1,1]⟩],w6,[⟨⟨#[100]⟩,false,36,40,w5,[⟨⟨#[115]⟩,8,1,w2,[⟨36,40,w1,[⟨0,0⟩]⟩]⟩,⟨⟨#[116]⟩,8,1,w2,[⟨36,40,w1,[⟨0,0⟩]⟩]⟩]⟩],w7,[⟨⟨#[99]⟩,0,0,1,false⟩]⟩
theorem a9B:Fn prog 30 [] H fun r H'=>∃w1 w2 w3 w4 w5 w6 w7,r=.agg #[.string (exO w1 w2 w3 w4 w5 w6 w7).name,w4,w6,w7]∧(exO w1 w2 w3 w4 w5 w6 w7).In H'∧St prog H H' []:=by
 refine .cS func30 rfl (by kernel_rfl) (m:=24) rfl fun l hn=> ?_
 simp(disch:=omega) only[↓RA,RZ,simprocAttr]
 refine(sR H).eNew 4 [(.string ⟨#[]⟩),(.slice none 0 0),(.slice none 0 0),(.slice none 0 0)] rfl rfl rfl mV fun A1 H1 hS1=> ?_
 simp only[RT]at hS1
 simp(disch:=omega) only[↓RA,RB,simprocAttr,hn,zG,c2f]
 refine hS1.ai [I 0,I 0] a4g a3W rfl rfl (by simp[Value.cells]) rfl rfl (by decide) (by decide) fun w1 H2 hS2=> ?_
 simp only[RT]at hS2
 simp(disch:=omega) only[↓RA,RB,simprocAttr,hn,lM (hS2.rd 1 rfl).cells]
 refine hS2.ai [I 36,I 40,w1] qA wA rfl rfl (by first|(simp[];done)|simp[Value.cells]) (by first|(simp[];done)|simp[Value.cells]) (by simp[OC,(hS2.rd 1 rfl).cells.2.1]) (by decide) (by decide) fun w2 H3 hS3=> ?_
 simp only[RT]at hS3
 simp(disch:=omega) only[↓RA,RZ,simprocAttr,hn,a6G (hS3.rd 2 rfl).cells]
 refine hS3.eNew 4 [(.string ⟨#[]⟩),I 0,I 0,(.slice none 0 0)] rfl rfl rfl mY fun A2 H4 hS4=> ?_
 simp only[RT]at hS4
 simp(disch:=omega) only[↓RA,RB,simprocAttr,hn]
 refine hS4.aa 3 rfl [(.string ⟨#[115]⟩),I 8,I 1,w2] rfl (by simp[OC,(hS4.rd 2 rfl).cells.2.1]) mY (by simp) fun H5 hS5=> ?_
 simp only[RT]at hS5
 simp(disch:=omega) only[↓RA,RZ,simprocAttr,hn,hS5.ag 3 rfl]
 refine hS5.eNew 4 [(.string ⟨#[]⟩),I 0,I 0,(.slice none 0 0)] rfl rfl rfl mY fun A3 H6 hS6=> ?_
 simp only[RT]at hS6
 simp(disch:=omega) only[↓RA,RB,simprocAttr,hn]
 refine hS6.aa 4 rfl [(.string ⟨#[115]⟩),I 8,I 1,w2] rfl (by simp[OC,(hS6.rd 2 rfl).cells.2.1]) mY (by simp) fun H7 hS7=> ?_
 simp only[RT]at hS7
 simp(disch:=omega) only[↓RA,RZ,simprocAttr,hn]
 refine hS7.aa 4 rfl [(.string ⟨#[116]⟩)] rfl rfl tS9 (by simp) fun H8 hS8=> ?_
 simp only[RT]at hS8
 simp(disch:=omega) only[↓RA,RB,simprocAttr,zG]
 refine hS8.ai [I 1,I 1,I 1] a3d a6j rfl rfl (by simp[Value.cells]) rfl rfl (by decide) (by decide) fun w3 H9 hS9=> ?_
 simp only[RT]at hS9
 simp(disch:=omega) only[↓RA,RB,simprocAttr,hn,a2v (hS9.rd 5 rfl).cells]
 refine hS9.ai [(.string ⟨#[114]⟩),(.string ⟨#[116]⟩),I 8,I 1,I 36,w3] c1m c3I rfl rfl (by first|(simp[];done)|simp[Value.cells]) (by first|(simp[];done)|simp[Value.cells]) (by simp[OC,(hS9.rd 5 rfl).cells.2.1]) (by decide) (by decide) fun w4 H10 hS10=> ?_
 simp only[RT]at hS10
 simp(disch:=omega) only[↓RA,RZ,simprocAttr,hn,a6O,hS10.ag 3 rfl,hS10.ag 4 rfl]
 refine hS10.ai [(.string ⟨#[115]⟩),I 8,I 1,w2,(.string ⟨#[116]⟩),I 8,I 1,w2] c1U c2P rfl rfl (by first|(simp[];done)|simp[Value.cells]) (by first|(simp[];done)|simp[Value.cells]) (by simp[OC,(hS10.rd 2 rfl).cells.2.1]) (by decide) (by decide) fun w5 H11 hS11=> ?_
 simp only[RT]at hS11
 simp(disch:=omega) only[↓RA,RB,simprocAttr,hn,a8B (hS11.rd 7 rfl).cells]
 refine hS11.ai [(.string ⟨#[100]⟩),(.bool false),I 36,I 40,w5] c1H c2B rfl rfl (by first|(simp[];done)|simp[Value.cells]) (by first|(simp[];done)|simp[Value.cells]) (by simp[OC,(hS11.rd 7 rfl).cells.2.1]) (by decide) (by decide) fun w6 H12 hS12=> ?_
 simp only[RT]at hS12
 simp(disch:=omega) only[↓RA,RB,simprocAttr,hn,b3h]
 refine hS12.ai [(.string ⟨#[99]⟩),I 0,I 0,I 1,(.bool false)] a8w b9w rfl rfl (by simp[Value.cells]) rfl rfl (by decide) (by decide) fun w7 H13 hS13=> ?_
 simp only[RT]at hS13
 simp(disch:=omega) only[↓RA,RB,simprocAttr,hn,a5G (hS13.rd 6 rfl).cells (hS13.rd 8 rfl).cells (hS13.rd 9 rfl).cells]
 refine hS13.aa 0 rfl [(.string ⟨#[111]⟩),w4,w6,w7] rfl (by simp[OC,(hS13.rd 6 rfl).cells.2.1,(hS13.rd 8 rfl).cells.2.1,(hS13.rd 9 rfl).cells.2.1]) mV (by simp) fun H14 hS14=> ?_
 simp only[RT]at hS14
 simp(disch:=omega) only[↓RA,RZ,simprocAttr,hn,c5C,hS14.ag 0 rfl]
 have h1:Sl 2 Drw.cells H14 w1 [⟨0,0⟩]:=hS14.av 1 rfl (fun _=>rfl)
 have h2:Sl 3 Seg.cells H14 w2 [⟨36,40,w1,[⟨0,0⟩]⟩]:=hS14.av 2 rfl (fun _=>rfl)
 have h3:Sl 1 (one I) H14 w3 [1,1,1]:=hS14.av 5 rfl (fun _=>rfl)
 have h4:Sl 6 Rk.cells H14 w4 (exO w1 w2 w3 w4 w5 w6 w7).ranks:=hS14.av 6 rfl (fun _=>rfl)
 have h5:Sl 4 Stp.cells H14 w5 [⟨⟨#[115]⟩,8,1,w2,[⟨36,40,w1,[⟨0,0⟩]⟩]⟩,⟨⟨#[116]⟩,8,1,w2,[⟨36,40,w1,[⟨0,0⟩]⟩]⟩]:=hS14.av 7 rfl (fun _=>rfl)
 have h6:Sl 5 Dvn.cells H14 w6 (exO w1 w2 w3 w4 w5 w6 w7).dvs:=hS14.av 8 rfl (fun _=>rfl)
 have h7:Sl 5 Cpl.cells H14 w7 (exO w1 w2 w3 w4 w5 w6 w7).cpls:=hS14.av 9 rfl (fun _=>rfl)
 refine⟨w1,w2,w3,w4,w5,w6,w7,rfl,⟨h4,?_,h6,?_,h7,by simp[exO],by simp[exO],by simp[exO]⟩,hS14.forget⟩
 ·intro r hr
  rw[dC.1 hr]
  exact⟨h3,by simp⟩
 ·have hg:(⟨36,40,w1,[⟨0,0⟩]⟩:Seg).In H14:=⟨h1,by simp⟩
  intro d hd
  rw[dC.1 hd]
  refine⟨h5,?_,by simp⟩
  intro s hs
  simp only[eA,eJ,or_false]at hs
  rcases hs with rfl|rfl
  ·exact⟨h2,fun g hg'=>by rw[dC.1 hg'];exact hg,by simp⟩
  ·exact⟨h2,fun g hg'=>by rw[dC.1 hg'];exact hg,by simp⟩
section
variable (w1 w2 w3 w4 w5 w6 w7:Value)
def a8T(x:Int×Int):List (Int×Int)→List (Int×Int)
 | []=>[x]
 | y::l=>if le2 x y then x::y::l else y::a8T x l
def a8q:List (Int×Int)→List (Int×Int)
 | []=>[]
 | x::l=>a8T x (a8q l)
theorem zQ(x:Int×Int):∀l,(a8T x l).Perm (x::l)
 | []=>.refl _
 | y::l=>by
   unfold a8T
   split
   ·exact .refl _
   ·exact((zQ x l).cons y).trans (.swap ..)
theorem a4a:∀l,(a8q l).Perm l
 | []=>.refl _
 | x::l=>(zQ x _).trans ((a4a l).cons x)
theorem b1z(x y:Int×Int):le2 x y=false→le2 y x=true:=by
 intro h
 rw[←eM]at h
 rw[oG]at h ⊢
 omega
theorem a0B(x:Int×Int):∀l:List (Int×Int),l.Pairwise (fun a b=>le2 a b=true)→(a8T x l).Pairwise fun a b=>le2 a b=true
 | [],_=>by simp[a8T]
 | y::l,h=>by
   have h1:=gU.1 h
   unfold a8T
   split
   ·rename_i hxy
    refine gU.2 ⟨fun z hz=> ?_,h⟩
    rcases eA.1 hz with rfl|hz
    ·exact hxy
    ·have h2:=h1.1 z hz
     rw[oG]at*
     omega
   ·rename_i hxy
    refine gU.2 ⟨fun z hz=> ?_,a0B x l h1.2⟩
    rcases eA.1 ((zQ x l).mem_iff.1 hz)with rfl|hz
    ·exact b1z _ _ (by simpa using hxy)
    ·exact h1.1 z hz
theorem a0O:∀l:List (Int×Int),(a8q l).Pairwise fun a b=>le2 a b=true
 | []=>.nil
 | x::l=>a0B x _ (a0O l)
theorem c2i:wC=a8q:=by
 funext l
 refine List.Perm.eq_of_pairwise (le:=fun a b=>le2 a b=true) (fun a b _ _ h1 h2=> ?_) (a1R l) (a0O l) ((pP l).trans (a4a l).symm)
 rw[oG]at h1 h2
 exact gz (by omega) (by omega)
def c0w(s:List Ct→List Ct)(o:Org)(r:Reg)(l:List Ct):List Ct:=dd (s (l.filter (fun c=> !r.off.testBit c.1.toNat)++bfs o r.cpl 1100 0 (oM o r.cpl l)))
def c1a(s:List Ct→List Ct)(rs:List Rk)(p:Stp)(key:Int):List Ct:=dd (s (((a8Y p key).filter fun d=>a0r rs d key).map fun d=>pK rs d key))
def c0A(s:List Ct→List Ct)(o:Org)(r:Reg)(c:Ct):List Ct:=(List.range (iB o.dvs c.1.toNat).stops.length).flatMap fun i=>if(iB r.stops c.1.toNat).testBit i then c1a s o.ranks (iB (iB o.dvs c.1.toNat).stops i) c.2 else[]
def ofG(s:List Ct→List Ct)(o:Org)(r:Reg)(c:Ct):List Ct:=if a5s o r c=0 then dd (s ((c0w s o r [c]).flatMap (c0A s o r)))else[]
theorem b6i:lI=ofG a8q:=by
 rw[←c2i]
 rfl
theorem c0D:mA (exO w1 w2 w3 w4 w5 w6 w7) ⟨[1],0,0⟩=0:=by kernel_rfl
theorem c2w:pN (exO w1 w2 w3 w4 w5 w6 w7) ⟨[1],0,0⟩ (kG (exO w1 w2 w3 w4 w5 w6 w7))=[jD [39,40]]:=by
 unfold pN a3g
 rw[b6i]
 kernel_rfl
end
section
variable (w1 w2 w3 w4 w5 w6 w7:Value)
def a1T(s:List Ct→List Ct)(o:Org)(r:Reg):List Ctl:=(pD r).filter fun c=>decide ((kG o).map (ofG s o (kW r c))=(kG o).map (ofG s o r))
theorem a6R:mK=a1T a8q:=by
 funext o r
 unfold mK pX a1T
 rw[b6i]
def a8m(s:List Ct→List Ct)(o:Org):Nat→Reg→List Ctl→Reg×List Ctl
 | 0,g,l=>(g,l)
 | n+1,g,l=>if(a1T s o g).length=0 then(g,l)else a8m s o n (kW g (iB (a1T s o g) ((a1T s o g).length-1))) (l++[iB (a1T s o g) ((a1T s o g).length-1)])
theorem a3Y(o:Org):∀n g l,mD o n g l=a8m a8q o n g l
 | 0,_,_=>rfl
 | n+1,g,l=>by
   rw[mD,a8m,a6R]
   split
   ·rfl
   ·exact a3Y o n _ _
theorem b9j:mA (exO w1 w2 w3 w4 w5 w6 w7) ⟨[3],0,0⟩=0:=by kernel_rfl
theorem b8L:mA (exO w1 w2 w3 w4 w5 w6 w7) ⟨[0],1,0⟩=0:=by kernel_rfl
theorem b9c:mK (exO w1 w2 w3 w4 w5 w6 w7) ⟨[0],1,0⟩=[wN 0]:=by
 rw[a6R]
 kernel_rfl
theorem b5D:mD (exO w1 w2 w3 w4 w5 w6 w7) (mu ⟨[3],0,0⟩+1) ⟨[3],0,0⟩ []=(⟨[1],0,0⟩,[a0d 0 1]):=by
 rw[a3Y]
 kernel_rfl
end
theorem a7z:Fn prog 30 [] H fun r H'=>∃o:Org,r=.agg #[.string o.name,o.rv,o.dv,o.cv]∧(∃w1 w2 w3 w4 w5 w6 w7,o=exO w1 w2 w3 w4 w5 w6 w7)∧o.In H'∧St prog H H' []:=by
 obtain⟨h1,v,H1,h2,w1,w2,w3,w4,w5,w6,w7,h3,h4,h5⟩:=a9B (H:=H)
 exact⟨h1,v,H1,h2,_,h3,⟨w1,w2,w3,w4,w5,w6,w7,rfl⟩,h4,h5⟩
theorem b2V(o:Org)(ho:o.In H)(rg:Reg)(sv:Value)(hr:rg.In H sv)(h0:mA o rg=0)(g:Reg)(gone:List Ctl)(hs:mD o (mu rg+1) rg []=(g,gone)):
 Fn prog 31 [.agg #[.string o.name,o.rv,o.dv,o.cv],.agg #[sv,.int .u64 rg.cpl,.int .u64 rg.off]] H fun r H'=>∃nv lv,r=.tuple #[.agg #[nv,.int .u64 g.cpl,.int .u64 g.off],lv,I 0]∧(g.Ok∧g.stops.length=rg.stops.length)∧St prog H H' [⟨nv,1,g.stops.flatMap (one u64)⟩,⟨lv,3,mB gone⟩]:=by
 obtain⟨h1,v,H1,h2,nv,lv,h3⟩:=b6L o ho rg sv hr
 refine⟨h1,v,H1,h2,?_⟩
 rcases h3 with⟨h,_⟩|⟨g',gone',_,he,h4,h5,h6,h7⟩
 ·exact absurd h0 h
 ·rw[hs]at he
  obtain⟨rfl,rfl⟩:=Prod.mk.inj he
  exact⟨nv,lv,h4,⟨h5,h6⟩,h7⟩
theorem a9N:Fn prog 6 [] H fun r H'=>r=.bool true∧St prog H H' []:=by
 refine .cS func6 rfl (by kernel_rfl) (m:=92) rfl fun l hn=> ?_
 simp(disch:=omega) only[↓RA,RZ,simprocAttr]
 refine iJ (a7z) ?_
 rintro r H1⟨o,rfl,⟨v1,v2,v3,v4,v5,v6,v7,hoe⟩,ho,hT1⟩
 have hS1:=(sR H).trans hT1
 simp only[RT]at hS1
 have f1:mA o ⟨[1],0,0⟩=0:=by rw[hoe];exact c0D ..
 have f2:pN o ⟨[1],0,0⟩ (kG o)=[jD [39,40]]:=by rw[hoe];exact c2w ..
 have f3:mA o ⟨[3],0,0⟩=0:=by rw[hoe];exact b9j ..
 have f4:mD o (mu ⟨[3],0,0⟩+1) ⟨[3],0,0⟩ []=(⟨[1],0,0⟩,[a0d 0 1]):=by rw[hoe];exact b5D ..
 have f5:mA o ⟨[0],1,0⟩=0:=by rw[hoe];exact b8L ..
 have f6:mK o ⟨[0],1,0⟩=[wN 0]:=by rw[hoe];exact b9c ..
 have hS0:=hS1
 simp(disch:=omega) only[↓RA,RZ,simprocAttr]
 refine(sR H1).eNew 4 [(.string ⟨#[]⟩),(.slice none 0 0),(.slice none 0 0),(.slice none 0 0)] rfl rfl rfl mV fun A1 H2 hS2=> ?_
 simp only[RT]at hS2
 simp(disch:=omega) only[↓RA,RB,simprocAttr,hn]
 refine hS2.aa 0 rfl [(.string o.name),o.rv,o.dv,o.cv] rfl (by simp[OC,(hS2.sl ho.1).cells.2.1,(hS2.sl ho.2.2.1).cells.2.1,(hS2.sl ho.2.2.2.2.1).cells.2.1]) mV (by simp) fun H3 hS3=> ?_
 simp only[RT]at hS3
 simp(disch:=omega) only[↓RA,RZ,simprocAttr,hn,hS3.ag 0 rfl]
 refine hS3.ai [(.int .u64 1)] b0h b7Y rfl rfl (by simp[Value.cells]) rfl rfl (by decide) (by decide) fun w1 H4 hS4=> ?_
 simp only[RT]at hS4
 simp(disch:=omega) only[↓RA,RZ,simprocAttr,hn,b6l (hS4.rd 1 rfl).cells]
 refine iJ (b1J o (ho.ab hS4) ⟨[1],0,0⟩ _ ⟨hS4.av 1 rfl (fun _=>rfl),by decide,by decide,by decide,by decide⟩) ?_
 rintro r H5⟨lv,rfl,hT2⟩
 have hS5:=hS4.trans hT2
 simp only[RT]at hS5
 rw[f1]
 rw[if_pos f1,f2]at hS5
 simp(disch:=omega) only[↓RA,RZ,simprocAttr,hn,hS5.ag 0 rfl]
 refine hS5.ai [(.int .u64 3)] b0h b7Y rfl rfl (by simp[Value.cells]) rfl rfl (by decide) (by decide) fun w2 H6 hS6=> ?_
 simp only[RT]at hS6
 simp(disch:=omega) only[↓RA,RZ,simprocAttr,hn,b6l (hS6.rd 3 rfl).cells]
 refine iJ (b2V o (ho.ab hS6) ⟨[3],0,0⟩ _ ⟨hS6.av 3 rfl (fun _=>rfl),by decide,by decide,by decide,by decide⟩ f3 _ _ f4) ?_
 rintro r H7⟨nv,gv,rfl,-,hT3⟩
 have hS7:=hS6.trans hT3
 simp only[RT]at hS7
 simp(disch:=omega) only[↓RA,RZ,simprocAttr,hn]
 refine hS7.eNew 3 [(.slice none 0 0),(.int .u64 0),(.int .u64 0)] rfl rfl rfl mP fun A2 H8 hS8=> ?_
 simp only[RT]at hS8
 simp(disch:=omega) only[↓RA,RB,simprocAttr,hn]
 refine hS8.aa 6 rfl [nv,(.int .u64 0),(.int .u64 0)] rfl (by simp[OC,(hS8.rd 4 rfl).cells.2.1]) mP (by simp) fun H9 hS9=> ?_
 simp only[RT]at hS9
 simp(disch:=omega) only[↓RA,RZ,simprocAttr,hn,hS9.ag 0 rfl]
 refine hS9.ai [(.int .u64 0)] b0h b7Y rfl rfl (by simp[Value.cells]) rfl rfl (by decide) (by decide) fun w3 H10 hS10=> ?_
 simp only[RT]at hS10
 simp(disch:=omega) only[↓RA,RZ,simprocAttr,hn,b5Q (hS10.rd 7 rfl).cells]
 have hS2:=hS10
 refine iJ (b8t o (ho.ab hS10) ⟨[0],1,0⟩ _ ⟨hS10.av 7 rfl (fun _=>rfl),by decide,by decide,by decide,by decide⟩) ?_
 rintro r H11⟨iv,rfl,hix,hT4⟩
 have hS11:=hS10.trans hT4
 simp only[RT]at hS11
 rw[if_pos f5,f6]at hix
 have hix2:=hix.step (hS2.aJ (H':=H11))
 obtain⟨X,hBX,hS12⟩:=hS11.ax (os:=[⟨ptr A1 0 4,0,_⟩,⟨w1,1,_⟩,⟨lv,2,_⟩,⟨w2,1,_⟩,⟨nv,1,_⟩,⟨gv,3,_⟩,⟨ptr A2 0 3,0,_⟩,⟨w3,1,_⟩])
 rw[f5]
 have hz:∀z∈[(39:Int),40],isN z:=by
  intro z hz
  simp only[eA,eJ,or_false]at hz
  rcases hz with rfl|rfl<;>exact⟨by decide,by decide⟩
 have hL1:((([jD [39,40]]:List Nt).length:Nat):Int)=1:=rfl
 have hL2:((([1]:List Nat).length:Nat):Int)=1:=rfl
 have hL3:((([a0d 0 1]:List Ctl).length:Nat):Int)=1:=rfl
 have hL4:((([wN 0]:List Ctl).length:Nat):Int)=1:=rfl
 have hN1:iB ([jD [39,40]]:List Nt) 0=jD [39,40]:=rfl
 have hN2:iB ([1]:List Nat) 0=1:=rfl
 have hN3:iB ([a0d 0 1]:List Ctl) 0=⟨1,0,1⟩:=rfl
 have hN4:iB ([wN 0]:List Ctl) 0=⟨2,0,0⟩:=rfl
 simp(disch:=omega) only[↓RA,RB,simprocAttr,hn,eq_self]
 refine Wp.aO jZ [(10,12),(10,13)] (by kernel_rfl) (by kernel_rfl) ?_
 simp(disch:=omega) only[↓RA,RZ,simprocAttr,hn,(hS12.av 2 rfl (fun _=>rfl)).len,eq_self]
 simp(disch:=omega) only[↓RA,RZ,simprocAttr,hn,(hS12.av 2 rfl (fun _=>rfl)).idx,(hS12.av 2 rfl (fun _=>rfl)).ag,zI,hN1,eq_self]
 refine hS12.ai [I 39,I 40] a3d a6j rfl rfl (by simp[Value.cells]) rfl rfl (by decide) (by decide) fun w4 H12 hS13=> ?_
 simp only[RT]at hS13
 simp(disch:=omega) only[↓RA,RZ,simprocAttr,hn,eq_self]
 have hF1:=hS13
 refine hS13.cF (c1o [39,40] hz _ (hS13.av 8 rfl (fun _=>rfl)) (by decide)) fun H13 hS14=> ?_
 have hiy:=hix2.step (hS14.kept hBX)
 simp(disch:=omega) only[↓RA,RZ,simprocAttr,hn,eq_self,and_self]
 simp(disch:=omega) only[↓RA,RZ,simprocAttr,hn,hS14.ld 6 rfl,(hS14.av 4 rfl (fun _=>rfl)).len,eq_self]
 simp(disch:=omega) only[↓RA,RZ,simprocAttr,hn,(hS14.av 4 rfl (fun _=>rfl)).idx,(hS14.av 4 rfl (fun _=>rfl)).ld,one,u64,hN2,eq_self]
 simp(disch:=omega) only[↓RA,RZ,simprocAttr,hn,(hS14.av 5 rfl (fun _=>rfl)).len,eq_self]
 simp(disch:=omega) only[↓RA,RZ,simprocAttr,hn,(hS14.av 5 rfl (fun _=>rfl)).idx,(hS14.av 5 rfl (fun _=>rfl)).ag,Ctl.cells,a4m,hN3,eq_self,and_self]
 simp(disch:=omega) only[↓RA,RZ,simprocAttr,hn,hiy.1.len,eq_self]
 simp(disch:=omega) only[↓RA,RZ,simprocAttr,hn,hiy.1.idx,hiy.1.bh,hiy.1.ld,Ctl.cells,zI,(hS13.av 2 rfl (fun _=>rfl)).ag,(hS14.av 2 rfl (fun _=>rfl)).ag,tR6,hN1,hN4,eq_self,and_self]
 exact hS0.trans (hS11.aj hBX hS14).forget
end Go.Ds
namespace Go.Ds
open Go.Proofs
set_option maxRecDepth 10000
def ltP(x y:Int×Int):Prop:=x.1<y.1∨(x.1=y.1∧x.2<y.2)
theorem sH{x:Int×Int}:¬ltP x x:=by unfold ltP;omega
theorem b3d{x y z:Int×Int}(h:ltP x y)(k:ltP y z):ltP x z:=by unfold ltP at*;omega
theorem a3Z:∀(l m:List (Int×Int)),l.Pairwise ltP→m.Pairwise ltP→(∀x,x∈l↔x∈m)→l=m
 | [],[],_,_,_=>rfl
 | [],b::m,_,_,h=>absurd ((h b).2 (dU ..)) eJ
 | a::l,[],_,_,h=>absurd ((h a).1 (dU ..)) eJ
 | a::l,b::m,hl,hm,h=>by
   rw[gU]at hl hm
   have hab:a=b:=by
    rcases eA.1 ((h a).1 (dU ..))with e|e
    ·exact e
    ·rcases eA.1 ((h b).2 (dU ..))with e2|e2
     ·exact e2.symm
     ·exact absurd (b3d (hm.1 a e) (hl.1 b e2)) sH
   subst hab
   congr 1
   refine a3Z l m hl.2 hm.2 fun x=> ?_
   constructor
   ·intro hx
    rcases eA.1 ((h x).1 (eB _ hx))with e|e
    ·subst e
     exact absurd (hl.1 x hx) sH
    ·exact e
   ·intro hx
    rcases eA.1 ((h x).2 (eB _ hx))with e|e
    ·subst e
     exact absurd (hm.1 x hx) sH
    ·exact e
theorem b4x{es:List (Int×Int)}(h:es.Pairwise fun a b=>le2 a b=true){i j:Nat}(hij:i<j)(hj:j<es.length):le2 (iB es i) (iB es j)=true:=by
 rw[jR _ _ (by omega),jR _ _ hj]
 exact ec.1 h i j (by omega) hj hij
theorem b4m{es:List (Int×Int)}(h:es.Pairwise fun a b=>le2 a b=true):∀m,m≤es.length→(yM es m).Pairwise ltP∧∀x,x∈yM es m↔∃j,j<m∧iB es j=x
 | 0,_=>⟨by simp[yM],fun x=>by simp[yM]⟩
 | m+1,hm=>by
   obtain⟨h1,h2⟩:=b4m h m (by omega)
   rw[sB]
   by_cases hc:m=0∨iB es m≠iB es (m-1)
   ·rw[if_pos hc]
    refine⟨?_,fun x=> ?_⟩
    ·rw[fb]
     refine⟨h1,by simp,fun a ha b hb=> ?_⟩
     obtain⟨j,hj,rfl⟩:=(h2 a).1 ha
     obtain rfl:=dC.1 hb
     have h3:=(oG _ _).1 (b4x h hj (by omega))
     rcases hc with hc|hc
     ·omega
     ·by_cases he:j=m-1
      ·subst he
       have hne:¬(iB es (m-1)=iB es m):=fun e=>hc e.symm
       rw[Prod.ext_iff]at hne
       unfold ltP
       omega
      ·have h4:=(oG _ _).1 (b4x h (show j<m-1 by omega) (by omega))
       have h5:=(oG _ _).1 (b4x h (show m-1<m by omega) (by omega))
       have hne:¬(iB es (m-1)=iB es m):=fun e=>hc e.symm
       rw[Prod.ext_iff]at hne
       unfold ltP
       omega
    ·rw[dJ,h2,dC]
     constructor
     ·rintro(⟨j,hj,e⟩|e)
      ·exact⟨j,by omega,e⟩
      ·exact⟨m,by omega,e.symm⟩
     ·rintro⟨j,hj,e⟩
      rcases du.1 hj with e2|e2
      ·exact .inl ⟨j,e2,e⟩
      ·subst e2
       exact .inr e.symm
   ·rw[if_neg hc,dr]
    refine⟨h1,fun x=> ?_⟩
    rw[h2]
    constructor
    ·rintro⟨j,hj,e⟩
     exact⟨j,by omega,e⟩
    ·rintro⟨j,hj,e⟩
     rcases du.1 hj with e2|e2
     ·exact⟨j,e2,e⟩
     ·subst e2
      have hc':¬(j=0)∧iB es j=iB es (j-1):=⟨fun e=>hc (.inl e),gI fun e=>hc (.inr e)⟩
      exact⟨j-1,by omega,by rw[←hc'.2];exact e⟩
theorem c1F(l:List (Int×Int)):(dd (wC l)).Pairwise ltP:=(b4m (a1R l) _ (dm _)).1
inductive Star{α:Type}(R:α→α→Prop):α→α→Prop
 | refl (a:α):Star R a a
 | tail {a b c:α}:Star R a b→R b c→Star R a c
theorem b2m(o:Org)(r:Reg)(l:List Ct):(uG o r l).Pairwise ltP:=c1F _
def IsP(o:Org)(p:Ct):Prop:=0≤p.1∧p.1<o.ranks.length∧0≤p.2∧p.2<(iB o.ranks p.1.toNat).wind.length
theorem IsP.small{o:Org}{H:Heap}(hf:o.Fine)(ho:o.In H){p:Ct}(h:IsP o p): -1000000000≤p.1∧p.1≤1000000000∧-1000000000≤p.2∧p.2≤1000000000:=by
 obtain⟨h1,h2,h3,h4⟩:=h
 have hr:=(ho.2.1 _ (iE (xs:=o.ranks) (j:=p.1.toNat) (by omega))).2
 have:=hf.rlen
 exact⟨by omega,by omega,by omega,by omega⟩
end Go.Ds
namespace Go.Ds
open Go.Proofs
variable {H:Heap}
set_option maxRecDepth 10000
set_option maxHeartbeats 1000000
def a9I(x:Nt):List Int:=(oQ x.1).map (fun(i:Nat)=>(i:Int))++(oQ x.2).map fun(i:Nat)=>64+(i:Int)
theorem b5p(x:Nt):(a9I x).length≤128:=by
 unfold a9I
 rw[dh,dF,dF]
 have h1:=nH x.1 64
 have h2:=nH x.2 64
 unfold nF at h1 h2
 unfold oQ
 omega
end Go.Ds
namespace Go.Ds
open Go.Proofs Go.Proofs.Tryz
variable {H:Heap}
set_option maxRecDepth 10000
set_option maxHeartbeats 1000000
def a6A(a b:Nat):Nat:=(BitVec.ofNat 64 a&&&~~~ BitVec.ofNat 64 b).toNat
theorem a4O(a b:Nat):a6A a b<18446744073709551616:=(BitVec.ofNat 64 a&&&~~~ BitVec.ofNat 64 b).isLt
theorem b9K(a b:Nat):IntKind.wrap .u64 ((BitVec.ofInt (IntKind.bits .u64) (a:Int)&&&~~~ BitVec.ofInt (IntKind.bits .u64) (b:Int)).toNat:Int)=((a6A a b:Nat):Int):=by
 have e:(BitVec.ofInt (IntKind.bits .u64) (a:Int)&&&~~~ BitVec.ofInt (IntKind.bits .u64) (b:Int)).toNat=a6A a b:=by
  unfold a6A
  rw[fA,fA]
  rfl
 rw[e]
 have:=a4O a b
 exact qO _ (by omega) (by omega)
theorem a6C(a b j:Nat)(ha:a<18446744073709551616)(hj:j<64):(a6A a b).testBit j=(a.testBit j&& !b.testBit j):=by
 unfold a6A
 have h1:(BitVec.ofNat 64 a&&&~~~ BitVec.ofNat 64 b).toNat.testBit j=(BitVec.ofNat 64 a&&&~~~ BitVec.ofNat 64 b).getLsbD j:=rfl
 rw[h1,BitVec.getLsbD_and,BitVec.getLsbD_not,BitVec.getLsbD_ofNat,BitVec.getLsbD_ofNat]
 simp[hj]
def woF(x y:Nt):Nt:=(a6A x.1 y.1,a6A x.2 y.2)
theorem c0r(x y:Nt):Nt.Ok (woF x y):=⟨a4O _ _,a4O _ _⟩
theorem c2k(x y:Nt):Fn prog 113 [.agg #[.int .u64 x.1,.int .u64 x.2],.agg #[.int .u64 y.1,.int .u64 y.2]] H fun r H'=>r=.agg #[.int .u64 (woF x y).1,.int .u64 (woF x y).2]∧St prog H H' []:=by
 have e1:=b9K x.1 y.1
 have e2:=b9K x.2 y.2
 refine .aD func113 rfl (by kernel_rfl) (m:=16) rfl fun l hn g0 g1=> ?_
 simp(disch:=omega) only[↓RA,RB,simprocAttr,g0]
 refine(sR H).eNew 2 [(.int .u64 x.1),(.int .u64 x.2)] rfl rfl rfl lT fun A1 H1 hS1=> ?_
 simp only[RT]at hS1
 simp(disch:=omega) only[↓RA,RB,simprocAttr,g1]
 refine hS1.eNew 2 [(.int .u64 y.1),(.int .u64 y.2)] rfl rfl rfl lT fun A2 H2 hS2=> ?_
 simp only[RT]at hS2
 simp(disch:=omega) only[↓RA,RZ,simprocAttr]
 refine hS2.eNew 2 [(.int .u64 0),(.int .u64 0)] rfl rfl rfl lT fun A3 H3 hS3=> ?_
 simp only[RT]at hS3
 simp(disch:=omega) only[↓RA,RZ,simprocAttr,hn,hS3.ld 0 rfl,hS3.ld 1 rfl,a6T,e1,e2]
 refine hS3.aa 2 rfl [_,_] rfl rfl lT (by simp) fun H4 hS4=> ?_
 simp only[RT]at hS4
 simp(disch:=omega) only[↓RA,RZ,simprocAttr,hn,c4V,hS4.ag 2 rfl]
 exact⟨rfl,hS4.forget⟩
theorem a2a(x y:Nt):Fn prog 76 [.agg #[.int .u64 x.1,.int .u64 x.2],.agg #[.int .u64 y.1,.int .u64 y.2]] H fun r H'=>r=.bool (decide (woF x y=(0,0)))∧St prog H H' []:=by
 refine .aD func76 rfl (by kernel_rfl) (m:=10) rfl fun l hn g0 g1=> ?_
 simp(disch:=omega) only[↓RA,RB,simprocAttr,g0]
 refine(sR H).eNew 2 [(.int .u64 x.1),(.int .u64 x.2)] rfl rfl rfl lT fun A1 H1 hS1=> ?_
 simp only[RT]at hS1
 simp(disch:=omega) only[↓RA,RB,simprocAttr,g1]
 refine hS1.eNew 2 [(.int .u64 y.1),(.int .u64 y.2)] rfl rfl rfl lT fun A2 H2 hS2=> ?_
 simp only[RT]at hS2
 simp(disch:=omega) only[↓RA,RZ,simprocAttr,hn,hS2.ag 0 rfl,hS2.ag 1 rfl]
 refine hS2.cF (c2k x y) fun H3 hS3=> ?_
 simp(disch:=omega) only[↓RA,RZ,simprocAttr,hn,c0j,c5v]
 refine⟨?_,hS3.forget⟩
 congr 1
 rw[decide_eq_decide]
 constructor
 ·rintro⟨h1,h2⟩
  exact gz (by simpa using h1) (by simpa using h2)
 ·intro h
  rw[h]
  exact⟨rfl,rfl⟩
def zU(lo hi:Int):Nt:=jD ((List.range (hi-lo+1).toNat).map fun(k:Nat)=>lo+(k:Int))
theorem b2n(lo hi:Int)(h0:0≤lo)(h1:lo≤hi)(h2:hi≤127):Fn prog 75 [.agg #[I lo,I hi]] H fun r H'=>r=.tuple #[.agg #[.int .u64 (zU lo hi).1,.int .u64 (zU lo hi).2],I 0]∧St prog H H' []:=by
 have hce:qQ lo hi=0:=by
  unfold qQ
  rw[if_neg (by omega),if_neg (by omega)]
 refine .aY func75 rfl (by kernel_rfl) (m:=25) rfl fun l hn g0=> ?_
 simp(disch:=omega) only[↓RA,RB,simprocAttr,g0]
 refine(sR H).eNew 2 [I lo,I hi] rfl rfl rfl a3t fun A1 H1 hS1=> ?_
 simp only[RT]at hS1
 simp(disch:=omega) only[↓RA,RZ,simprocAttr]
 refine hS1.eNew 2 [(.int .u64 0),(.int .u64 0)] rfl rfl rfl lT fun A2 H2 hS2=> ?_
 simp only[RT]at hS2
 simp(disch:=omega) only[↓RA,RZ,simprocAttr]
 refine hS2.eNew 2 [(.int .u64 0),(.int .u64 0)] rfl rfl rfl lT fun A3 H3 hS3=> ?_
 simp only[RT]at hS3
 simp(disch:=omega) only[↓RA,RZ,simprocAttr,hn,hS3.ag 0 rfl]
 refine hS3.cF (a1l lo hi) fun H4 hS4=> ?_
 rw[hce]
 simp(disch:=omega) only[↓RA,RZ,simprocAttr,hn,hS4.ld 0 rfl]
 refine Wp.al (fun n l H'=>l.length=25∧get l 1=(ptr A1 0 2)∧get l 2=(ptr A2 0 2)∧get l 3=I 0∧get l 4=(ptr A3 0 2)∧∃(j:Nat),(n+j=(hi-lo+1).toNat)∧get l 6=I (lo+(j:Int))∧St prog H H' [⟨ptr A1 0 2,0,[I lo,I hi]⟩,⟨ptr A2 0 2,0,[(.int .u64 0),(.int .u64 0)]⟩,⟨ptr A3 0 2,0,[.int .u64 (jD ((List.range j).map fun(k:Nat)=>lo+(k:Int))).1,.int .u64 (jD ((List.range j).map fun(k:Nat)=>lo+(k:Int))).2]⟩]) (hi-lo+1).toNat ?_ ?_
 ·simp(disch:=omega) only[RB,RC,simprocAttr,hn]
  exact⟨0,by omega,by simp,hS4⟩
 rintro n l H5⟨hn,g1,g2,g3,g4,j,hj,g6,hS5⟩
 simp(disch:=omega) only[↓RA,RZ,simprocAttr,hn,g1,g6,hS5.ld 0 rfl]
 refine iA (fun q1=> ?_) (fun q1=> ?_)
 ·have hok:Nt.Ok (jD ((List.range j).map fun(k:Nat)=>lo+(k:Int))):=oU _ _ (fun z h=>by
   obtain⟨k,hk,rfl⟩:=dy.1 h
   have:=dB.1 hk
   exact⟨by omega,by omega⟩) ⟨by decide,by decide⟩
  have hsu:jD ((List.range (j+1)).map fun(k:Nat)=>lo+(k:Int))=nX (jD ((List.range j).map fun(k:Nat)=>lo+(k:Int))) (lo+(j:Int)):=by
   unfold jD
   rw[ez,dA,gx]
   rfl
  simp(disch:=omega) only[↓RA,RZ,simprocAttr,hn,g4,g6,hS5.ag 2 rfl,q1]
  refine hS5.cF (a2e (jD ((List.range j).map fun(k:Nat)=>lo+(k:Int))) hok (lo+(j:Int)) (by omega) (by omega)) fun H6 hS6=> ?_
  simp(disch:=omega) only[↓RA,RZ,simprocAttr,hn,g4,q1]
  refine hS6.aa 2 rfl [(.int .u64 (nX (jD ((List.range j).map fun(k:Nat)=>lo+(k:Int))) (lo+(j:Int))).1),(.int .u64 (nX (jD ((List.range j).map fun(k:Nat)=>lo+(k:Int))) (lo+(j:Int))).2)] rfl rfl lT (by simp) fun H7 hS7=> ?_
  simp only[RT]at hS7
  simp(disch:=omega) only[↓RA,RZ,simprocAttr,hn,g1,g2,g3,g4,g6,q1]
  refine⟨n-1,by omega,j+1,by omega,by congr 1;omega,?_⟩
  rw[hsu]
  exact hS7.pick [0,1,2] (by decide) rfl
 have hjj:j=(hi-lo+1).toNat:=by omega
 simp(disch:=omega) only[↓RA,RZ,simprocAttr,hn,g2,g4,hS5.ag 2 rfl,q1]
 refine hS5.aa 1 rfl [(.int .u64 (jD ((List.range j).map fun(k:Nat)=>lo+(k:Int))).1),(.int .u64 (jD ((List.range j).map fun(k:Nat)=>lo+(k:Int))).2)] rfl rfl lT (by simp) fun H8 hS8=> ?_
 simp only[RT]at hS8
 simp(disch:=omega) only[↓RA,RZ,simprocAttr,hn,g2,c5P,hS8.ag 1 rfl,q1]
 rw[hjj]
 exact⟨rfl,hS8.forget⟩
structure Ks(H:Heap)(kv:Value)(ks:List Nt):Prop where
 sl:Sl 2 zI H kv ks
 len:ks.length<1000000000
 ok:∀x∈ks,Nt.Ok x
theorem Ks.ab{P:Program}{H':Heap}{kv:Value}{ks:List Nt}{os:List Ob}(h:Ks H kv ks)(hS:St P H H' os):Ks H' kv ks:=⟨hS.sl h.sl,h.len,h.ok⟩
def pY(o:Org)(ks:List Nt):Int:=if organE o≠0 then organE o else if ks.length≠o.dvs.length then 5 else if ∃j,j<o.dvs.length∧woF (iB ks j) (zU (iB o.dvs j).lo (iB o.dvs j).hi)≠(0,0)then 23 else 0
theorem b3B(o:Org)(ho:o.In H)(kv:Value)(ks:List Nt)(hk:Ks H kv ks):Fn prog 38 [.agg #[.string o.name,o.rv,o.dv,o.cv],kv] H fun r H'=>r=I (pY o ks)∧St prog H H' []:=by
 have hkl:=hk.len
 have hdl:=ho.2.2.2.2.2.2.1
 refine .aD func38 rfl (by kernel_rfl) (m:=43) rfl fun l hn g0 g1=> ?_
 simp(disch:=omega) only[↓RA,RB,simprocAttr,g0]
 refine(sR H).eNew 4 [(.string o.name),o.rv,o.dv,o.cv] rfl rfl (by simp[OC,((sR H).sl ho.1).cells.2.1,((sR H).sl ho.2.2.1).cells.2.1,((sR H).sl ho.2.2.2.2.1).cells.2.1]) mV fun A1 H1 hS1=> ?_
 simp only[RT]at hS1
 simp(disch:=omega) only[↓RA,RZ,simprocAttr,hn,hS1.ag 0 rfl]
 refine hS1.cF (yV o (ho.ab hS1)) fun H2 hS2=> ?_
 simp(disch:=omega) only[↓RA,RB,simprocAttr,hn]
 refine iA (fun h1=> ?_) (fun h1=> ?_)
 ·simp(disch:=omega) only[↓RA,RZ,simprocAttr,hn,b9s,h1]
  exact⟨by unfold pY;rw[if_pos h1],hS2.forget⟩
 have hz:organE o=0:=dG.1 h1
 have hf:=Org.bg hz
 simp(disch:=omega) only[↓RA,RZ,simprocAttr,hn,g1,(hS2.sl hk.sl).len,hS2.ld 0 rfl,(hS2.sl ho.2.2.1).len,h1]
 refine iA (fun h2=> ?_) (fun h2=> ?_)
 ·simp(disch:=omega) only[↓RA,RZ,simprocAttr,hn,b9s,h1,h2]
  exact⟨by unfold pY;rw[if_neg h1,if_pos (by omega)],hS2.forget⟩
 have hlen:ks.length=o.dvs.length:=by omega
 simp(disch:=omega) only[↓RA,RZ,simprocAttr,hn,hS2.ld 0 rfl,(hS2.sl ho.2.2.1).len,h1,h2]
 refine Wp.al (fun n l H'=>l.length=43∧get l 1=kv∧get l 22=o.dv∧get l 23=I o.dvs.length∧∃(j:Nat),(n+j=o.dvs.length∧∀q,q<j→woF (iB ks q) (zU (iB o.dvs q).lo (iB o.dvs q).hi)=(0,0))∧get l 24=I j∧St prog H H' [⟨ptr A1 0 4,0,[(.string o.name),o.rv,o.dv,o.cv]⟩]) o.dvs.length ?_ ?_
 ·simp(disch:=omega) only[RB,RC,simprocAttr,hn,g1]
  exact⟨0,⟨by omega,fun q hq=>absurd hq (dL _)⟩,rfl,hS2⟩
 rintro n l H3⟨hn,g1,g22,g23,j,⟨hj,hq⟩,g24,hS3⟩
 simp(disch:=omega) only[↓RA,RB,simprocAttr,hn,g23,g24]
 refine iA (fun h3=> ?_) (fun h3=> ?_)
 ·have hky:=hf.keys j (by omega)
  simp(disch:=omega) only[↓RA,RZ,simprocAttr,hn,g22,g24,(hS3.sl ho.2.2.1).idx,(hS3.sl ho.2.2.1).ag,Dvn.cells,h3]
  refine hS3.eNew 5 [(.string ⟨#[]⟩),(.bool false),I 0,I 0,(.slice none 0 0)] rfl rfl rfl a0X fun A2 H4 hS4=> ?_
  simp only[RT]at hS4
  simp(disch:=omega) only[↓RA,RZ,simprocAttr,hn,h3]
  refine hS4.aa 1 rfl [(.string (iB o.dvs j).name),(.bool (iB o.dvs j).pedal),I (iB o.dvs j).lo,I (iB o.dvs j).hi,(iB o.dvs j).sv] rfl (by simp[OC,(hS4.sl (ho.2.2.2.1 (iB o.dvs j) (iE (by omega))).1).cells.2.1]) a0X (by simp) fun H5 hS5=> ?_
  simp only[RT]at hS5
  simp(disch:=omega) only[↓RA,RZ,simprocAttr,hn,hS5.ag 1 rfl,h3]
  refine hS5.cF (b2n (iB o.dvs j).lo (iB o.dvs j).hi hky.1 hky.2.1 hky.2.2) fun H6 hS6=> ?_
  simp(disch:=omega) only[↓RA,RZ,simprocAttr,hn,h3]
  refine hS6.eNew 2 [(.int .u64 0),(.int .u64 0)] rfl rfl rfl lT fun A3 H7 hS7=> ?_
  simp only[RT]at hS7
  simp(disch:=omega) only[↓RA,RZ,simprocAttr,hn,h3]
  refine hS7.aa 2 rfl [(.int .u64 (zU (iB o.dvs j).lo (iB o.dvs j).hi).1),(.int .u64 (zU (iB o.dvs j).lo (iB o.dvs j).hi).2)] rfl rfl lT (by simp) fun H8 hS8=> ?_
  simp only[RT]at hS8
  simp(disch:=omega) only[↓RA,RZ,simprocAttr,hn,h3]
  refine Wp.drw jZ (by kernel_rfl) ?_
  simp(disch:=omega) only[↓RA,RZ,simprocAttr,hn,g1,(hS8.sl hk.sl).idx,(hS8.sl hk.sl).ag,zI,hS8.ag 2 rfl]
  refine hS8.cF (a2a (iB ks j) (zU (iB o.dvs j).lo (iB o.dvs j).hi)) fun H9 hS9=> ?_
  simp(disch:=omega) only[↓RA,RB,simprocAttr,hn]
  refine jE (fun h4=> ?_) (fun h4=> ?_)
  ·have h5:¬woF (iB ks j) (zU (iB o.dvs j).lo (iB o.dvs j).hi)=(0,0):=by simpa using h4
   simp(disch:=omega) only[↓RA,RB,simprocAttr,hn,b9s,h4]
   exact⟨by unfold pY;rw[if_neg h1,if_neg (by omega),if_pos ⟨j,by omega,h5⟩],hS9.forget⟩
  have h5:woF (iB ks j) (zU (iB o.dvs j).lo (iB o.dvs j).hi)=(0,0):=by simpa using h4
  simp(disch:=omega) only[↓RA,RZ,simprocAttr,hn,g1,g22,g23,g24,h4]
  exact⟨n-1,by omega,j+1,⟨by omega,fun q hq'=>by rcases du.1 hq' with e|e;(· exact hq q e);(· rw[e];exact h5)⟩,by simp,hS9.pick [0] (by decide) rfl⟩
 simp(disch:=omega) only[↓RA,RZ,simprocAttr,hn,b9s,h3]
 refine⟨?_,hS3.forget⟩
 unfold pY
 rw[if_neg h1,if_neg (by omega),if_neg]
 rintro⟨q,hq1,hq2⟩
 exact hq2 (hq q (by omega))
def plD(ks:List Nt)(i:Nat):List Ct:=(a9I (iB ks i)).map fun z=>((i:Int),z)
def iG(ks:List Nt):List Ct:=(List.range ks.length).flatMap (plD ks)
theorem c2b(ks:List Nt)(i:Nat):(plD ks i).length≤128:=by
 unfold plD
 rw[dF]
 exact b5p _
theorem c0c(ks:List Nt):∀i,((List.range i).flatMap (plD ks)).length≤i*128
 | 0=>by simp
 | i+1=>by
   have:=c0c ks i
   have:=c2b ks i
   rw[ez,dN,dh,dK,fB,dr]
   omega
end Go.Ds
namespace Go.Ds
open Go.Proofs
set_option maxRecDepth 10000
def mH(x:Nt)(z:Int):Bool:=if z<64 then x.1.testBit z.toNat else x.2.testBit (z-64).toNat
theorem sA{x i:Nat}:i∈oQ x↔i<64∧x.testBit i=true:=by
 unfold oQ
 rw[eo,dB]
theorem a2N{x:Nt}{z:Int}:z∈a9I x↔isN z∧mH x z=true:=by
 unfold a9I mH isN
 rw[dJ,dy,dy]
 constructor
 ·rintro(⟨i,hi,rfl⟩|⟨i,hi,rfl⟩)
  ·obtain⟨h1,h2⟩:=sA.1 hi
   exact⟨by omega,by rw[if_pos (by omega)];exact h2⟩
  ·obtain⟨h1,h2⟩:=sA.1 hi
   refine⟨by omega,?_⟩
   rw[if_neg (by omega),show(64+(i:Int)-64).toNat=i by omega]
   exact h2
 ·rintro⟨h1,h2⟩
  by_cases h:z<64
  ·rw[if_pos h]at h2
   exact .inl ⟨z.toNat,sA.2 ⟨by omega,h2⟩,by omega⟩
  ·rw[if_neg h]at h2
   exact .inr ⟨(z-64).toNat,sA.2 ⟨by omega,h2⟩,by omega⟩
theorem a1F(x:Nt)(n z:Int)(hn:isN n)(hz:isN z):mH (nX x n) z=(mH x z||decide (z=n)):=by
 unfold mH nX isN at*
 by_cases h1:n<64
 ·rw[if_pos h1]
  by_cases h2:z<64
  ·rw[if_pos h2,if_pos h2,Nat.testBit_or,gK]
   congr 1
   rw[decide_eq_decide]
   omega
  ·rw[if_neg h2,if_neg h2,decide_eq_false (by omega),Bool.or_false]
 ·rw[if_neg h1]
  by_cases h2:z<64
  ·rw[if_pos h2,if_pos h2,decide_eq_false (by omega),Bool.or_false]
  ·rw[if_neg h2,if_neg h2,Nat.testBit_or,gK]
   congr 1
   rw[decide_eq_decide]
   omega
theorem vE(z:Int):mH (0,0) z=false:=by
 unfold mH
 split<;>simp
theorem a4k:∀(xs:List Int)(x:Nt)(z:Int),(∀n∈xs,isN n)→isN z→mH (xs.foldl nX x) z=(mH x z||decide (z∈xs))
 | [],x,z,_,_=>by simp
 | n::xs,x,z,h,hz=>by
   rw[fc,a4k xs _ z (fun y hy=>h y (eB _ hy)) hz,a1F x n z (h n (dU ..)) hz,Bool.or_assoc]
   congr 1
   rw[eG]
   simp
theorem a2i{xs:List Int}{z:Int}(h:∀n∈xs,isN n)(hz:isN z):mH (jD xs) z=decide (z∈xs):=by
 unfold jD
 rw[a4k xs _ z h hz,vE,Bool.false_or]
theorem a2I{lo hi z:Int}(h0:0≤lo)(h2:hi≤127)(hz:isN z):mH (zU lo hi) z=(decide (lo≤z)&&decide (z≤hi)):=by
 unfold zU
 rw[a2i (fun n hn=>by
  obtain⟨k,hk,rfl⟩:=dy.1 hn
  have:=dB.1 hk
  exact⟨by omega,by omega⟩) hz,eG,dc,decide_eq_true_eq,decide_eq_true_eq,decide_eq_true_eq,dy]
 constructor
 ·rintro⟨k,hk,rfl⟩
  have:=dB.1 hk
  omega
 ·rintro⟨h3,h4⟩
  exact⟨(z-lo).toNat,dB.2 (by omega),by omega⟩
theorem b1j{x y:Nt}(hx:Nt.Ok x){z:Int}(hz:isN z):mH (woF x y) z=(mH x z&& !mH y z):=by
 obtain⟨h1,h2⟩:=hz
 unfold mH woF
 by_cases h:z<64
 ·rw[if_pos h,if_pos h,if_pos h,a6C _ _ _ hx.1 (by omega)]
 ·rw[if_neg h,if_neg h,if_neg h,a6C _ _ _ hx.2 (by omega)]
theorem xC{x y:Nt}(hx:Nt.Ok x)(h:woF x y=(0,0)){z:Int}(hz:isN z)(hh:mH x z=true):mH y z=true:=by
 have:=b1j (y:=y) hx hz
 rw[h,vE,hh]at this
 simpa using this.symm
theorem sP{o:Org}{ks:List Nt}(h:pY o ks=0):organE o=0∧ks.length=o.dvs.length∧∀j,j<o.dvs.length→woF (iB ks j) (zU (iB o.dvs j).lo (iB o.dvs j).hi)=(0,0):=by
 unfold pY at h
 split at h
 ·rename_i hh;exact absurd h hh
 rename_i h1
 split at h
 ·omega
 rename_i h2
 split at h
 ·omega
 rename_i h3
 refine⟨dG.1 h1,by omega,fun j hj=> ?_⟩
 by_cases hh:woF (iB ks j) (zU (iB o.dvs j).lo (iB o.dvs j).hi)=(0,0)
 ·exact hh
 ·exact absurd ⟨j,hj,hh⟩ h3
theorem b2R{o:Org}{ks:List Nt}(hok:∀x∈ks,Nt.Ok x)(h:pY o ks=0):∀c∈iG ks,rM o c=true:=by
 obtain⟨h1,h2,h3⟩:=sP h
 have hf:=Org.bg h1
 intro c hc
 unfold iG at hc
 obtain⟨i,hi,hc⟩:=eC.1 hc
 have hi:=dB.1 hi
 unfold plD at hc
 obtain⟨z,hz,rfl⟩:=dy.1 hc
 obtain⟨hz1,hz2⟩:=a2N.1 hz
 have hky:=hf.keys i (by omega)
 have hw:=xC (hok _ (iE hi)) (h3 i (by omega)) hz1 hz2
 rw[a2I hky.1 hky.2.2 hz1]at hw
 simp only[dc,decide_eq_true_eq]at hw
 unfold rM
 simp only[dc,decide_eq_true_eq,fj]
 omega
theorem b1R{o:Org}{ks:List Nt}(h:pY o ks=0):(iG ks).length≤1024:=by
 obtain⟨h1,h2,_⟩:=sP h
 have h8:=(Org.bg h1).dlen
 have:=c0c ks ks.length
 unfold iG
 omega
structure SegsOk(m:Nat)(lo hi:Int)(gs:List Seg):Prop where
 ord:∀i,i<gs.length→(iB gs i).lo≤(iB gs i).hi
 up:∀i,i<gs.length→0<i→(iB gs (i-1)).hi<(iB gs i).lo
 within:∀i,i<gs.length→lo≤(iB gs i).lo∧(iB gs i).hi≤hi
 draws:∀i,i<gs.length→lJ m (iB gs i).draws=0
 len:gs.length≤12
theorem SegsOk.lt{m:Nat}{lo hi:Int}{gs:List Seg}(h:SegsOk m lo hi gs){i:Nat}:∀k,i+1+k<gs.length→(iB gs i).hi<(iB gs (i+1+k)).lo
 | 0,hk=>h.up (i+1) hk (by omega)
 | k+1,hk=>by
   have h1:=h.lt (i:=i) k (by omega)
   have h2:=h.ord (i+1+k) (by omega)
   have h3:=h.up (i+1+(k+1)) hk (by omega)
   rw[show i+1+(k+1)-1=i+1+k by omega]at h3
   omega
theorem SegsOk.one{m:Nat}{lo hi:Int}{gs:List Seg}(h:SegsOk m lo hi gs){key:Int}{i j:Nat}(hi':i<gs.length)(hj:j<gs.length)(h1:(iB gs i).lo≤key∧key≤(iB gs i).hi)(h2:(iB gs j).lo≤key∧key≤(iB gs j).hi):i=j:=by
 rcases Nat.lt_trichotomy i j with e|e|e
 ·have:=h.lt (i:=i) (j-i-1) (by omega)
  rw[show i+1+(j-i-1)=j by omega]at this
  omega
 ·exact e
 ·have:=h.lt (i:=j) (i-j-1) (by omega)
  rw[show j+1+(i-j-1)=i by omega]at this
  omega
def a9y(o:Org)(ks:List Nt)(i:Nat):List Ct:=((List.range ((iB o.dvs i).hi-(iB o.dvs i).lo+1).toNat).filter fun(j:Nat)=>mH (iB ks i) ((iB o.dvs i).lo+(j:Int))).map fun(j:Nat)=>((i:Int),(iB o.dvs i).lo+(j:Int))
def a8D(o:Org)(ks:List Nt):List Ct:=(List.range o.dvs.length).flatMap (a9y o ks)
theorem wM{f:Nat→List Ct}(h1:∀i,(f i).Pairwise ltP)(h2:∀i,∀c∈f i,c.1=(i:Int)):∀n,((List.range n).flatMap f).Pairwise ltP
 | 0=>.nil
 | n+1=>by
   rw[ez,dN,dK,fB,dr,fb]
   refine⟨wM h1 h2 n,h1 n,fun a ha b hb=> ?_⟩
   obtain⟨i,hi,ha⟩:=eC.1 ha
   have hi:=dB.1 hi
   unfold ltP
   rw[h2 i a ha,h2 n b hb]
   omega
theorem b7I(o:Org)(ks:List Nt)(i:Nat):(a9y o ks i).Pairwise ltP:=by
 unfold a9y
 rw[gy]
 refine List.Pairwise.imp ?_ (List.Pairwise.filter _ List.pairwise_lt_range)
 intro a b h
 unfold ltP
 omega
theorem a6c(x:Nt):(a9I x).Pairwise (·<·):=by
 unfold a9I
 rw[fb,gy,gy]
 have h:∀n,(oQ n).Pairwise (·<·):=fun n=>List.Pairwise.filter _ List.pairwise_lt_range
 refine⟨(h _).imp (by intro a b h;omega),(h _).imp (by intro a b h;omega),fun a ha b hb=> ?_⟩
 obtain⟨i,hi,rfl⟩:=dy.1 ha
 obtain⟨j,_,rfl⟩:=dy.1 hb
 have:=(sA.1 hi).1
 omega
theorem c0I(ks:List Nt)(i:Nat):(plD ks i).Pairwise ltP:=by
 unfold plD
 rw[gy]
 exact(a6c _).imp fun h=>.inr ⟨rfl,h⟩
theorem vC(ks:List Nt):(iG ks).Pairwise ltP:=wM (c0I ks) (fun i c hc=>by
 unfold plD at hc
 obtain⟨z,_,rfl⟩:=dy.1 hc
 rfl) _
theorem b7j{o:Org}{ks:List Nt}(hok:∀x∈ks,Nt.Ok x)(h:pY o ks=0):a8D o ks=iG ks:=by
 obtain⟨h1,h2,h3⟩:=sP h
 have hf:=Org.bg h1
 refine a3Z _ _ (wM (b7I o ks) (fun i c hc=>by
  unfold a9y at hc
  obtain⟨z,_,rfl⟩:=dy.1 hc
  rfl) _) (vC ks) fun x=> ?_
 constructor
 ·intro hx
  obtain⟨i,hi,hx⟩:=eC.1 hx
  have hi:=dB.1 hi
  have hk:=hf.keys i hi
  unfold a9y at hx
  obtain⟨z,hz,rfl⟩:=dy.1 hx
  obtain⟨hz1,hz2⟩:=eo.1 hz
  have hz1:=dB.1 hz1
  unfold iG
  refine eC.2 ⟨i,dB.2 (by omega),?_⟩
  unfold plD
  exact dy.2 ⟨_,a2N.2 ⟨⟨by omega,by omega⟩,hz2⟩,rfl⟩
 ·intro hx
  unfold iG at hx
  obtain⟨i,hi,hx⟩:=eC.1 hx
  have hi:=dB.1 hi
  have hk:=hf.keys i (by omega)
  unfold plD at hx
  obtain⟨z,hz,rfl⟩:=dy.1 hx
  obtain⟨hz1,hz2⟩:=a2N.1 hz
  have hw:=xC (hok _ (iE hi)) (h3 i (by omega)) hz1 hz2
  rw[a2I hk.1 hk.2.2 hz1,dc,decide_eq_true_eq,decide_eq_true_eq]at hw
  unfold a8D
  refine eC.2 ⟨i,dB.2 (by omega),?_⟩
  unfold a9y
  refine dy.2 ⟨(z-(iB o.dvs i).lo).toNat,eo.2 ⟨dB.2 (by omega),?_⟩,?_⟩
  ·rw[show(iB o.dvs i).lo+((z-(iB o.dvs i).lo).toNat:Int)=z by omega]
   exact hz2
  ·rw[show(iB o.dvs i).lo+((z-(iB o.dvs i).lo).toNat:Int)=z by omega]
end Go.Ds
namespace Go.Ds
open Go.Proofs
variable {H:Heap}
set_option maxRecDepth 10000
set_option maxHeartbeats 1000000
def rkE(o:Org)(rg:Reg)(ks:List Nt):Int:=if mA o rg≠0 then mA o rg else pY o ks
theorem b5q{o:Org}{rg:Reg}{ks:List Nt}(h:rkE o rg ks=0):mA o rg=0∧pY o ks=0:=by
 unfold rkE at h
 split at h
 ·rename_i hh;exact absurd h hh
 ·rename_i hh;exact⟨dG.1 hh,h⟩
end Go.Ds
namespace Go.Ds
open Go.Proofs Go.Proofs.Tryz
variable {H:Heap}
set_option maxRecDepth 10000
set_option maxHeartbeats 1000000
def a1L(lo:Int)(w m:Nat):List Int:=((List.range m).filter fun j=>w.testBit j).map fun(j:Nat)=>lo+(j:Int)
def vS(lo hi:Int):Nat:=min 16 (hi-lo+1).toNat
def xT(o:Org)(b:Nat→Nat)(i:Nat):Nt:=jD (a1L (iB o.dvs i).lo (b (i%3)) (vS (iB o.dvs i).lo (iB o.dvs i).hi))
def pT(o:Org)(b:Nat→Nat):List Nt:=(List.range o.dvs.length).map (xT o b)
theorem c2u(a b:Nat)(h:a<65536):((a:Nat):Int).fdiv (2^min b (IntKind.bits .u16))=((a>>>b:Nat):Int):=by
 have e:IntKind.bits .u16=16:=rfl
 rw[e]
 have h1:((a:Nat):Int).fdiv (2^min b 16)=((a/2^min b 16:Nat):Int):=by
  rw[Int.fdiv_eq_ediv_of_nonneg _ (by exact Int.le_of_lt (Int.pow_pos (by decide)))]
  simp
 rw[h1,fh]
 by_cases hb:b≤16
 ·rw[ff hb]
 ·rw[Nat.min_eq_right (by omega)]
  have h2:a/2^16=0:=gG (by simpa using h)
  have h3:a/2^b=0:=gG (dO (by simpa using h) (fz (by decide) (show 16≤b by omega)))
  rw[h2,h3]
theorem b7D(n:Nat)(h:n<65536):IntKind.wrap .u16 ((BitVec.ofInt (IntKind.bits .u16) (n:Int)&&&BitVec.ofInt (IntKind.bits .u16) 1).toNat:Int)=((n%2:Nat):Int):=by
 have e:(BitVec.ofInt (IntKind.bits .u16) (n:Int)&&&BitVec.ofInt (IntKind.bits .u16) 1).toNat=n%2:=by
  show(BitVec.ofInt 16 (n:Int)&&&BitVec.ofInt 16 1).toNat=n%2
  rw[ik]
  have h1:(BitVec.ofInt 16 (n:Int)).toNat=n:=by
   rw[fA,gS]
   exact fT (by simpa using h)
  have h2:(BitVec.ofInt 16 1).toNat=1:=rfl
  rw[h1,h2,Nat.and_one_is_mod]
 rw[e]
 have:n%2<2:=eR _ (by decide)
 have hh:n%2=0∨n%2=1:=by omega
 rcases hh with h|h<;>rw[h]<;>rfl
theorem b3Z{a:Nat}(b:Nat)(h:a<65536):a>>>b<65536:=by
 rw[fh]
 exact Nat.lt_of_le_of_lt (Nat.div_le_self _ _) h
theorem b2K(lo:Int)(w m:Nat):a1L lo w (m+1)=a1L lo w m++(if w.testBit m then[lo+(m:Int)]else[]):=by
 unfold a1L
 rw[ez,ew,dA]
 congr 1
 cases h:w.testBit m<;>simp[h]
theorem b5t(lo:Int)(w m:Nat):(a1L lo w m).length≤m:=by
 unfold a1L
 rw[dF]
 exact dI (dS _ _) (by simp)
theorem b8u(lo hi:Int):vS lo hi≤16:=Nat.min_le_left _ _
theorem tV{o:Org}(hf:o.Fine)(w:Nat){i:Nat}(hi:i<o.dvs.length):∀z∈a1L (iB o.dvs i).lo w (vS (iB o.dvs i).lo (iB o.dvs i).hi),isN z∧(iB o.dvs i).lo≤z∧z≤(iB o.dvs i).hi:=by
 intro z hz
 have hk:=hf.keys i hi
 unfold a1L vS at hz
 obtain⟨j,hj,rfl⟩:=dy.1 hz
 have hj:=dB.1 (eo.1 hj).1
 exact⟨⟨by omega,by omega⟩,by omega,by omega⟩
theorem a9b(o:Org)(ho:o.In H)(hf:o.Fine)(b:Nat→Nat)(hb:∀i,b i<65536):
 Fn prog 10 [.agg #[.string o.name,o.rv,o.dv,o.cv],.agg #[.int .u16 (b 0),.int .u16 (b 1),.int .u16 (b 2)]] H fun r H'=>
  St prog H H' [⟨r,2,(pT o b).flatMap zI⟩]:=by
 have hd8:=hf.dlen
 refine .aD func10 rfl (by kernel_rfl) (m:=66) rfl fun l hn g0 g1=> ?_
 simp(disch:=omega) only[↓RA,RB,simprocAttr,g0]
 refine(sR H).eNew 4 [(.string o.name),o.rv,o.dv,o.cv] rfl rfl (by simp[OC,((sR H).sl ho.1).cells.2.1,((sR H).sl ho.2.2.1).cells.2.1,((sR H).sl ho.2.2.2.2.1).cells.2.1]) mV fun A1 H1 hS1=> ?_
 simp only[RT]at hS1
 simp(disch:=omega) only[↓RA,RB,simprocAttr,g1]
 refine hS1.eNew 3 [(.int .u16 (b 0)),(.int .u16 (b 1)),(.int .u16 (b 2))] rfl rfl rfl c2m fun A2 H2 hS2=> ?_
 simp only[RT]at hS2
 simp(disch:=omega) only[↓RA,RB,simprocAttr]
 have hS3:=hS2.nil 1
 simp only[RT]at hS3
 refine Wp.al (fun n l H'=>l.length=66∧get l 2=(ptr A1 0 4)∧get l 3=(ptr A2 0 3)∧get l 4=(.slice none 0 0)∧∃(i:Nat)(kv:Value),(n+i=o.dvs.length)∧get l 6=I i∧get l 5=kv∧St prog H H' [⟨ptr A1 0 4,0,[(.string o.name),o.rv,o.dv,o.cv]⟩,⟨ptr A2 0 3,0,[(.int .u16 (b 0)),(.int .u16 (b 1)),(.int .u16 (b 2))]⟩,⟨kv,2,((List.range i).map (xT o b)).flatMap zI⟩]) o.dvs.length ?_ ?_
 ·simp(disch:=omega) only[RB,RC,simprocAttr,hn]
  exact⟨0,.slice none 0 0,by omega,rfl,rfl,hS3⟩
 rintro n l H3⟨hn,g2,g3,g4,i,kv,hi,g6,g5,hS4⟩
 simp(disch:=omega) only[↓RA,RZ,simprocAttr,hn,g2,g6,hS4.ld 0 rfl,(hS4.sl ho.2.2.1).len]
 refine iA (fun q=> ?_) (fun q=> ?_)
 ·have hk:=hf.keys i (by omega)
  simp(disch:=omega) only[↓RA,RZ,simprocAttr,hn,g2,g6,hS4.ld 0 rfl,(hS4.sl ho.2.2.1).idx,(hS4.sl ho.2.2.1).bh,(hS4.sl ho.2.2.1).cC 2,Dvn.cells,q]
  refine hS4.eNew 2 [I 0,I 0] rfl rfl rfl a3t fun A3 H4 hS5=> ?_
  simp only[RT]at hS5
  simp(disch:=omega) only[↓RA,RZ,simprocAttr,hn,q]
  refine hS5.aa 3 rfl [I (iB o.dvs i).lo,I (iB o.dvs i).hi] rfl rfl a3t (by simp) fun H5 hS6=> ?_
  simp only[RT]at hS6
  simp(disch:=omega) only[↓RA,RZ,simprocAttr,hn,hS6.ld 3 rfl,q]
  have hS7:=hS6.nil 0
  simp only[RT]at hS7
  refine Wp.al (fun n l H'=>l.length=66∧get l 2=(ptr A1 0 4)∧get l 3=(ptr A2 0 3)∧get l 4=(.slice none 0 0)∧get l 5=kv∧get l 6=I i∧get l 8=(ptr A3 0 2)∧∃(m:Nat)(lv:Value),(n+m=vS (iB o.dvs i).lo (iB o.dvs i).hi)∧get l 9=I ((iB o.dvs i).lo+m)∧get l 7=lv∧St prog H H' [⟨ptr A1 0 4,0,[(.string o.name),o.rv,o.dv,o.cv]⟩,⟨ptr A2 0 3,0,[(.int .u16 (b 0)),(.int .u16 (b 1)),(.int .u16 (b 2))]⟩,⟨kv,2,((List.range i).map (xT o b)).flatMap zI⟩,⟨ptr A3 0 2,0,[I (iB o.dvs i).lo,I (iB o.dvs i).hi]⟩,⟨lv,1,(a1L (iB o.dvs i).lo (b (i%3)) m).flatMap (one I)⟩]) (vS (iB o.dvs i).lo (iB o.dvs i).hi) ?_ ?_
  ·simp(disch:=omega) only[RB,RC,simprocAttr,hn,g2,g3,g4,g6,g5]
   exact⟨0,.slice none 0 0,by omega,by simp,rfl,hS7⟩
  rintro n l H6⟨hn,g2,g3,g4,g5,g6,g8,m,lv,hm,g9,g7,hS8⟩
  simp(disch:=omega) only[↓RA,RZ,simprocAttr,hn,g8,g9,hS8.ld 3 rfl]
  have hM:=b8u (iB o.dvs i).lo (iB o.dvs i).hi
  have hi3:(i:Int).tmod 3=((i%3:Nat):Int):=(eK i 3).symm
  have hw:([Value.int .u16 (b 0),.int .u16 (b 1),.int .u16 (b 2)]:List Value)[i%3]? =some (.int .u16 (b (i%3))):=by
   have:i%3=0∨i%3=1∨i%3=2:=by omega
   rcases this with e|e|e<;>rw[e]<;>rfl
  have hsub:(iB o.dvs i).lo+(m:Int)-(iB o.dvs i).lo=(m:Int):=by omega
  have e1:=c2u (b (i%3)) m (hb _)
  have e2:=b7D (b (i%3)>>>m) (b3Z m (hb _))
  have e3:=tb (b (i%3)) m
  have hsu:=b2K (iB o.dvs i).lo (b (i%3)) m
  have hpl:=b5t (iB o.dvs i).lo (b (i%3)) m
  refine kB (fun q1=> ?_) (fun q1=> ?_)
  ·simp(disch:=omega) only[↓RA,RZ,simprocAttr,hn,g8,g9,hS8.ld 3 rfl,q1]
   refine iA (fun q2=> ?_) (fun q2=> ?_)
   ·skip
    simp(disch:=omega) only[↓RA,RC,simprocAttr,q1,q2]
    refine Wp.drw jZ (by kernel_rfl) ?_
    simp(disch:=omega) only[↓RA,RZ,simprocAttr,hn,g3,g6,g8,g9,hS8.ld 1 rfl,hw,hS8.ld 3 rfl,hi3,hsub,e1,e2]
    refine iA (fun q3=> ?_) (fun q3=> ?_)
    ·rw[e3,decide_eq_true (by omega),if_pos rfl]at hsu
     simp(disch:=omega) only[↓RA,RZ,simprocAttr,hn,g9,g7,q3]
     refine hS8.ai [I ((iB o.dvs i).lo+m)] a3d a6j rfl rfl (by simp[Value.cells]) rfl rfl (by decide) (by decide) fun w1 H7 hS9=> ?_
     simp only[RT]at hS9
     simp(disch:=omega) only[↓RA,RZ,simprocAttr,hn,q3]
     refine hS9.aq 4 rfl (hS9.rd 5 rfl) a3d (by rw[iL (n:=1) (cel:=one I) (fun _=>rfl)];simp;omega) fun w2 H8 hS10=> ?_
     simp only[RT]at hS10
     simp(disch:=omega) only[↓RA,RZ,simprocAttr,hn,g2,g3,g4,g5,g6,g8,g9,q3]
     refine⟨n-1,by unfold vS at hm;omega,m+1,w2,by unfold vS at hm ⊢;omega,by simp;omega,rfl,?_⟩
     rw[hsu,dN]
     exact hS10.pick [0,1,2,3,4] (by decide) rfl
    rw[e3,decide_eq_false (by omega),if_neg (by simp),dr]at hsu
    simp(disch:=omega) only[↓RA,RZ,simprocAttr,hn,g2,g3,g4,g5,g6,g8,g9,g7,q3]
    refine⟨n-1,by unfold vS at hm;omega,m+1,lv,by unfold vS at hm ⊢;omega,by simp;omega,rfl,?_⟩
    rw[hsu]
    exact hS8.pick [0,1,2,3,4] (by decide) rfl
   have hmM:m=vS (iB o.dvs i).lo (iB o.dvs i).hi:=by unfold vS at hm hM ⊢;omega
   have hz:=tV hf (b (i%3)) (show i<o.dvs.length by omega)
   subst hmM
   simp(disch:=omega) only[↓RA,RZ,simprocAttr,hn,g7,q1,q2]
   refine hS8.cF (wJ (a1L (iB o.dvs i).lo (b (i%3)) (vS (iB o.dvs i).lo (iB o.dvs i).hi)) (fun z h=>(hz z h).1) lv (hS8.av 4 rfl (sT _)) (by omega)) fun H9 hS11=> ?_
   simp(disch:=omega) only[↓RA,RZ,simprocAttr,hn,q1,q2]
   refine hS11.eNew 2 [(.int .u64 0),(.int .u64 0)] rfl rfl rfl lT fun A4 H10 hS12=> ?_
   simp only[RT]at hS12
   simp(disch:=omega) only[↓RA,RZ,simprocAttr,hn,q1,q2]
   refine hS12.aa 5 rfl [(.int .u64 (xT o b i).1),(.int .u64 (xT o b i).2)] rfl rfl lT (by simp) fun H11 hS13=> ?_
   simp only[RT]at hS13
   simp(disch:=omega) only[↓RA,RZ,simprocAttr,hn,g5,hS13.ag 5 rfl,q1,q2]
   refine hS13.ai [(.int .u64 (xT o b i).1),(.int .u64 (xT o b i).2)] b9u c4t rfl rfl (by simp[Value.cells]) rfl rfl (by decide) (by decide) fun w3 H12 hS14=> ?_
   simp only[RT]at hS14
   simp(disch:=omega) only[↓RA,RZ,simprocAttr,hn,q1,q2]
   refine hS14.aq 2 rfl (hS14.rd 6 rfl) b9u (by rw[iL (n:=2) (cel:=zI) (fun _=>rfl)];simp;omega) fun w4 H13 hS15=> ?_
   simp only[RT]at hS15
   simp(disch:=omega) only[↓RA,RZ,simprocAttr,hn,g2,g3,g4,g6,q1,q2]
   refine⟨o.dvs.length-(i+1),by omega,i+1,w4,by omega,by simp,rfl,?_⟩
   rw[ez,dA,dN]
   exact hS15.pick [0,1,2] (by decide) rfl
  have hmM:m=vS (iB o.dvs i).lo (iB o.dvs i).hi:=by unfold vS at hm hM ⊢;omega
  have hz:=tV hf (b (i%3)) (show i<o.dvs.length by omega)
  subst hmM
  simp(disch:=omega) only[↓RA,RZ,simprocAttr,hn,g7,q1]
  refine hS8.cF (wJ (a1L (iB o.dvs i).lo (b (i%3)) (vS (iB o.dvs i).lo (iB o.dvs i).hi)) (fun z h=>(hz z h).1) lv (hS8.av 4 rfl (sT _)) (by omega)) fun H14 hS16=> ?_
  simp(disch:=omega) only[↓RA,RZ,simprocAttr,hn,q1]
  refine hS16.eNew 2 [(.int .u64 0),(.int .u64 0)] rfl rfl rfl lT fun A5 H15 hS17=> ?_
  simp only[RT]at hS17
  simp(disch:=omega) only[↓RA,RZ,simprocAttr,hn,q1]
  refine hS17.aa 5 rfl [(.int .u64 (xT o b i).1),(.int .u64 (xT o b i).2)] rfl rfl lT (by simp) fun H16 hS18=> ?_
  simp only[RT]at hS18
  simp(disch:=omega) only[↓RA,RZ,simprocAttr,hn,g5,hS18.ag 5 rfl,q1]
  refine hS18.ai [(.int .u64 (xT o b i).1),(.int .u64 (xT o b i).2)] b9u c4t rfl rfl (by simp[Value.cells]) rfl rfl (by decide) (by decide) fun w5 H17 hS19=> ?_
  simp only[RT]at hS19
  simp(disch:=omega) only[↓RA,RZ,simprocAttr,hn,q1]
  refine hS19.aq 2 rfl (hS19.rd 6 rfl) b9u (by rw[iL (n:=2) (cel:=zI) (fun _=>rfl)];simp;omega) fun w6 H18 hS20=> ?_
  simp only[RT]at hS20
  simp(disch:=omega) only[↓RA,RZ,simprocAttr,hn,g2,g3,g4,g6,q1]
  refine⟨o.dvs.length-(i+1),by omega,i+1,w6,by omega,by simp,rfl,?_⟩
  rw[ez,dA,dN]
  exact hS20.pick [0,1,2] (by decide) rfl
 simp(disch:=omega) only[↓RA,RZ,simprocAttr,hn,g5,c6e,q]
 have hii:i=o.dvs.length:=by omega
 subst hii
 exact hS4.pick [2] (by decide) rfl
theorem sX(o:Org)(b:Nat→Nat):(pT o b).length=o.dvs.length:=by simp[pT]
theorem a5o{o:Org}{b:Nat→Nat}{i:Nat}(hi:i<o.dvs.length):iB (pT o b) i=xT o b i:=by
 rw[jR _ i (by rw[sX];exact hi)]
 simp[pT]
theorem b0m{o:Org}(hf:o.Fine)(b:Nat→Nat){i:Nat}(hi:i<o.dvs.length):Nt.Ok (xT o b i):=oU _ _ (fun z h=>(tV hf (b (i%3)) hi z h).1) ⟨by decide,by decide⟩
theorem a6q{o:Org}(hf:o.Fine)(b:Nat→Nat):∀x∈pT o b,Nt.Ok x:=by
 intro x hx
 obtain⟨i,hi,rfl⟩:=dy.1 hx
 exact b0m hf b (dB.1 hi)
theorem a6g{x y:Nt}(hx:Nt.Ok x)(h:∀z,isN z→mH x z=true→mH y z=true):woF x y=(0,0):=by
 have k:∀z,isN z→mH (woF x y) z=false:=fun z hz=>by
  rw[b1j hx hz]
  cases e:mH x z with
  | false=>rfl
  | true=>rw[h z hz e];rfl
 have big:∀a:Nat,a<18446744073709551616→∀j,64≤j→a.testBit j=false:=fun a ha j hj=>
  Nat.testBit_lt_two_pow (dO (show a<2^64 from ha) (fz (by decide) hj))
 obtain⟨h1,h2⟩:=c0r x y
 apply gz
 ·apply Nat.eq_of_testBit_eq
  intro j
  rw[Nat.zero_testBit]
  by_cases hj:64≤j
  ·exact big _ h1 j hj
  ·have:=k (j:Int) ⟨by omega,by omega⟩
   unfold mH at this
   rw[if_pos (by omega)]at this
   exact this
 ·apply Nat.eq_of_testBit_eq
  intro j
  rw[Nat.zero_testBit]
  by_cases hj:64≤j
  ·exact big _ h2 j hj
  ·have:=k (64+j:Int) ⟨by omega,by omega⟩
   unfold mH at this
   rw[if_neg (by omega),show(64+(j:Int)-64).toNat=j by omega]at this
   exact this
theorem a9W{o:Org}(h0:organE o=0)(b:Nat→Nat):pY o (pT o b)=0:=by
 have hf:=Org.bg h0
 unfold pY
 rw[if_neg (by rw[h0];simp),if_neg (by rw[sX];simp),if_neg]
 rintro⟨j,hj,hne⟩
 apply hne
 have hk:=hf.keys j hj
 rw[a5o hj]
 refine a6g (b0m hf b hj) fun z hz hh=> ?_
 rw[xT,a2i (fun n hn=>(tV hf (b (j%3)) hj n hn).1) hz]at hh
 have:=tV hf (b (j%3)) hj z (of_decide_eq_true hh)
 rw[a2I hk.1 hk.2.2 hz,decide_eq_true this.2.1,decide_eq_true this.2.2]
 rfl
end Go.Ds
namespace Go.Ds
open Go.Proofs
set_option maxRecDepth 10000
theorem Star.mono{α:Type}{R R':α→α→Prop}(h:∀a b,R a b→R' a b){a b:α}(hs:Star R a b):Star R' a b:=by
 induction hs with
 | refl=>exact .refl _
 | tail _ h2 ih=>exact .tail ih (h _ _ h2)
end Go.Ds
namespace Go.Ds
open Go.Proofs Go.Shelf Go.RowKit Go.Lib Go.Sort
def sm(x:Int×Int):Prop:=-1000000000≤x.1∧x.1≤1000000000∧-1000000000≤x.2∧x.2≤1000000000
abbrev Sm:={x:Int×Int//sm x}
instance:Inhabited Sm:=⟨⟨(0,0),by unfold sm;decide⟩⟩
section
variable {H:Heap}
end
end Go.Ds
namespace Go.Ds
open Go.Proofs
variable {H:Heap}
set_option maxRecDepth 10000
set_option maxHeartbeats 1000000
end Go.Ds
namespace Go.Ds
open Go.Proofs Go.Shelf Go.RowKit Go.Lib Go.Sort
section
variable {H:Heap}
end
end Go.Ds
namespace Go.Ds
open Go.Proofs
variable {H:Heap}
set_option maxRecDepth 10000
set_option maxHeartbeats 1000000
end Go.Ds
namespace Go.Ds
open Go.Proofs Go.Proofs.Tryz
variable {H:Heap}
set_option maxRecDepth 10000
set_option maxHeartbeats 1000000
theorem b4L(v:Value)(xs:List Ct)(hv:Sl 2 jS H v xs)(hl:xs.length<1000000000)(k:FuncId)(caps:List Value)(p:Nat→Bool)
 (hf:∀j H1,j<xs.length→St prog H H1 []→Fn prog k (.agg #[I (iB xs j).1,I (iB xs j).2]::caps) H1 fun r H2=>r=.bool (p j)∧St prog H1 H2 []):
 Fn prog 78 [v,.func (.func k) #[] caps.toArray] H fun r H'=>r=I (mZ p xs.length)∧St prog H H' []:=by
 refine .aD func78 rfl (by kernel_rfl) (m:=19) rfl fun l hn g0 g1=> ?_
 simp(disch:=omega) only[↓RA,RZ,simprocAttr,hn,g0,((sR H).sl hv).len]
 refine Wp.al (fun n l H'=>l.length=19∧get l 0=v∧get l 1=.func (.func k) #[] caps.toArray∧get l 7=I xs.length∧∃(j:Nat),(n+j=xs.length∧∀q,q<j→p q=false)∧get l 8=I j∧St prog H H' []) xs.length ?_ ?_
 ·simp(disch:=omega) only[RB,RC,simprocAttr,hn,g0,g1]
  exact⟨0,⟨by omega,fun q hq=>absurd hq (dL _)⟩,rfl,(sR H)⟩
 rintro n l H1⟨hn,g0,g1,g7,j,⟨hi,h0⟩,g8,hS1⟩
 simp(disch:=omega) only[↓RA,RB,simprocAttr,hn,g7,g8]
 refine iA (fun h=> ?_) (fun h=> ?_)
 ·simp(disch:=omega) only[↓RA,RZ,simprocAttr,hn,g0,g1,g8,(hS1.sl hv).idx,(hS1.sl hv).ag,jS,h]
  refine hS1.cF (hf j _ (by omega) hS1) fun H2 hS2=> ?_
  simp(disch:=omega) only[↓RA,RZ,simprocAttr,hn,h]
  refine jE (fun hp=> ?_) (fun hp=> ?_)
  ·simp(disch:=omega) only[↓RA,RZ,simprocAttr,hn,c3D,h,hp]
   exact⟨by rw[vK p xs.length j (by omega) hp h0],hS2⟩
  simp(disch:=omega) only[↓RA,RZ,simprocAttr,hn,g0,g1,g7,g8,h,hp]
  exact⟨n-1,by omega,j+1,⟨by omega,fun q hq=>by rcases du.1 hq with e|e;(· exact h0 q e);(· rw[e];exact hp)⟩,by simp,hS2⟩
 simp(disch:=omega) only[↓RA,RZ,simprocAttr,hn,c3D,h]
 exact⟨by rw[vD p xs.length fun q hq=>h0 q (by omega)],hS1⟩
theorem c3t:a3E prog 57=some (1+1):=by kernel_rfl
structure Frs{α:Type}(n:Nat)(cel:α→List Value)(H:Heap)(v:Value)(xs:List α)(tl:List Value)(L:Nat):Prop where
 rd:RdAt H v n (xs.flatMap cel++tl)
 hc:∀x,(cel x).length=n
 pos:0<n
 hL:L=xs.length
theorem oJ(v:Value)(n lo k j f:Nat):jO (kU v n lo k) n j f=jO v n (lo+j) f:=by
 unfold kU
 split
 ·simp only[jO,Value.pointer.injEq,dE,Addr.mk.injEq,true_and,and_true]
  rw[eY]
  omega
 ·rename_i h
  unfold jO
  split
  ·exact absurd rfl (h _ _ _ _ _)
  ·rfl
theorem a0y(v:Value)(n lo k lo2 k2:Nat):kU (kU v n lo k) n lo2 k2=kU v n (lo+lo2) k2:=by
 cases v with
 | slice a m c=>
   cases a with
   | none=>rfl
   | some a=>
     obtain⟨A,i,e⟩:=a
     simp only[kU,Value.slice.injEq,dE,Addr.mk.injEq,true_and,and_true]
     rw[eY]
     omega
 | _=>rfl
section
variable {P:Program} {α:Type} {n:Nat} {cel:α→List Value} {v:Value} {xs:List α} {tl:List Value} {L:Nat}
theorem Frs.sl(h:Frs n cel H v xs tl L):Sl n cel H (kU v n 0 L) xs:=by
 refine⟨?_,h.hc,h.pos⟩
 have hl:=iL h.hc xs
 rw[h.hL]
 by_cases h0:xs.flatMap cel++tl=[]
 ·have hx:xs.length=0:=by
   have:=congrArg List.length h0
   rw[dh,hl,ey]at this
   have h2:xs.length*n=0:=by omega
   rcases Nat.mul_eq_zero.1 h2 with h3|h3
   ·exact h3
   ·have:=h.pos;omega
  obtain rfl:=fx.1 hx
  have hr:=h.rd
  rw[h0]at hr
  obtain⟨m,rfl⟩:∃m,n=m+1:=⟨n-1,by have:=h.pos;omega⟩
  have e:=RdAt.sub_self (n:=0) hr (by simp)
  show RdAt H (kU v (m+1) 0 0) (m+1) []
  rw[e]
  exact hr
 ·have h5:=RdAt.sub h.rd 0 xs.length (by rw[dh,hl];omega) h0
  rw[Nat.zero_mul,gY,←hl,List.take_left' rfl]at h5
  exact h5
theorem Frs.len(h:Frs n cel H v xs tl L)(m:Nat)(t:TypeId):a7W (some m) P H t (kU v n 0 L)=some (.int .i64 L):=by
 rw[h.sl.len m t,h.hL]
theorem Frs.idx(h:Frs n cel H v xs tl L)(t:TypeId)(k:IntKind)(j:Int)(h0:0≤j)(h1:j<xs.length):a0Y (some n) P t (kU v n 0 L) (.int k j)=some (jO v n j.toNat 0):=by
 rw[h.sl.idx t k j h0 h1,oJ,fg]
theorem Frs.bh(h:Frs n cel H v xs tl L)(j:Nat)(hj:j<xs.length)(g d:Nat):a7y (some d) (jO v n j g)=some (jO v n j (g+d)):=by
 have:=h.sl.bh j hj g d
 rwa [oJ,oJ,fg]at this
theorem Frs.ld[Inhabited α](h:Frs n cel H v xs tl L)(s:Option Nat)(j f:Nat)(hj:j<xs.length)(hf:f<n):oF (some false) s H (jO v n j f)=(cel (iB xs j))[f]?:=by
 have:=h.sl.ld s j f hj hf
 rwa [oJ,fg]at this
theorem Frs.ag[Inhabited α](h:Frs n cel H v xs tl L)(j:Nat)(hj:j<xs.length):oF (some true) (some n) H (jO v n j 0)=some (.agg (cel (iB xs j)).toArray):=by
 have:=h.sl.ag j hj
 rwa [oJ,fg]at this
theorem Frs.aL(h:Frs n cel H v xs tl L)(o:Oper)(l:List Value)(H':Heap)(k:IntKind)(a:Int)(K:Value→Heap→Prop)(h0:0<xs.length)(h1:0≤a)(h2:a≤xs.length):
 nN P o l H' (some n) (kU v n 0 L) (some (.int k a)) none K=nY (kU v n a.toNat (L-a).toNat) fun v=>K v H':=by
 rw[h.sl.aL o l H' k a K h0 h1 h2,a0y,fg,h.hL]
theorem Frs.aM(h:Frs n cel H v xs tl L)(o:Oper)(l:List Value)(H':Heap)(k:IntKind)(a:Int)(K:Value→Heap→Prop)(h0:0<xs.length)(h1:0≤a)(h2:a≤xs.length):
 nN P o l H' (some n) (kU v n 0 L) none (some (.int k a)) K=nY (kU v n 0 a.toNat) fun v=>K v H':=by
 rw[h.sl.aM o l H' k a K h0 h1 h2,a0y,fg]
theorem Frs.cells(h:Frs n cel H v xs tl L):(kU v n 0 L).cells=#[kU v n 0 L]∧oneCell (kU v n 0 L)=true∧nO (kU v n 0 L)=true:=h.sl.cells
theorem St.bZ{B:Base}{os:List Ob}(hS:St P B H os)(i:Nat){m:Nat}(ho:os[i]? =some ⟨v,m+1,xs.flatMap cel++tl⟩)(hc:∀x,(cel x).length=m+1)(hL:L=xs.length):Frs (m+1) cel H v xs tl L:=⟨hS.rd i ho,hc,fH _,hL⟩
end
theorem c3Q{B:Base}{v:Value}{xs:List Ct}{tl:List Value}(hS:St prog B H [⟨v,2,pr xs++tl⟩])(hl:xs.length<100000000)(k:FuncId)(caps:List Value)(p:Ct→Bool)
 (hf:∀c∈xs,∀{H1:Heap}{os:List Ob},St prog B H1 os→Fn prog k (.agg #[I c.1,I c.2]::caps) H1 fun r H2=>r=.bool (p c)∧St prog H1 H2 []):
 Fn prog 41 [kU v 2 0 xs.length,.func (.func k) #[] caps.toArray] H fun r H'=>∃rest:List Value,r=kU v 2 0 (xs.filter fun c=> !p c).length∧St prog B H' [⟨v,2,pr (xs.filter fun c=> !p c)++rest⟩]:=by
 refine .aD func41 rfl (by kernel_rfl) (m:=42) rfl fun l hn g0 g1=> ?_
 simp(disch:=omega) only[↓RA,RZ,simprocAttr,hn,g0,g1]
 refine hS.cF (b4L (kU v 2 0 xs.length) xs ((hS.bZ (cel:=jS) (xs:=xs) 0 rfl (fun _=>rfl) rfl).sl) (by omega) k caps (fun j=>p (iB xs j)) (fun j H1 hj hS'=>hf _ (iE hj) (hS.trans hS'))) fun H1 hS1=> ?_
 simp(disch:=omega) only[↓RA,RB,simprocAttr,hn]
 refine iA (fun h1=> ?_) (fun h1=> ?_)
 ·have hno:∀c∈xs,p c=false:=by
   intro c hc
   obtain⟨j,hj,rfl⟩:=dR.1 hc
   have h2:¬0≤mZ (fun j=>p (iB xs j)) xs.length:=by omega
   rw[yU]at h2
   rw[←jR xs j hj,←eM]
   exact fun hp=>h2 ⟨j,hj,hp⟩
  have hfe:(xs.filter fun c=> !p c)=xs:=gL.2 fun c hc=>by rw[hno c hc];rfl
  simp(disch:=omega) only[↓RA,RZ,simprocAttr,hn,g0,c2L,h1]
  exact⟨tl,by rw[hfe],by rw[hfe];exact hS1⟩
 have hge:0≤mZ (fun j=>p (iB xs j)) xs.length:=by
  unfold mZ at h1 ⊢
  split
  ·omega
  ·rename_i hq
   rw[hq]at h1
   exact absurd rfl h1
 obtain⟨i0,hi0⟩:∃i0:Nat,mZ (fun j=>p (iB xs j)) xs.length=i0:=⟨_,(fi hge).symm⟩
 have hi0l:=zC hi0
 have hi0b:(∀j,j<i0→p (iB xs j)=false)∧p (iB xs i0)=true:=by
  unfold mZ at hi0
  split at hi0
  ·rename_i q hq
   have hqi:q=i0:=by omega
   subst hqi
   rw[List.find?_range_eq_some]at hq
   exact⟨fun j hj=>by have:=hq.2.2 j hj;simpa using this,hq.1⟩
  ·omega
 have hD0:((xs.take (i0+1)).filter fun c=> !p c)=xs.take i0:=by
  rw[kJ xs i0 hi0l,ew]
  have e1:([iB xs i0].filter fun c=> !p c)=[]:=by simp[hi0b.2]
  rw[e1,dr]
  refine gL.2 fun c hc=> ?_
  obtain⟨j,hj,rfl⟩:=dR.1 hc
  have hj2:j<i0:=by rw[eI]at hj;omega
  have:=hi0b.1 j hj2
  rw[jR xs j (by omega)]at this
  rw[List.getElem_take,this]
  rfl
 simp(disch:=omega) only[↓RA,RZ,simprocAttr,hn,hi0]
 have hrow:St prog B H1 [⟨v,2,pr (((xs.take (i0+1)).filter fun c=> !p c)++xs.drop ((xs.take (i0+1)).filter fun c=> !p c).length)++tl⟩]:=by
  rw[hD0,eI,ff (by omega),fL]
  exact hS1
 have hlt0:((xs.take (i0+1)).filter fun c=> !p c).length<i0+1:=by
  rw[hD0,eI]
  omega
 refine Wp.al (fun n l H'=>l.length=42∧get l 0=kU v 2 0 xs.length∧get l 1=.func (.func k) #[] caps.toArray∧∃j:Nat,(n+j=xs.length∧((xs.take j).filter fun c=> !p c).length<j)∧get l 5=I ((xs.take j).filter fun c=> !p c).length∧get l 6=I j∧St prog B H' [⟨v,2,pr (((xs.take j).filter fun c=> !p c)++xs.drop ((xs.take j).filter fun c=> !p c).length)++tl⟩]) (xs.length-(i0+1)) ?_ ?_
 ·simp(disch:=omega) only[RB,RC,simprocAttr,hn,g0,g1]
  refine⟨i0+1,⟨by omega,hlt0⟩,?_,by simp,hrow⟩
  rw[hD0,eI,ff (by omega)]
 clear hrow hlt0
 rintro n l H9⟨hn,g0,g1,j,⟨hj,hlt⟩,g5,g6,hS9⟩
 have hsucc:j<xs.length→((xs.take (j+1)).filter fun c=> !p c)=((xs.take j).filter fun c=> !p c)++(if p (iB xs j)=true then[]else[iB xs j]):=fun h=>by
  rw[kJ xs j h,ew]
  congr 1
  by_cases hp:p (iB xs j)=true
  ·rw[if_pos hp];simp[hp]
  ·rw[if_neg hp];simp[hp]
 have hall:j=xs.length→((xs.take j).filter fun c=> !p c)=xs.filter fun c=> !p c:=fun h=>by rw[h,ek]
 generalize hD:((xs.take j).filter fun c=> !p c)=D at g5 hlt hS9 hsucc hall
 have hjl:j≤xs.length:=by omega
 have hrl:(D++xs.drop D.length).length=xs.length:=by rw[dh,eD];omega
 have hat:∀q,D.length≤q→iB (D++xs.drop D.length) q=iB xs q:=fun q hq=>by
  unfold iB
  rw[dg,dZ hq,dH,dg]
  congr 2;omega
 have hatj:=hat j (by omega)
 simp(disch:=omega) only[↓RA,RZ,simprocAttr,hn,g0,g6,(hS9.bZ (cel:=jS) (xs:=D++xs.drop D.length) (L:=xs.length) 0 rfl (fun _=>rfl) hrl.symm).len]
 refine iA (fun h4=> ?_) (fun h4=> ?_)
 ·have hjx:j<xs.length:=by omega
  have hsu:=hsucc hjx
  simp(disch:=omega) only[↓RA,RZ,simprocAttr,hn,g0,g6,(hS9.bZ (cel:=jS) (xs:=D++xs.drop D.length) (L:=xs.length) 0 rfl (fun _=>rfl) hrl.symm).idx,(hS9.bZ (cel:=jS) (xs:=D++xs.drop D.length) (L:=xs.length) 0 rfl (fun _=>rfl) hrl.symm).ag,jS,hatj,h4]
  refine hS9.eNew 2 [I 0,I 0] rfl rfl rfl rB fun A1 H2 hS2=> ?_
  simp only[RT]at hS2
  simp(disch:=omega) only[↓RA,RZ,simprocAttr,hn,h4]
  refine hS2.aa 1 rfl [I (iB xs j).1,I (iB xs j).2] rfl rfl rB (by simp) fun H3 hS3=> ?_
  simp only[RT]at hS3
  simp(disch:=omega) only[↓RA,RZ,simprocAttr,hn,g1,hS3.ag 1 rfl,h4]
  refine hS3.cF (hf (iB xs j) (iE hjx) hS3) fun H4 hS4=> ?_
  simp(disch:=omega) only[↓RA,RZ,simprocAttr,hn,h4]
  refine jE (fun h5=> ?_) (fun h5=> ?_)
  ·have hpf:¬p (iB xs j)=true:=by simpa using h5
   rw[if_neg hpf]at hsu
   simp(disch:=omega) only[↓RA,RZ,simprocAttr,hn,g0,g5,hS4.ag 1 rfl,(hS4.bZ (cel:=jS) (xs:=D++xs.drop D.length) (L:=xs.length) 0 rfl (fun _=>rfl) hrl.symm).idx,h4,h5]
   refine hS4.aR 0 rfl [I (iB xs j).1,I (iB xs j).2] rfl rfl rB (by simp) (by rw[dh,iF,hrl];simp;omega) fun H5 hS5=> ?_
   simp only[RT]at hS5
   simp(disch:=omega) only[↓RA,RZ,simprocAttr,hn,g0,g1,g5,g6,h4,h5]
   refine⟨n-1,by omega,j+1,?_⟩
   rw[hsu]
   refine⟨⟨by omega,by simp;omega⟩,by simp,by simp,?_⟩
   have e3:pr (D++[iB xs j]++xs.drop (D++[iB xs j]).length)++tl=((pr (D++xs.drop D.length)++tl).set (D.length*2) (I (iB xs j).1)).set (D.length*2+1) (I (iB xs j).2):=by
    have hx:xs.drop D.length=iB xs D.length::xs.drop (D.length+1):=by
     rw[jR xs _ (by omega)]
     exact eQ (by omega)
    rw[hx,dh,gp,jN,jN,jN]
    have e4:pr (iB xs D.length::xs.drop (D.length+1))=I (iB xs D.length).1::I (iB xs D.length).2::pr (xs.drop (D.length+1)):=rfl
    have e5:pr [iB xs j]=[I (iB xs j).1,I (iB xs j).2]:=rfl
    have e6:(pr D).length=D.length*2:=iF D
    rw[e4,e5,show pr D++(I (iB xs D.length).1::I (iB xs D.length).2::pr (xs.drop (D.length+1)))++tl=pr D++(I (iB xs D.length).1::I (iB xs D.length).2::(pr (xs.drop (D.length+1))++tl))from by simp,dX _ _ (by omega),dX _ _ (by omega),e6,gF,fy]
    simp
   rw[e3]
   exact hS5.pick [0] (by decide) rfl
  have hpt:p (iB xs j)=true:=by simpa using h5
  rw[if_pos hpt,dr]at hsu
  simp(disch:=omega) only[↓RA,RZ,simprocAttr,hn,g0,g1,g5,g6,h4,h5]
  refine⟨n-1,by omega,j+1,?_⟩
  rw[hsu]
  exact⟨⟨by omega,by omega⟩,rfl,by simp,hS4.pick [0] (by decide) rfl⟩
 have hje:j=xs.length:=by omega
 have hDe:=hall hje
 have hcl:(pr (D++xs.drop D.length)++tl).length=xs.length*(1+1)+tl.length:=by rw[dh,iF,hrl]
 have hDn:D.length≤xs.length:=by omega
 simp(disch:=omega) only[↓RA,RZ,simprocAttr,hn,g0,g5,(hS9.bZ (cel:=jS) (xs:=D++xs.drop D.length) (L:=xs.length) 0 rfl (fun _=>rfl) hrl.symm).aL,h4]
 rw[show((xs.length:Int)-D.length).toNat=xs.length-D.length from by omega]
 refine hS9.bq (size:=1) 0 rfl D.length (xs.length-D.length) (by rw[hcl];omega) (by
  intro e
  have h2:(pr (D++xs.drop D.length)++tl).length=0:=by rw[e];rfl
  rw[hcl]at h2;omega) c3t fun z H3 hz hSc=> ?_
 simp only[RT]at hSc
 have e3:iZ (pr (D++xs.drop D.length)++tl) (D.length*2) z=pr D++(z++tl):=by
  rw[jN,dD,show D.length*2=(pr D).length from(iF D).symm,mC z (pr D) (pr (xs.drop D.length)++tl) (by rw[dh,iF,eD];omega),show z.length=(pr (xs.drop D.length)).length from by rw[hz,iF,eD],List.drop_left,dD]
 rw[show D.length*(1+1)=D.length*2 from rfl,e3]at hSc
 have hwl:(pr D++z).length=xs.length*(1+1):=by rw[dh,iF,hz];omega
 have hw:RdAt H3 (kU v (1+1) 0 xs.length) (1+1) (pr D++z):=by
  have h5:=RdAt.sub (hSc.rd 0 rfl) 0 xs.length (by rw[←dD,dh,hwl];omega) (by
   intro e
   have h2:=congrArg List.length e
   rw[←dD,dh,hwl,ey]at h2
   omega)
  rw[Nat.zero_mul,gY,←dD,←hwl,List.take_left' rfl]at h5
  exact h5
 have hsl9:=fun o l H' k a K h0 h1 h2=>(hw.aM (P:=prog) hwl o l H' k a K h0 h1 h2).trans (by rw[a0y,fg])
 simp(disch:=omega) only[↓RA,RZ,simprocAttr,hn,g0,g5,hsl9,c2L,h4]
 exact⟨z++tl,by rw[←hDe],by rw[←hDe];exact hSc⟩
end Go.Ds
namespace Go.Ds
open Go
section
variable {P:Program} {H:Heap}
theorem SWr.mono:∀(c:Code){l:List Value}{H:Heap}{M Q:nK},(∀e l H,M e l H→Q e l H)→SWr P c l H M→SWr P c l H Q:=by
 intro c
 induction c with
 | skip=>intro l H M Q hm h;exact hm _ _ _ h
 | label t=>intro l H M Q hm h;exact hm _ _ _ h
 | exit id=>intro l H M Q hm h;exact hm _ _ _ h
 | ret=>intro l H M Q hm h;exact hm _ _ _ h
 | seq a b iha ihb=>
   intro l H M Q hm h
   refine iha ?_ h
   intro e l1 H1 h1
   cases e with
   | normal=>exact ihb hm h1
   | exit i=>exact hm _ _ _ h1
   | ret=>exact hm _ _ _ h1
 | block id b ih=>
   intro l H M Q hm h
   exact ih (fun e l1 H1 h1=>hm _ _ _ h1) h
 | cond c x y ihx ihy=>
   intro l H M Q hm h
   cases c with
   | tmp t=>exact a2l h (ihx hm) (ihy hm)
   | _=>exact Wp.mono h hm
 | region id ops d=>
   intro l H M Q hm h
   cases d with
   | true=>exact Wp.mono h hm
   | false=>exact a0t (fun l H h=>hm _ _ _ h) _ _ _ h
 | _=>intro l H M Q hm h;exact Wp.mono h hm
end
end Go.Ds
namespace Go.Ds
noncomputable section
variable {P:Program} {H0:Base} {H:Heap} {os:List Ob} {κ β:Type} [DecidableEq κ] {enc:κ→Value} {f:β→Value} {z:Value} {t:TypeId}
theorem St.ba{o:Ob}(h:OwnAt P H o):St P ⟨H,pG [o]⟩ H [o] where
 len:=dm _
 old:=fun _ _ _=>rfl
 own:=fun x hx=>by rw[dC.1 hx];exact h
 new:=fun x hx B hB=>.inr ⟨x,hx,hB⟩
 sep:=List.pairwise_singleton _ _
theorem OwnAt.st{H0:Heap}{o:Ob}(h:OwnAt P H0 o)(hS:St P H0 H os):OwnAt P H o:=h.ab fun B hB=>hS.ab B (h.lt hB)
theorem b1Z(kvs:List (κ×β))(k k2:κ)(b:β)(h:pS kvs k=none):pS (kvs++[(k,b)]) k2=if k2=k then some b else pS kvs k2:=by
 unfold pS at h ⊢
 rw[List.find?_append]
 by_cases hk:k2=k
 ·subst hk
  rw[if_pos rfl]
  cases hf:kvs.find? (fun p=>decide (p.1=k2))with
  | none=>simp
  | some p=>rw[hf]at h;cases h
 ·rw[if_neg hk]
  cases hf:kvs.find? (fun p=>decide (p.1=k2))with
  | none=>simp[eH hk]
  | some p=>simp
theorem St.cJ(hS:St P H0 H os)(i:Nat){A:Nat}{kvs:List (κ×β)}(ho:os[i]? =some ⟨.map (some A),0,kcs enc f kvs⟩)(hk:MapK P t enc z)(hf:∀b,mI (f b)=true){b0:β}(hz:f b0=z){k:κ}{K:Value→Heap→Prop}
 (h:∀x(n:Nat)H1,(∀(k2:κ)(K:Value→Prop),a0Q P H1 t (.map (some A)) (enc k2) false K=K (((pS kvs k2).map f).getD z))→
   (∀(v:β)(K2:Heap→Prop),(∀H2,St P H0 H2 (os.set i ⟨.map (some A),0,kcs enc f (a0w kvs k v)⟩)→K2 H2)→a3A H1 (.map (some A)) (.int .i64 n) (f v) K2)→K (.tuple #[x,.int .i64 n]) H1):b6j P H t (.map (some A)) (enc k) K:=by
 obtain⟨kt,et,h1,h2,h3,h4,h5,h6⟩:=hk.ex
 obtain⟨es,ck,ver,h7,h8,hst⟩:=hS.bP i ho
 obtain⟨h9,h10⟩:=a1i es kvs h8
 have hi:=h5 k es (kvs.map (·.1)) (by rw[h9];simp[gw])
 have hlt:=jG h7
 have fin:∀(es1:List MapEntry)(ck1 v1 j:Nat)(e1:MapEntry)(v:β)(K2:Heap→Prop),Stamps es1 ck1→es1[j]? =some e1→mcs (es1.set j {e1 with val:=f v})=kcs enc f (a0w kvs k v)→
  (∀H2,St P H0 H2 (os.set i ⟨.map (some A),0,kcs enc f (a0w kvs k v)⟩)→K2 H2)→a3A (hset H A (.map es1 ck1 v1)) (.map (some A)) (.int .i64 e1.born) (f v) K2:=by
  intro es1 ck1 v1 j e1 v K2 hs1 hj hm hK
  have hg1:iP (hset H A (.map es1 ck1 v1)) A=some (.map es1 ck1 v1):=iR _ hlt
  refine⟨hset (hset H A (.map es1 ck1 v1)) A (.map (es1.set j {e1 with val:=f v}) ck1 (v1+1)),?_,hK _ (hS.put i ho ?_ ?_ ?_ ?_)⟩
  ·simp only[qL,hg1,hs1.idx hj,hj,da]
  ·unfold OwnAt
   rw[if_pos rfl]
   exact .inr ⟨A,_,ck1,_,iR _ (by rw[jA];exact hlt),hm.symm,rfl,hs1.set hj _ rfl⟩
  ·rw[jA,jA];exact dm _
  ·intro B hB hne
   have hBA:A≠B:=fun hh=>hne (by simp[kI,hh])
   rw[pL hBA,pL hBA]
  ·exact fun B hB=>.inl hB
 have lk:∀(es1:List MapEntry)(ck1 v1:Nat)(kvs1:List (κ×β)),Stamps es1 ck1→kcs enc f kvs1=mcs es1→(∀k2,((pS kvs1 k2).map f).getD z=((pS kvs k2).map f).getD z)→
  ∀(k2:κ)(K:Value→Prop),a0Q P (hset H A (.map es1 ck1 v1)) t (.map (some A)) (enc k2) false K=K (((pS kvs k2).map f).getD z):=by
  intro es1 ck1 v1 kvs1 hs1 hm hkg k2 K
  have ho1:OwnAt P (hset H A (.map es1 ck1 v1)) ⟨.map (some A),0,kcs enc f kvs1⟩:=by
   unfold OwnAt
   rw[if_pos rfl]
   exact .inr ⟨A,es1,ck1,v1,iR _ hlt,hm,rfl,hs1⟩
  have hl:=(St.ba ho1).cV 0 rfl hk hf false k2
  unfold a0Q
  rw[hl,hkg]
  apply propext
  constructor
  ·rintro⟨v,hv,hK⟩
   rw[←cZ hv]at hK
   exact hK
  ·exact fun hK=>⟨_,rfl,hK⟩
 rcases a5z kvs k with⟨j,x,e1,e2,_⟩|⟨e1,e4⟩
 ·have hj:es[j]?.map (·.key)=some (enc x.1):=by
   rw[←eh,h9,eh,e2];rfl
  have hjv:es[j]?.map (·.val)=some (f x.2):=by
   rw[←eh,h10,eh,e2];rfl
  have hx:x.1=k:=by
   have:=fU.1 e1
   obtain⟨hlt,hd,_⟩:=this
   have hlt':j<kvs.length:=by simpa using hlt
   have:kvs[j]=x:=by
    rw[dx hlt']at e2
    exact cZ e2
   simp[this]at hd
   exact hd
  cases he:es[j]? with
  | none=>rw[he]at hj;simp at hj
  | some e=>
    rw[he]at hj hjv
    simp only[dP,dE]at hj hjv
    have hjl:=(dw.1 he).1
    have hes:mcs (es.set j {e with key:=enc k})=mcs es:=by
     have hee:({e with key:=enc k}:MapEntry)=e:=by
      rw[←hx,←hj]
     rw[hee]
     have:es.set j e=es:=by
      obtain⟨_,hg⟩:=dw.1 he
      rw[←hg];exact gn _
     rw[this]
    refine⟨.tuple #[e.val,.int .i64 e.born],hset H A (.map (es.set j {e with key:=enc k}) ck (ver+1)),?_,h _ _ _ (lk _ ck (ver+1) kvs (hst.set he _ rfl) (by rw[hes];exact h8) fun _=>rfl) fun v K2 hK=>fin (es.set j {e with key:=enc k}) ck (ver+1) j {e with key:=enc k} v K2 (hst.set he _ rfl) (by rw[gu];simp[hjl]) ?_ hK⟩
    ·have hsb:Instr.sameBits 10000 e.key (enc k)=true:=by rw[hj,hx];exact h6 k
     simp only[qT,h1,da,h7,h4,if_true,hi,e1,he,hsb,hjv,hf,Bool.and_self,goInt]
    ·symm
     rw[a1j,e1,List.set_set]
     refine zJ _ _ ?_ ?_
     ·rw[fN,fN,h9]
     ·rw[fN,fN,h10]
 ·have hln:(es++[({key:=enc k,val:=z,born:=ck}:MapEntry)])[es.length]? =some {key:=enc k,val:=z,born:=ck}:=by simp
  have hkn:pS kvs k=none:=by unfold pS;rw[e4];rfl
  have hpm:kcs enc f (kvs++[(k,b0)])=mcs (es++[{key:=enc k,val:=z,born:=ck}]):=by
   refine zJ _ _ ?_ ?_
   ·rw[dA,dA,h9];simp
   ·rw[dA,dA,h10];simp[hz]
  refine⟨.tuple #[z,.int .i64 ck],hset H A (.map (es++[{key:=enc k,val:=z,born:=ck}]) (ck+1) (ver+1)),?_,h _ _ _ (lk _ (ck+1) (ver+1) (kvs++[(k,b0)]) (hst.push _ rfl) hpm fun k2=> ?_) fun v K2 hK=>fin _ (ck+1) (ver+1) es.length {key:=enc k,val:=z,born:=ck} v K2 (hst.push _ rfl) hln ?_ hK⟩
  ·simp only[qT,h1,da,h7,h4,if_true,hi,e1,h2,h3,goInt]
  ·rw[b1Z kvs k k2 b0 hkn]
   by_cases hk2:k2=k
   ·subst hk2
    rw[if_pos rfl,hkn]
    simp[hz]
   ·rw[if_neg hk2]
  ·symm
   rw[a1j,e1]
   refine zJ _ _ ?_ ?_
   ·rw[dX _ _ (dm _),dA,dA,h9];simp
   ·rw[dX _ _ (dm _),dA,dA,h10];simp
end
end Go.Ds
namespace Go.Ds
open Go.Proofs Go.Proofs.Tryz
variable {H:Heap}
set_option maxRecDepth 10000
set_option maxHeartbeats 1000000
theorem b8H(x:Nt)(hx:Nt.Ok x)(z:Int)(hz:isN z):Fn prog 40 [.agg #[.int .u64 x.1,.int .u64 x.2],I z] H fun r H'=>r=.bool (mH x z)∧St prog H H' []:=by
 have h0:Nt.Ok ((0,0):Nt):=⟨by decide,by decide⟩
 have ha:Nt.Ok (nX (0,0) z):=b1h h0 hz.1 hz.2
 have hiff:decide (woF (nX (0,0) z) x=(0,0))=mH x z:=by
  cases h:mH x z with
  | true=>
    rw[decide_eq_true_iff]
    refine a6g ha fun y hy hh=> ?_
    rw[a1F _ _ _ hz hy,vE,Bool.false_or,decide_eq_true_iff]at hh
    rw[hh];exact h
  | false=>
    rw[decide_eq_false_iff_not]
    intro e
    have:=xC ha e hz (by rw[a1F _ _ _ hz hz,vE];simp)
    rw[h]at this
    cases this
 refine .aD func40 rfl (by kernel_rfl) (m:=13) rfl fun l hn g0 g1=> ?_
 simp(disch:=omega) only[↓RA,RB,simprocAttr,g0]
 refine(sR H).eNew 2 [(.int .u64 x.1),(.int .u64 x.2)] rfl rfl rfl lT fun A1 H1 hS1=> ?_
 simp only[RT]at hS1
 simp(disch:=omega) only[↓RA,RZ,simprocAttr,hn,g1]
 refine hS1.cF (a4j z hz) fun H2 hS2=> ?_
 simp(disch:=omega) only[↓RA,RZ,simprocAttr,hn]
 refine Wp.aO jZ [(3,0)] (by kernel_rfl) (by kernel_rfl) ?_
 simp(disch:=omega) only[↓RA,RZ,simprocAttr,hn,g1,c0j]
 refine hS2.cF (a2e (0,0) h0 z hz.1 hz.2) fun H3 hS3=> ?_
 simp(disch:=omega) only[↓RA,RZ,simprocAttr,hn,hS3.ag 0 rfl]
 refine hS3.cF (a2a (nX (0,0) z) x) fun H4 hS4=> ?_
 rw[hiff]
 simp(disch:=omega) only[↓RA,RZ,simprocAttr,hn,hS2.ag 0 rfl,c5D]
 exact hS4.forget
abbrev KN(kvs:List (Ct×Int)):List Value:=kcs (fun p:Int×Int=>.agg #[I p.1,I p.2]) I kvs
abbrev pC(kvs:List (Ct×Int))(c:Ct):Int:=(pS kvs c).getD 0
theorem b5y(c:Ct)(AT M:Nat)(kvs:List (Ct×Int))(hV:Var H AT 1 [.map (some M)])(hM:OwnAt prog H ⟨.map (some M),0,KN kvs⟩):
 Fn prog 42 [.agg #[I c.1,I c.2],ptr AT 0 1] H fun r H'=>r=.bool (decide (1<pC kvs c))∧St prog H H' []:=by
 refine .aD func42 rfl (by kernel_rfl) (m:=8) rfl fun l hn g0 g1=> ?_
 simp(disch:=omega) only[↓RA,RB,simprocAttr,g0]
 refine(sR H).eNew 2 [I c.1,I c.2] rfl rfl rfl rB fun A1 H1 hS1=> ?_
 simp only[RT]at hS1
 simp(disch:=omega) only[↓RA,RZ,simprocAttr,hn,g1,(hV.ab hS1.ab).ld,hS1.ag 0 rfl]
 refine(St.ba ((hM.st hS1))).bz (k:=c) 0 rfl b0Z (fun _=>rfl) ?_
 simp(disch:=omega) only[↓RA,RZ,simprocAttr,hn,c5r]
 exact hS1.forget
structure Gn where
 c:Ct
 w:Value
 l:List Ct
 tl:List Value
 deriving Inhabited
abbrev Gn.v(g:Gn):Value:=kU g.w 2 0 g.l.length
def Gn.cells(g:Gn):List Value:=[I g.c.1,I g.c.2,g.v]
def Gn.row(g:Gn):Ob:=⟨g.w,2,pr g.l++g.tl⟩
def Gn.key(g:Gn):Ct×List Ct:=(g.c,g.l)
def wU(ks:List Nt)(d:List Ct):List Ct:=d.filter fun c=>mH (iB ks c.1.toNat) c.2
def rQ(o:Org)(rg:Reg)(l:List Ct)(p:Ct):Int:=((l.filter fun c=>decide (p∈lI o rg c)).length:Nat)
theorem a5A(ks:List Nt)(d:List Ct)(c:Ct):wU ks (d++[c])=wU ks d++(if mH (iB ks c.1.toNat) c.2 then[c]else[]):=by
 unfold wU
 rw[ew]
 congr 1
 by_cases h:mH (iB ks c.1.toNat) c.2=true
 ·rw[if_pos h];simp[h]
 ·rw[if_neg h];simp[h]
theorem b6b(o:Org)(rg:Reg)(l:List Ct)(c p:Ct):rQ o rg (l++[c]) p=rQ o rg l p+(if p∈lI o rg c then 1 else 0):=by
 unfold rQ
 rw[ew,dh]
 by_cases h:p∈lI o rg c
 ·rw[if_pos h];simp[h]
 ·rw[if_neg h];simp[h]
theorem b8m(o:Org)(rg:Reg)(l:List Ct)(p:Ct):0≤rQ o rg l p∧rQ o rg l p≤l.length:=by
 unfold rQ
 have:=dS (fun c=>decide (p∈lI o rg c)) l
 omega
theorem Lp.cK{P:Program}{B:Base}{L:Nat}{r:Loop}{A G xs:List Ob}{g:Ob}(h:Lp P B L r H (A++(G++(xs++[g])))):Lp P B L r H ((A++G)++xs):=
 h.sub (by rw[dD];exact(List.Sublist.refl A).append ((List.Sublist.refl G).append (fq _ _)))
theorem Lp.cQ{P:Program}{B:Base}{L:Nat}{r:Loop}{A G xs:List Ob}{g:Ob}(h:Lp P B L r H (A++(G++(xs++[g])))):Lp P B L r H ((A++(G++[g]))++xs):=by
 have hp:(A++(G++(xs++[g]))).Perm ((A++(G++[g]))++xs):=by
  rw[dD,dD]
  exact((List.perm_append_comm).append_left G).append_left A
 exact⟨h.st.perm hp,h.get,h.lo,fun o ho=>h.ne o (hp.mem_iff.2 ho)⟩
theorem St.cM{P:Program}{B:Base}{os os1:List Ob}{H1:Heap}{oi oj:Ob}(hS:St P B H os)(i j:Nat)(hi:os[i]? =some oi)(hj:os[j]? =some oj)(hij:i≠j)(h1:St P ⟨H,pG [oj]⟩ H1 os1):OwnAt P H1 oi:=by
 have hoi:=hS.own _ (dT hi)
 refine hoi.ab fun b hb=>h1.old b (hoi.lt hb) ?_
 rintro⟨x,hx,hxb⟩
 rw[dC.1 hx]at hxb
 obtain⟨hil,hig⟩:=dw.1 hi
 obtain⟨hjl,hjg⟩:=dw.1 hj
 rcases fu hij with h|h
 ·have:=(ec.1 hS.sep) i j hil hjl h b
  rw[hig,hjg]at this
  exact this hb hxb
 ·have:=(ec.1 hS.sep) j i hjl hil h b
  rw[hig,hjg]at this
  exact this hxb hb
def a3G(o:Org)(rg:Reg)(ks:List Nt):List (Ct×List Ct):=if rkE o rg ks=0 then(wU ks (kG o)).map fun c=>(c,(lI o rg c).filter fun p=> !decide (1<rQ o rg (wU ks (kG o)) p))else[]
end Go.Ds
namespace Go.Ds
open Go.Proofs
variable {H:Heap}
set_option maxRecDepth 10000
set_option maxHeartbeats 1000000
theorem a5k{xs:List Ct}(hs:xs.Pairwise ltP){i j:Nat}(h:i<j)(hj:j<xs.length):ltP (iB xs i) (iB xs j):=by
 rw[jR _ _ (by omega),jR _ _ hj]
 exact ec.1 hs i j (by omega) hj h
end Go.Ds
namespace Go.Ds
open Go.Proofs Go.Proofs.Tryz
variable {H:Heap}
set_option maxRecDepth 10000
set_option maxHeartbeats 1000000
theorem c1W(o:Org)(rg:Reg)(c:Ct):(lI o rg c).Pairwise ltP:=by
 unfold lI
 split
 ·exact b2m o rg _
 ·exact .nil
theorem a9q{l:List Ct}(hs:l.Pairwise ltP){j:Nat}(hj:j<l.length):iB l j∉l.take j:=fun h=>by
 obtain⟨q,hq,e⟩:=dR.1 h
 rw[eI]at hq
 have h2:=a5k hs (i:=q) (j:=j) (by omega) hj
 rw[List.getElem_take]at e
 rw[jR l q (by omega),e]at h2
 exact sH h2
theorem b7z(o:Org)(ho:o.In H)(rg:Reg)(sv:Value)(hr:rg.In H sv)(kv:Value)(ks:List Nt)(hk:Ks H kv ks):
 Fn prog 11 [.agg #[.string o.name,o.rv,o.dv,o.cv],.agg #[sv,.int .u64 rg.cpl,.int .u64 rg.off],kv] H fun r H'=>∃(lv:Value)(gs:List Gn),r=.tuple #[lv,I (rkE o rg ks)]∧gs.map Gn.key=a3G o rg ks∧
  Slx 3 Gn.cells H' (fun B=>H.length≤B) lv gs∧(∀g∈gs,Slx 2 jS H' (fun B=>H.length≤B) g.v g.l)∧St prog H H' []:=by
 have hnil:∀{H':Heap},Slx 3 Gn.cells H' (fun B=>H.length≤B) (.slice none 0 0) ([]:List Gn):=fun{H'}=>⟨⟨.inl ⟨rfl,rfl⟩,fun _=>rfl,by decide⟩,fun b h=>by simp[kI]at h⟩
 refine .bO func11 rfl (by kernel_rfl) (m:=81) rfl fun l hn g0 g1 g2=> ?_
 simp(disch:=omega) only[↓RA,RB,simprocAttr,g0]
 refine(sR H).eNew 4 [(.string o.name),o.rv,o.dv,o.cv] rfl rfl (by simp[OC,((sR H).sl ho.1).cells.2.1,((sR H).sl ho.2.2.1).cells.2.1,((sR H).sl ho.2.2.2.2.1).cells.2.1]) mV fun A1 H1 hS1=> ?_
 simp only[RT]at hS1
 simp(disch:=omega) only[↓RA,RB,simprocAttr,g1]
 refine hS1.eNew 3 [sv,(.int .u64 rg.cpl),(.int .u64 rg.off)] rfl rfl (by simp[OC,(hS1.sl hr.1).cells.2.1]) mP fun A2 H2 hS2=> ?_
 simp only[RT]at hS2
 simp(disch:=omega) only[↓RA,RB,simprocAttr,g2]
 refine hS2.eNew 1 [kv] (by rw[(hS2.sl hk.sl).cells.1]) rfl (by simp[(hS2.sl hk.sl).cells.2.1]) b7Q fun A3 H3 hS3=> ?_
 simp only[RT]at hS3
 simp(disch:=omega) only[↓RA,RZ,simprocAttr,hn,hS3.ag 0 rfl,hS3.ag 1 rfl]
 refine hS3.cF (rF o (ho.ab hS3) rg sv (hr.ab hS3)) fun H4 hS4=> ?_
 simp(disch:=omega) only[↓RA,RB,simprocAttr,hn]
 refine iA (fun h1=> ?_) (fun h1=> ?_)
 ·have hE:rkE o rg ks=mA o rg:=by unfold rkE;rw[if_pos h1]
  simp(disch:=omega) only[↓RA,RZ,simprocAttr,hn,c0H,h1]
  exact⟨.slice none 0 0,[],by rw[hE],by rw[a3G,if_neg (by rw[hE];exact h1)];rfl,hnil,fun _ h=>absurd h eJ,hS4.forget⟩
 have h0:=dG.1 h1
 obtain⟨hz3,hz4⟩:=oW h0
 have hf:=Org.bg hz3
 have hE:rkE o rg ks=pY o ks:=by unfold rkE;rw[if_neg h1]
 simp(disch:=omega) only[↓RA,RZ,simprocAttr,hn,hS4.ag 0 rfl,hS4.ld 2 rfl,h1]
 refine hS4.cF (b3B o (ho.ab hS4) kv ks (hk.ab hS4)) fun H5 hS5=> ?_
 simp(disch:=omega) only[↓RA,RZ,simprocAttr,hn,h1]
 refine iA (fun h2=> ?_) (fun h2=> ?_)
 ·simp(disch:=omega) only[↓RA,RZ,simprocAttr,hn,c0H,h1,h2]
  exact⟨.slice none 0 0,[],by rw[hE],by rw[a3G,if_neg (by rw[hE];exact h2)];rfl,hnil,fun _ h=>absurd h eJ,hS5.forget⟩
 have h3:=dG.1 h2
 have hkl:=(sP h3).2.1
 rw[hE,h3,a3G,if_pos (by rw[hE];exact h3)]
 simp(disch:=omega) only[↓RA,simprocAttr]
 refine hS5.bQ b0Z fun M1 H6 hS6=> ?_
 simp only[RT]at hS6
 simp(disch:=omega) only[↓RA,RZ,simprocAttr,a1s]
 refine hS6.eNew 1 [(.map none)] rfl rfl rfl b5r fun A4 H7 hS7=> ?_
 simp only[RT]at hS7
 simp(disch:=omega) only[↓RA,RZ,simprocAttr,hn,h1]
 refine hS7.aa 4 rfl [(.map (some M1))] rfl rfl b5r (by simp) fun H8 hS8=> ?_
 simp only[RT]at hS8
 simp(disch:=omega) only[↓RA,RZ,simprocAttr]
 refine hS8.eNew 1 [(.slice none 0 0)] rfl rfl rfl c1x fun A5 H9 hS9=> ?_
 simp only[RT]at hS9
 simp(disch:=omega) only[↓RA,RZ,simprocAttr,hn,hS9.ag 0 rfl,hS9.ag 1 rfl,h1]
 have hS10:=hS9.nil 2
 simp only[RT]at hS10
 refine iJ (a1D o (ho.ab hS10) rg sv (hr.ab hS10)) ?_
 rintro r H10⟨AK,AL,rfl,hT3⟩
 have hS11:=hS10.trans hT3
 simp only[RT]at hS11
 simp(disch:=omega) only[↓RA,RZ,simprocAttr,h1]
 refine Wp.bl fun lrg1 hlrg1=> ?_
 have hnrg1:lrg1.length=81:=by rw[hlrg1];simp(disch:=omega) only[RB,simprocAttr,hn]
 have g5rg1:get lrg1 5=(ptr A3 0 1):=by rw[hlrg1];simp(disch:=omega) only[RB,simprocAttr,hn]
 have g6rg1:get lrg1 6=(.slice none 0 0):=by rw[hlrg1];simp(disch:=omega) only[RB,simprocAttr,hn]
 have g7rg1:get lrg1 7=I 0:=by rw[hlrg1];simp(disch:=omega) only[RB,simprocAttr,hn]
 have g10rg1:get lrg1 10=(ptr A4 0 1):=by rw[hlrg1];simp(disch:=omega) only[RB,simprocAttr,hn]
 have g11rg1:get lrg1 11=(ptr A5 0 1):=by rw[hlrg1];simp(disch:=omega) only[RB,simprocAttr,hn]
 have gfrg1:get lrg1 33=.func (.func 77) #[] [(ptr AK 0 4),(ptr AL 0 3)].toArray:=by rw[hlrg1];simp(disch:=omega) only[RB,simprocAttr,hn]
 clear hlrg1
 refine Wp.aZ gfrg1 fun rg1 hstrg1 hpdrg1 htmrg1 hpsrg1 hasrg1 hbdrg1=> ?_
 have hreqrg1:({rg1 with state:=.ready,pending:=none}:Loop)=rg1:=by
  cases rg1
  simp only at hstrg1 hpdrg1
  subst hstrg1 hpdrg1
  rfl
 have hLprg1:=Lp.enter hS11 rg1
 generalize H10.cons (.loop rg1)=Hcrg1 at hLprg1 ⊢
 generalize H10.length=Lrg1 at hLprg1 ⊢
 refine(a6N o hf rg sv AK AL (.func (.yield Lrg1) #[] #[]) (fun d xs H1=>∃(ow:Value)(gs:List Gn)(kvs:List (Ct×Int)),gs.map Gn.key=(wU ks d).map (fun c=>(c,lI o rg c))∧(∀p,pC kvs p=rQ o rg (wU ks d) p)∧
  Lp prog H Lrg1 rg1 H1 (([⟨ptr A1 0 4,0,oC o⟩,⟨ptr A2 0 3,0,rC rg sv⟩,⟨ptr A3 0 1,0,[kv]⟩,⟨.map (some M1),0,KN kvs⟩,⟨ptr A4 0 1,0,[.map (some M1)]⟩,⟨ptr A5 0 1,0,[ow]⟩,⟨ow,3,gs.flatMap Gn.cells⟩,⟨ptr AK 0 4,0,oC o⟩,⟨ptr AL 0 3,0,rC rg sv⟩]++gs.map Gn.row)++xs)) ⟨.slice none 0 0,[],[],rfl,fun p=>rfl,?_⟩ ?_ ?_ ?_ ?_).mono ?_
 ·rw[dr,fY,dr]
  exact hLprg1
 ·rintro d xs H1⟨ow,gs,kvs,hgs,hcn,h⟩
  have hs:=h.left.left.st
  exact⟨hs.var 7 rfl,ho.ab hs,hs.var 8 rfl,hr.ab hs,fun x hx=>h.st.own x (eN _ hx)⟩
 ·rintro d xs H1 H2 ys⟨ow,gs,kvs,hgs,hcn,h⟩hT
  have h3:=h.ext hT
  rw[dD]at h3
  exact⟨ow,gs,kvs,hgs,hcn,h3⟩
 ·rintro d xs ys H1⟨ow,gs,kvs,hgs,hcn,h⟩
  rw[←dD]at h
  exact⟨ow,gs,kvs,hgs,hcn,h.left⟩
 ·rintro d c e xs H1 H20 pv gv rest he⟨ow,gs,kvs,hgs,hcn,hLp⟩hT hpv
  have hLpj:=hLp.ext hT
  rw[dD,dD]at hLpj
  have hx:Slx 2 jS H20 (fun B=>H1.length≤B) pv (lI o rg c):=by rw[hpv];exact uZ hT
  have hgl:gs.length=(wU ks d).length:=by
   have:=congrArg List.length hgs
   rwa [dF,dF]at this
  have hpl:(wU ks d).length≤1024:=by
   have h1:=rA hf
   have h2:(wU ks d).length≤d.length:=dS _ _
   rw[he,dh]at h1
   omega
  obtain⟨i,z,rfl,hi,hz⟩:=a4Z hf (c:=c) (by rw[he];simp)
  have hlen:=a1q hf rg ((i:Int),z)
  have hki:Nt.Ok (iB ks i):=hk.ok _ (iE (by rw[hkl];exact hi))
  refine mQ hLpj.get (by rw[hpsrg1];rfl) hstrg1 ?_
  refine Wp.aE (l:=put (put lrg1 (some 34) (.agg #[I i,I z])) (some 35) (pv)) hasrg1 (by rw[hpsrg1,htmrg1];first|exact(kP ..).symm|rfl|simp[put,kP]) ?_
  simp(disch:=omega) only[↓RA,RZ,simprocAttr]
  refine(sR H20).eNew 2 [I 0,I 0] rfl rfl rfl pQ fun A6 H11 hS12=> ?_
  simp only[RT]at hS12
  simp(disch:=omega) only[↓RA,RB,simprocAttr,hnrg1]
  refine hS12.aa 0 rfl [I i,I z] rfl rfl pQ (by simp) fun H12 hS13=> ?_
  simp only[RT]at hS13
  simp(disch:=omega) only[↓RA,RZ,simprocAttr,hnrg1]
  have hSy:=hS13
  have hLl:Lrg1<H1.length:=jG hLp.get
  have hLpx:=Lp.swap (hLpj.ext hS13)
  refine⟨rg1,hLpx.get,hstrg1,?_⟩
  have hYBs1:=hLpx.set (fun h=>h) {rg1 with state:=.busy}
  have hKBs1:∀B,B≠Lrg1→iP (hset H12 Lrg1 (.loop {rg1 with state:=.busy})) B=iP H12 B:=fun B h=>iM _ (eH h)
  have hNBs1:(hset H12 Lrg1 (.loop {rg1 with state:=.busy})).length=H12.length:=jA ..
  generalize hset H12 Lrg1 (.loop {rg1 with state:=.busy})=HBs1 at hYBs1 hKBs1 hNBs1 ⊢
  refine Wp.aE hbdrg1 rfl ?_
  have hZBs1:=hYBs1.left.st
  obtain⟨Bs1,hBBs1,hS14⟩:=hZBs1.ax (os:=[⟨ptr A1 0 4,0,_⟩,⟨ptr A2 0 3,0,_⟩,⟨ptr A3 0 1,0,_⟩,⟨.map (some M1),0,_⟩,⟨ptr A4 0 1,0,_⟩,⟨ptr A5 0 1,0,_⟩,⟨ow,3,_⟩,⟨ptr AK 0 4,0,_⟩,⟨ptr AL 0 3,0,_⟩,⟨ptr A6 0 2,0,_⟩])
  have hxB:Slx 2 jS HBs1 (nb [ptr A1 0 4,ptr A2 0 3,ptr A3 0 1,.map (some M1),ptr A4 0 1,ptr A5 0 1,ow,ptr AK 0 4,ptr AL 0 3,ptr A6 0 2]) pv (lI o rg ((i:Int),z)):=hx.step fun B hB hl=>⟨by rw[hKBs1 B (by omega),hSy.ab B hl],fun v hv hb=>by
   rw[show[ptr A1 0 4,ptr A2 0 3,ptr A3 0 1,.map (some M1),ptr A4 0 1,ptr A5 0 1,ow,ptr AK 0 4,ptr AL 0 3,ptr A6 0 2]=[ptr A1 0 4,ptr A2 0 3,ptr A3 0 1,.map (some M1),ptr A4 0 1,ptr A5 0 1,ow,ptr AK 0 4,ptr AL 0 3]++[ptr A6 0 2]from rfl]at hv
   rcases dJ.1 hv with hv|hv
   ·exact(hLp.left.left.st.aJ (H':=H20) B hB hl).2 v hv hb
   ·rw[dC.1 hv]at hb
    rcases hSy.new _ (dC.2 rfl) B hb with h|h
    ·have h:H20.length≤B:=h
     omega
    ·exact h.elim⟩
  simp(disch:=omega) only[↓RA,simprocAttr]
  refine Wp.drw jZ (by kernel_rfl) ?_
  simp(disch:=omega) only[↓RA,RZ,simprocAttr,hnrg1,g5rg1,hS14.ld 2 rfl,hS14.ld 9 rfl,((hZBs1.aj hBBs1 hS14).sl hk.sl).idx,((hZBs1.aj hBBs1 hS14).sl hk.sl).ag,zI]
  refine hS14.cF (b8H (iB ks i) hki z hz) fun H13 hS15=> ?_
  simp(disch:=omega) only[↓RA,RB,simprocAttr,hnrg1]
  refine jE (fun q1=> ?_) (fun q1=> ?_)
  ·have hq1:¬mH (iB ks i) z=true:=by simpa using q1
   have hplK:wU ks (d++[((i:Int),z)])=wU ks d:=by rw[a5A,if_neg (by simpa using hq1),dr]
   simp(disch:=omega) only[↓RA,RC,simprocAttr]
   have hS16:=hS15.pick (os':=[⟨ptr A1 0 4,0,_⟩,⟨ptr A2 0 3,0,_⟩,⟨ptr A3 0 1,0,_⟩,⟨.map (some M1),0,_⟩,⟨ptr A4 0 1,0,_⟩,⟨ptr A5 0 1,0,_⟩,⟨ow,3,_⟩,⟨ptr AK 0 4,0,_⟩,⟨ptr AL 0 3,0,_⟩]) [0,1,2,3,4,5,6,7,8] (by decide) rfl
   have hWBs1:=(hYBs1.aV (hBBs1▸hS16)).set (fun h=>h) rg1
   rw[←hreqrg1]at hWBs1
   have hfin:∃(ow:Value)(gs:List Gn)(kvs:List (Ct×Int)),gs.map Gn.key=(wU ks (d++[((i:Int),z)])).map (fun c=>(c,lI o rg c))∧(∀p,pC kvs p=rQ o rg (wU ks (d++[((i:Int),z)])) p)∧
  Lp prog H Lrg1 rg1 (hset H13 Lrg1 (.loop rg1)) (([⟨ptr A1 0 4,0,oC o⟩,⟨ptr A2 0 3,0,rC rg sv⟩,⟨ptr A3 0 1,0,[kv]⟩,⟨.map (some M1),0,KN kvs⟩,⟨ptr A4 0 1,0,[.map (some M1)]⟩,⟨ptr A5 0 1,0,[ow]⟩,⟨ow,3,gs.flatMap Gn.cells⟩,⟨ptr AK 0 4,0,oC o⟩,⟨ptr AL 0 3,0,rC rg sv⟩]++gs.map Gn.row)++xs):=⟨ow,gs,kvs,by rw[hplK];exact hgs,by rw[hplK];exact hcn,Lp.cK (hreqrg1▸hWBs1)⟩
   rw[←hreqrg1]at hfin
   exact⟨_,(hYBs1.aV (hBBs1▸hS16)).get,rfl,hreqrg1▸hfin⟩
  have hq1:mH (iB ks i) z=true:=by simpa using q1
  have hplK:wU ks (d++[((i:Int),z)])=wU ks d++[((i:Int),z)]:=by rw[a5A,if_pos (by simpa using hq1)]
  simp(disch:=omega) only[↓RA,RZ,simprocAttr,hnrg1,(hxB.step (hS15.kept hBBs1)).1.len,q1]
  refine Wp.al (fun n l H'=>l.length=81∧get l 6=(.slice none 0 0)∧get l 7=I 0∧get l 10=(ptr A4 0 1)∧get l 11=(ptr A5 0 1)∧get l 12=(ptr A6 0 2)∧get l 13=pv∧get l 45=pv∧get l 46=I (lI o rg ((i:Int),z)).length∧∃(j:Nat)(kvs1:List (Ct×Int)),(n+j=(lI o rg ((i:Int),z)).length∧∀p,pC kvs1 p=rQ o rg (wU ks d) p+(if p∈(lI o rg ((i:Int),z)).take j then 1 else 0))∧get l 47=I j∧St prog Bs1 H' [⟨ptr A1 0 4,0,[(.string o.name),o.rv,o.dv,o.cv]⟩,⟨ptr A2 0 3,0,[sv,(.int .u64 rg.cpl),(.int .u64 rg.off)]⟩,⟨ptr A3 0 1,0,[kv]⟩,⟨.map (some M1),0,KN kvs1⟩,⟨ptr A4 0 1,0,[(.map (some M1))]⟩,⟨ptr A5 0 1,0,[ow]⟩,⟨ow,3,gs.flatMap Gn.cells⟩,⟨ptr AK 0 4,0,[(.string o.name),o.rv,o.dv,o.cv]⟩,⟨ptr AL 0 3,0,[sv,(.int .u64 rg.cpl),(.int .u64 rg.off)]⟩,⟨ptr A6 0 2,0,[I i,I z]⟩]) (lI o rg ((i:Int),z)).length ?_ ?_
  ·simp(disch:=omega) only[RB,RC,simprocAttr,hnrg1,g6rg1,g7rg1,g10rg1,g11rg1]
   exact⟨0,kvs,⟨by omega,fun p=>by rw[hcn,if_neg (by simp)];omega⟩,rfl,hS15⟩
  rintro n l H14⟨hn,g6,g7,rE,g11,g12,g13,g45,g46,j,kvs1,⟨hj,hcj⟩,g47,hS17⟩
  simp(disch:=omega) only[↓RA,RB,simprocAttr,hn,g46,g47]
  refine iA (fun q2=> ?_) (fun q2=> ?_)
  ·have hjl:j<(lI o rg ((i:Int),z)).length:=by omega
   have hnt:iB (lI o rg ((i:Int),z)) j∉(lI o rg ((i:Int),z)).take j:=a9q (c1W o rg _) hjl
   have hcv:=hcj (iB (lI o rg ((i:Int),z)) j)
   rw[if_neg hnt]at hcv
   have hcb:=b8m o rg (wU ks d) (iB (lI o rg ((i:Int),z)) j)
   have hcw:0≤(pS kvs1 (iB (lI o rg ((i:Int),z)) j)).getD 0∧(pS kvs1 (iB (lI o rg ((i:Int),z)) j)).getD 0≤1024:=by
    rw[show(pS kvs1 (iB (lI o rg ((i:Int),z)) j)).getD 0=pC kvs1 (iB (lI o rg ((i:Int),z)) j)from rfl,hcv]
    omega
   simp(disch:=omega) only[↓RA,RZ,simprocAttr,hn,g45,g47,(hxB.step (hS17.kept hBBs1)).1.idx,(hxB.step (hS17.kept hBBs1)).1.ag,jS,q2]
   refine hS17.eNew 2 [I 0,I 0] rfl rfl rfl rB fun A7 H15 hS18=> ?_
   simp only[RT]at hS18
   simp(disch:=omega) only[↓RA,RZ,simprocAttr,hn,q2]
   refine hS18.aa 10 rfl [I (iB (lI o rg ((i:Int),z)) j).1,I (iB (lI o rg ((i:Int),z)) j).2] rfl rfl rB (by simp) fun H16 hS19=> ?_
   simp only[RT]at hS19
   simp(disch:=omega) only[↓RA,RZ,simprocAttr,q2]
   refine Wp.aO jZ [(2,5)] (by kernel_rfl) (by kernel_rfl) ?_
   simp(disch:=omega) only[↓RA,RZ,simprocAttr,hn,rE,hS19.ld 4 rfl,hS19.ag 10 rfl]
   refine hS19.bz (k:=(iB (lI o rg ((i:Int),z)) j)) 3 rfl b0Z (fun _=>rfl) ?_
   simp(disch:=omega) only[↓RA,RB,simprocAttr,hn]
   refine hS19.cJ (k:=(iB (lI o rg ((i:Int),z)) j)) 3 rfl b0Z (fun _=>rfl) (b0:=0) rfl fun _ n1 H17 hL1 hE1=> ?_
   have hL1k:=hL1 ((iB (lI o rg ((i:Int),z)) j))
   simp(disch:=omega) only[↓RA,RB,simprocAttr,hn]
   refine hE1 (pC kvs1 (iB (lI o rg ((i:Int),z)) j)+1) _ fun H18 hS20=> ?_
   simp only[RT]at hS20
   simp(disch:=omega) only[↓RA,RZ,simprocAttr,hn,g6,g7,rE,g11,g12,g13,g45,g46,g47,hL1k]
   exact⟨n-1,by omega,j+1,a0w kvs1 (iB (lI o rg ((i:Int),z)) j) (pC kvs1 (iB (lI o rg ((i:Int),z)) j)+1),⟨by omega,fun p=>by
    rw[pC,yS,kJ _ j hjl]
    by_cases hp:p=iB (lI o rg ((i:Int),z)) j
    ·subst hp
     rw[if_pos rfl,if_pos (by simp),eT,hcv]
     omega
    ·rw[if_neg hp]
     have:=hcj p
     rw[show(pS kvs1 p).getD 0=pC kvs1 p from rfl,this]
     congr 1
     simp[hp]⟩,by simp,hS20.pick [0,1,2,3,4,5,6,7,8,9] (by decide) rfl⟩
  have hje:j=(lI o rg ((i:Int),z)).length:=by omega
  have hcf:∀p,pC kvs1 p=rQ o rg (wU ks (d++[((i:Int),z)])) p:=fun p=>by rw[hplK,b6b,hcj p,hje,ek]
  simp(disch:=omega) only[↓RA,RZ,simprocAttr,hn,g11,g12,g13,hS17.ld 5 rfl,hS17.ag 9 rfl,b5e (hxB.step (hS17.kept hBBs1)).1.cells,q2]
  refine hS17.ai [I i,I z,pv] c4r c6p rfl rfl (by first|(simp[];done)|simp[Value.cells]) (by first|(simp[];done)|simp[Value.cells]) (by simp[OC,(hxB.step (hS17.kept hBBs1)).1.cells.2.1]) (by decide) (by decide) fun w1 H19 hS21=> ?_
  simp only[RT]at hS21
  simp(disch:=omega) only[↓RA,RZ,simprocAttr,hn,q2]
  refine hS21.aq 6 rfl (hS21.rd 10 rfl) c4r (by rw[iL (n:=3) (cel:=Gn.cells) (fun _=>rfl)];simp;omega) fun w2 H20 hS22=> ?_
  simp only[RT]at hS22
  simp(disch:=omega) only[↓RA,RZ,simprocAttr,hn,g11,q2]
  refine hS22.aa 5 rfl [w2] (by rw[(hS22.rd 6 rfl).cells.1]) (by simp[(hS22.rd 6 rfl).cells.2.1]) c1x (by simp) fun H21 hS23=> ?_
  simp only[RT]at hS23
  simp(disch:=omega) only[↓RA,RC,simprocAttr]
  have happ:gs.flatMap Gn.cells++[I i,I z,pv]=(gs++[(⟨((i:Int),z),gv,(lI o rg ((i:Int),z)),rest⟩:Gn)]).flatMap Gn.cells:=by rw[dN,hpv];rfl
  rw[happ]at hS23
  have hS24:=hS23.pick (os':=[⟨ptr A1 0 4,0,_⟩,⟨ptr A2 0 3,0,_⟩,⟨ptr A3 0 1,0,_⟩,⟨.map (some M1),0,_⟩,⟨ptr A4 0 1,0,_⟩,⟨ptr A5 0 1,0,_⟩,⟨w2,3,_⟩,⟨ptr AK 0 4,0,_⟩,⟨ptr AL 0 3,0,_⟩]) [0,1,2,3,4,5,6,7,8] (by decide) rfl
  have hWBs1:=(hYBs1.aV (hBBs1▸hS24)).set (fun h=>h) rg1
  rw[←hreqrg1]at hWBs1
  have hfin:∃(ow:Value)(gs:List Gn)(kvs:List (Ct×Int)),gs.map Gn.key=(wU ks (d++[((i:Int),z)])).map (fun c=>(c,lI o rg c))∧(∀p,pC kvs p=rQ o rg (wU ks (d++[((i:Int),z)])) p)∧
  Lp prog H Lrg1 rg1 (hset H21 Lrg1 (.loop rg1)) (([⟨ptr A1 0 4,0,oC o⟩,⟨ptr A2 0 3,0,rC rg sv⟩,⟨ptr A3 0 1,0,[kv]⟩,⟨.map (some M1),0,KN kvs⟩,⟨ptr A4 0 1,0,[.map (some M1)]⟩,⟨ptr A5 0 1,0,[ow]⟩,⟨ow,3,gs.flatMap Gn.cells⟩,⟨ptr AK 0 4,0,oC o⟩,⟨ptr AL 0 3,0,rC rg sv⟩]++gs.map Gn.row)++xs):=by
   refine⟨w2,gs++[(⟨((i:Int),z),gv,(lI o rg ((i:Int),z)),rest⟩:Gn)],kvs1,by rw[dA,hgs,hplK,dA];rfl,hcf,?_⟩
   rw[dA]
   exact Lp.cQ (hreqrg1▸hWBs1)
  rw[←hreqrg1]at hfin
  exact⟨_,(hYBs1.aV (hBBs1▸hS24)).get,rfl,hreqrg1▸hfin⟩
 rintro _ H21⟨ow,gs,kvs,hgs,hcn,hLp2⟩
 rw[dr]at hLp2
 have hgm:∀g∈gs,g.l=lI o rg g.c:=fun g hg=>by
  have h1:g.key∈gs.map Gn.key:=eV hg
  rw[hgs]at h1
  obtain⟨c,_,h2⟩:=dy.1 h1
  have e1:c=g.c:=congrArg Prod.fst h2
  have e2:lI o rg c=g.l:=congrArg Prod.snd h2
  rw[←e2,e1]
 have hgl:gs.length≤1024:=by
  have h1:=rA hf
  have h2:(wU ks (kG o)).length≤(kG o).length:=dS _ _
  have h3:=congrArg List.length hgs
  rw[dF,dF]at h3
  omega
 refine⟨_,hLp2.get,(by rw[hstrg1];exact fun h=>by cases h),fun _=> ?_,fun c hc=>by rw[hpdrg1]at hc;cases hc⟩
 have hAAf1:=(hLp2.set (fun h=>h) {rg1 with state:=.exhausted}).st
 have hKAf1:∀B,B≠Lrg1→iP (hset H21 Lrg1 (.loop {rg1 with state:=.exhausted})) B=iP H21 B:=fun B h=>iM _ (eH h)
 generalize hset H21 Lrg1 (.loop {rg1 with state:=.exhausted})=HAf1 at hAAf1 hKAf1 ⊢
 have hA9:=hAAf1
 have hF9:=hA9.sub (fq _ _)
 simp(disch:=omega) only[↓RA,RZ,simprocAttr,hnrg1,g11rg1,hF9.ld 5 rfl,(hF9.av 6 rfl (fun _=>rfl)).len]
 refine Wp.al (fun n l H'=>l.length=81∧get l 10=ptr A4 0 1∧get l 11=ptr A5 0 1∧get l 64=ow∧get l 65=I gs.length∧∃(i:Nat)(pre:List Gn),(n+i=gs.length∧pre.length=i∧pre.map Gn.key=(gs.take i).map (fun g:Gn=>(g.c,g.l.filter fun p=> !decide (1<pC kvs p))))∧get l 66=I i∧
  St prog H H' ([⟨ptr A1 0 4,0,oC o⟩,⟨ptr A2 0 3,0,rC rg sv⟩,⟨ptr A3 0 1,0,[kv]⟩,⟨.map (some M1),0,KN kvs⟩,⟨ptr A4 0 1,0,[.map (some M1)]⟩,⟨ptr A5 0 1,0,[ow]⟩,⟨ow,3,(pre++gs.drop i).flatMap Gn.cells⟩,⟨ptr AK 0 4,0,oC o⟩,⟨ptr AL 0 3,0,rC rg sv⟩]++(pre++gs.drop i).map Gn.row)) gs.length ?_ ?_
 ·simp(disch:=omega) only[RB,RC,simprocAttr,hnrg1,g10rg1,g11rg1]
  exact⟨0,[],⟨by omega,rfl,rfl⟩,rfl,hA9⟩
 rintro n l H9⟨hn,rE,g11,g64,g65,i,pre,⟨hi,hpl,hpk⟩,g66,hS9⟩
 have hF:=hS9.sub (fq _ _)
 simp(disch:=omega) only[↓RA,RB,simprocAttr,hn,g65,g66]
 refine iA (fun q4=> ?_) (fun q4=> ?_)
 ·have hil:i<gs.length:=by omega
  have hdr:=tU gs i hil
  have hll:(pre++gs.drop i).length=gs.length:=by rw[dh,eD];omega
  have hni:iB (pre++gs.drop i) i=iB gs i:=by
   unfold iB
   rw[dg,dZ (by omega),dH,dg]
   congr 2;omega
  have hP:(([⟨ptr A1 0 4,0,oC o⟩,⟨ptr A2 0 3,0,rC rg sv⟩,⟨ptr A3 0 1,0,[kv]⟩,⟨.map (some M1),0,KN kvs⟩,⟨ptr A4 0 1,0,[.map (some M1)]⟩,⟨ptr A5 0 1,0,[ow]⟩,⟨ow,3,(pre++gs.drop i).flatMap Gn.cells⟩,⟨ptr AK 0 4,0,oC o⟩,⟨ptr AL 0 3,0,rC rg sv⟩]:List Ob)++(pre++gs.drop i).map Gn.row).Perm (([⟨ptr A1 0 4,0,oC o⟩,⟨ptr A2 0 3,0,rC rg sv⟩,⟨ptr A3 0 1,0,[kv]⟩,⟨.map (some M1),0,KN kvs⟩,⟨ptr A4 0 1,0,[.map (some M1)]⟩,⟨ptr A5 0 1,0,[ow]⟩,⟨ow,3,(pre++gs.drop i).flatMap Gn.cells⟩,⟨ptr AK 0 4,0,oC o⟩,⟨ptr AL 0 3,0,rC rg sv⟩,⟨(iB gs i).w,2,pr (iB gs i).l++(iB gs i).tl⟩]:List Ob)++(pre.map Gn.row++(gs.drop (i+1)).map Gn.row)):=by
   rw[dA,show(gs.drop i).map Gn.row=(iB gs i).row::(gs.drop (i+1)).map Gn.row from by rw[hdr];rfl]
   exact(List.perm_middle (l₁:=pre.map Gn.row)).append_left ([⟨ptr A1 0 4,0,oC o⟩,⟨ptr A2 0 3,0,rC rg sv⟩,⟨ptr A3 0 1,0,[kv]⟩,⟨.map (some M1),0,KN kvs⟩,⟨ptr A4 0 1,0,[.map (some M1)]⟩,⟨ptr A5 0 1,0,[ow]⟩,⟨ow,3,(pre++gs.drop i).flatMap Gn.cells⟩,⟨ptr AK 0 4,0,oC o⟩,⟨ptr AL 0 3,0,rC rg sv⟩]:List Ob)
  have hS9p:=hS9.perm hP
  have hF2:=hS9p.sub (fq _ _)
  have hgc:(iB gs i).v.cells=#[(iB gs i).v]∧oneCell (iB gs i).v=true∧nO (iB gs i).v=true:=(hF2.bZ (cel:=jS) (xs:=(iB gs i).l) 9 rfl (fun _=>rfl) rfl).cells
  have hgll:(iB gs i).l.length<100000000:=by
   rw[hgm _ (iE hil)]
   have:=a1q hf rg (iB gs i).c
   omega
  obtain⟨X,hBX,hS25⟩:=hF2.ax (os:=[⟨ptr A1 0 4,0,_⟩,⟨ptr A2 0 3,0,_⟩,⟨ptr A3 0 1,0,_⟩,⟨.map (some M1),0,_⟩,⟨ptr A4 0 1,0,_⟩,⟨ptr A5 0 1,0,_⟩,⟨ow,3,_⟩,⟨ptr AK 0 4,0,_⟩,⟨ptr AL 0 3,0,_⟩,⟨(iB gs i).w,2,_⟩])
  simp(disch:=omega) only[↓RA,RZ,simprocAttr,hn,g64,g66,(hS25.av 6 rfl (fun _=>rfl)).idx,(hS25.av 6 rfl (fun _=>rfl)).ag,Gn.cells,q4,hni]
  refine hS25.eNew 3 [I 0,I 0,(.slice none 0 0)] rfl rfl rfl c0G fun A8 H22 hS26=> ?_
  simp only[RT]at hS26
  simp(disch:=omega) only[↓RA,RZ,simprocAttr,hn,q4]
  refine hS26.aa 10 rfl [I (iB gs i).c.1,I (iB gs i).c.2,(iB gs i).v] rfl (by simp[OC,hgc.2.1]) c0G (by simp) fun H23 hS27=> ?_
  simp only[RT]at hS27
  simp(disch:=omega) only[↓RA,RZ,simprocAttr,q4]
  refine Wp.aO jZ [(0,6)] (by kernel_rfl) (by kernel_rfl) ?_
  simp(disch:=omega) only[↓RA,RZ,simprocAttr,hn,rE,g11,hS27.ld 5 rfl,hS27.ld 10 rfl]
  have hSc:=hS27
  have hM1:=hS27.pick (os':=[⟨(iB gs i).w,2,_⟩]) [9] (by decide) rfl
  have hR1:=hS27.pick (os':=[⟨(iB gs i).w,2,_⟩,⟨ptr A1 0 4,0,_⟩,⟨ptr A2 0 3,0,_⟩,⟨ptr A3 0 1,0,_⟩,⟨.map (some M1),0,_⟩,⟨ptr A4 0 1,0,_⟩,⟨ptr A5 0 1,0,_⟩,⟨ow,3,_⟩,⟨ptr AK 0 4,0,_⟩,⟨ptr AL 0 3,0,_⟩,⟨ptr A8 0 3,0,_⟩]) [9,0,1,2,3,4,5,6,7,8,10] (by decide) rfl
  refine iJ (c3Q hM1.aH hgll 42 [ptr A4 0 1] (fun c=>decide (1<pC kvs c)) (fun c _ H1 os hS'=>b5y c A4 M1 kvs (hSc.cM 4 9 rfl rfl (by decide) hS').var (hSc.cM 3 9 rfl rfl (by decide) hS'))) ?_
  rintro r H24⟨rest9,hrv,hT5⟩
  have hS28:=hR1.frame hT5
  simp only[RT]at hS28
  have hrc:r.cells=#[r]∧oneCell r=true∧nO r=true:=by
   rw[hrv]
   exact(hS28.bZ (cel:=jS) (xs:=((iB gs i).l.filter fun c=> !decide (1<pC kvs c))) 0 rfl (fun _=>rfl) rfl).cells
  simp(disch:=omega) only[↓RA,RZ,simprocAttr,hn,(hS28.av 7 rfl (fun _=>rfl)).idx,(hS28.av 7 rfl (fun _=>rfl)).bh]
  refine hS28.aR 7 rfl [r] (by rw[hrc.1]) (by simp[hrc.2.1]) c3g (by simp) (by rw[iL (n:=3) (cel:=Gn.cells) (fun _=>rfl),hll];simp only[ed,ey];omega) fun H25 hS29=> ?_
  simp only[RT]at hS29
  simp(disch:=omega) only[↓RA,RZ,simprocAttr,hn,rE,g11,g64,g65,g66,hS28.ld 6 rfl]
  have hset:((pre++gs.drop i).flatMap Gn.cells).set (i*(2+1)+2) r=((pre++[(⟨(iB gs i).c,(iB gs i).w,((iB gs i).l.filter fun c=> !decide (1<pC kvs c)),rest9⟩:Gn)])++gs.drop (i+1)).flatMap Gn.cells:=by
   have h5:=zX (n:=3) (cel:=Gn.cells) (fun _=>rfl) (pre++gs.drop i) i 2 [r] (⟨(iB gs i).c,(iB gs i).w,((iB gs i).l.filter fun c=> !decide (1<pC kvs c)),rest9⟩:Gn) (by rw[hll];exact hil) (by simp) (by rw[hni,hrv];rfl)
   rw[lL,pO]at h5
   rw[show i*(2+1)+2=i*3+2 from rfl,h5,dX _ _ (by omega),hdr,hpl,gF,fw,dD]
   rfl
  rw[hset]at hS29
  have hEnd:=hS29.pick (os':=[⟨ptr A1 0 4,0,oC o⟩,⟨ptr A2 0 3,0,rC rg sv⟩,⟨ptr A3 0 1,0,[kv]⟩,⟨.map (some M1),0,KN kvs⟩,⟨ptr A4 0 1,0,[.map (some M1)]⟩,⟨ptr A5 0 1,0,[ow]⟩,⟨ow,3,((pre++[(⟨(iB gs i).c,(iB gs i).w,((iB gs i).l.filter fun c=> !decide (1<pC kvs c)),rest9⟩:Gn)])++gs.drop (i+1)).flatMap Gn.cells⟩,⟨ptr AK 0 4,0,oC o⟩,⟨ptr AL 0 3,0,rC rg sv⟩,⟨(iB gs i).w,2,pr ((iB gs i).l.filter fun c=> !decide (1<pC kvs c))++rest9⟩]) [1,2,3,4,5,6,7,8,9,0] (by decide) rfl
  have hfr:=hS9p.frame (hBX▸hEnd)
  have hPe:(([⟨ptr A1 0 4,0,oC o⟩,⟨ptr A2 0 3,0,rC rg sv⟩,⟨ptr A3 0 1,0,[kv]⟩,⟨.map (some M1),0,KN kvs⟩,⟨ptr A4 0 1,0,[.map (some M1)]⟩,⟨ptr A5 0 1,0,[ow]⟩,⟨ow,3,((pre++[(⟨(iB gs i).c,(iB gs i).w,((iB gs i).l.filter fun c=> !decide (1<pC kvs c)),rest9⟩:Gn)])++gs.drop (i+1)).flatMap Gn.cells⟩,⟨ptr AK 0 4,0,oC o⟩,⟨ptr AL 0 3,0,rC rg sv⟩,⟨(iB gs i).w,2,pr ((iB gs i).l.filter fun c=> !decide (1<pC kvs c))++rest9⟩]:List Ob)++(pre.map Gn.row++(gs.drop (i+1)).map Gn.row)).Perm (([⟨ptr A1 0 4,0,oC o⟩,⟨ptr A2 0 3,0,rC rg sv⟩,⟨ptr A3 0 1,0,[kv]⟩,⟨.map (some M1),0,KN kvs⟩,⟨ptr A4 0 1,0,[.map (some M1)]⟩,⟨ptr A5 0 1,0,[ow]⟩,⟨ow,3,((pre++[(⟨(iB gs i).c,(iB gs i).w,((iB gs i).l.filter fun c=> !decide (1<pC kvs c)),rest9⟩:Gn)])++gs.drop (i+1)).flatMap Gn.cells⟩,⟨ptr AK 0 4,0,oC o⟩,⟨ptr AL 0 3,0,rC rg sv⟩]:List Ob)++((pre++[(⟨(iB gs i).c,(iB gs i).w,((iB gs i).l.filter fun c=> !decide (1<pC kvs c)),rest9⟩:Gn)])++gs.drop (i+1)).map Gn.row):=by
   have e:((pre++[(⟨(iB gs i).c,(iB gs i).w,((iB gs i).l.filter fun c=> !decide (1<pC kvs c)),rest9⟩:Gn)])++gs.drop (i+1)).map Gn.row=pre.map Gn.row++((⟨(iB gs i).c,(iB gs i).w,((iB gs i).l.filter fun c=> !decide (1<pC kvs c)),rest9⟩:Gn).row::(gs.drop (i+1)).map Gn.row):=by
    rw[dA,dA,dD]
    rfl
   rw[e]
   exact(List.perm_middle (l₁:=pre.map Gn.row)).symm.append_left ([⟨ptr A1 0 4,0,oC o⟩,⟨ptr A2 0 3,0,rC rg sv⟩,⟨ptr A3 0 1,0,[kv]⟩,⟨.map (some M1),0,KN kvs⟩,⟨ptr A4 0 1,0,[.map (some M1)]⟩,⟨ptr A5 0 1,0,[ow]⟩,⟨ow,3,((pre++[(⟨(iB gs i).c,(iB gs i).w,((iB gs i).l.filter fun c=> !decide (1<pC kvs c)),rest9⟩:Gn)])++gs.drop (i+1)).flatMap Gn.cells⟩,⟨ptr AK 0 4,0,oC o⟩,⟨ptr AL 0 3,0,rC rg sv⟩]:List Ob)
  exact⟨n-1,by omega,i+1,pre++[(⟨(iB gs i).c,(iB gs i).w,((iB gs i).l.filter fun c=> !decide (1<pC kvs c)),rest9⟩:Gn)],⟨by omega,by rw[dh,hpl];rfl,by
   rw[dA,hpk,pJ gs i hil,dA]
   rfl⟩,by simp,hfr.perm hPe⟩
 have hie:i=gs.length:=by omega
 have hdn:gs.drop i=[]:=gh (by omega)
 rw[hdn,dr]at hS9
 have hFz:=hF
 have hnt:=(hF.av (cel:=Gn.cells) 6 rfl (fun _=>rfl)).bB
 simp(disch:=omega) only[↓RA,RZ,simprocAttr,hn,g11,hF.ld 5 rfl,c0H,q4,hnt]
 rw[hdn,dr]at hFz
 refine⟨ow,pre,rfl,?_,hFz.cj 6 rfl (fun _=>rfl),fun g hg=> ?_,hFz.forget⟩
 ·rw[hpk,hie,ek]
  have e1:gs.map (fun g:Gn=>(g.c,g.l.filter fun p=> !decide (1<pC kvs p)))=(gs.map Gn.key).map fun k=>(k.1,k.2.filter fun p=> !decide (1<rQ o rg (wU ks (kG o)) p)):=by
   rw[List.map_map]
   refine List.map_congr_left fun g _=> ?_
   show(g.c,_)=(g.c,_)
   congr 1
   refine List.filter_congr fun p _=> ?_
   rw[hcn p]
  rw[e1,hgs,List.map_map]
  rfl
 ·have hm:g.row∈([⟨ptr A1 0 4,0,oC o⟩,⟨ptr A2 0 3,0,rC rg sv⟩,⟨ptr A3 0 1,0,[kv]⟩,⟨.map (some M1),0,KN kvs⟩,⟨ptr A4 0 1,0,[.map (some M1)]⟩,⟨ptr A5 0 1,0,[ow]⟩,⟨ow,3,pre.flatMap Gn.cells⟩,⟨ptr AK 0 4,0,oC o⟩,⟨ptr AL 0 3,0,rC rg sv⟩]++pre.map Gn.row):=eN _ (eV hg)
  refine⟨⟨tT ((hS9.own _ hm).rd (show g.row.size≠0 from(by decide:(2:Nat)≠0))),kE,by decide⟩,fun b hb=> ?_⟩
  rcases hS9.new _ hm b (uI hb)with h|h
  ·exact h
  ·exact h.elim
end Go.Ds
namespace Go.Ds
open Go.Proofs
variable {H:Heap}
set_option maxRecDepth 10000
set_option maxHeartbeats 1000000
end Go.Ds
namespace Go.Ds
open Go.Proofs
variable {H:Heap}
set_option maxRecDepth 10000
theorem Org.cY{o:Org}(h:organE o=0):o.ranks.length≤60∧∀j,j<o.ranks.length→(iB o.ranks j).wind.length≤128:=by
 unfold organE at h
 split at h
 ·omega
 split at h
 ·omega
 rename_i _ h2
 split at h
 ·rename_i hh;exact absurd h hh
 rename_i h3
 have h3:=dG.1 h3
 refine⟨by omega,fun j hj=> ?_⟩
 have e:=vH h3 j hj
 unfold nM at e
 split at e
 ·rename_i hh;exact absurd e hh
 rename_i hr
 have hr:=dG.1 hr
 unfold rankE at hr
 split at hr
 ·omega
 split at hr
 ·rename_i hh;exact absurd hr hh
 split at hr
 ·omega
 split at hr
 ·omega
 split at hr
 ·omega
 ·omega
end Go.Ds
namespace Go.Ds
open Go.Proofs Go.Proofs.Tryz
variable {H:Heap}
set_option maxRecDepth 10000
set_option maxHeartbeats 1000000
theorem b9d(v:Value)(xs:List Ct)(hv:Sl 2 jS H v xs)(hl:xs.length<1000000000000000)(p:Ct):Fn prog 15 [v,.agg #[I p.1,I p.2]] H fun r H'=>r=.bool (decide (p∈xs))∧St prog H H' []:=by
 refine .aD func15 rfl (by kernel_rfl) (m:=18) rfl fun l hn g0 g1=> ?_
 simp(disch:=omega) only[↓RA,RB,simprocAttr,g1]
 refine(sR H).eNew 2 [I p.1,I p.2] rfl rfl rfl rB fun A1 H1 hS1=> ?_
 simp only[RT]at hS1
 simp(disch:=omega) only[↓RA,RB,simprocAttr]
 refine Wp.al (fun n l H'=>l.length=18∧get l 0=v∧get l 3=(ptr A1 0 2)∧∃(j:Nat),(n+j=xs.length∧∀q,q<j→iB xs q≠p)∧get l 5=I j∧St prog H H' [⟨ptr A1 0 2,0,[I p.1,I p.2]⟩]) xs.length ?_ ?_
 ·simp(disch:=omega) only[RB,RC,simprocAttr,hn,g0]
  exact⟨0,⟨by omega,fun q hq=>absurd hq (dL _)⟩,rfl,hS1⟩
 rintro n l H2⟨hn,g0,g3,j,⟨hj,hz⟩,g5,hS2⟩
 simp(disch:=omega) only[↓RA,RZ,simprocAttr,hn,g0,g5,(hS2.sl hv).len]
 refine iA (fun q1=> ?_) (fun q1=> ?_)
 ·simp(disch:=omega) only[↓RA,RC,simprocAttr,q1]
  refine Wp.drw jZ (by kernel_rfl) ?_
  simp(disch:=omega) only[↓RA,RZ,simprocAttr,hn,g0,g3,g5,(hS2.sl hv).idx,(hS2.sl hv).ag,jS,hS2.ag 0 rfl]
  refine iA (fun q2=> ?_) (fun q2=> ?_)
  ·have hm:p∈xs:=by
    have e:iB xs j=p:=gz q2.1 q2.2
    rw[←e]
    exact iE (by omega)
   simp(disch:=omega) only[↓RA,RZ,simprocAttr,hn,c4a,q2]
   exact⟨by rw[decide_eq_true hm],hS2.forget⟩
  simp(disch:=omega) only[↓RA,RZ,simprocAttr,hn,g0,g3,g5,q2]
  exact⟨n-1,by omega,j+1,⟨by omega,fun q hq=>by
   rcases du.1 hq with e|e
   ·exact hz q e
   ·rw[e]
    intro e2
    exact q2 ⟨congrArg Prod.fst e2,congrArg Prod.snd e2⟩⟩,by simp,hS2⟩
 have hm:p∉xs:=fun hp=>by
  obtain⟨q,hq,e⟩:=dR.1 hp
  exact hz q (by omega) (by rw[jR xs q hq,e])
 simp(disch:=omega) only[↓RA,RZ,simprocAttr,hn,c4a,q1]
 exact⟨by rw[decide_eq_false hm],hS2.forget⟩
theorem a1C{o:Org}{ks:List Nt}(hok:∀x∈ks,Nt.Ok x)(h:pY o ks=0):wU ks (kG o)=iG ks:=by
 rw[←b7j hok h]
 unfold wU kG a8D
 rw[List.filter_flatMap]
 congr 1
 funext i
 unfold sC a9y
 rw[List.filter_map]
 rfl
theorem c1N{α:Type}{l:List α}{x y:α}(hx:x∈l)(hy:y∈l)(h:x≠y):2≤l.length:=by
 cases l with
 | nil=>exact absurd hx eJ
 | cons a l=>
   cases l with
   | nil=>
     rw[dC.1 hx,dC.1 hy]at h
     exact absurd rfl h
   | cons b l=>simp
theorem b7o{o:Org}{rg:Reg}{ks:List Nt}{gs:List Gn}(hr:rkE o rg ks=0)(hok:∀x∈ks,Nt.Ok x)(hg:gs.map Gn.key=a3G o rg ks):
 gs.length=(iG ks).length∧∀i,i<gs.length→(iB gs i).c=iB (iG ks) i∧(iB gs i).l=(lI o rg (iB (iG ks) i)).filter fun p=> !decide (1<rQ o rg (iG ks) p):=by
 unfold a3G at hg
 rw[if_pos hr,a1C hok (b5q hr).2]at hg
 have hl:=congrArg List.length hg
 rw[dF,dF]at hl
 refine⟨hl,fun i hi=> ?_⟩
 have h2:=congrArg (fun l=>l[i]?) hg
 simp only[eh]at h2
 rw[dx hi,dx (by omega:i<(iG ks).length),←jR gs i hi,←jR (iG ks) i (by omega)]at h2
 simp only[dP,dE]at h2
 exact⟨congrArg Prod.fst h2,congrArg Prod.snd h2⟩
theorem b7p(x:Nt)(hx:Nt.Ok x)(z:Int)(hz:isN z):Fn prog 13 [.agg #[.int .u64 x.1,.int .u64 x.2],I z] H fun r H'=>r=.bool (mH x z)∧St prog H H' []:=by
 obtain⟨h0,h1⟩:=hz
 obtain⟨m,rfl⟩:=fS h0
 refine .aD func13 rfl (by kernel_rfl) (m:=28) rfl fun l hn g0 g1=> ?_
 simp(disch:=omega) only[↓RA,RB,simprocAttr,g0]
 refine(sR H).eNew 2 [(.int .u64 x.1),(.int .u64 x.2)] rfl rfl rfl lT fun A1 H1 hS1=> ?_
 simp only[RT]at hS1
 simp(disch:=omega) only[↓RA,RZ,simprocAttr,hn,g1]
 refine iO (fun b1=> ?_) (fun b1=> ?_)
 ·exfalso;first|omega|(simp at b1;omega)
 simp(disch:=omega) only[↓RA,RZ,simprocAttr,hn,g1,b1]
 refine iA (fun b2=> ?_) (fun b2=> ?_)
 ·exfalso;first|omega|(simp at b2;omega)
 simp(disch:=omega) only[↓RA,RZ,simprocAttr,hn,g1,b1,b2]
 refine iA (fun q1=> ?_) (fun q1=> ?_)
 ·have e1:=a3o x.1 m hx.1
  have e2:=a1M (x.1>>>m) (wP m hx.1)
  simp(disch:=omega) only[↓RA,RZ,simprocAttr,hn,g1,hS1.ld 0 rfl,c4y,b1,b2,q1,e1,e2]
  have e3:mH x (m:Int)=decide (((x.1>>>m%2:Nat):Int)=1):=by
   unfold mH
   rw[if_pos q1,fj,tb]
   exact decide_eq_decide.2 (by omega)
  exact⟨by rw[e3],hS1.forget⟩
 have e0:(m:Int)-64=((m-64:Nat):Int):=by omega
 have e1:=a3o x.2 (m-64) hx.2
 have e2:=a1M (x.2>>>(m-64)) (wP (m-64) hx.2)
 have e3:mH x (m:Int)=decide (((x.2>>>(m-64)%2:Nat):Int)=1):=by
  unfold mH
  rw[if_neg q1,e0,fj,tb]
  exact decide_eq_decide.2 (by omega)
 simp(disch:=omega) only[↓RA,RZ,simprocAttr,hn,g1,hS1.ld 0 rfl,c4y,b1,b2,q1,e0,e1,e2]
 exact⟨by rw[e3],hS1.forget⟩
theorem a4E{l:List Ct}{x:Ct}(hn:l.Nodup)(h:2≤l.length):∃y∈l,y≠x:=by
 cases l with
 | nil=>exact absurd h (by simp)
 | cons a l=>
   cases l with
   | nil=>exact absurd h (by simp)
   | cons b l=>
     by_cases ha:a=x
     ·refine⟨b,by simp,fun hb=> ?_⟩
      have:=(List.nodup_cons.1 hn).1
      rw[ha,←hb]at this
      exact this (by simp)
     ·exact⟨a,by simp,ha⟩
theorem b6V{o:Org}{rg:Reg}{ks:List Nt}{i:Nat}(hi:i<(iG ks).length){p:Ct}(hp:p∈lI o rg (iB (iG ks) i)):
 1<rQ o rg (iG ks) p↔∃q,q<(iG ks).length∧q≠i∧p∈lI o rg (iB (iG ks) q):=by
 have hnd:(iG ks).Nodup:=(vC ks).imp fun{a b}h e=>by rw[e]at h;exact sH h
 constructor
 ·intro h
  unfold rQ at h
  obtain⟨y,hy,hne⟩:=a4E (x:=iB (iG ks) i) (hnd.filter fun c=>decide (p∈lI o rg c)) (by omega)
  obtain⟨hy1,hy2⟩:=eo.1 hy
  obtain⟨q,hq,e⟩:=dR.1 hy1
  rw[←jR _ _ hq]at e
  refine⟨q,hq,fun hqi=>hne ?_,?_⟩
  ·rw[←e,hqi]
  ·rw[e];simpa using hy2
 ·rintro⟨q,hq,hqi,hpq⟩
  have hne:iB (iG ks) q≠iB (iG ks) i:=fun e=>by
   rcases fu hqi with h|h
   ·have:=a5k (vC ks) (i:=q) (j:=i) h hi
    rw[e]at this
    exact sH this
   ·have:=a5k (vC ks) (i:=i) (j:=q) h hq
    rw[e]at this
    exact sH this
  have:=c1N (l:=(iG ks).filter fun c=>decide (p∈lI o rg c)) (eo.2 ⟨iE hq,decide_eq_true hpq⟩) (eo.2 ⟨iE hi,decide_eq_true hp⟩) hne
  unfold rQ
  omega
theorem b6h(ks:List Nt)(d:List Ct)(i:Nat)(hi:i<d.length):wU ks (d.take (i+1))=wU ks (d.take i)++(if mH (iB ks (iB d i).1.toNat) (iB d i).2 then[iB d i]else[]):=by
 rw[pJ d i hi,a5A]
def wF(o:Org)(rg:Reg)(ks:List Nt)(c:Ct)(j:Nat):List Ct:=((lI o rg c).take j).filter fun p=> !decide (1<rQ o rg (iG ks) p)
theorem b4i(o:Org)(rg:Reg)(ks:List Nt)(c:Ct)(j:Nat):(wF o rg ks c j).length≤j:=by
 refine dI (dS _ _) ?_
 rw[eI]
 omega
theorem a8X(o:Org)(rg:Reg)(ks:List Nt)(c:Ct)(j:Nat)(hj:j<(lI o rg c).length):wF o rg ks c (j+1)=wF o rg ks c j++(if 1<rQ o rg (iG ks) (iB (lI o rg c) j)then[]else[iB (lI o rg c) j]):=by
 unfold wF
 rw[pJ (lI o rg c) j hj,ew]
 congr 1
 by_cases h:1<rQ o rg (iG ks) (iB (lI o rg c) j)
 ·rw[if_pos h];simp[h]
 ·rw[if_neg h];simp[h]
theorem b0g(o:Org)(rg:Reg)(ks:List Nt)(c:Ct):wF o rg ks c (lI o rg c).length=(lI o rg c).filter fun p=> !decide (1<rQ o rg (iG ks) p):=by
 unfold wF
 rw[ek]
theorem a8Z(hG:Glob gH H)(hkn:b9g)(p:Pln)(hp:p.In H)(hk:p.Ok)(b:Nat→Nat)(hb:∀i,b i<256)(c:Nat→Nat)(hc:∀i,c i<65536):
 Fn prog 3 [.agg #[p.rv,p.dv,p.cv],.agg #[.int .u8 (b 0),.int .u8 (b 1),.int .u8 (b 2),.int .u8 (b 3),.int .u8 (b 4)],.agg #[.int .u16 (c 0),.int .u16 (c 1),.int .u16 (c 2)]] H fun r H'=>r=.bool true∧St prog H H' []:=by
 refine .bO func3 rfl (by kernel_rfl) (m:=141) rfl fun l hn g0 g1 g2=> ?_
 simp(disch:=omega) only[↓RA,RB,simprocAttr,g0]
 refine(sR H).eNew 3 [p.rv,p.dv,p.cv] rfl rfl (by simp[((sR H).sl hp.1).cells.2.1,((sR H).sl hp.2.1).cells.2.1,((sR H).sl hp.2.2.2.1).cells.2.1]) b7V fun A1 H1 hS1=> ?_
 simp only[RT]at hS1
 simp(disch:=omega) only[↓RA,RB,simprocAttr,g1]
 refine hS1.eNew 5 [(.int .u8 (b 0)),(.int .u8 (b 1)),(.int .u8 (b 2)),(.int .u8 (b 3)),(.int .u8 (b 4))] rfl rfl rfl c1I fun A2 H2 hS2=> ?_
 simp only[RT]at hS2
 simp(disch:=omega) only[↓RA,RB,simprocAttr,g2]
 refine hS2.eNew 3 [(.int .u16 (c 0)),(.int .u16 (c 1)),(.int .u16 (c 2))] rfl rfl rfl c2m fun A3 H3 hS3=> ?_
 simp only[RT]at hS3
 simp(disch:=omega) only[↓RA,RZ,simprocAttr]
 refine hS3.cF (hkn _) fun H4 hS4=> ?_
 simp(disch:=omega) only[↓RA,RZ,simprocAttr,hn,hS4.ag 0 rfl]
 refine hS4.cF (b9b p (hp.ab hS4)) fun H5 hS5=> ?_
 simp(disch:=omega) only[↓RA,RZ,simprocAttr,hn]
 refine jE (fun h1=> ?_) (fun h1=> ?_)
 ·simp(disch:=omega) only[↓RA,RZ,simprocAttr]
  refine hS5.cF (hkn _) fun H6 hS6=> ?_
  simp(disch:=omega) only[↓RA,RZ,simprocAttr,hn,tR3,h1]
  exact hS6.forget
 have hf:wD p=true:=by simpa using h1
 simp(disch:=omega) only[↓RA,RZ,simprocAttr,hn,hS5.ag 0 rfl,h1]
 refine iJ (b2u (hS5.gl hG) p (hp.ab hS5) hk hf) ?_
 rintro r H7⟨o,rfl,ho,hm,hT4⟩
 have hS7:=hS5.trans hT4
 simp only[RT]at hS7
 have hS0:=hS7
 have hG2:=hS0.gl hG
 have hoe:=hm.ok.organE
 have hrg:=b2P b hoe
 have hf0:=Org.bg hoe
 obtain⟨k1,k2,k3⟩:=hm.small hf
 have hok:=b2U (o:=o) hb k2
 have hkl:=sX o c
 have hkO:=a6q hf0 c
 have hkE:=a9W hoe c
 simp(disch:=omega) only[↓RA,RZ,simprocAttr]
 refine(sR H7).eNew 4 [(.string ⟨#[]⟩),(.slice none 0 0),(.slice none 0 0),(.slice none 0 0)] rfl rfl rfl mV fun A4 H8 hS8=> ?_
 simp only[RT]at hS8
 simp(disch:=omega) only[↓RA,RB,simprocAttr,hn,h1]
 refine hS8.aa 0 rfl [(.string o.name),o.rv,o.dv,o.cv] rfl (by simp[OC,(hS8.sl ho.1).cells.2.1,(hS8.sl ho.2.2.1).cells.2.1,(hS8.sl ho.2.2.2.2.1).cells.2.1]) mV (by simp) fun H9 hS9=> ?_
 simp only[RT]at hS9
 simp(disch:=omega) only[↓RA,RB,simprocAttr,h1]
 refine Wp.aO jZ [(3,0),(4,0)] (by kernel_rfl) (by kernel_rfl) ?_
 simp(disch:=omega) only[↓RA,RZ,simprocAttr,hn,hS9.ag 0 rfl,((hS0.var 1 rfl).ab hS9.ab).ag]
 have hD:=a9d o (ho.ab hS9) k1 k2 k3 b hb
 generalize hrgE:uD o b=rg at hrg hok hD
 refine iJ (hD) ?_
 rintro r H10⟨sv,rfl,hT5⟩
 have hS10:=hS9.trans hT5
 simp only[RT]at hS10
 simp(disch:=omega) only[↓RA,RZ,simprocAttr,hn,hS10.ag 0 rfl,((hS0.var 2 rfl).ab hS10.ab).ag]
 have hP:=a9b o (ho.ab hS10) hf0 c hc
 generalize hksE:pT o c=ks at hkl hkO hkE hP
 refine iJ (hP.tr) ?_
 rintro r H11⟨-,hT6⟩
 have hS11:=hS10.trans hT6
 simp only[RT]at hS11
 obtain⟨kv,rfl⟩:∃w,w=r:=⟨r,rfl⟩
 simp(disch:=omega) only[↓RA,RZ,simprocAttr]
 refine hS11.eNew 3 [(.slice none 0 0),(.int .u64 0),(.int .u64 0)] rfl rfl rfl mP fun A5 H12 hS12=> ?_
 simp only[RT]at hS12
 simp(disch:=omega) only[↓RA,RB,simprocAttr,hn]
 refine hS12.aa 3 rfl [sv,(.int .u64 rg.cpl),(.int .u64 rg.off)] rfl (by simp[OC,(hS12.rd 1 rfl).cells.2.1]) mP (by simp) fun H13 hS13=> ?_
 simp only[RT]at hS13
 simp(disch:=omega) only[↓RA,RZ,simprocAttr,hn,hS9.ag 0 rfl,hS13.ag 0 rfl,((hS0.var 2 rfl).ab hS9.ab).ag,hS13.ag 3 rfl]
 have hrk:rkE o rg ks=0:=by unfold rkE;rw[if_neg (by rw[hrg];simp)];exact hkE
 have hrl:rg.stops.length=o.dvs.length:=(oW hrg).2
 have hplc:=b2R hkO hkE
 have hpll:=b1R hkE
 have hS1:=hS13
 refine iJ (b7z o (ho.ab hS13) rg sv ⟨hS13.av 1 rfl (fun _=>rfl),hok⟩ kv ks ⟨hS13.av 2 rfl (fun _=>rfl),by omega,hkO⟩) ?_
 rintro r H14⟨lv,gs,rfl,hgk,hlx,hgx,hT7⟩
 have hS14:=hS13.trans hT7
 simp only[RT]at hS14
 rw[hrk]
 have hlx2:=hlx.step (hS1.aJ (H':=H14))
 have hgx2:=fun g hg=>(hgx g hg).step (hS1.aJ (H':=H14))
 obtain⟨hgl,hat⟩:=b7o hrk hkO hgk
 have hplE:=a1C hkO hkE
 have hkle:=rA hf0
 have hokc:=hk
 obtain⟨X,hBX,hS15⟩:=hS14.ax (os:=[⟨ptr A4 0 4,0,_⟩,⟨sv,1,_⟩,⟨kv,2,_⟩,⟨ptr A5 0 3,0,_⟩])
 simp(disch:=omega) only[↓RA,RZ,simprocAttr,hn,hS15.ag 0 rfl]
 refine iJ ((a3k o (ho.ab (hS14.aj hBX hS15)) hf0).tr) ?_
 rintro r H15⟨-,hT8⟩
 have hS16:=hS15.trans hT8
 simp only[RT]at hS16
 obtain⟨cv,rfl⟩:∃w,w=r:=⟨r,rfl⟩
 simp(disch:=omega) only[↓RA,RZ,simprocAttr,hn,(hS16.av 4 rfl kE).len]
 have hS17:=hS16.nil 1
 simp only[RT]at hS17
 refine Wp.al (fun n l H'=>l.length=141∧get l 6=(.bool false)∧get l 7=(ptr A4 0 4)∧get l 8=(ptr A5 0 3)∧get l 9=kv∧get l 10=lv∧get l 11=I 0∧get l 45=cv∧get l 46=I (kG o).length∧∃(i:Nat)(ov:Value),(n+i=(kG o).length)∧get l 47=I i∧get l 12=ov∧St prog X H' [⟨ptr A4 0 4,0,[(.string o.name),o.rv,o.dv,o.cv]⟩,⟨sv,1,rg.stops.flatMap (one u64)⟩,⟨kv,2,ks.flatMap zI⟩,⟨ptr A5 0 3,0,[sv,(.int .u64 rg.cpl),(.int .u64 rg.off)]⟩,⟨cv,2,pr (kG o)⟩,⟨ov,2,pr (wU ks ((kG o).take i))⟩]) (kG o).length ?_ ?_
 ·simp(disch:=omega) only[RB,RC,simprocAttr,hn]
  exact⟨0,.slice none 0 0,by omega,rfl,rfl,hS17⟩
 rintro n l H16⟨hn,g6,g7,g8,g9,rE,g11,g45,g46,i,ov,hi,g47,g12,hS18⟩
 simp(disch:=omega) only[↓RA,RB,simprocAttr,hn,g46,g47]
 refine iA (fun c1=> ?_) (fun c1=> ?_)
 ·have hil:i<(kG o).length:=by omega
  obtain⟨d,z,hdz,hd,hz⟩:=a4Z hf0 (iE hil)
  have hd1:(iB (kG o) i).1=d:=by rw[hdz]
  have hd2:(iB (kG o) i).2=z:=by rw[hdz]
  have htk:=b6h ks (kG o) i hil
  have hple:(wU ks ((kG o).take i)).length≤1024:=by
   refine dI (dS _ _) ?_
   rw[eI]
   omega
  rw[hdz]at htk
  simp only[fj]at htk
  simp(disch:=omega) only[↓RA,RZ,simprocAttr,hn,g45,g47,(hS18.av 4 rfl kE).idx,(hS18.av 4 rfl kE).ag,jS,c1,hd1,hd2]
  refine hS18.eNew 2 [I 0,I 0] rfl rfl rfl pQ fun A6 H17 hS19=> ?_
  simp only[RT]at hS19
  simp(disch:=omega) only[↓RA,RZ,simprocAttr,hn,c1]
  refine hS19.aa 6 rfl [I d,I z] rfl rfl pQ (by simp) fun H18 hS20=> ?_
  simp only[RT]at hS20
  simp(disch:=omega) only[↓RA,RZ,simprocAttr,c1]
  refine Wp.drw jZ (by kernel_rfl) ?_
  simp(disch:=omega) only[↓RA,RZ,simprocAttr,hn,g9,hS20.ld 6 rfl,(hS20.av 2 rfl (fun _=>rfl)).idx,(hS20.av 2 rfl (fun _=>rfl)).ag,zI]
  refine hS20.cF (b7p (iB ks d) (hkO _ (iE (by omega))) z hz) fun H19 hS21=> ?_
  simp(disch:=omega) only[↓RA,RB,simprocAttr,hn]
  refine jE (fun c2=> ?_) (fun c2=> ?_)
  ·rw[if_pos c2]at htk
   simp(disch:=omega) only[↓RA,RZ,simprocAttr,hn,g12,hS21.ag 6 rfl,c2]
   refine hS21.ai [I d,I z] a0V b2h rfl rfl (by simp[Value.cells]) rfl rfl (by decide) (by decide) fun w1 H20 hS22=> ?_
   simp only[RT]at hS22
   simp(disch:=omega) only[↓RA,RZ,simprocAttr,hn,c2]
   refine hS22.aq 5 rfl (hS22.rd 7 rfl) a0V (by rw[iF];simp only[ed,ey];omega) fun w2 H21 hS23=> ?_
   simp only[RT]at hS23
   simp(disch:=omega) only[↓RA,RZ,simprocAttr,hn,g6,g7,g8,g9,rE,g11,g45,g46,g47,c2]
   have happ:pr (wU ks ((kG o).take i))++[I d,I z]=pr (wU ks ((kG o).take (i+1))):=by
    rw[htk,jN]
    rfl
   rw[happ]at hS23
   exact⟨n-1,by omega,i+1,w2,by omega,by simp,rfl,hS23.pick [0,1,2,3,4,5] (by decide) rfl⟩
  rw[if_neg (by simpa using c2),dr]at htk
  simp(disch:=omega) only[↓RA,RZ,simprocAttr,hn,g6,g7,g8,g9,rE,g11,g45,g46,g47,g12,c2]
  refine⟨n-1,by omega,i+1,ov,by omega,by simp,rfl,?_⟩
  rw[htk]
  exact hS21.pick [0,1,2,3,4,5] (by decide) rfl
 have hie:i=(kG o).length:=by omega
 rw[hie,ek,hplE]at hS18
 simp(disch:=omega) only[↓RA,RZ,simprocAttr,hn,rE,g11,g12,(hlx2.step (hS18.kept hBX)).1.len,(hS18.av 5 rfl kE).len,c1]
 refine iA (fun c9=> ?_) (fun c9=> ?_)
 ·exfalso;first|omega|(simp at c9;omega)
 simp(disch:=omega) only[↓RA,RZ,simprocAttr,c1,c9]
 refine Wp.al (fun n l H'=>l.length=141∧get l 7=(ptr A4 0 4)∧get l 8=(ptr A5 0 3)∧get l 10=lv∧∃(i:Nat),(n+i=(iG ks).length)∧get l 15=I i∧get l 12=ov∧St prog X H' [⟨ptr A4 0 4,0,[(.string o.name),o.rv,o.dv,o.cv]⟩,⟨sv,1,rg.stops.flatMap (one u64)⟩,⟨kv,2,ks.flatMap zI⟩,⟨ptr A5 0 3,0,[sv,(.int .u64 rg.cpl),(.int .u64 rg.off)]⟩,⟨cv,2,pr (kG o)⟩,⟨ov,2,pr (iG ks)⟩]) (iG ks).length ?_ ?_
 ·simp(disch:=omega) only[RB,RC,simprocAttr,hn,g7,g8,rE,g12]
  exact⟨0,by omega,rfl,hS18⟩
 rintro n l H22⟨hn,g7,g8,rE,i,hi,g15,g12,hS24⟩
 simp(disch:=omega) only[↓RA,RZ,simprocAttr,hn,g15,g12,(hS24.av 5 rfl kE).len]
 refine iA (fun d1=> ?_) (fun d1=> ?_)
 ·have hil:i<(iG ks).length:=by omega
  obtain⟨hgc,hgli⟩:=hat i (by omega)
  have hol:=a1q hf0 rg (iB (iG ks) i)
  simp(disch:=omega) only[↓RA,RZ,simprocAttr,d1]
  refine Wp.drw jZ (by kernel_rfl) ?_
  simp(disch:=omega) only[↓RA,RZ,simprocAttr,hn,g7,g8,g15,g12,hS24.ag 0 rfl,hS24.ag 3 rfl,(hS24.av 5 rfl kE).idx,(hS24.av 5 rfl kE).ag,jS]
  have hS3:=hS24
  refine iJ (b0w o (ho.ab (hS14.aj hBX hS24)) rg sv ⟨hS24.av 1 rfl (fun _=>rfl),hok⟩ (iB (iG ks) i)) ?_
  rintro r H23⟨hq,hT10⟩
  have hS25:=hS24.trans hT10
  simp only[RT]at hS25
  obtain⟨qv,rfl⟩:∃w,w=r:=⟨r,rfl⟩
  have hq2:=hq.step (hS3.aJ (H':=H23))
  have hlx3:=hlx2.step (hS25.kept hBX)
  have hgx3:=(hgx2 _ (iE (by omega:i<gs.length))).step (hS25.kept hBX)
  obtain⟨Z,hBZ,hS26⟩:=hS25.ax (os:=[⟨ptr A4 0 4,0,_⟩,⟨sv,1,_⟩,⟨kv,2,_⟩,⟨ptr A5 0 3,0,_⟩,⟨cv,2,_⟩,⟨ov,2,_⟩])
  simp(disch:=omega) only[↓RA,RZ,simprocAttr,hn,(hq2.step (hS26.kept hBZ)).1.len]
  have hS27:=hS26.nil 1
  simp only[RT]at hS27
  refine Wp.al (fun n l H'=>l.length=141∧get l 7=(ptr A4 0 4)∧get l 8=(ptr A5 0 3)∧get l 10=lv∧get l 12=ov∧get l 15=I i∧get l 85=qv∧get l 86=I (lI o rg (iB (iG ks) i)).length∧∃(j:Nat)(wv:Value),(n+j=(lI o rg (iB (iG ks) i)).length)∧get l 87=I j∧get l 16=wv∧St prog Z H' [⟨ptr A4 0 4,0,[(.string o.name),o.rv,o.dv,o.cv]⟩,⟨sv,1,rg.stops.flatMap (one u64)⟩,⟨kv,2,ks.flatMap zI⟩,⟨ptr A5 0 3,0,[sv,(.int .u64 rg.cpl),(.int .u64 rg.off)]⟩,⟨cv,2,pr (kG o)⟩,⟨ov,2,pr (iG ks)⟩,⟨wv,2,pr (wF o rg ks (iB (iG ks) i) j)⟩]) (lI o rg (iB (iG ks) i)).length ?_ ?_
  ·simp(disch:=omega) only[RB,RC,simprocAttr,hn,g7,g8,rE,g15,g12]
   exact⟨0,.slice none 0 0,by omega,rfl,rfl,hS27⟩
  rintro n l H24⟨hn,g7,g8,rE,g12,g15,g85,g86,j,wv,hj,g87,g16,hS28⟩
  simp(disch:=omega) only[↓RA,RB,simprocAttr,hn,g86,g87]
  refine iA (fun d2=> ?_) (fun d2=> ?_)
  ·have hjl:j<(lI o rg (iB (iG ks) i)).length:=by omega
   have hpm:=iE (xs:=(lI o rg (iB (iG ks) i))) hjl
   have hct:=b6V (rg:=rg) hil hpm
   have hwl:=b4i o rg ks (iB (iG ks) i) j
   simp(disch:=omega) only[↓RA,RZ,simprocAttr,hn,g85,g87,(hq2.step (hS28.kept hBZ)).1.idx,(hq2.step (hS28.kept hBZ)).1.ag,jS,d2]
   refine hS28.eNew 2 [I 0,I 0] rfl rfl rfl rB fun A7 H25 hS29=> ?_
   simp only[RT]at hS29
   simp(disch:=omega) only[↓RA,RZ,simprocAttr,hn,d2]
   refine hS29.aa 7 rfl [I (iB (lI o rg (iB (iG ks) i)) j).1,I (iB (lI o rg (iB (iG ks) i)) j).2] rfl rfl rB (by simp) fun H26 hS30=> ?_
   simp only[RT]at hS30
   simp(disch:=omega) only[↓RA,RZ,simprocAttr,d2]
   refine Wp.al (fun n l H'=>l.length=141∧get l 7=(ptr A4 0 4)∧get l 8=(ptr A5 0 3)∧get l 10=lv∧get l 12=ov∧get l 15=I i∧get l 16=wv∧get l 18=(ptr A7 0 2)∧get l 85=qv∧get l 86=I (lI o rg (iB (iG ks) i)).length∧get l 87=I j∧∃(m:Nat)(bb:Bool),(n+m=(iG ks).length∧(bb=true↔∃q,q<m∧q≠i∧(iB (lI o rg (iB (iG ks) i)) j)∈lI o rg (iB (iG ks) q)))∧get l 20=I m∧get l 19=(.bool bb)∧St prog Z H' [⟨ptr A4 0 4,0,[(.string o.name),o.rv,o.dv,o.cv]⟩,⟨sv,1,rg.stops.flatMap (one u64)⟩,⟨kv,2,ks.flatMap zI⟩,⟨ptr A5 0 3,0,[sv,(.int .u64 rg.cpl),(.int .u64 rg.off)]⟩,⟨cv,2,pr (kG o)⟩,⟨ov,2,pr (iG ks)⟩,⟨wv,2,pr (wF o rg ks (iB (iG ks) i) j)⟩,⟨ptr A7 0 2,0,[I (iB (lI o rg (iB (iG ks) i)) j).1,I (iB (lI o rg (iB (iG ks) i)) j).2]⟩]) (iG ks).length ?_ ?_
   ·simp(disch:=omega) only[RB,RC,simprocAttr,hn,g7,g8,rE,g12,g15,g85,g86,g87,g16]
    exact⟨0,false,⟨by omega,by simp⟩,rfl,rfl,hS30⟩
   rintro n l H27⟨hn,g7,g8,rE,g12,g15,g16,g18,g85,g86,g87,m,bb,⟨hm,hbb⟩,g20,g19,hS31⟩
   simp(disch:=omega) only[↓RA,RZ,simprocAttr,hn,g12,g20,(hS31.av 5 rfl kE).len]
   refine iA (fun d3=> ?_) (fun d3=> ?_)
   ·have hml:m<(iG ks).length:=by omega
    have hom:=a1q hf0 rg (iB (iG ks) m)
    simp(disch:=omega) only[↓RA,RC,simprocAttr,d3]
    refine Wp.aO jZ [(13,0)] (by kernel_rfl) (by kernel_rfl) ?_
    simp(disch:=omega) only[↓RA,RZ,simprocAttr,hn,g19]
    refine a0s (fun e1=> ?_) (fun e1=> ?_)
    ·simp(disch:=omega) only[↓RA,RZ,simprocAttr,hn,g7,g8,rE,g12,g15,g16,g18,g85,g86,g87,g20,e1]
     exact⟨n-1,by omega,m+1,true,⟨by omega,by
      obtain⟨q,h1,h2,h3⟩:=hbb.1 e1
      exact⟨fun _=>⟨q,by omega,h2,h3⟩,fun _=>rfl⟩⟩,by simp,rfl,hS31.pick [0,1,2,3,4,5,6,7] (by decide) rfl⟩
    have hno:∀q,q<m→q≠i→(iB (lI o rg (iB (iG ks) i)) j)∉lI o rg (iB (iG ks) q):=fun q h1 h2 h3=>by
     rw[hbb.2 ⟨q,h1,h2,h3⟩]at e1
     cases e1
    simp(disch:=omega) only[↓RA,RZ,simprocAttr,hn,g15,g20,e1]
    refine kB (fun e2=> ?_) (fun e2=> ?_)
    ·simp(disch:=omega) only[↓RA,RZ,simprocAttr,hn,g7,g8,g12,g20,hS31.ag 0 rfl,hS31.ag 3 rfl,(hS31.av 5 rfl kE).idx,(hS31.av 5 rfl kE).ag,jS,e1,e2]
     refine iJ (b0w o (ho.ab (hS14.aj hBX (hS25.aj hBZ hS31))) rg sv ⟨hS31.av 1 rfl (fun _=>rfl),hok⟩ (iB (iG ks) m)) ?_
     rintro r H28⟨hr9,hT11⟩
     have hS32:=hS31.trans hT11
     simp only[RT]at hS32
     simp(disch:=omega) only[↓RA,RZ,simprocAttr,hn,g18,hS32.ag 7 rfl,e1,e2]
     refine hS32.cF (b9d r (lI o rg (iB (iG ks) m)) hr9.1 (by omega) (iB (lI o rg (iB (iG ks) i)) j)) fun H29 hS33=> ?_
     simp(disch:=omega) only[↓RA,RZ,simprocAttr,hn,g7,g8,rE,g12,g15,g16,g18,g85,g86,g87,g20,hS31.ag 7 rfl,e1,e2]
     exact⟨n-1,by omega,m+1,decide ((iB (lI o rg (iB (iG ks) i)) j)∈lI o rg (iB (iG ks) m)),⟨by omega,by
      rw[decide_eq_true_iff]
      refine⟨fun h=>⟨m,by omega,fun h2=>e2 (by rw[h2]),h⟩,fun⟨q,h1,h2,h3⟩=> ?_⟩
      rcases du.1 h1 with h|h
      ·exact absurd h3 (hno q h h2)
      ·rw[←h];exact h3⟩,by simp,rfl,hS33.pick [0,1,2,3,4,5,6,7] (by decide) rfl⟩
    have hmi:m=i:=by omega
    simp(disch:=omega) only[↓RA,RZ,simprocAttr,hn,g7,g8,rE,g12,g15,g16,g18,g85,g86,g87,g20,e1,e2]
    exact⟨n-1,by omega,m+1,false,⟨by omega,by
     refine⟨fun h=>Bool.noConfusion h,fun⟨q,h1,h2,h3⟩=> ?_⟩
     rcases du.1 h1 with h|h
     ·exact absurd h3 (hno q h h2)
     ·exact absurd (h.trans hmi) h2⟩,by simp,rfl,hS31.pick [0,1,2,3,4,5,6,7] (by decide) rfl⟩
   have hme:m=(iG ks).length:=by omega
   rw[hme,←hct]at hbb
   have hWs:=a8X o rg ks (iB (iG ks) i) j hjl
   simp(disch:=omega) only[↓RA,RZ,simprocAttr,hn,g19,d3]
   refine jE (fun e4=> ?_) (fun e4=> ?_)
   ·rw[if_neg (fun h=>absurd (hbb.2 h) (by simpa using e4))]at hWs
    simp(disch:=omega) only[↓RA,RZ,simprocAttr,hn,g16,g18,hS31.ag 7 rfl,d3,e4]
    refine hS31.ai [I (iB (lI o rg (iB (iG ks) i)) j).1,I (iB (lI o rg (iB (iG ks) i)) j).2] b6J c4L rfl rfl (by simp[Value.cells]) rfl rfl (by decide) (by decide) fun w3 H30 hS34=> ?_
    simp only[RT]at hS34
    simp(disch:=omega) only[↓RA,RZ,simprocAttr,hn,d3,e4]
    refine hS34.aq 6 rfl (hS34.rd 8 rfl) b6J (by rw[iF];simp only[ed,ey];omega) fun w4 H31 hS35=> ?_
    simp only[RT]at hS35
    simp(disch:=omega) only[↓RA,RZ,simprocAttr,hn,g7,g8,rE,g12,g15,g85,g86,g87,d3,e4]
    have happ:pr (wF o rg ks (iB (iG ks) i) j)++[I (iB (lI o rg (iB (iG ks) i)) j).1,I (iB (lI o rg (iB (iG ks) i)) j).2]=pr (wF o rg ks (iB (iG ks) i) (j+1)):=by
     rw[hWs,jN]
     rfl
    rw[happ]at hS35
    exact⟨(lI o rg (iB (iG ks) i)).length-(j+1),by omega,j+1,w4,by omega,by simp,rfl,hS35.pick [0,1,2,3,4,5,6] (by decide) rfl⟩
   rw[if_pos (hbb.1 (by simpa using e4)),dr]at hWs
   simp(disch:=omega) only[↓RA,RZ,simprocAttr,hn,g7,g8,rE,g12,g15,g16,g85,g86,g87,d3,e4]
   refine⟨(lI o rg (iB (iG ks) i)).length-(j+1),by omega,j+1,wv,by omega,by simp,rfl,?_⟩
   rw[hWs]
   exact hS31.pick [0,1,2,3,4,5,6] (by decide) rfl
  have hje:j=(lI o rg (iB (iG ks) i)).length:=by omega
  rw[hje,b0g,←hgli]at hS28
  simp(disch:=omega) only[↓RA,RC,simprocAttr,d2]
  refine Wp.drw jZ (by kernel_rfl) ?_
  simp(disch:=omega) only[↓RA,RZ,simprocAttr,hn,rE,g12,g15,(hlx3.step (hS28.kept hBZ)).1.idx,(hlx3.step (hS28.kept hBZ)).1.bh,(hlx3.step (hS28.kept hBZ)).1.cC 2,Gn.cells,(hS28.av 5 rfl kE).idx,(hS28.av 5 rfl kE).ag,jS]
  refine iO (fun e5=> ?_) (fun e5=> ?_)
  ·exact absurd ⟨by rw[hgc],by rw[hgc]⟩ e5
  simp(disch:=omega) only[↓RA,RZ,simprocAttr,hn,rE,g15,g16,(hlx3.step (hS28.kept hBZ)).1.idx,(hlx3.step (hS28.kept hBZ)).1.bh,(hlx3.step (hS28.kept hBZ)).1.ld,Gn.cells,e5]
  have hll:(iB gs i).l.length<1000000000:=by
   rw[hgli]
   exact Nat.lt_of_le_of_lt (dS _ _) (by omega)
  refine hS28.cF (b2p (iB gs i).v wv (iB gs i).l (iB gs i).l (hgx3.step (hS28.kept hBZ)).1 (hS28.av 6 rfl kE) hll hll) fun H32 hS36=> ?_
  rw[decide_eq_true rfl]
  simp(disch:=omega) only[↓RA,RZ,simprocAttr,hn,g7,g8,rE,g12,g15,e5]
  exact⟨(iG ks).length-(i+1),by omega,i+1,by omega,by simp,((hS25.aj hBZ hS36)).pick [0,1,2,3,4,5] (by decide) rfl⟩
 simp(disch:=omega) only[↓RA,RZ,simprocAttr,hn,tR3,d1]
 exact hS0.forget.trans (hS14.aj hBX hS24).forget
end Go.Ds
