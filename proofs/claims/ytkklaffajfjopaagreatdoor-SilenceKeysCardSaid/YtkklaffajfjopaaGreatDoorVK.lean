/-
  A part of the proof of SilenceKeys.
-/
import Derived.Test.YtkklaffajfjopaaGreatDoorVD
import Derived.Test.YtkklaffajfjopaaGreatDoorVI
import Derived.Test.YtkklaffajfjopaaGreatDoorVB
import Derived.Test.YtkklaffajfjopaaGreatDoorVC
set_option linter.unusedVariables false
set_option linter.unusedSimpArgs false
set_option linter.defProp false
set_option linter.unusedSectionVars false
namespace Go.Ds
open Go.Proofs Go.Proofs.Tryz
variable {H:Heap}
set_option maxRecDepth 10000
set_option maxHeartbeats 1000000
def mkN(P:Program)(t:TypeId):Option (Nat×Nat×List Value):=
 (iJ P t).bind fun elem=>(iF P elem).bind fun size=>(nP P elem).bind fun bytes=>(jA P elem).bind fun z=>if size !=0&&size !=1&&z.cells.size==size&&jD z then some (bytes,size,z.cells.toList)else none
theorem b6e{β:Type}(cel:β→List Value)(x:β)(z:Array Value)(hz:cel x=z.toList)(h0:0<z.size):∀a,(madeCells z (a*z.size)).toList=(List.replicate a x).flatMap cel:=by
 have key:∀a,(List.range (a*z.size)).map (fun i=>z[i%z.size]!)=(List.replicate a x).flatMap cel:=by
  intro a
  induction a with
  | zero=>simp
  | succ a ih=>
    rw[gL,Nat.add_comm,List.range_add,dO,List.map_map,List.replicate_succ,dM,←ih,hz]
    congr 1
    ·refine List.ext_getElem (by simp) fun i h1 h2=> ?_
     simp only[iB,gY]
     rw[gm (by simpa using h1)]
     simp at h1
     simp[h1]
    ·refine gR fun i _=> ?_
     simp
 intro a
 rw[←key a]
 simp[madeCells]
theorem St.cr{P:Program}{H0:Base}{H:Heap}{os:List Ob}{β:Type}{cel:β→List Value}{x:β}(hS:St P H0 H os){t:TypeId}{bytes sz:Nat}{zs:List Value}{K:Value→Heap→Prop}(a:Nat)(ha:mkN P t=some (bytes,sz,zs))(hz:cel x=zs)(hroom:a*(bytes+1)≤17592186044416)
 (h:∀v H1,St P H0 H1 (os++[⟨v,sz,(List.replicate a x).flatMap cel⟩])→K v H1):qZ P H t (.int .i64 a) (.int .i64 a) K:=by
 unfold mkN at ha
 cases he:iJ P t with
 | none=>rw[he]at ha;cases ha
 | some elem=>
 rw[he]at ha
 simp only[dc]at ha
 cases hsz2:iF P elem with
 | none=>rw[hsz2]at ha;cases ha
 | some sz=>
 rw[hsz2]at ha
 simp only[dc]at ha
 cases hby:nP P elem with
 | none=>rw[hby]at ha;cases ha
 | some by'=>
 rw[hby]at ha
 simp only[dc]at ha
 cases hz2:jA P elem with
 | none=>rw[hz2]at ha;cases ha
 | some z'=>
 rw[hz2]at ha
 simp only[dc]at ha
 split at ha
 case isFalse=>cases ha
 rename_i hzs
 simp only[de,beq_iff_eq,bne_iff_ne,ne_eq]at hzs
 obtain⟨⟨⟨hs0,hs1⟩,hz1⟩,hfl⟩:=hzs
 simp only[dF,gT]at ha
 obtain⟨rfl,rfl,rfl⟩:=ha
 have hm:=b6e cel x z'.cells hz (by omega) a
 rw[hz1]at hm
 have hln:((List.replicate a x).flatMap cel).length=a*sz:=by
  rw[←hm]
  simp[madeCells]
 refine⟨.slice (some ⟨H.length,0,some ((List.replicate a x).flatMap cel).length⟩) a sz,H.cons (.cells ((List.replicate a x).flatMap cel) elem true ((List.replicate a x).flatMap cel).length 0),?_,h _ _ (hS.add ?_ ?_ ?_ ?_)⟩
 ·unfold wZ
  simp only[he,hsz2,hby,hz2,dc]
  rw[if_pos]
  ·rw[if_neg hs1]
   simp only[fA,hm]
   rw[lI]
  ·have:(a:Int)*(by'+1)≤(oX:Int):=by
    have h3:((a*(by'+1):Nat):Int)≤((17592186044416:Nat):Int):=Int.ofNat_le.2 hroom
    simpa [oX]using h3
   simp[hfl,hz1,this,hs0]
 ·unfold OwnAt
  rw[if_neg hs0]
  exact .inr ⟨_,0,elem,_,0,[],a,iS H _,by simp,rfl,hln,by simp,hsz2⟩
 ·simp[pJ]
 ·exact fun B hB=>jS _ hB
 ·intro B hB
  simp[kJ]at hB
  omega
abbrev Nt:=Nat×Nat
def ntc(x:Nt):List Value:=[.int .u64 x.1,.int .u64 x.2]
def Nt.Ok(x:Nt):Prop:=x.1<18446744073709551616∧x.2<18446744073709551616
theorem c3N:mkN prog 44=some (16,2,ntc (0,0)):=by kernel_rfl
def oU(x:Nt)(n:Int):Nt:=if n<64 then(x.1|||2^n.toNat,x.2)else(x.1,x.2|||2^(n-64).toNat)
theorem a8t(i:Nat)(h:i<64):2^i<18446744073709551616:=by
 have:2^i≤2^63:=gf (by decide) (by omega)
 have e:2^63=9223372036854775808:=rfl
 omega
theorem a5L{a b:Nat}(ha:a<18446744073709551616)(hb:b<18446744073709551616):a|||b<18446744073709551616:=Nat.or_lt_two_pow (n:=64) ha hb
theorem orB(a b:Nat)(ha:a<18446744073709551616)(hb:b<18446744073709551616):IntKind.wrap .u64 ((BitVec.ofInt (IntKind.bits .u64) (a:Int)|||BitVec.ofInt (IntKind.bits .u64) (b:Int)).toNat:Int)=((a|||b:Nat):Int):=by
 have e:(BitVec.ofInt (IntKind.bits .u64) (a:Int)|||BitVec.ofInt (IntKind.bits .u64) (b:Int)).toNat=a|||b:=by
  rw[BitVec.toNat_or,a5E a ha,a5E b hb]
 rw[e]
 have:=a5L ha hb
 exact rU _ (by omega) (by omega)
theorem orN(n i:Nat)(hn:n<18446744073709551616)(hi:i<64):IntKind.wrap .u64 ((BitVec.ofInt (IntKind.bits .u64) (n:Int)|||BitVec.ofInt (IntKind.bits .u64) (IntKind.wrap .u64 (1*2^min i (IntKind.bits .u64)))).toNat:Int)=((n|||2^i:Nat):Int):=by
 rw[b9L i hi]
 exact orB n (2^i) hn (a8t i hi)
theorem b9t{x:Nt}(hx:Nt.Ok x){z:Int}(h0:0≤z)(h1:z<128):Nt.Ok (oU x z):=by
 unfold oU
 split
 ·exact⟨a5L hx.1 (a8t _ (by omega)),hx.2⟩
 ·exact⟨hx.1,a5L hx.2 (a8t _ (by omega))⟩
theorem b5Q(x:Nt)(hx:Nt.Ok x)(z:Int)(h0:0≤z)(h1:z<128):Fn prog 72 [.agg #[.int .u64 x.1,.int .u64 x.2],I z] H fun r H'=>r=.agg #[.int .u64 (oU x z).1,.int .u64 (oU x z).2]∧St prog H H' []:=by
 obtain⟨m,rfl⟩:=fS h0
 refine .aD func72 rfl (by kernel_rfl) (m:=21) rfl fun l hn g0 g1=> ?_
 simp(disch:=omega) only[↓RA,RB,simprocAttr,g0]
 refine(sR H).eNew 2 [(.int .u64 x.1),(.int .u64 x.2)] rfl rfl rfl pT fun A1 H1 hS1=> ?_
 simp only[RT]at hS1
 simp(disch:=omega) only[↓RA,RZ,simprocAttr]
 refine hS1.eNew 2 [(.int .u64 0),(.int .u64 0)] rfl rfl rfl pT fun A2 H2 hS2=> ?_
 simp only[RT]at hS2
 simp(disch:=omega) only[↓RA,RB,simprocAttr,hn,g1]
 refine iC (fun q1=> ?_) (fun q1=> ?_)
 ·have e1:=orN x.1 m hx.1 (by omega)
  have e2:oU x (m:Int)=(x.1|||2^m,x.2):=by unfold oU;rw[if_pos q1];rfl
  simp(disch:=omega) only[↓RA,RC,simprocAttr,q1]
  refine Wp.drw kG (by kernel_rfl) ?_
  simp(disch:=omega) only[↓RA,RZ,simprocAttr,hn,g1,hS2.ld 0 rfl,e1]
  refine hS2.aa 0 rfl [(.int .u64 (x.1|||2^m:Nat))] rfl rfl a4L (by simp) fun H3 hS3=> ?_
  simp only[RT]at hS3
  simp(disch:=omega) only[↓RA,RZ,simprocAttr,hn,hS3.aj 0 rfl]
  refine hS3.aa 1 rfl [(.int .u64 (x.1|||2^m:Nat)),(.int .u64 x.2)] rfl rfl pT (by simp) fun H4 hS4=> ?_
  simp only[RT]at hS4
  simp(disch:=omega) only[↓RA,RZ,simprocAttr,hn,c2m,hS4.aj 1 rfl]
  rw[e2]
  exact⟨rfl,hS4.forget⟩
 have e1:=orN x.2 (m-64) hx.2 (by omega)
 have e3:(m:Int)-64=((m-64:Nat):Int):=by omega
 have e2:oU x (m:Int)=(x.1,x.2|||2^(m-64)):=by unfold oU;rw[if_neg q1,e3];rfl
 simp(disch:=omega) only[↓RA,RC,simprocAttr,q1]
 refine Wp.drw kG (by kernel_rfl) ?_
 simp(disch:=omega) only[↓RA,RZ,simprocAttr,hn,g1,hS2.ld 0 rfl,e1,e3]
 refine hS2.aa 0 rfl [(.int .u64 (x.2|||2^(m-64):Nat))] rfl rfl a4L (by simp) fun H5 hS5=> ?_
 simp only[RT]at hS5
 simp(disch:=omega) only[↓RA,RZ,simprocAttr,hn,hS5.aj 0 rfl]
 refine hS5.aa 1 rfl [(.int .u64 x.1),(.int .u64 (x.2|||2^(m-64):Nat))] rfl rfl pT (by simp) fun H6 hS6=> ?_
 simp only[RT]at hS6
 simp(disch:=omega) only[↓RA,RZ,simprocAttr,hn,c2m,hS6.aj 1 rfl]
 rw[e2]
 exact⟨rfl,hS6.forget⟩
def jO(xs:List Int):Nt:=xs.foldl oU (0,0)
def isN(z:Int):Prop:=0≤z∧z<128
theorem rT:∀(xs:List Int)(x:Nt),(∀z∈xs,isN z)→Nt.Ok x→Nt.Ok (xs.foldl oU x)
 | [],_,_,h=>h
 | z::xs,x,hz,h=>by
   rw[eA]
   exact rT xs _ (fun y hy=>hz y (eC _ hy)) (b9t h (hz z (dY ..)).1 (hz z (dY ..)).2)
theorem a0I(xs:List Int){j:Nat}(hj:j<xs.length):jO (xs.take (j+1))=oU (jO (xs.take j)) (iD xs j):=by
 unfold jO
 rw[List.take_add_one,dA hj,Option.toList_some,gF,←jP _ j hj]
 rfl
theorem b3p(z:Int)(h:isN z):Fn prog 71 [I z] H fun r H'=>r=.bool true∧St prog H H' []:=by
 have h0:=h.1
 have h1:=h.2
 refine .aW func71 rfl (by kernel_rfl) (m:=9) rfl fun l hn g0=> ?_
 simp(disch:=omega) only[↓RA,RZ,simprocAttr,hn,g0]
 refine jU (fun q1=> ?_) (fun q1=> ?_)
 rotate_left
 ·exfalso;first|omega|(simp at q1;omega)
 simp(disch:=omega) only[↓RA,RZ,simprocAttr,hn,g0,c5h,q1]
 simpa using⟨(by omega:z≤127),(sR H)⟩
theorem a8T(xs:List Int)(hz:∀z∈xs,isN z)(v:Value)(hv:Sl 1 (one I) H v xs)(hl:xs.length<1000000000):
 Fn prog 36 [v] H fun r H'=>r=.tuple #[.agg #[.int .u64 (jO xs).1,.int .u64 (jO xs).2],I 0]∧St prog H H' []:=by
 refine .aW func36 rfl (by kernel_rfl) (m:=22) rfl fun l hn g0=> ?_
 simp(disch:=omega) only[↓RA,RZ,simprocAttr]
 refine(sR H).eNew 2 [(.int .u64 0),(.int .u64 0)] rfl rfl rfl pT fun A1 H1 hS1=> ?_
 simp only[RT]at hS1
 simp(disch:=omega) only[↓RA,RZ,simprocAttr]
 refine hS1.eNew 2 [(.int .u64 0),(.int .u64 0)] rfl rfl rfl pT fun A2 H2 hS2=> ?_
 simp only[RT]at hS2
 simp(disch:=omega) only[↓RA,RZ,simprocAttr,hn,g0,(hS2.sl hv).len]
 refine Wp.aq (fun n l H'=>l.length=22∧get l 2=(ptr A1 0 2)∧get l 4=(ptr A2 0 2)∧get l 7=v∧get l 8=I xs.length∧∃(j:Nat),(n+j=xs.length)∧get l 9=I j∧St prog H H' [⟨ptr A1 0 2,0,[(.int .u64 0),(.int .u64 0)]⟩,⟨ptr A2 0 2,0,[.int .u64 (jO (xs.take j)).1,.int .u64 (jO (xs.take j)).2]⟩]) xs.length ?_ ?_
 ·simp(disch:=omega) only[RB,RC,simprocAttr,hn]
  exact⟨0,by omega,rfl,hS2⟩
 rintro n l H3⟨hn,g2,g4,g7,g8,j,hj,g9,hS3⟩
 simp(disch:=omega) only[↓RA,RB,simprocAttr,hn,g8,g9]
 refine iC (fun q1=> ?_) (fun q1=> ?_)
 ·have hx:=hz _ (iG (xs:=xs) (j:=j) (by omega))
  have hok:Nt.Ok (jO (xs.take j)):=rT _ _ (fun z h=>hz z (List.mem_of_mem_take h)) ⟨by decide,by decide⟩
  simp(disch:=omega) only[↓RA,RZ,simprocAttr,hn,g7,g9,(hS3.sl hv).idx,(hS3.sl hv).ld,one,q1]
  refine hS3.cF (b3p (iD xs j) hx) fun H4 hS4=> ?_
  simp(disch:=omega) only[↓RA,RZ,simprocAttr,hn,g4,hS4.aj 1 rfl,q1]
  refine hS4.cF (b5Q (jO (xs.take j)) hok (iD xs j) hx.1 hx.2) fun H5 hS5=> ?_
  simp(disch:=omega) only[↓RA,RZ,simprocAttr,hn,g4,q1]
  refine hS5.aa 1 rfl [(.int .u64 (oU (jO (xs.take j)) (iD xs j)).1),(.int .u64 (oU (jO (xs.take j)) (iD xs j)).2)] rfl rfl pT (by simp) fun H6 hS6=> ?_
  simp only[RT]at hS6
  simp(disch:=omega) only[↓RA,RZ,simprocAttr,hn,g2,g4,g7,g8,g9,q1]
  refine⟨n-1,by omega,j+1,by omega,by simp,?_⟩
  rw[a0I xs (by omega)]
  exact hS6.pick [0,1] (by decide) rfl
 have hjj:j=xs.length:=by omega
 simp(disch:=omega) only[↓RA,RZ,simprocAttr,hn,g2,g4,hS3.aj 1 rfl,q1]
 refine hS3.aa 0 rfl [(.int .u64 (jO (xs.take j)).1),(.int .u64 (jO (xs.take j)).2)] rfl rfl pT (by simp) fun H7 hS7=> ?_
 simp only[RT]at hS7
 simp(disch:=omega) only[↓RA,RZ,simprocAttr,hn,g2,c5V,hS7.aj 0 rfl,q1]
 rw[hjj,eE]
 exact⟨rfl,hS7.forget⟩
def unF(x y:Nt):Nt:=(x.1|||y.1,x.2|||y.2)
theorem c2a{x y:Nt}(hx:Nt.Ok x)(hy:Nt.Ok y):Nt.Ok (unF x y):=⟨a5L hx.1 hy.1,a5L hx.2 hy.2⟩
theorem b1O(x y:Nt)(hx:Nt.Ok x)(hy:Nt.Ok y):Fn prog 60 [.agg #[.int .u64 x.1,.int .u64 x.2],.agg #[.int .u64 y.1,.int .u64 y.2]] H fun r H'=>r=.agg #[.int .u64 (unF x y).1,.int .u64 (unF x y).2]∧St prog H H' []:=by
 have e1:=orB x.1 y.1 hx.1 hy.1
 have e2:=orB x.2 y.2 hx.2 hy.2
 refine .aD func60 rfl (by kernel_rfl) (m:=16) rfl fun l hn g0 g1=> ?_
 simp(disch:=omega) only[↓RA,RB,simprocAttr,g0]
 refine(sR H).eNew 2 [(.int .u64 x.1),(.int .u64 x.2)] rfl rfl rfl pT fun A1 H1 hS1=> ?_
 simp only[RT]at hS1
 simp(disch:=omega) only[↓RA,RB,simprocAttr,g1]
 refine hS1.eNew 2 [(.int .u64 y.1),(.int .u64 y.2)] rfl rfl rfl pT fun A2 H2 hS2=> ?_
 simp only[RT]at hS2
 simp(disch:=omega) only[↓RA,RZ,simprocAttr]
 refine hS2.eNew 2 [(.int .u64 0),(.int .u64 0)] rfl rfl rfl pT fun A3 H3 hS3=> ?_
 simp only[RT]at hS3
 simp(disch:=omega) only[↓RA,RZ,simprocAttr,hn,hS3.ld 0 rfl,hS3.ld 1 rfl,e1,e2]
 simp(disch:=omega) only[↓RA,RB,simprocAttr,hn,b3K]
 refine hS3.aa 2 rfl [(.int .u64 (x.1|||y.1:Nat)),(.int .u64 (x.2|||y.2:Nat))] rfl rfl pT (by simp) fun H4 hS4=> ?_
 simp only[RT]at hS4
 simp(disch:=omega) only[↓RA,RZ,simprocAttr,hn,c4S,hS4.aj 2 rfl]
 exact⟨rfl,hS4.forget⟩
theorem St.perm{P:Program}{H0:Base}{os os':List Ob}(h:St P H0 H os)(hp:os.Perm os'):St P H0 H os' where
 len:=h.len
 old:=h.old
 own o ho:=h.own o (hp.mem_iff.2 ho)
 new o ho:=h.new o (hp.mem_iff.2 ho)
 sep:=(List.Perm.pairwise_iff (fun{_ _}hxy B hB hB2=>hxy B hB2 hB) hp).1 h.sep
theorem Lp.swap{P:Program}{B:Base}{L:Nat}{r:Loop}{xs ys zs:List Ob}(h:Lp P B L r H ((xs++ys)++zs)):Lp P B L r H ((xs++zs)++ys):=by
 have hp:((xs++ys)++zs).Perm ((xs++zs)++ys):=by
  rw[dG,dG]
  exact(List.perm_append_comm).append_left xs
 exact⟨h.st.perm hp,h.get,h.lo,fun o ho=>h.ne o (hp.mem_iff.2 ho)⟩
def wM(o:Org)(rg:Reg)(acc:List Nt)(c:Ct):List Nt:=if(kZ o rg c).length=0 then acc.set c.1.toNat (unF (iD acc c.1.toNat) (jO [c.2]))else acc
def lM(o:Org)(rg:Reg)(d:List Ct):List Nt:=d.foldl (wM o rg) (List.replicate o.dvs.length (0,0))
theorem a7d(o:Org)(rg:Reg)(d:List Ct)(c:Ct):lM o rg (d++[c])=wM o rg (lM o rg d) c:=by
 unfold lM
 rw[gF]
 rfl
theorem a5l{o:Org}(hf:o.Fine){c:Ct}(h:c∈iM o):∃(i:Nat)(z:Int),c=((i:Int),z)∧i<o.dvs.length∧isN z:=by
 obtain⟨i,hi,h⟩:=eD.1 h
 obtain⟨k,hk,rfl⟩:=dD.1 h
 have hi:=dz.1 hi
 have hk:=dz.1 hk
 have:=hf.keys i hi
 exact⟨i,_,rfl,hi,by omega,by omega⟩
theorem a4z(o:Org)(rg:Reg):∀(d:List Ct)(acc:List Nt),(d.foldl (wM o rg) acc).length=acc.length
 | [],_=>rfl
 | c::d,acc=>by
   rw[eA,a4z o rg d]
   unfold wM
   split
   ·rw[fF]
   ·rfl
theorem a5G(o:Org)(hf:o.Fine)(rg:Reg):∀(d:List Ct)(acc:List Nt),(∀c∈d,c∈iM o)→(∀x∈acc,Nt.Ok x)→acc.length=o.dvs.length→∀x∈d.foldl (wM o rg) acc,Nt.Ok x
 | [],_,_,h,_=>h
 | c::d,acc,hd,h,hl=>by
   rw[eA]
   obtain⟨i,z,rfl,hi,hz⟩:=a5l hf (hd _ (dY ..))
   refine a5G o hf rg d _ (fun c hc=>hd c (eC _ hc)) (fun x hx=> ?_) ?_
   ·unfold wM at hx
    split at hx
    ·rcases fY hx with hx|hx
     ·exact h x hx
     ·rw[hx]
      refine c2a (h _ (iG (by simp;omega))) (rT _ _ (fun y hy=> ?_) ⟨by decide,by decide⟩)
      rw[dC.1 hy]
      exact hz
    ·exact h x hx
   ·unfold wM
    split
    ·rw[fF];exact hl
    ·exact hl
theorem a3m(o:Org)(ho:o.In H)(rg:Reg)(sv:Value)(hr:rg.In H sv):
 Fn prog 26 [.agg #[.string o.name,o.rv,o.dv,o.cv],.agg #[sv,.int .u64 rg.cpl,.int .u64 rg.off]] H fun r H'=>∃lv,r=.tuple #[lv,I (mB o rg)]∧St prog H H' [⟨lv,2,(if mB o rg=0 then lM o rg (iM o)else[]).flatMap ntc⟩]:=by
 refine .aD func26 rfl (by kernel_rfl) (m:=49) rfl fun l hn g0 g1=> ?_
 simp(disch:=omega) only[↓RA,RB,simprocAttr,g0]
 refine(sR H).eNew 4 [(.string o.name),o.rv,o.dv,o.cv] rfl rfl (by simp[OC,((sR H).sl ho.1).cells.2.1,((sR H).sl ho.2.2.1).cells.2.1,((sR H).sl ho.2.2.2.2.1).cells.2.1]) nJ fun A1 H1 hS1=> ?_
 simp only[RT]at hS1
 simp(disch:=omega) only[↓RA,RB,simprocAttr,g1]
 refine hS1.eNew 3 [sv,(.int .u64 rg.cpl),(.int .u64 rg.off)] rfl rfl (by simp[OC,(hS1.sl hr.1).cells.2.1]) mQ fun A2 H2 hS2=> ?_
 simp only[RT]at hS2
 simp(disch:=omega) only[↓RA,RZ,simprocAttr,hn,hS2.aj 0 rfl,hS2.aj 1 rfl]
 refine hS2.cF (rK o (ho.ae hS2) rg sv (hr.ae hS2)) fun H3 hS3=> ?_
 simp(disch:=omega) only[↓RA,RB,simprocAttr,hn]
 refine iC (fun h1=> ?_) (fun h1=> ?_)
 ·simp(disch:=omega) only[↓RA,RZ,simprocAttr,hn,c3f,h1]
  exact⟨.slice none 0 0,rfl,hS3.forget.nil 1⟩
 have h0:=dN.1 h1
 obtain⟨hz3,hz4⟩:=qQ h0
 have hf:=Org.bL hz3
 have hd1:=hf.dpos
 have hd2:=hf.dlen
 simp(disch:=omega) only[↓RA,RZ,simprocAttr,hn,hS3.ld 0 rfl,(hS3.sl ho.2.2.1).len,h1]
 refine hS3.cr (cel:=ntc) (x:=(0,0)) o.dvs.length c3N rfl (by omega) fun w1 H4 hS4=> ?_
 simp only[RT]at hS4
 simp(disch:=omega) only[↓RA,RZ,simprocAttr]
 refine hS4.eNew 1 [(.slice none 0 0)] rfl rfl rfl c1F fun A3 H5 hS5=> ?_
 simp only[RT]at hS5
 simp(disch:=omega) only[↓RA,RZ,simprocAttr,hn,h1]
 refine hS5.aa 3 rfl [w1] (by rw[(hS5.rd 2 rfl).cells.1]) (by simp[(hS5.rd 2 rfl).cells.2.1]) c1F (by simp) fun H6 hS6=> ?_
 simp only[RT]at hS6
 simp(disch:=omega) only[↓RA,RZ,simprocAttr,hn,hS6.aj 0 rfl,hS6.aj 1 rfl,h1]
 refine iK (a2K o (ho.ae hS6) rg sv (hr.ae hS6)) ?_
 rintro r H7⟨AK,AL,rfl,hT2⟩
 have hS7:=hS6.trans hT2
 simp only[RT]at hS7
 simp(disch:=omega) only[↓RA,RZ,simprocAttr,h1]
 refine Wp.bl fun lrg1 hlrg1=> ?_
 have hnrg1:lrg1.length=49:=by rw[hlrg1];simp(disch:=omega) only[RB,simprocAttr,hn]
 have g4rg1:get lrg1 4=(.slice none 0 0):=by rw[hlrg1];simp(disch:=omega) only[RB,simprocAttr,hn]
 have g5rg1:get lrg1 5=I 0:=by rw[hlrg1];simp(disch:=omega) only[RB,simprocAttr,hn]
 have g7rg1:get lrg1 7=(ptr A3 0 1):=by rw[hlrg1];simp(disch:=omega) only[RB,simprocAttr,hn]
 have gfrg1:get lrg1 24=.func (.func 77) #[] [(ptr AK 0 4),(ptr AL 0 3)].toArray:=by rw[hlrg1];simp(disch:=omega) only[RB,simprocAttr,hn]
 clear hlrg1
 refine Wp.aZ gfrg1 fun rg1 hstrg1 hpdrg1 htmrg1 hpsrg1 hasrg1 hbdrg1=> ?_
 have hreqrg1:({rg1 with state:=.ready,pending:=none}:Loop)=rg1:=by
  cases rg1
  simp only at hstrg1 hpdrg1
  subst hstrg1 hpdrg1
  rfl
 have hLprg1:=Lp.enter hS7 rg1
 generalize H7.cons (.loop rg1)=Hcrg1 at hLprg1 ⊢
 generalize H7.length=Lrg1 at hLprg1 ⊢
 refine(b0l o hf rg sv AK AL (.func (.yield Lrg1) #[] #[]) (fun d xs H1=>
  Lp prog H Lrg1 rg1 H1 ([⟨ptr A1 0 4,0,oC o⟩,⟨ptr A2 0 3,0,rC rg sv⟩,⟨w1,2,(lM o rg d).flatMap ntc⟩,⟨ptr A3 0 1,0,[w1]⟩,⟨ptr AK 0 4,0,oC o⟩,⟨ptr AL 0 3,0,rC rg sv⟩]++xs)) ?_ ?_ ?_ ?_ ?_).mono ?_
 ·rw[dm]
  exact hLprg1
 ·rintro d xs H1 h
  have hs:=h.left.st
  exact⟨hs.var 4 rfl,ho.ae hs,hs.var 5 rfl,hr.ae hs,fun x hx=>h.st.own x (ef _ hx)⟩
 ·rintro d xs H1 H2 ys h hT
  have h3:=h.ext hT
  rwa [dG]at h3
 ·rintro d xs ys H1 h
  rw[←dG]at h
  exact h.left
 ·rintro d c e xs H1 H20 pv he hLp hT hx
  have hLpj:=hLp.ext hT
  rw[dm]at hLpj
  have hdm:∀c∈d,c∈iM o:=fun c hc=>by rw[he];exact fQ _ hc
  have hal:(lM o rg d).length=o.dvs.length:=by unfold lM;rw[a4z,eN]
  have hOk:∀x∈lM o rg d,Nt.Ok x:=a5G o hf rg d _ hdm (fun x hx=>by rw[gV hx];exact⟨by decide,by decide⟩) (by simp)
  obtain⟨i,z,rfl,hi,hz⟩:=a5l hf (c:=c) (by rw[he];simp)
  refine mT hLpj.get (by rw[hpsrg1];rfl) hstrg1 ?_
  refine Wp.aE (l:=put (put lrg1 (some 25) (.agg #[I i,I z])) (some 26) (pv)) hasrg1 (by rw[hpsrg1,htmrg1];first|exact(kP ..).symm|rfl|simp[put,kP]) ?_
  simp(disch:=omega) only[↓RA,RZ,simprocAttr]
  refine(sR H20).eNew 2 [I 0,I 0] rfl rfl rfl qC fun A4 H8 hS8=> ?_
  simp only[RT]at hS8
  simp(disch:=omega) only[↓RA,RB,simprocAttr,hnrg1]
  refine hS8.aa 0 rfl [I i,I z] rfl rfl qC (by simp) fun H9 hS9=> ?_
  simp only[RT]at hS9
  simp(disch:=omega) only[↓RA,RZ,simprocAttr,hnrg1]
  have hSy:=hS9
  have hLl:Lrg1<H1.length:=jI hLp.get
  have hLpx:=Lp.swap (hLpj.ext hS9)
  refine⟨rg1,hLpx.get,hstrg1,?_⟩
  have hYBs1:=hLpx.set (fun h=>h) {rg1 with state:=.busy}
  have hKBs1:∀B,B≠Lrg1→iR (hset H9 Lrg1 (.loop {rg1 with state:=.busy})) B=iR H9 B:=fun B h=>iP _ (eG h)
  have hNBs1:(hset H9 Lrg1 (.loop {rg1 with state:=.busy})).length=H9.length:=jE ..
  generalize hset H9 Lrg1 (.loop {rg1 with state:=.busy})=HBs1 at hYBs1 hKBs1 hNBs1 ⊢
  refine Wp.aE hbdrg1 rfl ?_
  have hZBs1:=hYBs1.left.st
  obtain⟨Bs1,hBBs1,hS10⟩:=hZBs1.aw (os:=[⟨ptr A1 0 4,0,_⟩,⟨ptr A2 0 3,0,_⟩,⟨w1,2,_⟩,⟨ptr A3 0 1,0,_⟩,⟨ptr AK 0 4,0,_⟩,⟨ptr AL 0 3,0,_⟩,⟨ptr A4 0 2,0,_⟩])
  have hxB:Slx 2 jT HBs1 (fun B=>H1.length≤B) pv (kZ o rg ((i:Int),z)):=hx.step fun B hB hl=>⟨by rw[hKBs1 B (by omega),hSy.ae B hl],hB⟩
  simp(disch:=omega) only[↓RA,RZ,simprocAttr,hnrg1,hxB.1.len]
  refine iC (fun q1=> ?_) (fun q1=> ?_)
  ·have hq:(kZ o rg ((i:Int),z)).length=0:=by omega
   have hz1:∀y∈[z],isN y:=fun y hy=>by rw[dC.1 hy];exact hz
   have hnok:Nt.Ok (jO [z]):=rT _ _ hz1 ⟨by decide,by decide⟩
   have hiok:=hOk _ (iG (xs:=lM o rg d) (j:=i) (by omega))
   simp(disch:=omega) only[↓RA,RZ,simprocAttr,hnrg1,hS10.ld 6 rfl,q1]
   refine hS10.ai [I z] a2O a6u rfl rfl (by simp[Value.cells]) rfl rfl (by decide) (by decide) fun w2 H10 hS11=> ?_
   simp only[RT]at hS11
   simp(disch:=omega) only[↓RA,RZ,simprocAttr,hnrg1,q1]
   refine hS11.cF (a8T [z] hz1 _ (hS11.av 7 rfl (fun _=>rfl)) (by simp)) fun H11 hS12=> ?_
   simp(disch:=omega) only[↓RA,RZ,simprocAttr,hnrg1,q1]
   refine hS12.eNew 2 [(.int .u64 0),(.int .u64 0)] rfl rfl rfl pT fun A5 H12 hS13=> ?_
   simp only[RT]at hS13
   simp(disch:=omega) only[↓RA,RZ,simprocAttr,hnrg1,q1]
   refine hS13.aa 8 rfl [(.int .u64 (jO [z]).1),(.int .u64 (jO [z]).2)] rfl rfl pT (by simp) fun H13 hS14=> ?_
   simp only[RT]at hS14
   simp(disch:=omega) only[↓RA,RZ,simprocAttr,hnrg1,q1]
   refine Wp.aS kG [(0,10),(2,10)] (by kernel_rfl) (by kernel_rfl) ?_
   simp(disch:=omega) only[↓RA,RZ,simprocAttr,hnrg1,g7rg1,hS14.ld 3 rfl,hS14.ld 6 rfl,(hS14.av 2 rfl (fun _=>rfl)).idx,(hS14.av 2 rfl (fun _=>rfl)).aj,ntc,hS14.aj 8 rfl]
   refine hS14.cF (b1O (iD (lM o rg d) i) (jO [z]) hiok hnok) fun H14 hS15=> ?_
   simp(disch:=omega) only[↓RA,RZ,simprocAttr,hnrg1,(hS15.av 2 rfl (fun _=>rfl)).idx]
   refine hS15.aR 2 rfl [(.int .u64 (unF (iD (lM o rg d) i) (jO [z])).1),(.int .u64 (unF (iD (lM o rg d) i) (jO [z])).2)] rfl rfl pT (by simp) (by rw[iI (n:=2) (cel:=ntc) (fun _=>rfl)];simp;omega) fun H15 hS16=> ?_
   simp only[RT]at hS16
   simp(disch:=omega) only[↓RA,RZ,simprocAttr,hnrg1,g7rg1,hS15.ld 3 rfl,hS15.ld 6 rfl]
   have hS17:=hS16.pick (os':=[⟨ptr A1 0 4,0,_⟩,⟨ptr A2 0 3,0,_⟩,⟨w1,2,_⟩,⟨ptr A3 0 1,0,_⟩,⟨ptr AK 0 4,0,_⟩,⟨ptr AL 0 3,0,_⟩]) [0,1,2,3,4,5] (by decide) rfl
   have hset2:((List.flatMap ntc (lM o rg d)).set (i*2) (.int .u64 (unF (iD (lM o rg d) i) (jO [z])).1)).set (i*2+1) (.int .u64 (unF (iD (lM o rg d) i) (jO [z])).2)=(lM o rg (d++[((i:Int),z)])).flatMap ntc:=by
    rw[a7d,wM,if_pos hq]
    simp only[fA]
    rw[←oA ((((lM o rg d).flatMap ntc).set (i*2) _).set (i*2+1) _) (i*2+1+1),←kW,←kW]
    exact vS (n:=2) (cel:=ntc) (fun _=>rfl) (lM o rg d) i 0 [_,_] (unF (iD (lM o rg d) i) (jO [z])) (by omega) (by simp) rfl
   rw[hset2]at hS17
   have hWBs1:=(hYBs1.aI (hBBs1▸hS17)).set (fun h=>h) rg1
   rw[←hreqrg1]at hWBs1
   have hfin:Lp prog H Lrg1 rg1 (hset H15 Lrg1 (.loop rg1)) ([⟨ptr A1 0 4,0,oC o⟩,⟨ptr A2 0 3,0,rC rg sv⟩,⟨w1,2,(lM o rg (d++[((i:Int),z)])).flatMap ntc⟩,⟨ptr A3 0 1,0,[w1]⟩,⟨ptr AK 0 4,0,oC o⟩,⟨ptr AL 0 3,0,rC rg sv⟩]++xs):=hreqrg1▸hWBs1
   rw[←hreqrg1]at hfin
   exact⟨_,(hYBs1.aI (hBBs1▸hS17)).get,rfl,hreqrg1▸hfin⟩
  have hq:¬(kZ o rg ((i:Int),z)).length=0:=by omega
  have hsame:lM o rg (d++[((i:Int),z)])=lM o rg d:=by rw[a7d,wM,if_neg hq]
  simp(disch:=omega) only[↓RA,RC,simprocAttr]
  have hS18:=hS10.pick (os':=[⟨ptr A1 0 4,0,_⟩,⟨ptr A2 0 3,0,_⟩,⟨w1,2,_⟩,⟨ptr A3 0 1,0,_⟩,⟨ptr AK 0 4,0,_⟩,⟨ptr AL 0 3,0,_⟩]) [0,1,2,3,4,5] (by decide) rfl
  have hWBs1:=(hYBs1.aI (hBBs1▸hS18)).set (fun h=>h) rg1
  rw[←hreqrg1]at hWBs1
  have hfin:Lp prog H Lrg1 rg1 (hset HBs1 Lrg1 (.loop rg1)) ([⟨ptr A1 0 4,0,oC o⟩,⟨ptr A2 0 3,0,rC rg sv⟩,⟨w1,2,(lM o rg (d++[((i:Int),z)])).flatMap ntc⟩,⟨ptr A3 0 1,0,[w1]⟩,⟨ptr AK 0 4,0,oC o⟩,⟨ptr AL 0 3,0,rC rg sv⟩]++xs):=by
   rw[hsame]
   exact hreqrg1▸hWBs1
  rw[←hreqrg1]at hfin
  exact⟨_,(hYBs1.aI (hBBs1▸hS18)).get,rfl,hreqrg1▸hfin⟩
 rintro _ H21 hLp2
 rw[dm]at hLp2
 refine⟨_,hLp2.get,(by rw[hstrg1];exact fun h=>by cases h),fun _=> ?_,fun c hc=>by rw[hpdrg1]at hc;cases hc⟩
 have hAAf1:=(hLp2.set (fun h=>h) {rg1 with state:=.exhausted}).st
 have hKAf1:∀B,B≠Lrg1→iR (hset H21 Lrg1 (.loop {rg1 with state:=.exhausted})) B=iR H21 B:=fun B h=>iP _ (eG h)
 generalize hset H21 Lrg1 (.loop {rg1 with state:=.exhausted})=HAf1 at hAAf1 hKAf1 ⊢
 have hnt:jW w1=true:=(hAAf1.av (cel:=ntc) 2 rfl (fun _=>rfl)).bA
 simp(disch:=omega) only[↓RA,RZ,simprocAttr,hnrg1,g7rg1,hAAf1.ld 3 rfl,c3f,hnt]
 exact⟨w1,by rw[h0],by rw[if_pos h0];exact hAAf1.pick [2] (by decide) rfl⟩
theorem b5K(x:Nt)(hx:Nt.Ok x)(z:Int)(h0:0≤z)(h1:z<128):Fn prog 68 [.agg #[.int .u64 x.1,.int .u64 x.2],I z] H fun r H'=>r=.agg #[.int .u64 (oU x z).1,.int .u64 (oU x z).2]∧St prog H H' []:=by
 obtain⟨m,rfl⟩:=fS h0
 refine .aD func68 rfl (by kernel_rfl) (m:=23) rfl fun l hn g0 g1=> ?_
 simp(disch:=omega) only[↓RA,RB,simprocAttr,g0]
 refine(sR H).eNew 2 [(.int .u64 x.1),(.int .u64 x.2)] rfl rfl rfl pT fun A1 H1 hS1=> ?_
 simp only[RT]at hS1
 simp(disch:=omega) only[↓RA,RZ,simprocAttr]
 refine hS1.eNew 2 [(.int .u64 0),(.int .u64 0)] rfl rfl rfl pT fun A2 H2 hS2=> ?_
 simp only[RT]at hS2
 simp(disch:=omega) only[↓RA,RB,simprocAttr,hn,g1]
 refine iC (fun q1=> ?_) (fun q1=> ?_)
 ·have e1:=orN x.1 m hx.1 (by omega)
  have e2:oU x (m:Int)=(x.1|||2^m,x.2):=by unfold oU;rw[if_pos q1];rfl
  simp(disch:=omega) only[↓RA,RZ,simprocAttr,hn,g1,hS2.ld 0 rfl,q1,e1]
  refine hS2.aa 0 rfl [(.int .u64 (x.1|||2^m:Nat))] rfl rfl a4L (by simp) fun H3 hS3=> ?_
  simp only[RT]at hS3
  simp(disch:=omega) only[↓RA,RZ,simprocAttr,hn,hS3.aj 0 rfl,q1]
  refine hS3.aa 1 rfl [(.int .u64 (x.1|||2^m:Nat)),(.int .u64 x.2)] rfl rfl pT (by simp) fun H4 hS4=> ?_
  simp only[RT]at hS4
  simp(disch:=omega) only[↓RA,RZ,simprocAttr,hn,c2Q,hS4.aj 1 rfl,q1]
  rw[e2]
  exact⟨rfl,hS4.forget⟩
 have e1:=orN x.2 (m-64) hx.2 (by omega)
 have e3:(m:Int)-64=((m-64:Nat):Int):=by omega
 have e2:oU x (m:Int)=(x.1,x.2|||2^(m-64)):=by unfold oU;rw[if_neg q1,e3];rfl
 simp(disch:=omega) only[↓RA,RZ,simprocAttr,hn,g1,hS2.ld 0 rfl,q1,e1,e3]
 refine hS2.aa 0 rfl [(.int .u64 (x.2|||2^(m-64):Nat))] rfl rfl a4L (by simp) fun H5 hS5=> ?_
 simp only[RT]at hS5
 simp(disch:=omega) only[↓RA,RZ,simprocAttr,hn,hS5.aj 0 rfl,q1]
 refine hS5.aa 1 rfl [(.int .u64 x.1),(.int .u64 (x.2|||2^(m-64):Nat))] rfl rfl pT (by simp) fun H6 hS6=> ?_
 simp only[RT]at hS6
 simp(disch:=omega) only[↓RA,RZ,simprocAttr,hn,c2Q,hS6.aj 1 rfl,q1]
 rw[e2]
 exact⟨rfl,hS6.forget⟩
theorem c0X(xs:List Int)(hz:∀z∈xs,isN z)(v:Value)(hv:Sl 1 (one I) H v xs)(hl:xs.length<1000000000):
 Fn prog 33 [v] H fun r H'=>r=.agg #[.int .u64 (jO xs).1,.int .u64 (jO xs).2]∧St prog H H' []:=by
 refine .aW func33 rfl (by kernel_rfl) (m:=30) rfl fun l hn g0=> ?_
 simp(disch:=omega) only[↓RA,RZ,simprocAttr]
 refine(sR H).eNew 2 [(.int .u64 0),(.int .u64 0)] rfl rfl rfl pT fun A1 H1 hS1=> ?_
 simp only[RT]at hS1
 simp(disch:=omega) only[↓RA,RZ,simprocAttr]
 refine hS1.eNew 2 [(.int .u64 0),(.int .u64 0)] rfl rfl rfl pT fun A2 H2 hS2=> ?_
 simp only[RT]at hS2
 simp(disch:=omega) only[↓RA,RB,simprocAttr]
 refine Wp.aq (fun n l H'=>l.length=30∧get l 0=v∧get l 2=(ptr A1 0 2)∧get l 3=(ptr A2 0 2)∧∃(j:Nat),(n+j=xs.length)∧get l 4=I j∧St prog H H' [⟨ptr A1 0 2,0,[(.int .u64 0),(.int .u64 0)]⟩,⟨ptr A2 0 2,0,[.int .u64 (jO (xs.take j)).1,.int .u64 (jO (xs.take j)).2]⟩]) xs.length ?_ ?_
 ·simp(disch:=omega) only[RB,RC,simprocAttr,hn,g0]
  exact⟨0,by omega,rfl,hS2⟩
 rintro n l H3⟨hn,g0,g2,g3,j,hj,g4,hS3⟩
 simp(disch:=omega) only[↓RA,RZ,simprocAttr,hn,g0,g4,(hS3.sl hv).len]
 refine iC (fun q1=> ?_) (fun q1=> ?_)
 ·have hx:=hz _ (iG (xs:=xs) (j:=j) (by omega))
  have hx0:=hx.1
  have hx1:=hx.2
  have hok:Nt.Ok (jO (xs.take j)):=rT _ _ (fun z h=>hz z (List.mem_of_mem_take h)) ⟨by decide,by decide⟩
  simp(disch:=omega) only[↓RA,RZ,simprocAttr,hn,g0,g4,(hS3.sl hv).idx,(hS3.sl hv).ld,one,q1]
  refine jU (fun q2=> ?_) (fun q2=> ?_)
  rotate_left
  ·exfalso;first|omega|(simp at q2;omega)
  simp(disch:=omega) only[↓RA,RZ,simprocAttr,hn,g0,g4,(hS3.sl hv).idx,(hS3.sl hv).ld,one,q1,q2]
  refine iC (fun q3=> ?_) (fun q3=> ?_)
  rotate_left
  ·exfalso;first|omega|(simp at q3;omega)
  simp(disch:=omega) only[↓RA,RC,simprocAttr,q1,q2,q3]
  refine Wp.drw kG (by kernel_rfl) ?_
  simp(disch:=omega) only[↓RA,RZ,simprocAttr,hn,g0,g3,g4,hS3.aj 1 rfl,(hS3.sl hv).idx,(hS3.sl hv).ld,one]
  refine hS3.cF (b5K (jO (xs.take j)) hok (iD xs j) hx.1 hx.2) fun H4 hS4=> ?_
  simp(disch:=omega) only[↓RA,RB,simprocAttr,hn,g3]
  refine hS4.aa 1 rfl [(.int .u64 (oU (jO (xs.take j)) (iD xs j)).1),(.int .u64 (oU (jO (xs.take j)) (iD xs j)).2)] rfl rfl pT (by simp) fun H5 hS5=> ?_
  simp only[RT]at hS5
  simp(disch:=omega) only[↓RA,RZ,simprocAttr,hn,g0,g2,g3,g4]
  refine⟨n-1,by omega,j+1,by omega,by simp,?_⟩
  rw[a0I xs (by omega)]
  exact hS5.pick [0,1] (by decide) rfl
 have hjj:j=xs.length:=by omega
 simp(disch:=omega) only[↓RA,RZ,simprocAttr,hn,g2,g3,hS3.aj 1 rfl,q1]
 refine hS3.aa 0 rfl [(.int .u64 (jO (xs.take j)).1),(.int .u64 (jO (xs.take j)).2)] rfl rfl pT (by simp) fun H6 hS6=> ?_
 simp only[RT]at hS6
 simp(disch:=omega) only[↓RA,RZ,simprocAttr,g2,c5k,hS6.aj 0 rfl,q1]
 rw[hjj,eE]
 exact⟨rfl,hS6.forget⟩
def exO(w1 w2 w3 w4 w5 w6 w7:Value):Org:=⟨⟨#[111]⟩,w4,[⟨⟨#[114]⟩,⟨#[116]⟩,8,1,36,w3,[1,1,1]⟩],w6,[⟨⟨#[100]⟩,false,36,40,w5,[⟨⟨#[115]⟩,8,1,w2,[⟨36,40,w1,[⟨0,0⟩]⟩]⟩,⟨⟨#[116]⟩,8,1,w2,[⟨36,40,w1,[⟨0,0⟩]⟩]⟩]⟩],w7,[⟨⟨#[99]⟩,0,0,1,false⟩]⟩
theorem b0b:Fn prog 30 [] H fun r H'=>∃w1 w2 w3 w4 w5 w6 w7,r=.agg #[.string (exO w1 w2 w3 w4 w5 w6 w7).name,w4,w6,w7]∧(exO w1 w2 w3 w4 w5 w6 w7).In H'∧St prog H H' []:=by
 refine .cT func30 rfl (by kernel_rfl) (m:=24) rfl fun l hn=> ?_
 simp(disch:=omega) only[↓RA,RZ,simprocAttr]
 refine(sR H).eNew 4 [(.string ⟨#[]⟩),(.slice none 0 0),(.slice none 0 0),(.slice none 0 0)] rfl rfl rfl nJ fun A1 H1 hS1=> ?_
 simp only[RT]at hS1
 simp(disch:=omega) only[↓RA,RB,simprocAttr,hn,yA,c1w]
 refine hS1.ai [I 0,I 0] a3F a3r rfl rfl (by simp[Value.cells]) rfl rfl (by decide) (by decide) fun w1 H2 hS2=> ?_
 simp only[RT]at hS2
 simp(disch:=omega) only[↓RA,RB,simprocAttr,hn,lK (hS2.rd 1 rfl).cells]
 refine hS2.ai [I 36,I 40,w1] pZ wF rfl rfl (by first|(simp[];done)|simp[Value.cells]) (by first|(simp[];done)|simp[Value.cells]) (by simp[OC,(hS2.rd 1 rfl).cells.2.1]) (by decide) (by decide) fun w2 H3 hS3=> ?_
 simp only[RT]at hS3
 simp(disch:=omega) only[↓RA,RZ,simprocAttr,hn,a5R (hS3.rd 2 rfl).cells]
 refine hS3.eNew 4 [(.string ⟨#[]⟩),I 0,I 0,(.slice none 0 0)] rfl rfl rfl nA fun A2 H4 hS4=> ?_
 simp only[RT]at hS4
 simp(disch:=omega) only[↓RA,RB,simprocAttr,hn]
 refine hS4.aa 3 rfl [(.string ⟨#[115]⟩),I 8,I 1,w2] rfl (by simp[OC,(hS4.rd 2 rfl).cells.2.1]) nA (by simp) fun H5 hS5=> ?_
 simp only[RT]at hS5
 simp(disch:=omega) only[↓RA,RZ,simprocAttr,hn,hS5.aj 3 rfl]
 refine hS5.eNew 4 [(.string ⟨#[]⟩),I 0,I 0,(.slice none 0 0)] rfl rfl rfl nA fun A3 H6 hS6=> ?_
 simp only[RT]at hS6
 simp(disch:=omega) only[↓RA,RB,simprocAttr,hn]
 refine hS6.aa 4 rfl [(.string ⟨#[115]⟩),I 8,I 1,w2] rfl (by simp[OC,(hS6.rd 2 rfl).cells.2.1]) nA (by simp) fun H7 hS7=> ?_
 simp only[RT]at hS7
 simp(disch:=omega) only[↓RA,RZ,simprocAttr,hn]
 refine hS7.aa 4 rfl [(.string ⟨#[116]⟩)] rfl rfl tS9 (by simp) fun H8 hS8=> ?_
 simp only[RT]at hS8
 simp(disch:=omega) only[↓RA,RB,simprocAttr,yA]
 refine hS8.ai [I 1,I 1,I 1] a2O a6u rfl rfl (by simp[Value.cells]) rfl rfl (by decide) (by decide) fun w3 H9 hS9=> ?_
 simp only[RT]at hS9
 simp(disch:=omega) only[↓RA,RB,simprocAttr,hn,a1B (hS9.rd 5 rfl).cells]
 refine hS9.ai [(.string ⟨#[114]⟩),(.string ⟨#[116]⟩),I 8,I 1,I 36,w3] c2b c2u rfl rfl (by first|(simp[];done)|simp[Value.cells]) (by first|(simp[];done)|simp[Value.cells]) (by simp[OC,(hS9.rd 5 rfl).cells.2.1]) (by decide) (by decide) fun w4 H10 hS10=> ?_
 simp only[RT]at hS10
 simp(disch:=omega) only[↓RA,RZ,simprocAttr,hn,a7K,hS10.aj 3 rfl,hS10.aj 4 rfl]
 refine hS10.ai [(.string ⟨#[115]⟩),I 8,I 1,w2,(.string ⟨#[116]⟩),I 8,I 1,w2] c0y c3z rfl rfl (by first|(simp[];done)|simp[Value.cells]) (by first|(simp[];done)|simp[Value.cells]) (by simp[OC,(hS10.rd 2 rfl).cells.2.1]) (by decide) (by decide) fun w5 H11 hS11=> ?_
 simp only[RT]at hS11
 simp(disch:=omega) only[↓RA,RB,simprocAttr,hn,a8p (hS11.rd 7 rfl).cells]
 refine hS11.ai [(.string ⟨#[100]⟩),(.bool false),I 36,I 40,w5] c0U c3g rfl rfl (by first|(simp[];done)|simp[Value.cells]) (by first|(simp[];done)|simp[Value.cells]) (by simp[OC,(hS11.rd 7 rfl).cells.2.1]) (by decide) (by decide) fun w6 H12 hS12=> ?_
 simp only[RT]at hS12
 simp(disch:=omega) only[↓RA,RB,simprocAttr,hn,b2I]
 refine hS12.ai [(.string ⟨#[99]⟩),I 0,I 0,I 1,(.bool false)] a8X b8T rfl rfl (by simp[Value.cells]) rfl rfl (by decide) (by decide) fun w7 H13 hS13=> ?_
 simp only[RT]at hS13
 simp(disch:=omega) only[↓RA,RB,simprocAttr,hn,a5k (hS13.rd 6 rfl).cells (hS13.rd 8 rfl).cells (hS13.rd 9 rfl).cells]
 refine hS13.aa 0 rfl [(.string ⟨#[111]⟩),w4,w6,w7] rfl (by simp[OC,(hS13.rd 6 rfl).cells.2.1,(hS13.rd 8 rfl).cells.2.1,(hS13.rd 9 rfl).cells.2.1]) nJ (by simp) fun H14 hS14=> ?_
 simp only[RT]at hS14
 simp(disch:=omega) only[↓RA,RZ,simprocAttr,hn,c5q,hS14.aj 0 rfl]
 have h1:Sl 2 Drw.cells H14 w1 [⟨0,0⟩]:=hS14.av 1 rfl (fun _=>rfl)
 have h2:Sl 3 Seg.cells H14 w2 [⟨36,40,w1,[⟨0,0⟩]⟩]:=hS14.av 2 rfl (fun _=>rfl)
 have h3:Sl 1 (one I) H14 w3 [1,1,1]:=hS14.av 5 rfl (fun _=>rfl)
 have h4:Sl 6 Rk.cells H14 w4 (exO w1 w2 w3 w4 w5 w6 w7).ranks:=hS14.av 6 rfl (fun _=>rfl)
 have h5:Sl 4 Stp.cells H14 w5 [⟨⟨#[115]⟩,8,1,w2,[⟨36,40,w1,[⟨0,0⟩]⟩]⟩,⟨⟨#[116]⟩,8,1,w2,[⟨36,40,w1,[⟨0,0⟩]⟩]⟩]:=hS14.av 7 rfl (fun _=>rfl)
 have h6:Sl 5 Dvn.cells H14 w6 (exO w1 w2 w3 w4 w5 w6 w7).dvs:=hS14.av 8 rfl (fun _=>rfl)
 have h7:Sl 5 Cpl.cells H14 w7 (exO w1 w2 w3 w4 w5 w6 w7).cpls:=hS14.av 9 rfl (fun _=>rfl)
 refine⟨w1,w2,w3,w4,w5,w6,w7,rfl,⟨h4,?_,h6,?_,h7,by simp[exO],by simp[exO],by simp[exO]⟩,hS14.forget⟩
 ·intro r hr
  rw[dC.1 hr]
  exact⟨h3,by simp⟩
 ·have hg:(⟨36,40,w1,[⟨0,0⟩]⟩:Seg).In H14:=⟨h1,by simp⟩
  intro d hd
  rw[dC.1 hd]
  refine⟨h5,?_,by simp⟩
  intro s hs
  simp only[eM,eK,or_false]at hs
  rcases hs with rfl|rfl
  ·exact⟨h2,fun g hg'=>by rw[dC.1 hg'];exact hg,by simp⟩
  ·exact⟨h2,fun g hg'=>by rw[dC.1 hg'];exact hg,by simp⟩
section
variable (w1 w2 w3 w4 w5 w6 w7:Value)
def a9n(x:Int×Int):List (Int×Int)→List (Int×Int)
 | []=>[x]
 | y::l=>if le2 x y then x::y::l else y::a9n x l
def a8i:List (Int×Int)→List (Int×Int)
 | []=>[]
 | x::l=>a9n x (a8i l)
theorem zL(x:Int×Int):∀l,(a9n x l).Perm (x::l)
 | []=>.refl _
 | y::l=>by
   unfold a9n
   split
   ·exact .refl _
   ·exact((zL x l).cons y).trans (.swap ..)
theorem a4e:∀l,(a8i l).Perm l
 | []=>.refl _
 | x::l=>(zL x _).trans ((a4e l).cons x)
theorem b1L(x y:Int×Int):le2 x y=false→le2 y x=true:=by
 intro h
 rw[←ey]at h
 rw[rF]at h ⊢
 omega
theorem a0K(x:Int×Int):∀l:List (Int×Int),l.Pairwise (fun a b=>le2 a b=true)→(a9n x l).Pairwise fun a b=>le2 a b=true
 | [],_=>by simp[a9n]
 | y::l,h=>by
   have h1:=List.pairwise_cons.1 h
   unfold a9n
   split
   ·rename_i hxy
    refine List.pairwise_cons.2 ⟨fun z hz=> ?_,h⟩
    rcases eM.1 hz with rfl|hz
    ·exact hxy
    ·have h2:=h1.1 z hz
     rw[rF]at*
     omega
   ·rename_i hxy
    refine List.pairwise_cons.2 ⟨fun z hz=> ?_,a0K x l h1.2⟩
    rcases eM.1 ((zL x l).mem_iff.1 hz)with rfl|hz
    ·exact b1L _ _ (by simpa using hxy)
    ·exact h1.1 z hz
theorem a0E:∀l:List (Int×Int),(a8i l).Pairwise fun a b=>le2 a b=true
 | []=>.nil
 | x::l=>a0K x _ (a0E l)
theorem c0E:wQ=a8i:=by
 funext l
 refine List.Perm.eq_of_pairwise (le:=fun a b=>le2 a b=true) (fun a b _ _ h1 h2=> ?_) (a8Q l) (a0E l) ((pN l).trans (a4e l).symm)
 rw[rF]at h1 h2
 exact ir (by omega) (by omega)
def c1p(s:List Ct→List Ct)(o:Org)(r:Reg)(l:List Ct):List Ct:=dd (s (l.filter (fun c=> !r.off.testBit c.1.toNat)++bfs o r.cpl 1100 0 (oQ o r.cpl l)))
def c1R(s:List Ct→List Ct)(rs:List Rk)(p:Stp)(key:Int):List Ct:=dd (s (((a8V p key).filter fun d=>zO rs d key).map fun d=>pR rs d key))
def c0n(s:List Ct→List Ct)(o:Org)(r:Reg)(c:Ct):List Ct:=(List.range (iD o.dvs c.1.toNat).stops.length).flatMap fun i=>if(iD r.stops c.1.toNat).testBit i then c1R s o.ranks (iD (iD o.dvs c.1.toNat).stops i) c.2 else[]
def ofG(s:List Ct→List Ct)(o:Org)(r:Reg)(c:Ct):List Ct:=if a5o o r c=0 then dd (s ((c1p s o r [c]).flatMap (c0n s o r)))else[]
theorem b4v:kZ=ofG a8i:=by
 rw[←c0E]
 rfl
theorem c0P:mB (exO w1 w2 w3 w4 w5 w6 w7) ⟨[1],0,0⟩=0:=by kernel_rfl
theorem c1K:lM (exO w1 w2 w3 w4 w5 w6 w7) ⟨[1],0,0⟩ (iM (exO w1 w2 w3 w4 w5 w6 w7))=[jO [39,40]]:=by
 unfold lM wM
 rw[b4v]
 kernel_rfl
end
section
variable (w1 w2 w3 w4 w5 w6 w7:Value)
def a2i(s:List Ct→List Ct)(o:Org)(r:Reg):List Ctl:=(oZ r).filter fun c=>decide ((iM o).map (ofG s o (kU r c))=(iM o).map (ofG s o r))
theorem a6R:mO=a2i a8i:=by
 funext o r
 unfold mO pU a2i
 rw[b4v]
def a8W(s:List Ct→List Ct)(o:Org):Nat→Reg→List Ctl→Reg×List Ctl
 | 0,g,l=>(g,l)
 | n+1,g,l=>if(a2i s o g).length=0 then(g,l)else a8W s o n (kU g (iD (a2i s o g) ((a2i s o g).length-1))) (l++[iD (a2i s o g) ((a2i s o g).length-1)])
theorem a3z(o:Org):∀n g l,mF o n g l=a8W a8i o n g l
 | 0,_,_=>rfl
 | n+1,g,l=>by
   rw[mF,a8W,a6R]
   split
   ·rfl
   ·exact a3z o n _ _
theorem b7Q:mB (exO w1 w2 w3 w4 w5 w6 w7) ⟨[3],0,0⟩=0:=by kernel_rfl
theorem b9o:mB (exO w1 w2 w3 w4 w5 w6 w7) ⟨[0],1,0⟩=0:=by kernel_rfl
theorem b8y:mO (exO w1 w2 w3 w4 w5 w6 w7) ⟨[0],1,0⟩=[wX 0]:=by
 rw[a6R]
 kernel_rfl
theorem b4M:mF (exO w1 w2 w3 w4 w5 w6 w7) (mu ⟨[3],0,0⟩+1) ⟨[3],0,0⟩ []=(⟨[1],0,0⟩,[a0f 0 1]):=by
 rw[a3z]
 kernel_rfl
end
theorem a6d:Fn prog 30 [] H fun r H'=>∃o:Org,r=.agg #[.string o.name,o.rv,o.dv,o.cv]∧(∃w1 w2 w3 w4 w5 w6 w7,o=exO w1 w2 w3 w4 w5 w6 w7)∧o.In H'∧St prog H H' []:=by
 obtain⟨h1,v,H1,h2,w1,w2,w3,w4,w5,w6,w7,h3,h4,h5⟩:=b0b (H:=H)
 exact⟨h1,v,H1,h2,_,h3,⟨w1,w2,w3,w4,w5,w6,w7,rfl⟩,h4,h5⟩
theorem b3n(o:Org)(ho:o.In H)(rg:Reg)(sv:Value)(hr:rg.In H sv)(h0:mB o rg=0)(g:Reg)(gone:List Ctl)(hs:mF o (mu rg+1) rg []=(g,gone)):
 Fn prog 31 [.agg #[.string o.name,o.rv,o.dv,o.cv],.agg #[sv,.int .u64 rg.cpl,.int .u64 rg.off]] H fun r H'=>∃nv lv,r=.tuple #[.agg #[nv,.int .u64 g.cpl,.int .u64 g.off],lv,I 0]∧(g.Ok∧g.stops.length=rg.stops.length)∧St prog H H' [⟨nv,1,g.stops.flatMap (one u64)⟩,⟨lv,3,mD gone⟩]:=by
 obtain⟨h1,v,H1,h2,nv,lv,h3⟩:=b5U o ho rg sv hr
 refine⟨h1,v,H1,h2,?_⟩
 rcases h3 with⟨h,_⟩|⟨g',gone',_,he,h4,h5,h6,h7⟩
 ·exact absurd h0 h
 ·rw[hs]at he
  obtain⟨rfl,rfl⟩:=Prod.mk.inj he
  exact⟨nv,lv,h4,⟨h5,h6⟩,h7⟩
theorem a9Q:Fn prog 6 [] H fun r H'=>r=.bool true∧St prog H H' []:=by
 refine .cT func6 rfl (by kernel_rfl) (m:=92) rfl fun l hn=> ?_
 simp(disch:=omega) only[↓RA,RZ,simprocAttr]
 refine iK (a6d) ?_
 rintro r H1⟨o,rfl,⟨v1,v2,v3,v4,v5,v6,v7,hoe⟩,ho,hT1⟩
 have hS1:=(sR H).trans hT1
 simp only[RT]at hS1
 have f1:mB o ⟨[1],0,0⟩=0:=by rw[hoe];exact c0P ..
 have f2:lM o ⟨[1],0,0⟩ (iM o)=[jO [39,40]]:=by rw[hoe];exact c1K ..
 have f3:mB o ⟨[3],0,0⟩=0:=by rw[hoe];exact b7Q ..
 have f4:mF o (mu ⟨[3],0,0⟩+1) ⟨[3],0,0⟩ []=(⟨[1],0,0⟩,[a0f 0 1]):=by rw[hoe];exact b4M ..
 have f5:mB o ⟨[0],1,0⟩=0:=by rw[hoe];exact b9o ..
 have f6:mO o ⟨[0],1,0⟩=[wX 0]:=by rw[hoe];exact b8y ..
 have hS0:=hS1
 simp(disch:=omega) only[↓RA,RZ,simprocAttr]
 refine(sR H1).eNew 4 [(.string ⟨#[]⟩),(.slice none 0 0),(.slice none 0 0),(.slice none 0 0)] rfl rfl rfl nJ fun A1 H2 hS2=> ?_
 simp only[RT]at hS2
 simp(disch:=omega) only[↓RA,RB,simprocAttr,hn]
 refine hS2.aa 0 rfl [(.string o.name),o.rv,o.dv,o.cv] rfl (by simp[OC,(hS2.sl ho.1).cells.2.1,(hS2.sl ho.2.2.1).cells.2.1,(hS2.sl ho.2.2.2.2.1).cells.2.1]) nJ (by simp) fun H3 hS3=> ?_
 simp only[RT]at hS3
 simp(disch:=omega) only[↓RA,RZ,simprocAttr,hn,hS3.aj 0 rfl]
 refine hS3.ai [(.int .u64 1)] a9Z b7i rfl rfl (by simp[Value.cells]) rfl rfl (by decide) (by decide) fun w1 H4 hS4=> ?_
 simp only[RT]at hS4
 simp(disch:=omega) only[↓RA,RZ,simprocAttr,hn,b6w (hS4.rd 1 rfl).cells]
 refine iK (a3m o (ho.ae hS4) ⟨[1],0,0⟩ _ ⟨hS4.av 1 rfl (fun _=>rfl),by decide,by decide,by decide,by decide⟩) ?_
 rintro r H5⟨lv,rfl,hT2⟩
 have hS5:=hS4.trans hT2
 simp only[RT]at hS5
 rw[f1]
 rw[if_pos f1,f2]at hS5
 simp(disch:=omega) only[↓RA,RZ,simprocAttr,hn,hS5.aj 0 rfl]
 refine hS5.ai [(.int .u64 3)] a9Z b7i rfl rfl (by simp[Value.cells]) rfl rfl (by decide) (by decide) fun w2 H6 hS6=> ?_
 simp only[RT]at hS6
 simp(disch:=omega) only[↓RA,RZ,simprocAttr,hn,b6w (hS6.rd 3 rfl).cells]
 refine iK (b3n o (ho.ae hS6) ⟨[3],0,0⟩ _ ⟨hS6.av 3 rfl (fun _=>rfl),by decide,by decide,by decide,by decide⟩ f3 _ _ f4) ?_
 rintro r H7⟨nv,gv,rfl,-,hT3⟩
 have hS7:=hS6.trans hT3
 simp only[RT]at hS7
 simp(disch:=omega) only[↓RA,RZ,simprocAttr,hn]
 refine hS7.eNew 3 [(.slice none 0 0),(.int .u64 0),(.int .u64 0)] rfl rfl rfl mQ fun A2 H8 hS8=> ?_
 simp only[RT]at hS8
 simp(disch:=omega) only[↓RA,RB,simprocAttr,hn]
 refine hS8.aa 6 rfl [nv,(.int .u64 0),(.int .u64 0)] rfl (by simp[OC,(hS8.rd 4 rfl).cells.2.1]) mQ (by simp) fun H9 hS9=> ?_
 simp only[RT]at hS9
 simp(disch:=omega) only[↓RA,RZ,simprocAttr,hn,hS9.aj 0 rfl]
 refine hS9.ai [(.int .u64 0)] a9Z b7i rfl rfl (by simp[Value.cells]) rfl rfl (by decide) (by decide) fun w3 H10 hS10=> ?_
 simp only[RT]at hS10
 simp(disch:=omega) only[↓RA,RZ,simprocAttr,hn,b5G (hS10.rd 7 rfl).cells]
 have hS2:=hS10
 refine iK (b7U o (ho.ae hS10) ⟨[0],1,0⟩ _ ⟨hS10.av 7 rfl (fun _=>rfl),by decide,by decide,by decide,by decide⟩) ?_
 rintro r H11⟨iv,rfl,hix,hT4⟩
 have hS11:=hS10.trans hT4
 simp only[RT]at hS11
 rw[if_pos f5,f6]at hix
 have hix2:=hix.step (hS2.aK (H':=H11))
 obtain⟨X,hBX,hS12⟩:=hS11.aw (os:=[⟨ptr A1 0 4,0,_⟩,⟨w1,1,_⟩,⟨lv,2,_⟩,⟨w2,1,_⟩,⟨nv,1,_⟩,⟨gv,3,_⟩,⟨ptr A2 0 3,0,_⟩,⟨w3,1,_⟩])
 rw[f5]
 have hz:∀z∈[(39:Int),40],isN z:=by
  intro z hz
  simp only[eM,eK,or_false]at hz
  rcases hz with rfl|rfl<;>exact⟨by decide,by decide⟩
 have hL1:((([jO [39,40]]:List Nt).length:Nat):Int)=1:=rfl
 have hL2:((([1]:List Nat).length:Nat):Int)=1:=rfl
 have hL3:((([a0f 0 1]:List Ctl).length:Nat):Int)=1:=rfl
 have hL4:((([wX 0]:List Ctl).length:Nat):Int)=1:=rfl
 have hN1:iD ([jO [39,40]]:List Nt) 0=jO [39,40]:=rfl
 have hN2:iD ([1]:List Nat) 0=1:=rfl
 have hN3:iD ([a0f 0 1]:List Ctl) 0=⟨1,0,1⟩:=rfl
 have hN4:iD ([wX 0]:List Ctl) 0=⟨2,0,0⟩:=rfl
 simp(disch:=omega) only[↓RA,RB,simprocAttr,hn,eq_self]
 refine Wp.aS kG [(10,12),(10,13)] (by kernel_rfl) (by kernel_rfl) ?_
 simp(disch:=omega) only[↓RA,RZ,simprocAttr,hn,(hS12.av 2 rfl (fun _=>rfl)).len,eq_self]
 simp(disch:=omega) only[↓RA,RZ,simprocAttr,hn,(hS12.av 2 rfl (fun _=>rfl)).idx,(hS12.av 2 rfl (fun _=>rfl)).aj,ntc,hN1,eq_self]
 refine hS12.ai [I 39,I 40] a2O a6u rfl rfl (by simp[Value.cells]) rfl rfl (by decide) (by decide) fun w4 H12 hS13=> ?_
 simp only[RT]at hS13
 simp(disch:=omega) only[↓RA,RZ,simprocAttr,hn,eq_self]
 have hF1:=hS13
 refine hS13.cF (c0X [39,40] hz _ (hS13.av 8 rfl (fun _=>rfl)) (by decide)) fun H13 hS14=> ?_
 have hiy:=hix2.step (hS14.kept hBX)
 simp(disch:=omega) only[↓RA,RZ,simprocAttr,hn,eq_self,and_self]
 simp(disch:=omega) only[↓RA,RZ,simprocAttr,hn,hS14.ld 6 rfl,(hS14.av 4 rfl (fun _=>rfl)).len,eq_self]
 simp(disch:=omega) only[↓RA,RZ,simprocAttr,hn,(hS14.av 4 rfl (fun _=>rfl)).idx,(hS14.av 4 rfl (fun _=>rfl)).ld,one,u64,hN2,eq_self]
 simp(disch:=omega) only[↓RA,RZ,simprocAttr,hn,(hS14.av 5 rfl (fun _=>rfl)).len,eq_self]
 simp(disch:=omega) only[↓RA,RZ,simprocAttr,hn,(hS14.av 5 rfl (fun _=>rfl)).idx,(hS14.av 5 rfl (fun _=>rfl)).aj,Ctl.cells,a4b,hN3,eq_self,and_self]
 simp(disch:=omega) only[↓RA,RZ,simprocAttr,hn,hiy.1.len,eq_self]
 simp(disch:=omega) only[↓RA,RZ,simprocAttr,hn,hiy.1.idx,hiy.1.bd,hiy.1.ld,Ctl.cells,ntc,(hS13.av 2 rfl (fun _=>rfl)).aj,(hS14.av 2 rfl (fun _=>rfl)).aj,tR6,hN1,hN4,eq_self,and_self]
 exact hS0.trans (hS11.ab hBX hS14).forget
end Go.Ds
namespace Go.Ds
open Go.Proofs
set_option maxRecDepth 10000
def ltP(x y:Int×Int):Prop:=x.1<y.1∨(x.1=y.1∧x.2<y.2)
inductive Star{α:Type}(R:α→α→Prop):α→α→Prop
 | refl (a:α):Star R a a
 | tail {a b c:α}:Star R a b→R b c→Star R a c
def IsP(o:Org)(p:Ct):Prop:=0≤p.1∧p.1<o.ranks.length∧0≤p.2∧p.2<(iD o.ranks p.1.toNat).wind.length
theorem IsP.small{o:Org}{H:Heap}(hf:o.Fine)(ho:o.In H){p:Ct}(h:IsP o p): -1000000000≤p.1∧p.1≤1000000000∧-1000000000≤p.2∧p.2≤1000000000:=by
 obtain⟨h1,h2,h3,h4⟩:=h
 have hr:=(ho.2.1 _ (iG (xs:=o.ranks) (j:=p.1.toNat) (by omega))).2
 have:=hf.rlen
 exact⟨by omega,by omega,by omega,by omega⟩
end Go.Ds
namespace Go.Ds
open Go.Proofs
variable {H:Heap}
set_option maxRecDepth 10000
set_option maxHeartbeats 1000000
structure Ks(H:Heap)(kv:Value)(ks:List Nt):Prop where
 sl:Sl 2 ntc H kv ks
 len:ks.length<1000000000
 ok:∀x∈ks,Nt.Ok x
theorem Ks.ae{P:Program}{H':Heap}{kv:Value}{ks:List Nt}{os:List Ob}(h:Ks H kv ks)(hS:St P H H' os):Ks H' kv ks:=⟨hS.sl h.sl,h.len,h.ok⟩
end Go.Ds
namespace Go.Ds
open Go.Proofs
set_option maxRecDepth 10000
def sF(x:Nt)(z:Int):Bool:=if z<64 then x.1.testBit z.toNat else x.2.testBit (z-64).toNat
theorem b5O(x:Nt)(n z:Int)(hn:isN n)(hz:isN z):sF (oU x n) z=(sF x z||decide (z=n)):=by
 unfold sF oU isN at*
 by_cases h1:n<64
 ·rw[if_pos h1]
  by_cases h2:z<64
  ·rw[if_pos h2,if_pos h2,Nat.testBit_or,gQ]
   congr 1
   rw[decide_eq_decide]
   omega
  ·rw[if_neg h2,if_neg h2,decide_eq_false (by omega),Bool.or_false]
 ·rw[if_neg h1]
  by_cases h2:z<64
  ·rw[if_pos h2,if_pos h2,decide_eq_false (by omega),Bool.or_false]
  ·rw[if_neg h2,if_neg h2,Nat.testBit_or,gQ]
   congr 1
   rw[decide_eq_decide]
   omega
theorem b3m(z:Int):sF (0,0) z=false:=by
 unfold sF
 split<;>simp
theorem a3y:∀(xs:List Int)(x:Nt)(z:Int),(∀n∈xs,isN n)→isN z→sF (xs.foldl oU x) z=(sF x z||decide (z∈xs))
 | [],x,z,_,_=>by simp
 | n::xs,x,z,h,hz=>by
   rw[eA,a3y xs _ z (fun y hy=>h y (eC _ hy)) hz,b5O x n z (h n (dY ..)) hz,Bool.or_assoc]
   congr 1
   rw[eH]
   simp
theorem a2s{xs:List Int}{z:Int}(h:∀n∈xs,isN n)(hz:isN z):sF (jO xs) z=decide (z∈xs):=by
 unfold jO
 rw[a3y xs _ z h hz,b3m,Bool.false_or]
structure SegsOk(m:Nat)(lo hi:Int)(gs:List Seg):Prop where
 ord:∀i,i<gs.length→(iD gs i).lo≤(iD gs i).hi
 up:∀i,i<gs.length→0<i→(iD gs (i-1)).hi<(iD gs i).lo
 within:∀i,i<gs.length→lo≤(iD gs i).lo∧(iD gs i).hi≤hi
 draws:∀i,i<gs.length→lJ m (iD gs i).draws=0
 len:gs.length≤12
theorem SegsOk.lt{m:Nat}{lo hi:Int}{gs:List Seg}(h:SegsOk m lo hi gs){i:Nat}:∀k,i+1+k<gs.length→(iD gs i).hi<(iD gs (i+1+k)).lo
 | 0,hk=>h.up (i+1) hk (by omega)
 | k+1,hk=>by
   have h1:=h.lt (i:=i) k (by omega)
   have h2:=h.ord (i+1+k) (by omega)
   have h3:=h.up (i+1+(k+1)) hk (by omega)
   rw[show i+1+(k+1)-1=i+1+k by omega]at h3
   omega
theorem SegsOk.one{m:Nat}{lo hi:Int}{gs:List Seg}(h:SegsOk m lo hi gs){key:Int}{i j:Nat}(hi':i<gs.length)(hj:j<gs.length)(h1:(iD gs i).lo≤key∧key≤(iD gs i).hi)(h2:(iD gs j).lo≤key∧key≤(iD gs j).hi):i=j:=by
 rcases ic i j with e|e|e
 ·have:=h.lt (i:=i) (j-i-1) (by omega)
  rw[show i+1+(j-i-1)=j by omega]at this
  omega
 ·exact e
 ·have:=h.lt (i:=j) (i-j-1) (by omega)
  rw[show j+1+(i-j-1)=i by omega]at this
  omega
theorem a1O{f:Nat→List Ct}(h1:∀i,(f i).Pairwise ltP)(h2:∀i,∀c∈f i,c.1=(i:Int)):∀n,((List.range n).flatMap f).Pairwise ltP
 | 0=>.nil
 | n+1=>by
   rw[eu,dE,dM,fy,dm,eT]
   refine⟨a1O h1 h2 n,h1 n,fun a ha b hb=> ?_⟩
   obtain⟨i,hi,ha⟩:=eD.1 ha
   have hi:=dz.1 hi
   unfold ltP
   rw[h2 i a ha,h2 n b hb]
   omega
end Go.Ds
namespace Go.Ds
open Go.Proofs
variable {H:Heap}
set_option maxRecDepth 10000
set_option maxHeartbeats 1000000
end Go.Ds
namespace Go.Ds
open Go.Proofs
set_option maxRecDepth 10000
theorem Star.mono{α:Type}{R R':α→α→Prop}(h:∀a b,R a b→R' a b){a b:α}(hs:Star R a b):Star R' a b:=by
 induction hs with
 | refl=>exact .refl _
 | tail _ h2 ih=>exact .tail ih (h _ _ h2)
end Go.Ds
namespace Go.Ds
open Go.Proofs Go.Shelf Go.RowKit Go.Lib Go.Sort
def sm(x:Int×Int):Prop:=-1000000000≤x.1∧x.1≤1000000000∧-1000000000≤x.2∧x.2≤1000000000
abbrev Sm:={x:Int×Int//sm x}
instance:Inhabited Sm:=⟨⟨(0,0),by unfold sm;decide⟩⟩
section
variable {H:Heap}
end
end Go.Ds
namespace Go.Ds
open Go.Proofs
variable {H:Heap}
set_option maxRecDepth 10000
set_option maxHeartbeats 1000000
end Go.Ds
namespace Go.Ds
open Go.Proofs Go.Shelf Go.RowKit Go.Lib Go.Sort
section
variable {H:Heap}
end
end Go.Ds
namespace Go.Ds
open Go.Proofs
variable {H:Heap}
set_option maxRecDepth 10000
set_option maxHeartbeats 1000000
structure Frs{α:Type}(n:Nat)(cel:α→List Value)(H:Heap)(v:Value)(xs:List α)(tl:List Value)(L:Nat):Prop where
 rd:RdAt H v n (xs.flatMap cel++tl)
 hc:∀x,(cel x).length=n
 pos:0<n
 hL:L=xs.length
theorem oE(v:Value)(n lo k j f:Nat):jR (lB v n lo k) n j f=jR v n (lo+j) f:=by
 unfold lB
 split
 ·simp only[jR,Value.pointer.injEq,dF,Addr.mk.injEq,true_and,and_true]
  rw[fc]
  omega
 ·rename_i h
  unfold jR
  split
  ·exact absurd rfl (h _ _ _ _ _)
  ·rfl
theorem a3n(v:Value)(n lo k lo2 k2:Nat):lB (lB v n lo k) n lo2 k2=lB v n (lo+lo2) k2:=by
 cases v with
 | slice a m c=>
   cases a with
   | none=>rfl
   | some a=>
     obtain⟨A,i,e⟩:=a
     simp only[lB,Value.slice.injEq,dF,Addr.mk.injEq,true_and,and_true]
     rw[fc]
     omega
 | _=>rfl
section
variable {P:Program} {α:Type} {n:Nat} {cel:α→List Value} {v:Value} {xs:List α} {tl:List Value} {L:Nat}
theorem Frs.sl(h:Frs n cel H v xs tl L):Sl n cel H (lB v n 0 L) xs:=by
 refine⟨?_,h.hc,h.pos⟩
 have hl:=iI h.hc xs
 rw[h.hL]
 by_cases h0:xs.flatMap cel++tl=[]
 ·have hx:xs.length=0:=by
   have:=congrArg List.length h0
   rw[dr,hl,eP]at this
   have h2:xs.length*n=0:=by omega
   rcases Nat.mul_eq_zero.1 h2 with h3|h3
   ·exact h3
   ·have:=h.pos;omega
  obtain rfl:=fx.1 hx
  have hr:=h.rd
  rw[h0]at hr
  obtain⟨m,rfl⟩:∃m,n=m+1:=⟨n-1,by have:=h.pos;omega⟩
  have e:=RdAt.sub_self (n:=0) hr (by simp)
  show RdAt H (lB v (m+1) 0 0) (m+1) []
  rw[e]
  exact hr
 ·have h5:=RdAt.sub h.rd 0 xs.length (by rw[dr,hl];omega) h0
  rw[Nat.zero_mul,im,←hl,List.take_left' rfl]at h5
  exact h5
theorem Frs.len(h:Frs n cel H v xs tl L)(m:Nat)(t:TypeId):a7i (some m) P H t (lB v n 0 L)=some (.int .i64 L):=by
 rw[h.sl.len m t,h.hL]
theorem Frs.idx(h:Frs n cel H v xs tl L)(t:TypeId)(k:IntKind)(j:Int)(h0:0≤j)(h1:j<xs.length):a1s (some n) P t (lB v n 0 L) (.int k j)=some (jR v n j.toNat 0):=by
 rw[h.sl.idx t k j h0 h1,oE,fh]
theorem Frs.bd(h:Frs n cel H v xs tl L)(j:Nat)(hj:j<xs.length)(g d:Nat):a6n (some d) (jR v n j g)=some (jR v n j (g+d)):=by
 have:=h.sl.bd j hj g d
 rwa [oE,oE,fh]at this
theorem Frs.ld[Inhabited α](h:Frs n cel H v xs tl L)(s:Option Nat)(j f:Nat)(hj:j<xs.length)(hf:f<n):pA (some false) s H (jR v n j f)=(cel (iD xs j))[f]?:=by
 have:=h.sl.ld s j f hj hf
 rwa [oE,fh]at this
theorem Frs.aj[Inhabited α](h:Frs n cel H v xs tl L)(j:Nat)(hj:j<xs.length):pA (some true) (some n) H (jR v n j 0)=some (.agg (cel (iD xs j)).toArray):=by
 have:=h.sl.aj j hj
 rwa [oE,fh]at this
theorem Frs.aM(h:Frs n cel H v xs tl L)(o:Oper)(l:List Value)(H':Heap)(k:IntKind)(a:Int)(K:Value→Heap→Prop)(h0:0<xs.length)(h1:0≤a)(h2:a≤xs.length):
 nQ P o l H' (some n) (lB v n 0 L) (some (.int k a)) none K=oI (lB v n a.toNat (L-a).toNat) fun v=>K v H':=by
 rw[h.sl.aM o l H' k a K h0 h1 h2,a3n,fh,h.hL]
theorem Frs.aN(h:Frs n cel H v xs tl L)(o:Oper)(l:List Value)(H':Heap)(k:IntKind)(a:Int)(K:Value→Heap→Prop)(h0:0<xs.length)(h1:0≤a)(h2:a≤xs.length):
 nQ P o l H' (some n) (lB v n 0 L) none (some (.int k a)) K=oI (lB v n 0 a.toNat) fun v=>K v H':=by
 rw[h.sl.aN o l H' k a K h0 h1 h2,a3n,fh]
theorem Frs.cells(h:Frs n cel H v xs tl L):(lB v n 0 L).cells=#[lB v n 0 L]∧oneCell (lB v n 0 L)=true∧oG (lB v n 0 L)=true:=h.sl.cells
end
end Go.Ds
namespace Go.Ds
open Go
section
variable {P:Program} {H:Heap}
theorem SWr.mono:∀(c:Code){l:List Value}{H:Heap}{M Q:nN},(∀e l H,M e l H→Q e l H)→SWr P c l H M→SWr P c l H Q:=by
 intro c
 induction c with
 | skip=>intro l H M Q hm h;exact hm _ _ _ h
 | label t=>intro l H M Q hm h;exact hm _ _ _ h
 | exit id=>intro l H M Q hm h;exact hm _ _ _ h
 | ret=>intro l H M Q hm h;exact hm _ _ _ h
 | seq a b iha ihb=>
   intro l H M Q hm h
   refine iha ?_ h
   intro e l1 H1 h1
   cases e with
   | normal=>exact ihb hm h1
   | exit i=>exact hm _ _ _ h1
   | ret=>exact hm _ _ _ h1
 | block id b ih=>
   intro l H M Q hm h
   exact ih (fun e l1 H1 h1=>hm _ _ _ h1) h
 | cond c x y ihx ihy=>
   intro l H M Q hm h
   cases c with
   | tmp t=>exact a1Q h (ihx hm) (ihy hm)
   | _=>exact Wp.mono h hm
 | region id ops d=>
   intro l H M Q hm h
   cases d with
   | true=>exact Wp.mono h hm
   | false=>exact a0l (fun l H h=>hm _ _ _ h) _ _ _ h
 | _=>intro l H M Q hm h;exact Wp.mono h hm
end
end Go.Ds
namespace Go.Ds
noncomputable section
variable {P:Program} {H0:Base} {H:Heap} {os:List Ob} {κ β:Type} [DecidableEq κ] {enc:κ→Value} {f:β→Value} {z:Value} {t:TypeId}
theorem St.bk{o:Ob}(h:OwnAt P H o):St P ⟨H,pX [o]⟩ H [o] where
 len:=dj _
 old:=fun _ _ _=>rfl
 own:=fun x hx=>by rw[dC.1 hx];exact h
 new:=fun x hx B hB=>.inr ⟨x,hx,hB⟩
 sep:=List.pairwise_singleton _ _
theorem OwnAt.st{H0:Heap}{o:Ob}(h:OwnAt P H0 o)(hS:St P H0 H os):OwnAt P H o:=h.ae fun B hB=>hS.ae B (h.lt hB)
end
end Go.Ds
namespace Go.Ds
open Go.Proofs
variable {H:Heap}
set_option maxRecDepth 10000
set_option maxHeartbeats 1000000
structure Gn where
 c:Ct
 w:Value
 l:List Ct
 tl:List Value
 deriving Inhabited
abbrev Gn.v(g:Gn):Value:=lB g.w 2 0 g.l.length
def Gn.cells(g:Gn):List Value:=[I g.c.1,I g.c.2,g.v]
def Gn.row(g:Gn):Ob:=⟨g.w,2,pr g.l++g.tl⟩
def Gn.key(g:Gn):Ct×List Ct:=(g.c,g.l)
theorem Lp.cJ{P:Program}{B:Base}{L:Nat}{r:Loop}{A G xs:List Ob}{g:Ob}(h:Lp P B L r H (A++(G++(xs++[g])))):Lp P B L r H ((A++G)++xs):=
 h.sub (by rw[dG];exact(iw A).append ((iw G).append (fM _ _)))
theorem b7n{xs:List Ct}(hs:xs.Pairwise ltP){i j:Nat}(h:i<j)(hj:j<xs.length):ltP (iD xs i) (iD xs j):=by
 rw[jP _ _ (by omega),jP _ _ hj]
 exact ec.1 hs i j (by omega) hj h
end Go.Ds
namespace Go.Ds
open Go.Proofs Go.Proofs.Tryz
variable {H:Heap}
set_option maxRecDepth 10000
set_option maxHeartbeats 1000000
structure Gd where
 w:Value
 l:List Ct
 pw:Value
 P:List Ct
 tl:List Value
 deriving Inhabited
abbrev Gd.pv(g:Gd):Value:=lB g.pw 2 0 g.P.length
def Gd.c1(g:Gd):List Value:=[g.w]
def Gd.c2(g:Gd):List Value:=[g.pv]
def Gd.row(g:Gd):Ob:=⟨g.w,2,pr g.l⟩
def Gd.ba(g:Gd):Ob:=⟨g.pw,2,pr g.P++g.tl⟩
def Gd.key(g:Gd):List Ct×List Ct:=(g.l,g.P)
theorem a7H(v:Value)(xs:List Gd)(hv:Sl 1 Gd.c1 H v xs)(hl:xs.length<1000000000)(k:FuncId)(caps:List Value)(p:Nat→Bool)
 (hf:∀j H1,j<xs.length→St prog H H1 []→Fn prog k ((iD xs j).w::caps) H1 fun r H2=>r=.bool (p j)∧St prog H1 H2 []):
 Fn prog 61 [v,.func (.func k) #[] caps.toArray] H fun r H'=>r=I (lT p xs.length)∧St prog H H' []:=by
 refine .aD func61 rfl (by kernel_rfl) (m:=19) rfl fun l hn g0 g1=> ?_
 simp(disch:=omega) only[↓RA,RZ,simprocAttr,hn,g0,((sR H).sl hv).len]
 refine Wp.aq (fun n l H'=>l.length=19∧get l 0=v∧get l 1=.func (.func k) #[] caps.toArray∧get l 7=I xs.length∧∃(j:Nat),(n+j=xs.length∧∀q,q<j→p q=false)∧get l 8=I j∧St prog H H' []) xs.length ?_ ?_
 ·simp(disch:=omega) only[RB,RC,simprocAttr,hn,g0,g1]
  exact⟨0,⟨by omega,fun q hq=>absurd hq (dJ _)⟩,rfl,(sR H)⟩
 rintro n l H1⟨hn,g0,g1,g7,j,⟨hi,h0⟩,g8,hS1⟩
 simp(disch:=omega) only[↓RA,RB,simprocAttr,hn,g7,g8]
 refine iC (fun h=> ?_) (fun h=> ?_)
 ·simp(disch:=omega) only[↓RA,RZ,simprocAttr,hn,g0,g1,g8,(hS1.sl hv).idx,(hS1.sl hv).ld,Gd.c1,h]
  refine hS1.cF (hf j _ (by omega) hS1) fun H2 hS2=> ?_
  simp(disch:=omega) only[↓RA,RZ,simprocAttr,hn,h]
  refine jJ (fun hp=> ?_) (fun hp=> ?_)
  ·simp(disch:=omega) only[↓RA,RZ,simprocAttr,hn,c3h,h,hp]
   exact⟨by rw[vV p xs.length j (by omega) hp h0],hS2⟩
  simp(disch:=omega) only[↓RA,RZ,simprocAttr,hn,g0,g1,g7,g8,h,hp]
  exact⟨n-1,by omega,j+1,⟨by omega,fun q hq=>by rcases dw.1 hq with e|e;(· exact h0 q e);(· rw[e];exact hp)⟩,by simp,hS2⟩
 simp(disch:=omega) only[↓RA,RZ,simprocAttr,hn,c3h,h]
 exact⟨by rw[vK p xs.length fun q hq=>h0 q (by omega)],hS1⟩
theorem b8z(g:Gd)(hg:Sl 2 jT H g.w g.l)(h0:0<g.l.length)(c:Ct)(AT:Nat)(hV:Var H AT 2 [I c.1,I c.2]):
 Fn prog 62 [g.w,ptr AT 0 2] H fun r H'=>r=.bool (decide ((iD g.l 0).1=c.1))∧St prog H H' []:=by
 refine .aD func62 rfl (by kernel_rfl) (m:=11) rfl fun l hn g0 g1=> ?_
 simp(disch:=omega) only[↓RA,RB,simprocAttr]
 refine Wp.drw kG (by kernel_rfl) ?_
 simp(disch:=omega) only[↓RA,RZ,simprocAttr,hn,g0,g1,((sR H).sl hg).idx,((sR H).sl hg).bd,((sR H).sl hg).ld,jT,(hV.ae (sR H).ae).ld,c5n]
 exact(sR H).forget
theorem b8Q(g:Gd)(hg:Sl 2 jT H g.w g.l):Fn prog 64 [g.w] H fun r H'=>r=.bool (decide (g.l.length<2))∧St prog H H' []:=by
 refine .aW func64 rfl (by kernel_rfl) (m:=6) rfl fun l hn g0=> ?_
 simp(disch:=omega) only[↓RA,RZ,simprocAttr,hn,g0,((sR H).sl hg).len,c5s]
 exact⟨by congr 1;exact decide_eq_decide.2 (by omega),(sR H).forget⟩
theorem pE(xs:List Gd):(List.flatMap Gd.c1 xs).length=xs.length*1:=iI (n:=1) (fun _=>rfl) xs
theorem b3i(xs ys:List Gd):List.flatMap Gd.c1 (xs++ys)=List.flatMap Gd.c1 xs++List.flatMap Gd.c1 ys:=dE
theorem c3o:a3K prog 85=some (0+1):=by kernel_rfl
theorem c4C{B:Base}{v:Value}{xs:List Gd}(hS:St prog B H [⟨v,1,xs.flatMap Gd.c1⟩])(hl:xs.length<100000000)(k:FuncId)(caps:List Value)(p:Gd→Bool)
 (hw:∀g∈xs,g.w.cells=#[g.w]∧oneCell g.w=true∧oG g.w=true)
 (hf:∀c∈xs,∀{H1:Heap}{os:List Ob},St prog B H1 os→Fn prog k (c.w::caps) H1 fun r H2=>r=.bool (p c)∧St prog H1 H2 []):
 Fn prog 63 [v,.func (.func k) #[] caps.toArray] H fun r H'=>∃rest:List Value,(∀b,kJ r=some b→kJ v=some b)∧(∀H2,RdAt H2 v 1 (List.flatMap Gd.c1 (xs.filter fun c=> !p c)++rest)→RdAt H2 r 1 (List.flatMap Gd.c1 (xs.filter fun c=> !p c)))∧
  St prog B H' [⟨v,1,List.flatMap Gd.c1 (xs.filter fun c=> !p c)++rest⟩]:=by
 refine .aD func63 rfl (by kernel_rfl) (m:=42) rfl fun l hn g0 g1=> ?_
 simp(disch:=omega) only[↓RA,RZ,simprocAttr,hn,g0,g1]
 refine hS.cF (a7H v xs (hS.av 0 rfl (fun _=>rfl)) (by omega) k caps (fun j=>p (iD xs j)) (fun j H1 hj hS'=>hf _ (iG hj) (hS.trans hS'))) fun H1 hS1=> ?_
 simp(disch:=omega) only[↓RA,RB,simprocAttr,hn]
 refine iC (fun h1=> ?_) (fun h1=> ?_)
 ·have hno:∀c∈xs,p c=false:=by
   intro c hc
   obtain⟨j,hj,rfl⟩:=dT.1 hc
   have h2:¬0≤lT (fun j=>p (iD xs j)) xs.length:=by omega
   rw[vH]at h2
   rw[←jP xs j hj,←ey]
   exact fun hp=>h2 ⟨j,hj,hp⟩
  have hfe:(xs.filter fun c=> !p c)=xs:=gS.2 fun c hc=>by rw[hno c hc];rfl
  simp(disch:=omega) only[↓RA,RZ,simprocAttr,hn,g0,c2W,h1]
  exact⟨[],fun _ h=>h,by rw[hfe,dm];exact fun _ h=>h,by rw[hfe,dm];exact hS1⟩
 have hge:0≤lT (fun j=>p (iD xs j)) xs.length:=by
  unfold lT at h1 ⊢
  split
  ·omega
  ·rename_i hq
   rw[hq]at h1
   exact absurd rfl h1
 obtain⟨i0,hi0⟩:∃i0:Nat,lT (fun j=>p (iD xs j)) xs.length=i0:=⟨_,(fj hge).symm⟩
 have hi0l:=sW hi0
 have hi0b:(∀j,j<i0→p (iD xs j)=false)∧p (iD xs i0)=true:=by
  unfold lT at hi0
  split at hi0
  ·rename_i q hq
   have hqi:q=i0:=by omega
   subst hqi
   rw[gh]at hq
   exact⟨fun j hj=>by have:=hq.2.2 j hj;simpa using this,hq.1⟩
  ·omega
 have hD0:((xs.take (i0+1)).filter fun c=> !p c)=xs.take i0:=by
  rw[pM xs i0 hi0l,dZ]
  have e1:([iD xs i0].filter fun c=> !p c)=[]:=by simp[hi0b.2]
  rw[e1,dm]
  refine gS.2 fun c hc=> ?_
  obtain⟨j,hj,rfl⟩:=dT.1 hc
  have hj2:j<i0:=by rw[eW]at hj;omega
  have:=hi0b.1 j hj2
  rw[jP xs j (by omega)]at this
  rw[List.getElem_take,this]
  rfl
 simp(disch:=omega) only[↓RA,RZ,simprocAttr,hn,hi0]
 have hrow:St prog B H1 [⟨v,1,List.flatMap Gd.c1 (((xs.take (i0+1)).filter fun c=> !p c)++xs.drop ((xs.take (i0+1)).filter fun c=> !p c).length)⟩]:=by
  rw[hD0,eW,ft (by omega),fI]
  exact hS1
 have hlt0:((xs.take (i0+1)).filter fun c=> !p c).length<i0+1:=by
  rw[hD0,eW]
  omega
 refine Wp.aq (fun n l H'=>l.length=42∧get l 0=v∧get l 1=.func (.func k) #[] caps.toArray∧∃j:Nat,(n+j=xs.length∧((xs.take j).filter fun c=> !p c).length<j)∧get l 5=I ((xs.take j).filter fun c=> !p c).length∧get l 6=I j∧St prog B H' [⟨v,1,List.flatMap Gd.c1 (((xs.take j).filter fun c=> !p c)++xs.drop ((xs.take j).filter fun c=> !p c).length)⟩]) (xs.length-(i0+1)) ?_ ?_
 ·simp(disch:=omega) only[RB,RC,simprocAttr,hn,g0,g1]
  refine⟨i0+1,⟨by omega,hlt0⟩,?_,by simp,hrow⟩
  rw[hD0,eW,ft (by omega)]
 clear hrow hlt0
 rintro n l H9⟨hn,g0,g1,j,⟨hj,hlt⟩,g5,g6,hS9⟩
 have hsucc:j<xs.length→((xs.take (j+1)).filter fun c=> !p c)=((xs.take j).filter fun c=> !p c)++(if p (iD xs j)=true then[]else[iD xs j]):=fun h=>by
  rw[pM xs j h,dZ]
  congr 1
  by_cases hp:p (iD xs j)=true
  ·rw[if_pos hp];simp[hp]
  ·rw[if_neg hp];simp[hp]
 have hall:j=xs.length→((xs.take j).filter fun c=> !p c)=xs.filter fun c=> !p c:=fun h=>by rw[h,eE]
 generalize hD:((xs.take j).filter fun c=> !p c)=D at g5 hlt hS9 hsucc hall
 have hjl:j≤xs.length:=by omega
 have hrl:(D++xs.drop D.length).length=xs.length:=by rw[dr,eF];omega
 have hat:∀q,D.length≤q→iD (D++xs.drop D.length) q=iD xs q:=fun q hq=>by
  unfold iD
  rw[dh,ek hq,dI,dh]
  congr 2;omega
 have hatj:=hat j (by omega)
 simp(disch:=omega) only[↓RA,RZ,simprocAttr,hn,g0,g6,(hS9.av 0 rfl (fun _=>rfl)).len,hrl]
 refine iC (fun h4=> ?_) (fun h4=> ?_)
 ·have hjx:j<xs.length:=by omega
  have hsu:=hsucc hjx
  simp(disch:=omega) only[↓RA,RZ,simprocAttr,hn,g0,g1,g6,(hS9.av 0 rfl (fun _=>rfl)).idx,(hS9.av 0 rfl (fun _=>rfl)).ld,Gd.c1,hatj,h4]
  refine hS9.cF (hf (iD xs j) (iG hjx) hS9) fun H2 hS2=> ?_
  simp(disch:=omega) only[↓RA,RZ,simprocAttr,hn,h4]
  refine jJ (fun h5=> ?_) (fun h5=> ?_)
  ·have hpf:¬p (iD xs j)=true:=by simpa using h5
   rw[if_neg hpf]at hsu
   simp(disch:=omega) only[↓RA,RZ,simprocAttr,hn,g0,g5,(hS2.av 0 rfl (fun _=>rfl)).idx,h4,h5]
   refine hS2.aR 0 rfl [(iD xs j).w] (by rw[(hw _ (iG hjx)).1]) (by simp[(hw _ (iG hjx)).2.1]) b3c (by simp) (by rw[pE,hrl];simp;omega) fun H3 hS3=> ?_
   simp only[RT]at hS3
   simp(disch:=omega) only[↓RA,RZ,simprocAttr,hn,g0,g1,g5,g6,h4,h5]
   refine⟨n-1,by omega,j+1,?_⟩
   rw[hsu]
   refine⟨⟨by omega,by simp;omega⟩,by simp,by simp,?_⟩
   have e3:List.flatMap Gd.c1 (D++[iD xs j]++xs.drop (D++[iD xs j]).length)=(List.flatMap Gd.c1 (D++xs.drop D.length)).set D.length (iD xs j).w:=by
    have hx:xs.drop D.length=iD xs D.length::xs.drop (D.length+1):=by
     rw[jP xs _ (by omega)]
     exact eU (by omega)
    have h5:=vS (n:=1) (cel:=Gd.c1) (fun _=>rfl) (D++xs.drop D.length) D.length 0 [(iD xs j).w] (iD xs j) (by rw[hrl];omega) (by simp) rfl
    rw[kW,oA,Nat.mul_one,ib]at h5
    rw[h5,eI _ _ (by omega),il,hx,fw,dr,fW,dG]
    rfl
   rw[e3]
   exact hS3.pick [0] (by decide) rfl
  have hpt:p (iD xs j)=true:=by simpa using h5
  rw[if_pos hpt,dm]at hsu
  simp(disch:=omega) only[↓RA,RZ,simprocAttr,hn,g0,g1,g5,g6,h4,h5]
  refine⟨n-1,by omega,j+1,?_⟩
  rw[hsu]
  exact⟨⟨by omega,by omega⟩,rfl,by simp,hS2.pick [0] (by decide) rfl⟩
 have hje:j=xs.length:=by omega
 have hDe:=hall hje
 have hcl:(List.flatMap Gd.c1 (D++xs.drop D.length)).length=xs.length*(0+1):=by rw[pE,hrl]
 have hDn:D.length≤xs.length:=by omega
 simp(disch:=omega) only[↓RA,RZ,simprocAttr,hn,g0,g5,(hS9.av 0 rfl (fun _=>rfl)).aM,hrl,h4]
 rw[show((xs.length:Int)-D.length).toNat=xs.length-D.length from by omega]
 refine hS9.bq (size:=0) 0 rfl D.length (xs.length-D.length) (by rw[hcl];omega) (by
  intro e
  have h2:(List.flatMap Gd.c1 (D++xs.drop D.length)).length=0:=by rw[e];rfl
  rw[hcl]at h2;omega) c3o fun z H3 hz hSc=> ?_
 simp only[RT]at hSc
 have e3:iZ (List.flatMap Gd.c1 (D++xs.drop D.length)) (D.length*1) z=List.flatMap Gd.c1 D++z:=by
  rw[b3i,show D.length*1=(List.flatMap Gd.c1 D).length from(pE D).symm,mG z (List.flatMap Gd.c1 D) (List.flatMap Gd.c1 (xs.drop D.length)) (by rw[pE,eF];omega)]
  rw[gu (by rw[pE,eF];omega),dm]
 rw[show iZ (List.flatMap Gd.c1 (D++xs.drop D.length)) D.length z=iZ (List.flatMap Gd.c1 (D++xs.drop D.length)) (D.length*1) z from by rw[Nat.mul_one],e3]at hSc
 have hw:RdAt H3 v (0+1) (List.flatMap Gd.c1 D++z):=hSc.rd 0 rfl
 have hwl:(List.flatMap Gd.c1 D++z).length=xs.length*(0+1):=by rw[dr,pE,hz];omega
 simp(disch:=omega) only[↓RA,RZ,simprocAttr,hn,g0,g5,hw.aN hwl,c2W,h4]
 refine⟨z,fun b h=>sI h,fun H2 h2=> ?_,by rw[←hDe];exact hSc⟩
 rw[←hDe]at h2 ⊢
 have h5:=RdAt.sub h2 0 D.length (by rw[hwl];omega) (by
  intro e
  rw[e]at hwl
  simp at hwl;omega)
 rw[Nat.zero_mul,im,show D.length*1=(List.flatMap Gd.c1 D).length from(pE D).symm,List.take_left' rfl]at h5
 exact h5
end Go.Ds
namespace Go.Ds
open Go.Proofs
variable {H:Heap}
set_option maxRecDepth 10000
theorem a8M{p q:Nat→Bool}{n:Nat}(h:∀j,j<n→p j=q j):lT p n=lT q n:=by
 unfold lT
 have e:(List.range n).find? p=(List.range n).find? q:=by
  cases hq:(List.range n).find? q with
  | none=>
    rw[gr]at hq ⊢
    intro x hx
    rw[h x (dz.1 hx)]
    exact hq x hx
  | some i=>
    rw[gh]at hq ⊢
    obtain⟨h1,h2,h3⟩:=hq
    have hi:=dz.1 h2
    refine⟨by rw[h i hi];exact h1,h2,fun j hj=> ?_⟩
    rw[h j (by omega)]
    exact h3 j hj
 rw[e]
def vY(p:Nat→Bool):Nat→Nat→Nat
 | 0,a=>a
 | m+1,a=>if p a then a else vY p m (a+1)
theorem b0m(p:Nat→Bool):∀(m a t:Nat),a≤t→t≤a+m→(∀q,a≤q→q<t→p q=false)→(t=a+m∨p t=true)→vY p m a=t
 | 0,a,t,h1,h2,_,_=>by unfold vY;omega
 | m+1,a,t,h1,h2,h3,h4=>by
   unfold vY
   by_cases hp:p a=true
   ·rw[if_pos hp]
    by_cases hat:a=t
    ·exact hat
    ·have:=h3 a (dj _) (by omega)
     rw[hp]at this
     cases this
   ·rw[if_neg hp]
    have hat:a≠t:=fun e=>by
     rcases h4 with h|h
     ·omega
     ·rw[e]at hp;exact hp h
    exact b0m p m (a+1) t (by omega) (by omega) (fun q h5 h6=>h3 q (by omega) h6) (h4.imp (fun h=>by omega) id)
theorem b0R(p:Nat→Bool):∀(m a:Nat),a≤vY p m a∧vY p m a≤a+m
 | 0,a=>by unfold vY;omega
 | m+1,a=>by
   unfold vY
   have:=b0R p m (a+1)
   split<;>omega
abbrev Grp:=List Ct×List Ct
def uP(G:List Grp)(c:Ct):Int:=lT (fun j=>decide ((iD (iD G j).1 0).1=c.1)) G.length
def rY(f:Ct→List Ct)(G:List Grp)(c:Ct):List Grp:=
 if(f c).length=0 then G else if uP G c<0 then G++[([c],f c)]else
  let t:=vY (fun j=>decide ((iD G j).2=f c)) (G.length-(uP G c).toNat) (uP G c).toNat
  if t<G.length then G.set t ((iD G t).1++[c],(iD G t).2)else G++[([c],f c)]
def oD(f:Ct→List Ct)(d:List Ct):List Grp:=d.foldl (rY f) []
theorem a5W(f:Ct→List Ct)(d:List Ct)(c:Ct):oD f (d++[c])=rY f (oD f d) c:=by
 unfold oD
 rw[gF]
 rfl
theorem b7F(f:Ct→List Ct)(G:List Grp)(c:Ct)(n:Nat)(hl:G.length≤n)(h:∀g∈G,0<g.1.length∧g.1.length≤n):(rY f G c).length≤n+1∧∀g∈rY f G c,0<g.1.length∧g.1.length≤n+1:=by
 have hn:∀g∈G++[(([c],f c):Grp)],0<g.1.length∧g.1.length≤n+1:=fun g hg=>by
  rcases dH.1 hg with hg|hg
  ·have:=h g hg;omega
  ·rw[dC.1 hg];simp
 have hnl:(G++[(([c],f c):Grp)]).length≤n+1:=by rw[dr];simpa using hl
 unfold rY
 split
 ·exact⟨by omega,fun g hg=>by have:=h g hg;omega⟩
 split
 ·exact⟨hnl,hn⟩
 simp only
 split
 ·rename_i ht
  refine⟨by rw[fF];omega,fun g hg=> ?_⟩
  rcases fY hg with hg|hg
  ·have:=h g hg;omega
  ·rw[hg]
   have:=h _ (iG ht)
   simp only[dr,fW]
   omega
 ·exact⟨hnl,hn⟩
theorem a4l(f:Ct→List Ct):∀(d:List Ct)(G:List Grp)(n:Nat),G.length≤n→(∀g∈G,0<g.1.length∧g.1.length≤n)→(d.foldl (rY f) G).length≤n+d.length∧∀g∈d.foldl (rY f) G,0<g.1.length∧g.1.length≤n+d.length
 | [],G,n,hl,h=>⟨by simpa using hl,by simpa using h⟩
 | c::d,G,n,hl,h=>by
   have h1:=b7F f G c n hl h
   have:=a4l f d (rY f G c) (n+1) h1.1 h1.2
   rw[eA,eo,show n+(d.length+1)=n+1+d.length from by omega]
   exact this
theorem b0B(f:Ct→List Ct)(d:List Ct):(oD f d).length≤d.length∧∀g∈oD f d,0<g.1.length∧g.1.length≤d.length:=by
 have:=a4l f d [] 0 (dj _) (fun g hg=>absurd hg eK)
 rw[fh]at this
 exact this
theorem a2t(f:Ct→List Ct):∀(d:List Ct)(G:List Grp),(∀g∈G,∃c,g.2=f c)→∀g∈d.foldl (rY f) G,∃c,g.2=f c
 | [],_,h=>h
 | c::d,G,h=>by
   rw[eA]
   refine a2t f d _ ?_
   have hn:∀g∈G++[(([c],f c):Grp)],∃c,g.2=f c:=fun g hg=>by
    rcases dH.1 hg with hg|hg
    ·exact h g hg
    ·rw[dC.1 hg];exact⟨c,rfl⟩
   unfold rY
   split
   ·exact h
   split
   ·exact hn
   simp only
   split
   ·rename_i ht
    intro g hg
    rcases fY hg with hg|hg
    ·exact h g hg
    ·obtain⟨c',e⟩:=h _ (iG ht)
     exact⟨c',by rw[hg];exact e⟩
   ·exact hn
theorem c0D(f:Ct→List Ct)(d:List Ct):∀g∈oD f d,∃c,g.2=f c:=a2t f d [] fun g hg=>absurd hg eK
def qB(gs:List Gd):List Ob:=gs.flatMap fun g=>[g.row,g.ba]
theorem a1L(gs:List Gd)(g:Gd):qB (gs++[g])=qB gs++[g.row,g.ba]:=by
 unfold qB
 rw[dE]
 rfl
theorem a7C:∀(gs:List Gd)(t:Nat),t<gs.length→∃rest:List Ob,(qB gs).Perm ((iD gs t).row::rest)∧∀g':Gd,g'.ba=(iD gs t).ba→(qB (gs.set t g')).Perm (g'.row::rest)
 | [],t,h=>absurd h (dJ _)
 | g::gs,0,_=>⟨g.ba::qB gs,List.Perm.refl _,fun g' h=>by
   have h:g'.ba=g.ba:=h
   rw[←h]
   exact List.Perm.refl _⟩
 | g::gs,t+1,h=>by
   obtain⟨rest,h1,h2⟩:=a7C gs t (by simpa using h)
   have hn:iD (g::gs) (t+1)=iD gs t:=by simp[iD]
   rw[hn]
   have hp:∀(x:Ob)(l:List Ob),l.Perm (x::rest)→(g.row::g.ba::l).Perm (x::g.row::g.ba::rest):=fun x l hl=>
    ((hl.cons _).cons _).trans (((List.Perm.swap x g.ba rest).cons _).trans (List.Perm.swap x g.row _))
   exact⟨g.row::g.ba::rest,hp _ _ h1,fun g' h=>hp _ _ (h2 g' h)⟩
theorem a0B{f:Gd→List Value}:∀(gs:List Gd)(t:Nat)(y:Gd),f y=f (iD gs t)→(gs.set t y).flatMap f=gs.flatMap f
 | [],t,y,_=>rfl
 | g::gs,0,y,h=>by
   have h:f y=f g:=h
   simp[h]
 | g::gs,t+1,y,h=>by
   have h:f y=f (iD gs t):=by simpa [iD]using h
   simp[a0B gs t y h]
theorem rX{gs:List Gd}{g:Gd}(h:g∈gs):g.row∈qB gs∧g.ba∈qB gs:=by
 unfold qB
 exact⟨eD.2 ⟨g,h,by simp⟩,eD.2 ⟨g,h,by simp⟩⟩
theorem Lp.cK{P:Program}{B:Base}{L:Nat}{r:Loop}{A rest:List Ob}{w:Value}{xs:List Ct}{tl:List Value}(h:Lp P B L r H (A++rest))(ho:(⟨w,2,pr xs++tl⟩:Ob)∈rest):Slx 2 jT H (nb (A.map (·.v))) (lB w 2 0 xs.length) xs:=by
 refine⟨⟨uD ((h.st.own _ (ef _ ho)).rd (show(2:Nat)≠0 by decide)),jG,by decide⟩,fun b hb v hv hvb=> ?_⟩
 obtain⟨o,hoA,rfl⟩:=dD.1 hv
 exact(eT.1 h.st.sep).2.2 o hoA _ ho b hvb (sI hb)
theorem St.bH{P:Program}{B:Base}{A rest:List Ob}{w:Value}{xs:List Ct}(h:St P B H (A++rest))(ho:(⟨w,2,pr xs⟩:Ob)∈rest):Slx 2 jT H (nb (A.map (·.v))) w xs:=by
 refine⟨⟨(h.own _ (ef _ ho)).rd (show(2:Nat)≠0 by decide),jG,by decide⟩,fun b hb v hv hvb=> ?_⟩
 obtain⟨o,hoA,rfl⟩:=dD.1 hv
 exact(eT.1 h.sep).2.2 o hoA _ ho b hvb hb
theorem Lp.bH{P:Program}{B:Base}{L:Nat}{r:Loop}{A rest:List Ob}{w:Value}{xs:List Ct}(h:Lp P B L r H (A++rest))(ho:(⟨w,2,pr xs⟩:Ob)∈rest):Slx 2 jT H (nb (A.map (·.v))) w xs:=by
 refine⟨⟨(h.st.own _ (ef _ ho)).rd (show(2:Nat)≠0 by decide),jG,by decide⟩,fun b hb v hv hvb=> ?_⟩
 obtain⟨o,hoA,rfl⟩:=dD.1 hv
 exact(eT.1 h.st.sep).2.2 o hoA _ ho b hvb hb
theorem Lp.perm{P:Program}{B:Base}{L:Nat}{r:Loop}{os os':List Ob}(h:Lp P B L r H os)(hp:os.Perm os'):Lp P B L r H os':=⟨h.st.perm hp,h.get,h.lo,fun o ho=>h.ne o (hp.mem_iff.2 ho)⟩
theorem Lp.cM{P:Program}{B:Base}{L:Nat}{r:Loop}{a b:Ob}{F G xs:List Ob}(h:Lp P B L r H ((a::F)++(G++(xs++[b])))):Lp P B L r H ((F++(G++[a,b]))++xs):=by
 refine h.perm ?_
 rw[gn,←dG,←dG F G,dG (F++G) [a,b] xs]
 exact(List.perm_middle (l₁:=F++G)).symm.trans (((List.perm_append_comm.cons a)).append_left (F++G))
theorem Lp.cR{P:Program}{B:Base}{L:Nat}{r:Loop}{a b:Ob}{F G R xs:List Ob}(h:Lp P B L r H ((a::F)++(R++(xs++[b]))))(hp:G.Perm (a::R)):Lp P B L r H ((F++G)++xs):=by
 have h2:=h.sub (os':=(a::F)++(R++xs)) ((iw _).append ((iw _).append (fM _ _)))
 refine h2.perm ?_
 rw[gn,dG F G xs]
 exact(List.perm_middle (l₁:=F)).symm.trans ((hp.symm.append_right xs).append_left F)
end Go.Ds
namespace Go.Ds
open Go.Proofs Go.Proofs.Tryz
variable {H:Heap}
set_option maxRecDepth 10000
set_option maxHeartbeats 1000000
theorem a9U(o:Org)(ho:o.In H)(rg:Reg)(sv:Value)(hr:rg.In H sv):
 Fn prog 27 [.agg #[.string o.name,o.rv,o.dv,o.cv],.agg #[sv,.int .u64 rg.cpl,.int .u64 rg.off]] H fun r H'=>∃(lv:Value)(gs:List Gd),r=.tuple #[lv,I (mB o rg)]∧gs.map (·.l)=(if mB o rg=0 then((oD (kZ o rg) (iM o)).map (·.1)).filter (fun l=> !decide (l.length<2))else[])∧
  Slx 1 Gd.c1 H' (fun B=>H.length≤B) lv gs∧(∀g∈gs,Slx 2 jT H' (fun B=>H.length≤B) g.w g.l)∧St prog H H' []:=by
 have hnil:∀{H':Heap},Slx 1 Gd.c1 H' (fun B=>H.length≤B) (.slice none 0 0) ([]:List Gd):=fun{H'}=>⟨⟨.inl ⟨rfl,rfl⟩,fun _=>rfl,by decide⟩,fun b h=>by simp[kJ]at h⟩
 refine .aD func27 rfl (by kernel_rfl) (m:=77) rfl fun l hn g0 g1=> ?_
 simp(disch:=omega) only[↓RA,RB,simprocAttr,g0]
 refine(sR H).eNew 4 [(.string o.name),o.rv,o.dv,o.cv] rfl rfl (by simp[OC,((sR H).sl ho.1).cells.2.1,((sR H).sl ho.2.2.1).cells.2.1,((sR H).sl ho.2.2.2.2.1).cells.2.1]) nJ fun A1 H1 hS1=> ?_
 simp only[RT]at hS1
 simp(disch:=omega) only[↓RA,RB,simprocAttr,g1]
 refine hS1.eNew 3 [sv,(.int .u64 rg.cpl),(.int .u64 rg.off)] rfl rfl (by simp[OC,(hS1.sl hr.1).cells.2.1]) mQ fun A2 H2 hS2=> ?_
 simp only[RT]at hS2
 simp(disch:=omega) only[↓RA,RZ,simprocAttr,hn,hS2.aj 0 rfl,hS2.aj 1 rfl]
 refine hS2.cF (rK o (ho.ae hS2) rg sv (hr.ae hS2)) fun H3 hS3=> ?_
 simp(disch:=omega) only[↓RA,RB,simprocAttr,hn]
 refine iC (fun h1=> ?_) (fun h1=> ?_)
 ·simp(disch:=omega) only[↓RA,RZ,simprocAttr,hn,c4h,h1]
  exact⟨.slice none 0 0,[],rfl,rfl,hnil,fun _ h=>absurd h eK,hS3.forget⟩
 have h0:=dN.1 h1
 obtain⟨hz3,hz4⟩:=qQ h0
 have hf:=Org.bL hz3
 rw[if_pos h0]
 simp(disch:=omega) only[↓RA,RZ,simprocAttr]
 refine hS3.eNew 1 [(.slice none 0 0)] rfl rfl rfl b7I fun A3 H4 hS4=> ?_
 simp only[RT]at hS4
 simp(disch:=omega) only[↓RA,RZ,simprocAttr]
 refine hS4.eNew 1 [(.slice none 0 0)] rfl rfl rfl a0J fun A4 H5 hS5=> ?_
 simp only[RT]at hS5
 simp(disch:=omega) only[↓RA,RZ,simprocAttr,hn,hS5.aj 0 rfl,hS5.aj 1 rfl,h1]
 have hS6:=hS5.nil 0
 simp only[RT]at hS6
 have hS7:=hS6.nil 0
 simp only[RT]at hS7
 refine iK (a2K o (ho.ae hS7) rg sv (hr.ae hS7)) ?_
 rintro r H6⟨AK,AL,rfl,hT2⟩
 have hS8:=hS7.trans hT2
 simp only[RT]at hS8
 simp(disch:=omega) only[↓RA,RC,simprocAttr,h1]
 refine Wp.bl fun lrg1 hlrg1=> ?_
 have hnrg1:lrg1.length=77:=by rw[hlrg1];simp(disch:=omega) only[RB,simprocAttr,hn]
 have g4rg1:get lrg1 4=(.slice none 0 0):=by rw[hlrg1];simp(disch:=omega) only[RB,simprocAttr,hn]
 have g5rg1:get lrg1 5=I 0:=by rw[hlrg1];simp(disch:=omega) only[RB,simprocAttr,hn]
 have g7rg1:get lrg1 7=(ptr A3 0 1):=by rw[hlrg1];simp(disch:=omega) only[RB,simprocAttr,hn]
 have g8rg1:get lrg1 8=(ptr A4 0 1):=by rw[hlrg1];simp(disch:=omega) only[RB,simprocAttr,hn]
 have gfrg1:get lrg1 20=.func (.func 77) #[] [(ptr AK 0 4),(ptr AL 0 3)].toArray:=by rw[hlrg1];simp(disch:=omega) only[RB,simprocAttr,hn]
 clear hlrg1
 refine Wp.aZ gfrg1 fun rg1 hstrg1 hpdrg1 htmrg1 hpsrg1 hasrg1 hbdrg1=> ?_
 have hreqrg1:({rg1 with state:=.ready,pending:=none}:Loop)=rg1:=by
  cases rg1
  simp only at hstrg1 hpdrg1
  subst hstrg1 hpdrg1
  rfl
 have hLprg1:=Lp.enter hS8 rg1
 generalize H6.cons (.loop rg1)=Hcrg1 at hLprg1 ⊢
 generalize H6.length=Lrg1 at hLprg1 ⊢
 refine(a7x o hf rg sv AK AL (.func (.yield Lrg1) #[] #[]) (fun d xs H1=>∃(gw pw:Value)(gs:List Gd),gs.map Gd.key=oD (kZ o rg) (d)∧Lp prog H Lrg1 rg1 H1 (([⟨ptr A1 0 4,0,oC o⟩,⟨ptr A2 0 3,0,rC rg sv⟩,⟨ptr A3 0 1,0,[gw]⟩,⟨ptr A4 0 1,0,[pw]⟩,⟨gw,1,gs.flatMap Gd.c1⟩,⟨pw,1,gs.flatMap Gd.c2⟩,⟨ptr AK 0 4,0,oC o⟩,⟨ptr AL 0 3,0,rC rg sv⟩]++qB gs)++xs)) ⟨.slice none 0 0,.slice none 0 0,[],rfl,?_⟩ ?_ ?_ ?_ ?_).mono ?_
 ·rw[dm,show qB []=[]from rfl,dm]
  exact hLprg1
 ·rintro d xs H1⟨gw,pw,gs,hgs,h⟩
  have hs:=h.left.left.st
  exact⟨hs.var 6 rfl,ho.ae hs,hs.var 7 rfl,hr.ae hs,fun x hx=>h.st.own x (ef _ hx)⟩
 ·rintro d xs H1 H2 ys⟨gw,pw,gs,hgs,h⟩hT
  have h3:=h.ext hT
  rw[dG]at h3
  exact⟨gw,pw,gs,hgs,h3⟩
 ·rintro d xs ys H1⟨gw,pw,gs,hgs,h⟩
  rw[←dG]at h
  exact⟨gw,pw,gs,hgs,h.left⟩
 ·rintro d c e xs H1 H20 pv gv rest he⟨gw,pw,gs,hgs,hLp⟩hT hpv
  have hLpj:=hLp.ext hT
  rw[dG,dG]at hLpj
  have hx:Slx 2 jT H20 (fun B=>H1.length≤B) pv (kZ o rg c):=by rw[hpv];exact vR hT
  have hdk:=b0B (kZ o rg) d
  rw[←hgs,dB]at hdk
  have hdl:d.length≤1024:=by
   have h1:=qP hf
   rw[he,dr]at h1
   omega
  have hgp:∀j,j<gs.length→0<(iD gs j).l.length∧(iD gs j).l.length≤1024:=fun j hj=>by
   have:=hdk.2 _ (eO (iG hj))
   exact⟨this.1,dL this.2 hdl⟩
  obtain⟨i,z,rfl,hi,hz⟩:=a5l hf (c:=c) (by rw[he];simp)
  have hlen:=a1o hf rg ((i:Int),z)
  have hap:=a5W (kZ o rg) d ((i:Int),z)
  refine mT hLpj.get (by rw[hpsrg1];rfl) hstrg1 ?_
  refine Wp.aE (l:=put (put lrg1 (some 21) (.agg #[I i,I z])) (some 22) (pv)) hasrg1 (by rw[hpsrg1,htmrg1];first|exact(kP ..).symm|rfl|simp[put,kP]) ?_
  simp(disch:=omega) only[↓RA,RZ,simprocAttr]
  refine(sR H20).eNew 2 [I 0,I 0] rfl rfl rfl qC fun A5 H7 hS9=> ?_
  simp only[RT]at hS9
  simp(disch:=omega) only[↓RA,RB,simprocAttr,hnrg1]
  refine hS9.aa 0 rfl [I i,I z] rfl rfl qC (by simp) fun H8 hS10=> ?_
  simp only[RT]at hS10
  simp(disch:=omega) only[↓RA,RZ,simprocAttr,hnrg1]
  have hSy:=hS10
  have hLl:Lrg1<H1.length:=jI hLp.get
  have hLpx:=Lp.swap (hLpj.ext hS10)
  refine⟨rg1,hLpx.get,hstrg1,?_⟩
  have hYBs1:=hLpx.set (fun h=>h) {rg1 with state:=.busy}
  have hKBs1:∀B,B≠Lrg1→iR (hset H8 Lrg1 (.loop {rg1 with state:=.busy})) B=iR H8 B:=fun B h=>iP _ (eG h)
  have hNBs1:(hset H8 Lrg1 (.loop {rg1 with state:=.busy})).length=H8.length:=jE ..
  generalize hset H8 Lrg1 (.loop {rg1 with state:=.busy})=HBs1 at hYBs1 hKBs1 hNBs1 ⊢
  refine Wp.aE hbdrg1 rfl ?_
  have hZBs1:=hYBs1.left.st
  obtain⟨Bs1,hBBs1,hS11⟩:=hZBs1.aw (os:=[⟨ptr A1 0 4,0,_⟩,⟨ptr A2 0 3,0,_⟩,⟨ptr A3 0 1,0,_⟩,⟨ptr A4 0 1,0,_⟩,⟨gw,1,_⟩,⟨pw,1,_⟩,⟨ptr AK 0 4,0,_⟩,⟨ptr AL 0 3,0,_⟩,⟨ptr A5 0 2,0,_⟩])
  have hxB:Slx 2 jT HBs1 (nb [ptr A1 0 4,ptr A2 0 3,ptr A3 0 1,ptr A4 0 1,gw,pw,ptr AK 0 4,ptr AL 0 3,ptr A5 0 2]) pv (kZ o rg ((i:Int),z)):=hx.step fun B hB hl=>⟨by rw[hKBs1 B (by omega),hSy.ae B hl],fun v hv hb=>by
   rw[show[ptr A1 0 4,ptr A2 0 3,ptr A3 0 1,ptr A4 0 1,gw,pw,ptr AK 0 4,ptr AL 0 3,ptr A5 0 2]=[ptr A1 0 4,ptr A2 0 3,ptr A3 0 1,ptr A4 0 1,gw,pw,ptr AK 0 4,ptr AL 0 3]++[ptr A5 0 2]from rfl]at hv
   rcases dH.1 hv with hv|hv
   ·exact(hLp.left.left.st.aK (H':=H20) B hB hl).2 v hv hb
   ·rw[dC.1 hv]at hb
    rcases hSy.new _ (dC.2 rfl) B hb with h|h
    ·have h:H20.length≤B:=h
     omega
    ·exact h.elim⟩
  have hgB:∀j,j<gs.length→Slx 2 jT HBs1 (nb [ptr A1 0 4,ptr A2 0 3,ptr A3 0 1,ptr A4 0 1,gw,pw,ptr AK 0 4,ptr AL 0 3,ptr A5 0 2]) (iD gs j).w (iD gs j).l:=fun j hj=>hYBs1.bH (fQ _ (rX (iG hj)).1)
  have hpB:∀j,j<gs.length→Slx 2 jT HBs1 (nb [ptr A1 0 4,ptr A2 0 3,ptr A3 0 1,ptr A4 0 1,gw,pw,ptr AK 0 4,ptr AL 0 3,ptr A5 0 2]) (iD gs j).pv (iD gs j).P:=fun j hj=>hYBs1.cK (fQ _ (rX (iG hj)).2)
  simp(disch:=omega) only[↓RA,RZ,simprocAttr,hnrg1,(hxB.step (hS11.kept hBBs1)).1.len]
  refine iC (fun q1=> ?_) (fun q1=> ?_)
  ·have hdS:oD (kZ o rg) (d++[((i:Int),z)])=oD (kZ o rg) d:=by rw[hap];unfold rY;rw[if_pos (by omega)]
   simp(disch:=omega) only[↓RA,RC,simprocAttr]
   have hS12:=hS11.pick (os':=[⟨ptr A1 0 4,0,_⟩,⟨ptr A2 0 3,0,_⟩,⟨ptr A3 0 1,0,_⟩,⟨ptr A4 0 1,0,_⟩,⟨gw,1,_⟩,⟨pw,1,_⟩,⟨ptr AK 0 4,0,_⟩,⟨ptr AL 0 3,0,_⟩]) [0,1,2,3,4,5,6,7] (by decide) rfl
   have hWBs1:=(hYBs1.aI (hBBs1▸hS12)).set (fun h=>h) rg1
   rw[←hreqrg1]at hWBs1
   have hfin:∃(gw pw:Value)(gs:List Gd),gs.map Gd.key=oD (kZ o rg) (d++[((i:Int),z)])∧Lp prog H Lrg1 rg1 (hset HBs1 Lrg1 (.loop rg1)) (([⟨ptr A1 0 4,0,oC o⟩,⟨ptr A2 0 3,0,rC rg sv⟩,⟨ptr A3 0 1,0,[gw]⟩,⟨ptr A4 0 1,0,[pw]⟩,⟨gw,1,gs.flatMap Gd.c1⟩,⟨pw,1,gs.flatMap Gd.c2⟩,⟨ptr AK 0 4,0,oC o⟩,⟨ptr AL 0 3,0,rC rg sv⟩]++qB gs)++xs):=⟨gw,pw,gs,by rw[hdS];exact hgs,Lp.cJ (hreqrg1▸hWBs1)⟩
   rw[←hreqrg1]at hfin
   exact⟨_,(hYBs1.aI (hBBs1▸hS12)).get,rfl,hreqrg1▸hfin⟩
  have hq1:¬(kZ o rg ((i:Int),z)).length=0:=by omega
  simp(disch:=omega) only[↓RA,RZ,simprocAttr,hnrg1,g7rg1,hS11.ld 2 rfl,q1]
  have hSi:=hS11
  refine hS11.cF (a7H gw gs (hS11.av 4 rfl (fun _=>rfl)) (by omega) 62 [ptr A5 0 2] (fun j=>decide ((iD (iD gs j).l 0).1=(i:Int))) (fun j H1 hj hS'=>b8z (iD gs j) (((hgB j hj).step (hS11.kept hBBs1)).1.ae hS'.ae) (hgp j hj).1 ((i:Int),z) A5 ((hS11.var 8 rfl).ae hS'.ae))) fun H9 hS13=> ?_
  have hgl:(oD (kZ o rg) d).length=gs.length:=by rw[←hgs,dB]
  have hgn:∀j,j<gs.length→iD (oD (kZ o rg) d) j=(iD gs j).key:=fun j hj=>by rw[←hgs,pK Gd.key hj]
  have hhd:uP (oD (kZ o rg) d) ((i:Int),z)=lT (fun j=>decide ((iD (iD gs j).l 0).1=(i:Int))) gs.length:=by
   unfold uP
   rw[hgl]
   exact a8M fun j hj=>by rw[hgn j hj];rfl
  have hal:∀a:Nat,lT (fun j=>decide ((iD (iD gs j).l 0).1=(i:Int))) gs.length=(a:Int)→a<gs.length:=fun a h=>sW h
  have hneg:∀a:Int,a=lT (fun j=>decide ((iD (iD gs j).l 0).1=(i:Int))) gs.length→a=-1∨0≤a:=fun a h=>by
   rw[h]
   unfold lT
   split<;>omega
  generalize hA:lT (fun j=>decide ((iD (iD gs j).l 0).1=(i:Int))) gs.length=a at hhd hal ⊢
  have hneg:=hneg a hA.symm
  simp(disch:=omega) only[↓RA,RZ,simprocAttr,hnrg1,q1]
  have hsk:∀t:Nat,0≤a→a≤t→t≤gs.length→(∀q:Nat,a≤q→q<t→¬(iD gs q).P=kZ o rg ((i:Int),z))→(t=gs.length∨t<gs.length∧(iD gs t).P=kZ o rg ((i:Int),z))→
   vY (fun j=>decide ((iD (oD (kZ o rg) d) j).2=kZ o rg ((i:Int),z))) ((oD (kZ o rg) d).length-(uP (oD (kZ o rg) d) ((i:Int),z)).toNat) (uP (oD (kZ o rg) d) ((i:Int),z)).toNat=t:=fun t h0 h1 h2 h3 h4=>by
   rw[hhd,hgl]
   refine b0m _ _ _ _ (by omega) (by omega) (fun q h5 h6=> ?_) ?_
   ·rw[hgn q (by omega)]
    exact decide_eq_false (h3 q (by omega) h6)
   ·rcases h4 with h|⟨h,h'⟩
    ·left;omega
    ·right
     rw[hgn t h]
     exact decide_eq_true h'
  refine Wp.aq (fun n l H'=>l.length=77∧get l 4=(.slice none 0 0)∧get l 5=I 0∧get l 7=(ptr A3 0 1)∧get l 8=(ptr A4 0 1)∧get l 9=(ptr A5 0 2)∧get l 10=pv∧∃(b:Int),(gs.length≤n+b.toNat∧(a<0→b=-1)∧(0≤a→a≤b∧b≤gs.length∧∀q:Nat,a≤q→(q:Int)<b→¬(iD gs q).P=kZ o rg ((i:Int),z)))∧get l 11=I b∧St prog Bs1 H' [⟨ptr A1 0 4,0,[(.string o.name),o.rv,o.dv,o.cv]⟩,⟨ptr A2 0 3,0,[sv,(.int .u64 rg.cpl),(.int .u64 rg.off)]⟩,⟨ptr A3 0 1,0,[gw]⟩,⟨ptr A4 0 1,0,[pw]⟩,⟨gw,1,gs.flatMap Gd.c1⟩,⟨pw,1,gs.flatMap Gd.c2⟩,⟨ptr AK 0 4,0,[(.string o.name),o.rv,o.dv,o.cv]⟩,⟨ptr AL 0 3,0,[sv,(.int .u64 rg.cpl),(.int .u64 rg.off)]⟩,⟨ptr A5 0 2,0,[I i,I z]⟩]) gs.length ?_ ?_
  ·simp(disch:=omega) only[RB,RC,simprocAttr,hnrg1,g4rg1,g5rg1,g7rg1,g8rg1]
   exact⟨a,⟨by omega,fun h=>by omega,fun h=>⟨by omega,by have:=hal a.toNat (by omega);omega,fun q h1 h2=>by omega⟩⟩,rfl,hS13⟩
  rintro n l H10⟨hn,g4,g5,g7,g8,g9,g10,b,⟨hb1,hb2,hb3⟩,g11,hS14⟩
  simp(disch:=omega) only[↓RA,RZ,simprocAttr,hn,g11]
  refine jU (fun c0=> ?_) (fun c0=> ?_)
  ·have ha0:0≤a:=by
    rcases hneg with h|h
    ·have:=hb2 (by omega);omega
    ·exact h
   obtain⟨hb4,hb5,hb6⟩:=hb3 ha0
   simp(disch:=omega) only[↓RA,RZ,simprocAttr,hn,g7,g11,hS14.ld 2 rfl,(hS14.av 4 rfl (fun _=>rfl)).len,c0]
   refine jU (fun c1=> ?_) (fun c1=> ?_)
   ·have hbl:b.toNat<gs.length:=by omega
    have hbP:=hpB b.toNat hbl
    have hPl:(iD gs b.toNat).P.length<10000000:=by
     obtain⟨c,hc⟩:=c0D (kZ o rg) d (iD gs b.toNat).key (by rw[←hgs];exact eO (iG hbl))
     have hc:(iD gs b.toNat).P=kZ o rg c:=hc
     have:=a1o hf rg c
     rw[hc]
     omega
    simp(disch:=omega) only[↓RA,RZ,simprocAttr,hn,g8,g11,hS14.ld 3 rfl,(hS14.av 5 rfl (fun _=>rfl)).idx,c0,c1]
    simp(disch:=omega) only[↓RA,RZ,simprocAttr,hn,g10,(hS14.av 5 rfl (fun _=>rfl)).ld,Gd.c2,c0,c1]
    refine hS14.cF (a7P (iD gs b.toNat).pv pv (iD gs b.toNat).P (kZ o rg ((i:Int),z)) ((hbP.step (hS14.kept hBBs1)).1) ((hxB.step (hS14.kept hBBs1)).1) (by omega) (by omega)) fun H11 hS15=> ?_
    simp(disch:=omega) only[↓RA,RZ,simprocAttr,hn,c0,c1]
    refine jJ (fun c2=> ?_) (fun c2=> ?_)
    ·simp(disch:=omega) only[↓RA,RZ,simprocAttr,hn,g4,g5,g7,g8,g9,g10,g11,c0,c1,c2]
     refine⟨n-1,by omega,b+1,⟨by omega,fun h=>by omega,fun _=>⟨by omega,by omega,fun q h1 h2=> ?_⟩⟩,rfl,hS15⟩
     by_cases e:(q:Int)=b
     ·have e2:q=b.toNat:=by omega
      rw[e2]
      simpa using c2
     ·exact hb6 q h1 (by omega)
    simp(disch:=omega) only[↓RA,RZ,simprocAttr,hn,g11,c0,c1,c2]
    refine iO (fun g2=> ?_) (fun g2=> ?_)
    ·exfalso;first|omega|(simp at g2;omega)
    simp(disch:=omega) only[↓RA,RZ,simprocAttr,hn,g7,g11,hS15.ld 2 rfl,(hS15.av 4 rfl (fun _=>rfl)).len,c0,c1,c2,g2]
    refine iC (fun c3=> ?_) (fun c3=> ?_)
    ·exfalso;first|omega|(simp at c3;omega)
    obtain⟨orest,hop,hoq⟩:=a7C gs b.toNat hbl
    have hYm:=hYBs1.aI (hBBs1▸hS15)
    have hYp:=hYm.perm (os':=([⟨ptr A1 0 4,0,oC o⟩,⟨ptr A2 0 3,0,rC rg sv⟩,⟨ptr A3 0 1,0,[gw]⟩,⟨ptr A4 0 1,0,[pw]⟩,⟨gw,1,gs.flatMap Gd.c1⟩,⟨pw,1,gs.flatMap Gd.c2⟩,⟨ptr AK 0 4,0,oC o⟩,⟨ptr AL 0 3,0,rC rg sv⟩]++[⟨ptr A5 0 2,0,[I i,I z]⟩,(iD gs b.toNat).row])++(orest++(xs++[⟨gv,2,pr (kZ o rg ((i:Int),z))++rest⟩]))) (by
     have e:(qB gs++(xs++[(⟨gv,2,pr (kZ o rg ((i:Int),z))++rest⟩:Ob)])).Perm ((iD gs b.toNat).row::(orest++(xs++[⟨gv,2,pr (kZ o rg ((i:Int),z))++rest⟩]))):=hop.append_right _
     exact(e.append_left _).trans (by simp))
    have hYMd1:=hYp
    have hZMd1:=hYMd1.left.st
    obtain⟨Md1,hBMd1,hS16⟩:=hZMd1.aw (os:=[⟨ptr A1 0 4,0,_⟩,⟨ptr A2 0 3,0,_⟩,⟨ptr A3 0 1,0,_⟩,⟨ptr A4 0 1,0,_⟩,⟨gw,1,_⟩,⟨pw,1,_⟩,⟨ptr AK 0 4,0,_⟩,⟨ptr AL 0 3,0,_⟩,⟨ptr A5 0 2,0,_⟩,⟨(iD gs b.toNat).w,2,_⟩])
    have hroom:=(hgp b.toNat hbl).2
    simp(disch:=omega) only[↓RA,RC,simprocAttr,c0,c1,c2,g2,c3]
    refine Wp.aS kG [(0,8),(0,9),(2,8),(5,8)] (by kernel_rfl) (by kernel_rfl) ?_
    simp(disch:=omega) only[↓RA,RZ,simprocAttr,hn,g7,g9,g11,hS16.ld 2 rfl,(hS16.av 4 rfl (fun _=>rfl)).idx,(hS16.av 4 rfl (fun _=>rfl)).ld,Gd.c1]
    simp(disch:=omega) only[↓RA,RZ,simprocAttr,hn,hS16.aj 8 rfl]
    refine hS16.ai [I i,I z] tG a1y rfl rfl (by simp[Value.cells]) rfl rfl (by decide) (by decide) fun w1 H12 hS17=> ?_
    simp only[RT]at hS17
    simp(disch:=omega) only[↓RA,RZ,simprocAttr,hn]
    refine hS17.al 9 rfl (hS17.rd 10 rfl) tG (by rw[iL];simp;omega) fun w2 H13 hS18=> ?_
    simp only[RT]at hS18
    simp(disch:=omega) only[↓RA,RZ,simprocAttr,hn]
    simp(disch:=omega) only[↓RA,RZ,simprocAttr,hn,(hS18.av 4 rfl (fun _=>rfl)).idx]
    refine hS18.aR 4 rfl [w2] (by rw[(hS18.rd 9 rfl).cells.1]) (by simp[(hS18.rd 9 rfl).cells.2.1]) b3c (by simp) (by rw[iI (n:=1) (cel:=Gd.c1) (fun _=>rfl)];simp;omega) fun H14 hS19=> ?_
    simp only[RT]at hS19
    simp(disch:=omega) only[↓RA,RZ,simprocAttr,hn,g7,hS17.ld 2 rfl,hS18.ld 2 rfl,Gd.c1,(hS17.av 4 rfl (fun _=>rfl)).ld]
    have hdS:rY (kZ o rg) (oD (kZ o rg) d) ((i:Int),z)=(oD (kZ o rg) d).set b.toNat ((iD gs b.toNat).l++[((i:Int),z)],(iD gs b.toNat).P):=by
     unfold rY
     rw[if_neg hq1,hhd,if_neg (by omega)]
     simp only
     rw[←hhd,hsk b.toNat (by omega) (by omega) (by omega) (fun q h1 h2=>hb6 q h1 (by omega)) (.inr ⟨hbl,by simpa using c2⟩),if_pos (by omega),hgn b.toNat hbl]
     rfl
    have happ1:(gs.flatMap Gd.c1).set b.toNat w2=(gs.set b.toNat (⟨w2,(iD gs b.toNat).l++[((i:Int),z)],(iD gs b.toNat).pw,(iD gs b.toNat).P,(iD gs b.toNat).tl⟩:Gd)).flatMap Gd.c1:=by
     have h5:=vS (n:=1) (cel:=Gd.c1) (fun _=>rfl) gs b.toNat 0 [w2] (⟨w2,(iD gs b.toNat).l++[((i:Int),z)],(iD gs b.toNat).pw,(iD gs b.toNat).P,(iD gs b.toNat).tl⟩:Gd) hbl (by simp) rfl
     rw[kW,oA,Nat.mul_one,ib]at h5
     exact h5
    have happ2:gs.flatMap Gd.c2=(gs.set b.toNat (⟨w2,(iD gs b.toNat).l++[((i:Int),z)],(iD gs b.toNat).pw,(iD gs b.toNat).P,(iD gs b.toNat).tl⟩:Gd)).flatMap Gd.c2:=(a0B gs b.toNat (⟨w2,(iD gs b.toNat).l++[((i:Int),z)],(iD gs b.toNat).pw,(iD gs b.toNat).P,(iD gs b.toNat).tl⟩:Gd) rfl).symm
    have happ3:pr (iD gs b.toNat).l++[I i,I z]=pr ((iD gs b.toNat).l++[((i:Int),z)]):=by rw[kC];rfl
    rw[happ1,happ2,happ3]at hS19
    have hS20:=hS19.pick (os':=[⟨w2,2,_⟩,⟨ptr A1 0 4,0,_⟩,⟨ptr A2 0 3,0,_⟩,⟨ptr A3 0 1,0,_⟩,⟨ptr A4 0 1,0,_⟩,⟨gw,1,_⟩,⟨pw,1,_⟩,⟨ptr AK 0 4,0,_⟩,⟨ptr AL 0 3,0,_⟩]) [9,0,1,2,3,4,5,6,7] (by decide) rfl
    have hWMd1:=(hYMd1.aI (hBMd1▸hS20)).set (fun h=>h) rg1
    rw[←hreqrg1]at hWMd1
    have hfin:∃(gw pw:Value)(gs:List Gd),gs.map Gd.key=oD (kZ o rg) (d++[((i:Int),z)])∧Lp prog H Lrg1 rg1 (hset H14 Lrg1 (.loop rg1)) (([⟨ptr A1 0 4,0,oC o⟩,⟨ptr A2 0 3,0,rC rg sv⟩,⟨ptr A3 0 1,0,[gw]⟩,⟨ptr A4 0 1,0,[pw]⟩,⟨gw,1,gs.flatMap Gd.c1⟩,⟨pw,1,gs.flatMap Gd.c2⟩,⟨ptr AK 0 4,0,oC o⟩,⟨ptr AL 0 3,0,rC rg sv⟩]++qB gs)++xs):=by
     refine⟨gw,pw,gs.set b.toNat (⟨w2,(iD gs b.toNat).l++[((i:Int),z)],(iD gs b.toNat).pw,(iD gs b.toNat).P,(iD gs b.toNat).tl⟩:Gd),by rw[hap,hdS,gq,hgs];rfl,?_⟩
     exact Lp.cR (hreqrg1▸hWMd1) (hoq _ rfl)
    rw[←hreqrg1]at hfin
    exact⟨_,(hYMd1.aI (hBMd1▸hS20)).get,rfl,hreqrg1▸hfin⟩
   simp(disch:=omega) only[↓RA,RZ,simprocAttr,hn,g11,c0,c1]
   refine iO (fun g1=> ?_) (fun g1=> ?_)
   ·exfalso;first|omega|(simp at g1;omega)
   simp(disch:=omega) only[↓RA,RZ,simprocAttr,hn,g7,g11,hS14.ld 2 rfl,(hS14.av 4 rfl (fun _=>rfl)).len,c0,c1,g1]
   refine iC (fun c3=> ?_) (fun c3=> ?_)
   rotate_left
   ·exfalso;first|omega|(simp at c3;omega)
   simp(disch:=omega) only[↓RA,RC,simprocAttr,c3]
   refine Wp.bW kG [0,1,2,3,4,5,6,7,8,9,10] [0,1,2,3,4,5,6,7,8,9,10] ⟨true,[85],[]⟩ [(0,4),(5,0),(5,4)] (by kernel_rfl) (by kernel_rfl) (by kernel_rfl) ?_
   simp(disch:=omega) only[↓RA,RZ,simprocAttr,hn,g7,g9,hS14.ld 2 rfl,hS14.aj 8 rfl]
   refine hS14.ai [I i,I z] tG a1y rfl rfl (by simp[Value.cells]) rfl rfl (by decide) (by decide) fun w3 H15 hS21=> ?_
   simp only[RT]at hS21
   simp(disch:=omega) only[↓RA,RB,simprocAttr,hn]
   refine hS21.ai [w3] b2h c2i rfl rfl (by first|(simp[(hS21.rd 9 rfl).cells.1];done)|simp[Value.cells,(hS21.rd 9 rfl).cells.1]) (by first|(simp[(hS21.rd 9 rfl).cells.1];done)|simp[Value.cells,(hS21.rd 9 rfl).cells.1]) (by simp[(hS21.rd 9 rfl).cells.2.1]) (by decide) (by decide) fun w4 H16 hS22=> ?_
   simp only[RT]at hS22
   simp(disch:=omega) only[↓RA,RZ,simprocAttr,hn]
   refine hS22.al 4 rfl (hS22.rd 10 rfl) b2h (by first|(rw[iI (n:=1) (cel:=Gd.c1) (fun _=>rfl)];simp;omega)|(rw[iI (n:=1) (cel:=Gd.c2) (fun _=>rfl)];simp;omega)) fun w5 H17 hS23=> ?_
   simp only[RT]at hS23
   simp(disch:=omega) only[↓RA,RZ,simprocAttr,hn,g8,g10,hS23.ld 3 rfl]
   refine hS23.ai [pv] a4d b6i rfl rfl (by first|(simp[(hxB.step (hS23.kept hBBs1)).1.cells.1];done)|simp[Value.cells,(hxB.step (hS23.kept hBBs1)).1.cells.1]) (by first|(simp[(hxB.step (hS23.kept hBBs1)).1.cells.1];done)|simp[Value.cells,(hxB.step (hS23.kept hBBs1)).1.cells.1]) (by simp[(hxB.step (hS23.kept hBBs1)).1.cells.2.1]) (by decide) (by decide) fun w6 H18 hS24=> ?_
   simp only[RT]at hS24
   simp(disch:=omega) only[↓RA,RZ,simprocAttr,hn]
   refine hS24.al 5 rfl (hS24.rd 11 rfl) a4d (by first|(rw[iI (n:=1) (cel:=Gd.c1) (fun _=>rfl)];simp;omega)|(rw[iI (n:=1) (cel:=Gd.c2) (fun _=>rfl)];simp;omega)) fun w7 H19 hS25=> ?_
   simp only[RT]at hS25
   simp(disch:=omega) only[↓RA,RB,simprocAttr,hn,g7]
   refine hS25.aa 2 rfl [w5] (by rw[(hS25.rd 4 rfl).cells.1]) (by simp[(hS25.rd 4 rfl).cells.2.1]) b7I (by simp) fun H20 hS26=> ?_
   simp only[RT]at hS26
   simp(disch:=omega) only[↓RA,RB,simprocAttr,hn,g8]
   refine hS26.aa 3 rfl [w7] (by rw[(hS26.rd 5 rfl).cells.1]) (by simp[(hS26.rd 5 rfl).cells.2.1]) a0J (by simp) fun H21 hS27=> ?_
   simp only[RT]at hS27
   simp(disch:=omega) only[↓RA,RZ,simprocAttr,g7,g8,hS22.ld 2 rfl,hS14.ld 3 rfl,hS22.ld 3 rfl]
   have hbe:b.toNat=gs.length:=by omega
   have hdS:rY (kZ o rg) (oD (kZ o rg) d) ((i:Int),z)=oD (kZ o rg) d++[([((i:Int),z)],kZ o rg ((i:Int),z))]:=by
    obtain⟨hb4,hb5,hb6⟩:=hb3 (by omega)
    unfold rY
    rw[if_neg hq1,hhd,if_neg (by omega)]
    simp only
    rw[←hhd,hsk b.toNat (by omega) (by omega) (by omega) (fun q h1 h2=>hb6 q h1 (by omega)) (.inl hbe),if_neg (by omega)]
   have hSn:=hS27
   have happ1:gs.flatMap Gd.c1++[w3]=(gs++[(⟨w3,[((i:Int),z)],gv,kZ o rg ((i:Int),z),rest⟩:Gd)]).flatMap Gd.c1:=by rw[dE];rfl
   have happ2:gs.flatMap Gd.c2++[pv]=(gs++[(⟨w3,[((i:Int),z)],gv,kZ o rg ((i:Int),z),rest⟩:Gd)]).flatMap Gd.c2:=by rw[dE,hpv];rfl
   rw[happ1,happ2]at hS27
   have hS28:=hS27.pick (os':=[⟨w3,2,_⟩,⟨ptr A1 0 4,0,_⟩,⟨ptr A2 0 3,0,_⟩,⟨ptr A3 0 1,0,_⟩,⟨ptr A4 0 1,0,_⟩,⟨w5,1,_⟩,⟨w7,1,_⟩,⟨ptr AK 0 4,0,_⟩,⟨ptr AL 0 3,0,_⟩]) [9,0,1,2,3,4,5,6,7] (by decide) rfl
   have hWBs1:=(hYBs1.aI (hBBs1▸hS28)).set (fun h=>h) rg1
   rw[←hreqrg1]at hWBs1
   have hfin:∃(gw pw:Value)(gs:List Gd),gs.map Gd.key=oD (kZ o rg) (d++[((i:Int),z)])∧Lp prog H Lrg1 rg1 (hset H21 Lrg1 (.loop rg1)) (([⟨ptr A1 0 4,0,oC o⟩,⟨ptr A2 0 3,0,rC rg sv⟩,⟨ptr A3 0 1,0,[gw]⟩,⟨ptr A4 0 1,0,[pw]⟩,⟨gw,1,gs.flatMap Gd.c1⟩,⟨pw,1,gs.flatMap Gd.c2⟩,⟨ptr AK 0 4,0,oC o⟩,⟨ptr AL 0 3,0,rC rg sv⟩]++qB gs)++xs):=by
    refine⟨w5,w7,gs++[(⟨w3,[((i:Int),z)],gv,kZ o rg ((i:Int),z),rest⟩:Gd)],by rw[hap,hdS,dO,hgs];rfl,?_⟩
    rw[a1L]
    exact Lp.cM (hreqrg1▸hWBs1)
   rw[←hreqrg1]at hfin
   exact⟨_,(hYBs1.aI (hBBs1▸hS28)).get,rfl,hreqrg1▸hfin⟩
  simp(disch:=omega) only[↓RA,RZ,simprocAttr,hn,g11,c0]
  refine iO (fun g0=> ?_) (fun g0=> ?_)
  rotate_left
  ·exfalso;first|omega|(simp at g0;omega)
  simp(disch:=omega) only[↓RA,RZ,simprocAttr,hn,c0,g0]
  refine Wp.bW kG [0,1,2,3,4,5,6,7,8,9,10] [0,1,2,3,4,5,6,7,8,9,10] ⟨true,[85],[]⟩ [(0,4),(5,0),(5,4)] (by kernel_rfl) (by kernel_rfl) (by kernel_rfl) ?_
  simp(disch:=omega) only[↓RA,RZ,simprocAttr,hn,g7,g9,hS14.ld 2 rfl,hS14.aj 8 rfl]
  refine hS14.ai [I i,I z] tG a1y rfl rfl (by simp[Value.cells]) rfl rfl (by decide) (by decide) fun w8 H22 hS29=> ?_
  simp only[RT]at hS29
  simp(disch:=omega) only[↓RA,RB,simprocAttr,hn]
  refine hS29.ai [w8] b2h c2i rfl rfl (by first|(simp[(hS29.rd 9 rfl).cells.1];done)|simp[Value.cells,(hS29.rd 9 rfl).cells.1]) (by first|(simp[(hS29.rd 9 rfl).cells.1];done)|simp[Value.cells,(hS29.rd 9 rfl).cells.1]) (by simp[(hS29.rd 9 rfl).cells.2.1]) (by decide) (by decide) fun w9 H23 hS30=> ?_
  simp only[RT]at hS30
  simp(disch:=omega) only[↓RA,RZ,simprocAttr,hn]
  refine hS30.al 4 rfl (hS30.rd 10 rfl) b2h (by first|(rw[iI (n:=1) (cel:=Gd.c1) (fun _=>rfl)];simp;omega)|(rw[iI (n:=1) (cel:=Gd.c2) (fun _=>rfl)];simp;omega)) fun w10 H24 hS31=> ?_
  simp only[RT]at hS31
  simp(disch:=omega) only[↓RA,RZ,simprocAttr,hn,g8,g10,hS31.ld 3 rfl]
  refine hS31.ai [pv] a4d b6i rfl rfl (by first|(simp[(hxB.step (hS31.kept hBBs1)).1.cells.1];done)|simp[Value.cells,(hxB.step (hS31.kept hBBs1)).1.cells.1]) (by first|(simp[(hxB.step (hS31.kept hBBs1)).1.cells.1];done)|simp[Value.cells,(hxB.step (hS31.kept hBBs1)).1.cells.1]) (by simp[(hxB.step (hS31.kept hBBs1)).1.cells.2.1]) (by decide) (by decide) fun w11 H25 hS32=> ?_
  simp only[RT]at hS32
  simp(disch:=omega) only[↓RA,RZ,simprocAttr,hn]
  refine hS32.al 5 rfl (hS32.rd 11 rfl) a4d (by first|(rw[iI (n:=1) (cel:=Gd.c1) (fun _=>rfl)];simp;omega)|(rw[iI (n:=1) (cel:=Gd.c2) (fun _=>rfl)];simp;omega)) fun w12 H26 hS33=> ?_
  simp only[RT]at hS33
  simp(disch:=omega) only[↓RA,RB,simprocAttr,hn,g7]
  refine hS33.aa 2 rfl [w10] (by rw[(hS33.rd 4 rfl).cells.1]) (by simp[(hS33.rd 4 rfl).cells.2.1]) b7I (by simp) fun H27 hS34=> ?_
  simp only[RT]at hS34
  simp(disch:=omega) only[↓RA,RB,simprocAttr,hn,g8]
  refine hS34.aa 3 rfl [w12] (by rw[(hS34.rd 5 rfl).cells.1]) (by simp[(hS34.rd 5 rfl).cells.2.1]) a0J (by simp) fun H28 hS35=> ?_
  simp only[RT]at hS35
  simp(disch:=omega) only[↓RA,RZ,simprocAttr,g7,g8,hS30.ld 2 rfl,hS14.ld 3 rfl,hS30.ld 3 rfl]
  have hdS:rY (kZ o rg) (oD (kZ o rg) d) ((i:Int),z)=oD (kZ o rg) d++[([((i:Int),z)],kZ o rg ((i:Int),z))]:=by
   unfold rY
   rw[if_neg hq1,hhd,if_pos (by omega)]
  have hSn:=hS35
  have happ1:gs.flatMap Gd.c1++[w8]=(gs++[(⟨w8,[((i:Int),z)],gv,kZ o rg ((i:Int),z),rest⟩:Gd)]).flatMap Gd.c1:=by rw[dE];rfl
  have happ2:gs.flatMap Gd.c2++[pv]=(gs++[(⟨w8,[((i:Int),z)],gv,kZ o rg ((i:Int),z),rest⟩:Gd)]).flatMap Gd.c2:=by rw[dE,hpv];rfl
  rw[happ1,happ2]at hS35
  have hS36:=hS35.pick (os':=[⟨w8,2,_⟩,⟨ptr A1 0 4,0,_⟩,⟨ptr A2 0 3,0,_⟩,⟨ptr A3 0 1,0,_⟩,⟨ptr A4 0 1,0,_⟩,⟨w10,1,_⟩,⟨w12,1,_⟩,⟨ptr AK 0 4,0,_⟩,⟨ptr AL 0 3,0,_⟩]) [9,0,1,2,3,4,5,6,7] (by decide) rfl
  have hWBs1:=(hYBs1.aI (hBBs1▸hS36)).set (fun h=>h) rg1
  rw[←hreqrg1]at hWBs1
  have hfin:∃(gw pw:Value)(gs:List Gd),gs.map Gd.key=oD (kZ o rg) (d++[((i:Int),z)])∧Lp prog H Lrg1 rg1 (hset H28 Lrg1 (.loop rg1)) (([⟨ptr A1 0 4,0,oC o⟩,⟨ptr A2 0 3,0,rC rg sv⟩,⟨ptr A3 0 1,0,[gw]⟩,⟨ptr A4 0 1,0,[pw]⟩,⟨gw,1,gs.flatMap Gd.c1⟩,⟨pw,1,gs.flatMap Gd.c2⟩,⟨ptr AK 0 4,0,oC o⟩,⟨ptr AL 0 3,0,rC rg sv⟩]++qB gs)++xs):=by
   refine⟨w10,w12,gs++[(⟨w8,[((i:Int),z)],gv,kZ o rg ((i:Int),z),rest⟩:Gd)],by rw[hap,hdS,dO,hgs];rfl,?_⟩
   rw[a1L]
   exact Lp.cM (hreqrg1▸hWBs1)
  rw[←hreqrg1]at hfin
  exact⟨_,(hYBs1.aI (hBBs1▸hS36)).get,rfl,hreqrg1▸hfin⟩
 rintro _ H21⟨gw,pw,gs,hgs,hLp2⟩
 rw[dm]at hLp2
 have hdk:=(b0B (kZ o rg) (iM o)).1
 rw[←hgs,dB]at hdk
 have hkl:=qP hf
 refine⟨_,hLp2.get,(by rw[hstrg1];exact fun h=>by cases h),fun _=> ?_,fun c hc=>by rw[hpdrg1]at hc;cases hc⟩
 have hAAf1:=(hLp2.set (fun h=>h) {rg1 with state:=.exhausted}).st
 have hKAf1:∀B,B≠Lrg1→iR (hset H21 Lrg1 (.loop {rg1 with state:=.exhausted})) B=iR H21 B:=fun B h=>iP _ (eG h)
 generalize hset H21 Lrg1 (.loop {rg1 with state:=.exhausted})=HAf1 at hAAf1 hKAf1 ⊢
 have hA9:=hAAf1
 have hF9:=hA9.sub (fM _ _)
 obtain⟨X,hBX,hS37⟩:=hF9.aw (os:=[⟨ptr A1 0 4,0,_⟩,⟨ptr A2 0 3,0,_⟩,⟨ptr A3 0 1,0,_⟩,⟨ptr A4 0 1,0,_⟩,⟨gw,1,_⟩,⟨pw,1,_⟩,⟨ptr AK 0 4,0,_⟩,⟨ptr AL 0 3,0,_⟩])
 simp(disch:=omega) only[↓RA,RZ,simprocAttr,hnrg1,g7rg1,hS37.ld 2 rfl]
 have hgX:∀g∈gs,Slx 2 jT HAf1 (nb [gw]) g.w g.l:=fun g hg=>by
  have h:=(hA9.bH (rX hg).1).step (hS37.kept hBX)
  exact⟨h.1,fun b hb v hv=>h.2 b hb v (by rw[dC.1 hv];simp)⟩
 have hM1:=hS37.pick (os':=[⟨gw,1,_⟩]) [4] (by decide) rfl
 have hR1:=hS37.pick (os':=[⟨gw,1,_⟩,⟨ptr A1 0 4,0,_⟩,⟨ptr A2 0 3,0,_⟩,⟨ptr A3 0 1,0,_⟩,⟨ptr A4 0 1,0,_⟩,⟨pw,1,_⟩,⟨ptr AK 0 4,0,_⟩,⟨ptr AL 0 3,0,_⟩]) [4,0,1,2,3,5,6,7] (by decide) rfl
 refine iK (c4C hM1.aH (by omega) 64 [] (fun g=>decide (g.l.length<2)) (fun g hg=>(hgX g hg).1.cells) (fun g hg{H1}{os}hS'=>b8Q g (((hgX g hg).step (hS'.kept rfl)).1))) ?_
 rintro r H29⟨rest9,hb9,hr9,hT5⟩
 have hS38:=hR1.frame hT5
 simp only[RT]at hS38
 have hrR:RdAt H29 r 1 ((gs.filter fun g=> !decide (g.l.length<2)).flatMap Gd.c1):=hr9 _ (hS38.rd 0 rfl)
 have hrc:=hrR.cells
 have hnt:=(⟨hrR,fun _=>rfl,by decide⟩:Sl 1 Gd.c1 H29 r (gs.filter fun g=> !decide (g.l.length<2))).bA
 simp(disch:=omega) only[↓RA,RZ,simprocAttr,hnrg1,c4h,hnt]
 have hFr:=hA9.frame (hBX▸hS38)
 refine⟨r,gs.filter fun g=> !decide (g.l.length<2),by rw[h0],?_,⟨⟨hrR,fun _=>rfl,by decide⟩,fun b hb=> ?_⟩,fun g hg=> ?_,hFr.forget⟩
 ·rw[←hgs,List.map_map,List.filter_map]
  rfl
 ·rcases hFr.new _ (fQ _ (dY ..)) b (hb9 b hb)with h|h
  ·exact h
  ·exact h.elim
 ·have hg:=(ee.1 hg).1
  have hown:OwnAt prog H29 g.row:=hFr.own _ (ef _ (rX hg).1)
  refine⟨⟨hown.rd (show(2:Nat)≠0 by decide),jG,by decide⟩,fun b hb=> ?_⟩
  rcases hFr.new g.row (ef _ (rX hg).1) b hb with h|h
  ·exact h
  ·exact h.elim
end Go.Ds
namespace Go.Ds
open Go.Proofs
set_option maxRecDepth 10000
theorem b8l(x:Nt)(z:Int):unF x (jO [z])=oU x z:=by
 unfold unF jO oU
 rw[eA,List.foldl_nil]
 split<;>simp
theorem b4r{α:Type}[Inhabited α](l:List α)(i j:Nat)(x:α)(hi:i<l.length):iD (l.set i x) j=if i=j then x else iD l j:=by
 unfold iD
 rw[dh,dh,gD,if_pos hi]
 split
 ·rfl
 ·rfl
theorem a7Q(o:Org)(rg:Reg):∀(d:List Ct)(acc:List Nt)(i:Nat),(∀c∈d,∃(j:Nat)(z:Int),c=((j:Int),z)∧j<acc.length)→
 iD (d.foldl (wM o rg) acc) i=((d.filter fun c=>decide (c.1=(i:Int))&&decide ((kZ o rg c).length=0)).map (·.2)).foldl oU (iD acc i)
 | [],_,_,_=>rfl
 | c::d,acc,i,h=>by
   obtain⟨j,z,rfl,hj⟩:=h c (dY ..)
   have hl:(wM o rg acc ((j:Int),z)).length=acc.length:=by
    unfold wM
    split
    ·rw[fF]
    ·rfl
   rw[eA,a7Q o rg d _ i (fun c hc=>by rw[hl];exact h c (eC _ hc))]
   have e:iD (wM o rg acc ((j:Int),z)) i=if(j=i∧(kZ o rg ((j:Int),z)).length=0)then oU (iD acc i) z else iD acc i:=by
    unfold wM
    by_cases h1:(kZ o rg ((j:Int),z)).length=0
    ·rw[if_pos h1,show((j:Int),z).1.toNat=j from rfl,b4r _ _ _ _ hj,b8l]
     by_cases h2:j=i
     ·rw[if_pos h2,if_pos ⟨h2,h1⟩,h2]
     ·rw[if_neg h2,if_neg fun h=>h2 h.1]
    ·rw[if_neg h1,if_neg fun h=>h1 h.2]
   rw[e]
   by_cases h1:j=i∧(kZ o rg ((j:Int),z)).length=0
   ·rw[if_pos h1,List.filter_cons_of_pos (by rw[decide_eq_true h1.2,fg,decide_eq_true_eq];show(j:Int)=i;rw[h1.1]),dU,eA]
   ·rw[if_neg h1,List.filter_cons_of_neg (by
     simp only[de,decide_eq_true_eq]
     intro h
     exact h1 ⟨by omega,h.2⟩)]
theorem qM{o:Org}{i:Nat}{c:Ct}(h:c∈nK o i):c.1=(i:Int):=by
 unfold nK at h
 obtain⟨k,_,rfl⟩:=dD.1 h
 rfl
theorem a7b(o:Org)(p:Ct→Bool)(i:Nat):∀m,((List.range m).flatMap (nK o)).filter (fun c=>decide (c.1=(i:Int))&&p c)=if i<m then(nK o i).filter p else[]
 | 0=>by simp
 | m+1=>by
   rw[eu,dE,dZ,a7b o p i m,dM,fy,dm]
   by_cases h:i=m
   ·subst h
    rw[if_neg (by omega),if_pos (by omega),fp]
    refine List.filter_congr fun c hc=> ?_
    rw[qM hc]
    simp
   ·have e:(nK o m).filter (fun c=>decide (c.1=(i:Int))&&p c)=[]:=by
     rw[fU]
     intro c hc
     rw[qM hc]
     simp only[de,decide_eq_true_eq]
     intro hh
     exact h (by omega)
    rw[e,dm]
    by_cases hm:i<m
    ·rw[if_pos hm,if_pos (by omega)]
    ·rw[if_neg hm,if_neg (by omega)]
def b6N(o:Org)(rg:Reg)(i:Nat):List Int:=((nK o i).filter fun c=>decide ((kZ o rg c).length=0)).map (·.2)
theorem b4X{o:Org}{c:Ct}(h:c∈iM o):∃(j:Nat)(z:Int),c=((j:Int),z)∧j<o.dvs.length:=by
 unfold iM at h
 obtain⟨j,hj,hc⟩:=eD.1 h
 refine⟨j,c.2,?_,dz.1 hj⟩
 rw[←qM hc]
theorem a7X(o:Org)(rg:Reg){i:Nat}(hi:i<o.dvs.length):iD (lM o rg (iM o)) i=jO (b6N o rg i):=by
 unfold lM
 rw[a7Q o rg _ _ i (fun c hc=>by rw[eN];exact b4X hc)]
 unfold iM
 rw[a7b o (fun c=>decide ((kZ o rg c).length=0)) i,if_pos hi]
 have e:iD (List.replicate o.dvs.length ((0,0):Nt)) i=(0,0):=by
  rw[jP _ i (by simpa using hi),List.getElem_replicate]
 rw[e]
 rfl
theorem a7V(o:Org)(rg:Reg)(d:List Ct):(lM o rg d).length=o.dvs.length:=by
 unfold lM
 rw[a4z,eN]
theorem b6H(o:Org):(iM o).Pairwise ltP:=a1O (fun i=>by
 unfold nK
 rw[List.pairwise_map]
 exact(List.pairwise_lt_range).imp fun h=>.inr ⟨rfl,by simpa using h⟩) (fun i c hc=>qM hc) _
section
variable (f:Ct→List Ct) (K:List Ct)
abbrev mE(j i:Nat):Prop:=(iD K j).1=(iD K i).1∧f (iD K j)=f (iD K i)
def nR(i:Nat):Bool:=decide (0<(f (iD K i)).length)&&(List.range i).all fun j=> !decide (mE f K j i)
def rP(n i:Nat):List Ct:=((List.range n).filter fun j=>decide (mE f K j i)).map (iD K)
def mK(n:Nat):List Nat:=(List.range n).filter (nR f K)
def nH(n:Nat):List Grp:=(mK f K n).map fun i=>(rP f K n i,f (iD K i))
variable {f K}
theorem nI{i:Nat}:nR f K i=true↔0<(f (iD K i)).length∧∀j,j<i→¬mE f K j i:=by
 unfold nR
 rw[de,decide_eq_true_iff,dx]
 refine and_congr_right fun _=>⟨fun h j hj=>by have:=h j (dz.2 hj);rwa [dK,decide_eq_false_iff_not]at this,fun h j hj=>by rw[dK,decide_eq_false_iff_not];exact h j (dz.1 hj)⟩
theorem qJ(n i:Nat):rP f K (n+1) i=rP f K n i++(if mE f K n i then[iD K n]else[]):=by
 unfold rP
 rw[eu,dZ,dO]
 congr 1
 by_cases h:mE f K n i
 ·rw[if_pos h];simp only[fV,decide_eq_true h,if_true,ga,dU,fq]
 ·rw[if_neg h];simp only[fV,decide_eq_false h,ga,fq,dR,if_false]
theorem a4j(n:Nat):mK f K (n+1)=mK f K n++(if nR f K n then[n]else[]):=by
 unfold mK
 rw[eu,dZ]
 congr 1
 by_cases h:nR f K n=true
 ·rw[if_pos h];simp[h]
 ·rw[if_neg h];simp[h]
theorem a5O:∀{n i:Nat},nR f K i=true→i<n→∃r,rP f K n i=iD K i::r
 | 0,i,_,h=>absurd h (dJ _)
 | n+1,i,hr,h=>by
   rw[qJ]
   by_cases hn:i<n
   ·obtain⟨r,e⟩:=a5O hr hn
    rw[e]
    exact⟨_,rfl⟩
   ·have e:i=n:=by omega
    subst e
    have e0:rP f K i i=[]:=by
     unfold rP
     have:((List.range i).filter fun j=>decide (mE f K j i))=[]:=fU.2 fun j hj=>by
      simpa using(nI.1 hr).2 j (dz.1 hj)
     rw[this];rfl
    rw[e0,if_pos ⟨rfl,rfl⟩]
    exact⟨[],rfl⟩
theorem b5r:∀(n:Nat),∀j,j≤n→0<(f (iD K j)).length→∃i,i≤j∧nR f K i=true∧mE f K i j
 | 0,j,hj,h=>⟨j,dj _,nI.2 ⟨h,fun q hq=>by omega⟩,rfl,rfl⟩
 | n+1,j,hj,h=>by
   by_cases hr:nR f K j=true
   ·exact⟨j,dj _,hr,rfl,rfl⟩
   ·have hex:∃q,q<j∧mE f K q j:=gO fun hno=>hr (nI.2 ⟨h,fun q hq hs=>hno ⟨q,hq,hs⟩⟩)
    obtain⟨q,hq,h1,h2⟩:=hex
    obtain⟨i,hi,hir,h3,h4⟩:=b5r n q (by omega) (by rw[h2];exact h)
    exact⟨i,by omega,hir,h3.trans h1,h4.trans h2⟩
theorem a2w{i j:Nat}(hi:nR f K i=true)(hj:nR f K j=true)(h:mE f K i j):i=j:=by
 rcases ic i j with h1|h1|h1
 ·exact absurd h ((nI.1 hj).2 i h1)
 ·exact h1
 ·exact absurd ⟨h.1.symm,h.2.symm⟩ ((nI.1 hi).2 j h1)
theorem yG{n i:Nat}:i∈mK f K n↔i<n∧nR f K i=true:=by
 unfold mK
 rw[ee,dz]
theorem b0k(n:Nat):(mK f K n).Pairwise (·<·):=List.Pairwise.filter _ List.pairwise_lt_range
theorem b5N(n:Nat):(nH f K n).length=(mK f K n).length:=dB _
theorem yS{n t:Nat}(ht:t<(mK f K n).length):iD (nH f K n) t=(rP f K n (iD (mK f K n) t),f (iD K (iD (mK f K n) t))):=pK (fun i=>(rP f K n i,f (iD K i))) ht
theorem b7V(hK:K.Pairwise ltP){n:Nat}(hn:n<K.length):rY f (nH f K n) (iD K n)=nH f K (n+1):=by
 have hmono:∀i j,i<j→j<K.length→(iD K i).1≤(iD K j).1:=fun i j h1 h2=>by
  have:=b7n hK (i:=i) (j:=j) h1 h2
  unfold ltP at this
  omega
 have hrep:∀t,t<(mK f K n).length→iD (mK f K n) t<n∧nR f K (iD (mK f K n) t)=true:=fun t ht=>yG.1 (iG ht)
 have hkeep:(∀i,i∈mK f K n→¬mE f K n i)→(mK f K n).map (fun i=>(rP f K (n+1) i,f (iD K i)))=nH f K n:=fun h=>by
  unfold nH
  refine gR fun i hi=> ?_
  rw[qJ,if_neg (h i hi),dm]
 have hnew:nR f K n=true→nH f K (n+1)=nH f K n++[([iD K n],f (iD K n))]:=fun h=>by
  have hno:∀i,i∈mK f K n→¬mE f K n i:=fun i hi hs=>by
   obtain⟨h1,h2⟩:=yG.1 hi
   have:=a2w h h2 hs
   omega
  have e0:rP f K n n=[]:=by
   unfold rP
   have:((List.range n).filter fun j=>decide (mE f K j n))=[]:=fU.2 fun j hj=>by
    simpa using(nI.1 h).2 j (dz.1 hj)
   rw[this];rfl
  rw[←hkeep hno]
  show(mK f K (n+1)).map _=_
  rw[a4j,if_pos h,dO,dU,fq,qJ,e0,if_pos ⟨rfl,rfl⟩,fp]
 have hold:nR f K n=false→nH f K (n+1)=(mK f K n).map fun i=>(rP f K (n+1) i,f (iD K i)):=fun h=>by
  show(mK f K (n+1)).map _=_
  rw[a4j,if_neg (by rw[h];simp),dm]
 by_cases h0:(f (iD K n)).length=0
 ·have hr:nR f K n=false:=by
   rw[←ey]
   intro h
   have:=(nI.1 h).1
   omega
  unfold rY
  rw[if_pos h0,hold hr,hkeep]
  intro i hi hs
  have:=(nI.1 (yG.1 hi).2).1
  rw[←hs.2]at this
  omega
 have hhead:∀t,t<(mK f K n).length→(iD (iD (nH f K n) t).1 0).1=(iD K (iD (mK f K n) t)).1:=fun t ht=>by
  obtain⟨h1,h2⟩:=hrep t ht
  rw[yS ht]
  obtain⟨r,e⟩:=a5O (n:=n) h2 h1
  rw[e]
  rfl
 have hpip:∀t,t<(mK f K n).length→(iD (nH f K n) t).2=f (iD K (iD (mK f K n) t)):=fun t ht=>by rw[yS ht]
 have hfirst:nR f K n=false→∃t,t<(mK f K n).length∧mE f K n (iD (mK f K n) t):=fun h=>by
  obtain⟨i,hi,hir,h1,h2⟩:=b5r (f:=f) (K:=K) n n (dj _) (by omega)
  have hin:i<n:=by
   rcases ig i n with h3|h3
   ·exact h3
   ·have e:i=n:=by omega
    rw[e,h]at hir
    cases hir
  obtain⟨t,ht,e⟩:=dT.1 (yG.2 ⟨hin,hir⟩)
  refine⟨t,ht,?_⟩
  rw[jP _ t ht,e]
  exact⟨h1.symm,h2.symm⟩
 have hgl:=b5N (f:=f) (K:=K) n
 unfold rY
 rw[if_neg h0]
 by_cases hneg:uP (nH f K n) (iD K n)<0
 ·rw[if_pos hneg]
  have hr:nR f K n=true:=by
   cases h:nR f K n with
   | true=>rfl
   | false=>
     obtain⟨t,ht,h1,_⟩:=hfirst h
     have:0≤uP (nH f K n) (iD K n):=(vH _ _).2 ⟨t,by omega,by rw[decide_eq_true_iff,hhead t ht,h1]⟩
     omega
  rw[hnew hr]
 rw[if_neg hneg]
 obtain⟨a,ha⟩:∃a:Nat,uP (nH f K n) (iD K n)=(a:Int):=⟨_,(fj (by omega)).symm⟩
 have hal:a<(nH f K n).length:=sW ha
 have hab:(∀j,j<a→decide ((iD (iD (nH f K n) j).1 0).1=(iD K n).1)=false)∧decide ((iD (iD (nH f K n) a).1 0).1=(iD K n).1)=true:=by
  unfold uP lT at ha
  split at ha
  ·rename_i q hq
   have hqa:q=a:=by omega
   subst hqa
   rw[gh]at hq
   exact⟨fun j hj=>by have:=hq.2.2 j hj;simpa using this,hq.1⟩
  ·omega
 have had:(iD K (iD (mK f K n) a)).1=(iD K n).1:=by
  have:=of_decide_eq_true hab.2
  rwa [hhead a (by omega)]at this
 have hdiv:∀t,a≤t→t<(mK f K n).length→(iD K (iD (mK f K n) t)).1=(iD K n).1:=fun t h1 h2=>by
  by_cases e:t=a
  ·rw[e];exact had
  ·have hlt:iD (mK f K n) a<iD (mK f K n) t:=by
    have:=(ec.1 (b0k (f:=f) (K:=K) n)) a t (by omega) h2 (by omega)
    rwa [jP _ a (by omega),jP _ t h2]
   have h3:=(hrep t h2).1
   have h4:=hmono _ _ hlt (by omega)
   have h5:=hmono _ _ h3 hn
   omega
 have hsk:=b0R (fun j=>decide ((iD (nH f K n) j).2=f (iD K n))) ((nH f K n).length-a) a
 have hspec:∀(m a:Nat),(∀q,a≤q→q<vY (fun j=>decide ((iD (nH f K n) j).2=f (iD K n))) m a→¬(iD (nH f K n) q).2=f (iD K n))∧(vY (fun j=>decide ((iD (nH f K n) j).2=f (iD K n))) m a<a+m→(iD (nH f K n) (vY (fun j=>decide ((iD (nH f K n) j).2=f (iD K n))) m a)).2=f (iD K n)):=by
  intro m
  induction m with
  | zero=>intro a;unfold vY;exact⟨fun q h1 h2=>by omega,fun h=>by omega⟩
  | succ m ih=>
    intro a
    unfold vY
    by_cases hp:(iD (nH f K n) a).2=f (iD K n)
    ·rw[if_pos (decide_eq_true hp)]
     exact⟨fun q h1 h2=>by omega,fun _=>hp⟩
    ·rw[if_neg (by simpa using hp)]
     obtain⟨i1,i2⟩:=ih (a+1)
     refine⟨fun q h1 h2=> ?_,fun h=>i2 (by omega)⟩
     by_cases e:q=a
     ·rw[e];exact hp
     ·exact i1 q (by omega) h2
 obtain⟨s1,s2⟩:=hspec ((nH f K n).length-a) a
 simp only[ha,fA]
 generalize vY (fun j=>decide ((iD (nH f K n) j).2=f (iD K n))) ((nH f K n).length-a) a=t at hsk s1 s2 ⊢
 by_cases ht:t<(nH f K n).length
 ·rw[if_pos ht]
  have htr:t<(mK f K n).length:=by omega
  obtain⟨hi1,hi2⟩:=hrep t htr
  have hsame:mE f K n (iD (mK f K n) t):=⟨(hdiv t hsk.1 htr).symm,by rw[←hpip t htr];exact(s2 (by omega)).symm⟩
  have hr:nR f K n=false:=by
   rw[←ey]
   intro h
   have:=a2w h hi2 hsame
   omega
  rw[hold hr]
  refine List.ext_getElem (by rw[fF,dB,hgl]) fun q h1 h2=> ?_
  have hq:q<(mK f K n).length:=by rw[dB]at h2;exact h2
  rw[gM,iB]
  by_cases e:t=q
  ·subst e
   rw[if_pos rfl,yS htr,←jP _ t htr,qJ,if_pos hsame]
  ·rw[if_neg e]
   have hns:¬mE f K n (iD (mK f K n) q):=fun hs=>by
    have:=a2w hi2 (hrep q hq).2 ⟨hsame.1.symm.trans hs.1,hsame.2.symm.trans hs.2⟩
    have hnd:(mK f K n).Pairwise (·<·):=b0k n
    rcases fJ e with h|h
    ·have h3:=(ec.1 hnd) t q htr hq h
     rw[←jP _ t htr,←jP _ q hq,this]at h3
     omega
    ·have h3:=(ec.1 hnd) q t hq htr h
     rw[←jP _ t htr,←jP _ q hq,this]at h3
     omega
   rw[←jP _ q hq,qJ,if_neg hns,dm,←jP (nH f K n) q (by omega),yS hq]
 ·rw[if_neg ht]
  have hr:nR f K n=true:=by
   cases h:nR f K n with
   | true=>rfl
   | false=>
     obtain⟨q,hq,h1,h2⟩:=hfirst h
     have haq:a≤q:=by
      rcases ig q a with h3|h3
      ·have:=of_decide_eq_false (hab.1 q h3)
       rw[hhead q hq]at this
       exact absurd h1.symm this
      ·exact h3
     exact absurd (by rw[hpip q hq];exact h2.symm) (s1 q haq (by omega))
  rw[hnew hr]
theorem a6o(hK:K.Pairwise ltP):∀n,n≤K.length→oD f (K.take n)=nH f K n
 | 0,_=>rfl
 | n+1,h=>by rw[pM K n (by omega),a5W,a6o hK n (by omega),b7V hK (by omega)]
def pV(f:Ct→List Ct)(K:List Ct)(n i:Nat):List Ct:=iD K i::((List.range n).filter fun j=>decide (j≠i∧mE f K j i)).map (iD K)
theorem a3E(n i:Nat):pV f K (n+1) i=pV f K n i++(if n≠i∧mE f K n i then[iD K n]else[]):=by
 unfold pV
 rw[eu,dZ,dO,gn]
 congr 2
 by_cases h:n≠i∧mE f K n i
 ·rw[if_pos h];simp only[fV,decide_eq_true h,if_true,ga,dU,fq]
 ·rw[if_neg h];simp only[fV,decide_eq_false h,ga,fq,dR,if_false]
theorem b0X(n i:Nat):(pV f K n i).length≤n+1:=by
 unfold pV
 rw[eo,dB]
 have:=eh (fun j=>decide (j≠i∧mE f K j i)) (List.range n)
 rw[gE]at this
 omega
theorem yZ{i:Nat}(h:nR f K i=true):∀n,i<n→pV f K n i=rP f K n i
 | 0,hn=>absurd hn (dJ _)
 | n+1,hn=>by
   rw[a3E,qJ]
   by_cases hi:i<n
   ·rw[yZ h n hi]
    congr 1
    by_cases hs:mE f K n i
    ·rw[if_pos hs,if_pos ⟨by omega,hs⟩]
    ·rw[if_neg hs,if_neg fun h=>hs h.2]
   ·have e:i=n:=by omega
    subst e
    have hno:∀j,j<i→¬mE f K j i:=(nI.1 h).2
    have e1:pV f K i i=[iD K i]:=by
     unfold pV
     rw[fU.2 fun j hj=>by simpa using fun _=>hno j (dz.1 hj)]
     rfl
    have e2:rP f K i i=[]:=by
     unfold rP
     rw[fU.2 fun j hj=>by simpa using hno j (dz.1 hj)]
     rfl
    rw[e1,e2,if_neg fun h=>h.1 rfl,if_pos ⟨rfl,rfl⟩,dm,fp]
def a0T(f:Ct→List Ct)(K:List Ct)(m:Nat):List (List Ct):=((List.range m).filter fun i=>nR f K i&&decide (1<(pV f K K.length i).length)).map (pV f K K.length)
theorem b3v(m:Nat):a0T f K (m+1)=a0T f K m++(if nR f K m=true∧1<(pV f K K.length m).length then[pV f K K.length m]else[]):=by
 unfold a0T
 rw[eu,dZ,dO]
 congr 1
 by_cases h:nR f K m=true∧1<(pV f K K.length m).length
 ·rw[if_pos h];simp[h.1,h.2]
 ·rw[if_neg h,List.filter_cons_of_neg (by simpa using h)];rfl
theorem b0O(m:Nat):(a0T f K m).length≤m:=by
 unfold a0T
 rw[dB]
 have:=eh (fun i=>nR f K i&&decide (1<(pV f K K.length i).length)) (List.range m)
 rwa [gE]at this
theorem b5j{m:Nat}:∀l∈a0T f K m,l.length≤K.length+1:=fun l hl=>by
 unfold a0T at hl
 obtain⟨i,_,rfl⟩:=dD.1 hl
 exact b0X _ _
theorem b4G(hK:K.Pairwise ltP):a0T f K K.length=((oD f K).map (·.1)).filter fun l=> !decide (l.length<2):=by
 have h1:=a6o (f:=f) hK K.length (dj _)
 rw[eE]at h1
 rw[h1]
 unfold nH a0T mK
 rw[List.map_map,List.filter_map,←gZ]
 have e1:∀i,i∈(List.range K.length).filter (nR f K)→pV f K K.length i=rP f K K.length i:=fun i hi=>by
  obtain⟨h2,h3⟩:=ee.1 hi
  exact yZ h3 _ (dz.1 h2)
 rw[gZ,gZ]
 have e2:(List.range K.length).filter (fun i=>nR f K i&&decide (1<(pV f K K.length i).length))=(List.range K.length).filter (fun i=>((fun l:List Ct=> !decide (l.length<2))∘(fun g:Grp=>g.1)∘fun i=>(rP f K K.length i,f (iD K i))) i&&nR f K i):=by
  refine List.filter_congr fun i hi=> ?_
  by_cases hr:nR f K i=true
  ·rw[yZ hr _ (dz.1 hi),hr,gy,fg]
   show decide (1<(rP f K K.length i).length)= !decide ((rP f K K.length i).length<2)
   by_cases h:(rP f K K.length i).length<2
   ·rw[decide_eq_true h,decide_eq_false (by omega)];rfl
   ·rw[decide_eq_false h,decide_eq_true (by omega)];rfl
  ·simp[hr]
 rw[e2]
 refine gR fun i hi=> ?_
 obtain⟨h2,h3⟩:=ee.1 hi
 exact yZ (by simpa using(Bool.and_eq_true_iff.1 h3).2) _ (dz.1 h2)
def b3d(f:Ct→List Ct)(K:List Ct)(n i:Nat):Prop:=0<(f (iD K i)).length∧∀q,q<n→mE f K q i→i≤q
theorem a5A{n i:Nat}(h:mE f K n i→i≤n):b3d f K (n+1) i↔b3d f K n i:=by
 refine and_congr_right fun _=>⟨fun h2 q hq=>h2 q (by omega),fun h2 q hq hs=> ?_⟩
 rcases dw.1 hq with e|e
 ·exact h2 q e hs
 ·subst e;exact h hs
theorem b5k{n i:Nat}(hs:mE f K n i)(hne:n≠i):b3d f K (n+1) i↔b3d f K n i∧i<n:=by
 constructor
 ·rintro⟨h1,h2⟩
  have:=h2 n (by omega) hs
  exact⟨⟨h1,fun q hq=>h2 q (by omega)⟩,by omega⟩
 ·rintro⟨⟨h1,h2⟩,h3⟩
  refine⟨h1,fun q hq hs=> ?_⟩
  rcases dw.1 hq with e|e
  ·exact h2 q e hs
  ·omega
theorem b5g{n i:Nat}(h:i<n):b3d f K n i↔nR f K i=true:=by
 rw[nI]
 refine and_congr_right fun _=>⟨fun h2 q hq hs=> ?_,fun h2 q hq hs=> ?_⟩
 ·have:=h2 q (by omega) hs
  omega
 ·rcases ig q i with h3|h3
  ·exact absurd hs (h2 q h3)
  ·exact h3
end
theorem b1W{o:Org}{d:Nat}{z:Int}(h:((d:Int),z)∈iM o):((d:Int),z)∈nK o d:=by
 unfold iM at h
 obtain⟨j,hj,hc⟩:=eD.1 h
 have:(d:Int)=j:=qM hc
 have:d=j:=by omega
 rw[this]at hc ⊢
 exact hc
theorem a1w{o:Org}(hf:o.Fine){rg:Reg}{i:Nat}(hi:i<o.dvs.length):∀z∈b6N o rg i,isN z∧(iD o.dvs i).lo≤z∧z≤(iD o.dvs i).hi:=fun z hz=>by
 unfold b6N at hz
 obtain⟨c,hc,rfl⟩:=dD.1 hz
 have hc:=(ee.1 hc).1
 unfold nK at hc
 obtain⟨k,hk,rfl⟩:=dD.1 hc
 have hk:=dz.1 hk
 have:=hf.keys i hi
 exact⟨⟨by simp only;omega,by simp only;omega⟩,by simp only;omega,by simp only;omega⟩
theorem b6T{o:Org}(hf:o.Fine){rg:Reg}{d:Nat}{z:Int}(hd:d<o.dvs.length)(hz:isN z)(h:((d:Int),z)∈iM o):sF (iD (lM o rg (iM o)) d) z=decide ((kZ o rg ((d:Int),z)).length=0):=by
 rw[a7X o rg hd,a2s (fun n hn=>(a1w hf hd n hn).1) hz]
 refine decide_eq_decide.2 ⟨fun hm=> ?_,fun hl=> ?_⟩
 ·unfold b6N at hm
  obtain⟨c,hc,hcz⟩:=dD.1 hm
  obtain⟨h1,h2⟩:=ee.1 hc
  have e:c=((d:Int),z):=ir (qM h1) hcz
  rw[←e]
  exact of_decide_eq_true h2
 ·unfold b6N
  exact dD.2 ⟨_,ee.2 ⟨b1W h,decide_eq_true hl⟩,rfl⟩
theorem b7r{o:Org}(hf:o.Fine){rg:Reg}{i:Nat}(hi:i<o.dvs.length){z:Int}(hz:isN z)(h:sF (iD (lM o rg (iM o)) i) z=true):(iD o.dvs i).lo≤z∧z≤(iD o.dvs i).hi:=by
 rw[a7X o rg hi,a2s (fun n hn=>(a1w hf hi n hn).1) hz]at h
 exact(a1w hf hi z (of_decide_eq_true h)).2
end Go.Ds
namespace Go.Ds
open Go.Proofs
variable {H:Heap}
set_option maxRecDepth 10000
set_option maxHeartbeats 1000000
end Go.Ds
namespace Go.Ds
open Go.Proofs
variable {H:Heap}
set_option maxRecDepth 10000
theorem Org.cZ{o:Org}(h:organE o=0):o.ranks.length≤60∧∀j,j<o.ranks.length→(iD o.ranks j).wind.length≤128:=by
 unfold organE at h
 split at h
 ·omega
 split at h
 ·omega
 rename_i _ h2
 split at h
 ·rename_i hh;exact absurd h hh
 rename_i h3
 have h3:=dN.1 h3
 refine⟨by omega,fun j hj=> ?_⟩
 have e:=vQ h3 j hj
 unfold nU at e
 split at e
 ·rename_i hh;exact absurd e hh
 rename_i hr
 have hr:=dN.1 hr
 unfold rankE at hr
 split at hr
 ·omega
 split at hr
 ·rename_i hh;exact absurd hr hh
 split at hr
 ·omega
 split at hr
 ·omega
 split at hr
 ·omega
 ·omega
end Go.Ds
namespace Go.Ds
open Go.Proofs
variable {H:Heap}
set_option maxRecDepth 10000
set_option maxHeartbeats 1000000
end Go.Ds
namespace Go.Ds
open Go.Proofs Go.Proofs.Tryz
variable {H:Heap}
set_option maxRecDepth 10000
set_option maxHeartbeats 1000000
theorem b0o(x:Nt)(hx:Nt.Ok x)(z:Int)(hz:isN z):Fn prog 13 [.agg #[.int .u64 x.1,.int .u64 x.2],I z] H fun r H'=>r=.bool (sF x z)∧St prog H H' []:=by
 obtain⟨h0,h1⟩:=hz
 obtain⟨m,rfl⟩:=fS h0
 refine .aD func13 rfl (by kernel_rfl) (m:=28) rfl fun l hn g0 g1=> ?_
 simp(disch:=omega) only[↓RA,RB,simprocAttr,g0]
 refine(sR H).eNew 2 [(.int .u64 x.1),(.int .u64 x.2)] rfl rfl rfl pT fun A1 H1 hS1=> ?_
 simp only[RT]at hS1
 simp(disch:=omega) only[↓RA,RZ,simprocAttr,hn,g1]
 refine iO (fun b1=> ?_) (fun b1=> ?_)
 ·exfalso;first|omega|(simp at b1;omega)
 simp(disch:=omega) only[↓RA,RZ,simprocAttr,hn,g1,b1]
 refine iC (fun b2=> ?_) (fun b2=> ?_)
 ·exfalso;first|omega|(simp at b2;omega)
 simp(disch:=omega) only[↓RA,RZ,simprocAttr,hn,g1,b1,b2]
 refine iC (fun q1=> ?_) (fun q1=> ?_)
 ·have e1:=a2N x.1 m hx.1
  have e2:=a1W (x.1>>>m) (wU m hx.1)
  simp(disch:=omega) only[↓RA,RZ,simprocAttr,hn,g1,hS1.ld 0 rfl,c3m,b1,b2,q1,e1,e2]
  have e3:sF x (m:Int)=decide (((x.1>>>m%2:Nat):Int)=1):=by
   unfold sF
   rw[if_pos q1,fA,tb]
   exact decide_eq_decide.2 (by omega)
  exact⟨by rw[e3],hS1.forget⟩
 have e0:(m:Int)-64=((m-64:Nat):Int):=by omega
 have e1:=a2N x.2 (m-64) hx.2
 have e2:=a1W (x.2>>>(m-64)) (wU (m-64) hx.2)
 have e3:sF x (m:Int)=decide (((x.2>>>(m-64)%2:Nat):Int)=1):=by
  unfold sF
  rw[if_neg q1,e0,fA,tb]
  exact decide_eq_decide.2 (by omega)
 simp(disch:=omega) only[↓RA,RZ,simprocAttr,hn,g1,hS1.ld 0 rfl,c3m,b1,b2,q1,e0,e1,e2]
 exact⟨by rw[e3],hS1.forget⟩
end Go.Ds
namespace Go.Ds
open Go.Proofs
variable {H:Heap}
set_option maxRecDepth 10000
set_option maxHeartbeats 1000000
end Go.Ds
namespace Go.Ds
open Go.Proofs Go.Proofs.Tryz
variable {H:Heap}
set_option maxRecDepth 10000
set_option maxHeartbeats 1000000
theorem a9T(o:Org)(ho:o.In H)(rg:Reg)(sv:Value)(hr:rg.In H sv)(h0:mB o rg=0):
 Fn prog 26 [.agg #[.string o.name,o.rv,o.dv,o.cv],.agg #[sv,.int .u64 rg.cpl,.int .u64 rg.off]] H fun r H'=>∃lv,r=.tuple #[lv,I 0]∧St prog H H' [⟨lv,2,(lM o rg (iM o)).flatMap ntc⟩]:=by
 simpa only[h0,if_true]using a3m o ho rg sv hr
theorem Slx.sub{α:Type}{n:Nat}{cel:α→List Value}{v:Value}{xs:List α}{vs vs':List Value}(h:Slx n cel H (nb vs) v xs)(hs:∀v∈vs',v∈vs):Slx n cel H (nb vs') v xs:=⟨h.1,fun b hb v hv=>h.2 b hb v (hs v hv)⟩
def vX(x:Nt)(n:Nat):List Int:=((List.range n).filter fun(j:Nat)=>sF x (j:Int)).map fun(j:Nat)=>(j:Int)
theorem b2r(x:Nt)(n:Nat):vX x (n+1)=vX x n++(if sF x (n:Int)=true then[(n:Int)]else[]):=by
 unfold vX
 rw[eu,dZ,dO]
 congr 1
 by_cases h:sF x (n:Int)=true
 ·rw[if_pos h];simp[h]
 ·rw[if_neg h];simp[h]
theorem b0E(x:Nt)(n:Nat):(vX x n).length≤n:=by
 unfold vX
 rw[dB]
 have:=eh (fun(j:Nat)=>sF x (j:Int)) (List.range n)
 rwa [gE]at this
theorem b6c{x:Nt}{n:Nat}{z:Int}(h:z∈vX x n)(hn:n≤128):isN z∧sF x z=true:=by
 unfold vX at h
 obtain⟨j,hj,rfl⟩:=dD.1 h
 obtain⟨h1,h2⟩:=ee.1 hj
 have:=dz.1 h1
 exact⟨⟨by omega,by omega⟩,h2⟩
theorem b7s(x:Nt)(hx:Nt.Ok x):Fn prog 28 [.agg #[.int .u64 x.1,.int .u64 x.2]] H fun r H'=>St prog H H' [⟨r,1,(vX x 128).flatMap (one I)⟩]:=by
 refine .aW func28 rfl (by kernel_rfl) (m:=17) rfl fun l hn g0=> ?_
 simp(disch:=omega) only[↓RA,RB,simprocAttr,g0]
 refine(sR H).eNew 2 [(.int .u64 x.1),(.int .u64 x.2)] rfl rfl rfl pT fun A1 H1 hS1=> ?_
 simp only[RT]at hS1
 simp(disch:=omega) only[↓RA,RB,simprocAttr]
 have hS2:=hS1.nil 0
 simp only[RT]at hS2
 refine Wp.aq (fun n l H'=>l.length=17∧get l 1=(ptr A1 0 2)∧get l 2=(.slice none 0 0)∧∃(j:Nat)(ov:Value),(n+j=128)∧get l 4=I j∧get l 3=ov∧St prog H H' [⟨ptr A1 0 2,0,[(.int .u64 x.1),(.int .u64 x.2)]⟩,⟨ov,1,(vX x j).flatMap (one I)⟩]) 128 ?_ ?_
 ·simp(disch:=omega) only[RB,RC,simprocAttr,hn]
  exact⟨0,.slice none 0 0,by omega,rfl,rfl,hS2⟩
 rintro n l H2⟨hn,g1,g2,j,ov,hj,g4,g3,hS3⟩
 have hl:=b0E x j
 have hs:=b2r x j
 simp(disch:=omega) only[↓RA,RB,simprocAttr,hn,g4]
 refine iC (fun q1=> ?_) (fun q1=> ?_)
 ·simp(disch:=omega) only[↓RA,RZ,simprocAttr,hn,g1,g4,hS3.aj 0 rfl,q1]
  refine hS3.cF (b0o x hx j ⟨by omega,by omega⟩) fun H3 hS4=> ?_
  simp(disch:=omega) only[↓RA,RZ,simprocAttr,hn,q1]
  refine jJ (fun q2=> ?_) (fun q2=> ?_)
  ·rw[if_pos q2]at hs
   simp(disch:=omega) only[↓RA,RZ,simprocAttr,hn,g4,g3,q1,q2]
   refine hS4.ai [I j] a2O a6u rfl rfl (by simp[Value.cells]) rfl rfl (by decide) (by decide) fun w1 H4 hS5=> ?_
   simp only[RT]at hS5
   simp(disch:=omega) only[↓RA,RZ,simprocAttr,hn,q1,q2]
   refine hS5.al 1 rfl (hS5.rd 2 rfl) a2O (by rw[iI (n:=1) (cel:=one I) (fun _=>rfl)];simp;omega) fun w2 H5 hS6=> ?_
   simp only[RT]at hS6
   simp(disch:=omega) only[↓RA,RZ,simprocAttr,hn,g1,g2,g4,q1,q2]
   have happ:(vX x j).flatMap (one I)++[I j]=(vX x (j+1)).flatMap (one I):=by rw[hs,dE];rfl
   rw[happ]at hS6
   exact⟨n-1,by omega,j+1,w2,by omega,by simp,rfl,hS6.pick [0,1] (by decide) rfl⟩
  rw[if_neg (by simpa using q2),dm]at hs
  simp(disch:=omega) only[↓RA,RZ,simprocAttr,hn,g1,g2,g4,g3,q1,q2]
  refine⟨n-1,by omega,j+1,ov,by omega,by simp,rfl,?_⟩
  rw[hs]
  exact hS4
 have hje:j=128:=by omega
 rw[hje]at hS3
 simp(disch:=omega) only[↓RA,RZ,simprocAttr,hn,g3,c5C,q1]
 exact hS3.pick [1] (by decide) rfl
theorem b4R(v w:Value)(gs ms:List Gd)(hv:Sl 1 Gd.c1 H v gs)(hw:Sl 1 Gd.c1 H w ms)(hgl:gs.length<1000000)(hg:∀g∈gs,Sl 2 jT H g.w g.l∧g.l.length<1000000)(hm:∀g∈ms,Sl 2 jT H g.w g.l)(he:gs.map (·.l)=ms.map (·.l)):
 Fn prog 29 [v,w] H fun r H'=>r=.bool true∧St prog H H' []:=by
 have hle:gs.length=ms.length:=by
  have:=congrArg List.length he
  rwa [dB,dB]at this
 have hat:∀i,i<gs.length→(iD ms i).l=(iD gs i).l:=fun i hi=>by
  rw[←pK (fun g:Gd=>g.l) (xs:=ms) (by omega),←he,pK (fun g:Gd=>g.l) hi]
 refine .aD func29 rfl (by kernel_rfl) (m:=53) rfl fun l hn g0 g1=> ?_
 simp(disch:=omega) only[↓RA,RZ,simprocAttr,hn,g0,g1,((sR H).sl hv).len,((sR H).sl hw).len]
 refine iC (fun b1=> ?_) (fun b1=> ?_)
 ·exfalso;first|omega|(simp at b1;omega)
 simp(disch:=omega) only[↓RA,RZ,simprocAttr,b1]
 refine Wp.aq (fun n l H'=>l.length=53∧get l 0=v∧get l 1=w∧∃(i:Nat),(n+i=gs.length)∧get l 5=I i∧St prog H H' []) gs.length ?_ ?_
 ·simp(disch:=omega) only[RB,RC,simprocAttr,hn,g0,g1]
  exact⟨0,by omega,rfl,(sR H)⟩
 rintro n l H1⟨hn,g0,g1,i,hi,g5,hS1⟩
 simp(disch:=omega) only[↓RA,RZ,simprocAttr,hn,g0,g5,(hS1.sl hv).len]
 refine iC (fun q1=> ?_) (fun q1=> ?_)
 ·have hil:i<gs.length:=by omega
  have hgi:=hg _ (iG hil)
  have hmi:=hm _ (iG (xs:=ms) (j:=i) (by omega))
  rw[hat i hil]at hmi
  simp(disch:=omega) only[↓RA,RC,simprocAttr,q1]
  refine Wp.drw kG (by kernel_rfl) ?_
  simp(disch:=omega) only[↓RA,RZ,simprocAttr,hn,g0,g5,(hS1.sl hv).idx,(hS1.sl hv).ld,Gd.c1]
  simp(disch:=omega) only[↓RA,RZ,simprocAttr,hn,g1,g5,(hS1.sl hgi.1).len,(hS1.sl hw).idx,(hS1.sl hw).ld,Gd.c1]
  simp(disch:=omega) only[↓RA,RZ,simprocAttr,hn,(hS1.sl hmi).len]
  refine Wp.aq (fun n l H'=>l.length=53∧get l 0=v∧get l 1=w∧get l 5=I i∧∃(j:Nat),(n+j=(iD gs i).l.length)∧get l 6=I j∧St prog H H' []) (iD gs i).l.length ?_ ?_
  ·simp(disch:=omega) only[RB,RC,simprocAttr,hn,g0,g1,g5]
   exact⟨0,by omega,rfl,hS1⟩
  rintro n l H2⟨hn,g0,g1,g5,j,hj,g6,hS2⟩
  simp(disch:=omega) only[↓RA,RZ,simprocAttr,hn,g0,g5,g6,(hS2.sl hv).idx,(hS2.sl hv).ld,Gd.c1]
  simp(disch:=omega) only[↓RA,RB,simprocAttr,hn,(hS2.sl hgi.1).len]
  refine iC (fun q3=> ?_) (fun q3=> ?_)
  ·simp(disch:=omega) only[↓RA,RC,simprocAttr,q3]
   refine Wp.drw kG (by kernel_rfl) ?_
   simp(disch:=omega) only[↓RA,RZ,simprocAttr,hn,g0,g5,g6,(hS2.sl hv).idx,(hS2.sl hv).ld,Gd.c1]
   simp(disch:=omega) only[↓RA,RZ,simprocAttr,hn,g1,g5,g6,(hS2.sl hgi.1).idx,(hS2.sl hgi.1).aj,jT,(hS2.sl hw).idx,(hS2.sl hw).ld,Gd.c1]
   simp(disch:=omega) only[↓RA,RZ,simprocAttr,hn,g0,g1,g5,g6,(hS2.sl hmi).idx,(hS2.sl hmi).aj,jT]
   exact⟨n-1,by omega,j+1,by omega,by simp,hS2⟩
  simp(disch:=omega) only[↓RA,RZ,simprocAttr,hn,g0,g1,g5,q3]
  exact⟨gs.length-(i+1),by omega,i+1,by omega,by simp,hS2⟩
 simp(disch:=omega) only[↓RA,RZ,simprocAttr,hn,c5D,q1]
 exact hS1.forget
theorem a5N(o:Org)(ho:o.In H)(rg:Reg)(sv:Value)(hr:rg.In H sv)(h0:mB o rg=0)(M:List (List Ct))(hM:((oD (kZ o rg) (iM o)).map (·.1)).filter (fun l=> !decide (l.length<2))=M):
 Fn prog 27 [.agg #[.string o.name,o.rv,o.dv,o.cv],.agg #[sv,.int .u64 rg.cpl,.int .u64 rg.off]] H fun r H'=>∃(lv:Value)(gs:List Gd),r=.tuple #[lv,I 0]∧gs.map (·.l)=M∧
  Slx 1 Gd.c1 H' (fun B=>H.length≤B) lv gs∧(∀g∈gs,Slx 2 jT H' (fun B=>H.length≤B) g.w g.l)∧St prog H H' []:=by
 simpa only[h0,if_true,hM]using a9U o ho rg sv hr
theorem a8s(hG:Glob gH H)(hkn:b7f)(p:Pln)(hp:p.In H)(hk:p.Ok)(b:Nat→Nat)(hb:∀i,b i<256):
 Fn prog 5 [.agg #[p.rv,p.dv,p.cv],.agg #[.int .u8 (b 0),.int .u8 (b 1),.int .u8 (b 2),.int .u8 (b 3),.int .u8 (b 4)]] H fun r H'=>r=.bool true∧St prog H H' []:=by
 refine .aD func5 rfl (by kernel_rfl) (m:=197) rfl fun l hn g0 g1=> ?_
 simp(disch:=omega) only[↓RA,RB,simprocAttr,g0]
 refine(sR H).eNew 3 [p.rv,p.dv,p.cv] rfl rfl (by simp[((sR H).sl hp.1).cells.2.1,((sR H).sl hp.2.1).cells.2.1,((sR H).sl hp.2.2.2.1).cells.2.1]) b7e fun A1 H1 hS1=> ?_
 simp only[RT]at hS1
 simp(disch:=omega) only[↓RA,RB,simprocAttr,g1]
 refine hS1.eNew 5 [(.int .u8 (b 0)),(.int .u8 (b 1)),(.int .u8 (b 2)),(.int .u8 (b 3)),(.int .u8 (b 4))] rfl rfl rfl c1y fun A2 H2 hS2=> ?_
 simp only[RT]at hS2
 simp(disch:=omega) only[↓RA,RZ,simprocAttr]
 refine hS2.cF (hkn _) fun H3 hS3=> ?_
 simp(disch:=omega) only[↓RA,RZ,simprocAttr,hn,hS3.aj 0 rfl]
 refine hS3.cF (b6Y p (hp.ae hS3)) fun H4 hS4=> ?_
 simp(disch:=omega) only[↓RA,RZ,simprocAttr,hn]
 refine jJ (fun h1=> ?_) (fun h1=> ?_)
 ·simp(disch:=omega) only[↓RA,RZ,simprocAttr]
  refine hS4.cF (hkn _) fun H5 hS5=> ?_
  simp(disch:=omega) only[↓RA,RZ,simprocAttr,hn,tR5,h1]
  exact hS5.forget
 have hf:wB p=true:=by simpa using h1
 simp(disch:=omega) only[↓RA,RZ,simprocAttr,hn,hS4.aj 0 rfl,h1]
 refine iK (b1A (hS4.gl hG) p (hp.ae hS4) hk hf) ?_
 rintro r H6⟨o,rfl,ho,hm,hT4⟩
 have hS6:=hS4.trans hT4
 simp only[RT]at hS6
 have hS0:=hS6
 have hoe:=hm.ok.organE
 have hrg:=b1N b hoe
 have hf0:=Org.bL hoe
 simp(disch:=omega) only[↓RA,RZ,simprocAttr]
 refine(sR H6).eNew 4 [(.string ⟨#[]⟩),(.slice none 0 0),(.slice none 0 0),(.slice none 0 0)] rfl rfl rfl nJ fun A3 H7 hS7=> ?_
 simp only[RT]at hS7
 simp(disch:=omega) only[↓RA,RB,simprocAttr,hn,h1]
 refine hS7.aa 0 rfl [(.string o.name),o.rv,o.dv,o.cv] rfl (by simp[OC,(hS7.sl ho.1).cells.2.1,(hS7.sl ho.2.2.1).cells.2.1,(hS7.sl ho.2.2.2.2.1).cells.2.1]) nJ (by simp) fun H8 hS8=> ?_
 simp only[RT]at hS8
 simp(disch:=omega) only[↓RA,RZ,simprocAttr,hn,hS8.aj 0 rfl,((hS0.var 1 rfl).ae hS8.ae).aj,h1]
 obtain⟨k1,k2,k3⟩:=hm.small hf
 have hok:=b3a (o:=o) hb k2
 have hD:=a8B o (ho.ae hS8) k1 k2 k3 b hb
 generalize uX o b=rg at hrg hok hD
 refine iK (hD) ?_
 rintro r H9⟨sv,rfl,hT5⟩
 have hS9:=hS8.trans hT5
 simp only[RT]at hS9
 simp(disch:=omega) only[↓RA,RZ,simprocAttr]
 refine hS9.eNew 3 [(.slice none 0 0),(.int .u64 0),(.int .u64 0)] rfl rfl rfl mQ fun A4 H10 hS10=> ?_
 simp only[RT]at hS10
 simp(disch:=omega) only[↓RA,RB,simprocAttr,hn,h1]
 refine hS10.aa 2 rfl [sv,(.int .u64 rg.cpl),(.int .u64 rg.off)] rfl (by simp[OC,(hS10.rd 1 rfl).cells.2.1]) mQ (by simp) fun H11 hS11=> ?_
 simp only[RT]at hS11
 simp(disch:=omega) only[↓RA,RZ,simprocAttr,hn,hS11.aj 0 rfl,hS11.aj 2 rfl,h1]
 have hKs:=b6H o
 have hKl:=qP hf0
 have hsl:=a7V o rg (iM o)
 obtain⟨M,hM⟩:∃M,a0T (kZ o rg) (iM o) (iM o).length=M:=⟨_,rfl⟩
 have hMd:=(b4G (f:=kZ o rg) hKs).symm.trans hM
 refine iK (a9T o (ho.ae hS11) rg sv ⟨hS11.av 1 rfl (fun _=>rfl),hok⟩ hrg) ?_
 rintro r H12⟨lv,rfl,hT6⟩
 have hS12:=hS11.trans hT6
 simp only[RT]at hS12
 simp(disch:=omega) only[↓RA,RZ,simprocAttr,hn,hS12.aj 0 rfl,hS12.aj 2 rfl,h1]
 have hS1:=hS12
 refine iK (a5N o (ho.ae hS12) rg sv ⟨hS12.av 1 rfl (fun _=>rfl),hok⟩ hrg M hMd) ?_
 rintro r H13⟨dv,gs,rfl,hgk,hlx,hgx,hT7⟩
 have hS13:=hS12.trans hT7
 simp only[RT]at hS13
 have hlx2:=hlx.step (hS1.aK (H':=H13))
 have hgx2:=fun g hg=>(hgx g hg).step (hS1.aK (H':=H13))
 obtain⟨X,hBX,hS14⟩:=hS13.aw (os:=[⟨ptr A3 0 4,0,_⟩,⟨sv,1,_⟩,⟨ptr A4 0 3,0,_⟩,⟨lv,2,_⟩])
 simp(disch:=omega) only[↓RA,RZ,simprocAttr,hn,(hS14.av 3 rfl (fun _=>rfl)).len,hS14.ld 0 rfl,((hS13.ab hBX hS14).sl ho.2.2.1).len,h1]
 refine iC (fun c1=> ?_) (fun c1=> ?_)
 ·exfalso;first|omega|(simp at c1;omega)
 simp(disch:=omega) only[↓RA,RZ,simprocAttr,hn,hS14.aj 0 rfl,h1,c1]
 refine iK ((a3i o (ho.ae (hS13.ab hBX hS14)) hf0).tr) ?_
 rintro r H14⟨-,hT8⟩
 have hS15:=hS14.trans hT8
 simp only[RT]at hS15
 obtain⟨cv,rfl⟩:∃w,w=r:=⟨r,rfl⟩
 simp(disch:=omega) only[↓RA,RZ,simprocAttr,hn,h1,c1]
 have hS16:=hS15.nil 0
 simp only[RT]at hS16
 have hL0:=hS16
 refine Wp.aq (fun n l H'=>l.length=197∧get l 5=ptr A3 0 4∧get l 6=ptr A4 0 3∧get l 7=lv∧get l 9=dv∧get l 11=cv∧∃(i:Nat)(ow:Value)(ms:List Gd),(n+i=(iM o).length∧ms.map (·.l)=a0T (kZ o rg) (iM o) i)∧get l 12=ow∧get l 13=I i∧(∀g∈ms,Slx 2 jT H' (nb [ptr A3 0 4,sv,ptr A4 0 3,lv,cv,ow]) g.w g.l)∧
  St prog X H' [⟨ptr A3 0 4,0,oC o⟩,⟨sv,1,rg.stops.flatMap (one u64)⟩,⟨ptr A4 0 3,0,rC rg sv⟩,⟨lv,2,(lM o rg (iM o)).flatMap ntc⟩,⟨cv,2,pr (iM o)⟩,⟨ow,1,ms.flatMap Gd.c1⟩]) (iM o).length ?_ ?_
 ·simp(disch:=omega) only[RB,RC,simprocAttr,hn]
  exact⟨0,.slice none 0 0,[],⟨by omega,rfl⟩,rfl,rfl,fun g hg=>absurd hg eK,hL0⟩
 rintro n l H9⟨hn,g5,g6,g7,g9,g11,i,ow,ms,⟨hi,hms⟩,g12,g13,hmx,hS9⟩
 have hdx:=hlx2.step (hS9.kept hBX)
 have hgx3:=fun g hg=>(hgx2 g hg).step (hS9.kept hBX)
 obtain⟨Y,hBY,hS17⟩:=hS9.aw (os:=[⟨ptr A3 0 4,0,_⟩,⟨sv,1,_⟩,⟨ptr A4 0 3,0,_⟩,⟨lv,2,_⟩,⟨cv,2,_⟩,⟨ow,1,_⟩])
 simp(disch:=omega) only[↓RA,RZ,simprocAttr,hn,g11,g13,(hS17.av 4 rfl jG).len]
 refine iC (fun q1=> ?_) (fun q1=> ?_)
 ·have hil:i<(iM o).length:=by omega
  obtain⟨d,z,hdz,hd,hz⟩:=a5l hf0 (iG hil)
  have hd1:(iD (iM o) i).1=d:=by rw[hdz]
  have hd2:(iD (iM o) i).2=z:=by rw[hdz]
  have hol:=a1o hf0 rg (iD (iM o) i)
  simp(disch:=omega) only[↓RA,RC,simprocAttr,q1]
  refine Wp.drw kG (by kernel_rfl) ?_
  simp(disch:=omega) only[↓RA,RZ,simprocAttr,hn,g5,g6,g11,g13,hS17.aj 0 rfl,hS17.aj 2 rfl,(hS17.av 4 rfl jG).idx,(hS17.av 4 rfl jG).aj,jT]
  have hS3:=hS17
  refine iK (b0M o (ho.ae (hS13.ab hBX (hS9.ab hBY hS17))) rg sv ⟨hS17.av 1 rfl (fun _=>rfl),hok⟩ (iD (iM o) i)) ?_
  rintro r H15⟨hq,hT9⟩
  have hS18:=hS17.trans hT9
  simp only[RT]at hS18
  obtain⟨qv,rfl⟩:∃w,w=r:=⟨r,rfl⟩
  have hq2:=hq.step (hS3.aK (H':=H15))
  have hmx2:=fun g hg=>(hmx g hg).step (hS18.kept hBY)
  obtain⟨Z,hBZ,hS19⟩:=hS18.aw (os:=[⟨ptr A3 0 4,0,_⟩,⟨sv,1,_⟩,⟨ptr A4 0 3,0,_⟩,⟨lv,2,_⟩,⟨cv,2,_⟩,⟨ow,1,_⟩])
  simp(disch:=omega) only[↓RA,RB,simprocAttr,hn]
  refine Wp.aS kG [(15,0)] (by kernel_rfl) (by kernel_rfl) ?_
  simp(disch:=omega) only[↓RA,RZ,simprocAttr,hn,g7,g11,g13,(hS19.av 4 rfl jG).idx,(hS19.av 4 rfl jG).bd]
  simp(disch:=omega) only[↓RA,RZ,simprocAttr,hn,(hS19.av 4 rfl jG).ld,jT,hd1,hd2]
  simp(disch:=omega) only[↓RA,RZ,simprocAttr,hn,g11,g13,(hS19.av 3 rfl (fun _=>rfl)).idx,(hS19.av 3 rfl (fun _=>rfl)).aj,ntc,(hS19.av 4 rfl jG).idx,(hS19.av 4 rfl jG).bd,(hS19.av 4 rfl jG).ld,jT,hd1,hd2]
  have hsok:∀x∈lM o rg (iM o),Nt.Ok x:=a5G o hf0 rg (iM o) _ (fun _ h=>h) (fun x hx=>by rw[gV hx];exact⟨by decide,by decide⟩) (by simp)
  have hhas:=b6T (rg:=rg) hf0 hd hz (by rw[←hdz];exact iG hil)
  rw[←hdz]at hhas
  have hql:=fun(m:Nat)(t:TypeId)=>(hq2.step (hS19.kept hBZ)).1.len (P:=prog) m t
  have hR:=b0o (H:=H15) (iD (lM o rg (iM o)) d) (hsok _ (iG (by omega))) z hz
  rw[hhas]at hR
  refine hS19.cF (hR) fun H16 hS20=> ?_
  have hbe:kR prog .neq 4 4 false false (.bool (decide ((kZ o rg (iD (iM o) i)).length=0))) (.bool (decide (((kZ o rg (iD (iM o) i)).length:Int)=0)))=some (.bool false):=by
   rw[show decide (((kZ o rg (iD (iM o) i)).length:Int)=0)=decide ((kZ o rg (iD (iM o) i)).length=0)from decide_eq_decide.2 (by omega)]
   generalize decide ((kZ o rg (iD (iM o) i)).length=0)=a
   cases a<;>kernel_rfl
  simp(disch:=omega) only[↓RA,RZ,simprocAttr,hn,g11,g13,(hq2.step (hS20.kept hBZ)).1.len,hd1,hd2,hbe,hql]
  simp(disch:=omega) only[↓RA,RZ,simprocAttr,hn,(hS20.av 4 rfl jG).idx,(hS20.av 4 rfl jG).aj,jT]
  refine hS20.ai [I (iD (iM o) i).1,I (iD (iM o) i).2] tG a1y rfl rfl (by simp[Value.cells]) rfl rfl (by decide) (by decide) fun w1 H17 hS21=> ?_
  simp only[RT]at hS21
  simp(disch:=omega) only[↓RA,RZ,simprocAttr,hn,(hq2.step (hS21.kept hBZ)).1.len]
  have hW0:=hS21
  refine Wp.aq (fun n l H'=>l.length=197∧get l 5=(ptr A3 0 4)∧get l 6=(ptr A4 0 3)∧get l 7=lv∧get l 9=dv∧get l 11=cv∧get l 12=ow∧get l 13=I i∧get l 14=qv∧∃(j:Nat)(gw:Value)(bb:Bool),(n+j=(iM o).length∧(bb=true↔b3d (kZ o rg) (iM o) j i))∧get l 17=I j∧get l 16=(.bool bb)∧get l 15=gw∧St prog Z H' [⟨ptr A3 0 4,0,[(.string o.name),o.rv,o.dv,o.cv]⟩,⟨sv,1,rg.stops.flatMap (one u64)⟩,⟨ptr A4 0 3,0,[sv,(.int .u64 rg.cpl),(.int .u64 rg.off)]⟩,⟨lv,2,(lM o rg (iM o)).flatMap ntc⟩,⟨cv,2,pr (iM o)⟩,⟨ow,1,ms.flatMap Gd.c1⟩,⟨gw,2,pr (pV (kZ o rg) (iM o) j i)⟩]) (iM o).length ?_ ?_
  ·simp(disch:=omega) only[RB,RC,simprocAttr,hn,g5,g6,g7,g9,g11,g12,g13]
   refine⟨0,w1,decide (0<((kZ o rg (iD (iM o) i)).length:Int)),⟨by omega,?_⟩,rfl,?_,rfl,hW0⟩
   ·rw[decide_eq_true_iff]
    exact⟨fun h=>⟨by omega,fun q hq=>absurd hq (dJ _)⟩,fun h=>by have:=h.1;omega⟩
   ·simp
  rintro n l H18⟨hn,g5,g6,g7,g9,g11,g12,g13,g14,j,gw,bb,⟨hj,hbb⟩,g17,g16,g15,hS22⟩
  simp(disch:=omega) only[↓RA,RZ,simprocAttr,hn,g11,g17,(hS22.av 4 rfl jG).len]
  refine iC (fun e0=> ?_) (fun e0=> ?_)
  ·have hjl:j<(iM o).length:=by omega
   have hoj:=a1o hf0 rg (iD (iM o) j)
   have hgs:=a3E (f:=kZ o rg) (K:=iM o) j i
   have hgle:=b0X (f:=kZ o rg) (K:=iM o) j i
   simp(disch:=omega) only[↓RA,RC,simprocAttr,e0]
   refine Wp.drw kG (by kernel_rfl) ?_
   simp(disch:=omega) only[↓RA,RZ,simprocAttr,hn,g13,g17]
   refine jU (fun e1=> ?_) (fun e1=> ?_)
   ·have hji:j≠i:=by omega
    simp(disch:=omega) only[↓RA,RZ,simprocAttr,hn,g11,g13,g17,(hS22.av 4 rfl jG).idx,(hS22.av 4 rfl jG).bd,(hS22.av 4 rfl jG).ld,jT,e1]
    refine jU (fun e2=> ?_) (fun e2=> ?_)
    ·simp(disch:=omega) only[↓RA,RZ,simprocAttr,hn,g5,g6,g11,g17,hS22.aj 0 rfl,hS22.aj 2 rfl,(hS22.av 4 rfl jG).idx,(hS22.av 4 rfl jG).aj,jT,e1,e2]
     have h9:=b0M o (ho.ae (hS13.ab hBX (hS9.ab hBY (hS18.ab hBZ hS22)))) rg sv ⟨hS22.av 1 rfl (fun _=>rfl),hok⟩ (iD (iM o) j)
     rw[e2]at h9
     refine iK (h9) ?_
     rintro r H19⟨hr9,hT11⟩
     have hS23:=hS22.trans hT11
     simp only[RT]at hS23
     simp(disch:=omega) only[↓RA,RZ,simprocAttr,hn,g14,e1,e2]
     refine hS23.cF (b2E r qv (kZ o rg (iD (iM o) j)) (kZ o rg (iD (iM o) i)) hr9.1 (hq2.step (hS23.kept hBZ)).1 (by omega) (by omega)) fun H20 hS24=> ?_
     simp(disch:=omega) only[↓RA,RZ,simprocAttr,hn,e1,e2]
     refine iC (fun e3=> ?_) (fun e3=> ?_)
     ·have hsm:mE (kZ o rg) (iM o) j i:=⟨e2,by simpa using e3⟩
      rw[if_pos ⟨hji,hsm⟩]at hgs
      have hmk:=b5k hsm hji
      simp(disch:=omega) only[↓RA,RZ,simprocAttr,hn,g16,e1,e3]
      refine vP (fun e4=> ?_) (fun e4=> ?_)
      ·skip
       simp(disch:=omega) only[↓RA,RZ,simprocAttr,hn,g11,g13,g17,g15,(hS24.av 4 rfl jG).idx,(hS24.av 4 rfl jG).aj,jT,e1,e3,e4]
       refine hS24.ai [I (iD (iM o) j).1,I (iD (iM o) j).2] tG a1y rfl rfl (by simp[Value.cells]) rfl rfl (by decide) (by decide) fun w2 H21 hS25=> ?_
       simp only[RT]at hS25
       simp(disch:=omega) only[↓RA,RZ,simprocAttr,hn,e1,e3,e4]
       refine hS25.al 6 rfl (hS25.rd 7 rfl) tG (by rw[iL];simp;omega) fun w3 H22 hS26=> ?_
       simp only[RT]at hS26
       simp(disch:=omega) only[↓RA,RZ,simprocAttr,hn,g5,g6,g7,g9,g11,g12,g13,g14,g17,e1,e3,e4]
       have happ:pr (pV (kZ o rg) (iM o) j i)++[I (iD (iM o) j).1,I (iD (iM o) j).2]=pr (pV (kZ o rg) (iM o) (j+1) i):=by rw[hgs,kC];rfl
       rw[happ]at hS26
       refine⟨n-1,by omega,j+1,w3,decide ((i:Int)<(j:Int)),⟨by omega,?_⟩,by simp,?_,rfl,hS26.pick [0,1,2,3,4,5,6] (by decide) rfl⟩
       ·rw[hmk,decide_eq_true_iff]
        exact⟨fun h=>⟨hbb.1 e4,by omega⟩,fun h=>by omega⟩
       ·simp
      simp(disch:=omega) only[↓RA,RZ,simprocAttr,hn,g11,g17,g15,(hS24.av 4 rfl jG).idx,(hS24.av 4 rfl jG).aj,jT,e1,e3,e4]
      refine hS24.ai [I (iD (iM o) j).1,I (iD (iM o) j).2] tG a1y rfl rfl (by simp[Value.cells]) rfl rfl (by decide) (by decide) fun w4 H23 hS27=> ?_
      simp only[RT]at hS27
      simp(disch:=omega) only[↓RA,RZ,simprocAttr,hn,e1,e3,e4]
      refine hS27.al 6 rfl (hS27.rd 7 rfl) tG (by rw[iL];simp;omega) fun w5 H24 hS28=> ?_
      simp only[RT]at hS28
      simp(disch:=omega) only[↓RA,RZ,simprocAttr,hn,g5,g6,g7,g9,g11,g12,g13,g14,g17,e1,e3,e4]
      have happ:pr (pV (kZ o rg) (iM o) j i)++[I (iD (iM o) j).1,I (iD (iM o) j).2]=pr (pV (kZ o rg) (iM o) (j+1) i):=by rw[hgs,kC];rfl
      rw[happ]at hS28
      refine⟨n-1,by omega,j+1,w5,false,⟨by omega,?_⟩,by simp,?_,rfl,hS28.pick [0,1,2,3,4,5,6] (by decide) rfl⟩
      ·rw[hmk]
       exact⟨fun h=>Bool.noConfusion h,fun h=>by rw[hbb.2 h.1]at e4;cases e4⟩
      ·simp
     have hsm:¬mE (kZ o rg) (iM o) j i:=fun h=>by simp[h.2]at e3
     rw[if_neg (fun h=>hsm h.2),dm]at hgs
     simp(disch:=omega) only[↓RA,RZ,simprocAttr,hn,g5,g6,g7,g9,g11,g12,g13,g14,g17,g16,g15,e1,e2,e3]
     refine⟨n-1,by omega,j+1,gw,bb,⟨by omega,hbb.trans (a5A (fun h=>absurd h hsm)).symm⟩,by simp,rfl,rfl,?_⟩
     rw[hgs]
     exact hS24.pick [0,1,2,3,4,5,6] (by decide) rfl
    rw[if_neg (fun h=>e2 h.2.1),dm]at hgs
    simp(disch:=omega) only[↓RA,RZ,simprocAttr,hn,g5,g6,g7,g9,g11,g12,g13,g14,g17,g16,g15,e1,e2]
    refine⟨n-1,by omega,j+1,gw,bb,⟨by omega,hbb.trans (a5A (fun h=>absurd h.1 e2)).symm⟩,by simp,rfl,rfl,?_⟩
    rw[hgs]
    exact hS22.pick [0,1,2,3,4,5,6] (by decide) rfl
   have hji:j=i:=by omega
   rw[if_neg (fun h=>h.1 hji),dm]at hgs
   simp(disch:=omega) only[↓RA,RZ,simprocAttr,hn,g5,g6,g7,g9,g11,g12,g13,g14,g17,g16,g15,e1]
   refine⟨n-1,by omega,j+1,gw,bb,⟨by omega,hbb.trans (a5A (fun h=>by omega)).symm⟩,by simp,rfl,rfl,?_⟩
   rw[hgs]
   exact hS22.pick [0,1,2,3,4,5,6] (by decide) rfl
  have hje:j=(iM o).length:=by omega
  rw[hje,b5g hil]at hbb
  rw[hje]at hS22
  have hLM:=b3v (f:=kZ o rg) (K:=iM o) i
  have hml:=b0O (f:=kZ o rg) (K:=iM o) i
  have hmsl:ms.length=(a0T (kZ o rg) (iM o) i).length:=by rw[←hms,dB]
  have hmx3:=fun g hg=>(hmx2 g hg).step (hS22.kept hBZ)
  simp(disch:=omega) only[↓RA,RZ,simprocAttr,hn,g16,e0]
  refine vP (fun f1=> ?_) (fun f1=> ?_)
  ·simp(disch:=omega) only[↓RA,RZ,simprocAttr,hn,g15,(hS22.av 6 rfl jG).len,e0,f1]
   refine iC (fun f2=> ?_) (fun f2=> ?_)
   ·skip
    simp(disch:=omega) only[↓RA,RZ,simprocAttr,hn,g12,g15,e0,f1,f2]
    refine hS22.ai [gw] b2h c2i rfl rfl (by first|(simp[(hS22.rd 6 rfl).cells.1];done)|simp[Value.cells,(hS22.rd 6 rfl).cells.1]) (by first|(simp[(hS22.rd 6 rfl).cells.1];done)|simp[Value.cells,(hS22.rd 6 rfl).cells.1]) (by simp[(hS22.rd 6 rfl).cells.2.1]) (by decide) (by decide) fun w6 H25 hS29=> ?_
    simp only[RT]at hS29
    simp(disch:=omega) only[↓RA,RZ,simprocAttr,hn,e0,f1,f2]
    refine hS29.al 5 rfl (hS29.rd 7 rfl) b2h (by rw[iI (n:=1) (cel:=Gd.c1) (fun _=>rfl)];simp;omega) fun w7 H26 hS30=> ?_
    simp only[RT]at hS30
    simp(disch:=omega) only[↓RA,RZ,simprocAttr,hn,g5,g6,g7,g9,g11,g13,e0,f1,f2]
    rw[if_pos ⟨hbb.1 f1,by omega⟩]at hLM
    have happ:ms.flatMap Gd.c1++[gw]=(ms++[(⟨gw,pV (kZ o rg) (iM o) (iM o).length i,.slice none 0 0,[],[]⟩:Gd)]).flatMap Gd.c1:=by rw[dE];rfl
    rw[happ]at hS30
    have hpk:=hS30.pick (os':=[⟨ptr A3 0 4,0,oC o⟩,⟨sv,1,rg.stops.flatMap (one u64)⟩,⟨ptr A4 0 3,0,rC rg sv⟩,⟨lv,2,(lM o rg (iM o)).flatMap ntc⟩,⟨cv,2,pr (iM o)⟩,⟨w7,1,(ms++[(⟨gw,pV (kZ o rg) (iM o) (iM o).length i,.slice none 0 0,[],[]⟩:Gd)]).flatMap Gd.c1⟩]++[⟨gw,2,pr (pV (kZ o rg) (iM o) (iM o).length i)⟩]) [0,1,2,3,4,5,6] (by decide) rfl
    refine⟨(iM o).length-(i+1),by omega,i+1,w7,ms++[(⟨gw,pV (kZ o rg) (iM o) (iM o).length i,.slice none 0 0,[],[]⟩:Gd)],⟨by omega,by rw[hLM,dO,hms];rfl⟩,rfl,by simp,fun g hg=> ?_,((hS9.ab hBY (hS18.ab hBZ hS30))).pick [0,1,2,3,4,5] (by decide) rfl⟩
    rcases dH.1 hg with hg|hg
    ·exact((hmx2 g hg).step (hS30.kept hBZ)).sub (by simp)
    ·rw[dC.1 hg]
     exact hpk.bH (dC.2 rfl)
   rw[if_neg (fun h=>by omega),dm]at hLM
   simp(disch:=omega) only[↓RA,RZ,simprocAttr,hn,g5,g6,g7,g9,g11,g12,g13,e0,f1,f2]
   refine⟨(iM o).length-(i+1),by omega,i+1,ow,ms,⟨by omega,by rw[hLM];exact hms⟩,rfl,by simp,fun g hg=>((hmx2 g hg).step (hS22.kept hBZ)).sub (by simp),((hS9.ab hBY (hS18.ab hBZ hS22))).pick [0,1,2,3,4,5] (by decide) rfl⟩
  rw[if_neg (fun h=>by rw[hbb.2 h.1]at f1;cases f1),dm]at hLM
  simp(disch:=omega) only[↓RA,RZ,simprocAttr,hn,g5,g6,g7,g9,g11,g12,g13,e0,f1]
  refine⟨(iM o).length-(i+1),by omega,i+1,ow,ms,⟨by omega,by rw[hLM];exact hms⟩,rfl,by simp,fun g hg=>((hmx2 g hg).step (hS22.kept hBZ)).sub (by simp),((hS9.ab hBY (hS18.ab hBZ hS22))).pick [0,1,2,3,4,5] (by decide) rfl⟩
 have hie:i=(iM o).length:=by omega
 rw[hie,hM]at hms
 have hMl:∀l∈M,l.length≤(iM o).length+1:=fun l hl=>b5j l (by rw[hM];exact hl)
 have hMn:M.length≤(iM o).length:=by rw[←hM];exact b0O _
 have hgsl:gs.length=M.length:=by rw[←hgk,dB]
 have hsok:∀x∈lM o rg (iM o),Nt.Ok x:=a5G o hf0 rg (iM o) _ (fun _ h=>h) (fun x hx=>by rw[gV hx];exact⟨by decide,by decide⟩) (by simp)
 simp(disch:=omega) only[↓RA,RZ,simprocAttr,q1]
 refine Wp.aq (fun n l H'=>l.length=197∧get l 5=(ptr A3 0 4)∧get l 7=lv∧get l 9=dv∧get l 12=ow∧∃(k:Nat),(n+k=o.dvs.length)∧get l 18=I k∧St prog Y H' [⟨ptr A3 0 4,0,[(.string o.name),o.rv,o.dv,o.cv]⟩,⟨sv,1,rg.stops.flatMap (one u64)⟩,⟨ptr A4 0 3,0,[sv,(.int .u64 rg.cpl),(.int .u64 rg.off)]⟩,⟨lv,2,(lM o rg (iM o)).flatMap ntc⟩,⟨cv,2,pr (iM o)⟩,⟨ow,1,ms.flatMap Gd.c1⟩]) o.dvs.length ?_ ?_
 ·simp(disch:=omega) only[RB,RC,simprocAttr,hn,g5,g7,g9,g12]
  exact⟨0,by omega,rfl,hS17⟩
 rintro n l H27⟨hn,g5,g7,g9,g12,k,hk9,g18,hS31⟩
 simp(disch:=omega) only[↓RA,RZ,simprocAttr,hn,g7,g18,(hS31.av 3 rfl (fun _=>rfl)).len]
 refine iC (fun k1=> ?_) (fun k1=> ?_)
 ·have hkl:k<o.dvs.length:=by omega
  simp(disch:=omega) only[↓RA,RZ,simprocAttr,hn,g7,g18,(hS31.av 3 rfl (fun _=>rfl)).idx,(hS31.av 3 rfl (fun _=>rfl)).aj,ntc,k1]
  refine iK ((b7s (iD (lM o rg (iM o)) k) (hsok _ (iG (by omega)))).tr) ?_
  rintro r H28⟨-,hT13⟩
  have hS32:=hS31.trans hT13
  simp only[RT]at hS32
  obtain⟨zv,rfl⟩:∃w,w=r:=⟨r,rfl⟩
  have hlll:=b0E (iD (lM o rg (iM o)) k) 128
  simp(disch:=omega) only[↓RA,RZ,simprocAttr,hn,(hS32.av 6 rfl (rJ _)).len,k1]
  refine Wp.aq (fun n l H'=>l.length=197∧get l 5=(ptr A3 0 4)∧get l 7=lv∧get l 9=dv∧get l 12=ow∧get l 18=I k∧get l 167=zv∧get l 168=I (vX (iD (lM o rg (iM o)) k) 128).length∧∃(m:Nat),(n+m=(vX (iD (lM o rg (iM o)) k) 128).length)∧get l 169=I m∧St prog Y H' [⟨ptr A3 0 4,0,[(.string o.name),o.rv,o.dv,o.cv]⟩,⟨sv,1,rg.stops.flatMap (one u64)⟩,⟨ptr A4 0 3,0,[sv,(.int .u64 rg.cpl),(.int .u64 rg.off)]⟩,⟨lv,2,(lM o rg (iM o)).flatMap ntc⟩,⟨cv,2,pr (iM o)⟩,⟨ow,1,ms.flatMap Gd.c1⟩,⟨zv,1,(vX (iD (lM o rg (iM o)) k) 128).flatMap (one I)⟩]) (vX (iD (lM o rg (iM o)) k) 128).length ?_ ?_
  ·simp(disch:=omega) only[RB,RC,simprocAttr,hn,g5,g7,g9,g12,g18]
   exact⟨0,by omega,rfl,hS32⟩
  rintro n l H29⟨hn,g5,g7,g9,g12,g18,g167,g168,m,hm9,g169,hS33⟩
  simp(disch:=omega) only[↓RA,RB,simprocAttr,hn,g168,g169]
  refine iC (fun m1=> ?_) (fun m1=> ?_)
  ·have hml:m<(vX (iD (lM o rg (iM o)) k) 128).length:=by omega
   obtain⟨hmz,hmh⟩:=b6c (iG hml) (dj _)
   have hrng:=b7r hf0 hkl hmz hmh
   simp(disch:=omega) only[↓RA,RZ,simprocAttr,hn,g5,g18,g167,g169,(hS33.av 6 rfl (rJ _)).idx,(hS33.av 6 rfl (rJ _)).ld,one,hS33.ld 0 rfl,((hS13.ab hBX (hS9.ab hBY hS33)).sl ho.2.2.1).idx,((hS13.ab hBX (hS9.ab hBY hS33)).sl ho.2.2.1).bd,((hS13.ab hBX (hS9.ab hBY hS33)).sl ho.2.2.1).ld,Dvn.cells,m1]
   refine iO (fun m2=> ?_) (fun m2=> ?_)
   ·exfalso;first|omega|(simp at m2;omega)
   simp(disch:=omega) only[↓RA,RZ,simprocAttr,hn,g5,g18,hS33.ld 0 rfl,((hS13.ab hBX (hS9.ab hBY hS33)).sl ho.2.2.1).idx,((hS13.ab hBX (hS9.ab hBY hS33)).sl ho.2.2.1).bd,((hS13.ab hBX (hS9.ab hBY hS33)).sl ho.2.2.1).ld,Dvn.cells,m1,m2]
   refine iC (fun m3=> ?_) (fun m3=> ?_)
   ·exfalso;first|omega|(simp at m3;omega)
   simp(disch:=omega) only[↓RA,RZ,simprocAttr,hn,g5,g7,g9,g12,g18,g167,g168,g169,m1,m2,m3]
   exact⟨n-1,by omega,m+1,by omega,by simp,hS33⟩
  simp(disch:=omega) only[↓RA,RZ,simprocAttr,hn,g5,g7,g9,g12,g18,m1]
  exact⟨o.dvs.length-(k+1),by omega,k+1,by omega,by simp,hS33.pick [0,1,2,3,4,5] (by decide) rfl⟩
 simp(disch:=omega) only[↓RA,RZ,simprocAttr,hn,g9,g12,k1]
 refine hS31.cF (b4R dv ow gs ms (hdx.step (hS31.kept hBY)).1 (hS31.av 5 rfl (fun _=>rfl)) (by omega) (fun g hg=>⟨((hgx3 g hg).step (hS31.kept hBY)).1,by have:=hMl g.l (by rw[←hgk];exact eO hg);omega⟩) (fun g hg=>((hmx g hg).step (hS31.kept hBY)).1) (hgk.trans hms.symm)) fun H30 hS34=> ?_
 simp(disch:=omega) only[↓RA,RZ,simprocAttr,hn,tR5,k1]
 exact hS0.forget.trans (hS13.ab hBX (hS9.ab hBY hS34)).forget
end Go.Ds
