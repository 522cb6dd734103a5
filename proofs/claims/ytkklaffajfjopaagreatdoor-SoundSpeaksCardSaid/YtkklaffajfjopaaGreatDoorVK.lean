/-
  A part of the proof of SoundSpeaks.
-/
import Derived.Test.YtkklaffajfjopaaGreatDoorVI
import Derived.Test.YtkklaffajfjopaaGreatDoorVD
import Derived.Test.YtkklaffajfjopaaGreatDoorVB
import Derived.Test.YtkklaffajfjopaaGreatDoorVC
set_option linter.unusedVariables false
set_option linter.unusedSimpArgs false
set_option linter.defProp false
set_option linter.unusedSectionVars false
namespace Go.Proofs.YtkklaffajfjopaaGreatDoor
open Go.ChangeShapes Go.WideShapes Go.ChangeAt Go.RowKit Go.Deep Go.Ds
def a6o:List (String×DataW Unit):=[("math/bits.deBruijn32tab",Rows.laid_math_bits_deBruijn32tab),("math/bits.deBruijn64tab",Rows.laid_math_bits_deBruijn64tab),("internal/strconv.uint64pow10",Rows.laid_internal_strconv_uint64pow10),("strconv.ErrRange",Rows.laid_strconv_ErrRange),("strconv.ErrSyntax",Rows.laid_strconv_ErrSyntax)]
theorem b3S(os:Os)(args:Array Value):laidMetH Tryz.prog a6o ((World.doorLaid Tryz.prog 400 os).forCall (fun _ _=>0) ⟨#[],args,[]⟩).memory:=
 laidMetH_of_parts3 (fuel:=8) (laidMet_of_run' 8 (by kernel_rfl) (by kernel_rfl)) (by kernel_rfl) (by kernel_rfl)
set_option maxRecDepth 100000 in
theorem b6d{W:World}(h:laidMetH Tryz.prog a6o W)(hsh:W.ShapedOpen Tryz.prog):(∃ρ,InW Tryz.prog ρ gH W)∧∃cs t fr,W.heap[0]? =some (.cells cs t fr):=by
 rw[MakeChecks.laidMetH_plain _ _ _ (by kernel_rfl)]at h
 have h32:Lib.TabIs Tryz.prog W "math/bits.deBruijn32tab" .u8 (t32.map Int.ofNat):=Lib.tabIs_of_head (g:=5) g32 (t:=352) (by kernel_rfl) Tryz.underlying352 (e:=5) (n:=32) Tryz.underlying5 (by kernel_rfl) (by kernel_rfl) (rest:=_) h
 have h64:Lib.TabIs Tryz.prog W "math/bits.deBruijn64tab" .u8 (t64.map Int.ofNat):=Lib.tabIs_of_head (g:=0) g64 (t:=297) (by kernel_rfl) Tryz.underlying297 (e:=5) (n:=64) Tryz.underlying5 (by kernel_rfl) (by kernel_rfl) (rest:=_) h.tail
 have h10:Lib.TabIs Tryz.prog W "internal/strconv.uint64pow10" .u64 (p10):=Lib.tabIs_of_head (g:=4) nH (t:=345) (by kernel_rfl) Tryz.underlying345 (e:=39) (n:=20) Tryz.underlying39 (by kernel_rfl) (by kernel_rfl) (rest:=_) h.tail.tail
 obtain⟨cs1,h1001,_⟩:=hsh.1 1 #[.int .i64 0] 3 (by rw[show Tryz.prog.globals.size=6 from by kernel_rfl];decide) (by kernel_rfl)
 obtain⟨cs2,h1002,_⟩:=hsh.1 2 #[.nilIface] 282 (by rw[show Tryz.prog.globals.size=6 from by kernel_rfl];decide) (by kernel_rfl)
 obtain⟨cs3,h1003,_⟩:=hsh.1 3 #[.nilIface] 282 (by rw[show Tryz.prog.globals.size=6 from by kernel_rfl];decide) (by kernel_rfl)
 obtain⟨t,fr,h0⟩:=a4t g64 h64
 exact⟨b8I h64 h10 h32 ⟨_,_,_,h1001⟩ ⟨_,_,_,h1002⟩ ⟨_,_,_,h1003⟩,_,_,_,h0⟩
end Go.Proofs.YtkklaffajfjopaaGreatDoor
namespace Go.Ds
open Go.Proofs Go.Proofs.Tryz Go.ChangeShapes Go.WideShapes Go.RowKit Go.Deep
set_option maxRecDepth 10000
theorem c7z:prog.cellsOf 28=1:=by kernel_rfl
theorem c8g:prog.cellsOf 29=3:=by kernel_rfl
section
variable {H0:Type} {enc:TypeId×Value→H0} {w:World} {base n:Nat} {spare:Nat→Bool} {kZ:Bool} {x:DataW H0×List MemPlace}
theorem a9B{v:Value}(h:DataW.trod enc prog w base spare kZ n 28 [v]=some x):∃m:Nat,v=.int .u16 m∧m<65536:=by
 obtain⟨m,hv,_,hw⟩:=DataW.trod_int underlying28 h
 have hv:v=.int .u16 m:=by simpa using hv
 have hm:0≤m∧m≤65535:=by simpa [Lit.wf,IntKind.min,IntKind.max,IntKind.signed,IntKind.bits]using hw
 exact⟨m.toNat,by rw[hv,fJ hm.1],by omega⟩
theorem c3b{cs:List Value}(h:DataW.trod enc prog w base spare kZ n 29 cs=some x):∃b:Nat→Nat,(∀i,b i<65536)∧cs=[.int .u16 (b 0),.int .u16 (b 1),.int .u16 (b 2)]:=by
 obtain⟨xs,m,_,_,hl,hxl,hf⟩:=DataW.trod_array underlying29 h
 rw[c8g]at hl
 match cs,hl with
 | [c0,c1,c2],_=>
   have hy:∀i,i<3→∃y,DataW.trod enc prog w base spare kZ m 28 ((([c0,c1,c2]:List Value).drop (i*1)).take 1)=some y:=fun i hi=>by
    have:=hf i hi
    rw[c7z]at this
    exact⟨xs[i],by rw[this,dh (by omega)]⟩
   obtain⟨_,h0⟩:=hy 0 (by decide)
   obtain⟨_,h1⟩:=hy 1 (by decide)
   obtain⟨_,h2⟩:=hy 2 (by decide)
   obtain⟨b0,rfl,k0⟩:=a9B h0
   obtain⟨b1,rfl,k1⟩:=a9B h1
   obtain⟨b2,rfl,k2⟩:=a9B h2
   exact⟨fun i=>match i with|0=>b0|1=>b1|_=>b2,fun i=>by
    match i with
    | 0=>exact k0
    | 1=>exact k1
    | _+2=>exact k2,rfl⟩
end
section
variable {H0:Type} {enc:TypeId×Value→H0} {w:World} {base:Nat} {kZ:Bool}
theorem c4h{v0:Value}{d0:DataW H0}{p0:List MemPlace}{c0:Nat}(h0:DataW.Trod enc prog w base (fun _=>true) kZ 29 v0 d0 p0)(hval:Value.okWide prog w .any c0 29 v0):
 ∃b:Nat→Nat,(∀i,b i<65536)∧v0=.agg #[.int .u16 (b 0),.int .u16 (b 1),.int .u16 (b 2)]:=by
 simp only[Value.okWide,underlying29]at hval
 obtain⟨cs,rfl,_,_⟩:=hval
 obtain⟨fuel,hf⟩:=h0
 obtain⟨b,hb,he⟩:=c3b hf
 obtain⟨l⟩:=cs
 have he:l=_:=he
 exact⟨b,hb,by rw[he]⟩
end
end Go.Ds
namespace Go.Ds
open Go.Proofs Go.Proofs.Tryz
variable {H:Heap}
set_option maxRecDepth 10000
set_option maxHeartbeats 1000000
abbrev Nt:=Nat×Nat
def ntc(x:Nt):List Value:=[.int .u64 x.1,.int .u64 x.2]
def Nt.Ok(x:Nt):Prop:=x.1<18446744073709551616∧x.2<18446744073709551616
def tE(x:Nt)(n:Int):Nt:=if n<64 then(x.1|||2^n.toNat,x.2)else(x.1,x.2|||2^(n-64).toNat)
theorem a4Y(i:Nat)(h:i<64):2^i<18446744073709551616:=by
 have:2^i≤2^63:=fi (by decide) (by omega)
 have e:2^63=9223372036854775808:=rfl
 omega
theorem b5I{a b:Nat}(ha:a<18446744073709551616)(hb:b<18446744073709551616):a|||b<18446744073709551616:=Nat.or_lt_two_pow (n:=64) ha hb
theorem orB(a b:Nat)(ha:a<18446744073709551616)(hb:b<18446744073709551616):IntKind.wrap .u64 ((BitVec.ofInt (IntKind.bits .u64) (a:Int)|||BitVec.ofInt (IntKind.bits .u64) (b:Int)).toNat:Int)=((a|||b:Nat):Int):=by
 have e:(BitVec.ofInt (IntKind.bits .u64) (a:Int)|||BitVec.ofInt (IntKind.bits .u64) (b:Int)).toNat=a|||b:=by
  rw[BitVec.toNat_or,vE a ha,vE b hb]
 rw[e]
 have:=b5I ha hb
 exact oD _ (by omega) (by omega)
theorem orN(n i:Nat)(hn:n<18446744073709551616)(hi:i<64):IntKind.wrap .u64 ((BitVec.ofInt (IntKind.bits .u64) (n:Int)|||BitVec.ofInt (IntKind.bits .u64) (IntKind.wrap .u64 (1*2^min i (IntKind.bits .u64)))).toNat:Int)=((n|||2^i:Nat):Int):=by
 rw[c6z i hi]
 exact orB n (2^i) hn (a4Y i hi)
theorem b9D{x:Nt}(hx:Nt.Ok x){z:Int}(h0:0≤z)(h1:z<128):Nt.Ok (tE x z):=by
 unfold tE
 split
 ·exact⟨b5I hx.1 (a4Y _ (by omega)),hx.2⟩
 ·exact⟨hx.1,b5I hx.2 (a4Y _ (by omega))⟩
theorem a7A(x:Nt)(hx:Nt.Ok x)(z:Int)(h0:0≤z)(h1:z<128):Fn prog 72 [.agg #[.int .u64 x.1,.int .u64 x.2],I z] H fun r H'=>r=.agg #[.int .u64 (tE x z).1,.int .u64 (tE x z).2]∧St prog H H' []:=by
 obtain⟨m,rfl⟩:=fI h0
 refine .aF func72 rfl (by kernel_rfl) (m:=21) rfl fun l hn g0 g1=> ?_
 simp(disch:=omega) only[↓RA,RB,simprocAttr,g0]
 refine(sR H).eNew 2 [(.int .u64 x.1),(.int .u64 x.2)] rfl rfl rfl nV fun A1 H1 hS1=> ?_
 simp only[RT]at hS1
 simp(disch:=omega) only[↓RA,RZ,simprocAttr]
 refine hS1.eNew 2 [(.int .u64 0),(.int .u64 0)] rfl rfl rfl nV fun A2 H2 hS2=> ?_
 simp only[RT]at hS2
 simp(disch:=omega) only[↓RA,RB,simprocAttr,hn,g1]
 refine iA (fun q1=> ?_) (fun q1=> ?_)
 ·have e1:=orN x.1 m hx.1 (by omega)
  have e2:tE x (m:Int)=(x.1|||2^m,x.2):=by unfold tE;rw[if_pos q1];rfl
  simp(disch:=omega) only[↓RA,RC,simprocAttr,q1]
  refine Wp.drw jW (by kernel_rfl) ?_
  simp(disch:=omega) only[↓RA,RZ,simprocAttr,hn,g1,hS2.ld 0 rfl,e1]
  refine hS2.aa 0 rfl [(.int .u64 (x.1|||2^m:Nat))] rfl rfl c0l (by simp) fun H3 hS3=> ?_
  simp only[RT]at hS3
  simp(disch:=omega) only[↓RA,RZ,simprocAttr,hn,hS3.ai 0 rfl]
  refine hS3.aa 1 rfl [(.int .u64 (x.1|||2^m:Nat)),(.int .u64 x.2)] rfl rfl nV (by simp) fun H4 hS4=> ?_
  simp only[RT]at hS4
  simp(disch:=omega) only[↓RA,RZ,simprocAttr,hn,c6j,hS4.ai 1 rfl]
  rw[e2]
  exact⟨rfl,hS4.forget⟩
 have e1:=orN x.2 (m-64) hx.2 (by omega)
 have e3:(m:Int)-64=((m-64:Nat):Int):=by omega
 have e2:tE x (m:Int)=(x.1,x.2|||2^(m-64)):=by unfold tE;rw[if_neg q1,e3];rfl
 simp(disch:=omega) only[↓RA,RC,simprocAttr,q1]
 refine Wp.drw jW (by kernel_rfl) ?_
 simp(disch:=omega) only[↓RA,RZ,simprocAttr,hn,g1,hS2.ld 0 rfl,e1,e3]
 refine hS2.aa 0 rfl [(.int .u64 (x.2|||2^(m-64):Nat))] rfl rfl c0l (by simp) fun H5 hS5=> ?_
 simp only[RT]at hS5
 simp(disch:=omega) only[↓RA,RZ,simprocAttr,hn,hS5.ai 0 rfl]
 refine hS5.aa 1 rfl [(.int .u64 x.1),(.int .u64 (x.2|||2^(m-64):Nat))] rfl rfl nV (by simp) fun H6 hS6=> ?_
 simp only[RT]at hS6
 simp(disch:=omega) only[↓RA,RZ,simprocAttr,hn,c6j,hS6.ai 1 rfl]
 rw[e2]
 exact⟨rfl,hS6.forget⟩
def jH(xs:List Int):Nt:=xs.foldl tE (0,0)
def isN(z:Int):Prop:=0≤z∧z<128
theorem vO:∀(xs:List Int)(x:Nt),(∀z∈xs,isN z)→Nt.Ok x→Nt.Ok (xs.foldl tE x)
 | [],_,_,h=>h
 | z::xs,x,hz,h=>by
   rw[eX]
   exact vO xs _ (fun y hy=>hz y (dN _ hy)) (b9D h (hz z (dG ..)).1 (hz z (dG ..)).2)
theorem a6O(xs:List Int){j:Nat}(hj:j<xs.length):jH (xs.take (j+1))=tE (jH (xs.take j)) (iB xs j):=by
 unfold jH
 rw[List.take_add_one,dh hj,Option.toList_some,gu,←kC _ j hj]
 rfl
theorem b3b(z:Int)(h:isN z):Fn prog 71 [I z] H fun r H'=>r=.bool true∧St prog H H' []:=by
 have h0:=h.1
 have h1:=h.2
 refine .aT func71 rfl (by kernel_rfl) (m:=9) rfl fun l hn g0=> ?_
 simp(disch:=omega) only[↓RA,RZ,simprocAttr,hn,g0]
 refine jC (fun q1=> ?_) (fun q1=> ?_)
 rotate_left
 ·exfalso;first|omega|(simp at q1;omega)
 simp(disch:=omega) only[↓RA,RZ,simprocAttr,hn,g0,c8k,q1]
 simpa using⟨(by omega:z≤127),(sR H)⟩
theorem xE(xs:List Int)(hz:∀z∈xs,isN z)(v:Value)(hv:Sl 1 (one I) H v xs)(hl:xs.length<1000000000):
 Fn prog 36 [v] H fun r H'=>r=.tuple #[.agg #[.int .u64 (jH xs).1,.int .u64 (jH xs).2],I 0]∧St prog H H' []:=by
 refine .aT func36 rfl (by kernel_rfl) (m:=22) rfl fun l hn g0=> ?_
 simp(disch:=omega) only[↓RA,RZ,simprocAttr]
 refine(sR H).eNew 2 [(.int .u64 0),(.int .u64 0)] rfl rfl rfl nV fun A1 H1 hS1=> ?_
 simp only[RT]at hS1
 simp(disch:=omega) only[↓RA,RZ,simprocAttr]
 refine hS1.eNew 2 [(.int .u64 0),(.int .u64 0)] rfl rfl rfl nV fun A2 H2 hS2=> ?_
 simp only[RT]at hS2
 simp(disch:=omega) only[↓RA,RZ,simprocAttr,hn,g0,(hS2.sl hv).len]
 refine Wp.aj (fun n l H'=>l.length=22∧get l 2=(ptr A1 0 2)∧get l 4=(ptr A2 0 2)∧get l 7=v∧get l 8=I xs.length∧∃(j:Nat),(n+j=xs.length)∧get l 9=I j∧St prog H H' [⟨ptr A1 0 2,0,[(.int .u64 0),(.int .u64 0)]⟩,⟨ptr A2 0 2,0,[.int .u64 (jH (xs.take j)).1,.int .u64 (jH (xs.take j)).2]⟩]) xs.length ?_ ?_
 ·simp(disch:=omega) only[RB,RC,simprocAttr,hn]
  exact⟨0,by omega,rfl,hS2⟩
 rintro n l H3⟨hn,g2,g4,g7,g8,j,hj,g9,hS3⟩
 simp(disch:=omega) only[↓RA,RB,simprocAttr,hn,g8,g9]
 refine iA (fun q1=> ?_) (fun q1=> ?_)
 ·have hx:=hz _ (iD (xs:=xs) (j:=j) (by omega))
  have hok:Nt.Ok (jH (xs.take j)):=vO _ _ (fun z h=>hz z (fV h)) ⟨by decide,by decide⟩
  simp(disch:=omega) only[↓RA,RZ,simprocAttr,hn,g7,g9,(hS3.sl hv).idx,(hS3.sl hv).ld,one,q1]
  refine hS3.cF (b3b (iB xs j) hx) fun H4 hS4=> ?_
  simp(disch:=omega) only[↓RA,RZ,simprocAttr,hn,g4,hS4.ai 1 rfl,q1]
  refine hS4.cF (a7A (jH (xs.take j)) hok (iB xs j) hx.1 hx.2) fun H5 hS5=> ?_
  simp(disch:=omega) only[↓RA,RZ,simprocAttr,hn,g4,q1]
  refine hS5.aa 1 rfl [(.int .u64 (tE (jH (xs.take j)) (iB xs j)).1),(.int .u64 (tE (jH (xs.take j)) (iB xs j)).2)] rfl rfl nV (by simp) fun H6 hS6=> ?_
  simp only[RT]at hS6
  simp(disch:=omega) only[↓RA,RZ,simprocAttr,hn,g2,g4,g7,g8,g9,q1]
  refine⟨n-1,by omega,j+1,by omega,by simp,?_⟩
  rw[a6O xs (by omega)]
  exact hS6.pick [0,1] (by decide) rfl
 have hjj:j=xs.length:=by omega
 simp(disch:=omega) only[↓RA,RZ,simprocAttr,hn,g2,g4,hS3.ai 1 rfl,q1]
 refine hS3.aa 0 rfl [(.int .u64 (jH (xs.take j)).1),(.int .u64 (jH (xs.take j)).2)] rfl rfl nV (by simp) fun H7 hS7=> ?_
 simp only[RT]at hS7
 simp(disch:=omega) only[↓RA,RZ,simprocAttr,hn,g2,c7l,hS7.ai 0 rfl,q1]
 rw[hjj,dU]
 exact⟨rfl,hS7.forget⟩
end Go.Ds
namespace Go.Ds
open Go.Proofs
variable {H:Heap}
set_option maxRecDepth 10000
set_option maxHeartbeats 1000000
theorem St.perm{P:Program}{H0:Base}{os os':List Ob}(h:St P H0 H os)(hp:os.Perm os'):St P H0 H os' where
 len:=h.len
 old:=h.old
 own o ho:=h.own o (hp.mem_iff.2 ho)
 new o ho:=h.new o (hp.mem_iff.2 ho)
 sep:=(List.Perm.pairwise_iff (fun{_ _}hxy B hB hB2=>hxy B hB2 hB) hp).1 h.sep
theorem Lp.swap{P:Program}{B:Base}{L:Nat}{r:Loop}{xs ys zs:List Ob}(h:Lp P B L r H ((xs++ys)++zs)):Lp P B L r H ((xs++zs)++ys):=by
 have hp:((xs++ys)++zs).Perm ((xs++zs)++ys):=by
  rw[ef,ef]
  exact(List.perm_append_comm).append_left xs
 exact⟨h.st.perm hp,h.get,h.lo,fun o ho=>h.ne o (hp.mem_iff.2 ho)⟩
end Go.Ds
namespace Go.Ds
open Go.Proofs Go.Proofs.Tryz
variable {H:Heap}
set_option maxRecDepth 10000
set_option maxHeartbeats 1000000
def ctz(x:Nat):Nat:=((List.range 64).find? fun i=>x.testBit i).getD 64
theorem a2K{x:Nat}(h0:x≠0)(h1:x<18446744073709551616):ctz x<64∧x.testBit (ctz x)=true∧∀j,j<ctz x→x.testBit j=false:=by
 have hx:∃i,i<64∧x.testBit i=true:=by
  refine fO fun hn=>h0 ?_
  refine fW fun i=> ?_
  rw[gZ]
  by_cases hi:i<64
  ·by_cases hb:x.testBit i=true
   ·exact absurd ⟨i,hi,hb⟩ hn
   ·simpa using hb
  ·exact Nat.testBit_lt_two_pow (dF (show x<2^64 by simpa using h1) (fi (by decide) (by omega)))
 unfold ctz
 cases hf:(List.range 64).find? fun i=>x.testBit i with
 | none=>
   obtain⟨i,hi,hb⟩:=hx
   have:=gj.1 hf i (dq.2 hi)
   exact absurd hb (by simpa using this)
 | some i=>
   obtain⟨hb,ys,bs,he,hn⟩:=List.find?_eq_some_iff_append.1 hf
   have hi:i<64:=dq.1 (he▸(by simp:i∈ys++i::bs))
   refine⟨hi,hb,fun j hj0=> ?_⟩
   have hj:j<i:=hj0
   have hl:ys.length=i:=by
    have h2:(List.range 64)[ys.length]? =some i:=by rw[he];simp
    have h3:ys.length<64:=by
     have:=congrArg List.length he
     simp at this
     omega
    rw[gF h3]at h2
    exact cT h2
   have hm:j∈ys:=by
    have h2:(List.range 64)[j]? =some j:=gF (by omega)
    rw[he,ey (by simpa using(hl▸hj))]at h2
    exact dJ h2
   simpa using hn j hm
theorem a3V{x:Nat}(h0:x≠0)(h1:x<18446744073709551616):∃m,x=2^ctz x*(2*m+1):=by
 obtain⟨c1,c2,c3⟩:=a2K h0 h1
 generalize ctz x=k at c1 c2 c3
 have hd:x%2^k=0:=by
  refine fW fun i=> ?_
  rw[Nat.testBit_mod_two_pow,gZ]
  by_cases hi:i<k
  ·rw[c3 i hi,Bool.and_false]
  ·rw[decide_eq_false hi,ft]
 have h2:x/2^k%2=1:=by
  rw[←eL]
  have:=c2
  rw[tb]at this
  exact of_decide_eq_true this
 refine⟨x/2^k/2,?_⟩
 have h3:=Nat.div_add_mod x (2^k)
 have h4:=Nat.div_add_mod (x/2^k) 2
 rw[hd,gO]at h3
 rw[←h3]
 congr 1
 rw[h3]
 omega
theorem c0f{x:Nat}(h0:x≠0)(h1:x<18446744073709551616):x&&&(18446744073709551616-x)=2^ctz x:=by
 obtain⟨m,hm⟩:=a3V h0 h1
 obtain⟨c1,_,_⟩:=a2K h0 h1
 generalize ctz x=k at hm c1
 have e64:(18446744073709551616:Nat)=2^k*(2*2^(63-k)):=by
  have:2^k*(2*2^(63-k))=2^64:=by rw[←Nat.pow_succ',←Nat.pow_add];congr 1;omega
  rw[this]
 have hml:m<2^(63-k):=by
  rw[e64,hm]at h1
  have:=Nat.lt_of_mul_lt_mul_left h1
  omega
 have e2:18446744073709551616-x=2^k*(2*(2^(63-k)-(m+1))+1):=by
  rw[e64,hm,←Nat.mul_sub]
  congr 1
  omega
 rw[e2,hm]
 refine fW fun i=> ?_
 rw[Nat.testBit_and,ga]
 have hs:∀y:Nat,(2^k*y).testBit i=(decide (k≤i)&&y.testBit (i-k)):=fun y=>by rw[Nat.mul_comm,Nat.testBit_mul_two_pow]
 rw[hs,hs]
 by_cases hi:k≤i
 ·rw[decide_eq_true hi,gJ,gJ]
  by_cases he:i=k
  ·subst he
   rw[Nat.sub_self,Nat.testBit_zero,Nat.testBit_zero]
   simp
  ·obtain⟨j,hj⟩:∃j,i-k=j+1:=⟨i-k-1,by omega⟩
   rw[hj,Nat.testBit_succ,Nat.testBit_succ,show(2*m+1)/2=m by omega,show(2*(2^(63-k)-(m+1))+1)/2=2^(63-k)-(m+1) by omega,Nat.testBit_two_pow_sub_succ hml,decide_eq_false (by omega:¬k=i)]
   cases m.testBit j<;>simp
 ·rw[decide_eq_false hi,ft,decide_eq_false (by omega)]
  rfl
theorem c6Q:((List.range 64).all fun k=>decide (2^k*285870213051353865%18446744073709551616/288230376151711744<64)&&decide (t64.getD (2^k*285870213051353865%18446744073709551616/288230376151711744) 99=k))=true:=by kernel_rfl
theorem b5d{P:Program}{t:TypeId}{n:Nat}{elem:TypeId}{size:Nat}(ha:P.underlying t=some (.array n elem))(hs:iE P elem=some size)(A i:Nat)(k:IntKind)(j:Int)(h0:0≤j)(h1:j<n):
 wW (iT P t) P t (.pointer (some ⟨A,i,none⟩)) (.int k j)=some (.pointer (some ⟨A,i+j.toNat*size,none⟩)):=by
 have hn:iT P t=none:=by simp[iT,iK,ha]
 rw[hn]
 simp only[wW,a2f,ha,hs,cV]
 rw[if_pos (by simp[h0,h1])]
theorem c2X(k:IntKind)(j:Int)(h0:0≤j)(h1:j<64):wW (iT prog 297) prog 297 (.pointer (some ⟨0,0,none⟩)) (.int k j)=some (.pointer (some ⟨0,0+j.toNat*1,none⟩)):=
 b5d (n:=64) (elem:=5) (size:=1) (by kernel_rfl) (by kernel_rfl) 0 0 k j h0 h1
theorem b2K(g:Nat)(l:List Value)(K:Value→Prop):jI (.global g) l K=K (.pointer (some ⟨g,0,none⟩)):=by simp[jI,iP,ev]
theorem gld(hG:Glob gH H)(j:Nat)(hj:j<64)(s:Option Nat):pU (some false) s H (.pointer (some ⟨0,j,none⟩))=some (.int .u8 (t64.getD j 0:Nat)):=by
 have h0:iR H 0=some (.cells (t64.map fun(n:Nat)=>Value.int .u8 (.ofNat n)) 5 false 0 1):=by
  rw[hG.same 0 (by decide)]
  rfl
 simp only[pU,jD,h0]
 have hl:(t64.map fun(n:Nat)=>Value.int .u8 (.ofNat n)).length=64:=by rw[dK];rfl
 rw[if_pos (by rw[hl];simp;omega)]
 simp only[cV]
 rw[dP (by omega),dA,gO,eI,dh (show j<t64.length from hj)]
 rw[dI,cY,dh (show j<t64.length from hj)]
 rfl
theorem b1l(m:Int):IntKind.wrap .u64 m=m%18446744073709551616:=by
 show(if(false&&decide (m%18446744073709551616≥9223372036854775808))=true then m%18446744073709551616-18446744073709551616 else m%18446744073709551616)=_
 simp
theorem c6t(hG:Glob gH H)(x:Nat)(h0:x≠0)(h1:x<18446744073709551616):Fn prog 167 [.int .u64 x] H fun r H'=>r=I (ctz x)∧St prog H H' []:=by
 obtain⟨c1,_,_⟩:=a2K h0 h1
 have hd:=dj.1 c6Q (ctz x) (dq.2 c1)
 rw[cU,decide_eq_true_eq,decide_eq_true_eq]at hd
 have eA:IntKind.wrap .u64 (0-(x:Int))=((18446744073709551616-x:Nat):Int):=by
  rw[b1l]
  omega
 have eB:IntKind.wrap .u64 ((BitVec.ofInt (IntKind.bits .u64) (x:Int)&&&BitVec.ofInt (IntKind.bits .u64) ((18446744073709551616-x:Nat):Int)).toNat:Int)=((2^ctz x:Nat):Int):=by
  rw[gD,vE x h1,vE _ (by omega),c0f h0 h1]
  exact oD _ (by omega) (by have:=a4Y (ctz x) c1;omega)
 have eC:IntKind.wrap .u64 (((2^ctz x:Nat):Int)*285870213051353865)=((2^ctz x*285870213051353865%18446744073709551616:Nat):Int):=by
  rw[b1l]
  rfl
 have eD:((2^ctz x*285870213051353865%18446744073709551616:Nat):Int).fdiv (2^min 58 (IntKind.bits .u64))=((2^ctz x*285870213051353865%18446744073709551616/288230376151711744:Nat):Int):=by
  rw[show(2:Int)^min 58 (IntKind.bits .u64)=((288230376151711744:Nat):Int)from rfl]
  exact gw _ (by omega)
 have hd1:=hd.1
 have hd2:=hd.2
 generalize 2^ctz x*285870213051353865%18446744073709551616/288230376151711744=i at eD hd1 hd2
 refine .aT func167 rfl (by kernel_rfl) (m:=14) rfl fun l hn g0=> ?_
 have iR:=gld hG i hd1 (some 1)
 rw[show t64.getD i 0=ctz x from by rw[←hd2,cY,cY,dh (show i<t64.length from hd1)];rfl]at iR
 have hidx:=c2X .u64 (i:Int) (by omega) (by omega)
 rw[eK,Nat.mul_one,fS]at hidx
 simp(disch:=omega) only[↓RA,RB,simprocAttr,hn,g0]
 refine iA (fun q=> ?_) (fun q=> ?_)
 ·exfalso;omega
 simp(disch:=omega) only[↓RA,RZ,simprocAttr,hn,g0,c6x,eA,eB,eC,eD,b2K,iR,hidx,q]
 first|exact(sR H)|exact⟨rfl,(sR H)⟩
theorem a6a{x:Nat}(h0:x≠0)(h1:x<18446744073709551616)(j:Nat):(x&&&(x-1)).testBit j=(x.testBit j&& !decide (j=ctz x)):=by
 obtain⟨m,hm⟩:=a3V h0 h1
 generalize ctz x=k at hm
 have hp:0<2^k:=Nat.two_pow_pos k
 have e1:x=2^(k+1)*m+2^k:=by rw[hm,Nat.pow_succ,Nat.mul_add,Nat.mul_one,Nat.mul_assoc]
 have e2:x-1=2^(k+1)*m+(2^k-1):=by omega
 have hl:2^k<2^(k+1):=Nat.pow_lt_pow_right (by decide) (by omega)
 rw[Nat.testBit_and,e2]
 rw[e1,Nat.testBit_two_pow_mul_add m hl,Nat.testBit_two_pow_mul_add m (by omega:2^k-1<2^(k+1))]
 by_cases hj:j<k+1
 ·rw[if_pos hj,if_pos hj,ga,Nat.testBit_two_pow_sub_one]
  by_cases he:j=k
  ·simp[he]
  ·simp[show¬k=j by omega]
 ·rw[if_neg hj,if_neg hj,show decide (j=k)=false from decide_eq_false (by omega)]
  simp
theorem b4I{x:Nat}(h0:x≠0)(h1:x<18446744073709551616):oX x=ctz x::oX (x&&&(x-1)):=by
 obtain⟨c1,c2,c3⟩:=a2K h0 h1
 have hb:=a6a h0 h1
 generalize ctz x=k at c1 c2 c3 hb
 obtain⟨t,ht⟩:=a7E c1
 have hnd:(List.range 64).Nodup:=List.nodup_range
 unfold oX
 rw[ht,eN,eN,List.filter_cons_of_pos (by simpa using c2),List.filter_cons_of_neg (by rw[hb];simp)]
 rw[ht]at hnd
 have e1:(List.range k).filter (fun i=>x.testBit i)=[]:=List.filter_eq_nil_iff.2 fun i hi=>by simpa using c3 i (dq.1 hi)
 have e2:(List.range k).filter (fun i=>(x&&&(x-1)).testBit i)=[]:=List.filter_eq_nil_iff.2 fun i hi=>by rw[hb,c3 i (dq.1 hi)];simp
 rw[e1,e2,ff,ff]
 congr 1
 refine List.filter_congr fun i hi=> ?_
 have hne:i≠k:=fun e=>by
  subst e
  exact(List.nodup_cons.1 (List.nodup_append.1 hnd).2.1).1 hi
 rw[hb,decide_eq_false hne]
 simp
theorem b0X:oX 0=[]:=List.filter_eq_nil_iff.2 fun i _=>by simp
def pP(x:Nt):List Int:=(oX x.1).map (fun(i:Nat)=>(i:Int))++(oX x.2).map fun(i:Nat)=>64+(i:Int)
def a7n(x:Nt)(i:Nat):Nat:=if i=0 then x.1 else x.2
def a6d(x:Nt)(i:Nat):List Int:=(oX (a7n x i)).map fun(j:Nat)=>64*(i:Int)+(j:Int)
def a5K(x:Nt)(i:Nat):List Int:=(List.range i).flatMap (a6d x)
theorem a0A(x:Nt)(i:Nat):a5K x (i+1)=a5K x i++a6d x i:=by
 unfold a5K
 rw[dZ,dz,du,ez,di]
theorem a7D(x:Nt):a5K x 2=pP x:=by
 rw[a0A,a0A]
 unfold pP a5K a6d a7n
 simp
theorem b8o{x:Nt}(hx:Nt.Ok x)(i:Nat):a7n x i<18446744073709551616:=by
 unfold a7n
 split
 ·exact hx.1
 ·exact hx.2
theorem c6A(a b:Int):oZ prog 255 (.agg #[.int .u64 a,.int .u64 b]) (I 0)=some (.int .u64 a):=by kernel_rfl
theorem c4c(a b:Int):oZ prog 255 (.agg #[.int .u64 a,.int .u64 b]) (I 1)=some (.int .u64 b):=by kernel_rfl
theorem c7d(x:Nt)(i:Nat)(h:i<2):a2w (oC prog 255) prog 255 (.agg #[.int .u64 x.1,.int .u64 x.2]) (I i)=some (.int .u64 (a7n x i)):=by
 rw[←a8v]
 rcases(by omega:i=0∨i=1)with rfl|rfl
 ·exact c6A _ _
 ·exact c4c _ _
theorem c2a(x:Nt)(hx:Nt.Ok x)(A:Nat)(f:Value)(J:List Int→Heap→Prop)(h0:J [] H)(hg:∀d H1,J d H1→Var H1 A 2 [.int .u64 x.1,.int .u64 x.2]∧Glob gH H1)
 (hst:∀d H1 H2,J d H1→St prog H1 H2 []→J d H2)
 (hf:∀d c e H1,pP x=d++c::e→J d H1→sK prog f [I c] H1 fun v H2=>v=.bool true∧J (d++[c]) H2):
 FnS prog 166 [f,ptr A 0 2] H fun _ H'=>J (pP x) H':=by
 have hV0:=(hg _ _ h0).1
 refine FnS.aV func166 rfl (by kernel_rfl) fun l hl=> ?_
 have hn:l.length=29:=by rw[hl];rfl
 have g0:get l 0=f:=by rw[hl];rfl
 have g1:get l 1=(ptr A 0 2):=by rw[hl];rfl
 clear hl
 simp(disch:=omega) only[↓RA,RZ,simprocAttr,hn,g1,hV0.ld,b3I]
 refine Wp.aj (fun n l H'=>l.length=29∧get l 0=f∧get l 1=ptr A 0 2∧get l 9=.agg #[.int .u64 x.1,.int .u64 x.2]∧∃i:Nat,n+i=2∧get l 10=I i∧J (a5K x i) H') 2 ?_ ?_
 ·simp(disch:=omega) only[RB,RC,simprocAttr,hn,g0,g1]
  exact⟨0,rfl,rfl,h0⟩
 rintro n l H9⟨hn,g0,g1,g9,i,hi,nH,hJ⟩
 simp(disch:=omega) only[↓RA,RB,simprocAttr,hn,nH]
 refine iA (fun q1=> ?_) (fun q1=> ?_)
 ·have hix:=c7d x i (by omega)
  have hwl:=b8o hx i
  simp(disch:=omega) only[↓RA,RZ,simprocAttr,hn,g9,nH,q1,hix]
  refine Wp.aj (fun n2 l H'=>l.length=29∧get l 0=f∧get l 1=ptr A 0 2∧get l 9=.agg #[.int .u64 x.1,.int .u64 x.2]∧get l 10=I i∧get l 3=I i∧∃(y:Nat)(d:List Nat),(n2=(oX y).length∧y<18446744073709551616∧oX (a7n x i)=d++oX y)∧get l 4=.int .u64 y∧J (a5K x i++d.map fun(j:Nat)=>64*(i:Int)+(j:Int)) H') (oX (a7n x i)).length ?_ ?_
  ·simp(disch:=omega) only[RB,RC,simprocAttr,hn,g0,g1,g9,nH]
   exact⟨a7n x i,[],⟨rfl,hwl,rfl⟩,rfl,by rw[gi,di];exact hJ⟩
  rintro n2 l H8⟨hn,g0,g1,g9,nH,g3,y,d,⟨hn2,hy,hbd⟩,g4,hJ2⟩
  simp(disch:=omega) only[↓RA,RB,simprocAttr,hn,g4]
  refine iA (fun q2=> ?_) (fun q2=> ?_)
  ·have hy0:y≠0:=by omega
   have hc:=a2K hy0 hy
   have hlow:=b4I hy0 hy
   have hGl:=(hg _ _ hJ2).2
   have eY1:IntKind.wrap .u64 ((y:Int)-1)=((y-1:Nat):Int):=by
    rw[b1l]
    omega
   have eY2:IntKind.wrap .u64 ((BitVec.ofInt (IntKind.bits .u64) (y:Int)&&&BitVec.ofInt (IntKind.bits .u64) ((y-1:Nat):Int)).toNat:Int)=((y&&&(y-1):Nat):Int):=by
    rw[gD,vE y hy,vE _ (by omega)]
    have:=Nat.and_le_left (n:=y) (m:=y-1)
    exact oD _ (by omega) (by omega)
   have hyl:y&&&(y-1)<18446744073709551616:=Nat.lt_of_le_of_lt Nat.and_le_left hy
   have hmem:pP x=(a5K x i++d.map fun(j:Nat)=>64*(i:Int)+(j:Int))++(64*(i:Int)+(ctz y:Int))::((oX (y&&&(y-1))).map (fun(j:Nat)=>64*(i:Int)+(j:Int))++((List.range 2).drop (i+1)).flatMap (a6d x)):=by
    rw[←a7D]
    unfold a5K
    have e:List.range 2=List.range i++i::(List.range 2).drop (i+1):=by
     rcases(by omega:i=0∨i=1)with rfl|rfl<;>rfl
    rw[congrArg (List.flatMap (a6d x)) e,dz,du]
    rw[show a6d x i=(d++oX y).map (fun(j:Nat)=>64*(i:Int)+(j:Int))from by unfold a6d;rw[hbd]]
    rw[hlow,dM,ek]
    simp only[ef,gX]
   have hc1:=hc.1
   simp(disch:=omega) only[↓RA,RZ,simprocAttr,hn,g0,g3,g4,q2]
   refine(sR H8).cF (c6t ((sR H8).gl hGl) y hy0 hy) fun H1 hS1=> ?_
   simp(disch:=omega) only[↓RA,RZ,simprocAttr,hn,q2]
   refine a8V (hf _ _ _ _ hmem (hst _ _ _ hJ2 hS1)) ?_
   rintro r H10⟨rfl,hJ3⟩
   simp(disch:=omega) only[↓RA,RZ,simprocAttr,hn,g0,g1,g9,nH,g3,g4,q2,eY1,eY2]
   refine⟨(oX (y&&&(y-1))).length,by rw[hn2,hlow];simp,y&&&(y-1),d++[ctz y],⟨rfl,hyl,by rw[hbd,hlow];simp⟩,rfl,?_⟩
   rw[dM,ek,gi,←ef]
   exact hJ3
  simp(disch:=omega) only[↓RA,RZ,simprocAttr,hn,g0,g1,g9,nH,q2]
  have hy0:y=0:=by omega
  subst hy0
  refine⟨n-1,by omega,i+1,by omega,by simp,?_⟩
  rw[a0A]
  have:a6d x i=d.map fun(j:Nat)=>64*(i:Int)+(j:Int):=by
   unfold a6d
   rw[hbd,b0X,di]
  rw[this]
  exact hJ2
 simp(disch:=omega) only[↓RA,RZ,simprocAttr,c4o,q1]
 have e:i=2:=by omega
 subst e
 rw[←a7D]
 exact hJ
theorem a2k(x:Nt):(pP x).length≤128:=by
 unfold pP
 rw[dg,dK,dK]
 have h1:=a7R x.1 64
 have h2:=a7R x.2 64
 unfold b6k at h1 h2
 unfold oX
 omega
theorem b2L(hG:Glob gH H)(x:Nt)(hx:Nt.Ok x)(A:Nat)(hA:Var H A 2 [.int .u64 x.1,.int .u64 x.2]):
 Fn prog 165 [.slice none 0 0,.func (.func 166) #[] #[ptr A 0 2]] H fun r H'=>St prog H H' [⟨r,1,(pP x).flatMap (one I)⟩]:=by
 refine .aF func165 rfl (by kernel_rfl) (m:=13) rfl fun l hn g0 g1=> ?_
 simp(disch:=omega) only[↓RA,RB,simprocAttr,g0]
 refine(sR H).eNew 1 [(.slice none 0 0)] rfl rfl rfl c0K fun A1 H1 hS1=> ?_
 simp only[RT]at hS1
 simp(disch:=omega) only[↓RA,RB,simprocAttr,g1]
 have hS2:=hS1.nil 0
 simp only[RT]at hS2
 refine Wp.cC fun lrg1 hlrg1=> ?_
 have hnrg1:lrg1.length=13:=by rw[hlrg1];simp(disch:=omega) only[RB,simprocAttr,hn]
 have g2rg1:get lrg1 2=(ptr A1 0 1):=by rw[hlrg1];simp(disch:=omega) only[RB,simprocAttr,hn]
 have g4rg1:get lrg1 4=(.slice none 0 0):=by rw[hlrg1];simp(disch:=omega) only[RB,simprocAttr,hn]
 have gfrg1:get lrg1 6=.func (.func 166) #[] [(ptr A 0 2)].toArray:=by rw[hlrg1];simp(disch:=omega) only[RB,simprocAttr,hn]
 clear hlrg1
 refine Wp.cd gfrg1 fun rg1 hstrg1 hpdrg1 htmrg1 hpsrg1 hasrg1 hbdrg1=> ?_
 have hreqrg1:({rg1 with state:=.ready,pending:=none}:Loop)=rg1:=by
  cases rg1
  simp only at hstrg1 hpdrg1
  subst hstrg1 hpdrg1
  rfl
 have hLprg1:=Lp.enter hS2 rg1
 generalize H1.cons (.loop rg1)=Hcrg1 at hLprg1 ⊢
 generalize H1.length=Lrg1 at hLprg1 ⊢
 refine(c2a x hx A (.func (.yield Lrg1) #[] #[]) (fun d H1=>∃ow,Lp prog H Lrg1 rg1 H1 [⟨ptr A1 0 1,0,[ow]⟩,⟨ow,1,d.flatMap (one I)⟩]) ⟨.slice none 0 0,hLprg1⟩ ?_ ?_ ?_).mono ?_
 ·rintro d H1⟨ow,h⟩
  exact⟨hA.ak h.st.ak,h.st.gl hG⟩
 ·rintro d H1 H2⟨ow,h⟩hS
  exact⟨ow,by simpa using h.ext hS⟩
 ·rintro d c e H20 hm⟨ow,hLpj⟩
  have hml:=a2k x
  have hdl:d.length<128:=by
   rw[hm,dg,dC]at hml
   omega
  refine a0Z hLpj.get (by rw[hpsrg1];rfl) hstrg1 ?_
  refine Wp.bM (l:=put lrg1 (some 7) (I c)) hasrg1 (by rw[hpsrg1,htmrg1];first|exact(nC ..).symm|rfl|simp[put,nC]) ?_
  simp(disch:=omega) only[↓RA,RZ,simprocAttr,hnrg1]
  refine⟨rg1,hLpj.get,hstrg1,?_⟩
  have hYBs1:=hLpj.set (fun h=>h) {rg1 with state:=.busy}
  have hKBs1:∀B,B≠Lrg1→iR (hset H20 Lrg1 (.loop {rg1 with state:=.busy})) B=iR H20 B:=fun B h=>jA _ (eY h)
  have hNBs1:(hset H20 Lrg1 (.loop {rg1 with state:=.busy})).length=H20.length:=jM ..
  generalize hset H20 Lrg1 (.loop {rg1 with state:=.busy})=HBs1 at hYBs1 hKBs1 hNBs1 ⊢
  refine Wp.bM hbdrg1 rfl ?_
  have hZBs1:=hYBs1.st
  obtain⟨Bs1,hBBs1,hS3⟩:=hZBs1.aB (os:=[⟨ptr A1 0 1,0,_⟩,⟨ow,1,_⟩])
  simp(disch:=omega) only[↓RA,RZ,simprocAttr,hnrg1,g2rg1,hS3.ld 0 rfl]
  refine hS3.ag [I c] a2u a7y rfl rfl (by simp[Value.cells]) rfl rfl (by decide) (by decide) fun w1 H2 hS4=> ?_
  simp only[RT]at hS4
  simp(disch:=omega) only[↓RA,RZ,simprocAttr,hnrg1]
  refine hS4.aq 1 rfl (hS4.rd 2 rfl) a2u (by rw[yC,dK];simp;omega) fun w2 H3 hS5=> ?_
  simp only[RT]at hS5
  simp(disch:=omega) only[↓RA,RB,simprocAttr,hnrg1,g2rg1]
  refine hS5.aa 0 rfl [w2] (by rw[(hS5.rd 1 rfl).cells.1]) (by simp[(hS5.rd 1 rfl).cells.2.1]) c0K (by simp) fun H4 hS6=> ?_
  simp only[RT]at hS6
  simp(disch:=omega) only[↓RA,simprocAttr]
  have hS7:=hS6.pick (os':=[⟨ptr A1 0 1,0,_⟩,⟨w2,1,_⟩]) [0,1] (by decide) rfl
  have hWBs1:=(hYBs1.body (hBBs1▸hS7)).set (fun h=>h) rg1
  rw[←hreqrg1]at hWBs1
  refine⟨_,(hYBs1.body (hBBs1▸hS7)).get,rfl,w2,?_⟩
  rw[dz]
  exact hreqrg1▸hWBs1
 ·rintro _ H21⟨ow,hLp2⟩
  refine⟨_,hLp2.get,(by rw[hstrg1];exact fun h=>by cases h),fun _=> ?_,fun c hc=>by rw[hpdrg1]at hc;cases hc⟩
  have hAAf1:=(hLp2.set (fun h=>h) {rg1 with state:=.exhausted}).st
  have hKAf1:∀B,B≠Lrg1→iR (hset H21 Lrg1 (.loop {rg1 with state:=.exhausted})) B=iR H21 B:=fun B h=>jA _ (eY h)
  generalize hset H21 Lrg1 (.loop {rg1 with state:=.exhausted})=HAf1 at hAAf1 hKAf1 ⊢
  simp(disch:=omega) only[↓RA,RZ,simprocAttr,hnrg1,g2rg1,hAAf1.ld 0 rfl,c5Q]
  exact hAAf1.pick [1] (by decide) rfl
theorem b0K(hG:Glob gH H)(x:Nt)(hx:Nt.Ok x)(A:Nat)(hA:Var H A 2 [.int .u64 x.1,.int .u64 x.2]):
 Fn prog 121 [.func (.func 166) #[] #[ptr A 0 2]] H fun r H'=>St prog H H' [⟨r,1,(pP x).flatMap (one I)⟩]:=by
 refine .aT func121 rfl (by kernel_rfl) (m:=5) rfl fun l hn g0=> ?_
 simp(disch:=omega) only[↓RA,RZ,simprocAttr,hn,g0]
 refine iG ((b2L ((sR H).gl hG) x hx A (hA.ak (sR H).ak)).tr) ?_
 rintro r H1⟨-,hT1⟩
 have hS1:=(sR H).trans hT1
 simp only[RT]at hS1
 simp(disch:=omega) only[↓RA,RB,simprocAttr,hn,c6E]
 exact hS1
theorem b8X(x:Nt):Fn prog 122 [.agg #[.int .u64 x.1,.int .u64 x.2]] H fun r H'=>∃A,r=.func (.func 166) #[] #[ptr A 0 2]∧St prog H H' [⟨ptr A 0 2,0,[.int .u64 x.1,.int .u64 x.2]⟩]:=by
 refine .aT func122 rfl (by kernel_rfl) (m:=4) rfl fun l hn g0=> ?_
 simp(disch:=omega) only[↓RA,RB,simprocAttr,g0]
 refine(sR H).eNew 2 [(.int .u64 x.1),(.int .u64 x.2)] rfl rfl rfl nV fun A1 H1 hS1=> ?_
 simp only[RT]at hS1
 simp(disch:=omega) only[↓RA,RZ,simprocAttr,hn,c4G]
 exact⟨A1,rfl,hS1⟩
theorem b0Y(hG:Glob gH H)(x:Nt)(hx:Nt.Ok x):
 Fn prog 85 [.agg #[.int .u64 x.1,.int .u64 x.2]] H fun r H'=>St prog H H' [⟨r,1,(pP x).flatMap (one I)⟩]:=by
 refine .aT func85 rfl (by kernel_rfl) (m:=6) rfl fun l hn g0=> ?_
 simp(disch:=omega) only[↓RA,RB,simprocAttr,g0]
 refine(sR H).eNew 2 [(.int .u64 x.1),(.int .u64 x.2)] rfl rfl rfl nV fun A1 H1 hS1=> ?_
 simp only[RT]at hS1
 simp(disch:=omega) only[↓RA,RZ,simprocAttr,hn,hS1.ai 0 rfl]
 refine iG (b8X x) ?_
 rintro r H2⟨A2,rfl,hT1⟩
 have hS2:=hS1.trans hT1
 simp only[RT]at hS2
 simp(disch:=omega) only[↓RA,RZ,simprocAttr,hn]
 refine iG ((b0K (hS2.gl hG) x hx A2 (hS2.var 1 rfl)).tr) ?_
 rintro r H3⟨-,hT2⟩
 have hS3:=hS2.trans hT2
 simp only[RT]at hS3
 simp(disch:=omega) only[↓RA,RB,simprocAttr,hn,c8f]
 exact hS3.pick [2] (by decide) rfl
def a8y(a b:Nat):Nat:=(BitVec.ofNat 64 a&&&~~~ BitVec.ofNat 64 b).toNat
theorem a5k(a b:Nat):a8y a b<18446744073709551616:=(BitVec.ofNat 64 a&&&~~~ BitVec.ofNat 64 b).isLt
theorem c1q(a b:Nat):IntKind.wrap .u64 ((BitVec.ofInt (IntKind.bits .u64) (a:Int)&&&~~~ BitVec.ofInt (IntKind.bits .u64) (b:Int)).toNat:Int)=((a8y a b:Nat):Int):=by
 have e:(BitVec.ofInt (IntKind.bits .u64) (a:Int)&&&~~~ BitVec.ofInt (IntKind.bits .u64) (b:Int)).toNat=a8y a b:=by
  unfold a8y
  rw[fU,fU]
  rfl
 rw[e]
 have:=a5k a b
 exact oD _ (by omega) (by omega)
theorem a7L(a b j:Nat)(ha:a<18446744073709551616)(hj:j<64):(a8y a b).testBit j=(a.testBit j&& !b.testBit j):=by
 unfold a8y
 have h1:(BitVec.ofNat 64 a&&&~~~ BitVec.ofNat 64 b).toNat.testBit j=(BitVec.ofNat 64 a&&&~~~ BitVec.ofNat 64 b).getLsbD j:=rfl
 rw[h1,BitVec.getLsbD_and,BitVec.getLsbD_not,BitVec.getLsbD_ofNat,BitVec.getLsbD_ofNat]
 simp[hj]
def woF(x y:Nt):Nt:=(a8y x.1 y.1,a8y x.2 y.2)
theorem c3w(x y:Nt):Nt.Ok (woF x y):=⟨a5k _ _,a5k _ _⟩
theorem c1S(x y:Nt):Fn prog 113 [.agg #[.int .u64 x.1,.int .u64 x.2],.agg #[.int .u64 y.1,.int .u64 y.2]] H fun r H'=>r=.agg #[.int .u64 (woF x y).1,.int .u64 (woF x y).2]∧St prog H H' []:=by
 have e1:=c1q x.1 y.1
 have e2:=c1q x.2 y.2
 refine .aF func113 rfl (by kernel_rfl) (m:=16) rfl fun l hn g0 g1=> ?_
 simp(disch:=omega) only[↓RA,RB,simprocAttr,g0]
 refine(sR H).eNew 2 [(.int .u64 x.1),(.int .u64 x.2)] rfl rfl rfl nV fun A1 H1 hS1=> ?_
 simp only[RT]at hS1
 simp(disch:=omega) only[↓RA,RB,simprocAttr,g1]
 refine hS1.eNew 2 [(.int .u64 y.1),(.int .u64 y.2)] rfl rfl rfl nV fun A2 H2 hS2=> ?_
 simp only[RT]at hS2
 simp(disch:=omega) only[↓RA,RZ,simprocAttr]
 refine hS2.eNew 2 [(.int .u64 0),(.int .u64 0)] rfl rfl rfl nV fun A3 H3 hS3=> ?_
 simp only[RT]at hS3
 simp(disch:=omega) only[↓RA,RZ,simprocAttr,hn,hS3.ld 0 rfl,hS3.ld 1 rfl,b7f,e1,e2]
 refine hS3.aa 2 rfl [_,_] rfl rfl nV (by simp) fun H4 hS4=> ?_
 simp only[RT]at hS4
 simp(disch:=omega) only[↓RA,RZ,simprocAttr,hn,c4A,hS4.ai 2 rfl]
 exact⟨rfl,hS4.forget⟩
theorem b0u(x y:Nt):Fn prog 76 [.agg #[.int .u64 x.1,.int .u64 x.2],.agg #[.int .u64 y.1,.int .u64 y.2]] H fun r H'=>r=.bool (decide (woF x y=(0,0)))∧St prog H H' []:=by
 refine .aF func76 rfl (by kernel_rfl) (m:=10) rfl fun l hn g0 g1=> ?_
 simp(disch:=omega) only[↓RA,RB,simprocAttr,g0]
 refine(sR H).eNew 2 [(.int .u64 x.1),(.int .u64 x.2)] rfl rfl rfl nV fun A1 H1 hS1=> ?_
 simp only[RT]at hS1
 simp(disch:=omega) only[↓RA,RB,simprocAttr,g1]
 refine hS1.eNew 2 [(.int .u64 y.1),(.int .u64 y.2)] rfl rfl rfl nV fun A2 H2 hS2=> ?_
 simp only[RT]at hS2
 simp(disch:=omega) only[↓RA,RZ,simprocAttr,hn,hS2.ai 0 rfl,hS2.ai 1 rfl]
 refine hS2.cF (c1S x y) fun H3 hS3=> ?_
 simp(disch:=omega) only[↓RA,RZ,simprocAttr,hn,c1k,c7V]
 refine⟨?_,hS3.forget⟩
 congr 1
 rw[decide_eq_decide]
 constructor
 ·rintro⟨h1,h2⟩
  exact fN (by simpa using h1) (by simpa using h2)
 ·intro h
  rw[h]
  exact⟨rfl,rfl⟩
def a0q(lo hi:Int):Nt:=jH ((List.range (hi-lo+1).toNat).map fun(k:Nat)=>lo+(k:Int))
theorem b4v(lo hi:Int)(h0:0≤lo)(h1:lo≤hi)(h2:hi≤127):Fn prog 75 [.agg #[I lo,I hi]] H fun r H'=>r=.tuple #[.agg #[.int .u64 (a0q lo hi).1,.int .u64 (a0q lo hi).2],I 0]∧St prog H H' []:=by
 have hce:qT lo hi=0:=by
  unfold qT
  rw[if_neg (by omega),if_neg (by omega)]
 refine .aT func75 rfl (by kernel_rfl) (m:=25) rfl fun l hn g0=> ?_
 simp(disch:=omega) only[↓RA,RB,simprocAttr,g0]
 refine(sR H).eNew 2 [I lo,I hi] rfl rfl rfl a1h fun A1 H1 hS1=> ?_
 simp only[RT]at hS1
 simp(disch:=omega) only[↓RA,RZ,simprocAttr]
 refine hS1.eNew 2 [(.int .u64 0),(.int .u64 0)] rfl rfl rfl nV fun A2 H2 hS2=> ?_
 simp only[RT]at hS2
 simp(disch:=omega) only[↓RA,RZ,simprocAttr]
 refine hS2.eNew 2 [(.int .u64 0),(.int .u64 0)] rfl rfl rfl nV fun A3 H3 hS3=> ?_
 simp only[RT]at hS3
 simp(disch:=omega) only[↓RA,RZ,simprocAttr,hn,hS3.ai 0 rfl]
 refine hS3.cF (a1z lo hi) fun H4 hS4=> ?_
 rw[hce]
 simp(disch:=omega) only[↓RA,RZ,simprocAttr,hn,hS4.ld 0 rfl]
 refine Wp.aj (fun n l H'=>l.length=25∧get l 1=(ptr A1 0 2)∧get l 2=(ptr A2 0 2)∧get l 3=I 0∧get l 4=(ptr A3 0 2)∧∃(j:Nat),(n+j=(hi-lo+1).toNat)∧get l 6=I (lo+(j:Int))∧St prog H H' [⟨ptr A1 0 2,0,[I lo,I hi]⟩,⟨ptr A2 0 2,0,[(.int .u64 0),(.int .u64 0)]⟩,⟨ptr A3 0 2,0,[.int .u64 (jH ((List.range j).map fun(k:Nat)=>lo+(k:Int))).1,.int .u64 (jH ((List.range j).map fun(k:Nat)=>lo+(k:Int))).2]⟩]) (hi-lo+1).toNat ?_ ?_
 ·simp(disch:=omega) only[RB,RC,simprocAttr,hn]
  exact⟨0,by omega,by simp,hS4⟩
 rintro n l H5⟨hn,g1,g2,g3,g4,j,hj,g6,hS5⟩
 simp(disch:=omega) only[↓RA,RZ,simprocAttr,hn,g1,g6,hS5.ld 0 rfl]
 refine iA (fun q1=> ?_) (fun q1=> ?_)
 ·have hok:Nt.Ok (jH ((List.range j).map fun(k:Nat)=>lo+(k:Int))):=vO _ _ (fun z h=>by
   obtain⟨k,hk,rfl⟩:=dr.1 h
   have:=dq.1 hk
   exact⟨by omega,by omega⟩) ⟨by decide,by decide⟩
  have hsu:jH ((List.range (j+1)).map fun(k:Nat)=>lo+(k:Int))=tE (jH ((List.range j).map fun(k:Nat)=>lo+(k:Int))) (lo+(j:Int)):=by
   unfold jH
   rw[dZ,dM,gu]
   rfl
  simp(disch:=omega) only[↓RA,RZ,simprocAttr,hn,g4,g6,hS5.ai 2 rfl,q1]
  refine hS5.cF (a7A (jH ((List.range j).map fun(k:Nat)=>lo+(k:Int))) hok (lo+(j:Int)) (by omega) (by omega)) fun H6 hS6=> ?_
  simp(disch:=omega) only[↓RA,RZ,simprocAttr,hn,g4,q1]
  refine hS6.aa 2 rfl [(.int .u64 (tE (jH ((List.range j).map fun(k:Nat)=>lo+(k:Int))) (lo+(j:Int))).1),(.int .u64 (tE (jH ((List.range j).map fun(k:Nat)=>lo+(k:Int))) (lo+(j:Int))).2)] rfl rfl nV (by simp) fun H7 hS7=> ?_
  simp only[RT]at hS7
  simp(disch:=omega) only[↓RA,RZ,simprocAttr,hn,g1,g2,g3,g4,g6,q1]
  refine⟨n-1,by omega,j+1,by omega,by congr 1;omega,?_⟩
  rw[hsu]
  exact hS7.pick [0,1,2] (by decide) rfl
 have hjj:j=(hi-lo+1).toNat:=by omega
 simp(disch:=omega) only[↓RA,RZ,simprocAttr,hn,g2,g4,hS5.ai 2 rfl,q1]
 refine hS5.aa 1 rfl [(.int .u64 (jH ((List.range j).map fun(k:Nat)=>lo+(k:Int))).1),(.int .u64 (jH ((List.range j).map fun(k:Nat)=>lo+(k:Int))).2)] rfl rfl nV (by simp) fun H8 hS8=> ?_
 simp only[RT]at hS8
 simp(disch:=omega) only[↓RA,RZ,simprocAttr,hn,g2,c8q,hS8.ai 1 rfl,q1]
 rw[hjj]
 exact⟨rfl,hS8.forget⟩
structure Ks(H:Heap)(kv:Value)(ks:List Nt):Prop where
 sl:Sl 2 ntc H kv ks
 len:ks.length<1000000000
 ok:∀x∈ks,Nt.Ok x
theorem Ks.ak{P:Program}{H':Heap}{kv:Value}{ks:List Nt}{os:List Ob}(h:Ks H kv ks)(hS:St P H H' os):Ks H' kv ks:=⟨hS.sl h.sl,h.len,h.ok⟩
def oT(o:Org)(ks:List Nt):Int:=if organE o≠0 then organE o else if ks.length≠o.dvs.length then 5 else if ∃j,j<o.dvs.length∧woF (iB ks j) (a0q (iB o.dvs j).lo (iB o.dvs j).hi)≠(0,0)then 23 else 0
theorem b7N(o:Org)(ho:o.In H)(kv:Value)(ks:List Nt)(hk:Ks H kv ks):Fn prog 38 [.agg #[.string o.name,o.rv,o.dv,o.cv],kv] H fun r H'=>r=I (oT o ks)∧St prog H H' []:=by
 have hkl:=hk.len
 have hdl:=ho.2.2.2.2.2.2.1
 refine .aF func38 rfl (by kernel_rfl) (m:=43) rfl fun l hn g0 g1=> ?_
 simp(disch:=omega) only[↓RA,RB,simprocAttr,g0]
 refine(sR H).eNew 4 [(.string o.name),o.rv,o.dv,o.cv] rfl rfl (by simp[OC,((sR H).sl ho.1).cells.2.1,((sR H).sl ho.2.2.1).cells.2.1,((sR H).sl ho.2.2.2.2.1).cells.2.1]) mX fun A1 H1 hS1=> ?_
 simp only[RT]at hS1
 simp(disch:=omega) only[↓RA,RZ,simprocAttr,hn,hS1.ai 0 rfl]
 refine hS1.cF (a2V o (ho.ak hS1)) fun H2 hS2=> ?_
 simp(disch:=omega) only[↓RA,RB,simprocAttr,hn]
 refine iA (fun h1=> ?_) (fun h1=> ?_)
 ·simp(disch:=omega) only[↓RA,RZ,simprocAttr,hn,b8M,h1]
  exact⟨by unfold oT;rw[if_pos h1],hS2.forget⟩
 have hz:organE o=0:=dx.1 h1
 have hf:=Org.ba hz
 simp(disch:=omega) only[↓RA,RZ,simprocAttr,hn,g1,(hS2.sl hk.sl).len,hS2.ld 0 rfl,(hS2.sl ho.2.2.1).len,h1]
 refine iA (fun h2=> ?_) (fun h2=> ?_)
 ·simp(disch:=omega) only[↓RA,RZ,simprocAttr,hn,b8M,h1,h2]
  exact⟨by unfold oT;rw[if_neg h1,if_pos (by omega)],hS2.forget⟩
 have hlen:ks.length=o.dvs.length:=by omega
 simp(disch:=omega) only[↓RA,RZ,simprocAttr,hn,hS2.ld 0 rfl,(hS2.sl ho.2.2.1).len,h1,h2]
 refine Wp.aj (fun n l H'=>l.length=43∧get l 1=kv∧get l 22=o.dv∧get l 23=I o.dvs.length∧∃(j:Nat),(n+j=o.dvs.length∧∀q,q<j→woF (iB ks q) (a0q (iB o.dvs q).lo (iB o.dvs q).hi)=(0,0))∧get l 24=I j∧St prog H H' [⟨ptr A1 0 4,0,[(.string o.name),o.rv,o.dv,o.cv]⟩]) o.dvs.length ?_ ?_
 ·simp(disch:=omega) only[RB,RC,simprocAttr,hn,g1]
  exact⟨0,⟨by omega,fun q hq=>absurd hq (dL _)⟩,rfl,hS2⟩
 rintro n l H3⟨hn,g1,g22,g23,j,⟨hj,hq⟩,g24,hS3⟩
 simp(disch:=omega) only[↓RA,RB,simprocAttr,hn,g23,g24]
 refine iA (fun h3=> ?_) (fun h3=> ?_)
 ·have hky:=hf.keys j (by omega)
  simp(disch:=omega) only[↓RA,RZ,simprocAttr,hn,g22,g24,(hS3.sl ho.2.2.1).idx,(hS3.sl ho.2.2.1).ai,Dvn.cells,h3]
  refine hS3.eNew 5 [(.string ⟨#[]⟩),(.bool false),I 0,I 0,(.slice none 0 0)] rfl rfl rfl a1g fun A2 H4 hS4=> ?_
  simp only[RT]at hS4
  simp(disch:=omega) only[↓RA,RZ,simprocAttr,hn,h3]
  refine hS4.aa 1 rfl [(.string (iB o.dvs j).name),(.bool (iB o.dvs j).pedal),I (iB o.dvs j).lo,I (iB o.dvs j).hi,(iB o.dvs j).sv] rfl (by simp[OC,(hS4.sl (ho.2.2.2.1 (iB o.dvs j) (iD (by omega))).1).cells.2.1]) a1g (by simp) fun H5 hS5=> ?_
  simp only[RT]at hS5
  simp(disch:=omega) only[↓RA,RZ,simprocAttr,hn,hS5.ai 1 rfl,h3]
  refine hS5.cF (b4v (iB o.dvs j).lo (iB o.dvs j).hi hky.1 hky.2.1 hky.2.2) fun H6 hS6=> ?_
  simp(disch:=omega) only[↓RA,RZ,simprocAttr,hn,h3]
  refine hS6.eNew 2 [(.int .u64 0),(.int .u64 0)] rfl rfl rfl nV fun A3 H7 hS7=> ?_
  simp only[RT]at hS7
  simp(disch:=omega) only[↓RA,RZ,simprocAttr,hn,h3]
  refine hS7.aa 2 rfl [(.int .u64 (a0q (iB o.dvs j).lo (iB o.dvs j).hi).1),(.int .u64 (a0q (iB o.dvs j).lo (iB o.dvs j).hi).2)] rfl rfl nV (by simp) fun H8 hS8=> ?_
  simp only[RT]at hS8
  simp(disch:=omega) only[↓RA,RZ,simprocAttr,hn,h3]
  refine Wp.drw jW (by kernel_rfl) ?_
  simp(disch:=omega) only[↓RA,RZ,simprocAttr,hn,g1,(hS8.sl hk.sl).idx,(hS8.sl hk.sl).ai,ntc,hS8.ai 2 rfl]
  refine hS8.cF (b0u (iB ks j) (a0q (iB o.dvs j).lo (iB o.dvs j).hi)) fun H9 hS9=> ?_
  simp(disch:=omega) only[↓RA,RB,simprocAttr,hn]
  refine jJ (fun h4=> ?_) (fun h4=> ?_)
  ·have h5:¬woF (iB ks j) (a0q (iB o.dvs j).lo (iB o.dvs j).hi)=(0,0):=by simpa using h4
   simp(disch:=omega) only[↓RA,RB,simprocAttr,hn,b8M,h4]
   exact⟨by unfold oT;rw[if_neg h1,if_neg (by omega),if_pos ⟨j,by omega,h5⟩],hS9.forget⟩
  have h5:woF (iB ks j) (a0q (iB o.dvs j).lo (iB o.dvs j).hi)=(0,0):=by simpa using h4
  simp(disch:=omega) only[↓RA,RZ,simprocAttr,hn,g1,g22,g23,g24,h4]
  exact⟨n-1,by omega,j+1,⟨by omega,fun q hq'=>by rcases dm.1 hq' with e|e;(· exact hq q e);(· rw[e];exact h5)⟩,by simp,hS9.pick [0] (by decide) rfl⟩
 simp(disch:=omega) only[↓RA,RZ,simprocAttr,hn,b8M,h3]
 refine⟨?_,hS3.forget⟩
 unfold oT
 rw[if_neg h1,if_neg (by omega),if_neg]
 rintro⟨q,hq1,hq2⟩
 exact hq2 (hq q (by omega))
def plD(ks:List Nt)(i:Nat):List Ct:=(pP (iB ks i)).map fun z=>((i:Int),z)
def iF(ks:List Nt):List Ct:=(List.range ks.length).flatMap (plD ks)
theorem c3B(ks:List Nt)(i:Nat):(plD ks i).length≤128:=by
 unfold plD
 rw[dK]
 exact a2k _
theorem b7G(ks:List Nt):∀i,((List.range i).flatMap (plD ks)).length≤i*128
 | 0=>by simp
 | i+1=>by
   have:=b7G ks i
   have:=c3B ks i
   rw[dZ,dz,dg,du,ez,di]
   omega
theorem a4g(hG:Glob gH H)(kv:Value)(ks:List Nt)(hk:Ks H kv ks)(h8:ks.length≤8):Fn prog 49 [kv] H fun r H'=>St prog H H' [⟨r,2,pr (iF ks)⟩]:=by
 refine .aT func49 rfl (by kernel_rfl) (m:=31) rfl fun l hn g0=> ?_
 simp(disch:=omega) only[↓RA,RZ,simprocAttr,hn,g0,((sR H).sl hk.sl).len]
 have hS1:=(sR H).nil 1
 simp only[RT]at hS1
 refine Wp.aj (fun n l H'=>l.length=31∧get l 2=(.slice none 0 0)∧get l 8=kv∧get l 9=I ks.length∧∃(i:Nat)(ov:Value),(n+i=ks.length)∧get l 10=I i∧get l 3=ov∧St prog H H' [⟨ov,2,pr ((List.range i).flatMap (plD ks))⟩]) ks.length ?_ ?_
 ·simp(disch:=omega) only[RB,RC,simprocAttr,hn]
  exact⟨0,.slice none 0 0,by omega,rfl,rfl,hS1⟩
 rintro n l H1⟨hn,g2,g8,g9,i,ov,hi,nH,g3,hS2⟩
 simp(disch:=omega) only[↓RA,RB,simprocAttr,hn,g9,nH]
 refine iA (fun q1=> ?_) (fun q1=> ?_)
 ·have hmo:=hk.ok _ (iD (xs:=ks) (j:=i) (by omega))
  have hml:=a2k (iB ks i)
  have hpl:=b7G ks i
  simp(disch:=omega) only[↓RA,RZ,simprocAttr,hn,g8,nH,(hS2.sl hk.sl).idx,(hS2.sl hk.sl).ai,ntc,q1]
  refine hS2.eNew 2 [(.int .u64 0),(.int .u64 0)] rfl rfl rfl nV fun A1 H2 hS3=> ?_
  simp only[RT]at hS3
  simp(disch:=omega) only[↓RA,RZ,simprocAttr,hn,q1]
  refine hS3.aa 1 rfl [(.int .u64 (iB ks i).1),(.int .u64 (iB ks i).2)] rfl rfl nV (by simp) fun H3 hS4=> ?_
  simp only[RT]at hS4
  simp(disch:=omega) only[↓RA,RZ,simprocAttr,hn,hS4.ai 1 rfl,q1]
  refine iG ((b0Y (hS4.gl hG) (iB ks i) hmo).tr) ?_
  rintro r H4⟨-,hT1⟩
  have hS5:=hS4.trans hT1
  simp only[RT]at hS5
  obtain⟨mw,rfl⟩:∃w,w=r:=⟨r,rfl⟩
  simp(disch:=omega) only[↓RA,RZ,simprocAttr,hn,(hS5.av 2 rfl (fun _=>rfl)).len,q1]
  refine Wp.aj (fun n l H'=>l.length=31∧get l 2=(.slice none 0 0)∧get l 4=I i∧get l 8=kv∧get l 9=I ks.length∧get l 10=I i∧get l 16=mw∧get l 17=I (pP (iB ks i)).length∧∃(j:Nat)(ow:Value),(n+j=(pP (iB ks i)).length)∧get l 18=I j∧get l 3=ow∧St prog H H' [⟨ow,2,pr ((List.range i).flatMap (plD ks)++((pP (iB ks i)).take j).map fun z=>((i:Int),z))⟩,⟨ptr A1 0 2,0,[(.int .u64 (iB ks i).1),(.int .u64 (iB ks i).2)]⟩,⟨mw,1,(pP (iB ks i)).flatMap (one I)⟩]) (pP (iB ks i)).length ?_ ?_
  ·simp(disch:=omega) only[RB,RC,simprocAttr,hn,g2,g8,g9,nH,g3]
   refine⟨0,ov,by omega,rfl,rfl,?_⟩
   rw[List.take_zero,gi,di]
   exact hS5
  rintro n l H5⟨hn,g2,g4,g8,g9,nH,g16,g17,j,ow,hj,g18,g3,hS6⟩
  simp(disch:=omega) only[↓RA,RB,simprocAttr,hn,g17,g18]
  refine iA (fun q2=> ?_) (fun q2=> ?_)
  ·have hroom:(pr ((List.range i).flatMap (plD ks)++((pP (iB ks i)).take j).map fun z=>((i:Int),z))).length≤4000:=by
    rw[iI,dg,dK,fz]
    omega
   simp(disch:=omega) only[↓RA,RZ,simprocAttr,hn,g4,g16,g18,g3,(hS6.av 2 rfl (fun _=>rfl)).idx,(hS6.av 2 rfl (fun _=>rfl)).ld,one,qZ,q2]
   refine hS6.ag [I i,I (iB (pP (iB ks i)) j)] rW a3z rfl rfl (by simp[Value.cells]) rfl rfl (by decide) (by decide) fun w1 H6 hS7=> ?_
   simp only[RT]at hS7
   simp(disch:=omega) only[↓RA,RZ,simprocAttr,hn,q2]
   refine hS7.aq 0 rfl (hS7.rd 3 rfl) rW (by have h:=hroom;simp only[dC,dW];omega) fun w2 H7 hS8=> ?_
   simp only[RT]at hS8
   simp(disch:=omega) only[↓RA,RZ,simprocAttr,hn,g2,g4,g8,g9,nH,g16,g17,g18,q2]
   refine⟨n-1,by omega,j+1,w2,by omega,by simp,rfl,?_⟩
   rw[List.take_add_one,dh (by omega),Option.toList_some,dM,←ef,jL]
   rw[show(pP (iB ks i))[j]=iB (pP (iB ks i)) j from(kC _ _ (by omega)).symm]
   exact hS8.pick [0,1,2] (by decide) rfl
  simp(disch:=omega) only[↓RA,RZ,simprocAttr,hn,g2,g8,g9,nH,g3,q2]
  have hjj:j=(pP (iB ks i)).length:=by omega
  refine⟨ks.length-(i+1),by omega,i+1,ow,by omega,by simp,rfl,?_⟩
  rw[dZ,dz,du,ez,di]
  rw[show plD ks i=((pP (iB ks i)).take j).map (fun z=>((i:Int),z))from by rw[hjj,dU];rfl]
  exact hS6.pick [0] (by decide) rfl
 have hii:i=ks.length:=by omega
 simp(disch:=omega) only[↓RA,RZ,simprocAttr,hn,g3,c7C,q1]
 have hfin:=hS2
 rw[hii]at hfin
 exact hfin
end Go.Ds
namespace Go.Ds
open Go.Proofs
set_option maxRecDepth 10000
def nQ(x:Nt)(z:Int):Bool:=if z<64 then x.1.testBit z.toNat else x.2.testBit (z-64).toNat
theorem rZ{x i:Nat}:i∈oX x↔i<64∧x.testBit i=true:=by
 unfold oX
 rw[ew,dq]
theorem a1L{x:Nt}{z:Int}:z∈pP x↔isN z∧nQ x z=true:=by
 unfold pP nQ isN
 rw[dE,dr,dr]
 constructor
 ·rintro(⟨i,hi,rfl⟩|⟨i,hi,rfl⟩)
  ·obtain⟨h1,h2⟩:=rZ.1 hi
   exact⟨by omega,by rw[if_pos (by omega)];exact h2⟩
  ·obtain⟨h1,h2⟩:=rZ.1 hi
   refine⟨by omega,?_⟩
   rw[if_neg (by omega),show(64+(i:Int)-64).toNat=i by omega]
   exact h2
 ·rintro⟨h1,h2⟩
  by_cases h:z<64
  ·rw[if_pos h]at h2
   exact .inl ⟨z.toNat,rZ.2 ⟨by omega,h2⟩,by omega⟩
  ·rw[if_neg h]at h2
   exact .inr ⟨(z-64).toNat,rZ.2 ⟨by omega,h2⟩,by omega⟩
theorem b6D(x:Nt)(n z:Int)(hn:isN n)(hz:isN z):nQ (tE x n) z=(nQ x z||decide (z=n)):=by
 unfold nQ tE isN at*
 by_cases h1:n<64
 ·rw[if_pos h1]
  by_cases h2:z<64
  ·rw[if_pos h2,if_pos h2,Nat.testBit_or,ga]
   congr 1
   rw[decide_eq_decide]
   omega
  ·rw[if_neg h2,if_neg h2,decide_eq_false (by omega),Bool.or_false]
 ·rw[if_neg h1]
  by_cases h2:z<64
  ·rw[if_pos h2,if_pos h2,decide_eq_false (by omega),Bool.or_false]
  ·rw[if_neg h2,if_neg h2,Nat.testBit_or,ga]
   congr 1
   rw[decide_eq_decide]
   omega
theorem a4F(z:Int):nQ (0,0) z=false:=by
 unfold nQ
 split<;>simp
theorem a4J:∀(xs:List Int)(x:Nt)(z:Int),(∀n∈xs,isN n)→isN z→nQ (xs.foldl tE x) z=(nQ x z||decide (z∈xs))
 | [],x,z,_,_=>by simp
 | n::xs,x,z,h,hz=>by
   rw[eX,a4J xs _ z (fun y hy=>h y (dN _ hy)) hz,b6D x n z (h n (dG ..)) hz,Bool.or_assoc]
   congr 1
   rw[ec]
   simp
theorem a3m{xs:List Int}{z:Int}(h:∀n∈xs,isN n)(hz:isN z):nQ (jH xs) z=decide (z∈xs):=by
 unfold jH
 rw[a4J xs _ z h hz,a4F,Bool.false_or]
theorem a3d{lo hi z:Int}(h0:0≤lo)(h2:hi≤127)(hz:isN z):nQ (a0q lo hi) z=(decide (lo≤z)&&decide (z≤hi)):=by
 unfold a0q
 rw[a3m (fun n hn=>by
  obtain⟨k,hk,rfl⟩:=dr.1 hn
  have:=dq.1 hk
  exact⟨by omega,by omega⟩) hz,ec,cU,decide_eq_true_eq,decide_eq_true_eq,decide_eq_true_eq,dr]
 constructor
 ·rintro⟨k,hk,rfl⟩
  have:=dq.1 hk
  omega
 ·rintro⟨h3,h4⟩
  exact⟨(z-lo).toNat,dq.2 (by omega),by omega⟩
theorem b1H{x y:Nt}(hx:Nt.Ok x){z:Int}(hz:isN z):nQ (woF x y) z=(nQ x z&& !nQ y z):=by
 obtain⟨h1,h2⟩:=hz
 unfold nQ woF
 by_cases h:z<64
 ·rw[if_pos h,if_pos h,if_pos h,a7L _ _ _ hx.1 (by omega)]
 ·rw[if_neg h,if_neg h,if_neg h,a7L _ _ _ hx.2 (by omega)]
theorem a3a{x y:Nt}(hx:Nt.Ok x)(h:woF x y=(0,0)){z:Int}(hz:isN z)(hh:nQ x z=true):nQ y z=true:=by
 have:=b1H (y:=y) hx hz
 rw[h,a4F,hh]at this
 simpa using this.symm
theorem pB{o:Org}{ks:List Nt}(h:oT o ks=0):organE o=0∧ks.length=o.dvs.length∧∀j,j<o.dvs.length→woF (iB ks j) (a0q (iB o.dvs j).lo (iB o.dvs j).hi)=(0,0):=by
 unfold oT at h
 split at h
 ·rename_i hh;exact absurd h hh
 rename_i h1
 split at h
 ·omega
 rename_i h2
 split at h
 ·omega
 rename_i h3
 refine⟨dx.1 h1,by omega,fun j hj=> ?_⟩
 by_cases hh:woF (iB ks j) (a0q (iB o.dvs j).lo (iB o.dvs j).hi)=(0,0)
 ·exact hh
 ·exact absurd ⟨j,hj,hh⟩ h3
theorem sA{o:Org}{ks:List Nt}(hok:∀x∈ks,Nt.Ok x)(h:oT o ks=0):∀c∈iF ks,nD o c=true:=by
 obtain⟨h1,h2,h3⟩:=pB h
 have hf:=Org.ba h1
 intro c hc
 unfold iF at hc
 obtain⟨i,hi,hc⟩:=dR.1 hc
 have hi:=dq.1 hi
 unfold plD at hc
 obtain⟨z,hz,rfl⟩:=dr.1 hc
 obtain⟨hz1,hz2⟩:=a1L.1 hz
 have hky:=hf.keys i (by omega)
 have hw:=a3a (hok _ (iD hi)) (h3 i (by omega)) hz1 hz2
 rw[a3d hky.1 hky.2.2 hz1]at hw
 simp only[cU,decide_eq_true_eq]at hw
 unfold nD
 simp only[cU,decide_eq_true_eq,eK]
 omega
theorem sE{o:Org}{ks:List Nt}(h:oT o ks=0):(iF ks).length≤1024:=by
 obtain⟨h1,h2,_⟩:=pB h
 have h8:=(Org.ba h1).dlen
 have:=b7G ks ks.length
 unfold iF
 omega
end Go.Ds
namespace Go.Ds
open Go.Proofs Go.Proofs.Tryz
variable {H:Heap}
set_option maxRecDepth 10000
set_option maxHeartbeats 1000000
def b5D(o:Org)(l:List (Value×Reg))(ks:List Nt):Int:=if rC o l≠0 then rC o l else oT o ks
theorem b5X(o:Org)(ho:o.In H)(lv:Value)(xs:List (Value×Reg))(hl:Sl 3 rgc H lv xs)(hle:xs.length<1000000000)(hr:∀p∈xs,p.2.In H p.1)(kv:Value)(ks:List Nt)(hk:Ks H kv ks):
 Fn prog 47 [.agg #[.string o.name,o.rv,o.dv,o.cv],lv,kv] H fun r H'=>r=I (b5D o xs ks)∧St prog H H' []:=by
 refine .bk func47 rfl (by kernel_rfl) (m:=17) rfl fun l hn g0 g1 g2=> ?_
 simp(disch:=omega) only[↓RA,RB,simprocAttr,g0]
 refine(sR H).eNew 4 [(.string o.name),o.rv,o.dv,o.cv] rfl rfl (by simp[OC,((sR H).sl ho.1).cells.2.1,((sR H).sl ho.2.2.1).cells.2.1,((sR H).sl ho.2.2.2.2.1).cells.2.1]) mX fun A1 H1 hS1=> ?_
 simp only[RT]at hS1
 simp(disch:=omega) only[↓RA,RZ,simprocAttr,hn,g1,hS1.ai 0 rfl]
 refine hS1.cF (b4k o (ho.ak hS1) lv xs (hS1.sl hl) hle (fun p hp=>(hr p hp).ak hS1)) fun H2 hS2=> ?_
 simp(disch:=omega) only[↓RA,RB,simprocAttr,hn]
 refine iA (fun h1=> ?_) (fun h1=> ?_)
 ·simp(disch:=omega) only[↓RA,RZ,simprocAttr,hn,c5o,h1]
  exact⟨by unfold b5D;rw[if_pos h1],hS2.forget⟩
 simp(disch:=omega) only[↓RA,RZ,simprocAttr,hn,g2,hS2.ai 0 rfl,h1]
 refine hS2.cF (b7N o (ho.ak hS2) kv ks (hk.ak hS2)) fun H3 hS3=> ?_
 simp(disch:=omega) only[↓RA,RZ,simprocAttr,hn,c5o,h1]
 exact⟨by unfold b5D;rw[if_neg h1],hS3.forget⟩
def rkE(o:Org)(rg:Reg)(ks:List Nt):Int:=if rB o rg≠0 then rB o rg else oT o ks
theorem a6t(o:Org)(sv:Value)(rg:Reg)(ks:List Nt):b5D o [(sv,rg)] ks=rkE o rg ks:=by
 unfold b5D rkE
 rw[a8O]
theorem a6X{o:Org}{rg:Reg}{ks:List Nt}(h:rkE o rg ks=0):rB o rg=0∧oT o ks=0:=by
 unfold rkE at h
 split at h
 ·rename_i hh;exact absurd h hh
 ·rename_i hh;exact⟨dx.1 hh,h⟩
def a0v(o:Org)(rg:Reg)(ks:List Nt):List Ct:=if rkE o rg ks=0 then jP o rg (iF ks)else[]
def b2S(o:Org)(rg:Reg)(ks:List Nt):List Ct:=if rkE o rg ks=0 then kG o rg (iF ks)else[]
theorem rM(hG:Glob gH H)(o:Org)(ho:o.In H)(rg:Reg)(sv:Value)(hr:rg.In H sv)(kv:Value)(ks:List Nt)(hk:Ks H kv ks):
 Fn prog 18 [.agg #[.string o.name,o.rv,o.dv,o.cv],.agg #[sv,.int .u64 rg.cpl,.int .u64 rg.off],kv] H fun r H'=>∃pv,r=.tuple #[pv,I (rkE o rg ks)]∧Slx 2 jV H' (fun B=>H.length≤B) pv (a0v o rg ks)∧St prog H H' []:=by
 refine .bk func18 rfl (by kernel_rfl) (m:=22) rfl fun l hn g0 g1 g2=> ?_
 simp(disch:=omega) only[↓RA,RB,simprocAttr,g0]
 refine(sR H).eNew 4 [(.string o.name),o.rv,o.dv,o.cv] rfl rfl (by simp[OC,((sR H).sl ho.1).cells.2.1,((sR H).sl ho.2.2.1).cells.2.1,((sR H).sl ho.2.2.2.2.1).cells.2.1]) mX fun A1 H1 hS1=> ?_
 simp only[RT]at hS1
 simp(disch:=omega) only[↓RA,RB,simprocAttr,g1]
 refine hS1.eNew 3 [sv,(.int .u64 rg.cpl),(.int .u64 rg.off)] rfl rfl (by simp[OC,(hS1.sl hr.1).cells.2.1]) qV fun A2 H2 hS2=> ?_
 simp only[RT]at hS2
 simp(disch:=omega) only[↓RA,RZ,simprocAttr,hn,hS2.ai 0 rfl,hS2.ai 1 rfl]
 refine hS2.ag [sv,(.int .u64 rg.cpl),(.int .u64 rg.off)] c0Z c0W rfl rfl (by first|(simp[];done)|simp[Value.cells]) (by first|(simp[];done)|simp[Value.cells]) (by simp[OC,(hS2.sl hr.1).cells.2.1]) (by decide) (by decide) fun w1 H3 hS3=> ?_
 simp only[RT]at hS3
 simp(disch:=omega) only[↓RA,RZ,simprocAttr,hn,g2]
 refine hS3.cF (b5X o (ho.ak hS3) w1 [(sv,rg)] (hS3.av 2 rfl (fun _=>rfl)) (by simp) (by intro p hp;rw[dH.1 hp];exact hr.ak hS3) kv ks (hk.ak hS3)) fun H4 hS4=> ?_
 have hsc:=a6t o sv rg ks
 simp(disch:=omega) only[↓RA,RB,simprocAttr,hn,hsc]
 refine iA (fun h1=> ?_) (fun h1=> ?_)
 ·simp(disch:=omega) only[↓RA,RZ,simprocAttr,hn,c5Z,hsc,h1]
  exact⟨.slice none 0 0,rfl,⟨⟨.inl ⟨rfl,by rw[a0v,if_neg h1];rfl⟩,kF,by decide⟩,fun b h=>by simp[kI]at h⟩,hS4.forget⟩
 have h0:=dx.1 h1
 obtain⟨hz1,hk0⟩:=a6X h0
 obtain⟨hz3,hz4⟩:=xG hz1
 have hf:=Org.ba hz3
 have h8:ks.length≤8:=by
  have:=hf.dlen
  have:=(pB hk0).2.1
  omega
 simp(disch:=omega) only[↓RA,RC,simprocAttr,hsc,h1]
 refine Wp.aQ jW [(0,4),(1,4)] (by kernel_rfl) (by kernel_rfl) ?_
 simp(disch:=omega) only[↓RA,RZ,simprocAttr,hn,g2,hS4.ai 0 rfl,hS4.ai 1 rfl]
 refine iG ((a4g (hS4.gl hG) kv ks (hk.ak hS4) h8).tr) ?_
 rintro r H5⟨-,hT2⟩
 have hS5:=hS4.trans hT2
 simp only[RT]at hS5
 obtain⟨pv,rfl⟩:∃w,w=r:=⟨r,rfl⟩
 simp(disch:=omega) only[↓RA,RZ,simprocAttr,hn]
 have hSd:=hS5
 refine iG (a7W o (ho.ak hS5) hf rg sv (hr.ak hS5) hz4 pv (iF ks) (hS5.av 3 rfl kF) (sE hk0) (sA hk.ok hk0)) ?_
 rintro r H6⟨hx,hT3⟩
 have hS6:=hS5.trans hT3
 simp only[RT]at hS6
 obtain⟨qv,rfl⟩:∃w,w=r:=⟨r,rfl⟩
 simp(disch:=omega) only[↓RA,RZ,simprocAttr,hn,hS5.ai 0 rfl,hS5.ai 1 rfl,c5Z,hx.1.bC]
 rw[h0]
 refine⟨qv,rfl,⟨?_,fun b h=> ?_⟩,hS6.forget⟩
 ·rw[a0v,if_pos h0]
  exact hx.1
 ·have:=hx.2 b h
  have:H.length≤_:=hSd.len
  omega
theorem a5U(hG:Glob gH H)(o:Org)(ho:o.In H)(rg:Reg)(sv:Value)(hr:rg.In H sv)(kv:Value)(ks:List Nt)(hk:Ks H kv ks):
 Fn prog 45 [.agg #[.string o.name,o.rv,o.dv,o.cv],.agg #[sv,.int .u64 rg.cpl,.int .u64 rg.off],kv] H fun r H'=>∃pv,r=.tuple #[pv,I (rkE o rg ks)]∧Slx 2 jV H' (fun B=>H.length≤B) pv (b2S o rg ks)∧St prog H H' []:=by
 refine .bk func45 rfl (by kernel_rfl) (m:=22) rfl fun l hn g0 g1 g2=> ?_
 simp(disch:=omega) only[↓RA,RB,simprocAttr,g0]
 refine(sR H).eNew 4 [(.string o.name),o.rv,o.dv,o.cv] rfl rfl (by simp[OC,((sR H).sl ho.1).cells.2.1,((sR H).sl ho.2.2.1).cells.2.1,((sR H).sl ho.2.2.2.2.1).cells.2.1]) mX fun A1 H1 hS1=> ?_
 simp only[RT]at hS1
 simp(disch:=omega) only[↓RA,RB,simprocAttr,g1]
 refine hS1.eNew 3 [sv,(.int .u64 rg.cpl),(.int .u64 rg.off)] rfl rfl (by simp[OC,(hS1.sl hr.1).cells.2.1]) qV fun A2 H2 hS2=> ?_
 simp only[RT]at hS2
 simp(disch:=omega) only[↓RA,RZ,simprocAttr,hn,hS2.ai 0 rfl,hS2.ai 1 rfl]
 refine hS2.ag [sv,(.int .u64 rg.cpl),(.int .u64 rg.off)] c0Z c0W rfl rfl (by first|(simp[];done)|simp[Value.cells]) (by first|(simp[];done)|simp[Value.cells]) (by simp[OC,(hS2.sl hr.1).cells.2.1]) (by decide) (by decide) fun w1 H3 hS3=> ?_
 simp only[RT]at hS3
 simp(disch:=omega) only[↓RA,RZ,simprocAttr,hn,g2]
 refine hS3.cF (b5X o (ho.ak hS3) w1 [(sv,rg)] (hS3.av 2 rfl (fun _=>rfl)) (by simp) (by intro p hp;rw[dH.1 hp];exact hr.ak hS3) kv ks (hk.ak hS3)) fun H4 hS4=> ?_
 have hsc:=a6t o sv rg ks
 simp(disch:=omega) only[↓RA,RB,simprocAttr,hn,hsc]
 refine iA (fun h1=> ?_) (fun h1=> ?_)
 ·simp(disch:=omega) only[↓RA,RZ,simprocAttr,hn,c4u,hsc,h1]
  exact⟨.slice none 0 0,rfl,⟨⟨.inl ⟨rfl,by rw[b2S,if_neg h1];rfl⟩,kF,by decide⟩,fun b h=>by simp[kI]at h⟩,hS4.forget⟩
 have h0:=dx.1 h1
 obtain⟨hz1,hk0⟩:=a6X h0
 obtain⟨hz3,hz4⟩:=xG hz1
 have hf:=Org.ba hz3
 have h8:ks.length≤8:=by
  have:=hf.dlen
  have:=(pB hk0).2.1
  omega
 simp(disch:=omega) only[↓RA,RC,simprocAttr,hsc,h1]
 refine Wp.aQ jW [(0,4),(1,4)] (by kernel_rfl) (by kernel_rfl) ?_
 simp(disch:=omega) only[↓RA,RZ,simprocAttr,hn,g2,hS4.ai 0 rfl,hS4.ai 1 rfl]
 refine iG ((a4g (hS4.gl hG) kv ks (hk.ak hS4) h8).tr) ?_
 rintro r H5⟨-,hT2⟩
 have hS5:=hS4.trans hT2
 simp only[RT]at hS5
 obtain⟨pv,rfl⟩:∃w,w=r:=⟨r,rfl⟩
 simp(disch:=omega) only[↓RA,RZ,simprocAttr,hn]
 have hSd:=hS5
 refine iG (a0P o (ho.ak hS5) hf rg sv (hr.ak hS5) pv (iF ks) (hS5.av 3 rfl kF) (sE hk0) (sA hk.ok hk0)) ?_
 rintro r H6⟨hx,hT3⟩
 have hS6:=hS5.trans hT3
 simp only[RT]at hS6
 obtain⟨qv,rfl⟩:∃w,w=r:=⟨r,rfl⟩
 simp(disch:=omega) only[↓RA,RZ,simprocAttr,hn,hS5.ai 0 rfl,hS5.ai 1 rfl,c4u,hx.1.bC]
 rw[h0]
 refine⟨qv,rfl,⟨?_,fun b h=> ?_⟩,hS6.forget⟩
 ·rw[b2S,if_pos h0]
  exact hx.1
 ·have:=hx.2 b h
  have:H.length≤_:=hSd.len
  omega
end Go.Ds
namespace Go.Ds
open Go.Proofs Go.Proofs.Tryz
variable {H:Heap}
set_option maxRecDepth 100000
set_option maxHeartbeats 1000000
def b2f(r:Rs)(n:Int):Bool:=match r with
 | .ok (.tuple vs) _=>(match vs.toList with
   | [.int .u64 a,.int .u64 b]=>decide (a=0)&&decide (b=n)
   | _=>false)
 | .th (.tuple vs) _=>(match vs.toList with
   | [.int .u64 a,.int .u64 b]=>decide (a=0)&&decide (b=n)
   | _=>false)
 | _=>false
theorem c3g:(qR prog [160,205,206] .e fun T=>[(25:Int)].all fun n=>b2f (lZ T (xZ prog T 4000) [] (kM 160) [.int .u64 1,.int .u64 n] gH) n)=true:=by kernel_rfl
theorem b6L{T:LT}(hT:TOk prog T){k:FuncId}{args:List Value}{n:Int}(h:b2f (lZ T (xZ prog T 4000) [] (kM k) args gH) n=true):Fn prog k args gH fun r _=>r=.tuple #[.int .u64 0,.int .u64 n]:=by
 have hv:∀(vs:Array Value),(match vs.toList with
  | [.int .u64 a,.int .u64 b]=>decide (a=0)&&decide (b=n)
  | _=>false)=true→Value.tuple vs=.tuple #[.int .u64 0,.int .u64 n]:=by
  intro vs h
  split at h
  ·rename_i a b e
   rw[cU,decide_eq_true_eq,decide_eq_true_eq]at h
   obtain⟨rfl,rfl⟩:=h
   congr 1
   exact gK e
  ·cases h
 unfold b2f at h
 split at h
 ·rename_i vs H1 e
  rw[←hv vs h]
  exact mB hT (.inl e)
 ·rename_i vs H1 e
  rw[←hv vs h]
  exact mB hT (.inr e)
 ·cases h
theorem b6Z(hG:Glob gH H):Fn prog 160 [.int .u64 1,.int .u64 25] H fun r H'=>r=.tuple #[.int .u64 0,.int .u64 25]∧St prog H H' []:=by
 obtain⟨T,hT,h⟩:=mT (ps:=[(25:Int)]) (f:=fun T n=>b2f (lZ T (xZ prog T 4000) [] (kM 160) [.int .u64 1,.int .u64 n] gH) n) c3g
 exact nZ (by simp[flat,iZ,iY]) rfl (b6L hT (h 25 (by simp))) hG
theorem rF(c z:Value):∀(m x n:Nat),x+m≤n→iX (List.replicate x c++List.replicate (n-x) z) x (List.replicate m c)=List.replicate (x+m) c++List.replicate (n-(x+m)) z:=by
 intro m x n h
 have e:List.replicate (n-x) z=List.replicate m z++List.replicate (n-(x+m)) z:=by
  rw[List.replicate_append_replicate];congr 1;omega
 have:=mZ (List.replicate m c) (List.replicate x c) (List.replicate (n-x) z) (by simp;omega)
 rw[eR]at this
 rw[this,List.replicate_append_replicate]
 congr 1
 simp
 omega
theorem b0f{H:Heap}{v:Value}{cs:List Value}(h:RdAt H v 1 cs)(h0:cs≠[]):nA v 1 0 cs.length=v:=by
 rcases h with⟨rfl,rfl⟩|⟨A,i,e,row,ty,rw,lo',ver,n,h1,h2,h3,h4,h5,h6,rfl⟩
 ·exact(h0 rfl).elim
 ·simp[nA,h6]
theorem St.cg{P:Program}{H0:Base}{os:List Ob}(hS:St P H0 H os)(i:Nat){v:Value}{cs:List Value}(ho:os[i]? =some ⟨v,1,cs⟩){x:Value}{ys:List Value}(hx:RdAt H x 1 ys)(h0:0<cs.length)(hy:0<ys.length){t:TypeId}(ht:iT P t=some 1){K:Value→Heap→Prop}
 (h:∀H1,St P H0 H1 (os.set i ⟨v,1,iX cs 0 (ys.take (min ys.length cs.length))⟩)→K (.int .i64 ((min ys.length cs.length:Nat):Int)) H1):a4M P H t v x K:=by
 have e:=b0f (hS.rd (size:=0) i ho) (by intro e;simp[e]at h0)
 have:=hS.bJ i ho hx 0 cs.length (by omega) h0 hy ht h
 rwa [e]at this
theorem b5t(hG:Glob gH H){c:Int}(v:Value)(hv:Sl 1 (one I) H v [c]):Fn prog 115 [v,I 25] H fun r H'=>St prog H H' [⟨r,1,List.replicate 25 (I c)⟩]:=by
 have h1:(([c]:List Int).length:Int)=1:=rfl
 refine .aF func115 rfl (by kernel_rfl) (m:=48) rfl fun l hn g0 g1=> ?_
 simp(disch:=omega) only[↓RA,RZ,simprocAttr,hn,g0,g1,((sR H).sl hv).len]
 refine(sR H).cF (b6Z ((sR H).gl hG)) fun H1 hS1=> ?_
 simp(disch:=omega) only[↓RA,RZ,simprocAttr,hn]
 refine hS1.bY 25 c8h (by omega) fun w H2 hS2=> ?_
 simp only[RT]at hS2
 simp(disch:=omega) only[↓RA,RB,simprocAttr,hn,g0]
 refine hS2.cg 0 rfl (hS2.sl hv).rd (by simp) (by simp[one]) c3m fun H3 hS3=> ?_
 have e1:min ([c].flatMap (one I)).length (List.replicate 25 (Value.int .i64 0)).length=1:=by simp[one]
 rw[e1]at hS3 ⊢
 have e2:=rF (I c) (.int .i64 0) 1 0 25 (by omega)
 simp only[List.replicate_zero,ff,Nat.sub_zero,fS]at e2
 have hS4:St prog H H3 [⟨w,1,List.replicate 1 (I c)++List.replicate (25-1) (.int .i64 0)⟩]:=by
  rw[←e2]
  exact hS3
 simp(disch:=omega) only[↓RA,RB,simprocAttr,hn]
 have e3:∀x:Nat,List.replicate x (I c)++List.replicate (25-x) (.int .i64 0)=(List.replicate x (c:Int)++List.replicate (25-x) 0).flatMap (one I):=fun x=>by
  rw[yC,dM,List.map_replicate,List.map_replicate]
 refine Wp.aj (fun n l H'=>l.length=48∧get l 4=(.slice none 0 0)∧∃(x:Nat),(n+x=25∧1≤x)∧get l 8=I x∧get l 7=w∧St prog H H' [⟨w,1,(List.replicate x (c:Int)++List.replicate (25-x) 0).flatMap (one I)⟩]) 24 ?_ ?_
 ·simp(disch:=omega) only[RB,RC,simprocAttr,hn]
  rw[e3]at hS4
  exact⟨1,⟨by omega,by omega⟩,rfl,hS4⟩
 rintro n l H2⟨hn,g4,x,⟨hx,hx1⟩,g8,g7,hS2⟩
 have hln:(List.replicate x (c:Int)++List.replicate (25-x) 0).length=25:=by simp;omega
 simp(disch:=omega) only[↓RA,RZ,simprocAttr,hn,g8,g7,(hS2.av 0 rfl (fun _=>rfl)).len,hln]
 refine iA (fun q1=> ?_) (fun q1=> ?_)
 ·simp(disch:=omega) only[↓RA,RC,simprocAttr,q1]
  refine Wp.drw jW (by kernel_rfl) ?_
  simp(disch:=omega) only[↓RA,RZ,simprocAttr,hn,g8,g7,(hS2.av 0 rfl (fun _=>rfl)).aR,(hS2.av 0 rfl (fun _=>rfl)).aS,hln]
  have hxt:((25:Int)-(x:Int)).toNat=25-x:=by omega
  rw[hxt]
  have hlc:((List.replicate x (c:Int)++List.replicate (25-x) 0).flatMap (one I)).length=25:=by rw[yC,dK,hln]
  have hrd:=hS2.rd 0 rfl
  have hsub:=hrd.sub 0 x (by rw[hlc];omega) (by intro e;rw[e]at hlc;simp at hlc)
  have e5:(((List.replicate x (c:Int)++List.replicate (25-x) 0).flatMap (one I)).drop (0*(0+1))).take (x*(0+1))=List.replicate x (I c):=by
   rw[←e3]
   simp[]
  rw[e5]at hsub
  refine hS2.bJ 0 rfl hsub x (25-x) (by rw[hlc];omega) (by omega) (by simp;omega) c3m fun H4 hS5=> ?_
  have e6:(List.replicate x (I c)).take (min (List.replicate x (I c)).length (25-x))=List.replicate (min x (25-x)) (I c):=by simp
  rw[e6]at hS5
  have e7:min (List.replicate x (I c)).length (25-x)=min x (25-x):=by simp
  rw[e7]
  have e8:=rF (I c) (.int .i64 0) (min x (25-x)) x 25 (by omega)
  have hS6:St prog H H4 [⟨w,1,(List.replicate (x+min x (25-x)) (c:Int)++List.replicate (25-(x+min x (25-x))) 0).flatMap (one I)⟩]:=by
   rw[←e3,←e8,e3]
   exact hS5
  simp(disch:=omega) only[↓RA,RZ,simprocAttr,hn,g4,g7]
  exact⟨25-(x+min x (25-x)),by omega,x+min x (25-x),⟨by omega,by omega⟩,by simp,hS6⟩
 simp(disch:=omega) only[↓RA,RZ,simprocAttr,hn,g7,c5D,q1]
 have e:x=25:=by omega
 subst e
 have hfin:((List.replicate 25 (c:Int)++List.replicate (25-25) 0).flatMap (one I))=List.replicate 25 (I c):=by rw[←e3];rfl
 have h9:=hS2
 rw[hfin]at h9
 exact h9
end Go.Ds
namespace Go.Ds
open Go.Proofs
variable {H:Heap}
set_option maxRecDepth 10000
set_option maxHeartbeats 1000000
section
variable (w1 w2 w3 w4 w5 w6 w7:Value)
def b0M(x:Int×Int):List (Int×Int)→List (Int×Int)
 | []=>[x]
 | y::l=>if le2 x y then x::y::l else y::b0M x l
def b0d:List (Int×Int)→List (Int×Int)
 | []=>[]
 | x::l=>b0M x (b0d l)
theorem a0z(x:Int×Int):∀l,(b0M x l).Perm (x::l)
 | []=>.refl _
 | y::l=>by
   unfold b0M
   split
   ·exact .refl _
   ·exact((a0z x l).cons y).trans (.swap ..)
theorem a3Y:∀l,(b0d l).Perm l
 | []=>.refl _
 | x::l=>(a0z x _).trans ((a3Y l).cons x)
theorem b3d(x y:Int×Int):le2 x y=false→le2 y x=true:=by
 intro h
 rw[←dX]at h
 rw[nO]at h ⊢
 omega
theorem a0Q(x:Int×Int):∀l:List (Int×Int),l.Pairwise (fun a b=>le2 a b=true)→(b0M x l).Pairwise fun a b=>le2 a b=true
 | [],_=>by simp[b0M]
 | y::l,h=>by
   have h1:=gM.1 h
   unfold b0M
   split
   ·rename_i hxy
    refine gM.2 ⟨fun z hz=> ?_,h⟩
    rcases dS.1 hz with rfl|hz
    ·exact hxy
    ·have h2:=h1.1 z hz
     rw[nO]at*
     omega
   ·rename_i hxy
    refine gM.2 ⟨fun z hz=> ?_,a0Q x l h1.2⟩
    rcases dS.1 ((a0z x l).mem_iff.1 hz)with rfl|hz
    ·exact b3d _ _ (by simpa using hxy)
    ·exact h1.1 z hz
theorem a1a:∀l:List (Int×Int),(b0d l).Pairwise fun a b=>le2 a b=true
 | []=>.nil
 | x::l=>a0Q x _ (a1a l)
theorem b8i:oS=b0d:=by
 funext l
 refine List.Perm.eq_of_pairwise (le:=fun a b=>le2 a b=true) (fun a b _ _ h1 h2=> ?_) (tB l) (a1a l) ((mU l).trans (a3Y l).symm)
 rw[nO]at h1 h2
 exact fN (by omega) (by omega)
def c2W(s:List Ct→List Ct)(o:Org)(r:Reg)(l:List Ct):List Ct:=dd (s (l.filter (fun c=> !r.off.testBit c.1.toNat)++bfs o r.cpl 1100 0 (kK o r.cpl l)))
def c2I(s:List Ct→List Ct)(rs:List Rk)(p:Stp)(key:Int):List Ct:=dd (s (((a6k p key).filter fun d=>qW rs d key).map fun d=>mG rs d key))
def c1J(s:List Ct→List Ct)(o:Org)(r:Reg)(c:Ct):List Ct:=(List.range (iB o.dvs c.1.toNat).stops.length).flatMap fun i=>if(iB r.stops c.1.toNat).testBit i then c2I s o.ranks (iB (iB o.dvs c.1.toNat).stops i) c.2 else[]
end
end Go.Ds
namespace Go.Ds
open Go.Proofs Go.Proofs.Tryz
variable {H:Heap}
set_option maxRecDepth 10000
set_option maxHeartbeats 1000000
theorem a4N(hG:Glob gH H)(s:ByteArray):Fn prog 81 [.string s] H fun r H'=>∃wv,r=.agg #[.string s,.string ⟨#[102,108,117,116,101]⟩,I 8,I 1,I 36,wv]∧St prog H H' [⟨wv,1,List.replicate 25 (I 1)⟩]:=by
 refine .aT func81 rfl (by kernel_rfl) (m:=8) rfl fun l hn g0=> ?_
 simp(disch:=omega) only[↓RA,RZ,simprocAttr]
 refine(sR H).eNew 6 [(.string ⟨#[]⟩),(.string ⟨#[]⟩),I 0,I 0,I 0,(.slice none 0 0)] rfl rfl rfl tX fun A1 H1 hS1=> ?_
 simp only[RT]at hS1
 simp(disch:=omega) only[↓RA,RB,simprocAttr,g0,qQ]
 refine hS1.ag [I 1] a2u a7y rfl rfl (by simp[Value.cells]) rfl rfl (by decide) (by decide) fun w1 H2 hS2=> ?_
 simp only[RT]at hS2
 simp(disch:=omega) only[↓RA,RZ,simprocAttr,hn]
 refine iG ((b5t (hS2.gl hG) w1 (hS2.av 1 rfl (fun _=>rfl))).tr) ?_
 rintro r H3⟨-,hT1⟩
 have hS3:=hS2.trans hT1
 simp only[RT]at hS3
 obtain⟨wv,rfl⟩:∃w,w=r:=⟨r,rfl⟩
 simp(disch:=omega) only[↓RA,RB,simprocAttr,hn,a1N (hS3.rd 2 rfl).cells]
 refine hS3.aa 0 rfl [(.string s),(.string ⟨#[102,108,117,116,101]⟩),I 8,I 1,I 36,wv] rfl (by simp[OC,(hS3.rd 2 rfl).cells.2.1]) tX (by simp) fun H4 hS4=> ?_
 simp only[RT]at hS4
 simp(disch:=omega) only[↓RA,RZ,simprocAttr,hn,c7B,hS4.ai 0 rfl]
 exact⟨wv,rfl,hS4.pick [2] (by decide) rfl⟩
theorem a4G(n feet shift:Int):Fn prog 80 [I n,I feet,I shift] H fun r H'=>∃dv gv,St prog H H' [⟨dv,2,[I n,I shift]⟩,⟨gv,3,[I 36,I 48,dv]⟩,⟨r,4,[.string ⟨#[97]⟩,I feet,I 1,gv]⟩]:=by
 refine .bk func80 rfl (by kernel_rfl) (m:=17) rfl fun l hn g0 g1 g2=> ?_
 simp(disch:=omega) only[↓RA,RB,simprocAttr,hn,g0,g1,g2,qQ,qI]
 refine(sR H).ag [I n,I shift] a4j a4q rfl rfl (by simp[Value.cells]) rfl rfl (by decide) (by decide) fun w1 H1 hS1=> ?_
 simp only[RT]at hS1
 simp(disch:=omega) only[↓RA,RB,simprocAttr,hn,lJ (hS1.rd 0 rfl).cells]
 refine hS1.ag [I 36,I 48,w1] pV wE rfl rfl (by first|(simp[];done)|simp[Value.cells]) (by first|(simp[];done)|simp[Value.cells]) (by simp[OC,(hS1.rd 0 rfl).cells.2.1]) (by decide) (by decide) fun w2 H2 hS2=> ?_
 simp only[RT]at hS2
 simp(disch:=omega) only[↓RA,RB,simprocAttr,hn,a8q (hS2.rd 1 rfl).cells]
 refine hS2.ag [(.string ⟨#[97]⟩),I feet,I 1,w2] c3M c4g rfl rfl (by first|(simp[];done)|simp[Value.cells]) (by first|(simp[];done)|simp[Value.cells]) (by simp[OC,(hS2.rd 1 rfl).cells.2.1]) (by decide) (by decide) fun w3 H3 hS3=> ?_
 simp only[RT]at hS3
 simp(disch:=omega) only[↓RA,RB,simprocAttr,hn,c8r]
 exact⟨w1,w2,hS3⟩
def exE(w1 w2:Value)(d1 g1 s1 d2 g2 s2:Value)(w3 w4 w5:Value):Org:=⟨⟨#[101]⟩,w3,[⟨⟨#[114]⟩,⟨#[102,108,117,116,101]⟩,8,1,36,w1,List.replicate 25 1⟩,⟨⟨#[115]⟩,⟨#[102,108,117,116,101]⟩,8,1,36,w2,List.replicate 25 1⟩],w4,
 [⟨⟨#[111,110,101]⟩,false,36,48,s1,[⟨⟨#[97]⟩,8,1,g1,[⟨36,48,d1,[⟨0,0⟩]⟩]⟩]⟩,⟨⟨#[116,119,111]⟩,false,36,48,s2,[⟨⟨#[97]⟩,4,1,g2,[⟨36,48,d2,[⟨1,12⟩]⟩]⟩]⟩],w5,[⟨⟨#[99]⟩,0,1,0,false⟩]⟩
theorem a6U(hG:Glob gH H):Fn prog 44 [] H fun r H'=>∃w1 w2 d1 g1 s1 d2 g2 s2 w3 w4 w5,r=.agg #[.string (exE w1 w2 d1 g1 s1 d2 g2 s2 w3 w4 w5).name,w3,w4,w5]∧(exE w1 w2 d1 g1 s1 d2 g2 s2 w3 w4 w5).In H'∧St prog H H' []:=by
 refine .cM func44 rfl (by kernel_rfl) (m:=19) rfl fun l hn=> ?_
 simp(disch:=omega) only[↓RA,RZ,simprocAttr]
 refine(sR H).eNew 4 [(.string ⟨#[]⟩),(.slice none 0 0),(.slice none 0 0),(.slice none 0 0)] rfl rfl rfl mX fun A1 H1 hS1=> ?_
 simp only[RT]at hS1
 simp(disch:=omega) only[↓RA,RZ,simprocAttr,a7Z]
 refine hS1.eNew 2 [I 0,I 0] rfl rfl rfl a1h fun A2 H2 hS2=> ?_
 simp only[RT]at hS2
 simp(disch:=omega) only[↓RA,RB,simprocAttr,hn]
 refine hS2.aa 1 rfl [I 36,I 48] rfl rfl a1h (by simp) fun H3 hS3=> ?_
 simp only[RT]at hS3
 simp(disch:=omega) only[↓RA,RB,simprocAttr]
 refine Wp.cb jW [0,1,4,5,8,9,2,3,6,7,10,11,12,13,14,15] [0,1,6,7,2,3,8,9,4,5,10,11,12,13,14,15] ⟨true,[36],[]⟩ [(7,0),(7,1),(7,2),(7,4),(7,6),(9,0),(9,1),(9,2),(9,4),(9,6)] (by kernel_rfl) (by kernel_rfl) (by kernel_rfl) ?_
 simp(disch:=omega) only[↓RA,RZ,simprocAttr]
 refine iG (a4N (hS3.gl hG) _) ?_
 rintro r H4⟨wv1,rfl,hT1⟩
 have hS4:=hS3.trans hT1
 simp only[RT]at hS4
 simp(disch:=omega) only[↓RA,RZ,simprocAttr]
 refine iG (a4N (hS4.gl hG) _) ?_
 rintro r H5⟨wv2,rfl,hT2⟩
 have hS5:=hS4.trans hT2
 simp only[RT]at hS5
 simp(disch:=omega) only[↓RA,RZ,simprocAttr,hn]
 refine iG (a4G 0 8 0) ?_
 rintro r H6⟨d1,g1,hT3⟩
 have hS6:=hS5.trans hT3
 simp only[RT]at hS6
 obtain⟨s1,rfl⟩:∃w,w=r:=⟨r,rfl⟩
 simp(disch:=omega) only[↓RA,RZ,simprocAttr,hn]
 refine iG (a4G 1 4 12) ?_
 rintro r H7⟨d2,g2,hT4⟩
 have hS7:=hS6.trans hT4
 simp only[RT]at hS7
 obtain⟨s2,rfl⟩:∃w,w=r:=⟨r,rfl⟩
 simp(disch:=omega) only[↓RA,RB,simprocAttr,hn]
 refine hS7.ag [(.string ⟨#[114]⟩),(.string ⟨#[102,108,117,116,101]⟩),I 8,I 1,I 36,wv1,(.string ⟨#[115]⟩),(.string ⟨#[102,108,117,116,101]⟩),I 8,I 1,I 36,wv2] c1W c6p rfl rfl (by first|(simp[];done)|simp[Value.cells]) (by first|(simp[];done)|simp[Value.cells]) (by simp[OC,(hS7.rd 2 rfl).cells.2.1,(hS7.rd 3 rfl).cells.2.1]) (by decide) (by decide) fun w1 H8 hS8=> ?_
 simp only[RT]at hS8
 simp(disch:=omega) only[↓RA,RZ,simprocAttr,hn,hS8.ai 1 rfl,a1W (hS8.rd 6 rfl).cells,a1W (hS8.rd 9 rfl).cells]
 refine hS8.ag [(.string ⟨#[111,110,101]⟩),(.bool false),I 36,I 48,s1,(.string ⟨#[116,119,111]⟩),(.bool false),I 36,I 48,s2] c2x c5f rfl rfl (by first|(simp[];done)|simp[Value.cells]) (by first|(simp[];done)|simp[Value.cells]) (by simp[OC,(hS8.rd 6 rfl).cells.2.1,(hS8.rd 9 rfl).cells.2.1]) (by decide) (by decide) fun w2 H9 hS9=> ?_
 simp only[RT]at hS9
 simp(disch:=omega) only[↓RA,RB,simprocAttr,hn,a7m]
 refine hS9.ag [(.string ⟨#[99]⟩),I 0,I 1,I 0,(.bool false)] b0J b8W rfl rfl (by simp[Value.cells]) rfl rfl (by decide) (by decide) fun w3 H10 hS10=> ?_
 simp only[RT]at hS10
 simp(disch:=omega) only[↓RA,RB,simprocAttr,hn,a5w (hS10.rd 10 rfl).cells (hS10.rd 11 rfl).cells (hS10.rd 12 rfl).cells]
 refine hS10.aa 0 rfl [(.string ⟨#[101]⟩),w1,w2,w3] rfl (by simp[OC,(hS10.rd 10 rfl).cells.2.1,(hS10.rd 11 rfl).cells.2.1,(hS10.rd 12 rfl).cells.2.1]) mX (by simp) fun H11 hS11=> ?_
 simp only[RT]at hS11
 simp(disch:=omega) only[↓RA,RZ,simprocAttr,hn,hS3.ai 1 rfl,hS4.ai 1 rfl,hS5.ai 1 rfl,hS6.ai 1 rfl,hS7.ai 1 rfl,c7y,hS11.ai 0 rfl]
 have h1:Sl 1 (one I) H11 wv1 (List.replicate 25 1):=hS11.av 2 rfl (fun _=>rfl)
 have h2:Sl 1 (one I) H11 wv2 (List.replicate 25 1):=hS11.av 3 rfl (fun _=>rfl)
 have h3:Sl 2 Drw.cells H11 d1 [⟨0,0⟩]:=hS11.av 4 rfl (fun _=>rfl)
 have h4:Sl 3 Seg.cells H11 g1 [⟨36,48,d1,[⟨0,0⟩]⟩]:=hS11.av 5 rfl (fun _=>rfl)
 have h5:Sl 4 Stp.cells H11 s1 [⟨⟨#[97]⟩,8,1,g1,[⟨36,48,d1,[⟨0,0⟩]⟩]⟩]:=hS11.av 6 rfl (fun _=>rfl)
 have h6:Sl 2 Drw.cells H11 d2 [⟨1,12⟩]:=hS11.av 7 rfl (fun _=>rfl)
 have h7:Sl 3 Seg.cells H11 g2 [⟨36,48,d2,[⟨1,12⟩]⟩]:=hS11.av 8 rfl (fun _=>rfl)
 have h8:Sl 4 Stp.cells H11 s2 [⟨⟨#[97]⟩,4,1,g2,[⟨36,48,d2,[⟨1,12⟩]⟩]⟩]:=hS11.av 9 rfl (fun _=>rfl)
 have h9:Sl 6 Rk.cells H11 w1 (exE wv1 wv2 d1 g1 s1 d2 g2 s2 w1 w2 w3).ranks:=hS11.av 10 rfl (fun _=>rfl)
 have h10:Sl 5 Dvn.cells H11 w2 (exE wv1 wv2 d1 g1 s1 d2 g2 s2 w1 w2 w3).dvs:=hS11.av 11 rfl (fun _=>rfl)
 have h11:Sl 5 Cpl.cells H11 w3 (exE wv1 wv2 d1 g1 s1 d2 g2 s2 w1 w2 w3).cpls:=hS11.av 12 rfl (fun _=>rfl)
 refine⟨wv1,wv2,d1,g1,s1,d2,g2,s2,w1,w2,w3,rfl,⟨h9,?_,h10,?_,h11,by simp[exE],by simp[exE],by simp[exE]⟩,hS11.forget⟩
 ·intro r hr
  simp only[exE,dS,dV,or_false]at hr
  rcases hr with rfl|rfl
  ·exact⟨h1,by simp⟩
  ·exact⟨h2,by simp⟩
 ·intro d hd
  simp only[exE,dS,dV,or_false]at hd
  rcases hd with rfl|rfl
  ·exact⟨h5,fun s hs=>by rw[dH.1 hs];exact⟨h4,fun g hg=>by rw[dH.1 hg];exact⟨h3,by simp⟩,by simp⟩,by simp⟩
  ·exact⟨h8,fun s hs=>by rw[dH.1 hs];exact⟨h7,fun g hg=>by rw[dH.1 hg];exact⟨h6,by simp⟩,by simp⟩,by simp⟩
section
variable (w1 w2 d1 g1 s1 d2 g2 s2 w3 w4 w5:Value)
theorem b8N(off:Nat)(h:off<2):rB (exE w1 w2 d1 g1 s1 d2 g2 s2 w3 w4 w5) ⟨[1,1],1,off⟩=0:=by
 rcases(by omega:off=0∨off=1)with rfl|rfl
 ·kernel_rfl
 ·kernel_rfl
theorem b6V:oT (exE w1 w2 d1 g1 s1 d2 g2 s2 w3 w4 w5) [jH [40],(0,0)]=0:=by kernel_rfl
theorem b9l:kG (exE w1 w2 d1 g1 s1 d2 g2 s2 w3 w4 w5) ⟨[1,1],1,0⟩ (iF [jH [40],(0,0)])=[(0,40),(1,40)]:=by
 unfold kG
 rw[b8i]
 kernel_rfl
end
theorem b9L(v:Value)(k:FuncId):Fn prog 99 [v,I 0,I 1,.func (.func k) #[] #[]] H fun r H'=>r=.tuple #[]∧St prog H H' []:=by
 refine .cG func99 rfl (by kernel_rfl) (m:=53) rfl fun l hn g0 g1 g2 g3=> ?_
 simp(disch:=omega) only[↓RA,RB,simprocAttr,hn,g1]
 refine Wp.aj (fun n l H'=>l.length=53∧get l 8=I 1∧get l 2=I 1∧St prog H H' []) 1 ?_ ?_
 ·simp(disch:=omega) only[RB,RC,simprocAttr,hn,g2]
  exact(sR H)
 rintro n l H9⟨hn,g8,g2,hS9⟩
 simp(disch:=omega) only[↓RA,RZ,simprocAttr,hn,g8,g2,c6O]
 first|exact hS9|exact⟨rfl,hS9⟩
theorem a9K(v:Value)(k:FuncId):Fn prog 59 [v,I 1,.func (.func k) #[] #[]] H fun r H'=>r=.tuple #[]∧St prog H H' []:=by
 refine .bk func59 rfl (by kernel_rfl) (m:=63) rfl fun l hn g0 g1 g2=> ?_
 simp(disch:=omega) only[↓RA,RB,simprocAttr,hn]
 refine Wp.aj (fun n l H'=>l.length=63∧get l 0=v∧get l 1=I 1∧get l 2=.func (.func k) #[] #[]∧get l 6=I 20∧get l 7=I 0∧get l 8=I 20∧St prog H H' []) 1 ?_ ?_
 ·simp(disch:=omega) only[RB,RC,simprocAttr,hn,g0,g1,g2]
  exact(sR H)
 rintro n l H9⟨hn,g0,g1,g2,g6,g7,g8,hS9⟩
 simp(disch:=omega) only[↓RA,RZ,simprocAttr,hn,g0,g1,g2,g7,g8]
 refine(sR H9).cF (b9L v k) fun H1 hS1=> ?_
 simp(disch:=omega) only[↓RA,simprocAttr]
 have hS8:=hS9.trans hS1
 refine Wp.aj (fun n l H'=>l.length=63∧get l 1=I 1∧get l 6=I 20∧St prog H H' []) 1 ?_ ?_
 ·simp(disch:=omega) only[RB,RC,simprocAttr,hn,g1,g6]
  exact hS8
 rintro n l H7⟨hn,g1,g6,hS7⟩
 simp(disch:=omega) only[↓RA,RZ,simprocAttr,hn,g1,g6,c4S]
 first|exact hS7|exact⟨rfl,hS7⟩
def jS(x:Ct×Int):List Value:=[I x.1.1,I x.1.2,I x.2]
theorem a8r(v:Value)(x:Ct×Int)(hv:Sl 3 jS H v [x])(k:FuncId):Fn prog 23 [v,.func (.func k) #[] #[]] H fun r H'=>r=.tuple #[]∧St prog H H' []:=by
 have h1:(([x]:List (Ct×Int)).length:Int)=1:=rfl
 refine .aF func23 rfl (by kernel_rfl) (m:=9) rfl fun l hn g0 g1=> ?_
 simp(disch:=omega) only[↓RA,RZ,simprocAttr,hn,g0,g1,((sR H).sl hv).len]
 refine(sR H).cF (a9K v k) fun H1 hS1=> ?_
 simp(disch:=omega) only[↓RA,RZ,simprocAttr,c6h]
 first|exact hS1|exact⟨rfl,hS1⟩
theorem b4s(hG:Glob gH H):Fn prog 50 [.agg #[I 8,I 1],.agg #[I 8,I 1]] H fun r H'=>r=.tuple #[I 0,I 0]∧St prog H H' []:=by
 have h:=a1R hG (a:=(8,1)) (b:=(8,1)) (by simp[kY]) (by simp[lA])
 rw[show zV (8,1) (8,1)=0 from by kernel_rfl]at h
 exact h.mono fun _ _ h=>⟨h.1.1,h.2⟩
def a7U(o:Org)(p:Ct):Ct×Int:=(p,(iB o.ranks p.1.toNat).first+p.2+0)
theorem a9h(hG:Glob gH H)(o:Org)(ho:o.In H)(rg:Reg)(sv:Value)(hr:rg.In H sv)(kv:Value)(ks:List Nt)(hk:Ks H kv ks)(h0:rkE o rg ks=0)(i m:Nat)(hsp:a0v o rg ks=[((i:Int),(m:Int))])(hi:i<o.ranks.length)(hm:m<1000)
 (hf:(iB o.ranks i).num=8∧(iB o.ranks i).den=1∧-1000≤(iB o.ranks i).first∧(iB o.ranks i).first≤1000):
 Fn prog 19 [.agg #[.string o.name,o.rv,o.dv,o.cv],.agg #[sv,.int .u64 rg.cpl,.int .u64 rg.off],kv] H fun r H'=>∃hv,r=.tuple #[hv,I 0]∧St prog H H' [⟨hv,3,jS (a7U o ((i:Int),(m:Int)))⟩]:=by
 obtain⟨f1,f2,f3,f4⟩:=hf
 refine .bk func19 rfl (by kernel_rfl) (m:=61) rfl fun l hn g0 g1 g2=> ?_
 simp(disch:=omega) only[↓RA,RB,simprocAttr,g0]
 refine(sR H).eNew 4 [(.string o.name),o.rv,o.dv,o.cv] rfl rfl (by simp[OC,((sR H).sl ho.1).cells.2.1,((sR H).sl ho.2.2.1).cells.2.1,((sR H).sl ho.2.2.2.2.1).cells.2.1]) mX fun A1 H1 hS1=> ?_
 simp only[RT]at hS1
 simp(disch:=omega) only[↓RA,RB,simprocAttr,g1]
 refine hS1.eNew 3 [sv,(.int .u64 rg.cpl),(.int .u64 rg.off)] rfl rfl (by simp[OC,(hS1.sl hr.1).cells.2.1]) qV fun A2 H2 hS2=> ?_
 simp only[RT]at hS2
 simp(disch:=omega) only[↓RA,RZ,simprocAttr,hn,g2,hS2.ai 0 rfl,hS2.ai 1 rfl]
 refine iG (rM (hS2.gl hG) o (ho.ak hS2) rg sv (hr.ak hS2) kv ks (hk.ak hS2)) ?_
 rintro r H3⟨pv,rfl,hx,hT1⟩
 have hS3:=hS2.trans hT1
 simp only[RT]at hS3
 rw[h0]
 rw[hsp]at hx
 have hl1:(([((i:Int),(m:Int))]:List Ct).length:Int)=1:=rfl
 have hS0:=hS3
 have ho2:=ho.ak hS0
 have hG2:=hS0.gl hG
 simp(disch:=omega) only[↓RA,RZ,simprocAttr,hn,((sR H3).sl hx.1).len]
 have hS4:=(sR H3).nil 2
 simp only[RT]at hS4
 refine Wp.aj (fun n l H'=>l.length=61∧get l 3=(ptr A1 0 4)∧get l 6=(.slice none 0 0)∧get l 7=I 0∧get l 26=pv∧∃(j:Nat)(ov:Value),(n+j=1)∧get l 28=I j∧get l 10=ov∧get l 27=I 1∧St prog H3 H' [⟨ov,3,([a7U o ((i:Int),(m:Int))].take j).flatMap jS⟩]) 1 ?_ ?_
 ·simp(disch:=omega) only[RB,RC,simprocAttr,hn]
  exact⟨0,.slice none 0 0,by omega,rfl,rfl,hS4⟩
 rintro n l H4⟨hn,g3,g6,g7,g26,j,ov,hj,g28,nH,g27,hS5⟩
 simp(disch:=omega) only[↓RA,RB,simprocAttr,hn,g28,g27]
 refine iA (fun q1=> ?_) (fun q1=> ?_)
 ·have hj0:j=0:=by omega
  have hn0:iB ([((i:Int),(m:Int))]:List Ct) j=((i:Int),(m:Int)):=by rw[hj0];rfl
  simp(disch:=omega) only[↓RA,RZ,simprocAttr,hn,g26,g28,(hS5.sl hx.1).idx,(hS5.sl hx.1).ai,jV,q1,hn0]
  refine hS5.eNew 2 [I 0,I 0] rfl rfl rfl rQ fun A3 H5 hS6=> ?_
  simp only[RT]at hS6
  simp(disch:=omega) only[↓RA,RZ,simprocAttr,hn,q1]
  refine hS6.aa 1 rfl [I i,I m] rfl rfl rQ (by simp) fun H6 hS7=> ?_
  simp only[RT]at hS7
  simp(disch:=omega) only[↓RA,RZ,simprocAttr,hn,g3,((hS0.var 0 rfl).ak hS7.ak).ld,hS7.ld 1 rfl,(hS7.sl ho2.1).idx,(hS7.sl ho2.1).ai,Rk.cells,q1]
  refine hS7.eNew 6 [(.string ⟨#[]⟩),(.string ⟨#[]⟩),I 0,I 0,I 0,(.slice none 0 0)] rfl rfl rfl tX fun A4 H7 hS8=> ?_
  simp only[RT]at hS8
  simp(disch:=omega) only[↓RA,RZ,simprocAttr,hn,q1]
  refine hS8.aa 2 rfl [(.string (iB o.ranks i).name),(.string (iB o.ranks i).tone),I (iB o.ranks i).num,I (iB o.ranks i).den,I (iB o.ranks i).first,(iB o.ranks i).wv] rfl (by simp[OC,(hS8.sl (ho2.2.1 (iB o.ranks i) (iD (by omega))).1).cells.2.1]) tX (by simp) fun H8 hS9=> ?_
  simp only[RT]at hS9
  simp(disch:=omega) only[↓RA,RZ,simprocAttr,hn,hS9.ai 2 rfl,qQ,q1]
  rw[f1,f2]
  refine hS9.cF (b4s (hS9.gl hG2)) fun H9 hS10=> ?_
  simp(disch:=omega) only[↓RA,RZ,simprocAttr,hn,nH,hS10.ai 1 rfl,hS10.ld 2 rfl,hS10.ld 1 rfl,zU,q1]
  refine hS10.ag [I i,I m,_] b1g b8D rfl rfl (by simp[Value.cells]) rfl rfl (by decide) (by decide) fun w1 H10 hS11=> ?_
  simp only[RT]at hS11
  simp(disch:=omega) only[↓RA,RZ,simprocAttr,hn,q1]
  refine hS11.aq 0 rfl (hS11.rd 3 rfl) b1g (by rw[hj0];simp) fun w2 H11 hS12=> ?_
  simp only[RT]at hS12
  simp(disch:=omega) only[↓RA,RZ,simprocAttr,hn,g3,g6,g7,g26,g28,g27,q1]
  refine⟨0,by omega,1,w2,by omega,by rw[hj0];rfl,rfl,?_⟩
  have h9:=hS12.pick (os':=[⟨w2,3,_⟩]) [0] (by decide) rfl
  rw[hj0]at h9
  exact h9
 have hj1:j=1:=by omega
 simp(disch:=omega) only[↓RA,RZ,simprocAttr,hn,nH,q1]
 have hnt:=(hS5.av (cel:=jS) (xs:=[a7U o ((i:Int),(m:Int))].take j) 0 rfl (fun _=>rfl)).bC
 refine hS5.cF (a8r ov (a7U o ((i:Int),(m:Int))) (by have h:=hS5.av (cel:=jS) (xs:=[a7U o ((i:Int),(m:Int))].take j) 0 rfl (fun _=>rfl);rw[hj1]at h;exact h) 51) fun H12 hS13=> ?_
 simp(disch:=omega) only[↓RA,RZ,simprocAttr,hn,nH,c5q,q1,hnt]
 refine⟨ov,rfl,?_⟩
 have hfin:=hS13
 rw[hj1]at hfin
 exact hS0.forget.trans hfin
def swp{α:Type}[Inhabited α](xs:List α)(i j:Nat):List α:=(xs.set i (iB xs j)).set j (iB xs i)
theorem pF{α:Type}[Inhabited α](xs:List α)(i j:Nat):(swp xs i j).length=xs.length:=by unfold swp;rw[eH,eH]
def zY{α:Type}[Inhabited α](xs:List α)(a b:Nat):Nat→List α
 | 0=>xs
 | n+1=>swp (zY xs a b n) (a+n) (b+n)
theorem oK{α:Type}[Inhabited α](xs:List α)(a b:Nat):∀n,(zY xs a b n).length=xs.length
 | 0=>rfl
 | n+1=>by rw[zY,pF,oK xs a b n]
theorem rL(xs:List ((Int×Int)×Int))(i:Nat)(y:(Int×Int)×Int)(hi:i<xs.length):
 (((xs.flatMap jS).set (i*(2+1)) (I y.1.1)).set (i*(2+1)+1) (I y.1.2)).set (i*(2+1)+1+1) (I y.2)=(xs.set i y).flatMap jS:=by
 rw[←rI ((((_:List Value).set (i*(2+1)) _).set (i*(2+1)+1) _).set (i*(2+1)+1+1) _) (i*(2+1)+1+1+1),←lG,←lG,←lG]
 exact a4C (n:=3) (cel:=jS) (fun _=>rfl) xs i 0 [_,_,_] y hi (by simp) rfl
theorem b0O{B:Base}{v:Value}{xs:List ((Int×Int)×Int)}(hS:St prog B H [⟨v,3,xs.flatMap jS⟩])(hl:xs.length<100000)(a b m:Nat)(ha:a+m≤xs.length)(hb:b+m≤xs.length)(k:FuncId)(caps:List Value):
 Fn prog 198 [v,I a,I b,I m,.func (.func k) #[] caps.toArray] H fun r H'=>r=.tuple #[]∧St prog B H' [⟨v,3,(zY xs a b m).flatMap jS⟩]:=by
 refine .cD func198 rfl (by kernel_rfl) (m:=38) rfl fun l hn g0 g1 g2 g3 g4=> ?_
 simp(disch:=omega) only[↓RA,RB,simprocAttr]
 refine Wp.aj (fun n l H'=>l.length=38∧get l 1=I a∧get l 2=I b∧get l 3=I m∧∃(i:Nat),(n+i=m)∧get l 10=I i∧get l 0=v∧St prog B H' [⟨v,3,(zY xs a b i).flatMap jS⟩]) m ?_ ?_
 ·simp(disch:=omega) only[RB,RC,simprocAttr,hn,g0,g1,g2,g3]
  exact⟨0,by omega,rfl,hS⟩
 rintro n l H1⟨hn,g1,g2,g3,i,hi,nH,g0,hS1⟩
 have hlr:=oK xs a b i
 have hlc:((zY xs a b i).flatMap jS).length=(zY xs a b i).length*3:=iL (n:=3) (cel:=jS) (fun _=>rfl) _
 simp(disch:=omega) only[↓RA,RB,simprocAttr,hn,g3,nH]
 refine iA (fun q=> ?_) (fun q=> ?_)
 ·have e1:=rL (zY xs a b i) (a+i) (iB (zY xs a b i) (b+i)) (by omega)
  have e2:=rL ((zY xs a b i).set (a+i) (iB (zY xs a b i) (b+i))) (b+i) (iB (zY xs a b i) (a+i)) (by rw[eH];omega)
  have hls:((zY xs a b i).set (a+i) (iB (zY xs a b i) (b+i))).length=xs.length:=by rw[eH];exact hlr
  have hlc2:(((zY xs a b i).set (a+i) (iB (zY xs a b i) (b+i))).flatMap jS).length=((zY xs a b i).set (a+i) (iB (zY xs a b i) (b+i))).length*3:=iL (n:=3) (cel:=jS) (fun _=>rfl) _
  have j1:(a:Int)+(i:Int)=((a+i:Nat):Int):=(Int.natCast_add a i).symm
  have j2:(b:Int)+(i:Int)=((b+i:Nat):Int):=(Int.natCast_add b i).symm
  simp(disch:=omega) only[↓RA,RC,simprocAttr,q]
  refine Wp.drw jW (by kernel_rfl) ?_
  simp(disch:=omega) only[↓RA,RZ,simprocAttr,hn,g1,g2,nH,g0,(hS1.av 0 rfl (fun _=>rfl)).idx,(hS1.av 0 rfl (fun _=>rfl)).ai,jS,j1,j2]
  refine hS1.aE 0 rfl [_,_,_] rfl rfl zX (by simp) (by rw[hlc];simp only[dC,dW];omega) fun H2 hS2=> ?_
  simp only[RT]at hS2
  simp(disch:=omega) only[↓RA,RZ,simprocAttr,hn]
  rw[e1]at hS2
  simp(disch:=omega) only[↓RA,RZ,simprocAttr,hn,(hS2.av 0 rfl (fun _=>rfl)).idx]
  refine hS2.aE 0 rfl [_,_,_] rfl rfl zX (by simp) (by rw[hlc2];simp only[dC,dW];omega) fun H3 hS3=> ?_
  simp only[RT]at hS3
  simp(disch:=omega) only[↓RA,RZ,simprocAttr,hn,g1,g2,g3,nH,g0]
  rw[e2]at hS3
  exact⟨n-1,by omega,i+1,by omega,by simp,hS3⟩
 simp(disch:=omega) only[↓RA,RZ,simprocAttr,c5A,q]
 have e:i=m:=by omega
 rw[←e]
 exact hS1
def xM{α:Type}[Inhabited α]:Nat→List α→Nat→Nat→Nat→List α
 | 0,xs,_,_,_=>xs
 | n+1,xs,m,i,j=>if i=j then zY xs (m-i) m i else if j<i then xM n (zY xs (m-i) m j) m (i-j) j else xM n (zY xs (m-i) (m+j-i) i) m i (j-i)
theorem b3Q{α:Type}[Inhabited α]{n:Nat}(h:0<n)(xs:List α)(m i j:Nat):xM n xs m i j=if i=j then zY xs (m-i) m i else if j<i then xM (n-1) (zY xs (m-i) m j) m (i-j) j else xM (n-1) (zY xs (m-i) (m+j-i) i) m i (j-i):=by
 cases n with
 | zero=>omega
 | succ n=>rfl
theorem c3W{B:Base}{v:Value}{xs:List ((Int×Int)×Int)}(hS:St prog B H [⟨v,3,xs.flatMap jS⟩])(hl:xs.length<100000)(a m b:Nat)(ha:a<m)(hm:m<b)(hb:b≤xs.length)(k:FuncId)(caps:List Value):
 Fn prog 151 [v,I a,I m,I b,.func (.func k) #[] caps.toArray] H fun r H'=>r=.tuple #[]∧St prog B H' [⟨v,3,(xM (b-a) xs m (m-a) (b-m)).flatMap jS⟩]:=by
 have j1:(m:Int)-(a:Int)=((m-a:Nat):Int):=by omega
 have j2:(b:Int)-(m:Int)=((b-m:Nat):Int):=by omega
 refine .cD func151 rfl (by kernel_rfl) (m:=58) rfl fun l hn g0 g1 g2 g3 g4=> ?_
 simp(disch:=omega) only[↓RA,RB,simprocAttr,hn,g1,g2,g3,j1,j2]
 refine Wp.aj (fun n l H'=>l.length=58∧get l 2=I m∧get l 4=.func (.func k) #[] caps.toArray∧∃(ys:List ((Int×Int)×Int))(i:Nat)(j:Nat),(0<i∧0<j∧i≤m∧m+j≤xs.length∧i+j≤n∧ys.length=xs.length∧xM n ys m i j=xM (b-a) xs m (m-a) (b-m))∧get l 10=I i∧get l 11=I j∧get l 0=v∧St prog B H' [⟨v,3,ys.flatMap jS⟩]) (b-a) ?_ ?_
 ·simp(disch:=omega) only[RB,RC,simprocAttr,hn,g0,g2,g4]
  exact⟨xs,m-a,b-m,⟨by omega,by omega,by omega,by omega,by omega,rfl,rfl⟩,rfl,rfl,hS⟩
 rintro n l H1⟨hn,g2,g4,ys,i,j,⟨c1,c2,c3,c4,c5,c6,c7⟩,nH,g11,g0,hS1⟩
 rw[b3Q (by omega)]at c7
 have j3:(m:Int)-(i:Int)=((m-i:Nat):Int):=by omega
 simp(disch:=omega) only[↓RA,RB,simprocAttr,hn,nH,g11]
 refine iA (fun q=> ?_) (fun q=> ?_)
 ·rw[if_neg (by omega)]at c7
  simp(disch:=omega) only[↓RA,RZ,simprocAttr,hn,nH,g11,q]
  refine iA (fun q2=> ?_) (fun q2=> ?_)
  ·rw[if_pos (by omega)]at c7
   have j4:(i:Int)-(j:Int)=((i-j:Nat):Int):=by omega
   simp(disch:=omega) only[↓RA,RZ,simprocAttr,hn,g2,g4,nH,g11,g0,q,q2,j3]
   have hM1:=hS1.pick (os':=[⟨v,3,_⟩]) [0] (by decide) rfl
   have hR1:=hS1.pick (os':=[⟨v,3,_⟩]) [0] (by decide) rfl
   refine iG (b0O hM1.ay (by omega) (m-i) m j (by omega) (by omega) k caps) ?_
   rintro r H2⟨rfl,hT1⟩
   have hS2:=hR1.frame hT1
   simp only[RT]at hS2
   simp(disch:=omega) only[↓RA,RZ,simprocAttr,hn,g2,g4,nH,g11,g0,q,q2,j4]
   exact⟨n-1,by omega,zY ys (m-i) m j,i-j,j,⟨by omega,by omega,by omega,by omega,by omega,by rw[oK];exact c6,c7⟩,rfl,rfl,hS2⟩
  rw[if_neg (by omega)]at c7
  have j4:(j:Int)-(i:Int)=((j-i:Nat):Int):=by omega
  have j5:(m:Int)+(j:Int)-(i:Int)=((m+j-i:Nat):Int):=by omega
  simp(disch:=omega) only[↓RA,RZ,simprocAttr,hn,g2,g4,nH,g11,g0,q,q2,j3,j5]
  have hM2:=hS1.pick (os':=[⟨v,3,_⟩]) [0] (by decide) rfl
  have hR2:=hS1.pick (os':=[⟨v,3,_⟩]) [0] (by decide) rfl
  refine iG (b0O hM2.ay (by omega) (m-i) (m+j-i) i (by omega) (by omega) k caps) ?_
  rintro r H3⟨rfl,hT2⟩
  have hS3:=hR2.frame hT2
  simp only[RT]at hS3
  simp(disch:=omega) only[↓RA,RZ,simprocAttr,hn,g2,g4,nH,g11,g0,q,q2,j4]
  exact⟨n-1,by omega,zY ys (m-i) (m+j-i) i,i,j-i,⟨by omega,by omega,by omega,by omega,by omega,by rw[oK];exact c6,c7⟩,rfl,rfl,hS3⟩
 rw[if_pos (by omega)]at c7
 simp(disch:=omega) only[↓RA,RZ,simprocAttr,hn,g2,g4,nH,g0,q,j3]
 have hM3:=hS1.pick (os':=[⟨v,3,_⟩]) [0] (by decide) rfl
 have hR3:=hS1.pick (os':=[⟨v,3,_⟩]) [0] (by decide) rfl
 refine iG (b0O hM3.ay (by omega) (m-i) m i (by omega) (by omega) k caps) ?_
 rintro r H4⟨rfl,hT3⟩
 have hS4:=hR3.frame hT3
 simp only[RT]at hS4
 simp(disch:=omega) only[↓RA,RZ,simprocAttr,c5B,q]
 rw[←c7]
 exact hS4
abbrev Hr:=(Int×Int)×Int
theorem zI{α:Type}[Inhabited α]{xs:List α}{i j:Nat}(hi:i<xs.length)(hj:j<xs.length){x:α}(h:x∈swp xs i j):x∈xs:=by
 unfold swp at h
 rcases List.mem_or_eq_of_mem_set h with h|rfl
 ·rcases List.mem_or_eq_of_mem_set h with h|rfl
  ·exact h
  ·exact iD hj
 ·exact iD hi
def zW{α:Type}[Inhabited α](lt:α→α→Bool)(a:Nat):Nat→List α→List α
 | 0,xs=>xs
 | j+1,xs=>if a<j+1∧lt (iB xs (j+1)) (iB xs j)=true then zW lt a j (swp xs (j+1) j)else xs
def a1f{α:Type}[Inhabited α](lt:α→α→Bool)(a:Nat):Nat→Nat→List α→List α
 | 0,_,xs=>xs
 | n+1,i,xs=>a1f lt a n (i+1) (zW lt a i xs)
theorem a1S{α:Type}[Inhabited α](lt:α→α→Bool)(a:Nat):∀(j:Nat)(xs:List α),(zW lt a j xs).length=xs.length
 | 0,_=>rfl
 | j+1,xs=>by
   rw[zW]
   split
   ·rw[a1S lt a j,pF]
   ·rfl
theorem a7o{α:Type}[Inhabited α](lt:α→α→Bool)(a:Nat):∀(j:Nat)(xs:List α),j<xs.length→∀x∈zW lt a j xs,x∈xs
 | 0,_,_,_,h=>h
 | j+1,xs,hj,x,h=>by
   rw[zW]at h
   split at h
   ·exact zI (by omega) (by omega) (a7o lt a j _ (by rw[pF];omega) x h)
   ·exact h
theorem b2E{α:Type}[Inhabited α](lt:α→α→Bool)(a j:Nat)(h:0<j)(xs:List α):zW lt a j xs=if a<j∧lt (iB xs j) (iB xs (j-1))=true then zW lt a (j-1) (swp xs j (j-1))else xs:=by
 cases j with
 | zero=>omega
 | succ j=>rfl
theorem a3K{α:Type}[Inhabited α](lt:α→α→Bool)(a n i:Nat)(h:0<n)(xs:List α):a1f lt a n i xs=a1f lt a (n-1) (i+1) (zW lt a i xs):=by
 cases n with
 | zero=>omega
 | succ n=>rfl
structure CmpK(B:Base)(k:FuncId)(caps:List Value)(Q:Hr→Prop)(lt:Hr→Hr→Bool):Prop where
 ok:∃cf:Hr→Hr→Int,(∀x y,Q x→Q y→(cf x y<0↔lt x y=true))∧∀x y,Q x→Q y→∀{H1:Heap}{os:List Ob},St prog B H1 os→Fn prog k (.agg #[I x.1.1,I x.1.2,I x.2]::.agg #[I y.1.1,I y.1.2,I y.2]::caps) H1 fun r H2=>r=I (cf x y)∧St prog H1 H2 []
theorem b6z{B:Base}{v:Value}{xs:List Hr}(hS:St prog B H [⟨v,3,xs.flatMap jS⟩])(hl:xs.length<100000)(a b:Nat)(hab:a≤b)(hb:b≤xs.length)(k:FuncId)(caps:List Value){Q:Hr→Prop}{lt:Hr→Hr→Bool}(hk:CmpK B k caps Q lt)(hQ:∀x∈xs,Q x):
 Fn prog 99 [v,I a,I b,.func (.func k) #[] caps.toArray] H fun r H'=>r=.tuple #[]∧St prog B H' [⟨v,3,(a1f lt a (b-(a+1)) (a+1) xs).flatMap jS⟩]:=by
 obtain⟨cf,hcl,hcf⟩:=hk.ok
 refine .cG func99 rfl (by kernel_rfl) (m:=53) rfl fun l hn g0 g1 g2 g3=> ?_
 simp(disch:=omega) only[↓RA,RB,simprocAttr,hn,g1]
 refine Wp.aj (fun n l H'=>l.length=53∧get l 1=I a∧get l 2=I b∧get l 3=.func (.func k) #[] caps.toArray∧∃(ys:List Hr)(i:Nat),(n=b-i∧a+1≤i∧ys.length=xs.length∧(∀x∈ys,Q x)∧a1f lt a n i ys=a1f lt a (b-(a+1)) (a+1) xs)∧get l 8=I i∧get l 0=v∧St prog B H' [⟨v,3,ys.flatMap jS⟩]) (b-(a+1)) ?_ ?_
 ·simp(disch:=omega) only[RB,RC,simprocAttr,hn,g0,g1,g2,g3]
  exact⟨xs,a+1,⟨rfl,by omega,rfl,hQ,rfl⟩,by simp,hS⟩
 rintro n l H1⟨hn,g1,g2,g3,ys,i,⟨c1,c2,c3,c4,c5⟩,g8,g0,hS1⟩
 simp(disch:=omega) only[↓RA,RB,simprocAttr,hn,g2,g8]
 refine iA (fun q=> ?_) (fun q=> ?_)
 ·obtain⟨n0,hn0⟩:∃n0,n0=n:=⟨_,rfl⟩
  rw[←hn0]at c1 c5
  simp(disch:=omega) only[↓RA,RZ,simprocAttr,hn,g8,q]
  refine Wp.aj (fun n l H'=>l.length=53∧get l 1=I a∧get l 2=I b∧get l 3=.func (.func k) #[] caps.toArray∧get l 8=I i∧∃(zs:List Hr)(j:Nat),(n=j∧j≤i∧zs.length=xs.length∧(∀x∈zs,Q x)∧zW lt a j zs=zW lt a i ys)∧get l 9=I j∧get l 0=v∧St prog B H' [⟨v,3,zs.flatMap jS⟩]) i ?_ ?_
  ·simp(disch:=omega) only[RB,RC,simprocAttr,hn,g1,g2,g3,g8,g0]
   exact⟨ys,i,⟨rfl,db _,c3,c4,rfl⟩,rfl,hS1⟩
  rintro n l H2⟨hn,g1,g2,g3,g8,zs,j,⟨d1,d2,d3,d4,d5⟩,g9,g0,hS2⟩
  simp(disch:=omega) only[↓RA,simprocAttr]
  refine Wp.drw jW (by kernel_rfl) ?_
  simp(disch:=omega) only[↓RA,RZ,simprocAttr,hn,g1,g9]
  refine jC (fun q1=> ?_) (fun q1=> ?_)
  ·have hj0:0<j:=by omega
   have hjl:j<zs.length:=by omega
   have hjl2:j-1<zs.length:=by omega
   have j1:(j:Int)-1=((j-1:Nat):Int):=by omega
   have hst:=b2E lt a j hj0 zs
   simp(disch:=omega) only[↓RA,RZ,simprocAttr,hn,g3,g9,g0,(hS2.av 0 rfl (fun _=>rfl)).idx,(hS2.av 0 rfl (fun _=>rfl)).ai,jS,q1,j1]
   refine hS2.cF (hcf (iB zs j) (iB zs (j-1)) (d4 _ (iD hjl)) (d4 _ (iD hjl2)) hS2) fun H3 hS3=> ?_
   have hlt:=hcl (iB zs j) (iB zs (j-1)) (d4 _ (iD hjl)) (d4 _ (iD hjl2))
   simp(disch:=omega) only[↓RA,RZ,simprocAttr,hn,q1]
   refine iA (fun q2=> ?_) (fun q2=> ?_)
   ·rw[if_pos ⟨by omega,hlt.1 q2⟩]at hst
    have e1:=rL zs j (iB zs (j-1)) hjl
    have e2:=rL (zs.set j (iB zs (j-1))) (j-1) (iB zs j) (by rw[eH];omega)
    have hls:(zs.set j (iB zs (j-1))).length=xs.length:=by rw[eH];exact d3
    have hlc:(zs.flatMap jS).length=zs.length*3:=iL (n:=3) (cel:=jS) (fun _=>rfl) _
    have hlc2:((zs.set j (iB zs (j-1))).flatMap jS).length=(zs.set j (iB zs (j-1))).length*3:=iL (n:=3) (cel:=jS) (fun _=>rfl) _
    simp(disch:=omega) only[↓RA,RC,simprocAttr,q1,q2]
    refine Wp.drw jW (by kernel_rfl) ?_
    simp(disch:=omega) only[↓RA,RZ,simprocAttr,hn,g9,g0,(hS3.av 0 rfl (fun _=>rfl)).idx,(hS3.av 0 rfl (fun _=>rfl)).ai,jS,j1]
    refine hS3.aE 0 rfl [_,_,_] rfl rfl zX (by simp) (by rw[hlc];simp only[dC,dW];omega) fun H4 hS4=> ?_
    simp only[RT]at hS4
    simp(disch:=omega) only[↓RA,RZ,simprocAttr,hn]
    rw[e1]at hS4
    simp(disch:=omega) only[↓RA,RZ,simprocAttr,hn,(hS4.av 0 rfl (fun _=>rfl)).idx]
    refine hS4.aE 0 rfl [I (iB zs j).1.1,I (iB zs j).1.2,I (iB zs j).2] rfl rfl zX (by simp) (by rw[hlc2];simp only[dC,dW];omega) fun H5 hS5=> ?_
    simp only[RT]at hS5
    simp(disch:=omega) only[↓RA,RZ,simprocAttr,hn,g1,g2,g3,g8,g9,g0,j1]
    rw[e2]at hS5
    exact⟨j-1,by omega,swp zs j (j-1),j-1,⟨rfl,by omega,by rw[pF];exact d3,fun x hx=>d4 x (zI hjl hjl2 hx),by rw[←d5,hst]⟩,rfl,hS5⟩
   rw[if_neg (fun h=>q2 (hlt.2 h.2))]at hst
   simp(disch:=omega) only[↓RA,RZ,simprocAttr,hn,g1,g2,g3,g8,g0,q1,q2]
   exact⟨n0-1,by omega,zs,i+1,⟨by omega,by omega,d3,d4,by rw[←c5,a3K _ _ n0 _ (by omega),←d5,hst]⟩,by simp,hS3⟩
  have hst:zW lt a j zs=zs:=by
   cases j with
   | zero=>rfl
   | succ j=>rw[zW,if_neg (fun h=>by omega)]
  simp(disch:=omega) only[↓RA,RZ,simprocAttr,hn,g1,g2,g3,g8,g0,q1]
  exact⟨n0-1,by omega,zs,i+1,⟨by omega,by omega,d3,d4,by rw[←c5,a3K _ _ n0 _ (by omega),←d5,hst]⟩,by simp,hS2⟩
 simp(disch:=omega) only[↓RA,RZ,simprocAttr,c6O,q]
 have e:n=0:=by omega
 rw[e]at c5
 rw[←c5]
 exact hS1
end Go.Ds
namespace Go.Ds
open Go
section
variable {P:Program} {H:Heap}
theorem SWr.mono:∀(c:Code){l:List Value}{H:Heap}{M Q:mV},(∀e l H,M e l H→Q e l H)→SWr P c l H M→SWr P c l H Q:=by
 intro c
 induction c with
 | skip=>intro l H M Q hm h;exact hm _ _ _ h
 | label t=>intro l H M Q hm h;exact hm _ _ _ h
 | exit id=>intro l H M Q hm h;exact hm _ _ _ h
 | ret=>intro l H M Q hm h;exact hm _ _ _ h
 | seq a b iha ihb=>
   intro l H M Q hm h
   refine iha ?_ h
   intro e l1 H1 h1
   cases e with
   | normal=>exact ihb hm h1
   | exit i=>exact hm _ _ _ h1
   | ret=>exact hm _ _ _ h1
 | block id b ih=>
   intro l H M Q hm h
   exact ih (fun e l1 H1 h1=>hm _ _ _ h1) h
 | cond c x y ihx ihy=>
   intro l H M Q hm h
   cases c with
   | tmp t=>exact xA h (ihx hm) (ihy hm)
   | _=>exact Wp.mono h hm
 | region id ops d=>
   intro l H M Q hm h
   cases d with
   | true=>exact Wp.mono h hm
   | false=>exact a0y (fun l H h=>hm _ _ _ h) _ _ _ h
 | _=>intro l H M Q hm h;exact Wp.mono h hm
def b6R(I:List Value→Heap→Prop)(Q:mV):mV:=fun e l1 H1=>match e with|.normal=>I l1 H1|e=>Q e l1 H1
theorem lR(I:List Value→Heap→Prop)(Q:mV)(l:List Value):b6R I Q .normal l H=I l H:=rfl
theorem b0Q{v:Value}{x y:Code}{l:List Value}{Q:mV}(I:List Value→Heap→Prop)(hm:∀l H,I l H→Q .normal l H)(h:pO v (SW P x l H (b6R I Q)) (SW P y l H (b6R I Q))):pO v (SW P x l H Q) (SW P y l H Q):=by
 have hc:∀e l H,b6R I Q e l H→Q e l H:=fun e l H h=>by
  cases e with
  | normal=>exact hm _ _ h
  | exit i=>exact h
  | ret=>exact h
 exact xA h (SWr.mono x hc) (SWr.mono y hc)
end
end Go.Ds
namespace Go.Ds
open Go.Proofs Go.Proofs.Tryz
variable {H:Heap}
set_option maxRecDepth 10000
set_option maxHeartbeats 2000000
theorem a1p(i j:Nat)(h:i+j<1000000):IntKind.i64.wrap (((i:Int)+(j:Int)).fdiv (2^min 1 IntKind.u64.bits))=(((i+j)/2:Nat):Int):=by
 have e:(2:Int)^min 1 IntKind.u64.bits=((2:Nat):Int):=rfl
 rw[e,show(i:Int)+(j:Int)=((i+j:Nat):Int)from(Int.natCast_add i j).symm,←Int.ofNat_fdiv]
 exact a7V _ (by omega) (by omega)
theorem a5H{P:Program}{a b:Code}{l:List Value}{Q:mV}(I:List Value→Heap→Prop)(hm:∀l H,I l H→SW P b l H Q)(h:SW P a l H (b6R I Q)):SW P (.seq a b) l H Q:=
 SWr.mono a (fun e l H h=>by
  cases e with
  | normal=>exact hm _ _ h
  | exit i=>exact h
  | ret=>exact h) h
theorem a1t{α:Type}[Inhabited α]{xs:List α}{a b:Nat}:∀(n:Nat),a+n≤xs.length→b+n≤xs.length→∀x∈zY xs a b n,x∈xs
 | 0,_,_,_,h=>h
 | n+1,h1,h2,x,h=>a1t n (by omega) (by omega) x (zI (by rw[oK];omega) (by rw[oK];omega) h)
theorem tY{α:Type}[Inhabited α]:∀(n:Nat)(xs:List α)(m i j:Nat),(xM n xs m i j).length=xs.length
 | 0,_,_,_,_=>rfl
 | n+1,xs,m,i,j=>by
   rw[xM]
   split
   ·rw[oK]
   ·split
    ·rw[tY n,oK]
    ·rw[tY n,oK]
theorem zH{α:Type}[Inhabited α]:∀(n:Nat)(xs:List α)(m i j:Nat),i≤m→m+j≤xs.length→∀x∈xM n xs m i j,x∈xs
 | 0,_,_,_,_,_,_,_,h=>h
 | n+1,xs,m,i,j,h1,h2,x,h=>by
   rw[xM]at h
   split at h
   ·exact a1t i (by omega) (by omega) x h
   ·split at h
    ·exact a1t j (by omega) (by omega) x (zH n _ m (i-j) j (by omega) (by rw[oK];exact h2) x h)
    ·exact a1t i (by omega) (by omega) x (zH n _ m i (j-i) h1 (by rw[oK];omega) x h)
def bsF(f:Nat→Bool):Nat→Nat→Nat→Nat
 | 0,i,_=>i
 | n+1,i,j=>if i<j then(if f ((i+j)/2)=true then bsF f n ((i+j)/2+1) j else bsF f n i ((i+j)/2))else i
theorem a6i(f:Nat→Bool)(n i j:Nat)(h:¬i<j):bsF f n i j=i:=by
 cases n with
 | zero=>rfl
 | succ n=>rw[bsF,if_neg h]
theorem a2j(f:Nat→Bool)(n i j:Nat)(hn:0<n)(h:i<j):bsF f n i j=if f ((i+j)/2)=true then bsF f (n-1) ((i+j)/2+1) j else bsF f (n-1) i ((i+j)/2):=by
 cases n with
 | zero=>omega
 | succ n=>rw[bsF,if_pos h];rfl
theorem a2x(f:Nat→Bool):∀(n i j:Nat),i≤j→i≤bsF f n i j∧bsF f n i j≤j
 | 0,i,j,h=>⟨db _,h⟩
 | n+1,i,j,h=>by
   rw[bsF]
   split
   ·split
    ·have:=a2x f n ((i+j)/2+1) j (by omega);omega
    ·have:=a2x f n i ((i+j)/2) (by omega);omega
   ·exact⟨db _,h⟩
def upR{α:Type}[Inhabited α]:Nat→Nat→List α→List α
 | 0,_,xs=>xs
 | n+1,k,xs=>upR n (k+1) (swp xs k (k+1))
def dnR{α:Type}[Inhabited α]:Nat→Nat→List α→List α
 | 0,_,xs=>xs
 | n+1,k,xs=>dnR n (k-1) (swp xs k (k-1))
def qX{α:Type}[Inhabited α](lt:α→α→Bool):Nat→List α→Nat→Nat→Nat→List α
 | 0,xs,_,_,_=>xs
 | f+1,xs,a,m,b=>
   if m-a=1 then upR (bsF (fun h=>lt (iB xs h) (iB xs a)) (b-m) m b-1-a) a xs
   else if b-m=1 then dnR (m-bsF (fun h=> !lt (iB xs m) (iB xs h)) (m-a) a m) m xs
   else
    let s0:=if(a+b)/2<m then(a+b)/2+m-b else a
    let r0:=if(a+b)/2<m then(a+b)/2 else m
    let st:=bsF (fun c=> !lt (iB xs ((a+b)/2+m-1-c)) (iB xs c)) (r0-s0) s0 r0
    let en:=(a+b)/2+m-st
    let ys:=if st<m∧m<en then xM (en-st) xs m (m-st) (en-m)else xs
    let zs:=if a<st∧st<(a+b)/2 then qX lt f ys a st ((a+b)/2)else ys
    if(a+b)/2<en∧en<b then qX lt f zs ((a+b)/2) en b else zs
theorem b2g{α:Type}[Inhabited α]:∀(n k:Nat)(xs:List α),(upR n k xs).length=xs.length
 | 0,_,_=>rfl
 | n+1,k,xs=>by rw[upR,b2g n,pF]
theorem b2t{α:Type}[Inhabited α]:∀(n k:Nat)(xs:List α),(dnR n k xs).length=xs.length
 | 0,_,_=>rfl
 | n+1,k,xs=>by rw[dnR,b2t n,pF]
theorem b1D{α:Type}[Inhabited α]:∀(n k:Nat)(xs:List α),(n=0∨k+n<xs.length)→∀x∈upR n k xs,x∈xs
 | 0,_,_,_,_,h=>h
 | n+1,k,xs,hk,x,h=>zI (by omega) (by omega) (b1D n (k+1) _ (by rw[pF];omega) x h)
theorem b1M{α:Type}[Inhabited α]:∀(n k:Nat)(xs:List α),n≤k→k<xs.length→∀x∈dnR n k xs,x∈xs
 | 0,_,_,_,_,_,h=>h
 | n+1,k,xs,h1,h2,x,h=>zI (by omega) (by omega) (b1M n (k-1) _ (by omega) (by rw[pF];omega) x h)
theorem pL{α:Type}[Inhabited α](lt:α→α→Bool):∀(f:Nat)(xs:List α)(a m b:Nat),(qX lt f xs a m b).length=xs.length
 | 0,_,_,_,_=>rfl
 | f+1,xs,a,m,b=>by
   rw[qX]
   split
   ·rw[b2g]
   ·split
    ·rw[b2t]
    ·dsimp only
     repeat (first|rfl|rw[pL lt f]|rw[tY]|split)
theorem uM{α:Type}[Inhabited α](lt:α→α→Bool):∀(f:Nat)(xs:List α)(a m b:Nat),a<m→m<b→b≤xs.length→∀x∈qX lt f xs a m b,x∈xs
 | 0,_,_,_,_,_,_,_,_,h=>h
 | f+1,xs,a,m,b,h1,h2,h3,x,h=>by
   rw[qX]at h
   split at h
   ·have:=a2x (fun h=>lt (iB xs h) (iB xs a)) (b-m) m b (by omega)
    exact b1D _ _ _ (by omega) x h
   ·split at h
    ·have:=a2x (fun h=> !lt (iB xs m) (iB xs h)) (m-a) a m (by omega)
     exact b1M _ _ _ (by omega) (by omega) x h
    ·dsimp only at h
     obtain⟨s0,hs0⟩:∃s0,s0=(if(a+b)/2<m then(a+b)/2+m-b else a):=⟨_,rfl⟩
     obtain⟨r0,hr0⟩:∃r0,r0=(if(a+b)/2<m then(a+b)/2 else m):=⟨_,rfl⟩
     have hb:s0≤r0∧a≤s0∧r0≤(a+b)/2∧r0≤m∧(a+b)/2+m≤b+s0:=by rw[hs0,hr0];split<;>omega
     rw[←hs0,←hr0]at h
     obtain⟨b1,b2,b3,b4,b5⟩:=hb
     obtain⟨st,hst⟩:∃st,st=bsF (fun c=> !lt (iB xs ((a+b)/2+m-1-c)) (iB xs c)) (r0-s0) s0 r0:=⟨_,rfl⟩
     have hin:s0≤st∧st≤r0:=by rw[hst];exact a2x _ _ _ _ b1
     rw[←hst]at h
     obtain⟨ys,hys⟩:∃ys,ys=(if st<m∧m<(a+b)/2+m-st then xM ((a+b)/2+m-st-st) xs m (m-st) ((a+b)/2+m-st-m)else xs):=⟨_,rfl⟩
     rw[←hys]at h
     have hyl:ys.length=xs.length:=by
      rw[hys]
      split
      ·rw[tY]
      ·rfl
     have hym:∀x∈ys,x∈xs:=by
      rw[hys]
      split
      ·exact fun x hx=>zH _ _ _ _ _ (by omega) (by omega) x hx
      ·exact fun _ h=>h
     obtain⟨zs,hzs⟩:∃zs,zs=(if a<st∧st<(a+b)/2 then qX lt f ys a st ((a+b)/2)else ys):=⟨_,rfl⟩
     rw[←hzs]at h
     have hzl:zs.length=xs.length:=by
      rw[hzs]
      split
      ·rw[pL];exact hyl
      ·exact hyl
     have hzm:∀x∈zs,x∈xs:=by
      rw[hzs]
      split
      ·rename_i hq
       exact fun x hx=>hym x (uM lt f ys _ _ _ hq.1 hq.2 (by omega) x hx)
      ·exact hym
     split at h
     ·rename_i hq
      exact hzm x (uM lt f zs _ _ _ hq.1 hq.2 (by omega) x h)
     ·exact hzm x h
theorem b1U{B:Base}{v:Value}(k:FuncId)(caps:List Value){Q:Hr→Prop}{lt:Hr→Hr→Bool}(hk:CmpK B k caps Q lt):∀(f:Nat){H:Heap}(xs:List Hr)(a m b:Nat),b-a≤f→St prog B H [⟨v,3,xs.flatMap jS⟩]→xs.length<100000→a<m→m<b→b≤xs.length→(∀x∈xs,Q x)→
 Fn prog 100 [v,I a,I m,I b,.func (.func k) #[] caps.toArray] H fun r H'=>r=.tuple #[]∧St prog B H' [⟨v,3,(qX lt f xs a m b).flatMap jS⟩]:=by
 obtain⟨cf,hcl,hcf⟩:=hk.ok
 intro f
 induction f with
 | zero=>intro H xs a m b h;omega
 | succ f ih=>
 intro H xs a m b hf hS hl ham hmb hb hQ
 have j1:(m:Int)-(a:Int)=((m-a:Nat):Int):=by omega
 have j2:(b:Int)-(m:Int)=((b-m:Nat):Int):=by omega
 refine .cD func100 rfl (by kernel_rfl) (m:=220) rfl fun l hn g0 g1 g2 g3 g4=> ?_
 simp(disch:=omega) only[↓RA,RB,simprocAttr,hn,g1,g2,j1]
 refine iA (fun q=> ?_) (fun q=> ?_)
 ·have hsy:qX lt (f+1) xs a m b=upR (bsF (fun h=>lt (iB xs h) (iB xs a)) (b-m) m b-1-a) a xs:=by rw[qX,if_pos (by omega)]
  simp(disch:=omega) only[↓RA,RZ,simprocAttr,hn,g2,g3,q]
  refine Wp.aj (fun n l H'=>l.length=220∧get l 0=v∧get l 1=I a∧get l 2=I m∧get l 3=I b∧get l 4=.func (.func k) #[] caps.toArray∧∃(i:Nat)(j:Nat),(j-i≤n∧m≤i∧i≤j∧j≤b∧bsF (fun h=>lt (iB xs h) (iB xs a)) n i j=bsF (fun h=>lt (iB xs h) (iB xs a)) (b-m) m b)∧get l 10=I i∧get l 11=I j∧St prog B H' [⟨v,3,xs.flatMap jS⟩]) (b-m) ?_ ?_
  ·simp(disch:=omega) only[RB,RC,simprocAttr,hn,g0,g1,g2,g3,g4]
   exact⟨m,b,⟨by omega,by omega,by omega,by omega,rfl⟩,rfl,rfl,hS⟩
  rintro n l H1⟨hn,g0,g1,g2,g3,g4,i,j,⟨c1,c2,c3,c4,c5⟩,nH,g11,hS1⟩
  simp(disch:=omega) only[↓RA,RB,simprocAttr,hn,nH,g11]
  refine iA (fun q1=> ?_) (fun q1=> ?_)
  ·have hh:=a1p i j (by omega)
   have hb2:(i+j)/2<j:=by omega
   have hb3:i≤(i+j)/2:=by omega
   have hlt:=hcl (iB xs ((i+j)/2)) (iB xs a) (hQ _ (iD (by omega))) (hQ _ (iD (by omega)))
   have hst:=a2j (fun h=>lt (iB xs h) (iB xs a)) n i j (by omega) (by omega)
   simp(disch:=omega) only[↓RA,RZ,simprocAttr,hn,nH,g11,q1,hh]
   refine Wp.drw jW (by kernel_rfl) ?_
   simp(disch:=omega) only[↓RA,RZ,simprocAttr,hn,g0,g4]
   simp(disch:=omega) only[↓RA,RZ,simprocAttr,hn,g0,g1,(hS1.av 0 rfl (fun _=>rfl)).idx,(hS1.av 0 rfl (fun _=>rfl)).ai,jS]
   refine hS1.cF (hcf (iB xs ((i+j)/2)) (iB xs a) (hQ _ (iD (by omega))) (hQ _ (iD (by omega))) hS1) fun H2 hS2=> ?_
   simp(disch:=omega) only[↓RA,RB,simprocAttr,hn]
   refine iA (fun q3=> ?_) (fun q3=> ?_)
   ·rw[if_pos (hlt.1 q3)]at hst
    simp(disch:=omega) only[↓RA,RZ,simprocAttr,hn,g0,g1,g2,g3,g4,g11,q3]
    exact⟨n-1,by omega,(i+j)/2+1,j,⟨by omega,by omega,by omega,by omega,by rw[←c5,hst]⟩,by simp,rfl,hS2⟩
   rw[if_neg (fun h=>q3 (hlt.2 h))]at hst
   simp(disch:=omega) only[↓RA,RZ,simprocAttr,hn,g0,g1,g2,g3,g4,nH,q3]
   exact⟨n-1,by omega,i,(i+j)/2,⟨by omega,by omega,by omega,by omega,by rw[←c5,hst]⟩,rfl,rfl,hS2⟩
  rw[a6i _ _ _ _ (by omega)]at c5
  rw[←c5]at hsy
  have j3:(i:Int)-1=((i-1:Nat):Int):=by omega
  simp(disch:=omega) only[↓RA,RZ,simprocAttr,hn,g1,q1]
  refine Wp.aj (fun n l H'=>l.length=220∧get l 1=I a∧get l 2=I m∧get l 3=I b∧get l 4=.func (.func k) #[] caps.toArray∧get l 10=I i∧∃(ys:List Hr)(p:Nat),(n=i-1-p∧a≤p∧ys.length=xs.length∧upR n p ys=upR (i-1-a) a xs)∧get l 13=I p∧get l 0=v∧St prog B H' [⟨v,3,ys.flatMap jS⟩]) (i-1-a) ?_ ?_
  ·simp(disch:=omega) only[RB,RC,simprocAttr,hn,g0,g1,g2,g3,g4,nH]
   exact⟨xs,a,⟨rfl,by omega,rfl,rfl⟩,rfl,hS1⟩
  rintro n l H3⟨hn,g1,g2,g3,g4,nH,ys,p,⟨d1,d2,d3,d4⟩,g13,g0,hS3⟩
  simp(disch:=omega) only[↓RA,RB,simprocAttr,hn,nH,g13,j3]
  refine iA (fun q4=> ?_) (fun q4=> ?_)
  ·have j4:(p:Int)+1=((p+1:Nat):Int):=rfl
   have hup:upR n p ys=upR (n-1) (p+1) (swp ys p (p+1)):=by
    obtain⟨n',rfl⟩:∃n',n=n'+1:=⟨n-1,by omega⟩
    rfl
   have e1:=rL ys p (iB ys (p+1)) (by omega)
   have e2:=rL (ys.set p (iB ys (p+1))) (p+1) (iB ys p) (by rw[eH];omega)
   have hls:(ys.set p (iB ys (p+1))).length=xs.length:=by rw[eH];omega
   have hlc:(ys.flatMap jS).length=ys.length*3:=iL (n:=3) (cel:=jS) (fun _=>rfl) _
   have hlc2:((ys.set p (iB ys (p+1))).flatMap jS).length=(ys.set p (iB ys (p+1))).length*3:=iL (n:=3) (cel:=jS) (fun _=>rfl) _
   simp(disch:=omega) only[↓RA,RC,simprocAttr,q4]
   refine Wp.drw jW (by kernel_rfl) ?_
   simp(disch:=omega) only[↓RA,RZ,simprocAttr,hn,g13,g0,(hS3.av 0 rfl (fun _=>rfl)).idx,(hS3.av 0 rfl (fun _=>rfl)).ai,jS,j4]
   refine hS3.aE 0 rfl [_,_,_] rfl rfl zX (by simp) (by rw[hlc];simp only[dC,dW];omega) fun H4 hS4=> ?_
   simp only[RT]at hS4
   simp(disch:=omega) only[↓RA,RZ,simprocAttr,hn]
   rw[e1]at hS4
   simp(disch:=omega) only[↓RA,RZ,simprocAttr,hn,(hS4.av 0 rfl (fun _=>rfl)).idx]
   refine hS4.aE 0 rfl [I (iB ys p).1.1,I (iB ys p).1.2,I (iB ys p).2] rfl rfl zX (by simp) (by rw[hlc2];simp only[dC,dW];omega) fun H5 hS5=> ?_
   simp only[RT]at hS5
   simp(disch:=omega) only[↓RA,RZ,simprocAttr,hn,g1,g2,g3,g4,nH,g13,g0,j4]
   rw[e2]at hS5
   exact⟨n-1,by omega,swp ys p (p+1),p+1,⟨by omega,by omega,by rw[pF];exact d3,by rw[←d4,hup]⟩,rfl,hS5⟩
  simp(disch:=omega) only[↓RA,RZ,simprocAttr,a7Q,q4]
  have e:n=0:=by omega
  rw[e]at d4
  rw[hsy,←d4]
  exact hS3
 simp(disch:=omega) only[↓RA,RZ,simprocAttr,hn,g2,g3,j2,q]
 refine iA (fun q2=> ?_) (fun q2=> ?_)
 ·have hsy:qX lt (f+1) xs a m b=dnR (m-bsF (fun h=> !lt (iB xs m) (iB xs h)) (m-a) a m) m xs:=by rw[qX,if_neg (by omega),if_pos (by omega)]
  simp(disch:=omega) only[↓RA,RZ,simprocAttr,hn,g1,g2,q,q2]
  refine Wp.aj (fun n l H'=>l.length=220∧get l 0=v∧get l 1=I a∧get l 2=I m∧get l 3=I b∧get l 4=.func (.func k) #[] caps.toArray∧∃(i:Nat)(j:Nat),(j-i≤n∧a≤i∧i≤j∧j≤m∧bsF (fun h=> !lt (iB xs m) (iB xs h)) n i j=bsF (fun h=> !lt (iB xs m) (iB xs h)) (m-a) a m)∧get l 14=I i∧get l 15=I j∧St prog B H' [⟨v,3,xs.flatMap jS⟩]) (m-a) ?_ ?_
  ·simp(disch:=omega) only[RB,RC,simprocAttr,hn,g0,g1,g2,g3,g4]
   exact⟨a,m,⟨by omega,by omega,by omega,by omega,rfl⟩,rfl,rfl,hS⟩
  rintro n l H6⟨hn,g0,g1,g2,g3,g4,i,j,⟨c1,c2,c3,c4,c5⟩,g14,g15,hS6⟩
  simp(disch:=omega) only[↓RA,RB,simprocAttr,hn,g14,g15]
  refine iA (fun q1=> ?_) (fun q1=> ?_)
  ·have hh:=a1p i j (by omega)
   have hb2:(i+j)/2<j:=by omega
   have hb3:i≤(i+j)/2:=by omega
   have hlt:=hcl (iB xs m) (iB xs ((i+j)/2)) (hQ _ (iD (by omega))) (hQ _ (iD (by omega)))
   have hst:=a2j (fun h=> !lt (iB xs m) (iB xs h)) n i j (by omega) (by omega)
   simp(disch:=omega) only[↓RA,RZ,simprocAttr,hn,g14,g15,q1,hh]
   refine Wp.drw jW (by kernel_rfl) ?_
   simp(disch:=omega) only[↓RA,RZ,simprocAttr,hn,g0,g2,g4]
   simp(disch:=omega) only[↓RA,RZ,simprocAttr,hn,g0,(hS6.av 0 rfl (fun _=>rfl)).idx,(hS6.av 0 rfl (fun _=>rfl)).ai,jS]
   refine hS6.cF (hcf (iB xs m) (iB xs ((i+j)/2)) (hQ _ (iD (by omega))) (hQ _ (iD (by omega))) hS6) fun H7 hS7=> ?_
   simp(disch:=omega) only[↓RA,RB,simprocAttr,hn]
   refine jJ (fun q3=> ?_) (fun q3=> ?_)
   ·rw[if_pos (by rw[dw,←dX];exact fun h=>absurd (hlt.2 h) (by simpa using q3))]at hst
    simp(disch:=omega) only[↓RA,RZ,simprocAttr,hn,g0,g1,g2,g3,g4,g15,q3]
    exact⟨n-1,by omega,(i+j)/2+1,j,⟨by omega,by omega,by omega,by omega,by rw[←c5,hst]⟩,by simp,rfl,hS7⟩
   rw[if_neg (by rw[dw,←dX,dx];exact hlt.1 (by simpa using q3))]at hst
   simp(disch:=omega) only[↓RA,RZ,simprocAttr,hn,g0,g1,g2,g3,g4,g14,q3]
   exact⟨n-1,by omega,i,(i+j)/2,⟨by omega,by omega,by omega,by omega,by rw[←c5,hst]⟩,rfl,rfl,hS7⟩
  rw[a6i _ _ _ _ (by omega)]at c5
  rw[←c5]at hsy
  simp(disch:=omega) only[↓RA,RZ,simprocAttr,hn,g2,q1]
  refine Wp.aj (fun n l H'=>l.length=220∧get l 1=I a∧get l 2=I m∧get l 3=I b∧get l 4=.func (.func k) #[] caps.toArray∧get l 14=I i∧∃(ys:List Hr)(p:Nat),(n=p-i∧p≤m∧i≤p∧ys.length=xs.length∧dnR n p ys=dnR (m-i) m xs)∧get l 17=I p∧get l 0=v∧St prog B H' [⟨v,3,ys.flatMap jS⟩]) (m-i) ?_ ?_
  ·simp(disch:=omega) only[RB,RC,simprocAttr,hn,g0,g1,g2,g3,g4,g14]
   exact⟨xs,m,⟨rfl,by omega,by omega,rfl,rfl⟩,rfl,hS6⟩
  rintro n l H8⟨hn,g1,g2,g3,g4,g14,ys,p,⟨d1,d2,d5,d3,d4⟩,g17,g0,hS8⟩
  simp(disch:=omega) only[↓RA,RB,simprocAttr,hn,g14,g17]
  refine iA (fun q4=> ?_) (fun q4=> ?_)
  ·have j4:(p:Int)-1=((p-1:Nat):Int):=by omega
   have hup:dnR n p ys=dnR (n-1) (p-1) (swp ys p (p-1)):=by
    obtain⟨n',rfl⟩:∃n',n=n'+1:=⟨n-1,by omega⟩
    rfl
   have e1:=rL ys p (iB ys (p-1)) (by omega)
   have e2:=rL (ys.set p (iB ys (p-1))) (p-1) (iB ys p) (by rw[eH];omega)
   have hls:(ys.set p (iB ys (p-1))).length=xs.length:=by rw[eH];omega
   have hlc:(ys.flatMap jS).length=ys.length*3:=iL (n:=3) (cel:=jS) (fun _=>rfl) _
   have hlc2:((ys.set p (iB ys (p-1))).flatMap jS).length=(ys.set p (iB ys (p-1))).length*3:=iL (n:=3) (cel:=jS) (fun _=>rfl) _
   simp(disch:=omega) only[↓RA,RC,simprocAttr,q4]
   refine Wp.drw jW (by kernel_rfl) ?_
   simp(disch:=omega) only[↓RA,RZ,simprocAttr,hn,g17,g0,(hS8.av 0 rfl (fun _=>rfl)).idx,(hS8.av 0 rfl (fun _=>rfl)).ai,jS,j4]
   refine hS8.aE 0 rfl [_,_,_] rfl rfl zX (by simp) (by rw[hlc];simp only[dC,dW];omega) fun H9 hS9=> ?_
   simp only[RT]at hS9
   simp(disch:=omega) only[↓RA,RZ,simprocAttr,hn]
   rw[e1]at hS9
   simp(disch:=omega) only[↓RA,RZ,simprocAttr,hn,(hS9.av 0 rfl (fun _=>rfl)).idx]
   refine hS9.aE 0 rfl [I (iB ys p).1.1,I (iB ys p).1.2,I (iB ys p).2] rfl rfl zX (by simp) (by rw[hlc2];simp only[dC,dW];omega) fun H10 hS10=> ?_
   simp only[RT]at hS10
   simp(disch:=omega) only[↓RA,RZ,simprocAttr,hn,g1,g2,g3,g4,g14,g17,g0,j4]
   rw[e2]at hS10
   exact⟨n-1,by omega,swp ys p (p-1),p-1,⟨by omega,by omega,by omega,by rw[pF];exact d3,by rw[←d4,hup]⟩,rfl,hS10⟩
  simp(disch:=omega) only[↓RA,RZ,simprocAttr,a7Q,q4]
  have e:n=0:=by omega
  rw[e]at d4
  rw[hsy,←d4]
  exact hS8
 have hh:=a1p a b (by omega)
 obtain⟨mid,hmid⟩:∃mid,mid=(a+b)/2:=⟨_,rfl⟩
 rw[←hmid]at hh
 have jn:(mid:Int)+(m:Int)=((mid+m:Nat):Int):=rfl
 simp(disch:=omega) only[↓RA,RZ,simprocAttr,hn,g1,g2,g3,q,q2,hh,jn]
 refine b0Q (fun l H'=>l.length=220∧get l 0=v∧get l 1=I a∧get l 2=I m∧get l 3=I b∧get l 4=.func (.func k) #[] caps.toArray∧get l 18=I mid∧get l 19=I (mid+m:Nat)∧∃(s0:Nat)(r0:Nat),(s0=(if mid<m then mid+m-b else a)∧r0=(if mid<m then mid else m))∧get l 20=I s0∧get l 21=I r0∧St prog B H' [⟨v,3,xs.flatMap jS⟩]) ?_ ?_
 ·rintro l H11⟨hn,g0,g1,g2,g3,g4,g18,g19,s0,r0,hz,g20,g21,hS11⟩
  obtain⟨z1,z2⟩:=hz
  have y1:s0≤r0∧a≤s0∧r0≤mid∧r0≤m∧mid+m≤b+s0:=by rw[z1,z2];split<;>omega
  obtain⟨y1,y2,y3,y4,y5⟩:=y1
  have jp:((mid+m:Nat):Int)-1=((mid+m-1:Nat):Int):=by omega
  simp(disch:=omega) only[↓RA,RB,simprocAttr,hn,g19,jp]
  refine Wp.aj (fun n l H'=>l.length=220∧get l 0=v∧get l 1=I a∧get l 2=I m∧get l 3=I b∧get l 4=.func (.func k) #[] caps.toArray∧get l 18=I mid∧get l 19=I (mid+m:Nat)∧get l 22=I (mid+m-1:Nat)∧∃(i:Nat)(j:Nat),(j-i≤n∧s0≤i∧i≤j∧j≤r0∧bsF (fun c=> !lt (iB xs (mid+m-1-c)) (iB xs c)) n i j=bsF (fun c=> !lt (iB xs (mid+m-1-c)) (iB xs c)) (r0-s0) s0 r0)∧get l 20=I i∧get l 21=I j∧St prog B H' [⟨v,3,xs.flatMap jS⟩]) (r0-s0) ?_ ?_
  ·simp(disch:=omega) only[RB,RC,simprocAttr,hn,g0,g1,g2,g3,g4,g18,g19,g20,g21]
   exact⟨s0,r0,⟨by omega,by omega,by omega,by omega,rfl⟩,rfl,rfl,hS11⟩
  rintro n l H12⟨hn,g0,g1,g2,g3,g4,g18,g19,g22,i,j,⟨c1,c2,c3,c4,c5⟩,g20,g21,hS12⟩
  simp(disch:=omega) only[↓RA,RB,simprocAttr,hn,g20,g21]
  refine iA (fun q6=> ?_) (fun q6=> ?_)
  ·have hh2:=a1p i j (by omega)
   have hb2:(i+j)/2<j:=by omega
   have hb3:i≤(i+j)/2:=by omega
   have jc:((mid+m-1:Nat):Int)-(((i+j)/2:Nat):Int)=((mid+m-1-(i+j)/2:Nat):Int):=by omega
   have hlt:=hcl (iB xs (mid+m-1-(i+j)/2)) (iB xs ((i+j)/2)) (hQ _ (iD (by omega))) (hQ _ (iD (by omega)))
   have hst:=a2j (fun c=> !lt (iB xs (mid+m-1-c)) (iB xs c)) n i j (by omega) (by omega)
   simp(disch:=omega) only[↓RA,RZ,simprocAttr,hn,g20,g21,q6,hh2]
   refine Wp.drw jW (by kernel_rfl) ?_
   simp(disch:=omega) only[↓RA,RZ,simprocAttr,hn,g0,g4,g22,jc]
   simp(disch:=omega) only[↓RA,RZ,simprocAttr,hn,g0,(hS12.av 0 rfl (fun _=>rfl)).idx,(hS12.av 0 rfl (fun _=>rfl)).ai,jS]
   refine hS12.cF (hcf (iB xs (mid+m-1-(i+j)/2)) (iB xs ((i+j)/2)) (hQ _ (iD (by omega))) (hQ _ (iD (by omega))) hS12) fun H13 hS13=> ?_
   simp(disch:=omega) only[↓RA,RB,simprocAttr,hn]
   refine jJ (fun q3=> ?_) (fun q3=> ?_)
   ·rw[if_pos (by rw[dw,←dX];exact fun h=>absurd (hlt.2 h) (by simpa using q3))]at hst
    simp(disch:=omega) only[↓RA,RZ,simprocAttr,hn,g0,g1,g2,g3,g4,g18,g19,g22,g21,q3]
    exact⟨n-1,by omega,(i+j)/2+1,j,⟨by omega,by omega,by omega,by omega,by rw[←c5,hst]⟩,by simp,rfl,hS13⟩
   rw[if_neg (by rw[dw,←dX,dx];exact hlt.1 (by simpa using q3))]at hst
   simp(disch:=omega) only[↓RA,RZ,simprocAttr,hn,g0,g1,g2,g3,g4,g18,g19,g22,g20,q3]
   exact⟨n-1,by omega,i,(i+j)/2,⟨by omega,by omega,by omega,by omega,by rw[←c5,hst]⟩,rfl,rfl,hS13⟩
  rw[a6i _ _ _ _ (by omega)]at c5
  obtain⟨en,hen⟩:∃en,en=mid+m-i:=⟨_,rfl⟩
  have je:((mid+m:Nat):Int)-(i:Int)=(en:Int):=by omega
  simp only[b1q,a4h,a0i,wU]
  show SW prog (Code.seq _ _) _ _ _
  refine a5H (fun l H'=>l.length=220∧get l 0=v∧get l 1=I a∧get l 2=I m∧get l 3=I b∧get l 4=.func (.func k) #[] caps.toArray∧get l 18=I mid∧get l 20=I i∧get l 24=I en∧St prog B H' [⟨v,3,xs.flatMap jS⟩]) ?_ ?_
  ·rintro l H14⟨hn,g0,g1,g2,g3,g4,g18,g20,g24,hS14⟩
   show SW prog (Code.seq _ _) _ _ _
   refine a5H (fun l H'=>l.length=220∧get l 1=I a∧get l 3=I b∧get l 4=.func (.func k) #[] caps.toArray∧get l 18=I mid∧get l 20=I i∧get l 24=I en∧∃(ys:List Hr),(ys=(if i<m∧m<en then xM (en-i) xs m (m-i) (en-m)else xs))∧get l 0=v∧St prog B H' [⟨v,3,ys.flatMap jS⟩]) ?_ ?_
   ·rintro l H15⟨hn,g1,g3,g4,g18,g20,g24,ys,hys,g0,hS15⟩
    have hyl:ys.length=xs.length:=by
     rw[hys]
     split
     ·rw[tY]
     ·rfl
    have hyQ:∀x∈ys,Q x:=by
     rw[hys]
     split
     ·exact fun x hx=>hQ x (zH _ _ _ _ _ (by omega) (by omega) x hx)
     ·exact hQ
    have hyQ2:=hyQ
    show SW prog (Code.seq _ _) _ _ _
    refine a5H (fun l H'=>l.length=220∧get l 3=I b∧get l 4=.func (.func k) #[] caps.toArray∧get l 18=I mid∧get l 24=I en∧∃(zs:List Hr),(zs=(if a<i∧i<mid then qX lt f ys a i mid else ys))∧get l 0=v∧St prog B H' [⟨v,3,zs.flatMap jS⟩]) ?_ ?_
    ·rintro l H16⟨hn,g3,g4,g18,g24,zs,hzs,g0,hS16⟩
     have hsy:qX lt (f+1) xs a m b=(if mid<en∧en<b then qX lt f zs mid en b else zs):=by
      rw[qX,if_neg (by omega),if_neg (by omega)]
      dsimp only
      rw[←hmid,←z1,←z2,←c5,←hen,←hys,←hzs]
     have hzl:zs.length=xs.length:=by
      rw[hzs]
      split
      ·rw[pL];exact hyl
      ·exact hyl
     have hzQ:∀x∈zs,Q x:=by
      rw[hzs]
      split
      ·rename_i hq
       exact fun x hx=>hyQ x (uM lt f ys _ _ _ hq.1 hq.2 (by omega) x hx)
      ·exact hyQ
     simp(disch:=omega) only[↓RA,RZ,simprocAttr,hn,g18,g24]
     refine jC (fun u1=> ?_) (fun u1=> ?_)
     ·simp(disch:=omega) only[↓RA,RZ,simprocAttr,hn,g3,g24,u1]
      refine iA (fun u2=> ?_) (fun u2=> ?_)
      ·simp(disch:=omega) only[↓RA,RZ,simprocAttr,hn,g3,g4,g18,g24,g0,u1,u2]
       refine iG (ih zs mid en b (by omega) hS16 (by omega) (by omega) (by omega) (by omega) hzQ) ?_
       rintro r H90⟨rfl,hS90⟩
       simp(disch:=omega) only[↓RA,RZ,simprocAttr,a7Q,u1,u2]
       rw[hsy,if_pos ⟨by omega,by omega⟩]
       exact hS90
      simp(disch:=omega) only[↓RA,RZ,simprocAttr,a7Q,u1,u2]
      rw[hsy,if_neg (by omega)]
      exact hS16
     simp(disch:=omega) only[↓RA,RZ,simprocAttr,hn,a7Q,u1]
     rw[hsy,if_neg (by omega)]
     exact hS16
    simp(disch:=omega) only[↓RA,RZ,simprocAttr,hn,g1,g20]
    refine jC (fun v1=> ?_) (fun v1=> ?_)
    ·simp(disch:=omega) only[↓RA,RZ,simprocAttr,hn,g18,g20,v1]
     refine iA (fun v2=> ?_) (fun v2=> ?_)
     ·simp(disch:=omega) only[↓RA,RZ,simprocAttr,hn,g1,g4,g18,g20,g0,lR,v1,v2]
      refine iG (ih ys a i mid (by omega) hS15 (by omega) (by omega) (by omega) (by omega) hyQ) ?_
      rintro r H91⟨rfl,hS91⟩
      simp(disch:=omega) only[↓RA,RZ,simprocAttr,hn,g3,g4,g18,g24,g0,v1,v2]
      exact⟨_,by rw[if_pos ⟨by omega,by omega⟩],hS91⟩
     simp(disch:=omega) only[↓RA,RZ,simprocAttr,hn,g3,g4,g18,g24,g0,lR,v1,v2]
     exact⟨ys,by rw[if_neg (by omega)],hS15⟩
    simp(disch:=omega) only[↓RA,RZ,simprocAttr,hn,g3,g4,g18,g24,g0,lR,v1]
    exact⟨ys,by rw[if_neg (by omega)],hS15⟩
   simp(disch:=omega) only[↓RA,RZ,simprocAttr,hn,g2,g20]
   refine jC (fun w1=> ?_) (fun w1=> ?_)
   ·simp(disch:=omega) only[↓RA,RZ,simprocAttr,hn,g2,g24,w1]
    refine iA (fun w2=> ?_) (fun w2=> ?_)
    ·simp(disch:=omega) only[↓RA,RZ,simprocAttr,hn,g0,g2,g4,g20,g24,lR,w1,w2]
     have hM1:=hS14.pick (os':=[⟨v,3,_⟩]) [0] (by decide) rfl
     have hR1:=hS14.pick (os':=[⟨v,3,_⟩]) [0] (by decide) rfl
     refine iG (c3W hM1.ay (by omega) i m en (by omega) (by omega) (by omega) k caps) ?_
     rintro r H17⟨rfl,hT4⟩
     have hS17:=hR1.frame hT4
     simp only[RT]at hS17
     simp(disch:=omega) only[↓RA,RZ,simprocAttr,hn,g0,g1,g3,g4,g18,g20,g24,w1,w2]
     exact⟨_,by rw[if_pos ⟨by omega,by omega⟩],hS17⟩
    simp(disch:=omega) only[↓RA,RZ,simprocAttr,hn,g0,g1,g3,g4,g18,g20,g24,lR,w1,w2]
    exact⟨xs,by rw[if_neg (by omega)],hS14⟩
   simp(disch:=omega) only[↓RA,RZ,simprocAttr,hn,g0,g1,g3,g4,g18,g20,g24,lR,w1]
   exact⟨xs,by rw[if_neg (by omega)],hS14⟩
  simp(disch:=omega) only[↓RA,RZ,simprocAttr,hn,g0,g1,g2,g3,g4,g18,g19,g20,q6,lR,je]
  exact hS12
 refine iA (fun q5=> ?_) (fun q5=> ?_)
 ·have jb:((mid+m:Nat):Int)-(b:Int)=((mid+m-b:Nat):Int):=by omega
  simp(disch:=omega) only[↓RA,RZ,simprocAttr,hn,g0,g1,g2,g3,g4,q,q2,lR,q5,jb]
  exact⟨mid+m-b,mid,⟨by rw[if_pos (by omega)],by rw[if_pos (by omega)]⟩,rfl,rfl,hS⟩
 simp(disch:=omega) only[↓RA,RZ,simprocAttr,hn,g0,g1,g2,g3,g4,q,q2,lR,q5]
 exact⟨a,m,⟨by rw[if_neg (by omega)],by rw[if_neg (by omega)]⟩,rfl,rfl,hS⟩
theorem a6Y{α:Type}[Inhabited α](lt:α→α→Bool)(a:Nat):∀(n i:Nat)(xs:List α),(a1f lt a n i xs).length=xs.length
 | 0,_,_=>rfl
 | n+1,i,xs=>by rw[a1f,a6Y lt a n,a1S]
theorem a7u{α:Type}[Inhabited α](lt:α→α→Bool)(a:Nat):∀(n i:Nat)(xs:List α),(n=0∨i+n≤xs.length)→∀x∈a1f lt a n i xs,x∈xs
 | 0,_,_,_,_,h=>h
 | n+1,i,xs,hi,x,h=>a7o lt a i xs (by omega) x (a7u lt a n (i+1) _ (by rw[a1S];omega) x h)
def a5A{α:Type}[Inhabited α](lt:α→α→Bool)(a b:Nat)(xs:List α):List α:=a1f lt a (b-(a+1)) (a+1) xs
theorem vB{α:Type}[Inhabited α](lt:α→α→Bool)(a b:Nat)(xs:List α):(a5A lt a b xs).length=xs.length:=a6Y ..
theorem a7B{α:Type}[Inhabited α](lt:α→α→Bool)(a b:Nat)(xs:List α)(hb:b≤xs.length):∀x∈a5A lt a b xs,x∈xs:=a7u lt a _ _ xs (by omega)
def xU{α:Type}[Inhabited α](lt:α→α→Bool)(N:Nat):Nat→Nat→List α→List α
 | 0,a,xs=>a5A lt a N xs
 | n+1,a,xs=>if a+20≤N then xU lt N n (a+20) (a5A lt a (a+20) xs)else a5A lt a N xs
def a0G{α:Type}[Inhabited α](lt:α→α→Bool)(N s:Nat):Nat→Nat→List α→List α
 | 0,a,xs=>if a+s<N then qX lt (N-a) xs a (a+s) N else xs
 | n+1,a,xs=>if a+2*s≤N then a0G lt N s n (a+2*s) (qX lt (2*s) xs a (a+s) (a+2*s))else if a+s<N then qX lt (N-a) xs a (a+s) N else xs
def sI{α:Type}[Inhabited α](lt:α→α→Bool)(N:Nat):Nat→Nat→List α→List α
 | 0,_,xs=>xs
 | n+1,s,xs=>if s<N then sI lt N n (s*2) (a0G lt N s N 0 xs)else xs
def uX{α:Type}[Inhabited α](lt:α→α→Bool)(xs:List α):List α:=sI lt xs.length xs.length 20 (xU lt xs.length xs.length 0 xs)
theorem b7I{α:Type}[Inhabited α](lt:α→α→Bool)(N s n a:Nat)(xs:List α)(h:¬a+2*s≤N):a0G lt N s n a xs=if a+s<N then qX lt (N-a) xs a (a+s) N else xs:=by
 cases n with
 | zero=>rfl
 | succ n=>rw[a0G,if_neg h]
theorem b4t{α:Type}[Inhabited α](lt:α→α→Bool)(N s n a:Nat)(xs:List α)(hn:0<n)(h:a+2*s≤N):a0G lt N s n a xs=a0G lt N s (n-1) (a+2*s) (qX lt (2*s) xs a (a+s) (a+2*s)):=by
 cases n with
 | zero=>omega
 | succ n=>rw[a0G,if_pos h];rfl
theorem b7n{α:Type}[Inhabited α](lt:α→α→Bool)(N n a:Nat)(xs:List α)(h:¬a+20≤N):xU lt N n a xs=a5A lt a N xs:=by
 cases n with
 | zero=>rfl
 | succ n=>rw[xU,if_neg h]
theorem b4j{α:Type}[Inhabited α](lt:α→α→Bool)(N n a:Nat)(xs:List α)(hn:0<n)(h:a+20≤N):xU lt N n a xs=xU lt N (n-1) (a+20) (a5A lt a (a+20) xs):=by
 cases n with
 | zero=>omega
 | succ n=>rw[xU,if_pos h];rfl
theorem b3M{α:Type}[Inhabited α](lt:α→α→Bool)(N n s:Nat)(xs:List α)(h:¬s<N):sI lt N n s xs=xs:=by
 cases n with
 | zero=>rfl
 | succ n=>rw[sI,if_neg h]
theorem a1H{α:Type}[Inhabited α](lt:α→α→Bool)(N n s:Nat)(xs:List α)(hn:0<n)(h:s<N):sI lt N n s xs=sI lt N (n-1) (s*2) (a0G lt N s N 0 xs):=by
 cases n with
 | zero=>omega
 | succ n=>rw[sI,if_pos h];rfl
theorem b3T{B:Base}{v:Value}{xs:List Hr}(hS:St prog B H [⟨v,3,xs.flatMap jS⟩])(hl:xs.length<30000)(k:FuncId)(caps:List Value){Q:Hr→Prop}{lt:Hr→Hr→Bool}(hk:CmpK B k caps Q lt)(hQ:∀x∈xs,Q x):
 Fn prog 59 [v,I xs.length,.func (.func k) #[] caps.toArray] H fun r H'=>r=.tuple #[]∧St prog B H' [⟨v,3,(uX lt xs).flatMap jS⟩]:=by
 obtain⟨N,hN⟩:∃N,N=xs.length:=⟨_,rfl⟩
 rw[←hN]at hl ⊢
 refine .bk func59 rfl (by kernel_rfl) (m:=63) rfl fun l hn g0 g1 g2=> ?_
 simp(disch:=omega) only[↓RA,RB,simprocAttr,hn]
 refine Wp.aj (fun n l H'=>l.length=63∧get l 1=I N∧get l 2=.func (.func k) #[] caps.toArray∧get l 6=I 20∧∃(ys:List Hr)(a:Nat)(b:Nat),(b=a+20∧a≤N∧N≤n+a∧ys.length=N∧(∀x∈ys,Q x)∧xU lt N n a ys=xU lt N N 0 xs)∧get l 7=I a∧get l 8=I b∧get l 0=v∧St prog B H' [⟨v,3,ys.flatMap jS⟩]) N ?_ ?_
 ·simp(disch:=omega) only[RB,RC,simprocAttr,hn,g0,g1,g2]
  exact⟨xs,0,20,⟨rfl,by omega,by omega,hN.symm,hQ,rfl⟩,rfl,rfl,hS⟩
 rintro n l H1⟨hn,g1,g2,g6,ys,a,b,⟨c1,c2,c3,c4,c5,c6⟩,g7,g8,g0,hS1⟩
 simp(disch:=omega) only[↓RA,RB,simprocAttr,hn,g1,g8]
 refine iA (fun q1=> ?_) (fun q1=> ?_)
 ·simp(disch:=omega) only[↓RA,RZ,simprocAttr,hn,g2,g7,g8,g0,q1]
  refine iG (b6z hS1 (by omega) a b (by omega) (by omega) k caps hk c5) ?_
  rintro r H90⟨rfl,hS90⟩
  have e1:a1f lt a (b-(a+1)) (a+1) ys=a5A lt a (a+20) ys:=by rw[c1];rfl
  rw[e1]at hS90
  have j1:(b:Int)+20=((b+20:Nat):Int):=rfl
  simp(disch:=omega) only[↓RA,RZ,simprocAttr,hn,g1,g2,g6,g8,g0,q1,j1]
  exact⟨n-1,by omega,a5A lt a (a+20) ys,b,b+20,⟨by omega,by omega,by omega,by rw[vB];exact c4,fun x hx=>c5 x (a7B lt _ _ _ (by omega) x hx),by rw[←c6,b4j _ _ n _ _ (by omega) (by omega),c1]⟩,rfl,rfl,hS90⟩
 rw[b7n _ _ _ _ _ (by omega)]at c6
 simp(disch:=omega) only[↓RA,RZ,simprocAttr,hn,g1,g2,g7,g0,q1]
 refine iG (b6z hS1 (by omega) a N c2 (by omega) k caps hk c5) ?_
 rintro r H91⟨rfl,hS91⟩
 have e2:a1f lt a (N-(a+1)) (a+1) ys=xU lt N N 0 xs:=c6
 rw[e2]at hS91
 obtain⟨ws,hws⟩:∃ws,ws=xU lt N N 0 xs:=⟨_,rfl⟩
 rw[←hws]at hS91 c6
 have hwl:ws.length=N:=by rw[←c6,vB];exact c4
 have hwQ:∀x∈ws,Q x:=by rw[←c6];exact fun x hx=>c5 x (a7B lt _ _ _ (by omega) x hx)
 have hfin:uX lt xs=sI lt N N 20 ws:=by unfold uX;rw[←hN,←hws]
 simp(disch:=omega) only[↓RA,RC,simprocAttr,q1]
 refine Wp.aj (fun n l H'=>l.length=63∧get l 1=I N∧get l 2=.func (.func k) #[] caps.toArray∧∃(us:List Hr)(s:Nat),(20≤s∧s≤60000∧N≤n+s∧us.length=N∧(∀x∈us,Q x)∧sI lt N n s us=sI lt N N 20 ws)∧get l 6=I s∧get l 0=v∧St prog B H' [⟨v,3,us.flatMap jS⟩]) N ?_ ?_
 ·simp(disch:=omega) only[RB,RC,simprocAttr,hn,g1,g2,g6,g0]
  exact⟨ws,20,⟨by omega,by omega,by omega,hwl,hwQ,rfl⟩,rfl,hS91⟩
 rintro n l H2⟨hn,g1,g2,us,s,⟨d1,d2,d3,d4,d5,d6⟩,g6,g0,hS2⟩
 simp(disch:=omega) only[↓RA,RB,simprocAttr,hn,g1,g6]
 refine iA (fun q2=> ?_) (fun q2=> ?_)
 ·obtain⟨n0,hn0⟩:∃n0,n0=n:=⟨_,rfl⟩
  rw[←hn0]at d3 d6
  have j2:(2:Int)*(s:Int)=((2*s:Nat):Int):=rfl
  simp(disch:=omega) only[↓RA,RZ,simprocAttr,hn,g6,q2,j2]
  refine Wp.aj (fun n l H'=>l.length=63∧get l 1=I N∧get l 2=.func (.func k) #[] caps.toArray∧get l 6=I s∧∃(zs:List Hr)(p:Nat)(o:Nat),(o=p+2*s∧p≤N∧N≤n+p∧zs.length=N∧(∀x∈zs,Q x)∧a0G lt N s n p zs=a0G lt N s N 0 us)∧get l 7=I p∧get l 8=I o∧get l 0=v∧St prog B H' [⟨v,3,zs.flatMap jS⟩]) N ?_ ?_
  ·simp(disch:=omega) only[RB,RC,simprocAttr,hn,g1,g2,g6,g0]
   exact⟨us,0,2*s,⟨by omega,by omega,by omega,d4,d5,rfl⟩,rfl,rfl,hS2⟩
  rintro n l H3⟨hn,g1,g2,g6,zs,p,o,⟨f1,f2,f3,f4,f5,f6⟩,g7,g8,g0,hS3⟩
  have j3:(p:Int)+(s:Int)=((p+s:Nat):Int):=rfl
  simp(disch:=omega) only[↓RA,RB,simprocAttr,hn,g1,g8]
  refine iA (fun q3=> ?_) (fun q3=> ?_)
  ·have j4:(o:Int)+((2*s:Nat):Int)=((o+2*s:Nat):Int):=rfl
   simp(disch:=omega) only[↓RA,RZ,simprocAttr,hn,g2,g6,g7,g8,g0,j3,q3]
   refine iG (b1U k caps hk (2*s) zs p (p+s) o (by omega) hS3 (by omega) (by omega) (by omega) (by omega) f5) ?_
   rintro r H92⟨rfl,hS92⟩
   simp(disch:=omega) only[↓RA,RZ,simprocAttr,hn,g1,g2,g6,g8,g0,j2,q3,j4]
   exact⟨n-1,by omega,qX lt (2*s) zs p (p+s) o,o,o+2*s,⟨rfl,by omega,by omega,by rw[pL];exact f4,fun x hx=>f5 x (uM lt _ _ _ _ _ (by omega) (by omega) (by omega) x hx),by rw[←f6,b4t _ _ _ n _ _ (by omega) (by omega),f1]⟩,rfl,rfl,hS92⟩
  rw[b7I _ _ _ _ _ _ (by omega)]at f6
  have j5:(s:Int)*2=((s*2:Nat):Int):=rfl
  simp(disch:=omega) only[↓RA,RZ,simprocAttr,hn,g1,g6,g7,j3,q3]
  refine iA (fun q4=> ?_) (fun q4=> ?_)
  ·rw[if_pos (by omega)]at f6
   simp(disch:=omega) only[↓RA,RZ,simprocAttr,hn,g1,g2,g7,g0,q3,q4]
   refine iG (b1U k caps hk (N-p) zs p (p+s) N (by omega) hS3 (by omega) (by omega) (by omega) (by omega) f5) ?_
   rintro r H93⟨rfl,hS93⟩
   simp(disch:=omega) only[↓RA,RZ,simprocAttr,hn,g1,g2,g6,g0,q3,j5,q4]
   exact⟨n0-1,by omega,qX lt (N-p) zs p (p+s) N,s*2,⟨by omega,by omega,by omega,by rw[pL];exact f4,fun x hx=>f5 x (uM lt _ _ _ _ _ (by omega) (by omega) (by omega) x hx),by rw[←d6,a1H _ _ n0 _ _ (by omega) (by omega),←f6]⟩,rfl,hS93⟩
  rw[if_neg (by omega)]at f6
  simp(disch:=omega) only[↓RA,RZ,simprocAttr,hn,g1,g2,g6,g0,q3,j5,q4]
  exact⟨n0-1,by omega,zs,s*2,⟨by omega,by omega,by omega,f4,f5,by rw[←d6,a1H _ _ n0 _ _ (by omega) (by omega),←f6]⟩,rfl,hS3⟩
 rw[b3M _ _ _ _ _ (by omega)]at d6
 simp(disch:=omega) only[↓RA,RZ,simprocAttr,c4S,q2]
 rw[hfin,←d6]
 exact hS2
theorem a2Y{B:Base}{v:Value}{xs:List Hr}(hS:St prog B H [⟨v,3,xs.flatMap jS⟩])(hl:xs.length<30000)(k:FuncId)(caps:List Value){Q:Hr→Prop}{lt:Hr→Hr→Bool}(hk:CmpK B k caps Q lt)(hQ:∀x∈xs,Q x):
 Fn prog 23 [v,.func (.func k) #[] caps.toArray] H fun r H'=>r=.tuple #[]∧St prog B H' [⟨v,3,(uX lt xs).flatMap jS⟩]:=by
 refine .aF func23 rfl (by kernel_rfl) (m:=9) rfl fun l hn g0 g1=> ?_
 simp(disch:=omega) only[↓RA,RZ,simprocAttr,hn,g0,g1,(hS.av 0 rfl (fun _=>rfl)).len]
 refine iG (b3T hS hl k caps hk hQ) ?_
 rintro r H90⟨rfl,hS90⟩
 simp(disch:=omega) only[↓RA,RZ,simprocAttr,c6h]
 exact hS90
end Go.Ds
namespace Go.Ds
open Go.Proofs Go.Proofs.Tryz
variable {H:Heap}
set_option maxRecDepth 10000
set_option maxHeartbeats 1000000
def ltN:Hr→Hr→Bool:=fun x y=>decide (x.2<y.2)
def yH(o:Org)(p:Ct):Hr:=(p,(iB o.ranks p.1.toNat).first+p.2+zV ((iB o.ranks p.1.toNat).num,(iB o.ranks p.1.toNat).den) (8,1))
def c5Y(o:Org):Prop:=∀r∈o.ranks,(r.num,r.den)∈lA∧-1000≤r.first∧r.first≤1000
theorem b8C(x y:Hr):Fn prog 51 [.agg #[I x.1.1,I x.1.2,I x.2],.agg #[I y.1.1,I y.1.2,I y.2]] H fun r H'=>r=I (qY x.2 y.2)∧St prog H H' []:=by
 refine .aF func51 rfl (by kernel_rfl) (m:=10) rfl fun l hn g0 g1=> ?_
 simp(disch:=omega) only[↓RA,RB,simprocAttr,g0]
 refine(sR H).eNew 3 [I x.1.1,I x.1.2,I x.2] rfl rfl rfl zX fun A1 H1 hS1=> ?_
 simp only[RT]at hS1
 simp(disch:=omega) only[↓RA,RB,simprocAttr,g1]
 refine hS1.eNew 3 [I y.1.1,I y.1.2,I y.2] rfl rfl rfl zX fun A2 H2 hS2=> ?_
 simp only[RT]at hS2
 simp(disch:=omega) only[↓RA,RZ,simprocAttr,hn,hS2.ld 0 rfl,hS2.ld 1 rfl]
 refine hS2.cF (sV x.2 y.2) fun H3 hS3=> ?_
 simp(disch:=omega) only[↓RA,RZ,simprocAttr,hn,c7F]
 first|exact hS3.forget|exact⟨rfl,hS3.forget⟩
theorem c4q{B:Base}:CmpK B 51 [] (fun _=>True) ltN:=by
 refine⟨fun x y=>qY x.2 y.2,fun x y _ _=> ?_,fun x y _ _{H1 os}_=>b8C x y⟩
 show(qY x.2 y.2<0↔decide (x.2<y.2)=true)
 unfold qY
 rw[decide_eq_true_eq]
 split
 ·exact⟨fun _=>by assumption,fun _=>by decide⟩
 ·split<;>constructor<;>intro h<;>omega
theorem b4H(hG:Glob gH H)(o:Org)(ho:o.In H)(hrk:c5Y o)(rg:Reg)(sv:Value)(hr:rg.In H sv)(kv:Value)(ks:List Nt)(hk:Ks H kv ks)(h0:rkE o rg ks=0)(ps:List Ct)(hsp:a0v o rg ks=ps)(hll:ps.length<30000)(hlp:∀p∈ps,0≤p.1∧p.1<o.ranks.length∧0≤p.2∧p.2<1000):
 Fn prog 19 [.agg #[.string o.name,o.rv,o.dv,o.cv],.agg #[sv,.int .u64 rg.cpl,.int .u64 rg.off],kv] H fun r H'=>∃hv,r=.tuple #[hv,I 0]∧St prog H H' [⟨hv,3,(uX ltN (ps.map (yH o))).flatMap jS⟩]:=by
 refine .bk func19 rfl (by kernel_rfl) (m:=61) rfl fun l hn g0 g1 g2=> ?_
 simp(disch:=omega) only[↓RA,RB,simprocAttr,g0]
 refine(sR H).eNew 4 [(.string o.name),o.rv,o.dv,o.cv] rfl rfl (by simp[OC,((sR H).sl ho.1).cells.2.1,((sR H).sl ho.2.2.1).cells.2.1,((sR H).sl ho.2.2.2.2.1).cells.2.1]) mX fun A1 H1 hS1=> ?_
 simp only[RT]at hS1
 simp(disch:=omega) only[↓RA,RB,simprocAttr,g1]
 refine hS1.eNew 3 [sv,(.int .u64 rg.cpl),(.int .u64 rg.off)] rfl rfl (by simp[OC,(hS1.sl hr.1).cells.2.1]) qV fun A2 H2 hS2=> ?_
 simp only[RT]at hS2
 simp(disch:=omega) only[↓RA,RZ,simprocAttr,hn,g2,hS2.ai 0 rfl,hS2.ai 1 rfl]
 refine iG (rM (hS2.gl hG) o (ho.ak hS2) rg sv (hr.ak hS2) kv ks (hk.ak hS2)) ?_
 rintro r H3⟨pv,rfl,hx,hT1⟩
 have hS3:=hS2.trans hT1
 simp only[RT]at hS3
 rw[h0]
 rw[hsp]at hx
 have hS0:=hS3
 have ho2:=ho.ak hS0
 have hG2:=hS0.gl hG
 simp(disch:=omega) only[↓RA,RZ,simprocAttr,hn,((sR H3).sl hx.1).len]
 have hS4:=(sR H3).nil 2
 simp only[RT]at hS4
 refine Wp.aj (fun n l H'=>l.length=61∧get l 3=(ptr A1 0 4)∧get l 6=(.slice none 0 0)∧get l 7=I 0∧get l 26=pv∧get l 27=I ps.length∧∃(j:Nat)(ov:Value),(n+j=ps.length)∧get l 28=I j∧get l 10=ov∧St prog H3 H' [⟨ov,3,((ps.take j).map (yH o)).flatMap jS⟩]) ps.length ?_ ?_
 ·simp(disch:=omega) only[RB,RC,simprocAttr,hn]
  exact⟨0,.slice none 0 0,by omega,rfl,rfl,hS4⟩
 rintro n l H4⟨hn,g3,g6,g7,g26,g27,j,ov,hj,g28,nH,hS5⟩
 simp(disch:=omega) only[↓RA,RB,simprocAttr,hn,g27,g28]
 refine iA (fun q1=> ?_) (fun q1=> ?_)
 ·have hpj:=hlp _ (iD (xs:=ps) (j:=j) (by omega))
  obtain⟨e,he⟩:∃e:Nat,(iB ps j).1=e:=⟨(iB ps j).1.toNat,by have:=hpj.1;omega⟩
  obtain⟨m,hm⟩:∃m:Nat,(iB ps j).2=m:=⟨(iB ps j).2.toNat,by have:=hpj.2.2.1;omega⟩
  have hel:e<o.ranks.length:=by have:=hpj.2.1;omega
  have hml:m<1000:=by have:=hpj.2.2.2;omega
  have hre:=hrk _ (iD hel)
  have hlt:(((ps.take j).map (yH o)).flatMap jS).length=j*3:=by rw[iL (n:=3) (cel:=jS) (fun _=>rfl),dK,fz];omega
  simp(disch:=omega) only[↓RA,RZ,simprocAttr,hn,g26,g28,(hS5.sl hx.1).idx,(hS5.sl hx.1).ai,jV,q1,he,hm]
  refine hS5.eNew 2 [I 0,I 0] rfl rfl rfl rQ fun A3 H5 hS6=> ?_
  simp only[RT]at hS6
  simp(disch:=omega) only[↓RA,RZ,simprocAttr,hn,q1]
  refine hS6.aa 1 rfl [I e,I m] rfl rfl rQ (by simp) fun H6 hS7=> ?_
  simp only[RT]at hS7
  simp(disch:=omega) only[↓RA,RZ,simprocAttr,hn,g3,((hS0.var 0 rfl).ak hS7.ak).ld,hS7.ld 1 rfl,(hS7.sl ho2.1).idx,(hS7.sl ho2.1).ai,Rk.cells,q1]
  refine hS7.eNew 6 [(.string ⟨#[]⟩),(.string ⟨#[]⟩),I 0,I 0,I 0,(.slice none 0 0)] rfl rfl rfl tX fun A4 H7 hS8=> ?_
  simp only[RT]at hS8
  simp(disch:=omega) only[↓RA,RZ,simprocAttr,hn,q1]
  refine hS8.aa 2 rfl [(.string (iB o.ranks e).name),(.string (iB o.ranks e).tone),I (iB o.ranks e).num,I (iB o.ranks e).den,I (iB o.ranks e).first,(iB o.ranks e).wv] rfl (by simp[OC,(hS8.sl (ho2.2.1 (iB o.ranks e) (iD (by omega))).1).cells.2.1]) tX (by simp) fun H8 hS9=> ?_
  simp only[RT]at hS9
  simp(disch:=omega) only[↓RA,RZ,simprocAttr,hn,hS9.ai 2 rfl,qQ,q1]
  refine iG (b0q (hS9.gl hG2) (a:=((iB o.ranks e).num,(iB o.ranks e).den)) hre.1) ?_
  rintro r H9⟨⟨rfl,hn1,hn2⟩,hT2⟩
  have hS10:=hS9.trans hT2
  simp only[RT]at hS10
  simp(disch:=omega) only[↓RA,RZ,simprocAttr,hn,nH,hS10.ai 1 rfl,hS10.ld 2 rfl,hS10.ld 1 rfl,zU,q1]
  refine hS10.ag [I e,I m,_] b1g b8D rfl rfl (by simp[Value.cells]) rfl rfl (by decide) (by decide) fun w1 H10 hS11=> ?_
  simp only[RT]at hS11
  simp(disch:=omega) only[↓RA,RZ,simprocAttr,hn,q1]
  refine hS11.aq 0 rfl (hS11.rd 3 rfl) b1g (by rw[hlt];simp;omega) fun w2 H11 hS12=> ?_
  simp only[RT]at hS12
  simp(disch:=omega) only[↓RA,RZ,simprocAttr,hn,g3,g6,g7,g26,g27,g28,q1]
  have hpe:iB ps j=((e:Int),(m:Int)):=fN he hm
  have hap:((ps.take j).map (yH o)).flatMap jS++[I e,I m,I ((iB o.ranks e).first+m+zV ((iB o.ranks e).num,(iB o.ranks e).den) (8,1))]=((ps.take (j+1)).map (yH o)).flatMap jS:=by
   rw[rO ps j (by omega),dM,dz,hpe]
   rfl
  rw[hap]at hS12
  exact⟨n-1,by omega,j+1,w2,by omega,by simp,rfl,hS12.pick [0] (by decide) rfl⟩
 have hj1:j=ps.length:=by omega
 simp(disch:=omega) only[↓RA,RZ,simprocAttr,hn,nH,q1]
 rw[hj1,dU]at hS5
 have hnt:=(hS5.av (cel:=jS) 0 rfl (fun _=>rfl)).bC
 refine iG (a2Y hS5 (by rw[dK];exact hll) 51 [] c4q (fun _ _=>trivial)) ?_
 rintro r H90⟨rfl,hS90⟩
 simp(disch:=omega) only[↓RA,RZ,simprocAttr,hn,nH,c5q,q1,hnt]
 exact⟨ov,rfl,hS0.forget.trans hS90⟩
end Go.Ds
namespace Go.Ds
open Go.Proofs
set_option maxRecDepth 10000
def ltP(x y:Int×Int):Prop:=x.1<y.1∨(x.1=y.1∧x.2<y.2)
theorem a5f{x:Int×Int}:¬ltP x x:=by unfold ltP;omega
theorem b4K{x y z:Int×Int}(h:ltP x y)(k:ltP y z):ltP x z:=by unfold ltP at*;omega
theorem vR:∀(l m:List (Int×Int)),l.Pairwise ltP→m.Pairwise ltP→(∀x,x∈l↔x∈m)→l=m
 | [],[],_,_,_=>rfl
 | [],b::m,_,_,h=>absurd ((h b).2 (dG ..)) dV
 | a::l,[],_,_,h=>absurd ((h a).1 (dG ..)) dV
 | a::l,b::m,hl,hm,h=>by
   rw[gM]at hl hm
   have hab:a=b:=by
    rcases dS.1 ((h a).1 (dG ..))with e|e
    ·exact e
    ·rcases dS.1 ((h b).2 (dG ..))with e2|e2
     ·exact e2.symm
     ·exact absurd (b4K (hm.1 a e) (hl.1 b e2)) a5f
   subst hab
   congr 1
   refine vR l m hl.2 hm.2 fun x=> ?_
   constructor
   ·intro hx
    rcases dS.1 ((h x).1 (dN _ hx))with e|e
    ·subst e
     exact absurd (hl.1 x hx) a5f
    ·exact e
   ·intro hx
    rcases dS.1 ((h x).2 (dN _ hx))with e|e
    ·subst e
     exact absurd (hm.1 x hx) a5f
    ·exact e
theorem b6B{es:List (Int×Int)}(h:es.Pairwise fun a b=>le2 a b=true){i j:Nat}(hij:i<j)(hj:j<es.length):le2 (iB es i) (iB es j)=true:=by
 rw[kC _ _ (by omega),kC _ _ hj]
 exact eG.1 h i j (by omega) hj hij
theorem b0S{es:List (Int×Int)}(h:es.Pairwise fun a b=>le2 a b=true):∀m,m≤es.length→(yW es m).Pairwise ltP∧∀x,x∈yW es m↔∃j,j<m∧iB es j=x
 | 0,_=>⟨by simp[yW],fun x=>by simp[yW]⟩
 | m+1,hm=>by
   obtain⟨h1,h2⟩:=b0S h m (by omega)
   rw[rV]
   by_cases hc:m=0∨iB es m≠iB es (m-1)
   ·rw[if_pos hc]
    refine⟨?_,fun x=> ?_⟩
    ·rw[eV]
     refine⟨h1,by simp,fun a ha b hb=> ?_⟩
     obtain⟨j,hj,rfl⟩:=(h2 a).1 ha
     obtain rfl:=dH.1 hb
     have h3:=(nO _ _).1 (b6B h hj (by omega))
     rcases hc with hc|hc
     ·omega
     ·by_cases he:j=m-1
      ·subst he
       have hne:¬(iB es (m-1)=iB es m):=fun e=>hc e.symm
       rw[Prod.ext_iff]at hne
       unfold ltP
       omega
      ·have h4:=(nO _ _).1 (b6B h (show j<m-1 by omega) (by omega))
       have h5:=(nO _ _).1 (b6B h (show m-1<m by omega) (by omega))
       have hne:¬(iB es (m-1)=iB es m):=fun e=>hc e.symm
       rw[Prod.ext_iff]at hne
       unfold ltP
       omega
    ·rw[dE,h2,dH]
     constructor
     ·rintro(⟨j,hj,e⟩|e)
      ·exact⟨j,by omega,e⟩
      ·exact⟨m,by omega,e.symm⟩
     ·rintro⟨j,hj,e⟩
      rcases dm.1 hj with e2|e2
      ·exact .inl ⟨j,e2,e⟩
      ·subst e2
       exact .inr e.symm
   ·rw[if_neg hc,di]
    refine⟨h1,fun x=> ?_⟩
    rw[h2]
    constructor
    ·rintro⟨j,hj,e⟩
     exact⟨j,by omega,e⟩
    ·rintro⟨j,hj,e⟩
     rcases dm.1 hj with e2|e2
     ·exact⟨j,e2,e⟩
     ·subst e2
      have hc':¬(j=0)∧iB es j=iB es (j-1):=⟨fun e=>hc (.inl e),fO fun e=>hc (.inr e)⟩
      exact⟨j-1,by omega,by rw[←hc'.2];exact e⟩
theorem a5z(l:List (Int×Int)):(dd (oS l)).Pairwise ltP:=(b0S (tB l) _ (db _)).1
theorem rG{l:List (Int×Int)}{x:Int×Int}:x∈dd (oS l)↔x∈l:=by
 unfold dd
 rw[(b0S (tB l) _ (db _)).2 x,←(mU l).mem_iff]
 constructor
 ·rintro⟨j,hj,rfl⟩
  exact iD hj
 ·intro hx
  obtain⟨j,hj,e⟩:=dO.1 hx
  exact⟨j,hj,by rw[kC _ _ hj];exact e⟩
theorem b2h{l m:List (Int×Int)}(h:∀x,x∈l↔x∈m):dd (oS l)=dd (oS m):=
 vR _ _ (a5z l) (a5z m) fun x=>by rw[rG,rG,h]
inductive Star{α:Type}(R:α→α→Prop):α→α→Prop
 | refl (a:α):Star R a a
 | tail {a b c:α}:Star R a b→R b c→Star R a c
theorem a1P(o:Org)(cp:Nat)(l:List Ct):Que o (kK o cp l):=by
 unfold kK
 have h:∀(l:List Ct)(q:List Ct),Que o q→Que o (l.foldl (fun q c=>stepF o cp false c q) q):=by
  intro l
  induction l with
  | nil=>exact fun q h=>h
  | cons a l ih=>exact fun q h=>ih _ (h.stepF cp false a)
 exact h l [] (Que.nil o)
theorem b3F(o:Org)(r:Reg)(l:List Ct):(jP o r l).Pairwise ltP:=a5z _
def IsP(o:Org)(p:Ct):Prop:=0≤p.1∧p.1<o.ranks.length∧0≤p.2∧p.2<(iB o.ranks p.1.toNat).wind.length
theorem b1d{rs:List Rk}{s:Stp}{key:Int}{p:Ct}(h:p∈pT rs s key):0≤p.1∧p.1<rs.length∧0≤p.2∧p.2<(iB rs p.1.toNat).wind.length:=by
 unfold pT at h
 obtain⟨d,hd,rfl⟩:=dr.1 (rG.1 h)
 have hh:=(ew.1 hd).2
 unfold qW at hh
 rw[cU,cU,dw,decide_eq_true_eq,decide_eq_true_eq,decide_eq_false_iff_not]at hh
 obtain⟨⟨h1,h2⟩,h3⟩:=hh
 have e:(mG rs d key).1=d.rank:=by unfold mG;rw[if_neg h1]
 rw[e]
 exact⟨by omega,by omega,h2,h3⟩
theorem xJ{o:Org}{r:Reg}{c p:Ct}(h:p∈mS o r c):IsP o p:=by
 unfold mS at h
 obtain⟨i,_,h⟩:=dR.1 h
 split at h
 ·exact b1d h
 ·exact absurd h dV
theorem a6L{o:Org}{r:Reg}{l:List Ct}{p:Ct}(h:p∈wV o r l):IsP o p:=by
 unfold wV at h
 obtain⟨c,_,h⟩:=dR.1 (rG.1 h)
 exact xJ h
theorem b0G{o:Org}{r:Reg}{l:List Ct}{p:Ct}(h:p∈jP o r l):IsP o p:=a6L h
theorem IsP.small{o:Org}{H:Heap}(hf:o.Fine)(ho:o.In H){p:Ct}(h:IsP o p): -1000000000≤p.1∧p.1≤1000000000∧-1000000000≤p.2∧p.2≤1000000000:=by
 obtain⟨h1,h2,h3,h4⟩:=h
 have hr:=(ho.2.1 _ (iD (xs:=o.ranks) (j:=p.1.toNat) (by omega))).2
 have:=hf.rlen
 exact⟨by omega,by omega,by omega,by omega⟩
structure SegsOk(m:Nat)(lo hi:Int)(gs:List Seg):Prop where
 ord:∀i,i<gs.length→(iB gs i).lo≤(iB gs i).hi
 up:∀i,i<gs.length→0<i→(iB gs (i-1)).hi<(iB gs i).lo
 within:∀i,i<gs.length→lo≤(iB gs i).lo∧(iB gs i).hi≤hi
 draws:∀i,i<gs.length→kT m (iB gs i).draws=0
 len:gs.length≤12
theorem a0b{o:Org}(h:organE o=0){j:Nat}(hj:j<o.dvs.length){s:Stp}(hs:s∈(iB o.dvs j).stops):SegsOk o.ranks.length (iB o.dvs j).lo (iB o.dvs j).hi s.segs:=by
 unfold organE at h
 split at h
 ·omega
 split at h
 ·omega
 split at h
 ·rename_i hh;exact absurd h hh
 split at h
 ·omega
 split at h
 ·omega
 split at h
 ·rename_i hh;exact absurd h hh
 rename_i h6
 have h6:=dx.1 h6
 have e:=nY h6 j hj
 unfold sW at e
 split at e
 ·omega
 split at e
 ·omega
 unfold divE at e
 split at e
 ·rename_i hh;exact absurd e hh
 split at e
 ·omega
 obtain⟨k,hk,rfl⟩:=dO.1 hs
 have e2:=nY e k hk
 unfold oO at e2
 rw[kC _ k hk]at e2
 split at e2
 ·rename_i hh;exact absurd e2 hh
 rename_i e3
 have e3:=dx.1 e3
 unfold stopE at e3
 split at e3
 ·rename_i hh;exact absurd e3 hh
 split at e3
 ·omega
 split at e3
 ·rename_i hh;exact absurd e3 hh
 split at e3
 ·omega
 split at e3
 ·omega
 have key:∀i,i<((iB o.dvs j).stops[k]).segs.length→(iB ((iB o.dvs j).stops[k]).segs i).lo≤(iB ((iB o.dvs j).stops[k]).segs i).hi∧(0<i→(iB ((iB o.dvs j).stops[k]).segs (i-1)).hi<(iB ((iB o.dvs j).stops[k]).segs i).lo)∧((iB o.dvs j).lo≤(iB ((iB o.dvs j).stops[k]).segs i).lo∧(iB ((iB o.dvs j).stops[k]).segs i).hi≤(iB o.dvs j).hi)∧kT o.ranks.length (iB ((iB o.dvs j).stops[k]).segs i).draws=0:=by
  intro i hi
  have e4:=nY e3 i hi
  unfold kW at e4
  split at e4
  ·omega
  split at e4
  ·omega
  exact⟨by omega,fun h0=>by omega,⟨by omega,by omega⟩,e4⟩
 exact⟨fun i hi=>(key i hi).1,fun i hi=>(key i hi).2.1,fun i hi=>(key i hi).2.2.1,fun i hi=>(key i hi).2.2.2,by omega⟩
theorem SegsOk.lt{m:Nat}{lo hi:Int}{gs:List Seg}(h:SegsOk m lo hi gs){i:Nat}:∀k,i+1+k<gs.length→(iB gs i).hi<(iB gs (i+1+k)).lo
 | 0,hk=>h.up (i+1) hk (by omega)
 | k+1,hk=>by
   have h1:=h.lt (i:=i) k (by omega)
   have h2:=h.ord (i+1+k) (by omega)
   have h3:=h.up (i+1+(k+1)) hk (by omega)
   rw[show i+1+(k+1)-1=i+1+k by omega]at h3
   omega
theorem SegsOk.one{m:Nat}{lo hi:Int}{gs:List Seg}(h:SegsOk m lo hi gs){key:Int}{i j:Nat}(hi':i<gs.length)(hj:j<gs.length)(h1:(iB gs i).lo≤key∧key≤(iB gs i).hi)(h2:(iB gs j).lo≤key∧key≤(iB gs j).hi):i=j:=by
 rcases Nat.lt_trichotomy i j with e|e|e
 ·have:=h.lt (i:=i) (j-i-1) (by omega)
  rw[show i+1+(j-i-1)=j by omega]at this
  omega
 ·exact e
 ·have:=h.lt (i:=j) (i-j-1) (by omega)
  rw[show j+1+(i-j-1)=i by omega]at this
  omega
theorem a8D{m:Nat}{lo hi:Int}{s:Stp}(h:SegsOk m lo hi s.segs){key:Int}{d:Drw}:d∈a6k s key↔∃i,i<s.segs.length∧uK s key i=true∧d∈(iB s.segs i).draws:=by
 unfold a6k
 by_cases hf:pD (uK s key) s.segs.length<0
 ·rw[if_pos hf]
  constructor
  ·intro hd;exact absurd hd dV
  ·rintro⟨i,hi',hp,_⟩
   have:=(zA (uK s key) s.segs.length).2 ⟨i,hi',hp⟩
   omega
 ·rw[if_neg hf]
  obtain⟨k,hk⟩:∃k:Nat,pD (uK s key) s.segs.length=k:=⟨(pD (uK s key) s.segs.length).toNat,by omega⟩
  have hkl:=a1u hk
  have hkp:uK s key k=true:=by
   unfold pD at hk
   cases e:(List.range s.segs.length).find? (uK s key)with
   | none=>rw[e]at hk;simp only at hk;omega
   | some j=>
     rw[e]at hk
     have hk:(j:Int)=k:=hk
     have:=List.find?_some e
     rw[show k=j by omega]
     exact this
  rw[hk,eK]
  constructor
  ·intro hd;exact⟨k,hkl,hkp,hd⟩
  ·rintro⟨i,hi',hp,hd⟩
   unfold uK at hp hkp
   rw[cU,decide_eq_true_eq,decide_eq_true_eq]at hp hkp
   rw[h.one hkl hi' hkp hp]
   exact hd
def rN(o:Org)(g:Seg)(key:Int):List Ct:=if g.lo≤key∧key≤g.hi then(g.draws.filter fun d=>qW o.ranks d key).map fun d=>mG o.ranks d key else[]
def vC(o:Org)(r:Reg)(c:Ct)(i:Nat):List Ct:=if(iB r.stops c.1.toNat).testBit i then(iB (iB o.dvs c.1.toNat).stops i).segs.flatMap fun g=>rN o g c.2 else[]
def pQ(o:Org)(r:Reg)(c:Ct):List Ct:=(List.range (iB o.dvs c.1.toNat).stops.length).flatMap (vC o r c)
theorem vL{o:Org}(h:organE o=0){r:Reg}{c:Ct}(hc:nD o c=true){p:Ct}:p∈pQ o r c↔p∈mS o r c:=by
 have hc':=(mE o c).1 hc
 unfold pQ mS
 rw[dR,dR]
 refine exists_congr fun i=>and_congr_right fun hi=> ?_
 have hi:=dq.1 hi
 unfold vC
 split
 ·have hso:=a0b h (j:=c.1.toNat) (by omega) (iD hi)
  unfold pT
  rw[rG,dr,dR]
  constructor
  ·rintro⟨g,hg,hp⟩
   unfold rN at hp
   split at hp
   ·rename_i hk
    obtain⟨d,hd,rfl⟩:=dr.1 hp
    obtain⟨hd1,hd2⟩:=ew.1 hd
    obtain⟨k,hk',rfl⟩:=dO.1 hg
    refine⟨d,ew.2 ⟨(a8D hso).2 ⟨k,hk',?_,by rw[kC _ k hk'];exact hd1⟩,hd2⟩,rfl⟩
    unfold uK
    rw[kC _ k hk',decide_eq_true hk.1,decide_eq_true hk.2]
    rfl
   ·exact absurd hp dV
  ·rintro⟨d,hd,rfl⟩
   obtain⟨hd1,hd2⟩:=ew.1 hd
   obtain⟨k,hk,hp,hd1⟩:=(a8D hso).1 hd1
   refine⟨iB _ k,iD hk,?_⟩
   unfold rN
   unfold uK at hp
   rw[cU,decide_eq_true_eq,decide_eq_true_eq]at hp
   rw[if_pos hp]
   exact dr.2 ⟨d,ew.2 ⟨hd1,hd2⟩,rfl⟩
 ·exact Iff.rfl
theorem b8E{o:Org}(h:organE o=0){r:Reg}{c:Ct}(hc:nD o c=true):dd (oS (pQ o r c))=dd (oS (mS o r c)):=b2h fun _=>vL h hc
theorem b7d{o:Org}(h:organE o=0){r:Reg}{l:List Ct}(hl:∀c∈l,nD o c=true):dd (oS (l.flatMap fun c=>dd (oS (pQ o r c))))=wV o r l:=by
 unfold wV
 refine b2h fun p=> ?_
 rw[dR,dR]
 refine exists_congr fun c=>and_congr_right fun hc=> ?_
 rw[rG,vL h (hl c hc)]
def sG(r:Reg)(q:List Ct)(c:Ct):List Ct:=if !r.off.testBit c.1.toNat&& !decide (c∈q)then q++[c]else q
def b5c(o:Org)(r:Reg)(l:List Ct):List Ct:=oS (l.foldl (sG r) (bfs o r.cpl 1100 0 (kK o r.cpl l)))
theorem a3g{r:Reg}:∀{l q:List Ct}{x:Ct},x∈l.foldl (sG r) q↔x∈q∨(x∈l∧r.off.testBit x.1.toNat=false)
 | [],q,x=>by simp
 | c::l,q,x=>by
   rw[eX,a3g]
   unfold sG
   by_cases h1:r.off.testBit c.1.toNat=false
   ·by_cases h2:c∈q
    ·rw[if_neg (by simp[h2])]
     constructor
     ·rintro(h|⟨h,k⟩)
      ·exact .inl h
      ·exact .inr ⟨dN _ h,k⟩
     ·rintro(h|⟨h,k⟩)
      ·exact .inl h
      ·rcases dS.1 h with e|e
       ·exact .inl (by rw[e];exact h2)
       ·exact .inr ⟨e,k⟩
    ·rw[if_pos (by simp[h1,h2])]
     constructor
     ·rintro(h|⟨h,k⟩)
      ·rcases dE.1 h with h|h
       ·exact .inl h
       ·have:=dH.1 h
        subst this
        exact .inr ⟨dG ..,h1⟩
      ·exact .inr ⟨dN _ h,k⟩
     ·rintro(h|⟨h,k⟩)
      ·exact .inl (dE.2 (.inl h))
      ·rcases dS.1 h with e|e
       ·exact .inl (dE.2 (.inr (by rw[e];simp)))
       ·exact .inr ⟨e,k⟩
   ·rw[if_neg (by simp[h1])]
    constructor
    ·rintro(h|⟨h,k⟩)
     ·exact .inl h
     ·exact .inr ⟨dN _ h,k⟩
    ·rintro(h|⟨h,k⟩)
     ·exact .inl h
     ·rcases dS.1 h with e|e
      ·subst e;exact absurd k h1
      ·exact .inr ⟨e,k⟩
theorem wX{r:Reg}:∀{l q:List Ct},q.Nodup→(l.foldl (sG r) q).Nodup
 | [],_,h=>h
 | c::l,q,h=>by
   rw[eX]
   refine wX ?_
   unfold sG
   split
   ·rename_i hh
    simp only[cU,dw,decide_eq_false_iff_not]at hh
    rw[List.nodup_append]
    exact⟨h,by simp,fun a ha b hb e=>hh.2 (by simp at hb;rw[←hb,←e];exact ha)⟩
   ·exact h
theorem c2D{l:List Ct}(h:l.Nodup):(oS l).Pairwise ltP:=by
 have h1:(oS l).Nodup:=(mU l).nodup_iff.2 h
 refine List.Pairwise.imp₂ ?_ (tB l) h1
 intro a b h2 h3
 rw[nO]at h2
 unfold ltP
 by_cases e:a.1=b.1
 ·by_cases e2:a.2=b.2
  ·exact absurd (fN e e2) h3
  ·omega
 ·omega
theorem a5i{o:Org}(cp:Nat):∀(n i:Nat)(q:List Ct),Que o q→Que o (bfs o cp n i q)
 | 0,_,_,h=>h
 | n+1,i,q,h=>by
   rw[bfs]
   split
   ·exact a5i cp n (i+1) _ (h.stepF cp true _)
   ·exact h
theorem b5m(o:Org)(r:Reg)(l:List Ct):b5c o r l=kG o r l:=by
 unfold b5c kG
 refine vR _ _ (c2D (wX (a5i r.cpl 1100 0 _ (a1P o r.cpl l)).1)) (a5z _) fun x=> ?_
 rw[rG,(mU _).mem_iff,a3g,dE,ew]
 constructor
 ·rintro(h|⟨h,k⟩)
  ·exact .inr h
  ·exact .inl ⟨h,by simpa using k⟩
 ·rintro(⟨h,k⟩|h)
  ·exact .inr ⟨h,by simpa using k⟩
  ·exact .inl h
def a2y(o:Org)(ks:List Nt)(i:Nat):List Ct:=((List.range ((iB o.dvs i).hi-(iB o.dvs i).lo+1).toNat).filter fun(j:Nat)=>nQ (iB ks i) ((iB o.dvs i).lo+(j:Int))).map fun(j:Nat)=>((i:Int),(iB o.dvs i).lo+(j:Int))
def a9f(o:Org)(ks:List Nt):List Ct:=(List.range o.dvs.length).flatMap (a2y o ks)
theorem wT{f:Nat→List Ct}(h1:∀i,(f i).Pairwise ltP)(h2:∀i,∀c∈f i,c.1=(i:Int)):∀n,((List.range n).flatMap f).Pairwise ltP
 | 0=>.nil
 | n+1=>by
   rw[dZ,dz,du,ez,di,eV]
   refine⟨wT h1 h2 n,h1 n,fun a ha b hb=> ?_⟩
   obtain⟨i,hi,ha⟩:=dR.1 ha
   have hi:=dq.1 hi
   unfold ltP
   rw[h2 i a ha,h2 n b hb]
   omega
theorem c0M(o:Org)(ks:List Nt)(i:Nat):(a2y o ks i).Pairwise ltP:=by
 unfold a2y
 rw[fT]
 refine List.Pairwise.imp ?_ (List.Pairwise.filter _ List.pairwise_lt_range)
 intro a b h
 unfold ltP
 omega
theorem a8Q(x:Nt):(pP x).Pairwise (·<·):=by
 unfold pP
 rw[eV,fT,fT]
 have h:∀n,(oX n).Pairwise (·<·):=fun n=>List.Pairwise.filter _ List.pairwise_lt_range
 refine⟨(h _).imp (by intro a b h;omega),(h _).imp (by intro a b h;omega),fun a ha b hb=> ?_⟩
 obtain⟨i,hi,rfl⟩:=dr.1 ha
 obtain⟨j,_,rfl⟩:=dr.1 hb
 have:=(rZ.1 hi).1
 omega
theorem c3v(ks:List Nt)(i:Nat):(plD ks i).Pairwise ltP:=by
 unfold plD
 rw[fT]
 exact(a8Q _).imp fun h=>.inr ⟨rfl,h⟩
theorem b2P(ks:List Nt):(iF ks).Pairwise ltP:=wT (c3v ks) (fun i c hc=>by
 unfold plD at hc
 obtain⟨z,_,rfl⟩:=dr.1 hc
 rfl) _
theorem b8P{o:Org}{ks:List Nt}(hok:∀x∈ks,Nt.Ok x)(h:oT o ks=0):a9f o ks=iF ks:=by
 obtain⟨h1,h2,h3⟩:=pB h
 have hf:=Org.ba h1
 refine vR _ _ (wT (c0M o ks) (fun i c hc=>by
  unfold a2y at hc
  obtain⟨z,_,rfl⟩:=dr.1 hc
  rfl) _) (b2P ks) fun x=> ?_
 constructor
 ·intro hx
  obtain⟨i,hi,hx⟩:=dR.1 hx
  have hi:=dq.1 hi
  have hk:=hf.keys i hi
  unfold a2y at hx
  obtain⟨z,hz,rfl⟩:=dr.1 hx
  obtain⟨hz1,hz2⟩:=ew.1 hz
  have hz1:=dq.1 hz1
  unfold iF
  refine dR.2 ⟨i,dq.2 (by omega),?_⟩
  unfold plD
  exact dr.2 ⟨_,a1L.2 ⟨⟨by omega,by omega⟩,hz2⟩,rfl⟩
 ·intro hx
  unfold iF at hx
  obtain⟨i,hi,hx⟩:=dR.1 hx
  have hi:=dq.1 hi
  have hk:=hf.keys i (by omega)
  unfold plD at hx
  obtain⟨z,hz,rfl⟩:=dr.1 hx
  obtain⟨hz1,hz2⟩:=a1L.1 hz
  have hw:=a3a (hok _ (iD hi)) (h3 i (by omega)) hz1 hz2
  rw[a3d hk.1 hk.2.2 hz1,cU,decide_eq_true_eq,decide_eq_true_eq]at hw
  unfold a9f
  refine dR.2 ⟨i,dq.2 (by omega),?_⟩
  unfold a2y
  refine dr.2 ⟨(z-(iB o.dvs i).lo).toNat,ew.2 ⟨dq.2 (by omega),?_⟩,?_⟩
  ·rw[show(iB o.dvs i).lo+((z-(iB o.dvs i).lo).toNat:Int)=z by omega]
   exact hz2
  ·rw[show(iB o.dvs i).lo+((z-(iB o.dvs i).lo).toNat:Int)=z by omega]
end Go.Ds
namespace Go.Ds
open Go.Proofs
variable {H:Heap}
set_option maxRecDepth 10000
set_option maxHeartbeats 1000000
end Go.Ds
namespace Go.Ds
open Go.Proofs Go.Proofs.Tryz
variable {H:Heap}
set_option maxRecDepth 10000
set_option maxHeartbeats 1000000
def a2N(lo:Int)(w m:Nat):List Int:=((List.range m).filter fun j=>w.testBit j).map fun(j:Nat)=>lo+(j:Int)
def vX(lo hi:Int):Nat:=min 16 (hi-lo+1).toNat
def yZ(o:Org)(b:Nat→Nat)(i:Nat):Nt:=jH (a2N (iB o.dvs i).lo (b (i%3)) (vX (iB o.dvs i).lo (iB o.dvs i).hi))
def pM(o:Org)(b:Nat→Nat):List Nt:=(List.range o.dvs.length).map (yZ o b)
theorem c3R(a b:Nat)(h:a<65536):((a:Nat):Int).fdiv (2^min b (IntKind.bits .u16))=((a>>>b:Nat):Int):=by
 have e:IntKind.bits .u16=16:=rfl
 rw[e]
 have h1:((a:Nat):Int).fdiv (2^min b 16)=((a/2^min b 16:Nat):Int):=by
  rw[gw _ (by exact Int.le_of_lt (Int.pow_pos (by decide)))]
  simp
 rw[h1,eL]
 by_cases hb:b≤16
 ·rw[fQ hb]
 ·rw[Nat.min_eq_right (by omega)]
  have h2:a/2^16=0:=gC (by simpa using h)
  have h3:a/2^b=0:=gC (dF (by simpa using h) (fi (by decide) (show 16≤b by omega)))
  rw[h2,h3]
theorem b8z(n:Nat)(h:n<65536):IntKind.wrap .u16 ((BitVec.ofInt (IntKind.bits .u16) (n:Int)&&&BitVec.ofInt (IntKind.bits .u16) 1).toNat:Int)=((n%2:Nat):Int):=by
 have e:(BitVec.ofInt (IntKind.bits .u16) (n:Int)&&&BitVec.ofInt (IntKind.bits .u16) 1).toNat=n%2:=by
  show(BitVec.ofInt 16 (n:Int)&&&BitVec.ofInt 16 1).toNat=n%2
  rw[gD]
  have h1:(BitVec.ofInt 16 (n:Int)).toNat=n:=by
   rw[fU,BitVec.toNat_ofNat]
   exact gx (by simpa using h)
  have h2:(BitVec.ofInt 16 1).toNat=1:=rfl
  rw[h1,h2,Nat.and_one_is_mod]
 rw[e]
 have:n%2<2:=eM _ (by decide)
 have hh:n%2=0∨n%2=1:=by omega
 rcases hh with h|h<;>rw[h]<;>rfl
theorem b7O{a:Nat}(b:Nat)(h:a<65536):a>>>b<65536:=by
 rw[eL]
 exact Nat.lt_of_le_of_lt (Nat.div_le_self _ _) h
theorem b4B(lo:Int)(w m:Nat):a2N lo w (m+1)=a2N lo w m++(if w.testBit m then[lo+(m:Int)]else[]):=by
 unfold a2N
 rw[dZ,eN,dM]
 congr 1
 cases h:w.testBit m<;>simp[h]
theorem b5r(lo:Int)(w m:Nat):(a2N lo w m).length≤m:=by
 unfold a2N
 rw[dK]
 exact dy (ee _ _) (by simp)
theorem b8G(lo hi:Int):vX lo hi≤16:=Nat.min_le_left _ _
theorem uD{o:Org}(hf:o.Fine)(w:Nat){i:Nat}(hi:i<o.dvs.length):∀z∈a2N (iB o.dvs i).lo w (vX (iB o.dvs i).lo (iB o.dvs i).hi),isN z∧(iB o.dvs i).lo≤z∧z≤(iB o.dvs i).hi:=by
 intro z hz
 have hk:=hf.keys i hi
 unfold a2N vX at hz
 obtain⟨j,hj,rfl⟩:=dr.1 hz
 have hj:=dq.1 (ew.1 hj).1
 exact⟨⟨by omega,by omega⟩,by omega,by omega⟩
theorem a9l(o:Org)(ho:o.In H)(hf:o.Fine)(b:Nat→Nat)(hb:∀i,b i<65536):
 Fn prog 10 [.agg #[.string o.name,o.rv,o.dv,o.cv],.agg #[.int .u16 (b 0),.int .u16 (b 1),.int .u16 (b 2)]] H fun r H'=>
  St prog H H' [⟨r,2,(pM o b).flatMap ntc⟩]:=by
 have hd8:=hf.dlen
 refine .aF func10 rfl (by kernel_rfl) (m:=66) rfl fun l hn g0 g1=> ?_
 simp(disch:=omega) only[↓RA,RB,simprocAttr,g0]
 refine(sR H).eNew 4 [(.string o.name),o.rv,o.dv,o.cv] rfl rfl (by simp[OC,((sR H).sl ho.1).cells.2.1,((sR H).sl ho.2.2.1).cells.2.1,((sR H).sl ho.2.2.2.2.1).cells.2.1]) mX fun A1 H1 hS1=> ?_
 simp only[RT]at hS1
 simp(disch:=omega) only[↓RA,RB,simprocAttr,g1]
 refine hS1.eNew 3 [(.int .u16 (b 0)),(.int .u16 (b 1)),(.int .u16 (b 2))] rfl rfl rfl c1V fun A2 H2 hS2=> ?_
 simp only[RT]at hS2
 simp(disch:=omega) only[↓RA,RB,simprocAttr]
 have hS3:=hS2.nil 1
 simp only[RT]at hS3
 refine Wp.aj (fun n l H'=>l.length=66∧get l 2=(ptr A1 0 4)∧get l 3=(ptr A2 0 3)∧get l 4=(.slice none 0 0)∧∃(i:Nat)(kv:Value),(n+i=o.dvs.length)∧get l 6=I i∧get l 5=kv∧St prog H H' [⟨ptr A1 0 4,0,[(.string o.name),o.rv,o.dv,o.cv]⟩,⟨ptr A2 0 3,0,[(.int .u16 (b 0)),(.int .u16 (b 1)),(.int .u16 (b 2))]⟩,⟨kv,2,((List.range i).map (yZ o b)).flatMap ntc⟩]) o.dvs.length ?_ ?_
 ·simp(disch:=omega) only[RB,RC,simprocAttr,hn]
  exact⟨0,.slice none 0 0,by omega,rfl,rfl,hS3⟩
 rintro n l H3⟨hn,g2,g3,g4,i,kv,hi,g6,g5,hS4⟩
 simp(disch:=omega) only[↓RA,RZ,simprocAttr,hn,g2,g6,hS4.ld 0 rfl,(hS4.sl ho.2.2.1).len]
 refine iA (fun q=> ?_) (fun q=> ?_)
 ·have hk:=hf.keys i (by omega)
  simp(disch:=omega) only[↓RA,RZ,simprocAttr,hn,g2,g6,hS4.ld 0 rfl,(hS4.sl ho.2.2.1).idx,(hS4.sl ho.2.2.1).bb,(hS4.sl ho.2.2.1).cE 2,Dvn.cells,q]
  refine hS4.eNew 2 [I 0,I 0] rfl rfl rfl a1h fun A3 H4 hS5=> ?_
  simp only[RT]at hS5
  simp(disch:=omega) only[↓RA,RZ,simprocAttr,hn,q]
  refine hS5.aa 3 rfl [I (iB o.dvs i).lo,I (iB o.dvs i).hi] rfl rfl a1h (by simp) fun H5 hS6=> ?_
  simp only[RT]at hS6
  simp(disch:=omega) only[↓RA,RZ,simprocAttr,hn,hS6.ld 3 rfl,q]
  have hS7:=hS6.nil 0
  simp only[RT]at hS7
  refine Wp.aj (fun n l H'=>l.length=66∧get l 2=(ptr A1 0 4)∧get l 3=(ptr A2 0 3)∧get l 4=(.slice none 0 0)∧get l 5=kv∧get l 6=I i∧get l 8=(ptr A3 0 2)∧∃(m:Nat)(lv:Value),(n+m=vX (iB o.dvs i).lo (iB o.dvs i).hi)∧get l 9=I ((iB o.dvs i).lo+m)∧get l 7=lv∧St prog H H' [⟨ptr A1 0 4,0,[(.string o.name),o.rv,o.dv,o.cv]⟩,⟨ptr A2 0 3,0,[(.int .u16 (b 0)),(.int .u16 (b 1)),(.int .u16 (b 2))]⟩,⟨kv,2,((List.range i).map (yZ o b)).flatMap ntc⟩,⟨ptr A3 0 2,0,[I (iB o.dvs i).lo,I (iB o.dvs i).hi]⟩,⟨lv,1,(a2N (iB o.dvs i).lo (b (i%3)) m).flatMap (one I)⟩]) (vX (iB o.dvs i).lo (iB o.dvs i).hi) ?_ ?_
  ·simp(disch:=omega) only[RB,RC,simprocAttr,hn,g2,g3,g4,g6,g5]
   exact⟨0,.slice none 0 0,by omega,by simp,rfl,hS7⟩
  rintro n l H6⟨hn,g2,g3,g4,g5,g6,g8,m,lv,hm,g9,g7,hS8⟩
  simp(disch:=omega) only[↓RA,RZ,simprocAttr,hn,g8,g9,hS8.ld 3 rfl]
  have hM:=b8G (iB o.dvs i).lo (iB o.dvs i).hi
  have hi3:(i:Int).tmod 3=((i%3:Nat):Int):=(eh i 3).symm
  have hw:([Value.int .u16 (b 0),.int .u16 (b 1),.int .u16 (b 2)]:List Value)[i%3]? =some (.int .u16 (b (i%3))):=by
   have:i%3=0∨i%3=1∨i%3=2:=by omega
   rcases this with e|e|e<;>rw[e]<;>rfl
  have hsub:(iB o.dvs i).lo+(m:Int)-(iB o.dvs i).lo=(m:Int):=by omega
  have e1:=c3R (b (i%3)) m (hb _)
  have e2:=b8z (b (i%3)>>>m) (b7O m (hb _))
  have e3:=tb (b (i%3)) m
  have hsu:=b4B (iB o.dvs i).lo (b (i%3)) m
  have hpl:=b5r (iB o.dvs i).lo (b (i%3)) m
  refine jC (fun q1=> ?_) (fun q1=> ?_)
  ·simp(disch:=omega) only[↓RA,RZ,simprocAttr,hn,g8,g9,hS8.ld 3 rfl,q1]
   refine iA (fun q2=> ?_) (fun q2=> ?_)
   ·skip
    simp(disch:=omega) only[↓RA,RC,simprocAttr,q1,q2]
    refine Wp.drw jW (by kernel_rfl) ?_
    simp(disch:=omega) only[↓RA,RZ,simprocAttr,hn,g3,g6,g8,g9,hS8.ld 1 rfl,hw,hS8.ld 3 rfl,hi3,hsub,e1,e2]
    refine iA (fun q3=> ?_) (fun q3=> ?_)
    ·rw[e3,decide_eq_true (by omega),if_pos rfl]at hsu
     simp(disch:=omega) only[↓RA,RZ,simprocAttr,hn,g9,g7,q3]
     refine hS8.ag [I ((iB o.dvs i).lo+m)] a2u a7y rfl rfl (by simp[Value.cells]) rfl rfl (by decide) (by decide) fun w1 H7 hS9=> ?_
     simp only[RT]at hS9
     simp(disch:=omega) only[↓RA,RZ,simprocAttr,hn,q3]
     refine hS9.aq 4 rfl (hS9.rd 5 rfl) a2u (by rw[iL (n:=1) (cel:=one I) (fun _=>rfl)];simp;omega) fun w2 H8 hS10=> ?_
     simp only[RT]at hS10
     simp(disch:=omega) only[↓RA,RZ,simprocAttr,hn,g2,g3,g4,g5,g6,g8,g9,q3]
     refine⟨n-1,by unfold vX at hm;omega,m+1,w2,by unfold vX at hm ⊢;omega,by simp;omega,rfl,?_⟩
     rw[hsu,dz]
     exact hS10.pick [0,1,2,3,4] (by decide) rfl
    rw[e3,decide_eq_false (by omega),if_neg (by simp),di]at hsu
    simp(disch:=omega) only[↓RA,RZ,simprocAttr,hn,g2,g3,g4,g5,g6,g8,g9,g7,q3]
    refine⟨n-1,by unfold vX at hm;omega,m+1,lv,by unfold vX at hm ⊢;omega,by simp;omega,rfl,?_⟩
    rw[hsu]
    exact hS8.pick [0,1,2,3,4] (by decide) rfl
   have hmM:m=vX (iB o.dvs i).lo (iB o.dvs i).hi:=by unfold vX at hm hM ⊢;omega
   have hz:=uD hf (b (i%3)) (show i<o.dvs.length by omega)
   subst hmM
   simp(disch:=omega) only[↓RA,RZ,simprocAttr,hn,g7,q1,q2]
   refine hS8.cF (xE (a2N (iB o.dvs i).lo (b (i%3)) (vX (iB o.dvs i).lo (iB o.dvs i).hi)) (fun z h=>(hz z h).1) lv (hS8.av 4 rfl (tF _)) (by omega)) fun H9 hS11=> ?_
   simp(disch:=omega) only[↓RA,RZ,simprocAttr,hn,q1,q2]
   refine hS11.eNew 2 [(.int .u64 0),(.int .u64 0)] rfl rfl rfl nV fun A4 H10 hS12=> ?_
   simp only[RT]at hS12
   simp(disch:=omega) only[↓RA,RZ,simprocAttr,hn,q1,q2]
   refine hS12.aa 5 rfl [(.int .u64 (yZ o b i).1),(.int .u64 (yZ o b i).2)] rfl rfl nV (by simp) fun H11 hS13=> ?_
   simp only[RT]at hS13
   simp(disch:=omega) only[↓RA,RZ,simprocAttr,hn,g5,hS13.ai 5 rfl,q1,q2]
   refine hS13.ag [(.int .u64 (yZ o b i).1),(.int .u64 (yZ o b i).2)] b6p c3z rfl rfl (by simp[Value.cells]) rfl rfl (by decide) (by decide) fun w3 H12 hS14=> ?_
   simp only[RT]at hS14
   simp(disch:=omega) only[↓RA,RZ,simprocAttr,hn,q1,q2]
   refine hS14.aq 2 rfl (hS14.rd 6 rfl) b6p (by rw[iL (n:=2) (cel:=ntc) (fun _=>rfl)];simp;omega) fun w4 H13 hS15=> ?_
   simp only[RT]at hS15
   simp(disch:=omega) only[↓RA,RZ,simprocAttr,hn,g2,g3,g4,g6,q1,q2]
   refine⟨o.dvs.length-(i+1),by omega,i+1,w4,by omega,by simp,rfl,?_⟩
   rw[dZ,dM,dz]
   exact hS15.pick [0,1,2] (by decide) rfl
  have hmM:m=vX (iB o.dvs i).lo (iB o.dvs i).hi:=by unfold vX at hm hM ⊢;omega
  have hz:=uD hf (b (i%3)) (show i<o.dvs.length by omega)
  subst hmM
  simp(disch:=omega) only[↓RA,RZ,simprocAttr,hn,g7,q1]
  refine hS8.cF (xE (a2N (iB o.dvs i).lo (b (i%3)) (vX (iB o.dvs i).lo (iB o.dvs i).hi)) (fun z h=>(hz z h).1) lv (hS8.av 4 rfl (tF _)) (by omega)) fun H14 hS16=> ?_
  simp(disch:=omega) only[↓RA,RZ,simprocAttr,hn,q1]
  refine hS16.eNew 2 [(.int .u64 0),(.int .u64 0)] rfl rfl rfl nV fun A5 H15 hS17=> ?_
  simp only[RT]at hS17
  simp(disch:=omega) only[↓RA,RZ,simprocAttr,hn,q1]
  refine hS17.aa 5 rfl [(.int .u64 (yZ o b i).1),(.int .u64 (yZ o b i).2)] rfl rfl nV (by simp) fun H16 hS18=> ?_
  simp only[RT]at hS18
  simp(disch:=omega) only[↓RA,RZ,simprocAttr,hn,g5,hS18.ai 5 rfl,q1]
  refine hS18.ag [(.int .u64 (yZ o b i).1),(.int .u64 (yZ o b i).2)] b6p c3z rfl rfl (by simp[Value.cells]) rfl rfl (by decide) (by decide) fun w5 H17 hS19=> ?_
  simp only[RT]at hS19
  simp(disch:=omega) only[↓RA,RZ,simprocAttr,hn,q1]
  refine hS19.aq 2 rfl (hS19.rd 6 rfl) b6p (by rw[iL (n:=2) (cel:=ntc) (fun _=>rfl)];simp;omega) fun w6 H18 hS20=> ?_
  simp only[RT]at hS20
  simp(disch:=omega) only[↓RA,RZ,simprocAttr,hn,g2,g3,g4,g6,q1]
  refine⟨o.dvs.length-(i+1),by omega,i+1,w6,by omega,by simp,rfl,?_⟩
  rw[dZ,dM,dz]
  exact hS20.pick [0,1,2] (by decide) rfl
 simp(disch:=omega) only[↓RA,RZ,simprocAttr,hn,g5,c7H,q]
 have hii:i=o.dvs.length:=by omega
 subst hii
 exact hS4.pick [2] (by decide) rfl
theorem sS(o:Org)(b:Nat→Nat):(pM o b).length=o.dvs.length:=by simp[pM]
theorem a5h{o:Org}{b:Nat→Nat}{i:Nat}(hi:i<o.dvs.length):iB (pM o b) i=yZ o b i:=by
 rw[kC _ i (by rw[sS];exact hi)]
 simp[pM]
theorem b2a{o:Org}(hf:o.Fine)(b:Nat→Nat){i:Nat}(hi:i<o.dvs.length):Nt.Ok (yZ o b i):=vO _ _ (fun z h=>(uD hf (b (i%3)) hi z h).1) ⟨by decide,by decide⟩
theorem a7c{o:Org}(hf:o.Fine)(b:Nat→Nat):∀x∈pM o b,Nt.Ok x:=by
 intro x hx
 obtain⟨i,hi,rfl⟩:=dr.1 hx
 exact b2a hf b (dq.1 hi)
theorem b7U{x y:Nt}(hx:Nt.Ok x)(h:∀z,isN z→nQ x z=true→nQ y z=true):woF x y=(0,0):=by
 have k:∀z,isN z→nQ (woF x y) z=false:=fun z hz=>by
  rw[b1H hx hz]
  cases e:nQ x z with
  | false=>rfl
  | true=>rw[h z hz e];rfl
 have big:∀a:Nat,a<18446744073709551616→∀j,64≤j→a.testBit j=false:=fun a ha j hj=>
  Nat.testBit_lt_two_pow (dF (show a<2^64 from ha) (fi (by decide) hj))
 obtain⟨h1,h2⟩:=c3w x y
 apply fN
 ·apply fW
  intro j
  rw[gZ]
  by_cases hj:64≤j
  ·exact big _ h1 j hj
  ·have:=k (j:Int) ⟨by omega,by omega⟩
   unfold nQ at this
   rw[if_pos (by omega)]at this
   exact this
 ·apply fW
  intro j
  rw[gZ]
  by_cases hj:64≤j
  ·exact big _ h2 j hj
  ·have:=k (64+j:Int) ⟨by omega,by omega⟩
   unfold nQ at this
   rw[if_neg (by omega),show(64+(j:Int)-64).toNat=j by omega]at this
   exact this
theorem a9a{o:Org}(h0:organE o=0)(b:Nat→Nat):oT o (pM o b)=0:=by
 have hf:=Org.ba h0
 unfold oT
 rw[if_neg (by rw[h0];simp),if_neg (by rw[sS];simp),if_neg]
 rintro⟨j,hj,hne⟩
 apply hne
 have hk:=hf.keys j hj
 rw[a5h hj]
 refine b7U (b2a hf b hj) fun z hz hh=> ?_
 rw[yZ,a3m (fun n hn=>(uD hf (b (j%3)) hj n hn).1) hz]at hh
 have:=uD hf (b (j%3)) hj z (of_decide_eq_true hh)
 rw[a3d hk.1 hk.2.2 hz,decide_eq_true this.2.1,decide_eq_true this.2.2]
 rfl
end Go.Ds
namespace Go.Ds
open Go.Proofs
set_option maxRecDepth 10000
theorem Star.mono{α:Type}{R R':α→α→Prop}(h:∀a b,R a b→R' a b){a b:α}(hs:Star R a b):Star R' a b:=by
 induction hs with
 | refl=>exact .refl _
 | tail _ h2 ih=>exact .tail ih (h _ _ h2)
end Go.Ds
namespace Go.Ds
open Go.Proofs Go.Proofs.Tryz Go.Shelf Go.RowKit Go.Lib Go.Sort
def sm(x:Int×Int):Prop:=-1000000000≤x.1∧x.1≤1000000000∧-1000000000≤x.2∧x.2≤1000000000
abbrev Sm:={x:Int×Int//sm x}
instance:Inhabited Sm:=⟨⟨(0,0),by unfold sm;decide⟩⟩
def cfd(x y:Sm):Int:=if x.1.1≠y.1.1 then x.1.1-y.1.1 else x.1.2-y.1.2
theorem ltd(x y:Sm):ltOf cfd x y=decide (x.1.1<y.1.1∨(x.1.1=y.1.1∧x.1.2<y.1.2)):=by
 unfold ltOf cfd
 congr 1
 apply propext
 split<;>omega
theorem c5K:SWO (ltOf cfd) where
 irrefl x:=by rw[ltd];simp
 trans x y z h1 h2:=by rw[ltd]at*;simp at*;omega
 ntrans x y z h1 h2:=by rw[ltd]at*;simp at*;omega
theorem c4W(x y:Sm)(h1:ltOf cfd x y=false)(h2:ltOf cfd y x=false):x=y:=by
 rw[ltd]at*
 simp at h1 h2
 apply Subtype.ext
 apply fN<;>omega
theorem c2A(x y:Sm):(!(ltOf cfd) y x)=le2 x.1 y.1:=by
 rw[ltd,←b1h]
 simp only[lt2]
theorem b7K(l:Array Sm):flatK (fun x:Sm=>jV x.1) 2 l=flatK jV 2 (l.map (·.1)):=by
 unfold flatK
 rw[Array.size_map]
 congr 1
 funext t
 congr 2
 by_cases h:t/2<l.size
 ·simp[h]
 ·simp[h]
  rfl
theorem b7e(w:World)(kI off n:Nat)(l:List Sm)(os:Array Obj):sortWorldK (fun x:Sm=>jV x.1) 2 w kI off n l.toArray os=sortWorldK jV 2 w kI off n (l.map (·.1)).toArray os:=by
 unfold sortWorldK putRowK
 rw[b7K,List.map_toArray]
theorem c0o(l:List (Int×Int))(h:∀x∈l,sm x):(l.attachWith sm h).map (·.1)=l:=by
 rw[List.map_attachWith]
 exact List.attach_map_subtype_val l
theorem b6O(l:List Sm):(l.mergeSort fun x y=> !(ltOf cfd) y x).map (·.1)=(l.map (·.1)).mergeSort le2:=
 List.map_mergeSort fun x _ y _=>c2A x y
theorem c5N(kc:FuncId)(eg:∀args w,(callFunc kc args).run prog w=.ok (.enter kc args) w)(hf:∀x y:Sm,Fn prog kc [.agg #[I x.1.1,I x.1.2],.agg #[I y.1.1,I y.1.2]] .nil fun r H'=>r=I (cfd x y)∧St prog (.nil:Heap) H' []):a0s prog 55 kc sm:=
 fun kI off cap d w hs hH hblk hsz=>by
  have hd:(d.toList.attachWith sm hs).toArray.map (·.1)=d:=by
   rw[List.map_toArray,c0o]
  have hl:(d.toList.attachWith sm hs).toArray.size=d.size:=by simp
  have hH':HoldsK (fun x:Sm=>jV x.1) 2 w kI off (d.toList.attachWith sm hs).toArray:=by
   unfold HoldsK at hH ⊢
   rw[b7K,hd]
   exact hH
  have h:=AnyQ.slices_SortFunc_total Tryz.bA 2 Tryz.isAgg60 Tryz.sizeOf60 (fun x:Sm=>jV x.1) (fun _=>rfl) (fun x=>yS x.1) cfd c5K kc #[] kI off cap (d.toList.attachWith sm hs).toArray w eg (a2e (fun x:Sm=>x.1) cfd hf kI off _ w) hH' hblk (by rw[hl];exact hsz) c4W
  rw[hl]at h
  refine h.mono ?_
  rintro e w'⟨h1,n,os,h2⟩
  exact⟨h1,n,os,by rw[h2,b7e,List.toList_toArray,b6O,c0o]⟩
def b2q(K kc:FuncId):Prop:=∀{H:Heap}{B:Base}{os:List Ob}(hS:St prog B H os)(i:Nat){v:Value}{es:List (Int×Int)}(ho:os[i]? =some ⟨v,2,pr es⟩)(hl:es.length<100000000000)(hsm:∀x∈es,sm x){Q:Value→Heap→Prop}
    (h:∀H1,St prog B H1 (os.set i ⟨v,2,pr (oS es)⟩)→Q (.tuple #[]) H1),vG prog K [v,.func (.func kc) #[] #[]] H Q
section
variable {H:Heap}
theorem c0Q(x y:Sm):Fn prog 56 [.agg #[I x.1.1,I x.1.2],.agg #[I y.1.1,I y.1.2]] H fun r H'=>r=I (cfd x y)∧St prog H H' []:=by
 obtain⟨⟨x1,x2⟩,hx⟩:=x
 obtain⟨⟨y1,y2⟩,hy⟩:=y
 unfold sm at hx hy
 simp only at hx hy ⊢
 refine .aF func56 rfl (by kernel_rfl) (m:=20) rfl fun l hn g0 g1=> ?_
 simp(disch:=omega) only[↓RA,RB,simprocAttr,g0]
 refine(sR H).eNew 2 [I x1,I x2] rfl rfl rfl rQ fun A1 H1 hS1=> ?_
 simp only[RT]at hS1
 simp(disch:=omega) only[↓RA,RB,simprocAttr,g1]
 refine hS1.eNew 2 [I y1,I y2] rfl rfl rfl rQ fun A2 H2 hS2=> ?_
 simp only[RT]at hS2
 simp(disch:=omega) only[↓RA,RZ,simprocAttr,hn,hS2.ld 0 rfl,hS2.ld 1 rfl]
 refine iA (fun q=> ?_) (fun q=> ?_)
 ·simp(disch:=omega) only[↓RA,RZ,simprocAttr,hn,hS2.ld 0 rfl,hS2.ld 1 rfl,c5c,q]
  exact⟨by unfold cfd;rw[if_pos q],hS2.forget⟩
 simp(disch:=omega) only[↓RA,RZ,simprocAttr,hn,hS2.ld 0 rfl,hS2.ld 1 rfl,c5c,q]
 exact⟨by unfold cfd;rw[if_neg q],hS2.forget⟩
end
theorem c1A:b2q 55 56:=fun hS i _ _ ho hl hsm _ h=>vA (c5N 56 (enters_of func56 (by kernel_rfl) rfl) fun x y=>c0Q x y) c2r c3y hS i ho hl hsm h
end Go.Ds
namespace Go.Ds
open Go.Proofs Go.Proofs.Tryz
variable {H:Heap}
set_option maxRecDepth 10000
set_option maxHeartbeats 1000000
theorem c5w(o:Org)(ho:o.In H)(d z:Int):Fn prog 129 [.agg #[.string o.name,o.rv,o.dv,o.cv],.agg #[I d,I z]] H fun r H'=>r=.bool (nD o (d,z))∧St prog H H' []:=by
 have hl:=ho.2.2.2.2.2.2.1
 by_cases hd:0≤d
 ·obtain⟨j,rfl⟩:=fI hd
  refine .aF func129 rfl (by kernel_rfl) (m:=42) rfl fun l hn g0 g1=> ?_
  simp(disch:=omega) only[↓RA,RB,simprocAttr,g0]
  refine(sR H).eNew 4 [(.string o.name),o.rv,o.dv,o.cv] rfl rfl (by simp[OC,((sR H).sl ho.1).cells.2.1,((sR H).sl ho.2.2.1).cells.2.1,((sR H).sl ho.2.2.2.2.1).cells.2.1]) mX fun A1 H1 hS1=> ?_
  simp only[RT]at hS1
  simp(disch:=omega) only[↓RA,RB,simprocAttr,g1]
  refine hS1.eNew 2 [I j,I z] rfl rfl rfl nU fun A2 H2 hS2=> ?_
  simp only[RT]at hS2
  simp(disch:=omega) only[↓RA,RB,simprocAttr]
  refine Wp.drw jW (by kernel_rfl) ?_
  simp(disch:=omega) only[↓RA,RZ,simprocAttr,hn,hS2.ld 1 rfl]
  refine jC (fun g1=> ?_) (fun g1=> ?_)
  rotate_left
  ·exfalso;first|omega|(simp at g1;omega)
  simp(disch:=omega) only[↓RA,RZ,simprocAttr,hn,hS2.ld 1 rfl,hS2.ld 0 rfl,(hS2.sl ho.2.2.1).len,g1]
  refine jC (fun g2=> ?_) (fun g2=> ?_)
  ·simp(disch:=omega) only[↓RA,RZ,simprocAttr,hn,hS2.ld 1 rfl,hS2.ld 0 rfl,(hS2.sl ho.2.2.1).idx,(hS2.sl ho.2.2.1).bb,(hS2.sl ho.2.2.1).ld,Dvn.cells,g1,g2]
   refine jC (fun g3=> ?_) (fun g3=> ?_)
   ·simp(disch:=omega) only[↓RA,RZ,simprocAttr,hn,hS2.ld 1 rfl,hS2.ld 0 rfl,(hS2.sl ho.2.2.1).idx,(hS2.sl ho.2.2.1).bb,(hS2.sl ho.2.2.1).ld,Dvn.cells,b1t,g1,g2,g3]
    exact⟨by unfold nD;simp only[eK];congr 1;simp;omega,hS2.forget⟩
   simp(disch:=omega) only[↓RA,RZ,simprocAttr,hn,b1t,g1,g2,g3]
   exact⟨by congr 1;symm;rw[←dX,mE];simp only[eK];omega,hS2.forget⟩
  simp(disch:=omega) only[↓RA,RZ,simprocAttr,hn,b1t,g1,g2]
  exact⟨by congr 1;symm;rw[←dX,mE];simp only[eK];omega,hS2.forget⟩
 ·refine .aF func129 rfl (by kernel_rfl) (m:=42) rfl fun l hn g0 g1=> ?_
  simp(disch:=omega) only[↓RA,RB,simprocAttr,g0]
  refine(sR H).eNew 4 [(.string o.name),o.rv,o.dv,o.cv] rfl rfl (by simp[OC,((sR H).sl ho.1).cells.2.1,((sR H).sl ho.2.2.1).cells.2.1,((sR H).sl ho.2.2.2.2.1).cells.2.1]) mX fun A1 H1 hS1=> ?_
  simp only[RT]at hS1
  simp(disch:=omega) only[↓RA,RB,simprocAttr,g1]
  refine hS1.eNew 2 [I d,I z] rfl rfl rfl nU fun A2 H2 hS2=> ?_
  simp only[RT]at hS2
  simp(disch:=omega) only[↓RA,RB,simprocAttr]
  refine Wp.drw jW (by kernel_rfl) ?_
  simp(disch:=omega) only[↓RA,RZ,simprocAttr,hn,hS2.ld 1 rfl]
  refine jC (fun g1=> ?_) (fun g1=> ?_)
  ·exfalso;first|omega|(simp at g1;omega)
  simp(disch:=omega) only[↓RA,RZ,simprocAttr,hn,b1t,g1]
  exact⟨by congr 1;symm;rw[←dX,mE];simp only;omega,hS2.forget⟩
theorem b1u(o:Org)(ho:o.In H)(c:Ct):Fn prog 129 [.agg #[.string o.name,o.rv,o.dv,o.cv],.agg #[I c.1,I c.2]] H fun r H'=>r=.bool (nD o c)∧St prog H H' []:=c5w o ho c.1 c.2
def a8E(o:Org)(ks:List Nt)(i n:Nat):List Ct:=((List.range n).filter fun(j:Nat)=>nQ (iB ks i) ((iB o.dvs i).lo+(j:Int))).map fun(j:Nat)=>((i:Int),(iB o.dvs i).lo+(j:Int))
theorem b2O(o:Org)(ks:List Nt)(i n:Nat):a8E o ks i (n+1)=a8E o ks i n++(if nQ (iB ks i) ((iB o.dvs i).lo+(n:Int))then[((i:Int),(iB o.dvs i).lo+(n:Int))]else[]):=by
 unfold a8E
 rw[dZ,eN,dM]
 congr 1
 cases h:nQ (iB ks i) ((iB o.dvs i).lo+(n:Int))<;>simp[h]
theorem b1n(o:Org)(ks:List Nt)(i n:Nat):(a8E o ks i n).length≤n:=by
 unfold a8E
 rw[dK]
 exact dy (ee _ _) (by simp)
theorem a6I{o:Org}(hf:o.Fine)(ks:List Nt):∀i,i≤o.dvs.length→((List.range i).flatMap (a2y o ks)).length≤i*128
 | 0,_=>by simp
 | i+1,h=>by
   have h1:=a6I hf ks i (by omega)
   have h2:=b1n o ks i ((iB o.dvs i).hi-(iB o.dvs i).lo+1).toNat
   have hk:=hf.keys i (by omega)
   have h3:(a2y o ks i).length≤128:=dy h2 (by omega)
   rw[dZ,dz,dg,du,ez,di]
   omega
theorem a8L(o:Org)(ho:o.In H)(hf:o.Fine)(kv:Value)(ks:List Nt)(hk:Ks H kv ks)(hl:ks.length=o.dvs.length):
 Fn prog 89 [.agg #[.string o.name,o.rv,o.dv,o.cv],kv] H fun r H'=>St prog H H' [⟨r,2,pr (a9f o ks)⟩]:=by
 have hd8:=hf.dlen
 refine .aF func89 rfl (by kernel_rfl) (m:=55) rfl fun l hn g0 g1=> ?_
 simp(disch:=omega) only[↓RA,RB,simprocAttr,g0]
 refine(sR H).eNew 4 [(.string o.name),o.rv,o.dv,o.cv] rfl rfl (by simp[OC,((sR H).sl ho.1).cells.2.1,((sR H).sl ho.2.2.1).cells.2.1,((sR H).sl ho.2.2.2.2.1).cells.2.1]) mX fun A1 H1 hS1=> ?_
 simp only[RT]at hS1
 simp(disch:=omega) only[↓RA,RZ,simprocAttr,hn,hS1.ld 0 rfl,(hS1.sl ho.2.2.1).len]
 have hS2:=hS1.nil 1
 simp only[RT]at hS2
 refine Wp.aj (fun n l H'=>l.length=55∧get l 1=kv∧get l 4=(.slice none 0 0)∧get l 11=o.dv∧get l 12=I o.dvs.length∧∃(i:Nat)(ov:Value),(n+i=o.dvs.length)∧get l 13=I i∧get l 5=ov∧St prog H H' [⟨ptr A1 0 4,0,[(.string o.name),o.rv,o.dv,o.cv]⟩,⟨ov,2,pr ((List.range i).flatMap (a2y o ks))⟩]) o.dvs.length ?_ ?_
 ·simp(disch:=omega) only[RB,RC,simprocAttr,hn,g1]
  exact⟨0,.slice none 0 0,by omega,rfl,rfl,hS2⟩
 rintro n l H2⟨hn,g1,g4,g11,g12,i,ov,hi,g13,g5,hS3⟩
 simp(disch:=omega) only[↓RA,RB,simprocAttr,hn,g12,g13]
 refine iA (fun q=> ?_) (fun q=> ?_)
 ·have hky:=hf.keys i (by omega)
  have hx:=hk.ok _ (iD (xs:=ks) (j:=i) (by omega))
  have hpl:=a6I hf ks i (by omega)
  simp(disch:=omega) only[↓RA,RZ,simprocAttr,hn,g11,g13,(hS3.sl ho.2.2.1).idx,(hS3.sl ho.2.2.1).ai,Dvn.cells,q]
  refine hS3.eNew 5 [(.string ⟨#[]⟩),(.bool false),I 0,I 0,(.slice none 0 0)] rfl rfl rfl a1g fun A2 H3 hS4=> ?_
  simp only[RT]at hS4
  simp(disch:=omega) only[↓RA,RZ,simprocAttr,hn,q]
  refine hS4.aa 2 rfl [(.string (iB o.dvs i).name),(.bool (iB o.dvs i).pedal),I (iB o.dvs i).lo,I (iB o.dvs i).hi,(iB o.dvs i).sv] rfl (by simp[OC,(hS4.sl (ho.2.2.2.1 (iB o.dvs i) (iD (by omega))).1).cells.2.1]) a1g (by simp) fun H4 hS5=> ?_
  simp only[RT]at hS5
  simp(disch:=omega) only[↓RA,RZ,simprocAttr,hn,hS5.ld 2 rfl,q]
  refine Wp.aj (fun n l H'=>l.length=55∧get l 1=kv∧get l 4=(.slice none 0 0)∧get l 6=I i∧get l 7=(ptr A2 0 5)∧get l 11=o.dv∧get l 12=I o.dvs.length∧get l 13=I i∧∃(j:Nat)(ow:Value),(n+j=((iB o.dvs i).hi-(iB o.dvs i).lo+1).toNat)∧get l 8=I ((iB o.dvs i).lo+j)∧get l 5=ow∧St prog H H' [⟨ptr A1 0 4,0,[(.string o.name),o.rv,o.dv,o.cv]⟩,⟨ow,2,pr ((List.range i).flatMap (a2y o ks)++a8E o ks i j)⟩,⟨ptr A2 0 5,0,[(.string (iB o.dvs i).name),(.bool (iB o.dvs i).pedal),I (iB o.dvs i).lo,I (iB o.dvs i).hi,(iB o.dvs i).sv]⟩]) ((iB o.dvs i).hi-(iB o.dvs i).lo+1).toNat ?_ ?_
  ·simp(disch:=omega) only[RB,RC,simprocAttr,hn,g1,g4,g11,g12,g13,g5]
   refine⟨0,ov,by omega,by simp,rfl,?_⟩
   rw[show a8E o ks i 0=[]from rfl,di]
   exact hS5
  rintro n l H5⟨hn,g1,g4,g6,g7,g11,g12,g13,j,ow,hj,g8,g5,hS6⟩
  simp(disch:=omega) only[↓RA,RZ,simprocAttr,hn,g7,g8,hS6.ld 2 rfl]
  refine iA (fun q2=> ?_) (fun q2=> ?_)
  ·have hsu:=b2O o ks i j
   have hpj:=b1n o ks i j
   obtain⟨m,hm⟩:∃m:Nat,(iB o.dvs i).lo+(j:Int)=m:=⟨((iB o.dvs i).lo+(j:Int)).toNat,by omega⟩
   rw[hm]at hsu
   simp(disch:=omega) only[↓RA,RZ,simprocAttr,hn,g1,g6,g8,(hS6.sl hk.sl).idx,(hS6.sl hk.sl).bb,(hS6.sl hk.sl).ld,ntc,hm]
   refine iA (fun q3=> ?_) (fun q3=> ?_)
   ·have e0:(m:Int).tmod 64=((m-64:Nat):Int):=by rw[show(m:Int).tmod 64=((m%64:Nat):Int)from(eh m 64).symm];omega
    have e1:=a1i (iB ks i).2 (m-64) hx.2
    have e2:=zR ((iB ks i).2>>>(m-64)) (sQ _ hx.2)
    have e3:=tb (iB ks i).2 (m-64)
    have e4:nQ (iB ks i) (m:Int)=(iB ks i).2.testBit (m-64):=by unfold nQ;rw[if_neg (by omega),show((m:Int)-64).toNat=m-64 by omega]
    simp(disch:=omega) only[↓RA,RZ,simprocAttr,hn,g1,g6,g8,(hS6.sl hk.sl).idx,(hS6.sl hk.sl).bb,(hS6.sl hk.sl).ld,ntc,hm,q3,e0,e1,e2]
    refine iA (fun q4=> ?_) (fun q4=> ?_)
    ·rw[e4,e3,decide_eq_true (by omega),if_pos rfl]at hsu
     simp(disch:=omega) only[↓RA,RZ,simprocAttr,hn,g6,g8,g5,qZ,hm,q3,q4]
     refine hS6.ag [I i,I m] rW a3z rfl rfl (by simp[Value.cells]) rfl rfl (by decide) (by decide) fun w1 H6 hS7=> ?_
     simp only[RT]at hS7
     simp(disch:=omega) only[↓RA,RZ,simprocAttr,hn,hm,q3,q4]
     refine hS7.aq 1 rfl (hS7.rd 3 rfl) rW (by rw[iI,dg];simp only[dC,dW];omega) fun w2 H7 hS8=> ?_
     simp only[RT]at hS8
     simp(disch:=omega) only[↓RA,RZ,simprocAttr,hn,g1,g4,g6,g7,g11,g12,g13,g8,hm,q3,q4]
     refine⟨n-1,by omega,j+1,w2,by omega,by simp;omega,rfl,?_⟩
     rw[hsu,←ef,jL]
     exact hS8.pick [0,1,2] (by decide) rfl
    rw[e4,e3,decide_eq_false (by omega),if_neg (by simp),di]at hsu
    simp(disch:=omega) only[↓RA,RZ,simprocAttr,hn,g1,g4,g6,g7,g11,g12,g13,g8,g5,hm,q3,q4]
    refine⟨n-1,by omega,j+1,ow,by omega,by simp;omega,rfl,?_⟩
    rw[hsu]
    exact hS6.pick [0,1,2] (by decide) rfl
   have e0:(m:Int).tmod 64=((m:Nat):Int):=by rw[show(m:Int).tmod 64=((m%64:Nat):Int)from(eh m 64).symm];omega
   have e1:=a1i (iB ks i).1 m hx.1
   have e2:=zR ((iB ks i).1>>>m) (sQ _ hx.1)
   have e3:=tb (iB ks i).1 m
   have e4:nQ (iB ks i) (m:Int)=(iB ks i).1.testBit m:=by unfold nQ;rw[if_pos (by omega)];rfl
   simp(disch:=omega) only[↓RA,RZ,simprocAttr,hn,g8,hm,q3,e0,e1,e2]
   refine iA (fun q4=> ?_) (fun q4=> ?_)
   ·rw[e4,e3,decide_eq_true (by omega),if_pos rfl]at hsu
    simp(disch:=omega) only[↓RA,RZ,simprocAttr,hn,g6,g8,g5,qZ,hm,q3,q4]
    refine hS6.ag [I i,I m] rW a3z rfl rfl (by simp[Value.cells]) rfl rfl (by decide) (by decide) fun w3 H8 hS9=> ?_
    simp only[RT]at hS9
    simp(disch:=omega) only[↓RA,RZ,simprocAttr,hn,hm,q3,q4]
    refine hS9.aq 1 rfl (hS9.rd 3 rfl) rW (by rw[iI,dg];simp only[dC,dW];omega) fun w4 H9 hS10=> ?_
    simp only[RT]at hS10
    simp(disch:=omega) only[↓RA,RZ,simprocAttr,hn,g1,g4,g6,g7,g11,g12,g13,g8,hm,q3,q4]
    refine⟨n-1,by omega,j+1,w4,by omega,by simp;omega,rfl,?_⟩
    rw[hsu,←ef,jL]
    exact hS10.pick [0,1,2] (by decide) rfl
   rw[e4,e3,decide_eq_false (by omega),if_neg (by simp),di]at hsu
   simp(disch:=omega) only[↓RA,RZ,simprocAttr,hn,g1,g4,g6,g7,g11,g12,g13,g8,g5,hm,q3,q4]
   refine⟨n-1,by omega,j+1,ow,by omega,by simp;omega,rfl,?_⟩
   rw[hsu]
   exact hS6.pick [0,1,2] (by decide) rfl
  simp(disch:=omega) only[↓RA,RZ,simprocAttr,hn,g1,g4,g11,g12,g13,g5,q2]
  refine⟨o.dvs.length-(i+1),by omega,i+1,ow,by omega,by simp,rfl,?_⟩
  have hjj:j=((iB o.dvs i).hi-(iB o.dvs i).lo+1).toNat:=by omega
  rw[dZ,dz,du,ez,di]
  rw[show a2y o ks i=a8E o ks i j from by rw[hjj];rfl]
  exact hS6.pick [0,1] (by decide) rfl
 simp(disch:=omega) only[↓RA,RZ,simprocAttr,hn,g5,c6X,q]
 have hii:i=o.dvs.length:=by omega
 subst hii
 exact hS3.pick [1] (by decide) rfl
end Go.Ds
namespace Go.Ds
open Go.Proofs Go.Proofs.Tryz Go.Shelf Go.RowKit Go.Lib Go.Sort
theorem c2c(kc:FuncId)(eg:∀args w,(callFunc kc args).run prog w=.ok (.enter kc args) w)(hf:∀x y:Sm,Fn prog kc [.agg #[I x.1.1,I x.1.2],.agg #[I y.1.1,I y.1.2]] .nil fun r H'=>r=I (cfd x y)∧St prog (.nil:Heap) H' []):a0s prog 92 kc sm:=
 fun kI off cap d w hs hH hblk hsz=>by
  have hd:(d.toList.attachWith sm hs).toArray.map (·.1)=d:=by
   rw[List.map_toArray,c0o]
  have hl:(d.toList.attachWith sm hs).toArray.size=d.size:=by simp
  have hH':HoldsK (fun x:Sm=>jV x.1) 2 w kI off (d.toList.attachWith sm hs).toArray:=by
   unfold HoldsK at hH ⊢
   rw[b7K,hd]
   exact hH
  have h:=AnyQ.slices_SortFunc_total Tryz.bh 2 Tryz.isAgg53 Tryz.sizeOf53 (fun x:Sm=>jV x.1) (fun _=>rfl) (fun x=>yS x.1) cfd c5K kc #[] kI off cap (d.toList.attachWith sm hs).toArray w eg (a2e (fun x:Sm=>x.1) cfd hf kI off _ w) hH' hblk (by rw[hl];exact hsz) c4W
  rw[hl]at h
  refine h.mono ?_
  rintro e w'⟨h1,n,os,h2⟩
  exact⟨h1,n,os,by rw[h2,b7e,List.toList_toArray,b6O,c0o]⟩
section
variable {H:Heap}
theorem c0H(x y:Sm):Fn prog 93 [.agg #[I x.1.1,I x.1.2],.agg #[I y.1.1,I y.1.2]] H fun r H'=>r=I (cfd x y)∧St prog H H' []:=by
 obtain⟨⟨x1,x2⟩,hx⟩:=x
 obtain⟨⟨y1,y2⟩,hy⟩:=y
 unfold sm at hx hy
 simp only at hx hy ⊢
 refine .aF func93 rfl (by kernel_rfl) (m:=20) rfl fun l hn g0 g1=> ?_
 simp(disch:=omega) only[↓RA,RB,simprocAttr,g0]
 refine(sR H).eNew 2 [I x1,I x2] rfl rfl rfl nU fun A1 H1 hS1=> ?_
 simp only[RT]at hS1
 simp(disch:=omega) only[↓RA,RB,simprocAttr,g1]
 refine hS1.eNew 2 [I y1,I y2] rfl rfl rfl nU fun A2 H2 hS2=> ?_
 simp only[RT]at hS2
 simp(disch:=omega) only[↓RA,RZ,simprocAttr,hn,hS2.ld 0 rfl,hS2.ld 1 rfl]
 refine iA (fun q=> ?_) (fun q=> ?_)
 ·simp(disch:=omega) only[↓RA,RZ,simprocAttr,hn,hS2.ld 0 rfl,hS2.ld 1 rfl,c4J,q]
  exact⟨by unfold cfd;rw[if_pos q],hS2.forget⟩
 simp(disch:=omega) only[↓RA,RZ,simprocAttr,hn,hS2.ld 0 rfl,hS2.ld 1 rfl,c4J,q]
 exact⟨by unfold cfd;rw[if_neg q],hS2.forget⟩
end
theorem c4j:b2q 92 93:=fun hS i _ _ ho hl hsm _ h=>vA (c2c 93 (enters_of func93 (by kernel_rfl) rfl) fun x y=>c0H x y) c1g c1l hS i ho hl hsm h
end Go.Ds
namespace Go.Ds
open Go.Proofs Go.Proofs.Tryz
variable {H:Heap}
set_option maxRecDepth 10000
set_option maxHeartbeats 1000000
theorem Ct.cP(a b:Ct):(a.1=b.1∧a.2=b.2)↔b=a:=⟨fun h=>fN h.1.symm h.2.symm,fun h=>by rw[h];exact⟨rfl,rfl⟩⟩
theorem b0c(v:Value)(xs:List Ct)(hv:Sl 2 jV H v xs)(hl:xs.length<1000000000)(d:Ct):
 Fn prog 130 [v,.agg #[I d.1,I d.2]] H fun r H'=>r=I (pD (fun j=>decide (iB xs j=d)) xs.length)∧St prog H H' []:=by
 refine .aF func130 rfl (by kernel_rfl) (m:=19) rfl fun l hn g0 g1=> ?_
 simp(disch:=omega) only[↓RA,RB,simprocAttr,g1]
 refine(sR H).eNew 2 [I d.1,I d.2] rfl rfl rfl nU fun A1 H1 hS1=> ?_
 simp only[RT]at hS1
 simp(disch:=omega) only[↓RA,RZ,simprocAttr,hn,g0,(hS1.sl hv).len]
 refine Wp.aj (fun n l H'=>l.length=19∧get l 0=v∧get l 3=(ptr A1 0 2)∧get l 7=I xs.length∧∃(j:Nat),(n+j=xs.length∧∀q,q<j→decide (iB xs q=d)=false)∧get l 8=I j∧St prog H H' [⟨ptr A1 0 2,0,[I d.1,I d.2]⟩]) xs.length ?_ ?_
 ·simp(disch:=omega) only[RB,RC,simprocAttr,hn,g0]
  exact⟨0,⟨by omega,fun q hq=>absurd hq (dL _)⟩,rfl,hS1⟩
 rintro n l H2⟨hn,g0,g3,g7,j,⟨hi,h0⟩,g8,hS2⟩
 simp(disch:=omega) only[↓RA,RB,simprocAttr,hn,g7,g8]
 refine iA (fun h=> ?_) (fun h=> ?_)
 ·simp(disch:=omega) only[↓RA,RZ,simprocAttr,hn,g8,h]
  refine Wp.drw jW (by kernel_rfl) ?_
  simp(disch:=omega) only[↓RA,RZ,simprocAttr,hn,g0,g3,hS2.ai 0 rfl,(hS2.sl hv).idx,(hS2.sl hv).ai,jV]
  refine iA (fun hp=> ?_) (fun hp=> ?_)
  ·simp(disch:=omega) only[↓RA,RZ,simprocAttr,hn,c1F,hp]
   exact⟨by rw[zD _ xs.length j (by omega) (by simpa using(Ct.cP _ _).1 hp) h0],hS2.forget⟩
  simp(disch:=omega) only[↓RA,RZ,simprocAttr,hn,g0,g3,g7,g8,hp]
  exact⟨n-1,by omega,j+1,⟨by omega,fun q hq=>by rcases dm.1 hq with e|e;(· exact h0 q e);(· rw[e];simpa using fun hh=>hp ((Ct.cP _ _).2 hh))⟩,by simp,hS2⟩
 simp(disch:=omega) only[↓RA,RZ,simprocAttr,hn,c1F,h]
 exact⟨by rw[yL _ xs.length fun q hq=>h0 q (by omega)],hS2.forget⟩
theorem a2F(v:Value)(xs:List Ct)(hv:Sl 2 jV H v xs)(hl:xs.length<1000000000)(d:Ct):
 Fn prog 91 [v,.agg #[I d.1,I d.2]] H fun r H'=>r=.bool (decide (d∈xs))∧St prog H H' []:=by
 have e:decide (0≤pD (fun j=>decide (iB xs j=d)) xs.length)=decide (d∈xs):=by
  rw[ec,decide_eq_true_iff,decide_eq_true_iff,zA]
  constructor
  ·rintro⟨j,hj,hp⟩
   rw[←of_decide_eq_true hp];exact iD hj
  ·intro hx
   obtain⟨j,hj,rfl⟩:=dO.1 hx
   exact⟨j,hj,by rw[kC xs j hj];simp⟩
 refine .aF func91 rfl (by kernel_rfl) (m:=9) rfl fun l hn g0 g1=> ?_
 simp(disch:=omega) only[↓RA,RB,simprocAttr,g1]
 refine(sR H).eNew 2 [I d.1,I d.2] rfl rfl rfl nU fun A1 H1 hS1=> ?_
 simp only[RT]at hS1
 simp(disch:=omega) only[↓RA,RZ,simprocAttr,hn,g0,hS1.ai 0 rfl]
 refine hS1.cF (b0c v xs (hS1.sl hv) hl d) fun H2 hS2=> ?_
 simp(disch:=omega) only[↓RA,RB,simprocAttr,hn,c7u]
 rw[←e]
 first|exact hS2.forget|exact⟨rfl,hS2.forget⟩
theorem a6A{B:Base}(o:Org)(r:Reg)(sv:Value)(c:Ct)(thr:Bool)(AO AR AQ:Nat)(qv:Value)(q:List Ct)
 (hS:St prog B H [⟨ptr AQ 0 1,0,[qv]⟩,⟨qv,2,pr q⟩])
 (hO:∀{H1:Heap}{os:List Ob},St prog B H1 os→Var H1 AO 4 [.string o.name,o.rv,o.dv,o.cv]∧o.In H1∧Var H1 AR 3 [sv,.int .u64 r.cpl,.int .u64 r.off])
 (hq:Que o q) (ho:o.Fine) (hr:r.Ok):
 Fn prog 128 [.agg #[I c.1,I c.2],.bool thr,ptr AO 0 4,ptr AR 0 3,ptr AQ 0 1] H fun rr H'=>∃qv',rr=.tuple #[]∧
  St prog B H' [⟨ptr AQ 0 1,0,[qv']⟩,⟨qv',2,pr (stepF o r.cpl thr c q)⟩]:=by
 have hcl:=ho.clen
 refine .cD func128 rfl (by kernel_rfl) (m:=64) rfl fun l hn g0 g1 g2 g3 g4=> ?_
 simp(disch:=omega) only[↓RA,RB,simprocAttr,g0]
 refine hS.eNew 2 [I c.1,I c.2] rfl rfl rfl nU fun A1 H1 hS1=> ?_
 simp only[RT]at hS1
 simp(disch:=omega) only[↓RA,RZ,simprocAttr,hn,g2,((hO hS1).1).ld,((hO hS1).2.1.2.2.2.2.1).len]
 refine Wp.aj (fun n l H'=>l.length=64∧get l 1=(.bool thr)∧get l 2=(ptr AO 0 4)∧get l 3=(ptr AR 0 3)∧get l 4=(ptr AQ 0 1)∧get l 5=(ptr A1 0 2)∧get l 11=o.cv∧get l 12=I o.cpls.length∧∃(i:Nat)(qv':Value),(n+i=o.cpls.length)∧get l 13=I i∧St prog B H' [⟨ptr AQ 0 1,0,[qv']⟩,⟨qv',2,pr (stepN o r.cpl thr c q i)⟩,⟨ptr A1 0 2,0,[I c.1,I c.2]⟩]) o.cpls.length ?_ ?_
 ·simp(disch:=omega) only[RB,RC,simprocAttr,hn,g1,g2,g3,g4]
  exact⟨0,qv,by omega,rfl,hS1⟩
 rintro n l H2⟨hn,g1,g2,g3,g4,g5,g11,g12,i,qv',hi,g13,hS2⟩
 simp(disch:=omega) only[↓RA,RB,simprocAttr,hn,g12,g13]
 refine iA (fun q1=> ?_) (fun q1=> ?_)
 ·have hql:(stepN o r.cpl thr c q i).length≤1024:=(hq.stepN r.cpl thr c i).len ho
  have e1:=a1i r.cpl i hr.2.2.1
  have e2:=zR (r.cpl>>>i) (sQ i hr.2.2.1)
  have e3:=tb r.cpl i
  have hstay:(tG r.cpl thr c (iB o.cpls i) i&&nD o (to1 (iB o.cpls i) c)&& !decide (to1 (iB o.cpls i) c∈stepN o r.cpl thr c q i))=false→stepN o r.cpl thr c q (i+1)=stepN o r.cpl thr c q i:=fun h=>by
   rw[lS,step1,if_neg (by rw[h];simp)]
  simp(disch:=omega) only[↓RA,RZ,simprocAttr,hn,g11,g13,((hO hS2).2.1.2.2.2.2.1).idx,((hO hS2).2.1.2.2.2.2.1).ai,Cpl.cells,q1]
  refine hS2.eNew 5 [(.string ⟨#[]⟩),I 0,I 0,I 0,(.bool false)] rfl rfl rfl tV fun A2 H3 hS3=> ?_
  simp only[RT]at hS3
  simp(disch:=omega) only[↓RA,RZ,simprocAttr,hn,q1]
  refine hS3.aa 3 rfl [(.string (iB o.cpls i).name),I (iB o.cpls i).src,I (iB o.cpls i).dst,I (iB o.cpls i).shift,(.bool (iB o.cpls i).thr)] rfl rfl tV (by simp) fun H4 hS4=> ?_
  simp only[RT]at hS4
  simp(disch:=omega) only[↓RA,RZ,simprocAttr,hn,g5,hS4.ld 3 rfl,hS4.ld 2 rfl,q1]
  simp(disch:=omega) only[↓RA,RZ,simprocAttr,qZ]
  refine hS4.eNew 2 [I 0,I 0] rfl rfl rfl nU fun A3 H5 hS5=> ?_
  simp only[RT]at hS5
  simp(disch:=omega) only[↓RA,RZ,simprocAttr,hn,q1]
  refine hS5.aa 4 rfl [I (iB o.cpls i).dst,I (oQ (c.2+(iB o.cpls i).shift))] rfl rfl nU (by simp) fun H6 hS6=> ?_
  simp only[RT]at hS6
  simp(disch:=omega) only[↓RA,RZ,simprocAttr,hn,g3,((hO hS6).2.2).ld,q1,e1,e2]
  refine jC (fun b1=> ?_) (fun b1=> ?_)
  ·have hb:r.cpl.testBit i=true:=by rw[e3];exact decide_eq_true (by omega)
   simp(disch:=omega) only[↓RA,RZ,simprocAttr,hn,g5,hS6.ld 3 rfl,hS6.ld 2 rfl,q1,b1]
   refine jC (fun b2=> ?_) (fun b2=> ?_)
   ·have hsrc:(iB o.cpls i).src=c.1:=by omega
    have hgg:tG r.cpl thr c (iB o.cpls i) i=(!thr||(iB o.cpls i).thr):=by unfold tG;rw[hb,decide_eq_true hsrc];rfl
    simp(disch:=omega) only[↓RA,RZ,simprocAttr,hn,hS6.ld 3 rfl,q1,b1,b2]
    refine qJ (fun b3=> ?_) (fun b3=> ?_)
    ·have hg:tG r.cpl thr c (iB o.cpls i) i=true:=by rw[hgg,b3];simp
     simp(disch:=omega) only[↓RA,RZ,simprocAttr,hn,g2,((hO hS6).1).ai,hS6.ai 4 rfl,q1,b1,b2,b3]
     refine hS6.cF (b1u o (hO hS6).2.1 ((iB o.cpls i).dst,oQ (c.2+(iB o.cpls i).shift))) fun H7 hS7=> ?_
     simp(disch:=omega) only[↓RA,RZ,simprocAttr,hn,q1,b1,b2,b3]
     refine qJ (fun b5=> ?_) (fun b5=> ?_)
     ·simp(disch:=omega) only[↓RA,RZ,simprocAttr,hn,g4,hS7.ld 0 rfl,hS7.ai 4 rfl,q1,b1,b2,b3,b5]
      refine hS7.cF (a2F qv' (stepN o r.cpl thr c q i) (hS7.av 1 rfl (fun _=>rfl)) (by omega) ((iB o.cpls i).dst,oQ (c.2+(iB o.cpls i).shift))) fun H8 hS8=> ?_
      simp(disch:=omega) only[↓RA,RZ,simprocAttr,hn,q1,b1,b2,b3,b5]
      refine jJ (fun b6=> ?_) (fun b6=> ?_)
      ·have hs:stepN o r.cpl thr c q (i+1)=stepN o r.cpl thr c q i++[((iB o.cpls i).dst,oQ (c.2+(iB o.cpls i).shift))]:=by
        rw[lS]
        unfold step1
        have hnot:((iB o.cpls i).dst,oQ (c.2+(iB o.cpls i).shift))∉stepN o r.cpl thr c q i:=by simpa using b6
        rw[if_pos (by rw[hg];simp only[to1,b5];simp[hnot])]
        rfl
       simp(disch:=omega) only[↓RA,RZ,simprocAttr,hn,g4,hS8.ld 0 rfl,hS8.ai 4 rfl,q1,b1,b2,b3,b5,b6]
       refine hS8.ag [I (iB o.cpls i).dst,I (oQ (c.2+(iB o.cpls i).shift))] rW a3z rfl rfl (by simp[Value.cells]) rfl rfl (by decide) (by decide) fun w1 H9 hS9=> ?_
       simp only[RT]at hS9
       simp(disch:=omega) only[↓RA,RZ,simprocAttr,hn,q1,b1,b2,b3,b5,b6]
       refine hS9.aq 1 rfl (hS9.rd 5 rfl) rW (by rw[iI];simp;omega) fun w2 H10 hS10=> ?_
       simp only[RT]at hS10
       simp(disch:=omega) only[↓RA,RZ,simprocAttr,hn,g4,q1,b1,b2,b3,b5,b6]
       refine hS10.aa 0 rfl [w2] (by rw[(hS10.rd 1 rfl).cells.1]) (by simp[(hS10.rd 1 rfl).cells.2.1]) a9q (by simp) fun H11 hS11=> ?_
       simp only[RT]at hS11
       simp(disch:=omega) only[↓RA,RZ,simprocAttr,hn,g1,g2,g3,g4,g5,g11,g12,g13,q1,b1,b2,b3,b5,b6]
       refine⟨n-1,by omega,i+1,w2,by omega,by simp,?_⟩
       rw[hs,jL]
       exact hS11.pick [0,1,2] (by decide) rfl
      have hin:((iB o.cpls i).dst,oQ (c.2+(iB o.cpls i).shift))∈stepN o r.cpl thr c q i:=by simpa using b6
      have hs:=hstay (by simp only[to1];simp[hin])
      simp(disch:=omega) only[↓RA,RZ,simprocAttr,hn,g1,g2,g3,g4,g5,g11,g12,g13,q1,b1,b2,b3,b5,b6]
      exact⟨n-1,by omega,i+1,qv',by omega,by simp,by rw[hs];exact hS8.pick [0,1,2] (by decide) rfl⟩
     have hs:=hstay (by rw[eF,eF];exact .inl (.inr (by simpa [to1]using b5)))
     simp(disch:=omega) only[↓RA,RZ,simprocAttr,hn,g1,g2,g3,g4,g5,g11,g12,g13,q1,b1,b2,b3,b5]
     exact⟨n-1,by omega,i+1,qv',by omega,by simp,by rw[hs];exact hS7.pick [0,1,2] (by decide) rfl⟩
    simp(disch:=omega) only[↓RA,RZ,simprocAttr,hn,g1,q1,b1,b2,b3]
    refine qJ (fun b4=> ?_) (fun b4=> ?_)
    ·have hg:tG r.cpl thr c (iB o.cpls i) i=true:=by
      have:thr=false:=by simpa using b4
      rw[hgg,this];rfl
     simp(disch:=omega) only[↓RA,RZ,simprocAttr,hn,g2,((hO hS6).1).ai,hS6.ai 4 rfl,q1,b1,b2,b3,b4]
     refine hS6.cF (b1u o (hO hS6).2.1 ((iB o.cpls i).dst,oQ (c.2+(iB o.cpls i).shift))) fun H12 hS12=> ?_
     simp(disch:=omega) only[↓RA,RZ,simprocAttr,hn,q1,b1,b2,b3,b4]
     refine qJ (fun b5=> ?_) (fun b5=> ?_)
     ·simp(disch:=omega) only[↓RA,RZ,simprocAttr,hn,g4,hS12.ld 0 rfl,hS12.ai 4 rfl,q1,b1,b2,b3,b4,b5]
      refine hS12.cF (a2F qv' (stepN o r.cpl thr c q i) (hS12.av 1 rfl (fun _=>rfl)) (by omega) ((iB o.cpls i).dst,oQ (c.2+(iB o.cpls i).shift))) fun H13 hS13=> ?_
      simp(disch:=omega) only[↓RA,RZ,simprocAttr,hn,q1,b1,b2,b3,b4,b5]
      refine jJ (fun b6=> ?_) (fun b6=> ?_)
      ·have hs:stepN o r.cpl thr c q (i+1)=stepN o r.cpl thr c q i++[((iB o.cpls i).dst,oQ (c.2+(iB o.cpls i).shift))]:=by
        rw[lS]
        unfold step1
        have hnot:((iB o.cpls i).dst,oQ (c.2+(iB o.cpls i).shift))∉stepN o r.cpl thr c q i:=by simpa using b6
        rw[if_pos (by rw[hg];simp only[to1,b5];simp[hnot])]
        rfl
       simp(disch:=omega) only[↓RA,RZ,simprocAttr,hn,g4,hS13.ld 0 rfl,hS13.ai 4 rfl,q1,b1,b2,b3,b4,b5,b6]
       refine hS13.ag [I (iB o.cpls i).dst,I (oQ (c.2+(iB o.cpls i).shift))] rW a3z rfl rfl (by simp[Value.cells]) rfl rfl (by decide) (by decide) fun w3 H14 hS14=> ?_
       simp only[RT]at hS14
       simp(disch:=omega) only[↓RA,RZ,simprocAttr,hn,q1,b1,b2,b3,b4,b5,b6]
       refine hS14.aq 1 rfl (hS14.rd 5 rfl) rW (by rw[iI];simp;omega) fun w4 H15 hS15=> ?_
       simp only[RT]at hS15
       simp(disch:=omega) only[↓RA,RZ,simprocAttr,hn,g4,q1,b1,b2,b3,b4,b5,b6]
       refine hS15.aa 0 rfl [w4] (by rw[(hS15.rd 1 rfl).cells.1]) (by simp[(hS15.rd 1 rfl).cells.2.1]) a9q (by simp) fun H16 hS16=> ?_
       simp only[RT]at hS16
       simp(disch:=omega) only[↓RA,RZ,simprocAttr,hn,g1,g2,g3,g4,g5,g11,g12,g13,q1,b1,b2,b3,b4,b5,b6]
       refine⟨n-1,by omega,i+1,w4,by omega,by simp,?_⟩
       rw[hs,jL]
       exact hS16.pick [0,1,2] (by decide) rfl
      have hin:((iB o.cpls i).dst,oQ (c.2+(iB o.cpls i).shift))∈stepN o r.cpl thr c q i:=by simpa using b6
      have hs:=hstay (by simp only[to1];simp[hin])
      simp(disch:=omega) only[↓RA,RZ,simprocAttr,hn,g1,g2,g3,g4,g5,g11,g12,g13,q1,b1,b2,b3,b4,b5,b6]
      exact⟨n-1,by omega,i+1,qv',by omega,by simp,by rw[hs];exact hS13.pick [0,1,2] (by decide) rfl⟩
     have hs:=hstay (by rw[eF,eF];exact .inl (.inr (by simpa [to1]using b5)))
     simp(disch:=omega) only[↓RA,RZ,simprocAttr,hn,g1,g2,g3,g4,g5,g11,g12,g13,q1,b1,b2,b3,b4,b5]
     exact⟨n-1,by omega,i+1,qv',by omega,by simp,by rw[hs];exact hS12.pick [0,1,2] (by decide) rfl⟩
    have h4:thr=true:=by simpa using b4
    have h3:(iB o.cpls i).thr=false:=by simpa using b3
    have hs:=hstay (by rw[hgg,h4,h3];rfl)
    simp(disch:=omega) only[↓RA,RZ,simprocAttr,hn,g1,g2,g3,g4,g5,g11,g12,g13,q1,b1,b2,b3,b4]
    exact⟨n-1,by omega,i+1,qv',by omega,by simp,by rw[hs];exact hS6.pick [0,1,2] (by decide) rfl⟩
   have hs:=hstay (by unfold tG;rw[decide_eq_false (by omega)];simp)
   simp(disch:=omega) only[↓RA,RZ,simprocAttr,hn,g1,g2,g3,g4,g5,g11,g12,g13,q1,b1,b2]
   exact⟨n-1,by omega,i+1,qv',by omega,by simp,by rw[hs];exact hS6.pick [0,1,2] (by decide) rfl⟩
  have hs:=hstay (by unfold tG;rw[e3,decide_eq_false (by omega)];rfl)
  simp(disch:=omega) only[↓RA,RZ,simprocAttr,hn,g1,g2,g3,g4,g5,g11,g12,g13,q1,b1]
  exact⟨n-1,by omega,i+1,qv',by omega,by simp,by rw[hs];exact hS6.pick [0,1,2] (by decide) rfl⟩
 simp(disch:=omega) only[↓RA,RZ,simprocAttr,c4T,q1]
 have hii:i=o.cpls.length:=by omega
 subst hii
 exact⟨qv',hS2.pick [0,1] (by decide) rfl⟩
theorem a5a(o:Org)(ho:o.In H)(hf:o.Fine)(r:Reg)(sv:Value)(hr:r.In H sv)(fv:Value)(first:List Ct)(hfi:Sl 2 jV H fv first)(hfl:first.length≤1024):
 Fn prog 90 [.agg #[.string o.name,o.rv,o.dv,o.cv],.agg #[sv,.int .u64 r.cpl,.int .u64 r.off],fv] H fun rr H'=>St prog H H' [⟨rr,2,pr (bfs o r.cpl 1100 0 (kK o r.cpl first))⟩]:=by
 refine .bk func90 rfl (by kernel_rfl) (m:=36) rfl fun l hn g0 g1 g2=> ?_
 simp(disch:=omega) only[↓RA,RB,simprocAttr,g0]
 refine(sR H).eNew 4 [(.string o.name),o.rv,o.dv,o.cv] rfl rfl (by simp[OC,((sR H).sl ho.1).cells.2.1,((sR H).sl ho.2.2.1).cells.2.1,((sR H).sl ho.2.2.2.2.1).cells.2.1]) mX fun A1 H1 hS1=> ?_
 simp only[RT]at hS1
 simp(disch:=omega) only[↓RA,RB,simprocAttr,g1]
 refine hS1.eNew 3 [sv,(.int .u64 r.cpl),(.int .u64 r.off)] rfl rfl (by simp[OC,(hS1.sl hr.1).cells.2.1]) qV fun A2 H2 hS2=> ?_
 simp only[RT]at hS2
 simp(disch:=omega) only[↓RA,RZ,simprocAttr]
 refine hS2.eNew 1 [(.slice none 0 0)] rfl rfl rfl a9q fun A3 H3 hS3=> ?_
 simp only[RT]at hS3
 simp(disch:=omega) only[↓RA,RZ,simprocAttr,hn,g2,(hS3.sl hfi).len]
 have hS4:=hS3.nil 1
 simp only[RT]at hS4
 refine Wp.aj (fun n l H'=>l.length=36∧get l 6=(.slice none 0 0)∧get l 7=(ptr A3 0 1)∧get l 8=(.func (.func 128) #[] #[(ptr A1 0 4),(ptr A2 0 3),(ptr A3 0 1)])∧get l 13=fv∧get l 14=I first.length∧∃(i:Nat)(qv:Value),(n+i=first.length)∧get l 15=I i∧St prog H H' [⟨ptr A1 0 4,0,[(.string o.name),o.rv,o.dv,o.cv]⟩,⟨ptr A2 0 3,0,[sv,(.int .u64 r.cpl),(.int .u64 r.off)]⟩,⟨ptr A3 0 1,0,[qv]⟩,⟨qv,2,pr (kK o r.cpl (first.take i))⟩]) first.length ?_ ?_
 ·simp(disch:=omega) only[RB,RC,simprocAttr,hn]
  refine⟨0,.slice none 0 0,by omega,rfl,?_⟩
  rw[show kK o r.cpl (first.take 0)=[]from rfl]
  exact hS4
 rintro n l H4⟨hn,g6,g7,g8,g13,g14,i,qv,hi,g15,hS5⟩
 simp(disch:=omega) only[↓RA,RB,simprocAttr,hn,g14,g15]
 refine iA (fun q1=> ?_) (fun q1=> ?_)
 ·have hqu:=nR o r.cpl (first.take i)
  have hqs:=a0W o r.cpl first i (by omega)
  simp(disch:=omega) only[↓RA,RZ,simprocAttr,hn,g13,g15,(hS5.sl hfi).idx,(hS5.sl hfi).ai,jV,q1]
  refine hS5.eNew 2 [I 0,I 0] rfl rfl rfl nU fun A4 H5 hS6=> ?_
  simp only[RT]at hS6
  simp(disch:=omega) only[↓RA,RZ,simprocAttr,hn,q1]
  refine hS6.aa 4 rfl [I (iB first i).1,I (iB first i).2] rfl rfl nU (by simp) fun H6 hS7=> ?_
  simp only[RT]at hS7
  simp(disch:=omega) only[↓RA,RZ,simprocAttr,hn,g8,hS7.ai 4 rfl,q1]
  have hM1:=hS7.pick (os':=[⟨ptr A3 0 1,0,_⟩,⟨qv,2,_⟩]) [2,3] (by decide) rfl
  have hR1:=hS7.pick (os':=[⟨ptr A3 0 1,0,_⟩,⟨qv,2,_⟩,⟨ptr A1 0 4,0,_⟩,⟨ptr A2 0 3,0,_⟩,⟨ptr A4 0 2,0,_⟩]) [2,3,0,1,4] (by decide) rfl
  refine iG (a6A o r sv (iB first i) false A1 A2 A3 qv (kK o r.cpl (first.take i)) hM1.ay (fun h=>⟨(hR1.frame h.forget).var 0 rfl,ho.ak (hR1.frame h.forget),(hR1.frame h.forget).var 1 rfl⟩) hqu hf hr.2) ?_
  rintro r H7⟨qv',rfl,hT1⟩
  have hS8:=hR1.frame hT1
  simp only[RT]at hS8
  simp(disch:=omega) only[↓RA,RZ,simprocAttr,hn,g6,g7,g8,g13,g14,g15,q1]
  refine⟨n-1,by omega,i+1,qv',by omega,by simp,?_⟩
  rw[hqs]
  exact hS8.pick [2,3,0,1] (by decide) rfl
 simp(disch:=omega) only[↓RA,RZ,simprocAttr,q1]
 have hii:i=first.length:=by omega
 subst hii
 rw[dU]at hS5
 have hqu:=nR o r.cpl first
 refine Wp.aj (fun n l H'=>l.length=36∧get l 6=(.slice none 0 0)∧get l 7=(ptr A3 0 1)∧get l 8=(.func (.func 128) #[] #[(ptr A1 0 4),(ptr A2 0 3),(ptr A3 0 1)])∧∃(j:Nat)(qv:Value)(q:List Ct),(n+j=1100∧bfs o r.cpl n j q=bfs o r.cpl 1100 0 (kK o r.cpl first)∧Que o q)∧get l 11=I j∧St prog H H' [⟨ptr A1 0 4,0,[(.string o.name),o.rv,o.dv,o.cv]⟩,⟨ptr A2 0 3,0,[sv,(.int .u64 r.cpl),(.int .u64 r.off)]⟩,⟨ptr A3 0 1,0,[qv]⟩,⟨qv,2,pr q⟩]) 1100 ?_ ?_
 ·simp(disch:=omega) only[RB,RC,simprocAttr,hn,g6,g7,g8]
  exact⟨0,qv,_,⟨rfl,rfl,hqu⟩,rfl,hS5⟩
 rintro n l H8⟨hn,g6,g7,g8,j,qv,q,⟨hj,hbf,hqq⟩,g11,hS9⟩
 have hql:=hqq.len hf
 simp(disch:=omega) only[↓RA,RZ,simprocAttr,hn,g7,g11,hS9.ld 2 rfl,(hS9.av 3 rfl (fun _=>rfl)).len]
 refine iA (fun q3=> ?_) (fun q3=> ?_)
 ·have hjl:j<q.length:=by omega
  simp(disch:=omega) only[↓RA,RZ,simprocAttr,hn,g7,g8,g11,hS9.ld 2 rfl,(hS9.av 3 rfl (fun _=>rfl)).idx,(hS9.av 3 rfl (fun _=>rfl)).ai,jV,q3]
  have hM2:=hS9.pick (os':=[⟨ptr A3 0 1,0,_⟩,⟨qv,2,_⟩]) [2,3] (by decide) rfl
  have hR2:=hS9.pick (os':=[⟨ptr A3 0 1,0,_⟩,⟨qv,2,_⟩,⟨ptr A1 0 4,0,_⟩,⟨ptr A2 0 3,0,_⟩]) [2,3,0,1] (by decide) rfl
  refine iG (a6A o r sv (iB q j) true A1 A2 A3 qv q hM2.ay (fun h=>⟨(hR2.frame h.forget).var 0 rfl,ho.ak (hR2.frame h.forget),(hR2.frame h.forget).var 1 rfl⟩) hqq hf hr.2) ?_
  rintro r H9⟨qv',rfl,hT2⟩
  have hS10:=hR2.frame hT2
  simp only[RT]at hS10
  simp(disch:=omega) only[↓RA,RZ,simprocAttr,hn,g6,g7,g8,g11,q3]
  obtain⟨n',rfl⟩:∃n',n=n'+1:=⟨n-1,by omega⟩
  rw[bfs,if_pos hjl]at hbf
  exact⟨n',by omega,j+1,qv',_,⟨by omega,hbf,hqq.stepF _ _ _⟩,by simp,hS10.pick [2,3,0,1] (by decide) rfl⟩
 have hbq:bfs o r.cpl 1100 0 (kK o r.cpl first)=q:=by
  rw[←hbf]
  cases n with
  | zero=>rfl
  | succ n=>rw[bfs,if_neg (by omega)]
 simp(disch:=omega) only[↓RA,RZ,simprocAttr,hn,g7,hS9.ld 2 rfl,c7f,q3]
 rw[hbq]
 exact hS9.pick [3] (by decide) rfl
theorem a8u{o:Org}{r:Reg}{l q:List Ct}(hq:Que o q)(hl:∀c∈l,nD o c=true):Que o (l.foldl (sG r) q):=
 ⟨wX hq.1,fun c hc=>by
  rcases a3g.1 hc with h|h
  ·exact hq.2 c h
  ·exact hl c h.1⟩
theorem c2P{o:Org}(hf:o.Fine){q:List Ct}(hq:Que o q):∀x∈q,sm x:=fun x hx=>by
 have:=yJ hf (hq.2 x hx)
 unfold sm
 omega
theorem a3s(o:Org)(ho:o.In H)(hf:o.Fine)(rg:Reg)(sv:Value)(hr:rg.In H sv)(kv:Value)(ks:List Nt)(hk:Ks H kv ks)(h0:oT o ks=0):
 Fn prog 53 [.agg #[.string o.name,o.rv,o.dv,o.cv],.agg #[sv,.int .u64 rg.cpl,.int .u64 rg.off],kv] H fun rr H'=>St prog H H' [⟨rr,2,pr (kG o rg (iF ks))⟩]:=by
 have hkl:=(pB h0).2.1
 have hple:=b8P hk.ok h0
 have hpll:=sE h0
 have hplc:=sA hk.ok h0
 refine .bk func53 rfl (by kernel_rfl) (m:=46) rfl fun l hn g0 g1 g2=> ?_
 simp(disch:=omega) only[↓RA,RB,simprocAttr,g0]
 refine(sR H).eNew 4 [(.string o.name),o.rv,o.dv,o.cv] rfl rfl (by simp[OC,((sR H).sl ho.1).cells.2.1,((sR H).sl ho.2.2.1).cells.2.1,((sR H).sl ho.2.2.2.2.1).cells.2.1]) mX fun A1 H1 hS1=> ?_
 simp only[RT]at hS1
 simp(disch:=omega) only[↓RA,RB,simprocAttr,g1]
 refine hS1.eNew 3 [sv,(.int .u64 rg.cpl),(.int .u64 rg.off)] rfl rfl (by simp[OC,(hS1.sl hr.1).cells.2.1]) qV fun A2 H2 hS2=> ?_
 simp only[RT]at hS2
 simp(disch:=omega) only[↓RA,RZ,simprocAttr,hn,g2,hS2.ai 0 rfl]
 refine iG ((a8L o (ho.ak hS2) hf kv ks (hk.ak hS2) hkl).tr) ?_
 rintro r H3⟨-,hT1⟩
 have hS3:=hS2.trans hT1
 simp only[RT]at hS3
 obtain⟨pv,rfl⟩:∃w,w=r:=⟨r,rfl⟩
 rw[hple]at hS3
 simp(disch:=omega) only[↓RA,RZ,simprocAttr,hn,hS3.ai 0 rfl,hS3.ai 1 rfl]
 refine iG ((a5a o (ho.ak hS3) hf rg sv (hr.ak hS3) pv (iF ks) (hS3.av 2 rfl kF) hpll).tr) ?_
 rintro r H4⟨-,hT2⟩
 have hS4:=hS3.trans hT2
 simp only[RT]at hS4
 obtain⟨qv,rfl⟩:∃w,w=r:=⟨r,rfl⟩
 have hQ:=a5i rg.cpl 1100 0 _ (a1P o rg.cpl (iF ks))
 have hfin:b5c o rg (iF ks)=oS ((iF ks).foldl (sG rg) (bfs o rg.cpl 1100 0 (kK o rg.cpl (iF ks)))):=rfl
 rw[b5m]at hfin
 rw[hfin]
 clear hfin
 simp(disch:=omega) only[↓RA,RZ,simprocAttr,hn,(hS4.av 2 rfl kF).len]
 refine Wp.aj (fun n l H'=>l.length=46∧get l 4=(ptr A2 0 3)∧get l 6=(.slice none 0 0)∧get l 18=pv∧get l 19=I (iF ks).length∧∃(i:Nat)(ov:Value),(n+i=(iF ks).length)∧get l 20=I i∧get l 8=ov∧St prog H H' [⟨ptr A1 0 4,0,[(.string o.name),o.rv,o.dv,o.cv]⟩,⟨ptr A2 0 3,0,[sv,(.int .u64 rg.cpl),(.int .u64 rg.off)]⟩,⟨pv,2,pr (iF ks)⟩,⟨ov,2,pr (((iF ks).take i).foldl (sG rg) (bfs o rg.cpl 1100 0 (kK o rg.cpl (iF ks))))⟩]) (iF ks).length ?_ ?_
 ·simp(disch:=omega) only[RB,RC,simprocAttr,hn]
  exact⟨0,qv,by omega,rfl,rfl,hS4⟩
 rintro n l H5⟨hn,g4,g6,g18,g19,i,ov,hi,g20,g8,hS5⟩
 simp(disch:=omega) only[↓RA,RB,simprocAttr,hn,g19,g20]
 refine iA (fun q1=> ?_) (fun q1=> ?_)
 ·have hci:=(mE o _).1 (hplc _ (iD (xs:=iF ks) (j:=i) (by omega)))
  have hqi:Que o (((iF ks).take i).foldl (sG rg) (bfs o rg.cpl 1100 0 (kK o rg.cpl (iF ks)))):=a8u hQ fun c hc=>hplc c (fV hc)
  have hql:=hqi.len hf
  have hsu:((iF ks).take (i+1)).foldl (sG rg) (bfs o rg.cpl 1100 0 (kK o rg.cpl (iF ks)))=sG rg (((iF ks).take i).foldl (sG rg) (bfs o rg.cpl 1100 0 (kK o rg.cpl (iF ks)))) (iB (iF ks) i):=by
   rw[lI _ i (by omega),gu]
   rfl
  generalize ((iF ks).take i).foldl (sG rg) (bfs o rg.cpl 1100 0 (kK o rg.cpl (iF ks)))=Q at*
  have hd8:=hf.dlen
  obtain⟨d,hd⟩:∃d:Nat,(iB (iF ks) i).1.toNat=d:=⟨_,rfl⟩
  have hwd:IntKind.wrap .u64 (iB (iF ks) i).1=((d:Nat):Int):=by rw[oD _ (by omega) (by omega)];omega
  have e1:=a1i rg.off d hr.2.2.2.2
  have e2:=zR (rg.off>>>d) (sQ _ hr.2.2.2.2)
  have e3:=tb rg.off d
  simp(disch:=omega) only[↓RA,RZ,simprocAttr,hn,g18,g20,(hS5.av 2 rfl kF).idx,(hS5.av 2 rfl kF).ai,jV,q1]
  refine hS5.eNew 2 [I 0,I 0] rfl rfl rfl nU fun A3 H6 hS6=> ?_
  simp only[RT]at hS6
  simp(disch:=omega) only[↓RA,RZ,simprocAttr,hn,q1]
  refine hS6.aa 4 rfl [I (iB (iF ks) i).1,I (iB (iF ks) i).2] rfl rfl nU (by simp) fun H7 hS7=> ?_
  simp only[RT]at hS7
  simp(disch:=omega) only[↓RA,RZ,simprocAttr,hn,g4,hS7.ld 1 rfl,hS7.ld 4 rfl,q1,e1,e2,hwd]
  refine jC (fun q2=> ?_) (fun q2=> ?_)
  ·have hb:rg.off.testBit (iB (iF ks) i).1.toNat=false:=by rw[hd,e3];exact decide_eq_false (by omega)
   simp(disch:=omega) only[↓RA,RZ,simprocAttr,hn,g8,hS7.ai 4 rfl,q1,q2]
   refine hS7.cF (a2F ov Q (hS7.av 3 rfl kF) (by omega) (iB (iF ks) i)) fun H8 hS8=> ?_
   simp(disch:=omega) only[↓RA,RZ,simprocAttr,hn,q1,q2]
   refine jJ (fun q3=> ?_) (fun q3=> ?_)
   ·have hs:sG rg Q (iB (iF ks) i)=Q++[iB (iF ks) i]:=by unfold sG;rw[if_pos (by rw[hb];simpa using q3)]
    simp(disch:=omega) only[↓RA,RZ,simprocAttr,hn,g8,hS8.ai 4 rfl,q1,q2,q3]
    refine hS8.ag [I (iB (iF ks) i).1,I (iB (iF ks) i).2] rW a3z rfl rfl (by simp[Value.cells]) rfl rfl (by decide) (by decide) fun w1 H9 hS9=> ?_
    simp only[RT]at hS9
    simp(disch:=omega) only[↓RA,RZ,simprocAttr,hn,q1,q2,q3]
    refine hS9.aq 3 rfl (hS9.rd 5 rfl) rW (by rw[iI];simp;omega) fun w2 H10 hS10=> ?_
    simp only[RT]at hS10
    simp(disch:=omega) only[↓RA,RZ,simprocAttr,hn,g4,g6,g18,g19,g20,q1,q2,q3]
    refine⟨n-1,by omega,i+1,w2,by omega,by simp,rfl,?_⟩
    rw[hsu,hs,jL]
    exact hS10.pick [0,1,2,3] (by decide) rfl
   have hs:sG rg Q (iB (iF ks) i)=Q:=by unfold sG;rw[if_neg (by rw[hb];simpa using q3)]
   simp(disch:=omega) only[↓RA,RZ,simprocAttr,hn,g4,g6,g18,g19,g20,g8,q1,q2,q3]
   refine⟨n-1,by omega,i+1,ov,by omega,by simp,rfl,?_⟩
   rw[hsu,hs]
   exact hS8.pick [0,1,2,3] (by decide) rfl
  have hb:rg.off.testBit (iB (iF ks) i).1.toNat=true:=by rw[hd,e3];exact decide_eq_true (by omega)
  have hs:sG rg Q (iB (iF ks) i)=Q:=by unfold sG;rw[if_neg (by rw[hb];simp)]
  simp(disch:=omega) only[↓RA,RZ,simprocAttr,hn,g4,g6,g18,g19,g20,g8,q1,q2]
  refine⟨n-1,by omega,i+1,ov,by omega,by simp,rfl,?_⟩
  rw[hsu,hs]
  exact hS7.pick [0,1,2,3] (by decide) rfl
 simp(disch:=omega) only[↓RA,RZ,simprocAttr,hn,g8,q1]
 have hii:i=(iF ks).length:=by omega
 rw[hii,dU]at hS5
 have hqn:Que o ((iF ks).foldl (sG rg) (bfs o rg.cpl 1100 0 (kK o rg.cpl (iF ks)))):=a8u hQ hplc
 have hql:=hqn.len hf
 refine c4j hS5 3 rfl (by omega) (c2P hf hqn) fun HS hSS=> ?_
 simp only[fM,eW]at hSS
 simp(disch:=omega) only[↓RA,RZ,simprocAttr,hn,g8,c7m,q1]
 exact hSS.pick [3] (by decide) rfl
theorem a6V{m:Nat}{l:List Drw}(h:kT m l=0):l.length≤8∧∀q,q<l.length→0≤(iB l q).rank∧(iB l q).rank<m:=by
 unfold kT at h
 split at h
 ·omega
 refine⟨by omega,fun q hq=> ?_⟩
 have e:=nY h q hq
 unfold kL at e
 split at e
 ·omega
 ·omega
def uG(o:Org)(rg:Reg)(j i:Nat)(z:Int)(k:Nat):List Ct:=if(iB rg.stops j).testBit i then((iB (iB o.dvs j).stops i).segs.take k).flatMap fun g=>rN o g z else[]
def dr3(o:Org)(z:Int)(l:List Drw):List Ct:=(l.filter fun d=>qW o.ranks d z).map fun d=>mG o.ranks d z
theorem b8c(o:Org)(z:Int)(l:List Drw):(dr3 o z l).length≤l.length:=by
 unfold dr3
 rw[dK]
 exact ee _ _
theorem b7s(o:Org)(z:Int)(l:List Drw)(q:Nat)(h:q<l.length):dr3 o z (l.take (q+1))=dr3 o z (l.take q)++(if qW o.ranks (iB l q) z then[mG o.ranks (iB l q) z]else[]):=by
 unfold dr3
 rw[lI l q h,eN,dM]
 congr 1
 cases e:qW o.ranks (iB l q) z<;>simp[e]
theorem b7R{o:Org}(g:Seg)(z:Int)(h:g.draws.length≤8):(rN o g z).length≤8:=by
 unfold rN
 split
 ·exact dy (b8c o z g.draws) h
 ·simp
theorem b2v{o:Org}(z:Int):∀(gs:List Seg),(∀g∈gs,g.draws.length≤8)→(gs.flatMap fun g=>rN o g z).length≤gs.length*8
 | [],_=>by simp
 | g::gs,h=>by
   have h1:=b7R (o:=o) g z (h g (dG ..))
   have h2:=b2v (o:=o) z gs fun x hx=>h x (dN _ hx)
   rw[du,dg,dC]
   omega
theorem b9y{o:Org}(rg:Reg)(j i:Nat)(z:Int)(k:Nat)(h:∀g∈(iB (iB o.dvs j).stops i).segs,g.draws.length≤8)(h2:(iB (iB o.dvs j).stops i).segs.length≤12):(uG o rg j i z k).length≤96:=by
 unfold uG
 split
 ·have h1:=b2v (o:=o) z ((iB (iB o.dvs j).stops i).segs.take k) fun g hg=>h g (fV hg)
  have h3:=List.length_take_le k (iB (iB o.dvs j).stops i).segs
  have h4:((iB (iB o.dvs j).stops i).segs.take k).length≤(iB (iB o.dvs j).stops i).segs.length:=by rw[fz];omega
  omega
 ·simp
theorem a3R(o:Org)(rg:Reg)(j i:Nat)(z:Int):vC o rg ((j:Int),z) i=uG o rg j i z (iB (iB o.dvs j).stops i).segs.length:=by
 unfold vC uG
 simp only[eK]
 rw[dU]
theorem a4L{o:Org}(rg:Reg)(j:Nat)(z:Int)(h:∀i,i<(iB o.dvs j).stops.length→(uG o rg j i z (iB (iB o.dvs j).stops i).segs.length).length≤96):∀i,i≤(iB o.dvs j).stops.length→((List.range i).flatMap (vC o rg ((j:Int),z))).length≤i*96
 | 0,_=>by simp
 | i+1,hi=>by
   have h1:=a4L rg j z h i (by omega)
   have h2:=h i (by omega)
   rw[dZ,dz,dg,du,ez,di,a3R]
   omega
theorem b8b(o:Org)(ho:o.In H)(h0:organE o=0)(rg:Reg)(sv:Value)(hr:rg.In H sv)(hrl:rg.stops.length=o.dvs.length)(j:Nat)(z:Int)(hc:nD o ((j:Int),z)=true):
 Fn prog 54 [.agg #[.string o.name,o.rv,o.dv,o.cv],.agg #[sv,.int .u64 rg.cpl,.int .u64 rg.off],.agg #[I j,I z]] H fun rr H'=>Slx 2 jV H' (fun B=>H.length≤B) rr (dd (oS (pQ o rg ((j:Int),z))))∧St prog H H' []:=by
 have hf:=Org.ba h0
 have hcc:=(mE o _).1 hc
 simp only[eK]at hcc
 have hj:j<o.dvs.length:=by omega
 have hky:=hf.keys j hj
 have hst:=hf.stops j hj
 have hsb:∀i,i<(iB o.dvs j).stops.length→iB (iB o.dvs j).stops i∈(iB o.dvs j).stops:=fun i hi=>iD hi
 have hsl:∀i,i<(iB o.dvs j).stops.length→∀k,(uG o rg j i z k).length≤96:=fun i hi k=>b9y rg j i z k (hf.draws j hj _ (hsb i hi)) (a0b h0 hj (hsb i hi)).len
 have hdl:=a4L rg j z fun i hi=>hsl i hi _
 refine .bk func54 rfl (by kernel_rfl) (m:=108) rfl fun l hn g0 g1 g2=> ?_
 simp(disch:=omega) only[↓RA,RB,simprocAttr,g0]
 refine(sR H).eNew 4 [(.string o.name),o.rv,o.dv,o.cv] rfl rfl (by simp[OC,((sR H).sl ho.1).cells.2.1,((sR H).sl ho.2.2.1).cells.2.1,((sR H).sl ho.2.2.2.2.1).cells.2.1]) mX fun A1 H1 hS1=> ?_
 simp only[RT]at hS1
 simp(disch:=omega) only[↓RA,RB,simprocAttr,g1]
 refine hS1.eNew 3 [sv,(.int .u64 rg.cpl),(.int .u64 rg.off)] rfl rfl (by simp[OC,(hS1.sl hr.1).cells.2.1]) qV fun A2 H2 hS2=> ?_
 simp only[RT]at hS2
 simp(disch:=omega) only[↓RA,RB,simprocAttr,g2]
 refine hS2.eNew 2 [I j,I z] rfl rfl rfl nU fun A3 H3 hS3=> ?_
 simp only[RT]at hS3
 simp(disch:=omega) only[↓RA,RZ,simprocAttr,hn,hS3.ld 0 rfl,hS3.ld 2 rfl,(hS3.sl ho.2.2.1).idx,(hS3.sl ho.2.2.1).bb,(hS3.sl ho.2.2.1).ld,Dvn.cells,(hS3.sl (ho.2.2.2.1 (iB o.dvs j) (iD (by omega))).1).len]
 have hS4:=hS3.nil 1
 simp only[RT]at hS4
 refine Wp.aj (fun n l H'=>l.length=108∧get l 3=(ptr A1 0 4)∧get l 4=(ptr A2 0 3)∧get l 5=(ptr A3 0 2)∧get l 6=(.slice none 0 0)∧get l 21=(iB o.dvs j).sv∧get l 22=I (iB o.dvs j).stops.length∧∃(i:Nat)(ov:Value),(n+i=(iB o.dvs j).stops.length)∧get l 23=I i∧get l 7=ov∧St prog H H' [⟨ptr A1 0 4,0,[(.string o.name),o.rv,o.dv,o.cv]⟩,⟨ptr A2 0 3,0,[sv,(.int .u64 rg.cpl),(.int .u64 rg.off)]⟩,⟨ptr A3 0 2,0,[I j,I z]⟩,⟨ov,2,pr ((List.range i).flatMap (vC o rg ((j:Int),z)))⟩]) (iB o.dvs j).stops.length ?_ ?_
 ·simp(disch:=omega) only[RB,RC,simprocAttr,hn]
  exact⟨0,.slice none 0 0,by omega,rfl,rfl,hS4⟩
 rintro n l H4⟨hn,g3,g4,g5,g6,g21,g22,i,ov,hi,g23,g7,hS5⟩
 simp(disch:=omega) only[↓RA,RB,simprocAttr,hn,g22,g23]
 refine iA (fun q1=> ?_) (fun q1=> ?_)
 ·have hil:i<(iB o.dvs j).stops.length:=by omega
  have hso:=a0b h0 hj (hsb i hil)
  have hsu:(List.range (i+1)).flatMap (vC o rg ((j:Int),z))=(List.range i).flatMap (vC o rg ((j:Int),z))++uG o rg j i z (iB (iB o.dvs j).stops i).segs.length:=by
   rw[dZ,dz,du,ez,di,a3R]
  have hpl:=hdl i (by omega)
  have hsn:(iB (iB o.dvs j).stops i).segs.length<1000000000:=((ho.2.2.2.1 _ (iD hj)).2.1 _ (hsb i hil)).2.2
  have e1:=a1i (iB rg.stops j) i (hr.2.2.1 _ (iD (by omega)))
  have e2:=zR ((iB rg.stops j)>>>i) (sQ _ (hr.2.2.1 _ (iD (by omega))))
  have e3:=tb (iB rg.stops j) i
  simp(disch:=omega) only[↓RA,RZ,simprocAttr,hn,g21,g23,(hS5.sl (ho.2.2.2.1 (iB o.dvs j) (iD (by omega))).1).idx,(hS5.sl (ho.2.2.2.1 (iB o.dvs j) (iD (by omega))).1).ai,Stp.cells,q1]
  refine hS5.eNew 4 [(.string ⟨#[]⟩),I 0,I 0,(.slice none 0 0)] rfl rfl rfl oA fun A4 H5 hS6=> ?_
  simp only[RT]at hS6
  simp(disch:=omega) only[↓RA,RZ,simprocAttr,hn,q1]
  refine hS6.aa 4 rfl [(.string (iB (iB o.dvs j).stops i).name),I (iB (iB o.dvs j).stops i).num,I (iB (iB o.dvs j).stops i).den,(iB (iB o.dvs j).stops i).gv] rfl (by simp[OC,(hS6.sl ((ho.2.2.2.1 (iB o.dvs j) (iD (by omega))).2.1 (iB (iB o.dvs j).stops i) (iD (by omega))).1).cells.2.1]) oA (by simp) fun H6 hS7=> ?_
  simp only[RT]at hS7
  simp(disch:=omega) only[↓RA,RZ,simprocAttr,hn,hS7.ld 4 rfl,(hS7.sl ((ho.2.2.2.1 (iB o.dvs j) (iD (by omega))).2.1 (iB (iB o.dvs j).stops i) (iD (by omega))).1).len,q1]
  refine Wp.aj (fun n l H'=>l.length=108∧get l 3=(ptr A1 0 4)∧get l 4=(ptr A2 0 3)∧get l 5=(ptr A3 0 2)∧get l 6=(.slice none 0 0)∧get l 8=I i∧get l 21=(iB o.dvs j).sv∧get l 22=I (iB o.dvs j).stops.length∧get l 23=I i∧get l 29=(iB (iB o.dvs j).stops i).gv∧get l 30=I (iB (iB o.dvs j).stops i).segs.length∧∃(k:Nat)(ow:Value),(n+k=(iB (iB o.dvs j).stops i).segs.length)∧get l 31=I k∧get l 7=ow∧St prog H H' [⟨ptr A1 0 4,0,[(.string o.name),o.rv,o.dv,o.cv]⟩,⟨ptr A2 0 3,0,[sv,(.int .u64 rg.cpl),(.int .u64 rg.off)]⟩,⟨ptr A3 0 2,0,[I j,I z]⟩,⟨ow,2,pr ((List.range i).flatMap (vC o rg ((j:Int),z))++uG o rg j i z k)⟩,⟨ptr A4 0 4,0,[(.string (iB (iB o.dvs j).stops i).name),I (iB (iB o.dvs j).stops i).num,I (iB (iB o.dvs j).stops i).den,(iB (iB o.dvs j).stops i).gv]⟩]) (iB (iB o.dvs j).stops i).segs.length ?_ ?_
  ·simp(disch:=omega) only[RB,RC,simprocAttr,hn,g3,g4,g5,g6,g21,g22,g23,g7]
   refine⟨0,ov,by omega,rfl,rfl,?_⟩
   rw[show uG o rg j i z 0=[]from by unfold uG;split<;>rfl,di]
   exact hS7
  rintro n l H7⟨hn,g3,g4,g5,g6,g8,g21,g22,g23,g29,g30,k,ow,hk,g31,g7,hS8⟩
  simp(disch:=omega) only[↓RA,RB,simprocAttr,hn,g30,g31]
  refine iA (fun q2=> ?_) (fun q2=> ?_)
  ·have hkl:k<(iB (iB o.dvs j).stops i).segs.length:=by omega
   have hsk:=hsl i hil k
   have hgd:=hso.draws k hkl
   have hgd2:=a6V hgd
   simp(disch:=omega) only[↓RA,RZ,simprocAttr,hn,g29,g31,(hS8.sl ((ho.2.2.2.1 (iB o.dvs j) (iD (by omega))).2.1 (iB (iB o.dvs j).stops i) (iD (by omega))).1).idx,(hS8.sl ((ho.2.2.2.1 (iB o.dvs j) (iD (by omega))).2.1 (iB (iB o.dvs j).stops i) (iD (by omega))).1).ai,Seg.cells,q2]
   refine hS8.eNew 3 [I 0,I 0,(.slice none 0 0)] rfl rfl rfl zP fun A5 H8 hS9=> ?_
   simp only[RT]at hS9
   simp(disch:=omega) only[↓RA,RZ,simprocAttr,hn,q2]
   refine hS9.aa 5 rfl [I (iB (iB (iB o.dvs j).stops i).segs k).lo,I (iB (iB (iB o.dvs j).stops i).segs k).hi,(iB (iB (iB o.dvs j).stops i).segs k).dv] rfl (by simp[OC,(hS9.sl (((ho.2.2.2.1 (iB o.dvs j) (iD (by omega))).2.1 (iB (iB o.dvs j).stops i) (iD (by omega))).2.1 (iB (iB (iB o.dvs j).stops i).segs k) (iD (by omega))).1).cells.2.1]) zP (by simp) fun H9 hS10=> ?_
   simp only[RT]at hS10
   simp(disch:=omega) only[↓RA,RZ,simprocAttr,hn,g4,g5,g8,hS10.ld 1 rfl,hS10.ld 2 rfl,(hS10.sl hr.1).idx,(hS10.sl hr.1).ld,one,u64,q2,e1,e2]
   refine iN (fun q3=> ?_) (fun q3=> ?_)
   ·have hb:(iB rg.stops j).testBit i=false:=by rw[e3];exact decide_eq_false (by omega)
    have hsg:∀k,uG o rg j i z k=[]:=fun k=>by unfold uG;rw[if_neg (by rw[hb];simp)]
    simp(disch:=omega) only[↓RA,RZ,simprocAttr,hn,g3,g4,g5,g6,g8,g21,g22,g23,g29,g30,g31,g7,q2,q3]
    refine⟨n-1,by omega,k+1,ow,by omega,by simp,rfl,?_⟩
    rw[hsg,←hsg k]
    exact hS10.pick [0,1,2,3,4] (by decide) rfl
   have hb:(iB rg.stops j).testBit i=true:=by rw[e3];exact decide_eq_true (by omega)
   have hsg:uG o rg j i z (k+1)=uG o rg j i z k++rN o (iB (iB (iB o.dvs j).stops i).segs k) z:=by
    unfold uG
    rw[if_pos hb,if_pos hb,List.take_add_one,dh hkl,Option.toList_some,←kC _ k hkl,dz,du,ez,di]
   simp(disch:=omega) only[↓RA,RZ,simprocAttr,hn,g5,hS10.ld 2 rfl,hS10.ld 5 rfl,q2,q3]
   refine iN (fun q4=> ?_) (fun q4=> ?_)
   ·have hd1:rN o (iB (iB (iB o.dvs j).stops i).segs k) z=[]:=by unfold rN;rw[if_neg (by omega)]
    simp(disch:=omega) only[↓RA,RZ,simprocAttr,hn,g3,g4,g5,g6,g8,g21,g22,g23,g29,g30,g31,g7,q2,q3,q4]
    refine⟨n-1,by omega,k+1,ow,by omega,by simp,rfl,?_⟩
    rw[hsg,hd1,di]
    exact hS10.pick [0,1,2,3,4] (by decide) rfl
   simp(disch:=omega) only[↓RA,RZ,simprocAttr,hn,g5,hS10.ld 2 rfl,hS10.ld 5 rfl,q2,q3,q4]
   refine iA (fun q5=> ?_) (fun q5=> ?_)
   ·have hd1:rN o (iB (iB (iB o.dvs j).stops i).segs k) z=[]:=by unfold rN;rw[if_neg (by omega)]
    simp(disch:=omega) only[↓RA,RZ,simprocAttr,hn,g3,g4,g5,g6,g8,g21,g22,g23,g29,g30,g31,g7,q2,q3,q4,q5]
    refine⟨n-1,by omega,k+1,ow,by omega,by simp,rfl,?_⟩
    rw[hsg,hd1,di]
    exact hS10.pick [0,1,2,3,4] (by decide) rfl
   have hd1:rN o (iB (iB (iB o.dvs j).stops i).segs k) z=dr3 o z (iB (iB (iB o.dvs j).stops i).segs k).draws:=by unfold rN;rw[if_pos (by omega)];rfl
   have hsm2:(uG o rg j i z k).length≤96:=hsk
   simp(disch:=omega) only[↓RA,RZ,simprocAttr,hn,hS10.ld 5 rfl,(hS10.sl (((ho.2.2.2.1 (iB o.dvs j) (iD (by omega))).2.1 (iB (iB o.dvs j).stops i) (iD (by omega))).2.1 (iB (iB (iB o.dvs j).stops i).segs k) (iD (by omega))).1).len,q2,q3,q4,q5]
   refine Wp.aj (fun n l H'=>l.length=108∧get l 3=(ptr A1 0 4)∧get l 4=(ptr A2 0 3)∧get l 5=(ptr A3 0 2)∧get l 6=(.slice none 0 0)∧get l 8=I i∧get l 21=(iB o.dvs j).sv∧get l 22=I (iB o.dvs j).stops.length∧get l 23=I i∧get l 29=(iB (iB o.dvs j).stops i).gv∧get l 30=I (iB (iB o.dvs j).stops i).segs.length∧get l 31=I k∧get l 61=(iB (iB (iB o.dvs j).stops i).segs k).dv∧get l 62=I (iB (iB (iB o.dvs j).stops i).segs k).draws.length∧∃(q:Nat)(oy:Value),(n+q=(iB (iB (iB o.dvs j).stops i).segs k).draws.length)∧get l 63=I q∧get l 7=oy∧St prog H H' [⟨ptr A1 0 4,0,[(.string o.name),o.rv,o.dv,o.cv]⟩,⟨ptr A2 0 3,0,[sv,(.int .u64 rg.cpl),(.int .u64 rg.off)]⟩,⟨ptr A3 0 2,0,[I j,I z]⟩,⟨oy,2,pr ((List.range i).flatMap (vC o rg ((j:Int),z))++uG o rg j i z k++dr3 o z ((iB (iB (iB o.dvs j).stops i).segs k).draws.take q))⟩,⟨ptr A4 0 4,0,[(.string (iB (iB o.dvs j).stops i).name),I (iB (iB o.dvs j).stops i).num,I (iB (iB o.dvs j).stops i).den,(iB (iB o.dvs j).stops i).gv]⟩,⟨ptr A5 0 3,0,[I (iB (iB (iB o.dvs j).stops i).segs k).lo,I (iB (iB (iB o.dvs j).stops i).segs k).hi,(iB (iB (iB o.dvs j).stops i).segs k).dv]⟩]) (iB (iB (iB o.dvs j).stops i).segs k).draws.length ?_ ?_
   ·simp(disch:=omega) only[RB,RC,simprocAttr,hn,g3,g4,g5,g6,g8,g21,g22,g23,g29,g30,g31,g7]
    refine⟨0,ow,by omega,rfl,rfl,?_⟩
    rw[List.take_zero,show dr3 o z []=[]from rfl,di]
    exact hS10
   rintro n l H10⟨hn,g3,g4,g5,g6,g8,g21,g22,g23,g29,g30,g31,g61,g62,q,oy,hq,g63,g7,hS11⟩
   simp(disch:=omega) only[↓RA,RB,simprocAttr,hn,g62,g63]
   refine iA (fun q6=> ?_) (fun q6=> ?_)
   ·have hql:q<(iB (iB (iB o.dvs j).stops i).segs k).draws.length:=by omega
    have hdr:=hgd2.2 q hql
    obtain⟨e,he⟩:∃e:Nat,(iB (iB (iB (iB o.dvs j).stops i).segs k).draws q).rank=e:=⟨(iB (iB (iB (iB o.dvs j).stops i).segs k).draws q).rank.toNat,by omega⟩
    have hel:e<o.ranks.length:=by omega
    have hd3:=b7s o z (iB (iB (iB o.dvs j).stops i).segs k).draws q hql
    have hd3l:=b8c o z ((iB (iB (iB o.dvs j).stops i).segs k).draws.take q)
    have hwl:(iB o.ranks e).wind.length<1000000000:=(ho.2.1 _ (iD hel)).2
    have htl:=List.length_take_le q (iB (iB (iB o.dvs j).stops i).segs k).draws
    have hp1:mG o.ranks (iB (iB (iB (iB o.dvs j).stops i).segs k).draws q) z=((e:Int),oQ (oQ (z+(iB (iB (iB (iB o.dvs j).stops i).segs k).draws q).shift)-(iB o.ranks e).first)):=by
     unfold mG
     rw[if_neg (by omega),he]
     rfl
    have hhp:qW o.ranks (iB (iB (iB (iB o.dvs j).stops i).segs k).draws q) z=(decide (0≤oQ (oQ (z+(iB (iB (iB (iB o.dvs j).stops i).segs k).draws q).shift)-(iB o.ranks e).first))&&decide (oQ (oQ (z+(iB (iB (iB (iB o.dvs j).stops i).segs k).draws q).shift)-(iB o.ranks e).first)<(iB o.ranks e).wind.length)):=by
     unfold qW
     rw[hp1,decide_eq_false (by omega),he]
     rfl
    simp(disch:=omega) only[↓RA,RZ,simprocAttr,hn,g61,g63,(hS11.sl (((ho.2.2.2.1 (iB o.dvs j) (iD (by omega))).2.1 (iB (iB o.dvs j).stops i) (iD (by omega))).2.1 (iB (iB (iB o.dvs j).stops i).segs k) (iD (by omega))).1).idx,(hS11.sl (((ho.2.2.2.1 (iB o.dvs j) (iD (by omega))).2.1 (iB (iB o.dvs j).stops i) (iD (by omega))).2.1 (iB (iB (iB o.dvs j).stops i).segs k) (iD (by omega))).1).ai,Drw.cells,q6]
    refine hS11.eNew 2 [I 0,I 0] rfl rfl rfl wG fun A6 H11 hS12=> ?_
    simp only[RT]at hS12
    simp(disch:=omega) only[↓RA,RZ,simprocAttr,hn,q6]
    refine hS12.aa 6 rfl [I (iB (iB (iB (iB o.dvs j).stops i).segs k).draws q).rank,I (iB (iB (iB (iB o.dvs j).stops i).segs k).draws q).shift] rfl rfl wG (by simp) fun H12 hS13=> ?_
    simp only[RT]at hS13
    simp(disch:=omega) only[↓RA,RZ,simprocAttr,q6]
    refine Wp.drw jW (by kernel_rfl) ?_
    simp(disch:=omega) only[↓RA,RZ,simprocAttr,hn,g3,g5,hS13.ld 2 rfl,hS13.ld 6 rfl,hS13.ld 0 rfl]
    simp(disch:=omega) only[↓RA,RZ,simprocAttr,hn,(hS13.sl ho.1).idx,(hS13.sl ho.1).bb,(hS13.sl ho.1).ld,Rk.cells,he]
    refine jC (fun q7=> ?_) (fun q7=> ?_)
    ·simp(disch:=omega) only[↓RA,RZ,simprocAttr,hn,g3,hS13.ld 0 rfl,hS13.ld 6 rfl,(hS13.sl ho.1).idx,(hS13.sl ho.1).bb,(hS13.sl ho.1).ld,Rk.cells,(hS13.sl (ho.2.1 (iB o.ranks e) (iD (by omega))).1).len,he,q7]
     refine iA (fun q8=> ?_) (fun q8=> ?_)
     ·have hht:qW o.ranks (iB (iB (iB (iB o.dvs j).stops i).segs k).draws q) z=true:=by rw[hhp,decide_eq_true (by omega),decide_eq_true (by omega)];rfl
      simp(disch:=omega) only[↓RA,RZ,simprocAttr,hn,g7,hS13.ld 6 rfl,xT,he,q7,q8]
      refine hS13.ag [I e,I (oQ (oQ (z+(iB (iB (iB (iB o.dvs j).stops i).segs k).draws q).shift)-(iB o.ranks e).first))] b0i c3f rfl rfl (by simp[Value.cells]) rfl rfl (by decide) (by decide) fun w1 H13 hS14=> ?_
      simp only[RT]at hS14
      simp(disch:=omega) only[↓RA,RZ,simprocAttr,hn,he,q7,q8]
      refine hS14.aq 3 rfl (hS14.rd 7 rfl) b0i (by rw[iI,dg,dg];simp only[dC,dW];omega) fun w2 H14 hS15=> ?_
      simp only[RT]at hS15
      simp(disch:=omega) only[↓RA,RZ,simprocAttr,hn,g3,g4,g5,g6,g8,g21,g22,g23,g29,g30,g31,g61,g62,g63,he,q7,q8]
      refine⟨n-1,by omega,q+1,w2,by omega,by simp,rfl,?_⟩
      rw[hd3,hht,if_pos rfl,hp1,←ef,jL]
      exact hS15.pick [0,1,2,3,4,5] (by decide) rfl
     have hhf:qW o.ranks (iB (iB (iB (iB o.dvs j).stops i).segs k).draws q) z=false:=by rw[hhp,decide_eq_false (show¬oQ (oQ (z+(iB (iB (iB (iB o.dvs j).stops i).segs k).draws q).shift)-(iB o.ranks e).first)<_ by omega),Bool.and_false]
     simp(disch:=omega) only[↓RA,RZ,simprocAttr,hn,g3,g4,g5,g6,g8,g21,g22,g23,g29,g30,g31,g61,g62,g63,g7,he,q7,q8]
     refine⟨n-1,by omega,q+1,oy,by omega,by simp,rfl,?_⟩
     rw[hd3,hhf,if_neg (by simp),di]
     exact hS13.pick [0,1,2,3,4,5] (by decide) rfl
    have hhf:qW o.ranks (iB (iB (iB (iB o.dvs j).stops i).segs k).draws q) z=false:=by rw[hhp,decide_eq_false (show¬0≤oQ (oQ (z+(iB (iB (iB (iB o.dvs j).stops i).segs k).draws q).shift)-(iB o.ranks e).first) by omega),ft]
    simp(disch:=omega) only[↓RA,RZ,simprocAttr,hn,g3,g4,g5,g6,g8,g21,g22,g23,g29,g30,g31,g61,g62,g63,g7,he,q7]
    refine⟨n-1,by omega,q+1,oy,by omega,by simp,rfl,?_⟩
    rw[hd3,hhf,if_neg (by simp),di]
    exact hS13.pick [0,1,2,3,4,5] (by decide) rfl
   simp(disch:=omega) only[↓RA,RZ,simprocAttr,hn,g3,g4,g5,g6,g8,g21,g22,g23,g29,g30,g31,g7,q6]
   have hqq:q=(iB (iB (iB o.dvs j).stops i).segs k).draws.length:=by omega
   refine⟨(iB (iB o.dvs j).stops i).segs.length-(k+1),by omega,k+1,oy,by omega,by simp,rfl,?_⟩
   rw[hsg,hd1,←ef]
   rw[hqq,dU]at hS11
   exact hS11.pick [0,1,2,3,4] (by decide) rfl
  simp(disch:=omega) only[↓RA,RZ,simprocAttr,hn,g3,g4,g5,g6,g21,g22,g23,g7,q2]
  have hkk:k=(iB (iB o.dvs j).stops i).segs.length:=by omega
  refine⟨(iB o.dvs j).stops.length-(i+1),by omega,i+1,ow,by omega,by simp,rfl,?_⟩
  rw[hsu,←hkk]
  exact hS8.pick [0,1,2,3] (by decide) rfl
 simp(disch:=omega) only[↓RA,RZ,simprocAttr,hn,g7,q1]
 have hii:i=(iB o.dvs j).stops.length:=by omega
 rw[hii]at hS5
 have hdl2:=hdl _ (db _)
 have hc2:nD o ((j:Int),z)=true:=hc
 have hd3e:(List.range (iB o.dvs j).stops.length).flatMap (vC o rg ((j:Int),z))=pQ o rg ((j:Int),z):=by unfold pQ;rfl
 rw[hd3e]at hS5
 rw[hd3e]at hdl2
 have hsm:∀x∈pQ o rg ((j:Int),z),sm x:=fun x hx=>(xJ ((vL h0 hc2).1 hx)).small hf ho
 refine c1A hS5 3 rfl (by omega) hsm fun HS hSS=> ?_
 simp only[fM,eW]at hSS
 simp(disch:=omega) only[↓RA,RZ,simprocAttr,hn,g7,q1]
 have hM1:=hSS.pick (os':=[⟨ov,2,_⟩]) [3] (by decide) rfl
 have hR1:=hSS.pick (os':=[⟨ov,2,_⟩,⟨ptr A1 0 4,0,_⟩,⟨ptr A2 0 3,0,_⟩,⟨ptr A3 0 2,0,_⟩]) [3,0,1,2] (by decide) rfl
 refine iG (uC hM1.ay (by rw[mM];omega)) ?_
 rintro r H15⟨rest,hb,hrd,hT1⟩
 have hS16:=hR1.frame hT1
 simp only[RT]at hS16
 have hrr:=hrd _ (hS16.rd 0 rfl)
 have hrc:=hrr.cells
 simp(disch:=omega) only[↓RA,RZ,simprocAttr,hn,c8j,q1]
 refine⟨⟨⟨hrr,kF,by decide⟩,fun b h=> ?_⟩,hS16.forget⟩
 rcases hS16.new _ (dG ..) b (hb b h)with h|h
 ·exact h
 ·exact h.elim
theorem a9V(o:Org)(ho:o.In H)(h0:organE o=0)(rg:Reg)(sv:Value)(hr:rg.In H sv)(hrl:rg.stops.length=o.dvs.length)(c:Ct)(hc:nD o c=true):
 Fn prog 54 [.agg #[.string o.name,o.rv,o.dv,o.cv],.agg #[sv,.int .u64 rg.cpl,.int .u64 rg.off],.agg #[I c.1,I c.2]] H fun rr H'=>Slx 2 jV H' (fun B=>H.length≤B) rr (dd (oS (pQ o rg c)))∧St prog H H' []:=by
 obtain⟨d,z⟩:=c
 have h:=(mE o _).1 hc
 obtain⟨j,rfl⟩:=fI h.1
 exact b8b o ho h0 rg sv hr hrl j z hc
theorem b7H{o:Org}(h0:organE o=0)(rg:Reg){c:Ct}(hc:nD o c=true):(dd (oS (pQ o rg c))).length≤480:=by
 rw[b8E h0 hc]
 have h1:=b5l (oS (mS o rg c))
 rw[mM]at h1
 exact dy h1 (a3P (Org.ba h0) rg hc)
theorem b2i{o:Org}(h0:organE o=0)(rg:Reg):∀(l:List Ct),(∀c∈l,nD o c=true)→(l.flatMap fun c=>dd (oS (pQ o rg c))).length≤l.length*480
 | [],_=>by simp
 | c::l,h=>by
   have h1:=b7H h0 rg (h c (dG ..))
   have h2:=b2i h0 rg l fun x hx=>h x (dN _ hx)
   rw[du,dg,dC]
   omega
theorem a3w(o:Org)(ho:o.In H)(h0:organE o=0)(rg:Reg)(sv:Value)(hr:rg.In H sv)(hrl:rg.stops.length=o.dvs.length)(kv:Value)(ks:List Nt)(hk:Ks H kv ks)(hke:oT o ks=0):
 Fn prog 20 [.agg #[.string o.name,o.rv,o.dv,o.cv],.agg #[sv,.int .u64 rg.cpl,.int .u64 rg.off],kv] H fun rr H'=>Slx 2 jV H' (fun B=>H.length≤B) rr (jP o rg (iF ks))∧St prog H H' []:=by
 have hf:=Org.ba h0
 have hplc:=sA hk.ok hke
 have hpll:=sE hke
 have hsc:=a2X (o:=o) (rg:=rg) hplc
 have hsl:=a1G hf (rg:=rg) hpll
 have hsp:dd (oS ((kG o rg (iF ks)).flatMap fun c=>dd (oS (pQ o rg c))))=jP o rg (iF ks):=b7d h0 hsc
 have hsm:∀x∈(kG o rg (iF ks)).flatMap (fun c=>dd (oS (pQ o rg c))),sm x:=fun x hx=>by
  obtain⟨c,hc,hx⟩:=dR.1 hx
  exact(xJ ((vL h0 (hsc c hc)).1 (rG.1 hx))).small hf ho
 have hle:∀i,(((kG o rg (iF ks)).take i).flatMap fun c=>dd (oS (pQ o rg c))).length≤2048*480:=fun i=>by
  have h1:=b2i h0 rg ((kG o rg (iF ks)).take i) fun c hc=>hsc c (fV hc)
  have h2:((kG o rg (iF ks)).take i).length≤(kG o rg (iF ks)).length:=by rw[fz];omega
  exact dy h1 (dD _ (by omega))
 rw[←hsp]
 refine .bk func20 rfl (by kernel_rfl) (m:=30) rfl fun l hn g0 g1 g2=> ?_
 simp(disch:=omega) only[↓RA,RB,simprocAttr,g0]
 refine(sR H).eNew 4 [(.string o.name),o.rv,o.dv,o.cv] rfl rfl (by simp[OC,((sR H).sl ho.1).cells.2.1,((sR H).sl ho.2.2.1).cells.2.1,((sR H).sl ho.2.2.2.2.1).cells.2.1]) mX fun A1 H1 hS1=> ?_
 simp only[RT]at hS1
 simp(disch:=omega) only[↓RA,RB,simprocAttr,g1]
 refine hS1.eNew 3 [sv,(.int .u64 rg.cpl),(.int .u64 rg.off)] rfl rfl (by simp[OC,(hS1.sl hr.1).cells.2.1]) qV fun A2 H2 hS2=> ?_
 simp only[RT]at hS2
 simp(disch:=omega) only[↓RA,RZ,simprocAttr,hn,g2,hS2.ai 0 rfl,hS2.ai 1 rfl]
 refine iG ((a3s o (ho.ak hS2) hf rg sv (hr.ak hS2) kv ks (hk.ak hS2) hke).tr) ?_
 rintro r H3⟨-,hT1⟩
 have hS3:=hS2.trans hT1
 simp only[RT]at hS3
 obtain⟨cv,rfl⟩:∃w,w=r:=⟨r,rfl⟩
 simp(disch:=omega) only[↓RA,RZ,simprocAttr,hn,(hS3.av 2 rfl kF).len]
 have hS4:=hS3.nil 1
 simp only[RT]at hS4
 refine Wp.aj (fun n l H'=>l.length=30∧get l 3=(ptr A1 0 4)∧get l 4=(ptr A2 0 3)∧get l 6=(.slice none 0 0)∧get l 13=cv∧get l 14=I (kG o rg (iF ks)).length∧∃(i:Nat)(ov:Value),(n+i=(kG o rg (iF ks)).length)∧get l 15=I i∧get l 7=ov∧St prog H H' [⟨ptr A1 0 4,0,[(.string o.name),o.rv,o.dv,o.cv]⟩,⟨ptr A2 0 3,0,[sv,(.int .u64 rg.cpl),(.int .u64 rg.off)]⟩,⟨cv,2,pr (kG o rg (iF ks))⟩,⟨ov,2,pr (((kG o rg (iF ks)).take i).flatMap fun c=>dd (oS (pQ o rg c)))⟩]) (kG o rg (iF ks)).length ?_ ?_
 ·simp(disch:=omega) only[RB,RC,simprocAttr,hn]
  exact⟨0,.slice none 0 0,by omega,rfl,rfl,hS4⟩
 rintro n l H4⟨hn,g3,g4,g6,g13,g14,i,ov,hi,g15,g7,hS5⟩
 simp(disch:=omega) only[↓RA,RB,simprocAttr,hn,g14,g15]
 refine iA (fun q1=> ?_) (fun q1=> ?_)
 ·have hci:=hsc _ (iD (xs:=kG o rg (iF ks)) (j:=i) (by omega))
  have htk:=lI (kG o rg (iF ks)) i (by omega)
  have hli:=hle i
  have hl1:=b7H h0 rg hci
  simp(disch:=omega) only[↓RA,RZ,simprocAttr,hn,g13,g15,(hS5.av 2 rfl kF).idx,(hS5.av 2 rfl kF).ai,jV,q1]
  refine hS5.eNew 2 [I 0,I 0] rfl rfl rfl nU fun A3 H5 hS6=> ?_
  simp only[RT]at hS6
  simp(disch:=omega) only[↓RA,RZ,simprocAttr,hn,q1]
  refine hS6.aa 4 rfl [I (iB (kG o rg (iF ks)) i).1,I (iB (kG o rg (iF ks)) i).2] rfl rfl nU (by simp) fun H6 hS7=> ?_
  simp only[RT]at hS7
  simp(disch:=omega) only[↓RA,RZ,simprocAttr,hn,g3,g4,g7,hS7.ai 0 rfl,hS7.ai 1 rfl,hS7.ai 4 rfl,q1]
  refine iG (a9V o (ho.ak hS7) h0 rg sv (hr.ak hS7) hrl (iB (kG o rg (iF ks)) i) hci) ?_
  rintro r H7⟨hqx,hT2⟩
  have hS8:=hS7.trans hT2
  simp only[RT]at hS8
  obtain⟨qv,rfl⟩:∃w,w=r:=⟨r,rfl⟩
  simp(disch:=omega) only[↓RA,RZ,simprocAttr,hn,q1]
  refine hS8.aq 3 rfl hqx.1.rd b0i (by rw[iI,show((dd (oS (pQ o rg (iB (kG o rg (iF ks)) i)))).flatMap jV).length=(dd (oS (pQ o rg (iB (kG o rg (iF ks)) i)))).length*2 from iI _];omega) fun w1 H8 hS9=> ?_
  simp only[RT]at hS9
  simp(disch:=omega) only[↓RA,RZ,simprocAttr,hn,g3,g4,g6,g13,g14,g15,q1]
  refine⟨n-1,by omega,i+1,w1,by omega,by simp,rfl,?_⟩
  rw[htk,dz,jL,du,ez,di]
  exact hS9.pick [0,1,2,3] (by decide) rfl
 simp(disch:=omega) only[↓RA,RZ,simprocAttr,hn,g7,q1]
 have hii:i=(kG o rg (iF ks)).length:=by omega
 have hli:=hle i
 rw[hii,dU]at hS5
 rw[hii,dU]at hli
 refine c1A hS5 3 rfl (by omega) hsm fun HS hSS=> ?_
 simp only[fM,eW]at hSS
 simp(disch:=omega) only[↓RA,RZ,simprocAttr,hn,g7,q1]
 have hM1:=hSS.pick (os':=[⟨ov,2,_⟩]) [3] (by decide) rfl
 have hR1:=hSS.pick (os':=[⟨ov,2,_⟩,⟨ptr A1 0 4,0,_⟩,⟨ptr A2 0 3,0,_⟩,⟨cv,2,_⟩]) [3,0,1,2] (by decide) rfl
 refine iG (uC hM1.ay (by rw[mM];omega)) ?_
 rintro r H9⟨rest,hb,hrd,hT3⟩
 have hS10:=hR1.frame hT3
 simp only[RT]at hS10
 have hrr:=hrd _ (hS10.rd 0 rfl)
 have hrc:=hrr.cells
 simp(disch:=omega) only[↓RA,RZ,simprocAttr,hn,c8e,q1]
 refine⟨⟨⟨hrr,kF,by decide⟩,fun b h=> ?_⟩,hS10.forget⟩
 rcases hS10.new _ (dG ..) b (hb b h)with h|h
 ·exact h
 ·exact h.elim
end Go.Ds
namespace Go.Ds
open Go.Proofs
variable {H:Heap}
set_option maxRecDepth 10000
set_option maxHeartbeats 1000000
end Go.Ds
namespace Go.Ds
open Go.Proofs
variable {H:Heap}
set_option maxRecDepth 10000
theorem Org.cR{o:Org}(h:organE o=0):o.ranks.length≤60∧∀j,j<o.ranks.length→(iB o.ranks j).wind.length≤128:=by
 unfold organE at h
 split at h
 ·omega
 split at h
 ·omega
 rename_i _ h2
 split at h
 ·rename_i hh;exact absurd h hh
 rename_i h3
 have h3:=dx.1 h3
 refine⟨by omega,fun j hj=> ?_⟩
 have e:=nY h3 j hj
 unfold nT at e
 split at e
 ·rename_i hh;exact absurd e hh
 rename_i hr
 have hr:=dx.1 hr
 unfold rankE at hr
 split at hr
 ·omega
 split at hr
 ·rename_i hh;exact absurd hr hh
 split at hr
 ·omega
 split at hr
 ·omega
 split at hr
 ·omega
 ·omega
theorem b3U{o:Org}(h:organE o=0)(rg:Reg)(l:List Ct):(∀p∈jP o rg l,0≤p.1∧p.1<o.ranks.length∧0≤p.2∧p.2<1000)∧(jP o rg l).length<30000:=by
 obtain⟨h1,h2⟩:=Org.cR h
 have hp:∀p∈jP o rg l,0≤p.1∧p.1<o.ranks.length∧0≤p.2∧p.2<128:=fun p hp=>by
  obtain⟨a,b,c,d⟩:=b0G hp
  have:=h2 p.1.toNat (by omega)
  exact⟨a,b,c,by omega⟩
 refine⟨fun p hx=>by have:=hp p hx;exact⟨this.1,this.2.1,this.2.2.1,by omega⟩,?_⟩
 have h3:=a2Q 7680 ((jP o rg l).map fun c=>c.1.toNat*128+c.2.toNat) ?_ ?_
 ·rw[dK]at h3;omega
 ·unfold List.Nodup
  rw[fT]
  refine List.Pairwise.imp_of_mem (fun{a b}ha hb hne e=> ?_) (b3F o rg l)
  have h1:=hp a ha
  have h2:=hp b hb
  unfold ltP at hne
  omega
 ·intro i hi
  obtain⟨c,hc,rfl⟩:=dr.1 hi
  have:=hp c hc
  omega
end Go.Ds
namespace Go.Ds
open Go.Proofs Go.Proofs.Tryz
variable {H:Heap}
set_option maxRecDepth 10000
set_option maxHeartbeats 1000000
theorem b0B(v w:Value)(xs ys:List Ct)(hv:Sl 2 jV H v xs)(hw:Sl 2 jV H w ys)(hl:xs.length<1000000000)(hl2:ys.length<1000000000):
 Fn prog 46 [v,w] H fun r H'=>r=.bool (decide (xs=ys))∧St prog H H' []:=by
 refine .aF func46 rfl (by kernel_rfl) (m:=26) rfl fun l hn g0 g1=> ?_
 simp(disch:=omega) only[↓RA,RZ,simprocAttr,hn,g0,g1,((sR H).sl hv).len,((sR H).sl hw).len]
 refine iA (fun h1=> ?_) (fun h1=> ?_)
 ·simp(disch:=omega) only[↓RA,RZ,simprocAttr,hn,c2y,h1]
  exact⟨by rw[decide_eq_false];intro e;rw[e]at h1;exact h1 rfl,(sR H)⟩
 simp(disch:=omega) only[↓RA,RZ,simprocAttr,hn,g0,((sR H).sl hv).len,h1]
 refine Wp.aj (fun n l H'=>l.length=26∧get l 0=v∧get l 1=w∧get l 12=I xs.length∧∃(j:Nat),(n+j=xs.length∧∀q,q<j→iB xs q=iB ys q)∧get l 13=I j∧St prog H H' []) xs.length ?_ ?_
 ·simp(disch:=omega) only[RB,RC,simprocAttr,hn,g0,g1]
  exact⟨0,⟨by omega,fun q hq=>absurd hq (dL _)⟩,rfl,(sR H)⟩
 rintro n l H1⟨hn,g0,g1,g12,j,⟨hj,hz⟩,g13,hS1⟩
 simp(disch:=omega) only[↓RA,RB,simprocAttr,hn,g12,g13]
 refine iA (fun q1=> ?_) (fun q1=> ?_)
 ·simp(disch:=omega) only[↓RA,RZ,simprocAttr,hn,g13,q1]
  refine Wp.drw jW (by kernel_rfl) ?_
  simp(disch:=omega) only[↓RA,RZ,simprocAttr,hn,g0,g1,(hS1.sl hv).idx,(hS1.sl hv).ai,jV,(hS1.sl hw).idx,(hS1.sl hw).ai]
  refine iA (fun q2=> ?_) (fun q2=> ?_)
  ·simp(disch:=omega) only[↓RA,RZ,simprocAttr,hn,c2y,q2]
   refine⟨?_,hS1⟩
   rw[decide_eq_false]
   intro e
   rw[e]at q2
   exact q2 ⟨rfl,rfl⟩
  have q3:=dx.1 q2
  simp(disch:=omega) only[↓RA,RZ,simprocAttr,hn,g0,g1,g12,g13,q2]
  exact⟨n-1,by omega,j+1,⟨by omega,fun q hq=>by rcases dm.1 hq with e|e;(· exact hz q e);(· rw[e];exact fN q3.1 q3.2)⟩,by simp,hS1⟩
 simp(disch:=omega) only[↓RA,RZ,simprocAttr,hn,c2y,q1]
 exact⟨by rw[decide_eq_true];exact xF (by omega) fun q hq=>hz q (by omega),hS1⟩
theorem b5s(a b c:Int):iM prog (part 60 #[I a,I b,I c] 0)=some (.agg #[I a,I b]):=by kernel_rfl
theorem c1m(a b c:Int):iM prog (part 3 #[I a,I b,I c] 2)=some (I c):=by kernel_rfl
theorem c5t(x y:Ct×Int):iM prog (Op.equalIn (9999+1) 79 (.agg [I x.1.1,I x.1.2,I x.2].toArray) (.agg [I y.1.1,I y.1.2,I y.2].toArray))=some (decide (x=y)):=by
 have h52:iM prog (Op.equalIn (9997+2) 60 (.agg [I x.1.1,I x.1.2].toArray) (.agg [I y.1.1,I y.1.2].toArray))=some ((List.range [I x.1.1,I x.1.2].length).all fun j=>eqC ([I x.1.1,I x.1.2].getD j undef) ([I y.1.1,I y.1.2].getD j undef)):=
  yM 9997 (by kernel_rfl) (by kernel_rfl) (by kernel_rfl) rfl (by kernel_rfl)
 rw[a6y (fs:=tW prog 79) (by kernel_rfl) (by kernel_rfl) (fun f=>if f.offset=0 then decide (x.1=y.1)else decide (x.2=y.2))]
 ·congr 1
  have hfl:(tW prog 79).map (·.offset)=[0,2]:=by kernel_rfl
  have e:(tW prog 79).all (fun f=>if f.offset=0 then decide (x.1=y.1)else decide (x.2=y.2))=((tW prog 79).map (·.offset)).all fun n=>if n=0 then decide (x.1=y.1)else decide (x.2=y.2):=by
   rw[List.all_map]
   rfl
  rw[e,hfl,ec]
  simp[Prod.ext_iff]
 ·intro f hf
  have hfs:(tW prog 79).map (fun f=>(f.name != "_",f.type,f.offset))=[(true,60,0),(true,3,2)]:=by kernel_rfl
  have hm:(f.name != "_",f.type,f.offset)∈[(true,60,0),(true,3,2)]:=by
   rw[←hfs]
   exact fK hf
  simp only[dS,dV,or_false,gG]at hm
  rcases hm with⟨h1,h2,h3⟩|⟨h1,h2,h3⟩
  ·refine⟨by simpa using h1,?_⟩
   rw[h2,h3,if_pos rfl,iJ,b5s,cV,iJ,b5s,cV]
   refine h52.trans ?_
   congr 1
   show((x.1.1==y.1.1)&&((x.1.2==y.1.2)&&true))=_
   rw[ec]
   first|done|simp[Prod.ext_iff]
  ·refine⟨by simpa using h1,?_⟩
   rw[h2,h3,if_neg (by decide),iJ,c1m,cV,iJ,c1m,cV]
   exact eq1 (P:=prog) (t:=3) 9998 (by kernel_rfl)
theorem c5C(x y:Ct×Int)(t2:TypeId)(cx cy:Bool):lC prog .neq 79 t2 cx cy (.agg #[I x.1.1,I x.1.2,I x.2]) (.agg #[I y.1.1,I y.1.2,I y.2])=some (.bool (decide (¬x=y))):=by
 have h:=a7X (t2:=t2) (cx:=cx) (cy:=cy) (decide (x=y)) (by kernel_rfl) (by rfl) (by rfl) (c5t x y)
 rw[h]
 simp
theorem a2O(v w:Value)(xs ys:List (Ct×Int))(hv:Sl 3 jS H v xs)(hw:Sl 3 jS H w ys)(hl:xs.length<1000000000)(hl2:ys.length<1000000000):
 Fn prog 25 [v,w] H fun r H'=>r=.bool (decide (xs=ys))∧St prog H H' []:=by
 refine .aF func25 rfl (by kernel_rfl) (m:=26) rfl fun l hn g0 g1=> ?_
 simp(disch:=omega) only[↓RA,RZ,simprocAttr,hn,g0,g1,((sR H).sl hv).len,((sR H).sl hw).len]
 refine iA (fun h1=> ?_) (fun h1=> ?_)
 ·simp(disch:=omega) only[↓RA,RZ,simprocAttr,hn,c3P,h1]
  exact⟨by rw[decide_eq_false];intro e;rw[e]at h1;exact h1 rfl,(sR H)⟩
 simp(disch:=omega) only[↓RA,RZ,simprocAttr,hn,g0,((sR H).sl hv).len,h1]
 refine Wp.aj (fun n l H'=>l.length=26∧get l 0=v∧get l 1=w∧get l 12=I xs.length∧∃(j:Nat),(n+j=xs.length∧∀q,q<j→iB xs q=iB ys q)∧get l 13=I j∧St prog H H' []) xs.length ?_ ?_
 ·simp(disch:=omega) only[RB,RC,simprocAttr,hn,g0,g1]
  exact⟨0,⟨by omega,fun q hq=>absurd hq (dL _)⟩,rfl,(sR H)⟩
 rintro n l H1⟨hn,g0,g1,g12,j,⟨hj,hz⟩,g13,hS1⟩
 simp(disch:=omega) only[↓RA,RB,simprocAttr,hn,g12,g13]
 refine iA (fun q1=> ?_) (fun q1=> ?_)
 ·have hne:=fun t2 cx cy=>c5C (iB xs j) (iB ys j) t2 cx cy
  simp(disch:=omega) only[↓RA,RZ,simprocAttr,hn,g13,q1]
  refine Wp.drw jW (by kernel_rfl) ?_
  simp(disch:=omega) only[↓RA,RZ,simprocAttr,hn,g0,g1,(hS1.sl hv).idx,(hS1.sl hv).ai,jS,(hS1.sl hw).idx,(hS1.sl hw).ai,hne]
  refine iA (fun q2=> ?_) (fun q2=> ?_)
  ·simp(disch:=omega) only[↓RA,RZ,simprocAttr,hn,c3P,q2]
   refine⟨?_,hS1⟩
   rw[decide_eq_false]
   intro e
   rw[e]at q2
   exact q2 rfl
  have q3:=dx.1 q2
  simp(disch:=omega) only[↓RA,RZ,simprocAttr,hn,g0,g1,g12,g13,q2]
  exact⟨n-1,by omega,j+1,⟨by omega,fun q hq=>by rcases dm.1 hq with e|e;(· exact hz q e);(· rw[e];exact q3)⟩,by simp,hS1⟩
 simp(disch:=omega) only[↓RA,RZ,simprocAttr,hn,c3P,q1]
 exact⟨by rw[decide_eq_true];exact xF (by omega) fun q hq=>hz q (by omega),hS1⟩
theorem a4I(o:Org)(r:Reg)(l:List Ct):jP o r l=dd (b0d ((c2W b0d o r l).flatMap (c1J b0d o r))):=by
 rw[←b8i]
 rfl
section
variable (w1 w2 d1 g1 s1 d2 g2 s2 w3 w4 w5:Value)
theorem a2o(off:Nat)(h:off<2):rkE (exE w1 w2 d1 g1 s1 d2 g2 s2 w3 w4 w5) ⟨[1,1],1,off⟩ [jH [40],(0,0)]=0:=by
 unfold rkE
 rw[b8N _ _ _ _ _ _ _ _ _ _ _ off h,if_neg (by decide),b6V]
theorem b5k:b2S (exE w1 w2 d1 g1 s1 d2 g2 s2 w3 w4 w5) ⟨[1,1],1,0⟩ [jH [40],(0,0)]=[(0,40),(1,40)]:=by
 unfold b2S
 rw[a2o _ _ _ _ _ _ _ _ _ _ _ 0 (by decide),if_pos rfl,b9l]
theorem b5S:a0v (exE w1 w2 d1 g1 s1 d2 g2 s2 w3 w4 w5) ⟨[1,1],1,0⟩ [jH [40],(0,0)]=[(0,4),(1,16)]:=by
 unfold a0v
 rw[a2o _ _ _ _ _ _ _ _ _ _ _ 0 (by decide),if_pos rfl,a4I]
 kernel_rfl
theorem b5G:a0v (exE w1 w2 d1 g1 s1 d2 g2 s2 w3 w4 w5) ⟨[1,1],1,1⟩ [jH [40],(0,0)]=[(1,16)]:=by
 unfold a0v
 rw[a2o _ _ _ _ _ _ _ _ _ _ _ 1 (by decide),if_pos rfl,a4I]
 kernel_rfl
end
theorem a5g(hG:Glob gH H):Fn prog 44 [] H fun r H'=>∃o:Org,r=.agg #[.string o.name,o.rv,o.dv,o.cv]∧(∃w1 w2 d1 g1 s1 d2 g2 s2 w3 w4 w5,o=exE w1 w2 d1 g1 s1 d2 g2 s2 w3 w4 w5)∧o.In H'∧St prog H H' []:=by
 obtain⟨h1,v,H1,h2,w1,w2,d1,g1,s1,d2,g2,s2,w3,w4,w5,h3,h4,h5⟩:=a6U hG
 exact⟨h1,v,H1,h2,_,h3,⟨w1,w2,d1,g1,s1,d2,g2,s2,w3,w4,w5,rfl⟩,h4,h5⟩
theorem a1Q(hG:Glob gH H):Fn prog 17 [] H fun r H'=>r=.bool true∧St prog H H' []:=by
 refine .cM func17 rfl (by kernel_rfl) (m:=80) rfl fun l hn=> ?_
 simp(disch:=omega) only[↓RA,RZ,simprocAttr]
 refine iG (a5g ((sR H).gl hG)) ?_
 rintro r H1⟨o,rfl,⟨v1,v2,v3,v4,v5,v6,v7,v8,v9,v10,v11,hoe⟩,ho,hT1⟩
 have hS1:=(sR H).trans hT1
 simp only[RT]at hS1
 have q1:rkE o ⟨[1,1],1,0⟩ [jH [40],(0,0)]=0:=by subst hoe;exact a2o _ _ _ _ _ _ _ _ _ _ _ 0 (by decide)
 have q2:rkE o ⟨[1,1],1,1⟩ [jH [40],(0,0)]=0:=by subst hoe;exact a2o _ _ _ _ _ _ _ _ _ _ _ 1 (by decide)
 have q3:b2S o ⟨[1,1],1,0⟩ [jH [40],(0,0)]=[(0,40),(1,40)]:=by subst hoe;exact b5k _ _ _ _ _ _ _ _ _ _ _
 have q4:a0v o ⟨[1,1],1,0⟩ [jH [40],(0,0)]=[(0,4),(1,16)]:=by subst hoe;exact b5S _ _ _ _ _ _ _ _ _ _ _
 have q5:a0v o ⟨[1,1],1,1⟩ [jH [40],(0,0)]=[(1,16)]:=by subst hoe;exact b5G _ _ _ _ _ _ _ _ _ _ _
 have q6:o.ranks.length=2∧(iB o.ranks 1).num=8∧(iB o.ranks 1).den=1∧(iB o.ranks 1).first=36:=by subst hoe;exact⟨rfl,rfl,rfl,rfl⟩
 clear hoe
 have hG1:∀z∈[(40:Int)],isN z:=fun z hz=>by rw[dH.1 hz];exact⟨by decide,by decide⟩
 have hS0:=hS1
 have hG2:=hS0.gl hG
 simp(disch:=omega) only[↓RA,RZ,simprocAttr]
 refine(sR H1).eNew 4 [(.string ⟨#[]⟩),(.slice none 0 0),(.slice none 0 0),(.slice none 0 0)] rfl rfl rfl mX fun A1 H2 hS2=> ?_
 simp only[RT]at hS2
 simp(disch:=omega) only[↓RA,RB,simprocAttr,hn]
 refine hS2.aa 0 rfl [(.string o.name),o.rv,o.dv,o.cv] rfl (by simp[OC,(hS2.sl ho.1).cells.2.1,(hS2.sl ho.2.2.1).cells.2.1,(hS2.sl ho.2.2.2.2.1).cells.2.1]) mX (by simp) fun H3 hS3=> ?_
 simp only[RT]at hS3
 simp(disch:=omega) only[↓RA,RB,simprocAttr]
 refine hS3.ag [I 40] a2u a7y rfl rfl (by simp[Value.cells]) rfl rfl (by decide) (by decide) fun w1 H4 hS4=> ?_
 simp only[RT]at hS4
 simp(disch:=omega) only[↓RA,RZ,simprocAttr,hn]
 refine hS4.cF (xE [40] hG1 w1 (hS4.av 1 rfl (fun _=>rfl)) (by simp)) fun H5 hS5=> ?_
 have hKo:∀x∈([jH [40],(0,0)]:List Nt),Nt.Ok x:=by
  intro x hx
  simp only[dS,dV,or_false]at hx
  rcases hx with rfl|rfl<;>exact⟨by decide,by decide⟩
 have hRo:(⟨[1,1],1,0⟩:Reg).Ok:=⟨by decide,by decide,by decide,by decide⟩
 have hRo1:(⟨[1,1],1,1⟩:Reg).Ok:=⟨by decide,by decide,by decide,by decide⟩
 simp(disch:=omega) only[↓RA,RZ,simprocAttr,hn]
 refine hS5.eNew 2 [(.int .u64 0),(.int .u64 0)] rfl rfl rfl nV fun A2 H6 hS6=> ?_
 simp only[RT]at hS6
 simp(disch:=omega) only[↓RA,RB,simprocAttr,hn]
 refine hS6.aa 2 rfl [(.int .u64 (jH [40]).1),(.int .u64 (jH [40]).2)] rfl rfl nV (by simp) fun H7 hS7=> ?_
 simp only[RT]at hS7
 simp(disch:=omega) only[↓RA,RZ,simprocAttr,hn,hS7.ai 2 rfl,c1k]
 refine hS7.ag [(.int .u64 (jH [40]).1),(.int .u64 (jH [40]).2),(.int .u64 0),(.int .u64 0)] b6p c3z rfl rfl (by simp[Value.cells]) rfl rfl (by decide) (by decide) fun w2 H8 hS8=> ?_
 simp only[RT]at hS8
 simp(disch:=omega) only[↓RA,RB,simprocAttr,hn]
 refine hS8.ag [(.int .u64 1),(.int .u64 1)] c3V c6N rfl rfl (by simp[Value.cells]) rfl rfl (by decide) (by decide) fun w3 H9 hS9=> ?_
 simp only[RT]at hS9
 simp(disch:=omega) only[↓RA,RZ,simprocAttr,hn,b7Q (hS9.rd 4 rfl).cells]
 refine hS9.eNew 3 [(.slice none 0 0),(.int .u64 0),(.int .u64 0)] rfl rfl rfl qV fun A3 H10 hS10=> ?_
 simp only[RT]at hS10
 simp(disch:=omega) only[↓RA,RB,simprocAttr,hn]
 refine hS10.aa 5 rfl [w3,(.int .u64 1),(.int .u64 0)] rfl (by simp[OC,(hS10.rd 4 rfl).cells.2.1]) qV (by simp) fun H11 hS11=> ?_
 simp only[RT]at hS11
 simp(disch:=omega) only[↓RA,RZ,simprocAttr,hn,hS11.ai 0 rfl,hS11.ai 5 rfl]
 have hS2:=hS11
 refine iG (a5U (hS11.gl hG2) o (ho.ak hS11) ⟨[1,1],1,0⟩ w3 ⟨hS11.av 4 rfl (fun _=>rfl),hRo⟩ w2 [jH [40],(0,0)] ⟨hS11.av 3 rfl (fun _=>rfl),by simp,hKo⟩) ?_
 rintro r H12⟨cv,rfl,hcx,hT3⟩
 have hS12:=hS11.trans hT3
 simp only[RT]at hS12
 rw[q3]at hcx
 rw[q1]
 have hcx2:=hcx.step (hS2.aW (H':=H12))
 obtain⟨X,hBX,hS13⟩:=hS12.aB (os:=[⟨ptr A1 0 4,0,_⟩,⟨w1,1,_⟩,⟨ptr A2 0 2,0,_⟩,⟨w2,2,_⟩,⟨w3,1,_⟩,⟨ptr A3 0 3,0,_⟩])
 simp(disch:=omega) only[↓RA,RZ,simprocAttr,hn,hS13.ai 0 rfl,hS13.ai 5 rfl]
 have hS3:=hS13
 refine iG (rM ((hS12.ab hBX hS13).gl hG2) o (ho.ak (hS12.ab hBX hS13)) ⟨[1,1],1,0⟩ w3 ⟨hS13.av 4 rfl (fun _=>rfl),hRo⟩ w2 [jH [40],(0,0)] ⟨hS13.av 3 rfl (fun _=>rfl),by simp,hKo⟩) ?_
 rintro r H13⟨pv,rfl,hpx,hT4⟩
 have hS14:=hS13.trans hT4
 simp only[RT]at hS14
 rw[q4]at hpx
 rw[q1]
 have hcx3:=hcx2.step (hS14.kept hBX)
 have hpx2:=hpx.step (hS3.aW (H':=H13))
 obtain⟨Y,hBY,hS15⟩:=hS14.aB (os:=[⟨ptr A1 0 4,0,_⟩,⟨w1,1,_⟩,⟨ptr A2 0 2,0,_⟩,⟨w2,2,_⟩,⟨w3,1,_⟩,⟨ptr A3 0 3,0,_⟩])
 simp(disch:=omega) only[↓RA,RZ,simprocAttr,hn]
 refine hS15.aa 5 rfl [(.int .u64 1)] rfl rfl c0l (by simp) fun H14 hS16=> ?_
 simp only[RT]at hS16
 simp(disch:=omega) only[↓RA,RZ,simprocAttr,hn,hS16.ai 0 rfl,hS16.ai 5 rfl]
 refine iG (a9h ((hS12.ab hBX (hS14.ab hBY hS16)).gl hG2) o (ho.ak (hS12.ab hBX (hS14.ab hBY hS16))) ⟨[1,1],1,1⟩ w3 ⟨hS16.av 4 rfl (fun _=>rfl),hRo1⟩ w2 [jH [40],(0,0)] ⟨hS16.av 3 rfl (fun _=>rfl),by simp,hKo⟩ q2 1 16 q5 (by rw[q6.1];decide) (by decide) ⟨q6.2.1,q6.2.2.1,by rw[q6.2.2.2];decide,by rw[q6.2.2.2];decide⟩) ?_
 rintro r H15⟨dv,rfl,hT5⟩
 have hS17:=hS16.trans hT5
 simp only[RT]at hS17
 have hcx4:=hcx3.step (hS17.kept hBY)
 have hpx4:=hpx2.step (hS17.kept hBY)
 simp(disch:=omega) only[↓RA,RZ,simprocAttr,hn,qZ]
 refine hS17.ag [I 0,I 40,I 1,I 40] rW a3z rfl rfl (by simp[Value.cells]) rfl rfl (by decide) (by decide) fun w4 H16 hS18=> ?_
 simp only[RT]at hS18
 simp(disch:=omega) only[↓RA,RZ,simprocAttr,hn]
 refine hS18.cF (b0B cv w4 [(0,40),(1,40)] [(0,40),(1,40)] (hcx3.step (hS18.kept hBY)).1 (hS18.av 7 rfl kF) (by simp) (by simp)) fun H17 hS19=> ?_
 rw[decide_eq_true rfl]
 simp(disch:=omega) only[↓RA,RZ,simprocAttr,hn,xT]
 refine hS19.ag [I 0,I 4,I 1,I 16] b0i c3f rfl rfl (by simp[Value.cells]) rfl rfl (by decide) (by decide) fun w5 H18 hS20=> ?_
 simp only[RT]at hS20
 simp(disch:=omega) only[↓RA,RZ,simprocAttr,hn]
 refine hS20.cF (a6D pv w5 [(0,4),(1,16)] [(0,4),(1,16)] (hpx2.step (hS20.kept hBY)).1 (hS20.av 8 rfl kF) (by simp) (by simp)) fun H19 hS21=> ?_
 rw[decide_eq_true rfl]
 simp(disch:=omega) only[↓RA,RZ,simprocAttr,hn,xT,zU]
 refine hS21.ag [I 1,I 16,I 52] b1g b8D rfl rfl (by simp[Value.cells]) rfl rfl (by decide) (by decide) fun w6 H20 hS22=> ?_
 simp only[RT]at hS22
 simp(disch:=omega) only[↓RA,RZ,simprocAttr,hn]
 have hhe:[a7U o (1,16)]=[((1,16),(52:Int))]:=by
  unfold a7U
  rw[show((1,16):Ct).1.toNat=1 from rfl,q6.2.2.2]
  rfl
 refine hS22.cF (a2O dv w6 [a7U o (1,16)] [((1,16),52)] (hS22.av 6 rfl (fun _=>rfl)) (hS22.av 9 rfl (fun _=>rfl)) (by simp) (by simp)) fun H21 hS23=> ?_
 rw[decide_eq_true hhe]
 simp(disch:=omega) only[↓RA,RZ,simprocAttr,hn,c8l]
 exact hS0.forget.trans (hS12.ab hBX (hS14.ab hBY hS23)).forget
end Go.Ds
namespace Go.Ds
open Go.Proofs Go.Proofs.Tryz
def c6Y:List Nat:=[96,98,141,142,143,146,147,148,149,150,167,173,194,195,196,197,219,227,228,229,237,240,241,242,243,244,246,247,248,249,252,253,254,255,256,257,258,260,261,262]
def c7e:List Nat:=[98,141,143,146,147,148,149,150,167,173,194,195,196,197,219,227,228,229,237,240,241,242,243,244,246,247,248,249,252,253,254,255,256,257,258,260,261,262]
def c8s:List Nat:=[97,141,143,144,145,146,147,148,150,167,173,191,192,193,194,195,196,197,219,226,227,228,229,237,240,241,242,243,244,246,247,248,249,252,253,254,255,256,257,258,260,261,262]
noncomputable def a1E (ps:List (Nat×Nat)):Bool:=qR prog c6Y .e fun T=>ps.all fun x=>a4o (lZ T (xZ prog T 4000) [] (kM 96) [.int .i64 x.1,.int .i64 x.2] gH) (x.1^x.2)
noncomputable def a3k (ps:List (Nat×Nat)):Bool:=qR prog c7e .e fun T=>ps.all fun x=>a4o (lZ T (xZ prog T 4000) [] (kM 98) [.string (mC (x.1^24)),.string (mC (2^(2*x.2+1)))] gH) (x.1^24*2^(2*x.2+1))
noncomputable def uU (ps:List (Nat×Nat×Nat)):Bool:=qR prog c8s .e fun T=>ps.all fun x=>b1J (lZ T (xZ prog T 4000) [] (kM 97) [.string (mC (x.1^24)),.string (mC (x.2.1^24*2^(2*x.2.2+1)))] gH) (a5j (x.1^24) (x.2.1^24*2^(2*x.2.2+1)))
end Go.Ds
