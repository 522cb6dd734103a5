/-
  A part of the proof of ReasonLaws.
-/
import Derived.Shelf.SlGeneric
import Derived.Shelf.SlLaysF0
import Derived.Test.YtfmbcecfgpbmhaaGreatDoorProg
import Derived.Test.YtfmbcecfgpbmhaaGreatDoorVK
import Derived.Shelf.SlSortCmp.NoneTotal
import Derived.Test.YtfmbcecfgpbmhaaGreatDoorVD
import Derived.Test.YtfmbcecfgpbmhaaGreatDoorVC
import Derived.Test.YtfmbcecfgpbmhaaGreatDoorVI
import Derived.Test.YtfmbcecfgpbmhaaGreatDoorVB
set_option linter.unusedVariables false
set_option linter.unusedSimpArgs false
set_option linter.defProp false
set_option linter.unusedSectionVars false
namespace Go.Proofs
open Go.Shelf
def Tryz.bQ:Go.Shelf.Ren:=⟨fun|6=>53|15=>99|14=>98|28=>139|29=>140|20=>131|21=>132|22=>133|23=>134|24=>135|25=>136|26=>137|27=>138|46=>175|47=>176|48=>177|49=>178|50=>179|57=>199|n=>n,fun|22=>75|24=>26|25=>28|3=>3|39=>64|0=>0|53=>252|55=>48|4=>4|46=>246|45=>245|50=>202|5=>5|9=>9|66=>281|70=>285|76=>308|77=>309|n=>n,fun|n=>n⟩
theorem Tryz.cr:Go.Proofs.SlLaysF0.n6 Tryz.prog Tryz.bQ:={
 mixed:=by kernel_rfl
 f6:=⟨Tryz.f53.name,by decide,Tryz.func53.trans (congrArg some (by kernel_rfl))⟩
 f14:=⟨Tryz.f98.name,by decide,Tryz.func98.trans (congrArg some (by kernel_rfl))⟩
 f15:=Tryz.func99.trans (congrArg some (by kernel_rfl))
 f20:=⟨Tryz.f131.name,by decide,Tryz.func131.trans (congrArg some (by kernel_rfl))⟩
 f21:=⟨Tryz.f132.name,by decide,Tryz.func132.trans (congrArg some (by kernel_rfl))⟩
 f22:=⟨Tryz.f133.name,by decide,Tryz.func133.trans (congrArg some (by kernel_rfl))⟩
 f23:=⟨Tryz.f134.name,by decide,Tryz.func134.trans (congrArg some (by kernel_rfl))⟩
 f24:=⟨Tryz.f135.name,by decide,Tryz.func135.trans (congrArg some (by kernel_rfl))⟩
 f25:=⟨Tryz.f136.name,by decide,Tryz.func136.trans (congrArg some (by kernel_rfl))⟩
 f26:=⟨Tryz.f137.name,by decide,Tryz.func137.trans (congrArg some (by kernel_rfl))⟩
 f27:=⟨Tryz.f138.name,by decide,Tryz.func138.trans (congrArg some (by kernel_rfl))⟩
 f28:=Tryz.func139.trans (congrArg some (by kernel_rfl))
 f29:=Tryz.func140.trans (congrArg some (by kernel_rfl))
 f46:=⟨Tryz.f175.name,by decide,Tryz.func175.trans (congrArg some (by kernel_rfl))⟩
 f47:=Tryz.func176.trans (congrArg some (by kernel_rfl))
 f48:=Tryz.func177.trans (congrArg some (by kernel_rfl))
 f49:=⟨Tryz.f178.name,by decide,Tryz.func178.trans (congrArg some (by kernel_rfl))⟩
 f50:=⟨Tryz.f179.name,by decide,Tryz.func179.trans (congrArg some (by kernel_rfl))⟩
 f57:=⟨Tryz.f199.name,by decide,Tryz.func199.trans (congrArg some (by kernel_rfl))⟩
 t0:=Tryz.underlying0
 a0:=Tryz.isAgg0
 z0:=Tryz.sizeOf0
 v0:=Tryz.zeroValue0
 t3:=Tryz.underlying3
 a3:=Tryz.isAgg3
 z3:=Tryz.sizeOf3
 v3:=Tryz.zeroValue3
 t4:=Tryz.underlying4
 a4:=Tryz.isAgg4
 z4:=Tryz.sizeOf4
 v4:=Tryz.zeroValue4
 t5:=Tryz.underlying5
 a5:=Tryz.isAgg5
 z5:=Tryz.sizeOf5
 v5:=Tryz.zeroValue5
 t9:=Tryz.underlying9
 a9:=Tryz.isAgg9
 z9:=Tryz.sizeOf9
 v9:=Tryz.zeroValue9
 t22:=Tryz.underlying75
 a22:=Tryz.isAgg75
 z22:=Tryz.sizeOf75
 v22:=Tryz.zeroValue75
 t25:=Tryz.underlying28
 a25:=Tryz.isAgg28
 z25:=Tryz.sizeOf28
 v25:=Tryz.zeroValue28
 t39:=Tryz.underlying64
 a39:=Tryz.isAgg64
 z39:=Tryz.sizeOf64
 v39:=Tryz.zeroValue64
 t45:=Tryz.underlying245
 a45:=Tryz.isAgg245
 z45:=Tryz.sizeOf245
 v45:=Tryz.zeroValue245
 t46:=Tryz.underlying246
 a46:=Tryz.isAgg246
 z46:=Tryz.sizeOf246
 v46:=Tryz.zeroValue246
 t50:=Tryz.underlying202
 a50:=Tryz.isAgg202
 z50:=Tryz.sizeOf202
 v50:=Tryz.zeroValue202
 t53:=Tryz.underlying252
 a53:=Tryz.isAgg252
 z53:=Tryz.sizeOf252
 v53:=Tryz.zeroValue252
 t55:=Tryz.underlying48
 a55:=Tryz.isAgg48
 z55:=Tryz.sizeOf48
 v55:=Tryz.zeroValue48
 t66:=Tryz.underlying281
 a66:=Tryz.isAgg281
 z66:=Tryz.sizeOf281
 v66:=Tryz.zeroValue281
 t70:=Tryz.underlying285
 a70:=Tryz.isAgg285
 z70:=Tryz.sizeOf285
 v70:=Tryz.zeroValue285
 t76:=Tryz.underlying308
 a76:=Tryz.isAgg308
 z76:=Tryz.sizeOf308
 v76:=Tryz.zeroValue308
 t77:=Tryz.underlying309
 a77:=Tryz.isAgg309
 z77:=Tryz.sizeOf309
 v77:=Tryz.zeroValue309}
def Tryz.bR:Go.Shelf.Ren:=⟨fun|6=>62|15=>99|14=>105|28=>139|29=>140|20=>143|21=>144|22=>145|23=>146|24=>147|25=>148|26=>149|27=>150|46=>182|47=>176|48=>177|49=>183|50=>184|57=>200|n=>n,fun|22=>40|24=>63|25=>156|3=>3|39=>64|0=>0|53=>252|55=>48|4=>4|46=>246|45=>245|50=>202|5=>5|9=>9|66=>281|70=>285|76=>308|77=>309|n=>n,fun|n=>n⟩
theorem Tryz.ct:Go.Proofs.SlLaysF0.n6 Tryz.prog Tryz.bR:={
 mixed:=by kernel_rfl
 f6:=⟨Tryz.f62.name,by decide,Tryz.func62.trans (congrArg some (by kernel_rfl))⟩
 f14:=⟨Tryz.f105.name,by decide,Tryz.func105.trans (congrArg some (by kernel_rfl))⟩
 f15:=Tryz.func99.trans (congrArg some (by kernel_rfl))
 f20:=⟨Tryz.f143.name,by decide,Tryz.func143.trans (congrArg some (by kernel_rfl))⟩
 f21:=⟨Tryz.f144.name,by decide,Tryz.func144.trans (congrArg some (by kernel_rfl))⟩
 f22:=⟨Tryz.f145.name,by decide,Tryz.func145.trans (congrArg some (by kernel_rfl))⟩
 f23:=⟨Tryz.f146.name,by decide,Tryz.func146.trans (congrArg some (by kernel_rfl))⟩
 f24:=⟨Tryz.f147.name,by decide,Tryz.func147.trans (congrArg some (by kernel_rfl))⟩
 f25:=⟨Tryz.f148.name,by decide,Tryz.func148.trans (congrArg some (by kernel_rfl))⟩
 f26:=⟨Tryz.f149.name,by decide,Tryz.func149.trans (congrArg some (by kernel_rfl))⟩
 f27:=⟨Tryz.f150.name,by decide,Tryz.func150.trans (congrArg some (by kernel_rfl))⟩
 f28:=Tryz.func139.trans (congrArg some (by kernel_rfl))
 f29:=Tryz.func140.trans (congrArg some (by kernel_rfl))
 f46:=⟨Tryz.f182.name,by decide,Tryz.func182.trans (congrArg some (by kernel_rfl))⟩
 f47:=Tryz.func176.trans (congrArg some (by kernel_rfl))
 f48:=Tryz.func177.trans (congrArg some (by kernel_rfl))
 f49:=⟨Tryz.f183.name,by decide,Tryz.func183.trans (congrArg some (by kernel_rfl))⟩
 f50:=⟨Tryz.f184.name,by decide,Tryz.func184.trans (congrArg some (by kernel_rfl))⟩
 f57:=⟨Tryz.f200.name,by decide,Tryz.func200.trans (congrArg some (by kernel_rfl))⟩
 t0:=Tryz.underlying0
 a0:=Tryz.isAgg0
 z0:=Tryz.sizeOf0
 v0:=Tryz.zeroValue0
 t3:=Tryz.underlying3
 a3:=Tryz.isAgg3
 z3:=Tryz.sizeOf3
 v3:=Tryz.zeroValue3
 t4:=Tryz.underlying4
 a4:=Tryz.isAgg4
 z4:=Tryz.sizeOf4
 v4:=Tryz.zeroValue4
 t5:=Tryz.underlying5
 a5:=Tryz.isAgg5
 z5:=Tryz.sizeOf5
 v5:=Tryz.zeroValue5
 t9:=Tryz.underlying9
 a9:=Tryz.isAgg9
 z9:=Tryz.sizeOf9
 v9:=Tryz.zeroValue9
 t22:=Tryz.underlying40
 a22:=Tryz.isAgg40
 z22:=Tryz.sizeOf40
 v22:=Tryz.zeroValue40
 t25:=Tryz.underlying156
 a25:=Tryz.isAgg156
 z25:=Tryz.sizeOf156
 v25:=Tryz.zeroValue156
 t39:=Tryz.underlying64
 a39:=Tryz.isAgg64
 z39:=Tryz.sizeOf64
 v39:=Tryz.zeroValue64
 t45:=Tryz.underlying245
 a45:=Tryz.isAgg245
 z45:=Tryz.sizeOf245
 v45:=Tryz.zeroValue245
 t46:=Tryz.underlying246
 a46:=Tryz.isAgg246
 z46:=Tryz.sizeOf246
 v46:=Tryz.zeroValue246
 t50:=Tryz.underlying202
 a50:=Tryz.isAgg202
 z50:=Tryz.sizeOf202
 v50:=Tryz.zeroValue202
 t53:=Tryz.underlying252
 a53:=Tryz.isAgg252
 z53:=Tryz.sizeOf252
 v53:=Tryz.zeroValue252
 t55:=Tryz.underlying48
 a55:=Tryz.isAgg48
 z55:=Tryz.sizeOf48
 v55:=Tryz.zeroValue48
 t66:=Tryz.underlying281
 a66:=Tryz.isAgg281
 z66:=Tryz.sizeOf281
 v66:=Tryz.zeroValue281
 t70:=Tryz.underlying285
 a70:=Tryz.isAgg285
 z70:=Tryz.sizeOf285
 v70:=Tryz.zeroValue285
 t76:=Tryz.underlying308
 a76:=Tryz.isAgg308
 z76:=Tryz.sizeOf308
 v76:=Tryz.zeroValue308
 t77:=Tryz.underlying309
 a77:=Tryz.isAgg309
 z77:=Tryz.sizeOf309
 v77:=Tryz.zeroValue309}
end Go.Proofs
namespace Go.Ds
open Go.Proofs Go.Proofs.Tryz Go.Shelf Go.RowKit Go.Lib Go.Sort
theorem uQ{α:Type}(kf:α→List Int)(x y:α):ltOf (fun x y=>lH (kf x) (kf y)) x y=decide (lH (kf x) (kf y)=-1):=by
 have:=rQ (kf x) (kf y)
 exact decide_eq_decide.2 (by show lH (kf x) (kf y)<0↔_;omega)
theorem c8C{α:Type}(kf:α→List Int):SWO (ltOf fun x y=>lH (kf x) (kf y)) where
 irrefl x:=by
  rw[uQ,mU.2 rfl]
  rfl
 trans x y z h1 h2:=by
  rw[uQ,decide_eq_true_eq]at*
  exact tJ h1 h2
 ntrans x y z h1 h2:=by
  rw[uQ,decide_eq_false_iff_not]at*
  intro h
  have n1:=rP (kf y) (kf x)
  have n2:=rP (kf z) (kf y)
  rcases rQ (kf y) (kf x)with e1|e1|e1
  ·rcases rQ (kf z) (kf y)with e2|e2|e2
   ·have h3:=tJ e2 e1
    have n3:=rP (kf z) (kf x)
    omega
   ·rw[mU]at e2
    rw[e2]at h
    omega
   ·omega
  ·rw[mU]at e1
   rw[e1]at h2
   exact h2 h
  ·omega
theorem d0n{α:Type}{kf:α→List Int}(hk:∀x y,kf x=kf y→x=y)(x y:α)(h1:ltOf (fun x y=>lH (kf x) (kf y)) x y=false)(h2:ltOf (fun x y=>lH (kf x) (kf y)) y x=false):x=y:=by
 rw[uQ,decide_eq_false_iff_not]at h1 h2
 refine hk _ _ (mU.1 ?_)
 have:=rQ (kf x) (kf y)
 have n:=rP (kf x) (kf y)
 omega
def leR(a b:Rn):Bool:= !decide (a7V b a=-1)
def c4r(es:List Rn):List Rn:=es.mergeSort leR
theorem soR:c0p prog 53 11 6:=
 fun enc hk h1 cf hO hT kX off cap d w hlay hH hblk hsz=>
  AnyQ.slices_SortFunc_total Tryz.cr 6 Tryz.isAgg26 Tryz.sizeOf26 enc hk h1 cf hO 11 #[] kX off cap d w (enters_of func11 (by kernel_rfl) rfl) hlay hH hblk hsz hT
theorem snR:uJ prog 53:=fun p cap fv w=>AnyF.slices_SortFunc_none {Tryz.cr with} p cap fv w
theorem enR:pD prog 53:=⟨Tryz.f53,func53,by kernel_rfl,by kernel_rfl⟩
theorem c0W(es:List Rn)(σ:List (Fin (es.map Rn.cells).length)):(σ.flatMap fun x=>(es.map Rn.cells)[x])=(σ.map fun x=>jB es x.1).flatMap Rn.cells:=by
 rw[List.flatMap_map]
 congr 1
 funext x
 rw[jR es x.1 (Nat.lt_of_lt_of_eq x.2 (dU _))]
 simp
theorem c4S(es:List Rn):((List.finRange (es.map Rn.cells).length).map fun x=>jB es x.1)=es:=by
 apply List.ext_getElem
 ·simp
 ·intro i h1 h2
  simp only[jm,List.getElem_finRange]
  exact jR es i h2
set_option maxHeartbeats 1000000 in
theorem c1h{H:Heap}{B:Base}{os:List Ob}(hS:St prog B H os)(i:Nat){v:Value}{es:List Rn}(ho:os[i]? =some ⟨v,6,es.flatMap Rn.cells⟩)(hl:es.length<100000000000)(hin:∀r∈es,r.In H)(hne:∀r∈es,∀A,kX v=some A→kX r.cv≠some A)(hnd:es.Pairwise fun a b=>a2O a≠a2O b)
 {Q:Value→Heap→Prop} (h:∀H1,St prog B H1 (os.set i ⟨v,6,(c4r es).flatMap Rn.cells⟩)→Q (.tuple #[]) H1):tM prog 53 [v,.func (.func 11) #[] #[]] H Q:=by
 have hlen:(es.map Rn.cells).length=es.length:=dU _
 have hfl:(es.map Rn.cells).flatten=es.flatMap Rn.cells:=rfl
 have hkf:∀x y:Fin (es.map Rn.cells).length,a2O (jB es x.1)=a2O (jB es y.1)→x=y:=fun x y e=>by
  have hx:=Nat.lt_of_lt_of_eq x.2 hlen
  have hy:=Nat.lt_of_lt_of_eq y.2 hlen
  rw[jR es _ hx,jR es _ hy]at e
  rw[eQ]at hnd
  apply Fin.ext
  rcases jb x.1 y.1 with h|h|h
  ·exact absurd e (hnd _ _ hx hy h)
  ·exact h
  ·exact absurd e.symm (hnd _ _ hy hx h)
 refine b7Y soR snR enR hS i (rs:=es.map Rn.cells) (by rw[hfl];exact ho) (by rw[hlen];exact hl) (fun r hr=> ?_) (fun x y=>a7V (jB es x.1) (jB es y.1)) (c8C fun x:Fin (es.map Rn.cells).length=>a2O (jB es x.1)) (d0n hkf) (fun{A ρ w p e}=>c0l (fun a b ha hb=>b4o a b ha hb) hin hne) ?_
 ·obtain⟨q,_,rfl⟩:=dP.1 hr
  rfl
 ·intro H1 hH
  refine h H1 ?_
  rw[c0W,List.map_mergeSort (s:=leR),c4S]at hH
  ·exact hH
  ·intro a _ b _
   unfold leR
   rw[show(fun x y:Fin (es.map Rn.cells).length=>a7V (jB es x.1) (jB es y.1))=fun x y=>lH (a2O (jB es x.1)) (a2O (jB es y.1))from rfl,uQ (fun x:Fin (es.map Rn.cells).length=>a2O (jB es x.1))]
   rfl
end Go.Ds
namespace Go.Ds
open Go.Proofs Go.Proofs.Tryz
variable {H:Heap}
set_option maxRecDepth 10000
set_option maxHeartbeats 1000000
def b6x(s:Sn)(i:Nat):List Rp×Bool:=((jF s.ks).take i).foldl (fun q c=>a2P s 1025 c [] c [] q) ([],false)
theorem a6j(s:Sn){i:Nat}(h:i<(jF s.ks).length):b6x s (i+1)=a2P s 1025 (jB (jF s.ks) i) [] (jB (jF s.ks) i) [] (b6x s i):=by
 unfold b6x
 rw[nJ _ _ h,gh]
 rfl
theorem a8E{s:Sn}(hf:s.Fit)(hk:∀x∈s.ks,Nt.Ok x):∀i,i≤(jF s.ks).length→Met (((jF s.ks).take i).flatMap fun c=>full s 1025 c [] c []) (b6x s i)
 | 0,_=>⟨fun _=>⟨rfl,by simp⟩,fun h=>by cases h⟩
 | i+1,h=>by
   rw[a6j s h,nJ _ _ h,dV]
   have h1:=a8E hf hk i (by omega)
   have:=c1S hf 1025 (pl:=jB (jF s.ks) i) (cps:=[]) (a:=jB (jF s.ks) i) (seen:=[]) (oM hk hf.keys _ (jE h)) h1
   simpa using this
theorem c1B{s:Sn}(hf:s.Fit)(hk:∀x∈s.ks,Nt.Ok x):Met (pQ s) (b6x s (jF s.ks).length):=by
 have:=a8E hf hk _ (dG _)
 rw[eS]at this
 exact this
def leP(a b:Rp):Bool:= !decide (wT b a=-1)
def qM(s:Sn):Int:=if snE s≠0 then snE s else if 500<(pQ s).length then 4 else 0
def nD(s:Sn):List Rp:=if qM s=0 then(pQ s).mergeSort leP else[]
theorem c3v(es:List Rn):(c4r es).map Rn.rp=(es.map Rn.rp).mergeSort leP:=by
 unfold c4r
 exact List.map_mergeSort fun a _ b _=>rfl
theorem Sl.da{α:Type}{n:Nat}{cel:α→List Value}(hc:∀x,(cel x).length=n)(hp:0<n):Sl n cel H (.slice none 0 0) []:=⟨.inl ⟨rfl,rfl⟩,hc,hp⟩
theorem b4q(hG:Glob gH H)(s:Sn)(hs:s.In H):Fn prog 21 [s.v] H fun r H'=>∃(ov:Value)(es:List Rn),r=.tuple #[ov,I (qM s)]∧es.map Rn.rp=nD s∧(∀e∈es,Slx 1 (one I) H' (fun A=>H.length≤A∧kX ov≠some A) e.cv e.cps∧e.cps.length≤1024)∧St prog H H' [⟨ov,6,es.flatMap Rn.cells⟩]:=by
 refine .aN func21 rfl (by kernel_rfl) (m:=44) rfl fun l hn g0=> ?_
 simp(disch:=omega) only[↓RA,RB,simprocAttr,g0]
 refine(sR H).eNew 10 [(.string s.o.name),s.o.rv,s.o.dv,s.o.cv,s.sv,(.int .u64 s.rg.cpl),(.int .u64 s.rg.off),s.kv,I s.p.1,I s.p.2] rfl rfl (by simp[OC,((sR H).sl hs.o.1).cells.2.1,((sR H).sl hs.o.2.2.1).cells.2.1,((sR H).sl hs.o.2.2.2.2.1).cells.2.1,((sR H).sl hs.rg.1).cells.2.1,((sR H).sl hs.ks.sl).cells.2.1]) pS fun A1 H1 hS1=> ?_
 simp only[RT]at hS1
 simp(disch:=omega) only[↓RA,RZ,simprocAttr,hn,hS1.ae 0 rfl]
 refine hS1.cF (yV s (hs.ag hS1)) fun H2 hS2=> ?_
 simp(disch:=omega) only[↓RA,RB,simprocAttr,hn]
 refine jA (fun h1=> ?_) (fun h1=> ?_)
 ·have hE:qM s=snE s:=by unfold qM;rw[if_pos h1]
  have hA:nD s=[]:=by unfold nD;rw[hE,if_neg h1]
  simp(disch:=omega) only[↓RA,RZ,simprocAttr,hn,c8c,h1]
  rw[hE,hA]
  exact⟨.slice none 0 0,[],rfl,rfl,fun e he=>absurd he (eO),(hS2.forget).nil 5⟩
 have hz:snE s=0:=dX.1 h1
 have hf:=qG.1 hz
 have hpl:=a2g hf.keys
 have hct:=oM hs.ks.ok hf.keys
 have hmet:=c1B hf hs.ks.ok
 simp(disch:=omega) only[↓RA,RC,simprocAttr,h1]
 refine Wp.aJ kQ [(0,3)] (by kernel_rfl) (by kernel_rfl) ?_
 simp(disch:=omega) only[↓RA,RZ,simprocAttr,hn,hS2.ae 0 rfl]
 refine jG (a0K s (hs.ag hS2) hf) ?_
 rintro r H3⟨M,kvs,rfl,hD,hT2⟩
 have hS3:=hS2.trans hT2
 simp only[RT]at hS3
 simp(disch:=omega) only[↓RA,RB,simprocAttr,hn,b5X (hS3.sl hs.o.1).cells (hS3.sl hs.o.2.2.1).cells (hS3.sl hs.o.2.2.2.2.1).cells (hS3.sl hs.rg.1).cells (hS3.sl hs.ks.sl).cells (show(Value.map (some M)).cells=#[(Value.map (some M))]∧oneCell (Value.map (some M))=true∧nE (Value.map (some M))=true from⟨rfl,rfl,rfl⟩)]
 refine hS3.eNew 13 [(.string s.o.name),s.o.rv,s.o.dv,s.o.cv,s.sv,(.int .u64 s.rg.cpl),(.int .u64 s.rg.off),s.kv,I s.p.1,I s.p.2,(.map (some M)),(.slice none 0 0),(.bool false)] rfl rfl (by simp[OC,(hS3.sl hs.o.1).cells.2.1,(hS3.sl hs.o.2.2.1).cells.2.1,(hS3.sl hs.o.2.2.2.2.1).cells.2.1,(hS3.sl hs.rg.1).cells.2.1,(hS3.sl hs.ks.sl).cells.2.1]) c5Z fun A2 H4 hS4=> ?_
 simp only[RT]at hS4
 simp(disch:=omega) only[↓RA,RZ,simprocAttr,hn,hS3.ae 0 rfl,hS4.ae 0 rfl]
 refine jG ((a0o (hS4.gl hG) s (hs.ag hS4) hf).tr) ?_
 rintro r H5⟨-,hT3⟩
 have hS5:=hS4.trans hT3
 simp only[RT]at hS5
 obtain⟨pw,rfl⟩:∃w,w=r:=⟨r,rfl⟩
 simp(disch:=omega) only[↓RA,RZ,simprocAttr,hn,(hS5.az 3 rfl lG).len]
 have hS6:=hS5.nil 5
 simp only[RT]at hS6
 refine Wp.ak (fun n l H'=>l.length=44∧get l 2=(.slice none 0 0)∧get l 3=I 0∧get l 5=(ptr A2 0 13)∧get l 19=pw∧get l 20=I (jF s.ks).length∧∃(i:Nat)(ov:Value)(es:List Rn)(mn:Bool),(n+i=(jF s.ks).length∧(es.map Rn.rp,mn)=b6x s i∧(∀e∈es,Slx 1 (one I) H' (nb [ptr A1 0 10,.map (some M),ptr A2 0 13,pw,ov]) e.cv e.cps∧e.cps.length≤1024∧∀A,kX e.cv=some A→H.length≤A)∧es.length≤560+60*i)∧get l 21=I i∧St prog H H' [⟨ptr A1 0 10,0,[(.string s.o.name),s.o.rv,s.o.dv,s.o.cv,s.sv,(.int .u64 s.rg.cpl),(.int .u64 s.rg.off),s.kv,I s.p.1,I s.p.2]⟩,⟨.map (some M),0,KN kvs⟩,⟨ptr A2 0 13,0,[.string s.o.name,s.o.rv,s.o.dv,s.o.cv,s.sv,.int .u64 s.rg.cpl,.int .u64 s.rg.off,s.kv,I s.p.1,I s.p.2,.map (some M),ov,.bool mn]⟩,⟨pw,2,pr (jF s.ks)⟩,⟨ov,6,es.flatMap Rn.cells⟩]) (jF s.ks).length ?_ ?_
 ·simp(disch:=omega) only[RB,RC,simprocAttr,hn]
  exact⟨0,.slice none 0 0,[],false,⟨by omega,rfl,fun e he=>absurd he (eO),by simp⟩,rfl,hS6⟩
 rintro n l H6⟨hn,g2,g3,g5,g19,g20,i,ov,es,mn,⟨hi,hQ,hN,hL⟩,g21,hS7⟩
 simp(disch:=omega) only[↓RA,RB,simprocAttr,hn,g20,g21]
 refine jA (fun q1=> ?_) (fun q1=> ?_)
 ·have hci:=hct _ (jE (xs:=jF s.ks) (j:=i) (by omega))
  have hco:=(lF s.o _).1 hci
  have hpre:=hS7
  obtain⟨B1,hBB1,hS8⟩:=hS7.aA (os:=[⟨ptr A1 0 10,0,_⟩,⟨.map (some M),0,_⟩,⟨ptr A2 0 13,0,_⟩,⟨pw,2,_⟩,⟨ov,6,_⟩])
  have hun:∀{H1:Heap}{os:List Ob},St prog B1 H1 os→St prog H H1 os:=fun h=>hpre.ab hBB1 h
  have hkp:∀{H1 os},St prog B1 H1 os→∀e∈es,Slx 1 (one I) H1 (nb (os.map (·.v))) e.cv e.cps:=fun h e he=>(hN e he).1.step (h.kept hBB1)
  simp(disch:=omega) only[↓RA,RZ,simprocAttr,hn,g19,g21,(hS8.az 3 rfl lG).idx,(hS8.az 3 rfl lG).ae,mJ,q1]
  refine hS8.eNew 2 [I 0,I 0] rfl rfl rfl mP fun A3 H7 hS9=> ?_
  simp only[RT]at hS9
  simp(disch:=omega) only[↓RA,RZ,simprocAttr,hn,q1]
  refine hS9.aa 5 rfl [I (jB (jF s.ks) i).1,I (jB (jF s.ks) i).2] rfl rfl mP (by simp) fun H8 hS10=> ?_
  simp only[RT]at hS10
  simp(disch:=omega) only[↓RA,RZ,simprocAttr,hn,g5,hS10.ae 5 rfl,a8h,q1]
  have hSc:=hS10
  have hM1:=hS10.pick (os':=[⟨ptr A2 0 13,0,_⟩,⟨ov,6,_⟩]) [2,4] (by decide) rfl
  have hR1:=hS10.pick (os':=[⟨ptr A2 0 13,0,_⟩,⟨ov,6,_⟩,⟨ptr A1 0 10,0,_⟩,⟨.map (some M),0,_⟩,⟨pw,2,_⟩,⟨ptr A3 0 2,0,_⟩]) [2,4,0,1,3,5] (by decide) rfl
  refine jG (b6E hf hD A2 1025 ⟨jB (jF s.ks) i,.slice none 0 0,[],jB (jF s.ks) i,0⟩ (.slice none 0 0) [] ov es mn hM1.aR (fun h=>⟨hs.ag (hun (hR1.frame h.forget)),(hR1.frame h.forget).own _ (dR (i:=1) rfl),Sl.da lG (by decide)⟩) (fun h=>⟨Sl.da (fun _=>rfl) (by decide),fun B hb=>by cases hb⟩) (Que.nil _) hci hco.1 rfl rfl (by omega)) ?_
  rintro r H9⟨rfl,ov3,new2,mn2,hM1,hM2,hM3,hM4,hT4⟩
  have hS11:=hR1.frame hT4
  simp only[RT]at hS11
  simp(disch:=omega) only[↓RA,RZ,simprocAttr,hn,g2,g3,g5,g19,g20,g21,q1]
  refine⟨n-1,by omega,i+1,ov3,es++new2,mn2,⟨by omega,?_,fun e he=> ?_,by omega⟩,by simp,?_⟩
  ·rw[a6j s (by omega),←hQ,←hM3]
  ·rcases eo.1 he with he|he
   ·exact⟨(hkp hS11 e he).bz (by simp),(hN e he).2⟩
   ·obtain⟨h1,h0,h2⟩:=hM4 e he
    have h3:∀A,kX e.cv=some A→_≤A:=fun A hA=>(h2 A hA).resolve_left fun h=>by cases h
    refine⟨⟨h1.1,fun A hA v hv=> ?_⟩,h0,fun A hA=>dZ (hun hSc).len (h3 A hA)⟩
    simp only[ew,eO,or_false]at hv
    rcases hv with rfl|rfl|rfl|rfl|rfl
    ·exact fun hV=>absurd ((hSc.own _ (dR (i:=0) rfl)).lt hV) (Nat.not_lt.2 (h3 A hA))
    ·exact fun hV=>absurd ((hSc.own _ (dR (i:=1) rfl)).lt hV) (Nat.not_lt.2 (h3 A hA))
    ·exact h1.2 A hA _ (by simp)
    ·exact fun hV=>absurd ((hSc.own _ (dR (i:=3) rfl)).lt hV) (Nat.not_lt.2 (h3 A hA))
    ·exact h1.2 A hA _ (by simp)
  ·exact(hS7.ab hBB1 hS11).pick [2,3,0,4,1] (by decide) rfl
 have hii:i=(jF s.ks).length:=by omega
 rw[hii]at hQ
 rw[←hQ]at hmet
 simp(disch:=omega) only[↓RA,RZ,simprocAttr,hn,g5,mF,mI,hS7.ld 2 rfl,q1]
 refine kA (fun q2=> ?_) (fun q2=> ?_)
 ·have hb:=hmet.2 q2
  have hE:qM s=4:=by unfold qM;rw[if_neg h1,if_pos hb]
  have hA:nD s=[]:=by unfold nD;rw[hE,if_neg (by decide)]
  simp(disch:=omega) only[↓RA,RZ,simprocAttr,hn,c8c,q1,q2]
  rw[hE,hA]
  exact⟨.slice none 0 0,[],rfl,rfl,fun e he=>absurd he (eO),(hS7.forget).nil 5⟩
 obtain⟨hb1,hb2⟩:=hmet.1 (by simpa using q2)
 have hE:qM s=0:=by unfold qM;rw[if_neg h1,if_neg (by omega)]
 have hA:nD s=(pQ s).mergeSort leP:=by unfold nD;rw[if_pos hE]
 have hpre:=hS7
 obtain⟨B2,hBB2,hS12⟩:=hS7.aA (os:=[⟨ptr A1 0 10,0,_⟩,⟨.map (some M),0,_⟩,⟨ptr A2 0 13,0,_⟩,⟨pw,2,_⟩,⟨ov,6,_⟩])
 have hks:∀{H1 os},St prog B2 H1 os→∀e∈es,Slx 1 (one I) H1 (nb (os.map (·.v))) e.cv e.cps:=fun h e he=>(hN e he).1.step (h.kept hBB2)
 have hnd:=b3N (s:=s)
 rw[←hb1,fS]at hnd
 simp(disch:=omega) only[↓RA,RZ,simprocAttr,hn,g5,mF,mI,hS12.ld 2 rfl,q1,q2]
 refine c1h hS12 4 rfl (by omega) (fun r hr=>⟨(hks hS12 r hr).1,by have:=(hN r hr).2.1;omega⟩) (fun r hr A hA hB=>(hks hS12 r hr).2 A hB ov (by simp) hA) (hnd.imp fun h e=>h (a9a e)) fun HS hSS=> ?_
 simp only[List.set_cons_succ,gV]at hSS
 have hnt:kF ov=true:=(hSS.az (cel:=Rn.cells) 4 rfl (fun _=>rfl)).bC
 simp(disch:=omega) only[↓RA,RZ,simprocAttr,hn,g5,mF,mI,hSS.ld 2 rfl,c8c,q1,q2,hnt]
 refine⟨ov,c4r es,?_,?_,fun e he=> ?_,?_⟩
 ·rw[hE]
 ·rw[hA,c3v,show es.map Rn.rp=pQ s from hb1]
 ·have he2:e∈es:=List.mem_mergeSort.1 he
  exact⟨⟨(hks hSS e he2).1,fun A hA=>⟨(hN e he2).2.2 A hA,(hks hSS e he2).2 A hA ov (by simp)⟩⟩,(hN e he2).2.1⟩
 ·exact(hS7.ab hBB2 hSS).pick [4] (by decide) rfl
end Go.Ds
namespace Go.Ds
open Go.Proofs
open Go.Shelf Go.RowKit Go.Lib Go.Sort
def c1i(P:Program)(K kc:FuncId)(k:Nat):Prop:=∀{α:Type}[Inhabited α](enc:α→List Value)(_:∀x,(enc x).length=k)(_:∀x,∀v∈enc x,v.oneCell'=true)(cf:α→α→Int)(_:SWO (ltOf cf))(_:∀x y,(ltOf cf) x y=false→(ltOf cf) y x=false→x=y)(kX off cap:Nat)(d:Array α)(w:World),
    CmpLays P kc #[] enc k cf kX off d.size w→HoldsK enc k w kX off d→kX<w.heap.size→d.size<4611686018427387904→
    Calls P K #[.slice (some ⟨kX,off,none⟩) d.size cap,.func (.func kc) #[] #[]] w fun e w'=>e=.returned (.tuple #[])∧∃n os,w'=sortWorldK enc k w kX off n (d.toList.mergeSort fun x y=> !(ltOf cf) y x).toArray os
set_option maxRecDepth 10000 in
theorem b5W{α:Type}[Inhabited α]{enc:α→List Value}{P:Program}{K kc:FuncId}{k:Nat}(hel:∀x,(enc x).length=k)(hsc:∀x,∀v∈enc x,jZ v=true)(hone:∀x,∀v∈enc x,v.oneCell'=true)(hk0:0<k)(hso:c1i P K kc k){H:Heap}{A i lo ver:Nat}{ty:TypeId}{pre:List Value}{xs:List α}(hne:0<xs.length)(hbig:xs.length<100000000000)
 (hg:jS H A=some (.cells (pre++xs.flatMap enc) ty true lo ver)) (hlo:lo≤i+(xs.flatMap enc).length) (hpre:pre.length=i) (hty:jD P ty=some k) (cf:α→α→Int) (hO:SWO (ltOf cf)) (hT:∀x y,(ltOf cf) x y=false→(ltOf cf) y x=false→x=y)
 (hcmp:∀(W:World)x y,Calls P kc #[.agg (enc x).toArray,.agg (enc y).toArray] W fun e w'=>e=.returned (.int .i64 (cf x y))∧∃q os',w'=Go.Sort.grow (W.drewN q) os'):
 CallOk P K [.slice (some ⟨A,i,some (i+(xs.flatMap enc).length)⟩) xs.length k,.func (.func kc) #[] #[]] H (.tuple #[]) (hset H A (.cells (kD (pre++xs.flatMap enc) i ((xs.mergeSort fun x y=> !(ltOf cf) y x).flatMap enc)) ty true (pre++xs.flatMap enc).length ver)):=by
 intro q ρ w args' hr ha
 obtain⟨l⟩:=args'
 match l,ha with
 | [x,f],⟨hx,hf,_⟩=>
   obtain rfl:=V.func0 hf
   have hfl:(xs.flatMap enc).length=xs.length*k:=a9t hel xs
   have hlen:(pre++xs.flatMap enc).length=i+(xs.flatMap enc).length:=by rw[dM,hpre]
   obtain⟨p,c',a,hp,h0',hin,hnc,hac,hpk,rfl⟩:=hx.av
   have ha':a=⟨p.b,p.at i,none⟩:=by
    rcases hac with h|h
    ·exact h.1
    ·omega
   subst ha'
   have hp2:ρ A (pre++xs.flatMap enc).length=some p:=by rw[hlen];exact hp
   obtain⟨_,_,hfit,cur,ty',fr,hw,hsz,hfr,hcell⟩:=(hr.cells _ _ _ _ _ _ hg).2 _ _ hp2
   obtain⟨rfl,hd0,_⟩:=hfr rfl
   have hcur:∀j c,(xs.flatMap enc)[j]? =some c→cur[p.at i+j]? =some c:=fun j c hc=>by
    have hj:=(dQ.1 hc).1
    have h2:(pre++xs.flatMap enc)[i+j]? =some c:=by
     rw[eI (by omega),hpre,fE]
     exact hc
    obtain⟨c2,h3,h4⟩:=hcell (by rw[hlen];exact hlo) (i+j) _ (by rw[hlen];omega) (by omega) h2
    have hat:p.at (i+j)=p.at i+j:=by unfold Place.at;omega
    rw[hat]at h3
    obtain⟨x,_,hx⟩:=eM.1 (dR hc)
    have:=h4.ar (hsc x c hx)
    subst this
    exact h3
   have hA:∀x,All2 (C1 ρ) (enc x) (enc x):=fun x=>All2.cZ rfl fun j c hc=>⟨c,hc,.c0 (.flat (hsc x c (dR hc)))⟩
   obtain⟨d,hd⟩:∃d:Array α,d=xs.toArray:=⟨_,rfl⟩
   have hds:d.size=xs.length:=by rw[hd];simp
   have hH:Go.Sort.HoldsK enc k w p.b (p.at i) d:=by
    intro j hj
    rw[Go.Sort.size_flatK,hds]at hj
    constructor
    ·rw[Go.Sort.get_flatK _ _ _ _ (by rw[hds];exact hj),hd,c0A hk0 hel xs j hj,dE,dH (by rw[hfl];exact hj)]
     have:=hcur j _ (dH (by rw[hfl];exact hj))
     simp only[World.cell?,hw]
     exact this
    ·simp only[World.frozen?,hw]
     simp
   have hlay:CmpLays P kc #[] enc k cf p.b (p.at i) d.size w:=fun m os dk hdk x y=>hcmp _ x y
   have hcon:=hso enc hel hone cf hO hT p.b (p.at i) c' d w hlay hH (hr.dom _ _ _ hp).2 (by rw[hds];omega)
   rw[hds]at hcon
   obtain⟨σ,hσ⟩:∃σ,xs.mergeSort (fun x y=> !(ltOf cf) y x)=σ:=⟨_,rfl⟩
   have hdl:d.toList=xs:=by rw[hd]
   rw[hdl,hσ]at hcon
   have hσl:σ.length=xs.length:=by rw[←hσ];simp
   have hll:(σ.flatMap enc).length=xs.length*k:=by rw[a9t hel,hσl]
   have hlr:(σ.flatMap enc).length=xs.length*k:=by rw[a9t hel,hσl]
   obtain⟨w1,hrun,hpost⟩:=tP hr hg hp2 h0' (All2.bD hA σ) (by rw[hlen,hll];omega) (by rw[hlen];exact hlo)
   rw[hσ]
   have hcsz:p.at i+(σ.flatMap enc).length≤cur.size:=by
    rw[hlr,hsz]
    unfold Place.at
    rw[hlen]at hfit
    omega
   have hst:=run_storeCells_at (P:=P) p.b (p.at i) ty' (σ.flatMap enc) 0 cur w hw (by simpa using hcsz) (All2.bD hA σ).aI
   rw[hst]at hrun
   injection hrun with _ hw1
   subst hw1
   refine callsIn_wide.2 (hcon.mono ?_)
   rintro e w'⟨rfl,m,os,rfl⟩
   refine⟨ρ,_,rfl,?_,.tuple trivial⟩
   have hfs:∀j,j<xs.length*k→(Go.Sort.flatK enc k σ.toArray)[j]! =(σ.flatMap enc).getD j undef:=fun j hj=>by
    rw[Go.Sort.get_flatK _ _ _ _ (by rw[gb,hσl];exact hj)]
    exact c0A hk0 hel σ j (by rw[hσl];exact hj)
   have hFs:(Go.Sort.flatK enc k σ.toArray).size=xs.length*k:=by rw[Go.Sort.size_flatK,gb,hσl]
   unfold sortWorldK Go.Sort.putRowK
   generalize Go.Sort.flatK enc k σ.toArray=F at hfs hFs ⊢
   have hlt:=nK hw
   have hh:∀b,b<w.heap.size→(Go.Sort.grow (Go.Sort.putRow id (Go.Sort.ahead w m) p.b (p.at i) F) os).heap[b]? =(Go.Sort.putRow id (Go.Sort.ahead w m) p.b (p.at i) F).heap[b]?:=fun b hb=>by
    have:b<(Go.Sort.putRow id (Go.Sort.ahead w m) p.b (p.at i) F).heap.size:=by simpa [Go.Sort.putRow,Go.Sort.mapBlock,Go.Sort.ahead]using hb
    unfold Go.Sort.grow
    exact fC this
   refine hpost.cE ?_ ?_ rfl ⟨rfl,Nat.le_add_right _ _⟩ rfl
   ·simp[Go.Sort.grow,Go.Sort.putRow,Go.Sort.mapBlock,Go.Sort.ahead]
   ·intro b hbs
    rw[setRow_size]at hbs
    rw[hh b hbs]
    by_cases e:b=p.b
    ·subst e
     rw[setRow_heap w p.b cur _ ty' (0,0) hw]
     have e2:(Go.Sort.putRow id (Go.Sort.ahead w m) p.b (p.at i) F).heap[p.b]? =some (.cells (Go.Sort.putCells id (p.at i) F cur) ty' (0,0)):=by
      simp[Go.Sort.putRow,Go.Sort.mapBlock,Go.Sort.ahead,fK,hw,Go.Sort.onCells]
     rw[e2]
     congr 2
     apply gT
     intro j
     have hseg:=a0B cur.toList (σ.flatMap enc) (p.at i) j (by simpa using hcsz)
     have e3:((List.take (p.at i+0) cur.toList++σ.flatMap enc++List.drop (p.at i+0+(σ.flatMap enc).length) cur.toList).toArray)[j]? =(List.take (p.at i) cur.toList++σ.flatMap enc++List.drop (p.at i+(σ.flatMap enc).length) cur.toList)[j]?:=by simp
     rw[e3,hseg]
     simp only[Go.Sort.putCells,Array.getElem?_mapIdx,gC]
     rw[hlr]at hcsz ⊢
     by_cases h1:p.at i≤j∧j<p.at i+xs.length*k
     ·rw[if_pos h1]
      have hjc:j<cur.size:=by omega
      rw[fO hjc]
      simp only[ez]
      rw[if_pos (by rw[hFs];exact h1),hfs _ (by omega),dE,dH (by rw[hlr];omega)]
      rfl
     ·rw[if_neg h1]
      cases hc:cur[j]? with
      | none=>simp
      | some c=>
        simp only[ez]
        rw[if_neg (by rw[hFs];exact h1)]
    ·rw[setRow_other _ _ _ _ e]
     simp[Go.Sort.putRow,Go.Sort.mapBlock,Go.Sort.ahead,fK,fP e]
theorem b8R{α:Type}[Inhabited α]{enc:α→List Value}{P:Program}{K kc:FuncId}{k:Nat}(hel:∀x,(enc x).length=k+1)(hsc:∀x,∀v∈enc x,jZ v=true)(hone:∀x,∀v∈enc x,v.oneCell'=true)(hso:c1i P K kc (k+1))(hno:uJ P K)(hent:pD P K){H:Heap}{B:Base}{os:List Ob}(hS:St P B H os)(i:Nat){v:Value}{xs:List α}(ho:os[i]? =some ⟨v,k+1,xs.flatMap enc⟩)(hbig:xs.length<100000000000)
 (cf:α→α→Int) (hO:SWO (ltOf cf)) (hT:∀x y,(ltOf cf) x y=false→(ltOf cf) y x=false→x=y)
 (hcmp:∀x y,Fn P kc [.agg (enc x).toArray,.agg (enc y).toArray] .nil fun r H'=>r=I (cf x y)∧St P (.nil:Heap) H' [])
 {Q:Value→Heap→Prop} (h:∀H1,St P B H1 (os.set i ⟨v,k+1,(xs.mergeSort fun x y=> !(ltOf cf) y x).flatMap enc⟩)→Q (.tuple #[]) H1):tM P K [v,.func (.func kc) #[] #[]] H Q:=by
 have hcm:∀(W:World)x y,Calls P kc #[.agg (enc x).toArray,.agg (enc y).toArray] W fun e w'=>e=.returned (.int .i64 (cf x y))∧∃q os',w'=Go.Sort.grow (W.drewN q) os':=fun W x y=>by
  obtain⟨_,v,H1,h1,hr,_⟩:=hcmp x y
  subst hr
  refine c0t (ρ:=fun _ _=>none) h1 (HRel.none W) (fun b=> ?_) ⟨.v1 (.agg ?_),.v1 (.agg ?_),trivial⟩
  ·rintro⟨A,e,p,kX,hq,_⟩;cases hq
  ·exact All2.cZ rfl fun j c hc=>⟨c,hc,.c0 (.flat (hsc x c (dR hc)))⟩
  ·exact All2.cZ rfl fun j c hc=>⟨c,hc,.c0 (.flat (hsc y c (dR hc)))⟩
 by_cases h0:xs=[]
 ·subst h0
  refine⟨.tuple #[],H,hent,?_,h H ?_⟩
  ·intro k ρ w args' hr ha
   obtain⟨l⟩:=args'
   match l,ha with
   | [x,f],⟨hx,hf,_⟩=>
     obtain rfl:=V.func0 hf
     have hown:=hS.own _ (dR ho)
     unfold OwnAt at hown
     rw[if_neg (by simp)]at hown
     have hx0:∃p cap,x=.slice p 0 cap:=by
      rcases hown with⟨h2,_⟩|⟨A,j,ty,lo',ver,pre,m,h2,h3,h4,h5,h6,h7⟩
      ·simp only at h2
       subst h2
       rcases hx.ay with⟨_,_,_,rfl⟩|⟨A,j,e,p,c',a,hh,_⟩
       ·exact⟨_,_,rfl⟩
       ·cases hh
      ·simp only at h5 h6
       subst h6
       have hm:m=0:=by
        rw[fw,eT]at h5
        rcases iW.1 h5.symm with h|h
        ·exact h
        ·omega
       subst hm
       obtain⟨p,c',a,_,_,_,_,_,_,rfl⟩:=hx.av
       exact⟨_,_,rfl⟩
     obtain⟨p,cap,rfl⟩:=hx0
     refine callsIn_wide.2 ((hno p cap _ w).mono ?_)
     rintro e w'⟨rfl,rfl⟩
     exact⟨ρ,_,rfl,.refl hr,.tuple trivial⟩
  ·obtain⟨hi,hoi⟩:=dQ.1 ho
   have e0:([]:List α).mergeSort (fun x y=> !(ltOf cf) y x)=[]:=by simp
   rw[e0]
   have e:os[i]=⟨v,k+1,[]⟩:=by rw[hoi];rfl
   rw[fw,←e,gX]
   exact hS
 ·have hown:=hS.own _ (dR ho)
  unfold OwnAt at hown
  rw[if_neg (by simp)]at hown
  have hne:0<xs.length:=fh.2 h0
  have hfl:=a9t hel xs
  rcases hown with⟨_,h3⟩|⟨A,j,ty,lo',ver,pre,m,h2,h3,h4,h5,h6,h7⟩
  ·simp only at h3
   have:=congrArg List.length h3
   rw[hfl,eT]at this
   rcases iW.1 this with h|h<;>omega
  ·simp only at h2 h3 h5 h6
   have hm:m=xs.length:=fD (fM k) (h5.symm.trans hfl)
   subst hm
   have hsl:((xs.mergeSort fun x y=> !(ltOf cf) y x).flatMap enc).length=(xs.flatMap enc).length:=by
    rw[a9t hel,hfl]
    simp
   have hcall:=b5W hel hsc hone (fM k) hso hne hbig h2 h3 h4 h7 cf hO hT hcm
   rw[←h6]at hcall
   refine⟨_,_,hent,hcall,h _ (hS.put i ho ?_ ?_ ?_ ?_)⟩
   ·unfold OwnAt
    rw[if_neg (by simp)]
    refine .inr ⟨A,j,ty,(pre++xs.flatMap enc).length,ver,pre,xs.length,?_,?_,h4,?_,?_,h7⟩
    ·rw[jQ _ (kL h2)]
     have:=nG ((xs.mergeSort fun x y=> !(ltOf cf) y x).flatMap enc) pre (xs.flatMap enc) (by rw[hsl];exact dG _)
     rw[h4]at this
     rw[this,hsl,iR,dO]
    ·simp only[dM,h4,hsl];exact dG _
    ·simp only[hsl];exact h5
    ·simp only[hsl];exact h6
   ·rw[kN];exact dG _
   ·intro B' hB hne'
    refine rT fun hh=>hne' ?_
    simp[kX,h6,hh]
   ·intro B' hB
    exact .inl hB
end Go.Ds
namespace Go.Ds
open Go.Proofs Go.Proofs.Tryz Go.Shelf Go.RowKit Go.Lib Go.Sort
variable {H:Heap}
set_option maxRecDepth 10000
set_option maxHeartbeats 1000000
theorem Ctl.bX{a b:Ctl}(h:a.kind=b.kind∧a.dv=b.dv∧a.ix=b.ix):a=b:=by
 obtain⟨a1,a2,a3⟩:=a
 obtain⟨b1,b2,b3⟩:=b
 obtain⟨h1,h2,h3⟩:=h
 simp only at h1 h2 h3
 rw[h1,h2,h3]
theorem Ctl.db(a b:Ctl):(a.kind=b.kind∧a.dv=b.dv∧a.ix=b.ix)↔b=a:=⟨fun h=>(Ctl.bX h).symm,fun h=>by rw[h];exact⟨rfl,rfl,rfl⟩⟩
def rJ(c:Ctl):List Int:=[c.kind,c.dv,c.ix]
theorem a3w{a b:Ctl}(h:rJ a=rJ b):a=b:=by
 unfold rJ at h
 simp only[fG,and_true]at h
 exact Ctl.bX h
theorem c3g(x y:Ctl):Fn prog 63 [.agg #[I x.kind,I x.dv,I x.ix],.agg #[I y.kind,I y.dv,I y.ix]] H fun r H'=>r=I (lH (rJ x) (rJ y))∧St prog H H' []:=by
 refine .aE func63 rfl (by kernel_rfl) (m:=22) rfl fun l hn g0 g1=> ?_
 simp(disch:=omega) only[↓RA,RB,simprocAttr,g0]
 refine(sR H).eNew 3 [I x.kind,I x.dv,I x.ix] rfl rfl rfl a4N fun A1 H1 hS1=> ?_
 simp only[RT]at hS1
 simp(disch:=omega) only[↓RA,RB,simprocAttr,g1]
 refine hS1.eNew 3 [I y.kind,I y.dv,I y.ix] rfl rfl rfl a4N fun A2 H2 hS2=> ?_
 simp only[RT]at hS2
 simp(disch:=omega) only[↓RA,RB,simprocAttr]
 refine Wp.aJ kQ [(6,0),(8,0),(11,0),(11,5),(13,0),(13,5)] (by kernel_rfl) (by kernel_rfl) ?_
 simp(disch:=omega) only[↓RA,RZ,simprocAttr,hn,hS2.ld 0 rfl,hS2.ld 1 rfl]
 refine hS2.cF (pC x.kind y.kind) fun H3 hS3=> ?_
 simp(disch:=omega) only[↓RA,RZ,simprocAttr,hn,hS3.ld 0 rfl,hS3.ld 1 rfl]
 refine hS3.cF (pC x.dv y.dv) fun H4 hS4=> ?_
 simp(disch:=omega) only[↓RA,RZ,simprocAttr,hn,hS4.ld 0 rfl,hS4.ld 1 rfl]
 refine hS4.cF (pC x.ix y.ix) fun H5 hS5=> ?_
 simp(disch:=omega) only[↓RA,RB,simprocAttr,hn]
 refine hS5.aj [I (kU x.kind y.kind),I (kU x.dv y.dv),I (kU x.ix y.ix)] uE a2h rfl rfl (by simp[Value.cells]) rfl rfl (by decide) (by decide) fun w1 H6 hS6=> ?_
 simp only[RT]at hS6
 simp(disch:=omega) only[↓RA,RZ,simprocAttr,hn]
 refine hS6.cF (b0E w1 [kU x.kind y.kind,kU x.dv y.dv,kU x.ix y.ix] (hS6.az 2 rfl (rF _)) (by simp)) fun H7 hS7=> ?_
 simp(disch:=omega) only[↓RA,RZ,simprocAttr,hn,hS2.ld 0 rfl,hS2.ld 1 rfl,hS3.ld 0 rfl,hS3.ld 1 rfl,d1D]
 exact⟨rfl,hS7.forget⟩
def leC(a b:Ctl):Bool:= !decide (lH (rJ b) (rJ a)=-1)
def xK(l:List Ctl):List Ctl:=l.mergeSort leC
theorem soC:c1i prog 62 63 3:=
 fun enc hk h1 cf hO hT kX off cap d w hlay hH hblk hsz=>
  AnyQ.slices_SortFunc_total Tryz.ct 3 Tryz.isAgg63 Tryz.sizeOf63 enc hk h1 cf hO 63 #[] kX off cap d w (enters_of func63 (by kernel_rfl) rfl) hlay hH hblk hsz hT
theorem snC:uJ prog 62:=fun p cap fv w=>AnyF.slices_SortFunc_none {Tryz.ct with} p cap fv w
theorem enC:pD prog 62:=⟨Tryz.f62,func62,by kernel_rfl,by kernel_rfl⟩
theorem b0R{B:Base}{os:List Ob}(hS:St prog B H os)(i:Nat){v:Value}{xs:List Ctl}(ho:os[i]? =some ⟨v,3,oC xs⟩)(hl:xs.length<100000000000)
 {Q:Value→Heap→Prop} (h:∀H1,St prog B H1 (os.set i ⟨v,3,oC (xK xs)⟩)→Q (.tuple #[]) H1):tM prog 62 [v,.func (.func 63) #[] #[]] H Q:=by
 refine b8R (enc:=Ctl.cells) (fun _=>rfl) (fun x v hv=> ?_) (fun x v hv=> ?_) soC snC enC hS i ho hl (fun x y=>lH (rJ x) (rJ y)) (c8C rJ) (d0n fun x y h=>a3w h) (fun x y=>c3g x y) fun H1 hH=>h H1 ?_
 ·simp only[Ctl.cells,ew,eO,or_false]at hv
  rcases hv with rfl|rfl|rfl<;>rfl
 ·simp only[Ctl.cells,ew,eO,or_false]at hv
  rcases hv with rfl|rfl|rfl<;>rfl
 ·have e:(fun x y:Ctl=> !(ltOf fun x y=>lH (rJ x) (rJ y)) y x)=leC:=by
   funext x y
   rw[uQ]
   rfl
  rw[e]at hH
  exact hH
theorem b6l(v:Value)(xs:List Ctl)(hv:Sl 3 Ctl.cells H v xs)(hl:xs.length<1000000000)(d:Ctl):
 Fn prog 104 [v,.agg #[I d.kind,I d.dv,I d.ix]] H fun r H'=>r=I (qS (fun j=>decide (jB xs j=d)) xs.length)∧St prog H H' []:=by
 refine .aE func104 rfl (by kernel_rfl) (m:=19) rfl fun l hn g0 g1=> ?_
 simp(disch:=omega) only[↓RA,RB,simprocAttr,g1]
 refine(sR H).eNew 3 [I d.kind,I d.dv,I d.ix] rfl rfl rfl a4N fun A1 H1 hS1=> ?_
 simp only[RT]at hS1
 simp(disch:=omega) only[↓RA,RZ,simprocAttr,hn,g0,(hS1.sl hv).len]
 refine Wp.ak (fun n l H'=>l.length=19∧get l 0=v∧get l 3=(ptr A1 0 3)∧get l 7=I xs.length∧∃(j:Nat),(n+j=xs.length∧∀q,q<j→decide (jB xs q=d)=false)∧get l 8=I j∧St prog H H' [⟨ptr A1 0 3,0,[I d.kind,I d.dv,I d.ix]⟩]) xs.length ?_ ?_
 ·simp(disch:=omega) only[RB,RC,simprocAttr,hn,g0]
  exact⟨0,⟨by omega,fun q hq=>absurd hq (eu _)⟩,rfl,hS1⟩
 rintro n l H2⟨hn,g0,g3,g7,j,⟨hi,h0⟩,g8,hS2⟩
 simp(disch:=omega) only[↓RA,RB,simprocAttr,hn,g7,g8]
 refine jA (fun h=> ?_) (fun h=> ?_)
 ·simp(disch:=omega) only[↓RA,RZ,simprocAttr,hn,g8,h]
  refine Wp.drw kQ (by kernel_rfl) ?_
  simp(disch:=omega) only[↓RA,RZ,simprocAttr,hn,g0,g3,hS2.ae 0 rfl,(hS2.sl hv).idx,(hS2.sl hv).ae,Ctl.cells]
  refine jA (fun hp=> ?_) (fun hp=> ?_)
  ·simp(disch:=omega) only[↓RA,RZ,simprocAttr,hn,c5h,hp]
   exact⟨by rw[vZ _ xs.length j (by omega) (by simpa using(Ctl.db _ _).1 hp) h0],hS2.forget⟩
  simp(disch:=omega) only[↓RA,RZ,simprocAttr,hn,g0,g3,g7,g8,hp]
  exact⟨n-1,by omega,j+1,⟨by omega,fun q hq=>by rcases dK.1 hq with e|e;(· exact h0 q e);(· rw[e];simpa using fun hh=>hp ((Ctl.db _ _).2 hh))⟩,by simp,hS2⟩
 simp(disch:=omega) only[↓RA,RZ,simprocAttr,hn,c5h,h]
 exact⟨by rw[vO _ xs.length fun q hq=>h0 q (by omega)],hS2.forget⟩
theorem c3p(v:Value)(xs:List Ctl)(hv:Sl 3 Ctl.cells H v xs)(hl:xs.length<1000000000)(d:Ctl):
 Fn prog 61 [v,.agg #[I d.kind,I d.dv,I d.ix]] H fun r H'=>r=.bool (decide (d∈xs))∧St prog H H' []:=by
 have e:decide (0≤qS (fun j=>decide (jB xs j=d)) xs.length)=decide (d∈xs):=by
  rw[fc,decide_eq_true_iff,decide_eq_true_iff,yY]
  constructor
  ·rintro⟨j,hj,hp⟩
   rw[←of_decide_eq_true hp];exact jE hj
  ·intro hx
   obtain⟨j,hj,rfl⟩:=eF.1 hx
   exact⟨j,hj,by rw[jR xs j hj];simp⟩
 refine .aE func61 rfl (by kernel_rfl) (m:=9) rfl fun l hn g0 g1=> ?_
 simp(disch:=omega) only[↓RA,RB,simprocAttr,g1]
 refine(sR H).eNew 3 [I d.kind,I d.dv,I d.ix] rfl rfl rfl a4N fun A1 H1 hS1=> ?_
 simp only[RT]at hS1
 simp(disch:=omega) only[↓RA,RZ,simprocAttr,hn,g0,hS1.ae 0 rfl]
 refine hS1.cF (b6l v xs (hS1.sl hv) hl d) fun H2 hS2=> ?_
 simp(disch:=omega) only[↓RA,RB,simprocAttr,hn,d1f]
 rw[←e]
 first|exact hS2.forget|exact⟨rfl,hS2.forget⟩
theorem d2e:a9l prog 40=some (2+1):=by kernel_rfl
theorem c1x{B:Base}{v:Value}{es:List Ctl}(hS:St prog B H [⟨v,3,oC es⟩])(hl:es.length<100000000000):
 Fn prog 64 [v] H fun r H'=>∃rest:List Value,r=lP v 3 0 (dd es).length∧St prog B H' [⟨v,3,oC (dd es)++rest⟩]:=by
 refine .aN func64 rfl (by kernel_rfl) (m:=61) rfl fun l hn g0=> ?_
 simp(disch:=omega) only[↓RA,RZ,simprocAttr,hn,g0,(hS.az 0 rfl (fun _=>rfl)).len]
 refine jA (fun h=> ?_) (fun h=> ?_)
 ·have hd:=rE es es.length (dG _) fun j h1 h2=>by omega
  rw[eS]at hd
  simp(disch:=omega) only[↓RA,RZ,simprocAttr,hn,g0,c7l,h]
  exact⟨[],by unfold dd;rw[hd];exact(RdAt.sub_self (size:=2) (hS.rd 0 rfl) (nA es)).symm,by unfold dd;rw[hd,dO];exact hS⟩
 simp(disch:=omega) only[↓RA,RZ,simprocAttr,h]
 refine Wp.ak (fun n l H'=>l.length=61∧get l 0=v∧∃(k:Nat),(0<k∧n+k=es.length∧∀j,0<j→j<k→jB es j≠jB es (j-1))∧get l 3=I k∧St prog B H' [⟨v,3,oC es⟩]) (es.length-1) ?_ ?_
 ·simp(disch:=omega) only[RB,RC,simprocAttr,hn,g0]
  exact⟨1,⟨by omega,by omega,fun j h1 h2=>by omega⟩,rfl,hS⟩
 rintro n l H1⟨hn,g0,k,⟨hk0,hk,hdis⟩,g3,hS1⟩
 simp(disch:=omega) only[↓RA,RZ,simprocAttr,hn,g0,g3,(hS1.az 0 rfl (fun _=>rfl)).len]
 refine jA (fun h2=> ?_) (fun h2=> ?_)
 ·have hkl:k<es.length:=by omega
  have hpre:(k:Int)-1=((k-1:Nat):Int):=by omega
  simp(disch:=omega) only[↓RA,RC,simprocAttr,h2]
  refine Wp.drw kQ (by kernel_rfl) ?_
  simp(disch:=omega) only[↓RA,RZ,simprocAttr,hn,g0,g3,(hS1.az 0 rfl (fun _=>rfl)).idx,(hS1.az 0 rfl (fun _=>rfl)).ae,Ctl.cells,hpre]
  refine jA (fun h3=> ?_) (fun h3=> ?_)
  ·have h3:jB es k=jB es (k-1):=Ctl.bX h3
   have hlen:(oC es).length=es.length*(2+1):=nA es
   have hpos:0<es.length:=by omega
   have hdk:=rE es k (by omega) hdis
   have hdk1:wS es (k+1)=es.take k:=by rw[pZ,hdk,if_neg (by rintro(h4|h4);omega;exact h4 h3),dO]
   have hrow:St prog B H1 [⟨v,3,oC (wS es (k+1)++es.drop k)⟩]:=by rw[hdk1,fR];exact hS1
   have hdl:(wS es (k+1)).length=k:=by rw[hdk1,fQ];omega
   simp(disch:=omega) only[↓RA,RZ,simprocAttr,hn,g0,g3,(hS1.az 0 rfl (fun _=>rfl)).aF,h3]
   refine Wp.ak (fun n l H'=>l.length=61∧get l 0=v∧∃k2:Nat,(0<k2∧n+k+k2=es.length∧(wS es (k+k2)).length<k+k2)∧get l 3=I (wS es (k+k2)).length∧get l 4=lP v 3 k (es.length-k)∧get l 5=I k2∧St prog B H' [⟨v,3,oC (wS es (k+k2)++es.drop (wS es (k+k2)).length)⟩]) (es.length-k-1) ?_ ?_
   ·simp(disch:=omega) only[RB,RC,simprocAttr,hn,g0,g3]
    refine⟨1,⟨by omega,by omega,by omega⟩,by rw[hdl],by congr 1;omega,rfl,?_⟩
    rw[hdl]
    exact hrow
   clear hrow hdk hdk1 hdl hdis
   rintro n l H9⟨hn,g0,k2,⟨hk20,hk2,hlt⟩,g3,g4,g5,hS9⟩
   have hsucc:=pZ es (k+k2)
   generalize hD:wS es (k+k2)=D at g3 hlt hS9 hsucc
   have hrl:(D++es.drop D.length).length=es.length:=by rw[dM,fo];omega
   have hv:Sl 3 Ctl.cells H9 v (D++es.drop D.length):=hS9.az 0 rfl (fun _=>rfl)
   have hat:∀j,D.length≤j→jB (D++es.drop D.length) j=jB es j:=fun j hj=>by
    unfold jB
    rw[dE,eI hj,ed,dE]
    congr 2;omega
   have hsub:Sl 3 Ctl.cells H9 (lP v 3 k ((D++es.drop D.length).length-k)) ((D++es.drop D.length).drop k):=hv.cg k (by omega) (by omega)
   rw[hrl]at hsub
   have hsl:((D++es.drop D.length).drop k).length=es.length-k:=by rw[fo,hrl]
   have hsat:∀j,D.length≤k+j→jB ((D++es.drop D.length).drop k) j=jB es (k+j):=fun j hj=>by
    rw[←hat (k+j) hj]
    unfold jB
    rw[dE,ed,dE]
   have hbd:((es.length-k:Nat):Int)=(es.length:Int)-k:=by omega
   simp(disch:=omega) only[↓RA,RZ,simprocAttr,hn,g4,g5,hsub.len,hsl,hbd]
   refine jA (fun h4=> ?_) (fun h4=> ?_)
   ·have hj:k+k2<es.length:=by omega
    have hpre2:(k2:Int)-1=((k2-1:Nat):Int):=by omega
    have e1:=hsat k2 (by omega)
    have e2:=hsat (k2-1) (by omega)
    rw[show k+(k2-1)=k+k2-1 from by omega]at e2
    simp(disch:=omega) only[↓RA,RC,simprocAttr,h4]
    refine Wp.drw kQ (by kernel_rfl) ?_
    simp(disch:=omega) only[↓RA,RZ,simprocAttr,hn,g4,g5,hsub.idx,hsub.ae,Ctl.cells,hpre2,e1,e2]
    refine jA (fun h5=> ?_) (fun h5=> ?_)
    ·have hne:jB es (k+k2)≠jB es (k+k2-1):=fun e=>h5 (by rw[e];exact⟨rfl,rfl,rfl⟩)
     rw[if_pos (.inr hne)]at hsucc
     simp(disch:=omega) only[↓RA,RZ,simprocAttr,hn,g0,g3,g4,g5,hsub.idx,hsub.ae,Ctl.cells,e1,h5]
     simp(disch:=omega) only[↓RA,RZ,simprocAttr,hn,(hS9.az 0 rfl (fun _=>rfl)).idx,h5]
     refine hS9.ba 0 rfl [I (jB es (k+k2)).kind,I (jB es (k+k2)).dv,I (jB es (k+k2)).ix] rfl rfl a4N (by simp) (by rw[nA,hrl];simp;omega) fun H2 hS2=> ?_
     simp only[RT]at hS2
     simp(disch:=omega) only[↓RA,RZ,simprocAttr,hn,g0,g3,g4,g5,h5]
     refine⟨n-1,by omega,k2+1,?_⟩
     rw[show k+(k2+1)=k+k2+1 from by omega,hsucc]
     refine⟨⟨by omega,by omega,by simp;omega⟩,by simp,by simp,?_⟩
     have e3:oC (D++[jB es (k+k2)]++es.drop (D++[jB es (k+k2)]).length)=(((oC (D++es.drop D.length)).set (D.length*3) (I (jB es (k+k2)).kind)).set (D.length*3+1) (I (jB es (k+k2)).dv)).set (D.length*3+2) (I (jB es (k+k2)).ix):=by
      have hx:es.drop D.length=jB es D.length::es.drop (D.length+1):=by
       rw[jR es _ (by omega)]
       exact ga (by omega)
      rw[hx,dM,List.length_singleton,pN,pN,pN]
      have e4:oC (jB es D.length::es.drop (D.length+1))=I (jB es D.length).kind::I (jB es D.length).dv::I (jB es D.length).ix::oC (es.drop (D.length+1)):=rfl
      have e5:oC [jB es (k+k2)]=[I (jB es (k+k2)).kind,I (jB es (k+k2)).dv,I (jB es (k+k2)).ix]:=rfl
      have e6:(oC D).length=D.length*3:=nA D
      rw[e4,e5,fL _ _ (by omega),fL _ _ (by omega),fL _ _ (by omega),e6,jf,fE,fE]
      simp
     rw[e3]
     exact hS2
    have heq:jB es (k+k2)=jB es (k+k2-1):=by
     have h6:=dX.1 h5
     exact Ctl.bX h6
    rw[if_neg (by rintro(h6|h6);omega;exact h6 heq),dO]at hsucc
    simp(disch:=omega) only[↓RA,RZ,simprocAttr,hn,g0,g3,g4,g5,h5]
    refine⟨n-1,by omega,k2+1,?_⟩
    rw[show k+(k2+1)=k+k2+1 from by omega,hsucc]
    exact⟨⟨by omega,by omega,by omega⟩,rfl,by simp,hS9⟩
   have hke:k+k2=es.length:=by omega
   rw[hke]at hD
   have hcl:(oC (D++es.drop D.length)).length=es.length*(2+1):=by rw[nA,hrl]
   have hDn:D.length≤es.length:=by omega
   simp(disch:=omega) only[↓RA,RZ,simprocAttr,hn,g0,g3,(hS9.az 0 rfl (fun _=>rfl)).aF,h4]
   rw[show(((D++es.drop D.length).length:Int)-D.length).toNat=es.length-D.length from by rw[hrl];omega]
   refine hS9.bH (size:=2) 0 rfl D.length (es.length-D.length) (by rw[hcl];omega) (by
    intro e
    have h2:(oC (D++es.drop D.length)).length=0:=by rw[e];rfl
    rw[nA,hrl]at h2;omega) d2e fun z H3 hz hSc=> ?_
   simp only[RT]at hSc
   have e3:kD (oC (D++es.drop D.length)) (D.length*3) z=oC D++z:=by
    rw[pN,show D.length*3=(oC D).length from(nA D).symm,nG z (oC D) (oC (es.drop D.length)) (by rw[nA,fo];omega)]
    rw[iB (by rw[nA,fo];omega),dO]
   rw[show D.length*(2+1)=D.length*3 from rfl,e3]at hSc
   have hw:RdAt H3 v (2+1) (oC D++z):=hSc.rd 0 rfl
   have hwl:(oC D++z).length=es.length*(2+1):=by rw[dM,nA,hz];omega
   simp(disch:=omega) only[↓RA,RZ,simprocAttr,hn,g0,g3,hw.aS hwl,c7l,h4]
   exact⟨z,by unfold dd;rw[hD],by unfold dd;rw[hD];exact hSc⟩
  have hne:jB es k≠jB es (k-1):=fun e=>h3 (by rw[e];exact⟨rfl,rfl,rfl⟩)
  simp(disch:=omega) only[↓RA,RZ,simprocAttr,hn,g0,g3,h3]
  refine⟨n-1,by omega,k+1,⟨by omega,by omega,fun j h4 h5=> ?_⟩,by simp,hS1⟩
  by_cases e:j=k
  ·rw[e];exact hne
  ·exact hdis j h4 (by omega)
 have hke:k=es.length:=by omega
 have hd:=rE es es.length (dG _) (hke▸hdis)
 rw[eS]at hd
 simp(disch:=omega) only[↓RA,RZ,simprocAttr,hn,g0,c7l,h2]
 exact⟨[],by unfold dd;rw[hd];exact(RdAt.sub_self (size:=2) (hS.rd 0 rfl) (nA es)).symm,by unfold dd;rw[hd,dO];exact hS1⟩
def a1i(r:Rp):List Ctl:=(⟨1,r.tc.1,r.stop⟩:Ctl)::r.cps.map fun i=>⟨2,0,i⟩
def mB(r:Rp):List Ctl:=dd (xK (a1i r))
end Go.Ds
namespace Go.Ds
open Go.Proofs Go.Proofs.Tryz
variable {H:Heap}
set_option maxRecDepth 10000
set_option maxHeartbeats 1000000
theorem a1L{α:Type}[Inhabited α](es:List α)(m:Nat)(h:m<es.length):es.take (m+1)=es.take m++[jB es m]:=by
 rw[jR es m h,ib h]
theorem a5M(r:Rp):(a1i r).length=r.cps.length+1:=by simp[a1i]
theorem c0a{α:Type}[Inhabited α][DecidableEq α](l:List α):(dd l).length≤l.length:=b8a l l.length
theorem b7d(r:Rp):(mB r).length≤r.cps.length+1:=by
 have h:=c0a (xK (a1i r))
 unfold xK at h
 rw[List.length_mergeSort,a5M]at h
 exact h
theorem a3C(l:List Ctl):(xK l).length=l.length:=by unfold xK;rw[List.length_mergeSort]
theorem b2U{v:Value}{xs:List Ctl}{rest:List Value}(h:RdAt H v 3 (oC xs++rest)):Sl 3 Ctl.cells H (lP v 3 0 xs.length) xs:=(Frs.mk (cel:=Ctl.cells) h (fun _=>rfl) (by decide) rfl).sl
theorem c3Y(r:Rn)(hr:r.In H)(hrl:r.cps.length<1000000):Fn prog 58 [r.v] H fun q H'=>∃v rest,q=lP v 3 0 (mB r.rp).length∧St prog H H' [⟨v,3,oC (mB r.rp)++rest⟩]:=by
 refine .aN func58 rfl (by kernel_rfl) (m:=30) rfl fun l hn g0=> ?_
 simp(disch:=omega) only[↓RA,RB,simprocAttr,g0]
 refine(sR H).eNew 6 [I r.pl.1,I r.pl.2,r.cv,I r.tc.1,I r.tc.2,I r.stop] rfl rfl (by simp[OC,((sR H).sl hr.1).cells.2.1]) pV fun A1 H1 hS1=> ?_
 simp only[RT]at hS1
 simp(disch:=omega) only[↓RA,RZ,simprocAttr,hn,hS1.ld 0 rfl,b2y]
 refine hS1.aj [I 1,I r.tc.1,I r.stop] b0C c2K rfl rfl (by simp[Value.cells]) rfl rfl (by decide) (by decide) fun w1 H2 hS2=> ?_
 simp only[RT]at hS2
 simp(disch:=omega) only[↓RA,RZ,simprocAttr,hn,hS2.ld 0 rfl,(hS2.sl hr.1).len]
 refine Wp.ak (fun n l H'=>l.length=30∧get l 2=(.slice none 0 0)∧get l 14=r.cv∧get l 15=I r.cps.length∧∃(j:Nat)(ov:Value),(n+j=r.cps.length)∧get l 16=I j∧get l 3=ov∧St prog H H' [⟨ptr A1 0 6,0,[I r.pl.1,I r.pl.2,r.cv,I r.tc.1,I r.tc.2,I r.stop]⟩,⟨ov,3,oC ((⟨1,r.tc.1,r.stop⟩:Ctl)::(r.cps.take j).map fun i=>⟨2,0,i⟩)⟩]) r.cps.length ?_ ?_
 ·simp(disch:=omega) only[RB,RC,simprocAttr,hn]
  exact⟨0,w1,by omega,rfl,rfl,hS2⟩
 rintro n l H3⟨hn,g2,g14,g15,j,ov,hj,g16,g3,hS3⟩
 simp(disch:=omega) only[↓RA,RB,simprocAttr,hn,g15,g16]
 refine jA (fun q1=> ?_) (fun q1=> ?_)
 ·have hll:=nA ((⟨1,r.tc.1,r.stop⟩:Ctl)::(r.cps.take j).map fun i=>⟨2,0,i⟩)
  rw[eL,dU,fQ]at hll
  simp(disch:=omega) only[↓RA,RZ,simprocAttr,hn,g14,g16,g3,(hS3.sl hr.1).idx,(hS3.sl hr.1).ld,one,b7N,q1]
  refine hS3.aj [I 2,I 0,I (jB r.cps j)] b0C c2K rfl rfl (by simp[Value.cells]) rfl rfl (by decide) (by decide) fun w2 H4 hS4=> ?_
  simp only[RT]at hS4
  simp(disch:=omega) only[↓RA,RZ,simprocAttr,hn,q1]
  refine hS4.aq 1 rfl (hS4.rd 2 rfl) b0C (by rw[hll];simp;omega) fun w3 H5 hS5=> ?_
  simp only[RT]at hS5
  simp(disch:=omega) only[↓RA,RZ,simprocAttr,hn,g2,g14,g15,g16,q1]
  refine⟨n-1,by omega,j+1,w3,by omega,by simp,rfl,?_⟩
  rw[nJ r.cps j (by omega),dY,←gr,pN]
  exact hS5.pick [0,1] (by decide) rfl
 have hjj:j=r.cps.length:=by omega
 subst hjj
 rw[eS]at hS3
 have hul:(a1i r.rp).length=r.cps.length+1:=a5M r.rp
 simp(disch:=omega) only[↓RA,RZ,simprocAttr,hn,g3,q1]
 refine b0R hS3 1 rfl (xs:=a1i r.rp) (by omega) fun HS hSS=> ?_
 simp only[List.set_cons_succ,gV]at hSS
 simp(disch:=omega) only[↓RA,RZ,simprocAttr,hn,g3,q1]
 have hM1:=hSS.pick (os':=[⟨ov,3,_⟩]) [1] (by decide) rfl
 have hR1:=hSS.pick (os':=[⟨ov,3,_⟩,⟨ptr A1 0 6,0,_⟩]) [1,0] (by decide) rfl
 refine jG (c1x hM1.aR (by rw[a3C,hul];omega)) ?_
 rintro r H6⟨rest,rfl,hT1⟩
 have hS6:=hR1.frame hT1
 simp only[RT]at hS6
 obtain⟨rc,hrcE⟩:∃w,w=lP ov 3 0 (dd (xK (a1i r.rp))).length:=⟨_,rfl⟩
 have hrc:=(b2U (hS6.rd 0 rfl)).cells
 rw[←hrcE]at hrc ⊢
 simp(disch:=omega) only[↓RA,RZ,simprocAttr,hn,d1q,q1]
 exact⟨ov,rest,hrcE,hS6.pick [0] (by decide) rfl⟩
theorem b9Y{H0:Heap}{v:Value}{xs:List Ctl}{rest:List Value}(h:St prog H0 H [⟨v,3,oC xs++rest⟩]):Slx 3 Ctl.cells H (fun B=>H0.length≤B) (lP v 3 0 xs.length) xs:=by
 refine⟨b2U (h.rd 0 rfl),fun b hb=> ?_⟩
 rcases h.new _ (eW ..) b (a4p hb)with h|h
 ·exact h
 ·exact h.elim
theorem a8I(r:Rn)(hr:r.In H)(hrl:r.cps.length<1000000):Fn prog 58 [r.v] H fun q H'=>Slx 3 Ctl.cells H' (fun B=>H.length≤B) q (mB r.rp)∧St prog H H' []:=
 (c3Y r hr hrl).mono fun _ _⟨_,_,e,h⟩=>⟨e▸b9Y h,h.forget⟩
theorem b9M{s:Sn}(h:qM s≠0):nD s=[]:=by unfold nD;rw[if_neg h]
theorem b4G(s:Sn):(nD s).length≤500:=by
 by_cases h:qM s=0
 ·unfold nD
  rw[if_pos h,List.length_mergeSort]
  unfold qM at h
  split at h
  ·rename_i h1;exact absurd h h1
  ·split at h
   ·cases h
   ·omega
 ·rw[b9M h];simp
end Go.Ds
namespace Go.Ds
open Go.Proofs
set_option maxRecDepth 10000
theorem a7v{α:Type}[Inhabited α][DecidableEq α](es:List α)(x:α):∀m,x∈wS es m↔∃j,j<m∧jB es j=x
 | 0=>by simp[wS]
 | m+1=>by
   rw[pZ,eo,a7v es x m]
   constructor
   ·rintro(⟨j,hj,e⟩|h)
    ·exact⟨j,by omega,e⟩
    ·split at h
     ·rw[dW]at h
      exact⟨m,by omega,h.symm⟩
     ·cases h
   ·rintro⟨j,hj,e⟩
    by_cases hm:m=0∨jB es m≠jB es (m-1)
    ·rcases dK.1 hj with h|h
     ·exact .inl ⟨j,h,e⟩
     ·subst h
      rw[if_pos hm]
      exact .inr (dW.2 e.symm)
    ·rcases dK.1 hj with h|h
     ·exact .inl ⟨j,h,e⟩
     ·subst h
      have h1:jB es j=jB es (j-1):=fj fun h=>hm (.inr h)
      have h2:j≠0:=fun h=>hm (.inl h)
      exact .inl ⟨j-1,by omega,by rw[←h1];exact e⟩
theorem c3R{α:Type}[Inhabited α][DecidableEq α]{es:List α}{x:α}:x∈dd es↔x∈es:=by
 unfold dd
 rw[a7v]
 constructor
 ·rintro⟨j,hj,rfl⟩
  exact jE hj
 ·intro h
  obtain⟨j,hj,rfl⟩:=eF.1 h
  exact⟨j,hj,jR es j hj⟩
def zC(a b:Ctl):Prop:=lH (rJ a) (rJ b)=-1
theorem a0l{a b c:Ctl}(h:zC a b)(h2:zC b c):zC a c:=tJ h h2
theorem a0U{a:Ctl}(h:zC a a):False:=by
 unfold zC at h
 rw[mU.2 rfl]at h
 cases h
theorem a1m{a b:Ctl}:leC a b=true↔zC a b∨a=b:=by
 unfold leC zC
 rw[eK,decide_eq_false_iff_not]
 have h1:=rP (rJ a) (rJ b)
 have h2:=rQ (rJ a) (rJ b)
 have h3:lH (rJ a) (rJ b)=0↔a=b:=⟨fun h=>a3w (mU.1 h),fun h=>by rw[h];exact mU.2 rfl⟩
 constructor
 ·intro h
  rcases h2 with h2|h2|h2
  ·exact .inl h2
  ·exact .inr (h3.1 h2)
  ·omega
 ·rintro(h|h)
  ·omega
  ·have:=h3.2 h;omega
theorem b0j(l:List Ctl):(xK l).Pairwise fun a b=>leC a b=true:=by
 unfold xK
 refine List.pairwise_mergeSort (fun a b c h1 h2=> ?_) (fun a b=> ?_) l
 ·rw[a1m]at*
  rcases h1 with h1|rfl
  ·rcases h2 with h2|rfl
   ·exact .inl (a0l h1 h2)
   ·exact .inl h1
  ·exact h2
 ·rw[fi,a1m,a1m]
  have h1:=rP (rJ a) (rJ b)
  have h3:lH (rJ a) (rJ b)=0→a=b:=fun h=>a3w (mU.1 h)
  unfold zC
  rcases rQ (rJ a) (rJ b)with h2|h2|h2
  ·exact .inl (.inl h2)
  ·exact .inl (.inr (h3 h2))
  ·exact .inr (.inl (by omega))
theorem b3P{es:List Ctl}(h:es.Pairwise fun a b=>leC a b=true):∀m,m≤es.length→(wS es m).Pairwise zC
 | 0,_=>by simp[wS]
 | m+1,hm=>by
   rw[pZ,fp]
   refine⟨b3P h m (by omega),by split<;>simp,fun x hx y hy=> ?_⟩
   split at hy
   ·rename_i hne
    rw[dW]at hy
    subst hy
    obtain⟨j,hj,rfl⟩:=(a7v es x m).1 hx
    have hne:jB es m≠jB es (m-1):=hne.resolve_left (by omega)
    have hpw:=eQ.1 h
    have h1:zC (jB es (m-1)) (jB es m):=by
     have h2:=hpw (m-1) m (by omega) (by omega) (by omega)
     rw[←jR es _ (by omega),←jR es _ (by omega),a1m]at h2
     exact h2.resolve_right fun e=>hne e.symm
    rcases gQ j (m-1)with hj2|hj2
    ·have h2:=hpw j (m-1) (by omega) (by omega) hj2
     rw[←jR es _ (by omega),←jR es _ (by omega),a1m]at h2
     rcases h2 with h2|h2
     ·exact a0l h2 h1
     ·rw[h2];exact h1
    ·rw[show j=m-1 from by omega]
     exact h1
   ·cases hy
theorem a7Q(l:List Ctl):(dd (xK l)).Pairwise zC:=b3P (b0j l) _ (dG _)
theorem a1d{l:List Ctl}{x:Ctl}:x∈dd (xK l)↔x∈l:=by
 rw[c3R]
 unfold xK
 exact List.mem_mergeSort
theorem a3g:∀(l m:List Ctl),l.Pairwise zC→m.Pairwise zC→(∀x,x∈l↔x∈m)→l=m
 | [],[],_,_,_=>rfl
 | [],b::m,_,_,h=>absurd ((h b).2 (by simp)) eO
 | a::l,[],_,_,h=>absurd ((h a).1 (by simp)) eO
 | a::l,b::m,h1,h2,h=>by
   rw[List.pairwise_cons]at h1 h2
   have hab:a=b:=by
    rcases ew.1 ((h a).1 (by simp))with e|e
    ·exact e
    ·rcases ew.1 ((h b).2 (by simp))with f|f
     ·exact f.symm
     ·exact absurd (a0l (h1.1 b f) (h2.1 a e)) a0U
   subst hab
   rw[a3g l m h1.2 h2.2 fun x=> ?_]
   constructor
   ·intro hx
    rcases ew.1 ((h x).1 (eX _ hx))with e|e
    ·subst e;exact absurd (h1.1 x hx) a0U
    ·exact e
   ·intro hx
    rcases ew.1 ((h x).2 (eX _ hx))with e|e
    ·subst e;exact absurd (h2.1 x hx) a0U
    ·exact e
theorem a5o{l:List Ctl}(h:l.Pairwise zC):dd (xK l)=l:=a3g _ _ (a7Q l) h fun x=>a1d
theorem sS{r:Rp}{c:Ctl}:c∈mB r↔c=⟨1,r.tc.1,r.stop⟩∨∃i∈r.cps,c=⟨2,0,i⟩:=by
 unfold mB a1i
 rw[a1d,ew,dP]
 constructor
 ·rintro(h|⟨i,hi,h⟩)
  ·exact .inl h
  ·exact .inr ⟨i,hi,h.symm⟩
 ·rintro(h|⟨i,hi,h⟩)
  ·exact .inl h
  ·exact .inr ⟨i,hi,h.symm⟩
end Go.Ds
namespace Go.Ds
open Go.Proofs Go.Proofs.Tryz
variable {H:Heap}
set_option maxRecDepth 10000
set_option maxHeartbeats 1000000
structure Qv where
 v:Value
 l:List Ctl
 deriving Inhabited
def Qv.cells(q:Qv):List Value:=[q.v]
def Qv.In(H:Heap)(q:Qv):Prop:=Sl 3 Ctl.cells H q.v q.l
def sM:List Ctl→List (List Ctl)→Nat→Option (List Ctl)
 | [],[],_=>some []
 | [],_::_,_=>none
 | _::_,[],_=>some []
 | _::_,_::_,0=>none
 | c::f,x::xs,n+1=>match sM f ((x::xs).filter fun y=> !decide (c∈y)) n with
   | some l=>some (c::l)
   | none=>sM f (x::xs) (n+1)
theorem sY(f:List Ctl)(n:Nat):sM f [] n=some []:=by cases f<;>rfl
theorem yQ(f:List Ctl){ss:List (List Ctl)}(h:ss≠[]):sM f ss 0=none:=by
 cases ss with
 | nil=>exact absurd rfl h
 | cons=>cases f<;>rfl
theorem a4e{ss:List (List Ctl)}(h:ss≠[])(n:Nat):sM [] ss n=none:=by
 cases ss with
 | nil=>exact absurd rfl h
 | cons=>rfl
theorem uZ(c:Ctl)(f:List Ctl){ss:List (List Ctl)}(h:ss≠[])(n:Nat):sM (c::f) ss (n+1)=match sM f (ss.filter fun y=> !decide (c∈y)) n with
 | some l=>some (c::l)
 | none=>sM f ss (n+1):=by
 cases ss with
 | nil=>exact absurd rfl h
 | cons=>rfl
theorem b9J:∀(f:List Ctl)(ss:List (List Ctl))(n:Nat){l:List Ctl},sM f ss n=some l→l.length≤f.length:=by
 intro f
 induction f with
 | nil=>
   intro ss n l h
   cases ss with
   | nil=>rw[sY]at h;cases h;simp
   | cons=>rw[a4e (by simp)]at h;cases h
 | cons c f ih=>
   intro ss n l h
   by_cases hs:ss=[]
   ·subst hs
    rw[sY]at h;cases h;simp
   ·cases n with
    | zero=>rw[yQ _ hs]at h;cases h
    | succ n=>
      rw[uZ _ _ hs]at h
      cases h2:sM f (ss.filter fun y=> !decide (c∈y)) n with
      | none=>
        rw[h2]at h
        have:=ih _ _ h
        simp;omega
      | some m=>
        rw[h2]at h
        cases h
        have:=ih _ _ h2
        simp;omega
theorem b5P:∀(f:List Ctl)(ss:List (List Ctl))(n:Nat),f.length≤n→(∀x∈ss,∃c∈f,c∈x)→(sM f ss n).isSome=true:=by
 intro f
 induction f with
 | nil=>
   intro ss n _ h
   cases ss with
   | nil=>rfl
   | cons x ss=>
     obtain⟨c,hc,_⟩:=h x (by simp)
     cases hc
 | cons c f ih=>
   intro ss n hn h
   by_cases hs:ss=[]
   ·subst hs
    rw[sY];rfl
   ·cases n with
    | zero=>simp at hn
    | succ n=>
      rw[uZ _ _ hs]
      have h2:=ih (ss.filter fun y=> !decide (c∈y)) n (by simpa using hn) fun x hx=>by
       rw[eY]at hx
       obtain⟨d,hd,hdx⟩:=h x hx.1
       have hcx:c∉x:=by simpa using hx.2
       rcases ew.1 hd with rfl|hd
       ·exact absurd hdx hcx
       ·exact⟨d,hd,hdx⟩
      cases h3:sM f (ss.filter fun y=> !decide (c∈y)) n with
      | none=>rw[h3]at h2;cases h2
      | some l=>rfl
theorem RdAt.bC{v:Value}{n:Nat}{cs:List Value}(h:RdAt H v n cs):kF v=true:=by
 rcases h with⟨rfl,_⟩|⟨A,i,e,row,ty,rw',lo,ver,m,_,_,_,_,_,_,rfl⟩<;>rfl
theorem c7I:∀(m:Nat){H:Heap}(fv:Value)(fr:List Ctl)(_:fr.length<m)(_:Sl 3 Ctl.cells H fv fr)(sv:Value)(ss:List Qv)(_:Sl 1 Qv.cells H sv ss)(_:∀q∈ss,q.In H)(n:Nat)(_:n<1000)(_:fr.length<1000000)(_:ss.length<1000000)(_:∀q∈ss,q.l.length<1000000000),
 Fn prog 65 [sv,fv,I n] H fun r H'=>∃ov,r=.tuple #[ov,.bool (sM fr (ss.map (·.l)) n).isSome]∧St prog H H' [⟨ov,3,oC ((sM fr (ss.map (·.l)) n).getD [])⟩]:=by
 intro m
 induction m with
 | zero=>exact fun{H}fv fr h=>absurd h (eu _)
 | succ m ih=>
 intro H fv fr hm hf sv ss hs hq n hn9 hfl hsl hql
 refine .cJ func65 rfl (by kernel_rfl) (m:=59) rfl fun l hn g0 g1 g2=> ?_
 simp(disch:=omega) only[↓RA,RZ,simprocAttr,hn,g0,((sR H).sl hs).len]
 refine jA (fun h1=> ?_) (fun h1=> ?_)
 ·have hz:ss.map (·.l)=[]:=by rw[eG.1 (show ss.length=0 by omega)];rfl
  simp(disch:=omega) only[↓RA,RZ,simprocAttr,hn,c3m,h1]
  rw[hz,sY]
  exact⟨.slice none 0 0,rfl,(sR H).nil 2⟩
 have hne:ss.map (·.l)≠[]:=by
  intro e
  have:=congrArg List.length e
  rw[dU,eT]at this
  omega
 simp(disch:=omega) only[↓RA,RZ,simprocAttr,hn,g2,h1]
 refine jA (fun h2=> ?_) (fun h2=> ?_)
 ·have hz:n=0:=by omega
  simp(disch:=omega) only[↓RA,RZ,simprocAttr,hn,c3m,h1,h2]
  rw[hz,yQ _ hne]
  exact⟨.slice none 0 0,rfl,(sR H).nil 2⟩
 obtain⟨k,rfl⟩:∃k,n=k+1:=⟨n-1,by omega⟩
 simp(disch:=omega) only[↓RA,RZ,simprocAttr,hn,g1,((sR H).sl hf).len,h1,h2]
 refine Wp.ak (fun n l H'=>l.length=59∧get l 0=sv∧get l 1=fv∧get l 2=I (k+1:Nat)∧get l 20=fv∧get l 21=I fr.length∧∃(i:Nat),(n+i=fr.length∧sM fr (ss.map (·.l)) (k+1)=sM (fr.drop i) (ss.map (·.l)) (k+1))∧get l 22=I i∧St prog H H' []) fr.length ?_ ?_
 ·simp(disch:=omega) only[RB,RC,simprocAttr,hn,g0,g1,g2]
  exact⟨0,⟨by omega,rfl⟩,rfl,(sR H)⟩
 rintro n l H1⟨hn,g0,g1,g2,g20,g21,i,⟨hi,hh⟩,g22,hS1⟩
 simp(disch:=omega) only[↓RA,RB,simprocAttr,hn,g21,g22]
 refine jA (fun q1=> ?_) (fun q1=> ?_)
 ·have hdr:fr.drop i=jB fr i::fr.drop (i+1):=qB fr i (by omega)
  rw[hdr,uZ _ _ hne]at hh
  simp(disch:=omega) only[↓RA,RZ,simprocAttr,hn,g20,g22,(hS1.sl hf).idx,(hS1.sl hf).ae,Ctl.cells,q1]
  refine hS1.eNew 3 [I 0,I 0,I 0] rfl rfl rfl a4N fun A1 H2 hS2=> ?_
  simp only[RT]at hS2
  simp(disch:=omega) only[↓RA,RZ,simprocAttr,hn,q1]
  refine hS2.aa 0 rfl [I (jB fr i).kind,I (jB fr i).dv,I (jB fr i).ix] rfl rfl a4N (by simp) fun H3 hS3=> ?_
  simp only[RT]at hS3
  simp(disch:=omega) only[↓RA,RZ,simprocAttr,hn,g0,(hS3.sl hs).len,q1]
  have hS4:=hS3.nil 0
  simp only[RT]at hS4
  refine Wp.ak (fun n l H'=>l.length=59∧get l 0=sv∧get l 1=fv∧get l 2=I (k+1:Nat)∧get l 8=I i∧get l 9=(ptr A1 0 3)∧get l 20=fv∧get l 21=I fr.length∧get l 22=I i∧get l 27=sv∧get l 28=I ss.length∧∃(j:Nat)(ow:Value),(n+j=ss.length)∧get l 29=I j∧get l 10=ow∧St prog H H' [⟨ptr A1 0 3,0,[I (jB fr i).kind,I (jB fr i).dv,I (jB fr i).ix]⟩,⟨ow,1,((ss.take j).filter fun q=> !decide (jB fr i∈q.l)).flatMap Qv.cells⟩]) ss.length ?_ ?_
  ·simp(disch:=omega) only[RB,RC,simprocAttr,hn,g0,g1,g2,g20,g21,g22]
   exact⟨0,.slice none 0 0,by omega,rfl,rfl,hS4⟩
  rintro n l H4⟨hn,g0,g1,g2,g8,g9,g20,g21,g22,g27,g28,j,ow,hj,g29,wW,hS5⟩
  simp(disch:=omega) only[↓RA,RB,simprocAttr,hn,g28,g29]
  refine jA (fun q2=> ?_) (fun q2=> ?_)
  ·have hjm:jB ss j∈ss:=jE (by omega)
   have hts:=a1L ss j (by omega)
   simp(disch:=omega) only[↓RA,RZ,simprocAttr,hn,g9,g27,g29,(hS5.sl hs).idx,(hS5.sl hs).ld,Qv.cells,hS5.ae 0 rfl,q2]
   refine hS5.cF (c3p (jB ss j).v (jB ss j).l (hS5.sl (hq _ hjm)) (hql _ hjm) (jB fr i)) fun H5 hS6=> ?_
   simp(disch:=omega) only[↓RA,RZ,simprocAttr,hn,q2]
   refine kA (fun q3=> ?_) (fun q3=> ?_)
   ·have hfl2:(((ss.take j).filter fun q=> !decide (jB fr i∈q.l)).flatMap Qv.cells).length≤ss.length:=by
     rw[jJ (n:=1) (cel:=Qv.cells) (fun _=>rfl),iI]
     exact dZ (fy _ _) (by rw[fQ];omega)
    simp(disch:=omega) only[↓RA,RZ,simprocAttr,hn,wW,q2,q3]
    refine hS6.aj [(jB ss j).v] b4n c5F rfl rfl (by first|(simp[(hS6.sl (hq (jB ss j) (jE (by omega)))).cells.1];done)|simp[Value.cells,(hS6.sl (hq (jB ss j) (jE (by omega)))).cells.1]) (by first|(simp[(hS6.sl (hq (jB ss j) (jE (by omega)))).cells.1];done)|simp[Value.cells,(hS6.sl (hq (jB ss j) (jE (by omega)))).cells.1]) (by simp[(hS6.sl (hq (jB ss j) (jE (by omega)))).cells.2.1]) (by decide) (by decide) fun w1 H6 hS7=> ?_
    simp only[RT]at hS7
    simp(disch:=omega) only[↓RA,RZ,simprocAttr,hn,q2,q3]
    refine hS7.aq 1 rfl (hS7.rd 2 rfl) b4n (by simp only[eL,eT];omega) fun w2 H7 hS8=> ?_
    simp only[RT]at hS8
    simp(disch:=omega) only[↓RA,RZ,simprocAttr,hn,g0,g1,g2,g8,g9,g20,g21,g22,g27,g28,g29,q2,q3]
    refine⟨n-1,by omega,j+1,w2,by omega,by simp,rfl,?_⟩
    rw[hts,fJ,dV,show([jB ss j].filter fun q=> !decide (jB fr i∈q.l))=[jB ss j]from by simp at q3 ⊢;exact q3]
    exact hS8.pick [0,1] (by decide) rfl
   simp(disch:=omega) only[↓RA,RZ,simprocAttr,hn,g0,g1,g2,g8,g9,g20,g21,g22,g27,g28,g29,wW,q2,q3]
   refine⟨n-1,by omega,j+1,ow,by omega,by simp,rfl,?_⟩
   rw[hts,fJ,dV,show([jB ss j].filter fun q=> !decide (jB fr i∈q.l))=[]from by simp at q3 ⊢;exact q3,fw,dO]
   exact hS6
  have hjj:j=ss.length:=by omega
  subst hjj
  rw[eS]at hS5
  obtain⟨ss2,hss2⟩:∃l,l=ss.filter fun q=> !decide (jB fr i∈q.l):=⟨_,rfl⟩
  have hmap:ss2.map (·.l)=(ss.map (·.l)).filter fun y=> !decide (jB fr i∈y):=by rw[hss2,List.filter_map];rfl
  have hmem:∀q∈ss2,q∈ss:=fun q h=>by rw[hss2]at h;exact(eY.1 h).1
  have hsl2:ss2.length≤ss.length:=by rw[hss2];exact fy _ _
  rw[←hss2]at hS5
  obtain⟨O,hO⟩:∃O,O=sM (fr.drop (i+1)) (ss2.map (·.l)) k:=⟨_,rfl⟩
  rw[←hmap,←hO]at hh
  have hI:=ih (lP fv 3 (i+1) (fr.length-(i+1))) (fr.drop (i+1)) (by rw[fo];omega) ((hS5.sl hf).cg (i+1) (by omega) (by omega)) ow ss2 (hS5.az 1 rfl (fun _=>rfl)) (fun q h=>hS5.sl (hq q (hmem q h))) k (by omega) (by rw[fo];omega) (by omega) (fun q h=>hql q (hmem q h))
  rw[←hO]at hI
  have hti:((i:Int)+1).toNat=i+1:=by omega
  have htl:((fr.length:Int)-((i:Int)+1)).toNat=fr.length-(i+1):=by omega
  have hwm:IntKind.wrap .i64 (((k+1:Nat):Int)-1)=(k:Int):=by
   rw[show(((k+1:Nat):Int)-1)=(k:Int)from by omega]
   exact a3J (a:=(k:Int)) (by omega) (by omega)
  simp(disch:=omega) only[↓RA,RZ,simprocAttr,hn,g1,g8,wW,q2]
  simp(disch:=omega) only[↓RA,RZ,simprocAttr,hn,g2,(hS5.sl hf).aF,q2,hti,htl,hwm]
  refine jG (hI) ?_
  rintro r H8⟨ov,rfl,hT2⟩
  have hS9:=hS5.trans hT2
  simp only[RT]at hS9
  simp(disch:=omega) only[↓RA,RZ,simprocAttr,hn,q2]
  refine kA (fun q4=> ?_) (fun q4=> ?_)
  ·obtain⟨l,hl⟩:∃l,O=some l:=fg.1 q4
   have hll:(oC (O.getD [])).length≤3*fr.length:=by
    rw[nA,hl]
    have:=b9J _ _ _ (hO.symm.trans hl)
    rw[fo]at this
    simp only[eE]
    omega
   simp(disch:=omega) only[↓RA,RZ,simprocAttr,hn,g9,hS9.ae 0 rfl,q2,q4]
   refine hS9.aj [I (jB fr i).kind,I (jB fr i).dv,I (jB fr i).ix] b0C c2K rfl rfl (by simp[Value.cells]) rfl rfl (by decide) (by decide) fun w3 H9 hS10=> ?_
   simp only[RT]at hS10
   simp(disch:=omega) only[↓RA,RZ,simprocAttr,hn,q2,q4]
   refine hS10.aq 3 rfl (hS10.rd 2 rfl) b0C (by simp only[eL,eT];omega) fun w4 H10 hS11=> ?_
   simp only[RT]at hS11
   simp(disch:=omega) only[↓RA,RZ,simprocAttr,hn,c3m,q2,q4]
   rw[hl]at hh
   rw[hl]at hS11
   have hnt:kF w4=true:=(hS11.rd 3 rfl).bC
   rw[hh,if_pos hnt]
   exact⟨w4,rfl,hS11.pick [3] (by decide) rfl⟩
  have hl:O=none:=by
   cases O with
   | none=>rfl
   | some l=>simp at q4
  rw[hl]at hh
  simp(disch:=omega) only[↓RA,RZ,simprocAttr,hn,g0,g1,g2,g20,g21,g22,q2,q4]
  exact⟨fr.length-(i+1),by omega,i+1,⟨by omega,hh⟩,by simp,hS9.forget⟩
 have hii:i=fr.length:=by omega
 subst hii
 rw[iR,a4e hne]at hh
 simp(disch:=omega) only[↓RA,RZ,simprocAttr,hn,c3m,q1]
 rw[hh]
 exact⟨.slice none 0 0,rfl,hS1.nil 2⟩
def oE(s:Sn):List Ctl:=dd (xK ((nD s).flatMap mB))
def xY(s:Sn):Nat→Option (List Ctl):=sM (oE s) ((nD s).map mB)
def tR(s:Sn):Int:=if qM s≠0 then qM s else if 20<(oE s).length then 4 else 0
def wC(s:Sn):Option (List Ctl):=if tR s≠0∨nD s=[]then none else(List.range ((oE s).length+1)).findSome? (xY s)
theorem b8M(s:Sn):(oE s).length≤((nD s).flatMap mB).length:=by
 have h:=c0a (xK ((nD s).flatMap mB))
 rw[a3C]at h
 exact h
theorem a2n{s:Sn}(n:Nat)(h:(oE s).length≤n):(xY s n).isSome=true:=by
 refine b5P _ _ _ h fun x hx=> ?_
 obtain⟨p,hp,rfl⟩:=dP.1 hx
 refine⟨⟨1,p.tc.1,p.stop⟩,?_,sS.2 (.inl rfl)⟩
 unfold oE
 rw[a1d,eM]
 exact⟨p,hp,sS.2 (.inl rfl)⟩
theorem b4O{s:Sn}{n:Nat}{l:List Ctl}(hE:tR s=0)(hne:nD s≠[])(h:xY s n=some l)(h0:∀m,m<n→xY s m=none):wC s=some l:=by
 unfold wC
 rw[if_neg (by rintro(h|h);(· exact h hE);(· exact hne h))]
 have hn:n≤(oE s).length:=by
  rcases gQ (oE s).length n with h1|h1
  ·have:=a2n (s:=s) (oE s).length (dG _)
   rw[h0 _ h1]at this
   cases this
  ·exact h1
 rw[show(oE s).length+1=n+(1+((oE s).length-n))from by omega,List.range_add,List.findSome?_append]
 have h1:(List.range n).findSome? (xY s)=none:=by
  rw[List.findSome?_eq_none_iff]
  intro m hm
  exact h0 m (dS.1 hm)
 rw[h1,Nat.add_comm 1,List.range_succ_eq_map]
 simp[h]
theorem a4w(hG:Glob gH H)(s:Sn)(hs:s.In H):Fn prog 26 [s.v] H fun r H'=>∃ov,r=.tuple #[ov,.bool (wC s).isSome,I (tR s)]∧St prog H H' [⟨ov,3,oC ((wC s).getD [])⟩]:=by
 refine .aN func26 rfl (by kernel_rfl) (m:=60) rfl fun l hn g0=> ?_
 simp(disch:=omega) only[↓RA,RB,simprocAttr,g0]
 refine(sR H).eNew 10 [(.string s.o.name),s.o.rv,s.o.dv,s.o.cv,s.sv,(.int .u64 s.rg.cpl),(.int .u64 s.rg.off),s.kv,I s.p.1,I s.p.2] rfl rfl (by simp[OC,((sR H).sl hs.o.1).cells.2.1,((sR H).sl hs.o.2.2.1).cells.2.1,((sR H).sl hs.o.2.2.2.2.1).cells.2.1,((sR H).sl hs.rg.1).cells.2.1,((sR H).sl hs.ks.sl).cells.2.1]) pS fun A1 H1 hS1=> ?_
 simp only[RT]at hS1
 simp(disch:=omega) only[↓RA,RZ,simprocAttr,hn,hS1.ae 0 rfl]
 refine jG (b4q (hS1.gl hG) s (hs.ag hS1)) ?_
 rintro r H2⟨ov,es,rfl,hQ,hN,hT1⟩
 have hS2:=hS1.trans hT1
 simp only[RT]at hS2
 have hel:es.length≤500:=by
  have:=b4G s
  rw[←hQ,dU]at this
  exact this
 have hov:Sl 6 Rn.cells H2 ov es:=hS2.az 1 rfl (fun _=>rfl)
 have hin:∀e∈es,e.In H2:=fun e he=>⟨(hN e he).1.1,by have:=(hN e he).2;omega⟩
 have hcl:∀e∈es,e.cps.length<1000000:=fun e he=>by have:=(hN e he).2;omega
 have hul:∀e∈es,(mB e.rp).length≤1025:=fun e he=>by
  have h1:=b7d e.rp
  have h2:=(hN e he).2
  have h3:e.rp.cps=e.cps:=rfl
  rw[h3]at h1
  omega
 simp(disch:=omega) only[↓RA,RZ,simprocAttr,hn]
 refine jL (fun h1=> ?_) (fun h1=> ?_)
 ·have hE:tR s=qM s:=by unfold tR;rw[if_pos h1]
  have hz:wC s=none:=by unfold wC;rw[if_pos (.inl (by rw[hE];exact h1))]
  simp(disch:=omega) only[↓RA,RZ,simprocAttr,hn,c3n,h1]
  rw[hz,hE]
  exact⟨.slice none 0 0,rfl,(hS2.forget).nil 2⟩
 have h1:qM s=0:=dX.1 h1
 simp(disch:=omega) only[↓RA,RZ,simprocAttr,hn,(hS2.az 1 rfl (fun _=>rfl)).len,h1]
 refine jA (fun h2=> ?_) (fun h2=> ?_)
 ·have hes:es=[]:=eG.1 (by omega)
  have hr:nD s=[]:=by rw[←hQ,hes];rfl
  have hz:wC s=none:=by unfold wC;rw[if_pos (.inr hr)]
  have hE:tR s=0:=by unfold tR oE xK;rw[if_neg (by rw[h1];decide),hr];simp[dd,wS]
  simp(disch:=omega) only[↓RA,RZ,simprocAttr,hn,c3n,h1,h2]
  rw[hz,hE]
  exact⟨.slice none 0 0,rfl,(hS2.forget).nil 2⟩
 have hne:nD s≠[]:=by
  intro e
  rw[←hQ]at e
  exact h2 (by rw[iS.1 e];rfl)
 have hpre:=hS2
 simp(disch:=omega) only[↓RA,RZ,simprocAttr,hn,((sR H2).sl hov).len,h1,h2]
 have hS3:=(sR H2).nil 0
 simp only[RT]at hS3
 have hS4:=hS3.nil 2
 simp only[RT]at hS4
 refine Wp.ak (fun n l H'=>l.length=60∧get l 2=(.slice none 0 0)∧get l 3=(.bool false)∧get l 4=I (qM s)∧get l 26=ov∧get l 27=I es.length∧∃(j:Nat)(sw:Value)(qs:List Qv)(aw:Value),(n+j=es.length∧qs.map (·.l)=(es.take j).map (fun e=>mB e.rp)∧(∀q∈qs,Slx 3 Ctl.cells H' (nb [sw,aw]) q.v q.l))∧get l 28=I j∧get l 6=sw∧get l 7=aw∧St prog H2 H' [⟨sw,1,qs.flatMap Qv.cells⟩,⟨aw,3,oC ((es.take j).flatMap fun e=>mB e.rp)⟩]) es.length ?_ ?_
 ·simp(disch:=omega) only[RB,RC,simprocAttr,hn,h1]
  exact⟨0,.slice none 0 0,[],.slice none 0 0,⟨by omega,rfl,fun q hq=>absurd hq eO⟩,rfl,rfl,rfl,hS4⟩
 rintro n l H3⟨hn,g2,g3,g4,g26,g27,j,sw,qs,aw,⟨hj,hqm,hqx⟩,g28,g6,g7,hS5⟩
 have hql:qs.length=j:=by
  have:=congrArg List.length hqm
  rw[dU,dU,fQ]at this
  omega
 have hal:((es.take j).flatMap fun e=>mB e.rp).length≤j*1025:=by
  rw[List.length_flatMap]
  have h3:∀l:List Rn,(∀e∈l,e∈es)→(l.map fun e=>(mB e.rp).length).sum≤l.length*1025:=by
   intro l
   induction l with
   | nil=>intro _;simp
   | cons e l ih=>
     intro h
     have h1:=hul e (h e (by simp))
     have h2:=ih fun x hx=>h x (by simp[hx])
     simp only[eN,List.sum_cons,eL]
     omega
  refine dZ (h3 _ fun e he=>List.mem_of_mem_take he) ?_
  rw[fQ]
  omega
 simp(disch:=omega) only[↓RA,RB,simprocAttr,hn,g27,g28]
 refine jA (fun p1=> ?_) (fun p1=> ?_)
 ·have hm:jB es j∈es:=jE (by omega)
  have hpre1:=hS5
  obtain⟨B1,hBB1,hS6⟩:=hS5.aA (os:=[⟨sw,1,_⟩,⟨aw,3,_⟩])
  have hkp:∀{H1 os},St prog B1 H1 os→∀q∈qs,Slx 3 Ctl.cells H1 (nb (os.map (·.v))) q.v q.l:=fun h q hq=>(hqx q hq).step (h.kept hBB1)
  simp(disch:=omega) only[↓RA,RZ,simprocAttr,hn,g26,g28,((hS5.ab hBB1 hS6).sl hov).idx,((hS5.ab hBB1 hS6).sl hov).ae,Rn.cells,p1]
  refine hS6.eNew 6 [I 0,I 0,(.slice none 0 0),I 0,I 0,I 0] rfl rfl rfl pV fun A2 H4 hS7=> ?_
  simp only[RT]at hS7
  simp(disch:=omega) only[↓RA,RZ,simprocAttr,hn,p1]
  refine hS7.aa 2 rfl [I (jB es j).pl.1,I (jB es j).pl.2,(jB es j).cv,I (jB es j).tc.1,I (jB es j).tc.2,I (jB es j).stop] rfl (by simp[OC,((hS5.ab hBB1 hS7).sl (hin (jB es j) (jE (by omega))).1).cells.2.1]) pV (by simp) fun H5 hS8=> ?_
  simp only[RT]at hS8
  simp(disch:=omega) only[↓RA,RZ,simprocAttr,hn,g6,hS8.ae 2 rfl,p1]
  have hSb:=hS8
  refine jG (a8I (jB es j) ((hin _ hm).ag (hS5.ab hBB1 hS8)) (hcl _ hm)) ?_
  rintro r H6⟨hx1,hT2⟩
  have hS9:=hS8.trans hT2
  simp only[RT]at hS9
  obtain⟨q1,rfl⟩:∃w,w=r:=⟨r,rfl⟩
  have hy1:=hx1.step hSb.bq
  have hpre2:=hS9
  obtain⟨B2,hBB2,hS10⟩:=hS9.aA (os:=[⟨sw,1,_⟩,⟨aw,3,_⟩,⟨ptr A2 0 6,0,_⟩])
  simp(disch:=omega) only[↓RA,RZ,simprocAttr,hn,p1]
  refine hS10.aj [q1] b4n c5F rfl rfl (by first|(simp[hx1.1.cells.1];done)|simp[Value.cells,hx1.1.cells.1]) (by first|(simp[hx1.1.cells.1];done)|simp[Value.cells,hx1.1.cells.1]) (by simp[hx1.1.cells.2.1]) (by decide) (by decide) fun w1 H7 hS11=> ?_
  simp only[RT]at hS11
  simp(disch:=omega) only[↓RA,RZ,simprocAttr,hn,p1]
  refine hS11.aq 0 rfl (hS11.rd 3 rfl) b4n (by rw[jJ (n:=1) (cel:=Qv.cells) (fun _=>rfl)];simp;omega) fun w2 H8 hS12=> ?_
  simp only[RT]at hS12
  simp(disch:=omega) only[↓RA,RZ,simprocAttr,hn,g7,hS12.ae 2 rfl,p1]
  refine jG (a8I (jB es j) ((hin _ hm).ag (hS5.ab hBB1 (hS9.ab hBB2 hS12))) (hcl _ hm)) ?_
  rintro r H9⟨hx2,hT3⟩
  have hS13:=hS12.trans hT3
  simp only[RT]at hS13
  obtain⟨q2,rfl⟩:∃w,w=r:=⟨r,rfl⟩
  have hu1:=hul _ hm
  simp(disch:=omega) only[↓RA,RZ,simprocAttr,hn,p1]
  refine hS13.aq 1 rfl hx2.1.rd b0C (by rw[nA,nA];omega) fun w3 H10 hS14=> ?_
  simp only[RT]at hS14
  simp(disch:=omega) only[↓RA,RZ,simprocAttr,hn,g2,g3,g4,g26,g27,g28,p1]
  refine⟨n-1,by omega,j+1,w2,qs++[⟨q1,mB (jB es j).rp⟩],w3,⟨by omega,?_,fun q hq=> ?_⟩,by simp,rfl,rfl,?_⟩
  ·rw[a1L es j (by omega),dY,dY,hqm]
   rfl
  ·rcases eo.1 hq with hq|hq
   ·exact(hkp (hS9.ab hBB2 hS14) q hq).bz (by simp)
   ·rw[dW]at hq
    subst hq
    exact(hy1.step (hS14.kept hBB2)).bz (by simp)
  ·rw[a1L es j (by omega)]
   simp only[dV,ec,fw,dO]
   exact(hS5.ab hBB1 (hS9.ab hBB2 hS14)).pick [0,1] (by decide) rfl
 have hjj:j=es.length:=by omega
 subst hjj
 rw[eS]at hqm hal
 have hfm:(es.flatMap fun e=>mB e.rp)=(nD s).flatMap mB:=by rw[←hQ,List.flatMap_map]
 have hqm2:qs.map (·.l)=(nD s).map mB:=by rw[hqm,←hQ,iM];rfl
 rw[hfm]at hal
 rw[eS,hfm]at hS5
 have hpre3:=hS5
 obtain⟨B3,hBB3,hS15⟩:=hS5.aA (os:=[⟨sw,1,_⟩,⟨aw,3,_⟩])
 have hks:∀{H1 os},St prog B3 H1 os→∀q∈qs,Slx 3 Ctl.cells H1 (nb (os.map (·.v))) q.v q.l:=fun h q hq=>(hqx q hq).step (h.kept hBB3)
 simp(disch:=omega) only[↓RA,RZ,simprocAttr,hn,g7,p1]
 refine b0R hS15 1 rfl (by omega) fun HS hSS=> ?_
 simp only[List.set_cons_succ,gV]at hSS
 simp(disch:=omega) only[↓RA,RZ,simprocAttr,hn,g7,p1]
 have hM1:=hSS.pick (os':=[⟨aw,3,_⟩]) [1] (by decide) rfl
 have hR1:=hSS.pick (os':=[⟨aw,3,_⟩,⟨sw,1,_⟩]) [1,0] (by decide) rfl
 refine jG (c1x hM1.aR (by rw[a3C];omega)) ?_
 rintro r H11⟨rest,rfl,hT4⟩
 have hS16:=hR1.frame hT4
 simp only[RT]at hS16
 simp(disch:=omega) only[↓RA,RZ,simprocAttr,hn,p1]
 have hqs:∀q∈qs,q.In H11:=fun q hq=>(hks hS16 q hq).1
 have haw:Sl 3 Ctl.cells H11 (lP aw 3 0 (oE s).length) (oE s):=b2U (hS16.rd 0 rfl)
 have hsw:Sl 1 Qv.cells H11 sw qs:=hS16.az 1 rfl (fun _=>rfl)
 have hpre4:=(hS5.ab hBB3 hS16)
 have hanl:=b8M s
 have hany:dd (xK ((nD s).flatMap mB))=oE s:=rfl
 simp(disch:=omega) only[↓RA,RZ,simprocAttr,hn,((sR H11).sl haw).len,p1,hany]
 refine jA (fun p3=> ?_) (fun p3=> ?_)
 ·have hE:tR s=4:=by unfold tR;rw[if_neg (by rw[h1];decide),if_pos (by omega)]
  have hz:wC s=none:=by unfold wC;rw[if_pos (.inl (by rw[hE];decide))]
  simp(disch:=omega) only[↓RA,RZ,simprocAttr,hn,c3n,p1,hany,p3]
  rw[hz,hE]
  exact⟨.slice none 0 0,rfl,(hpre.forget.trans (hpre4.forget.trans (sR H11))).nil 2⟩
 have hE:tR s=0:=by unfold tR;rw[if_neg (by rw[h1];decide),if_neg (by omega)]
 have hmn:(nD s).map mB≠[]:=fun e=>hne (iS.1 e)
 have hqle:∀q∈qs,q.l.length<1000000000:=fun q hq=>by
  have h3:q.l∈qs.map (·.l):=gP hq
  rw[hqm]at h3
  obtain⟨e,he,h4⟩:=dP.1 h3
  have:=hul e he
  rw[←h4]
  omega
 have hqsl:qs.length≤500:=by
  have:=congrArg List.length hqm2
  have h3:=b4G s
  rw[dU,dU]at this
  omega
 simp(disch:=omega) only[↓RA,RZ,simprocAttr,p1,hany,p3]
 refine Wp.ak (fun n l H'=>l.length=60∧get l 6=sw∧get l 7=(lP aw 3 0 (oE s).length)∧∃(k:Nat),(0<k∧n+k=(oE s).length+2∧∀m,m<k→xY s m=none)∧get l 10=I k∧St prog H11 H' []) ((oE s).length+1) ?_ ?_
 ·simp(disch:=omega) only[RB,RC,simprocAttr,hn,g6]
  exact⟨1,⟨by omega,by omega,fun m hm=>by rw[show m=0 from by omega];exact yQ _ hmn⟩,rfl,(sR H11)⟩
 rintro n l H12⟨hn,g6,g7,k,⟨hk0,hk,hkn⟩,wW,hS17⟩
 obtain⟨O,hO⟩:∃O,O=xY s k:=⟨_,rfl⟩
 have hI:=c7I ((oE s).length+1) (lP aw 3 0 (oE s).length) (oE s) (by omega) (hS17.sl haw) sw qs (hS17.sl hsw) (fun q hq=>hS17.sl (hqs q hq)) k (by omega) (by omega) (by omega) hqle
 rw[hqm2,show sM (oE s) ((nD s).map mB) k=O from hO.symm]at hI
 simp(disch:=omega) only[↓RA,RZ,simprocAttr,hn,g6,g7,wW]
 refine jG (hI) ?_
 rintro r H13⟨ov2,rfl,hT5⟩
 have hS18:=hS17.trans hT5
 simp only[RT]at hS18
 simp(disch:=omega) only[↓RA,RB,simprocAttr,hn]
 refine kA (fun p4=> ?_) (fun p4=> ?_)
 ·obtain⟨l,hl⟩:∃l,O=some l:=fg.1 p4
  have hsil:=b4O hE hne (hO.symm.trans hl) hkn
  have hnt:kF ov2=true:=(hS18.rd 0 rfl).bC
  simp(disch:=omega) only[↓RA,RZ,simprocAttr,hn,c3n,p4,hnt]
  rw[hl]at hS18
  rw[hsil,hE]
  exact⟨ov2,rfl,hpre.forget.trans (hpre4.forget.trans hS18)⟩
 have hl:O=none:=by
  cases O with
  | none=>rfl
  | some l=>simp at p4
 have hkl:k<(oE s).length:=by
  rcases gQ k (oE s).length with h|h
  ·exact h
  ·have:=a2n k h
   rw[←hO,hl]at this
   cases this
 simp(disch:=omega) only[↓RA,RZ,simprocAttr,hn,g6,g7,wW,p4]
 refine⟨n-1,by omega,k+1,⟨by omega,by omega,fun m hm=> ?_⟩,by simp,hS18.forget⟩
 rcases dK.1 hm with h|h
 ·exact hkn m h
 ·rw[h,←hO,hl]
end Go.Ds
namespace Go.Ds
open Go.Proofs Go.Proofs.Tryz
set_option maxRecDepth 100000
def d0p:List (List UInt8):=[[67],[67,35],[68],[68,35],[69],[70],[70,35],[71],[71,35],[65],[65,35],[66]]
def nmL(k:Nat):List UInt8:=d0p.getD (k%12) []++if k<12 then[45,49]else[(47+k/12).toUInt8]
def nmB(k:Nat):ByteArray:=⟨(nmL k).toArray⟩
def b4m(v:Value)(k:Nat):Bool:=match v with
 | .tuple vs=>match vs.toList with
   | [.string b,.int .i64 m]=>decide (m=0)&&decide (b.data.toList=nmL k)
   | _=>false
 | _=>false
def b8k(r:Rs)(k:Nat):Bool:=match r with
 | .ok v _=>b4m v k
 | .th v _=>b4m v k
 | _=>false
noncomputable def c2Z (ps:List Nat):Bool:=uX prog [76,112,114,115,158,188,201,203,204,202,230,231,232,140] .e fun T=>ps.all fun x=>b8k (nW T (exF prog T 4000) [] (lU 76) [.int .i64 x] gH) x
theorem d0i:c2Z (List.range 128)=true:=by kernel_rfl
def exA:ByteArray:=⟨#[71,114,101,97,116,32,69,50]⟩
def exB:ByteArray:=⟨#[67,104,111,105,114,95,116,111,95,71,114,101,97,116,32,116,111,32,67,104,111,105,114,32,69,50]⟩
def exJ:List UInt8:=[71,114,101,97,116,32,69,50,44,32,67,104,111,105,114,95,116,111,95,71,114,101,97,116,32,116,111,32,67,104,111,105,114,32,69,50]
def a9P:ByteArray:=⟨#[44,32]⟩
def b1N(r:Rs):Bool:=match r with
 | .ok (.string b) _=>decide (b.data.toList=exJ)
 | .th (.string b) _=>decide (b.data.toList=exJ)
 | _=>false
noncomputable def jH (ty:TypeId):Heap:=Heap.nil.cons (.cells [.string exA,.string exB] ty false 0 2)
noncomputable def b4e (ty:TypeId):Bool:=uX prog [57,100,101,102,141,142] .e fun T=>b1N (nW T (exF prog T 4000) [] (lU 57) [.slice (some ⟨0,0,some 2⟩) 2 1,.string a9P] (jH ty))
theorem d0B(ty:TypeId):b4e ty=true:=by kernel_rfl
end Go.Ds
namespace Go.Ds
open Go.Proofs Go.Proofs.Tryz
open Go.Shelf Go.RowKit Go.Lib Go.Sort
section
variable {P:Program} {ρ ρ0:Rho} {H H0:Heap} {w W:World}
theorem c3M{α:Type}{f:α→Value}(hsc0:∀x,jZ (f x)=true)(h0:InW P ρ0 H0 W)(hr:HRel P ρ H w){cv cv':Value}{xs:List α}(hs:Sl 1 (one f) H cv xs)(hv:C1 ρ cv cv')(hne:∀A,kX cv=some A→∀e p,ρ A e=some p→W.heap[p.b]? =w.heap[p.b]?):
 xs≠[]→∃ρ1 cv1 ty n,InW P ρ1 (H0.cons (.cells (xs.flatMap (one f)) ty false 0 2)) W∧n=xs.length∧cv1=.slice (some ⟨H0.length,0,some (xs.flatMap (one f)).length⟩) n 1∧C1 ρ1 cv1 cv':=by
 intro hx0
 have hxl:(xs.flatMap (one f)).length=xs.length:=by rw[nF,dU]
 have hV:V ρ cv cv':=.v1 (.c1 hv)
 rcases hs.rd with⟨rfl,h2⟩|⟨A,i,e,row,ty,rw',lo,ver,n,hg,hlo,hle,hfit,htk,hn,rfl⟩
 ·rcases hV.ay with⟨_,_,_,rfl⟩|⟨A,j,e,p,c',a,hh,_⟩
  ·exact absurd (eG.1 (by rw[←hxl,h2];rfl)) hx0
  ·cases hh
 ·obtain⟨p,c',a,hp,h00,hin,hnc,hac,hpk,rfl⟩:=hV.av
  obtain⟨_,hk,hfit2,cur,ty',fr,hw,hsz,hfr,hcell⟩:=(hr.cells _ _ _ _ _ _ hg).2 _ _ hp
  have hWp:W.heap[p.b]? =w.heap[p.b]?:=hne A rfl _ _ hp
  have hrow:=h0.row ⟨p.b,p.d+i,p.sz,p.k⟩ (cur:=cur) (t':=ty') (fr:=fr) (by rw[hWp];exact hw) (ty:=ty) hk hsz (xs.flatMap (one f)) 2 (fun h=>by cases h) (by show((xs.flatMap (one f)).length:Int)+(p.d+i)≤p.sz;omega) (fun j c hj hj0 hc=>by
   have h1:row[i+j]? =some c:=by
    have h2:((row.drop i).take (xs.flatMap (one f)).length)[j]? =some c:=by rw[htk];exact hc
    rw[eJ hj,ed]at h2
    exact h2
   obtain⟨c2,h3,h4⟩:=hcell hlo (i+j) c (by omega) (by omega) h1
   have hsc:jZ c=true:=by
    rw[nF,ft]at hc
    obtain⟨z,_,rfl⟩:=dJ.1 hc
    exact hsc0 z
   have:=h4.ar hsc
   subst this
   refine⟨c2,?_,.c0 (.flat hsc)⟩
   have hat:Place.at ⟨p.b,p.d+i,p.sz,p.k⟩ j=p.at (i+j):=by unfold Place.at;simp only;omega
   rw[hat]
   exact h3)
  obtain⟨h1,h2⟩:=hrow
  refine⟨_,.slice (some ⟨H0.length,0,some (xs.flatMap (one f)).length⟩) n 1,ty,n,h1,by omega,rfl,?_⟩
  have hq:(ρ0.put H0.length (xs.flatMap (one f)).length ⟨p.b,p.d+i,p.sz,p.k⟩) H0.length (xs.flatMap (one f)).length=some ⟨p.b,p.d+i,p.sz,p.k⟩:=Rho.al _ _ _ _
  have e1:n*p.k=n:=by rw[←hpk,iI]
  have e2:c'*p.k=c':=by rw[←hpk,iI]
  have hk1:p.k=1:=hpk.symm
  have:=C0.slice (n:=n) (c':=c') (a:=a) hq (i:=0) (by show(0:Int)≤((0:Nat):Int)+(p.d+i);omega) (by show 0+n*p.k≤_;rw[e1];omega) ⟨hnc.1,by show _≤0+c'*p.k;rw[e2];have:=hnc.1;omega⟩ (by
   rcases hac with⟨h3,h4⟩|h3
   ·refine .inl ⟨?_,?_⟩
    ·rw[h3]
     congr 1
     unfold Place.at
     simp only
     omega
    ·show Place.at ⟨p.b,p.d+i,p.sz,p.k⟩ 0+c'*p.k≤p.sz
     have:Place.at ⟨p.b,p.d+i,p.sz,p.k⟩ 0=p.at i:=by unfold Place.at;simp only;omega
     rw[this];exact h4
   ·exact .inr h3)
  simp only[hk1]at this ⊢
  exact .c0 this
theorem CallOk.dp{f:FuncId}{args:List Value}{v:Value}(hv:flat v=true)(h:∀{ρ:Rho}{w:World}{args':Array Value},HRel P ρ H w→All2 (V ρ) args args'.toList→∃ρ1 H1 args1 H2,InW P ρ1 H1 w∧All2 (V ρ1) args1 args'.toList∧CallOk P f args1 H1 v H2):CallOk P f args H v H:=by
 intro k ρ w args' hr ha
 obtain⟨ρ1,H1,args1,H2,hI,ha1,hc⟩:=h hr ha
 refine(hc k ρ1 w args' hI.rel ha1).mono ?_
 rintro e w'⟨ρ',v',rfl,hp,hv'⟩
 have hframe:∀b,b<w.heap.size→w'.heap[b]? =w.heap[b]?:=fun b hb=>(hp.frame b hb (hI.shut b)).1
 refine⟨ρ,v',rfl,?_,?_⟩
 ·exact{
   le:=.refl ρ
   rel:=hr.other hp.size fun A e p hq=>hframe _ (hr.dom _ _ _ hq).2
   len:=dG _
   size:=hp.size
   os:=hp.os
   tape:=hp.tape
   output:=hp.output
   frame:=fun b hb hw=>⟨hframe b hb,hw⟩
   loops:=fun b r h=>⟨r,by rw[hframe b (nK h),h]⟩
   img:=fun _ _ h=>h}
 ·rw[hv'.ai hv]
  exact .of_flat hv
end
variable {H:Heap}
theorem b0q{v:Value}{k:Nat}(h:b4m v k=true):v=.tuple #[.string (nmB k),I 0]:=by
 unfold b4m at h
 split at h
 ·rename_i vs
  split at h
  ·rename_i b m e
   rw[dB,decide_eq_true_eq,decide_eq_true_eq]at h
   obtain⟨rfl,h⟩:=h
   have:b=nmB k:=by
    cases b with|mk d=>cases d with|mk l=>simp only at h;subst h;rfl
   rw[←this]
   congr 1
   exact iX e
  ·cases h
 ·cases h
theorem c4F(hG:Glob gH H)(k:Nat)(hk:k<128):Fn prog 76 [I k] H fun r H'=>r=.tuple #[.string (nmB k),I 0]∧St prog H H' []:=by
 obtain⟨T,hT,h⟩:=tA d0i
 have h:=h k (dS.2 hk)
 refine vD (fun x hx=>by rw[dW.1 hx];rfl) rfl ?_ hG
 unfold b8k at h
 split at h
 ·rename_i v H1 e
  rw[←b0q h]
  exact nS hT (.inl e)
 ·rename_i v H1 e
  rw[←b0q h]
  exact nS hT (.inr e)
 ·cases h
theorem enJ:pD prog 57:=⟨Tryz.f57,func57,by kernel_rfl,by kernel_rfl⟩
theorem c9t(ty:TypeId):∃H2,CallOk prog 57 [.slice (some ⟨0,0,some 2⟩) 2 1,.string a9P] (jH ty) (.string ⟨exJ.toArray⟩) H2:=by
 have h0:=d0B ty
 unfold b4e at h0
 obtain⟨T,hT,e⟩:=a8O (P:=prog) [57,100,101,102,141,142] .e (fun f g h=>by rw[yC]at h;cases h) (fun T=>b1N (nW T (exF prog T 4000) [] (lU 57) [.slice (some ⟨0,0,some 2⟩) 2 1,.string a9P] (jH ty)))
 rw[e]at h0
 unfold b1N at h0
 have key:∀b H1,(nW T (exF prog T 4000) [] (lU 57) [.slice (some ⟨0,0,some 2⟩) 2 1,.string a9P] (jH ty)).Is (.string b) H1→b.data.toList=exJ→∃H2,CallOk prog 57 [.slice (some ⟨0,0,some 2⟩) 2 1,.string a9P] (jH ty) (.string ⟨exJ.toArray⟩) H2:=fun b H1 hi hb=>by
  have e:b=⟨exJ.toArray⟩:=by
   cases b with|mk d=>cases d with|mk l=>simp only at hb;subst hb;rfl
  obtain⟨_,v,H2,h2,h3⟩:=(yH hT (b9v c5M hT 4000) (fun en hen=>by cases hen) rfl hi).1.fn
  rw[h3.1,e]at h2
  exact⟨H2,h2⟩
 split at h0
 ·rename_i b H1 e
  exact key b H1 (.inl e) (of_decide_eq_true h0)
 ·rename_i b H1 e
  exact key b H1 (.inr e) (of_decide_eq_true h0)
 ·cases h0
def b1P(xs:List ByteArray)(t:ByteArray):Prop:=∀(H:Heap)(v:Value),Sl 1 (one Value.string) H v xs→Fn prog 57 [v,.string a9P] H fun r H'=>r=.string t∧St prog H H' []
theorem c6F:b1P [exA,exB] ⟨exJ.toArray⟩:=by
 intro H v hv
 refine⟨enJ,_,H,CallOk.dp rfl ?_,rfl,St.refl _ _⟩
 intro ρ w args' hr ha
 obtain⟨l⟩:=args'
 match l,ha with
 | [x,y],⟨hx,hy,_⟩=>
   have hx1:C1 ρ v x:=by
    rcases hv.rd with⟨rfl,h⟩|⟨A,i,e,row,ty,rw',lo,ver,n,_,_,_,_,_,_,rfl⟩
    ·cases h
    ·cases hx with
     | v1 h=>cases h with
       | c1 h=>exact h
   obtain⟨ρ1,cv1,ty,n,hI,rfl,rfl,hc⟩:=c3M (P:=prog) (f:=Value.string) (fun _=>rfl) (InW.none w) hr hv hx1 (fun _ _ _ _ _=>rfl) (by simp)
   obtain⟨H2,h2⟩:=c9t ty
   have hye:y=.string a9P:=hy.ai rfl
   subst hye
   exact⟨ρ1,_,[.slice (some ⟨0,0,some 2⟩) 2 1,.string a9P],H2,hI,⟨.v1 (.c1 hc),.of_flat rfl,trivial⟩,h2⟩
end Go.Ds
namespace Go.Ds
open Go.Proofs Go.Proofs.Tryz
variable {H:Heap}
set_option maxRecDepth 10000
set_option maxHeartbeats 1000000
def spB:ByteArray:=⟨#[32]⟩
def toB:ByteArray:=⟨#[32,116,111,32]⟩
def c9L:ByteArray:=⟨#[58,32]⟩
def rW(s:Sn)(c:Ct):ByteArray:=(jB s.o.dvs c.1.toNat).name++spB++nmB c.2.toNat
def a4k(s:Sn)(cps:List Int)(l:List Ct)(i:Nat):ByteArray:=(jB s.o.cpls (jB cps i).toNat).name++toB++rW s (jB l i)
def a7f(s:Sn)(r:Rn):List ByteArray:=rW s r.pl::(List.range (mZ s r).1.length).map (a4k s r.cps (mZ s r).1)
def a5F(s:Sn)(r:Rn)(j:ByteArray):ByteArray:=j++c9L++(jB (jB s.o.dvs r.tc.1.toNat).stops r.stop.toNat).name
theorem a1D{n:ByteArray}(h:¬lO n=false):n.size≤32:=by
 have h:=iG _▸h
 unfold lO at h
 simp only[dB,decide_eq_true_eq]at h
 exact h.1.1.2
theorem Org.bJ{o:Org}(h:organE o=0){j:Nat}(hj:j<o.dvs.length):(jB o.dvs j).name.size≤32∧∀q,q<(jB o.dvs j).stops.length→(jB (jB o.dvs j).stops q).name.size≤32:=by
 unfold organE at h
 split at h
 ·omega
 split at h
 ·omega
 split at h
 ·rename_i hh;exact absurd h hh
 split at h
 ·omega
 split at h
 ·omega
 split at h
 ·rename_i hh;exact absurd h hh
 rename_i _ _ _ _ _ hd
 have e:=pP (dX.1 hd) j hj
 unfold vN at e
 split at e
 ·omega
 rename_i h1
 split at e
 ·omega
 refine⟨a1D h1,fun q hq=> ?_⟩
 unfold divE at e
 split at e
 ·rename_i hh;exact absurd e hh
 split at e
 ·omega
 have e2:=pP e q hq
 unfold pT at e2
 split at e2
 ·rename_i hh;exact absurd e2 hh
 rename_i hs2
 have e2:=dX.1 hs2
 unfold stopE at e2
 split at e2
 ·rename_i hh;exact absurd e2 hh
 split at e2
 ·omega
 rename_i h2
 exact a1D h2
theorem Org.ch{o:Org}(h:organE o=0){j:Nat}(hj:j<o.cpls.length):(jB o.cpls j).name.size≤32:=by
 unfold organE at h
 split at h
 ·omega
 split at h
 ·omega
 split at h
 ·rename_i hh;exact absurd h hh
 split at h
 ·omega
 split at h
 ·omega
 split at h
 ·rename_i hh;exact absurd h hh
 unfold tX at h
 split at h
 ·omega
 split at h
 ·omega
 have e:=pP h j hj
 unfold nV at e
 dsimp only at e
 split at e
 ·omega
 rename_i h1
 exact a1D h1
theorem c0w(k:Nat):(nmB k).size≤4:=by
 have h:∀j,j<12→(d0p.getD j []).length≤2:=by decide
 have h2:=h (k%12) (fz _ (by decide))
 show(nmL k).length≤4
 unfold nmL
 rw[dM]
 rw[dE]at h2 ⊢
 split<;>simp only[eL,eT]<;>omega
theorem b7v{s:Sn}(hf:s.Fit){c:Ct}(hc:nB s.o c=true):(rW s c).size≤37:=by
 have h1:=(lF s.o c).1 hc
 have h2:=(Org.bJ hf.o (j:=c.1.toNat) (by omega)).1
 have h3:=c0w c.2.toNat
 unfold rW
 rw[hK,hK]
 have:spB.size=1:=rfl
 omega
theorem b9B{o:Org}(h:organE o=0){c:Ct}(hc:nB o c=true):∃k:Nat,c.2=k∧k<128:=by
 have h1:=(lF o c).1 hc
 have h2:=(Org.aK h).keys c.1.toNat (by omega)
 exact⟨c.2.toNat,by omega,by omega⟩
theorem a6s(hG:Glob gH H)(s:Sn)(hs:s.In H)(hf:s.Fit)(c:Ct)(hc:nB s.o c=true):Fn prog 55 [s.v,.agg #[I c.1,I c.2]] H fun r H'=>r=.string (rW s c)∧St prog H H' []:=by
 obtain⟨k,hk,hk2⟩:=b9B hf.o hc
 have h1:=(lF s.o c).1 hc
 obtain⟨d,hd⟩:∃d:Nat,c.1=d:=⟨c.1.toNat,by omega⟩
 have hP:rW s c=(jB s.o.dvs d).name++spB++nmB k:=by unfold rW;rw[hd,hk];rfl
 have n1:=(Org.bJ hf.o (j:=d) (by omega)).1
 have n2:=c0w k
 have c1:=fun t t2 cx cy=>oF (P:=prog) t t2 cx cy (jB s.o.dvs d).name ⟨#[32]⟩ (by show _+1<_;omega)
 have c2:=fun t t2 cx cy=>oF (P:=prog) t t2 cx cy ((jB s.o.dvs d).name++⟨#[32]⟩) (nmB k) (by rw[hK];show _+1+_<_;omega)
 rw[hP,hd,hk]
 refine .aE func55 rfl (by kernel_rfl) (m:=24) rfl fun l hn g0 g1=> ?_
 simp(disch:=omega) only[↓RA,RB,simprocAttr,g0]
 refine(sR H).eNew 10 [(.string s.o.name),s.o.rv,s.o.dv,s.o.cv,s.sv,(.int .u64 s.rg.cpl),(.int .u64 s.rg.off),s.kv,I s.p.1,I s.p.2] rfl rfl (by simp[OC,((sR H).sl hs.o.1).cells.2.1,((sR H).sl hs.o.2.2.1).cells.2.1,((sR H).sl hs.o.2.2.2.2.1).cells.2.1,((sR H).sl hs.rg.1).cells.2.1,((sR H).sl hs.ks.sl).cells.2.1]) pS fun A1 H1 hS1=> ?_
 simp only[RT]at hS1
 simp(disch:=omega) only[↓RA,RB,simprocAttr,g1]
 refine hS1.eNew 2 [I d,I k] rfl rfl rfl mP fun A2 H2 hS2=> ?_
 simp only[RT]at hS2
 simp(disch:=omega) only[↓RA,RZ,simprocAttr,hn,hS2.ld 1 rfl]
 refine hS2.cF (c4F (hS2.gl hG) k hk2) fun H3 hS3=> ?_
 simp(disch:=omega) only[↓RA,RZ,simprocAttr,hn,hS3.ld 0 rfl,hS3.ld 1 rfl,(hS3.sl hs.o.2.2.1).idx,(hS3.sl hs.o.2.2.1).aZ,(hS3.sl hs.o.2.2.1).ld,Dvn.cells,d1k,c1,c2]
 exact⟨rfl,hS3.forget⟩
theorem b5v{s:Sn}{r:Rn}(h:(mZ s r).2=true):(mZ s r).1.length=r.cps.length:=by
 unfold mZ at h ⊢
 cases h2:mA s r.pl r.cps r.cps.length with
 | none=>rw[h2]at h;cases h
 | some q=>
   obtain⟨o2,a2⟩:=q
   exact zT h2
theorem b6T{s:Sn}{r:Rn}(hf:s.Fit)(hp:nB s.o r.pl=true)(h:(mZ s r).2=true):(∀c∈(mZ s r).1,nB s.o c=true)∧∀i,i<r.cps.length→0≤jB r.cps i∧jB r.cps i<s.o.cpls.length:=by
 have key:∀n out a,mA s r.pl r.cps n=some (out,a)→nB s.o a=true∧(∀c∈out,nB s.o c=true)∧∀i,i<n→0≤jB r.cps i∧jB r.cps i<s.o.cpls.length:=by
  intro n
  induction n with
  | zero=>
    intro out a h
    unfold mA at h
    injection h with h
    obtain⟨rfl,rfl⟩:=ig h
    exact⟨hp,fun c hc=>(by cases hc),fun i hi=>absurd hi (eu _)⟩
  | succ n ih=>
    intro out a h
    unfold mA at h
    cases h2:mA s r.pl r.cps n with
    | none=>rw[h2]at h;cases h
    | some q=>
      obtain⟨o2,a2⟩:=q
      obtain⟨i1,i2,i3⟩:=ih o2 a2 h2
      rw[h2]at h
      simp only at h
      split at h
      ·rename_i hb
       injection h with h
       obtain⟨rfl,rfl⟩:=ig h
       rw[dB]at hb
       have h5:=vR.1 hb.1
       obtain⟨h6,h7,_⟩:=tN h5.1
       have hc:=Org.bk hf.o (j:=(jB r.cps n).toNat) (by omega)
       have hok:nB s.o (stC s (jB r.cps n) a2)=true:=by
        rw[stC,if_pos h5.1,lF]
        exact⟨hc.2.1.1,hc.2.1.2,h5.2.2.2.1,h5.2.2.2.2⟩
       refine⟨hok,fun c hc=> ?_,fun i hi=> ?_⟩
       ·rcases eo.1 hc with hc|hc
        ·exact i2 c hc
        ·rw[dW]at hc
         rw[hc];exact hok
       ·rcases dK.1 hi with e|e
        ·exact i3 i e
        ·rw[e];exact⟨h6,h7⟩
      ·cases h
 unfold mZ at h ⊢
 cases h2:mA s r.pl r.cps r.cps.length with
 | none=>rw[h2]at h;cases h
 | some q=>
   obtain⟨o2,a2⟩:=q
   obtain⟨_,i2,i3⟩:=key _ _ _ h2
   exact⟨i2,i3⟩
theorem b7O{s:Sn}{r:Rn}(h:vfE s r=0):snE s=0∧r.pl∈jF s.ks∧(mZ s r).2=true∧¬(r.cps.length=0∧rY s r.pl.1=true)∧drwB s r.stop r.tc=true:=by
 unfold vfE at h
 split at h
 ·rename_i h1;exact absurd h h1
 ·rename_i h1
  split at h
  ·cases h
  ·rename_i h2
   split at h
   ·cases h
   ·rename_i h3
    split at h
    ·cases h
    ·rename_i h4
     exact⟨dX.1 h1,dX.1 h2,by simpa using fun e=>h3 (.inl e),fun e=>h3 (.inr e),by simpa using h4⟩
def b3f(s:Sn)(r:Rn)(j:ByteArray):ByteArray:=if vfE s r=0 then a5F s r j else⟨#[]⟩
theorem c2q(hG:Glob gH H)(s:Sn)(hs:s.In H)(x:Rn)(hx:x.In H)(hl:x.cps.length<1000000)(jn:ByteArray)(hjl:jn.size<1000000000000)(hJ:vfE s x=0→b1P (a7f s x) jn):Fn prog 23 [s.v,x.v] H fun r H'=>r=.tuple #[.string (b3f s x jn),I (vfE s x)]∧St prog H H' []:=by
 refine .aE func23 rfl (by kernel_rfl) (m:=74) rfl fun l hn g0 g1=> ?_
 simp(disch:=omega) only[↓RA,RB,simprocAttr,g0]
 refine(sR H).eNew 10 [(.string s.o.name),s.o.rv,s.o.dv,s.o.cv,s.sv,(.int .u64 s.rg.cpl),(.int .u64 s.rg.off),s.kv,I s.p.1,I s.p.2] rfl rfl (by simp[OC,((sR H).sl hs.o.1).cells.2.1,((sR H).sl hs.o.2.2.1).cells.2.1,((sR H).sl hs.o.2.2.2.2.1).cells.2.1,((sR H).sl hs.rg.1).cells.2.1,((sR H).sl hs.ks.sl).cells.2.1]) pS fun A1 H1 hS1=> ?_
 simp only[RT]at hS1
 simp(disch:=omega) only[↓RA,RB,simprocAttr,g1]
 refine hS1.eNew 6 [I x.pl.1,I x.pl.2,x.cv,I x.tc.1,I x.tc.2,I x.stop] rfl rfl (by simp[OC,(hS1.sl hx.1).cells.2.1]) pV fun A2 H2 hS2=> ?_
 simp only[RT]at hS2
 simp(disch:=omega) only[↓RA,RZ,simprocAttr,hn,hS2.ae 0 rfl,hS2.ae 1 rfl]
 refine hS2.cF (a6w (hS2.gl hG) s (hs.ag hS2) x (hx.ag hS2)) fun H3 hS3=> ?_
 simp(disch:=omega) only[↓RA,RB,simprocAttr,hn]
 refine jA (fun h1=> ?_) (fun h1=> ?_)
 ·have hc:b3f s x jn=⟨#[]⟩:=by unfold b3f;rw[if_neg h1]
  simp(disch:=omega) only[↓RA,RZ,simprocAttr,hn,c8G,h1]
  exact⟨by rw[hc],hS3.forget⟩
 have h1:vfE s x=0:=dX.1 h1
 have hJ:=hJ h1
 have hc:b3f s x jn=a5F s x jn:=by unfold b3f;rw[if_pos h1]
 obtain⟨e0,e1,e2,e3,e4⟩:=b7O h1
 have hf:=qG.1 e0
 have hpo:=oM hs.ks.ok hf.keys _ e1
 have hto:=a5O hf hpo e2
 obtain⟨hco,hci⟩:=b6T hf hpo e2
 have hcl:=b5v e2
 simp(disch:=omega) only[↓RA,RZ,simprocAttr,hn,hS3.ae 0 rfl,hS3.ae 1 rfl,h1]
 refine hS3.cF (a6s (hS3.gl hG) s (hs.ag hS3) hf x.pl hpo) fun H4 hS4=> ?_
 simp(disch:=omega) only[↓RA,RZ,simprocAttr,hn,h1]
 refine hS4.aj [(.string (rW s x.pl))] b3W c1m rfl rfl (by simp[Value.cells]) rfl rfl (by decide) (by decide) fun w1 H5 hS5=> ?_
 simp only[RT]at hS5
 simp(disch:=omega) only[↓RA,RZ,simprocAttr,hn,hS5.ae 0 rfl,hS5.ae 1 rfl,h1]
 refine jG (a9H s (hs.ag hS5) hf x (hx.ag hS5)) ?_
 rintro r H6⟨cw,rfl,hT3⟩
 have hS6:=hS5.trans hT3
 simp only[RT]at hS6
 simp(disch:=omega) only[↓RA,RZ,simprocAttr,hn,(hS6.az 3 rfl lG).len,h1]
 obtain⟨CL,hCL⟩:∃l,l=(mZ s x).1:=⟨_,rfl⟩
 rw[←hCL]at hco hcl
 simp only[←hCL]at hS6
 simp only[←hCL]
 refine Wp.ak (fun n l H'=>l.length=74∧get l 2=(ptr A1 0 10)∧get l 3=(ptr A2 0 6)∧get l 4=(.string ⟨#[]⟩)∧get l 5=I 0∧get l 29=cw∧get l 30=I CL.length∧∃(i:Nat)(ov:Value),(n+i=CL.length)∧get l 31=I i∧get l 7=ov∧St prog H H' [⟨ptr A1 0 10,0,[(.string s.o.name),s.o.rv,s.o.dv,s.o.cv,s.sv,(.int .u64 s.rg.cpl),(.int .u64 s.rg.off),s.kv,I s.p.1,I s.p.2]⟩,⟨ptr A2 0 6,0,[I x.pl.1,I x.pl.2,x.cv,I x.tc.1,I x.tc.2,I x.stop]⟩,⟨ov,1,(rW s x.pl::(List.range i).map (a4k s x.cps CL)).flatMap (one Value.string)⟩,⟨cw,2,pr CL⟩]) CL.length ?_ ?_
 ·simp(disch:=omega) only[RB,RC,simprocAttr,hn]
  exact⟨0,w1,by omega,rfl,rfl,hS6⟩
 rintro n l H7⟨hn,g2,g3,g4,g5,g29,g30,i,ov,hi,g31,g7,hS7⟩
 simp(disch:=omega) only[↓RA,RB,simprocAttr,hn,g30,g31]
 refine jA (fun q1=> ?_) (fun q1=> ?_)
 ·obtain⟨hk0,hk1⟩:=hci i (by omega)
  obtain⟨k,hk⟩:∃k:Nat,jB x.cps i=k:=⟨(jB x.cps i).toNat,by omega⟩
  have hkl:k<s.o.cpls.length:=by omega
  have hcm:=hco _ (jE (xs:=CL) (j:=i) (by omega))
  have n1:=Org.ch hf.o hkl
  have n2:=b7v hf hcm
  have c1:=fun t t2 cx cy=>oF (P:=prog) t t2 cx cy (jB s.o.cpls k).name ⟨#[32,116,111,32]⟩ (by show _+4<_;omega)
  have c2:=fun t t2 cx cy=>oF (P:=prog) t t2 cx cy ((jB s.o.cpls k).name++⟨#[32,116,111,32]⟩) (rW s (jB CL i)) (by rw[hK];show _+4+_<_;omega)
  simp(disch:=omega) only[↓RA,RZ,simprocAttr,hn,g29,g31,(hS7.az 3 rfl lG).idx,(hS7.az 3 rfl lG).ae,mJ,q1]
  refine hS7.eNew 2 [I 0,I 0] rfl rfl rfl mP fun A3 H8 hS8=> ?_
  simp only[RT]at hS8
  simp(disch:=omega) only[↓RA,RZ,simprocAttr,hn,q1]
  refine hS8.aa 4 rfl [I (jB CL i).1,I (jB CL i).2] rfl rfl mP (by simp) fun H9 hS9=> ?_
  simp only[RT]at hS9
  simp(disch:=omega) only[↓RA,RZ,simprocAttr,q1]
  refine Wp.aJ kQ [(3,16),(5,16),(8,16),(11,16)] (by kernel_rfl) (by kernel_rfl) ?_
  simp(disch:=omega) only[↓RA,RZ,simprocAttr,hn,g2,g3,g7,hS9.ld 0 rfl,hS9.ld 1 rfl,(hS9.sl hx.1).idx,(hS9.sl hx.1).ld,one,hk]
  simp(disch:=omega) only[↓RA,RZ,simprocAttr,hn,g2,(hS9.sl hs.o.2.2.2.2.1).idx,(hS9.sl hs.o.2.2.2.2.1).aZ,(hS9.sl hs.o.2.2.2.2.1).ld,Cpl.cells,hS9.ae 0 rfl,hS9.ae 4 rfl,c1]
  refine hS9.cF (a6s (hS9.gl hG) s (hs.ag hS9) hf (jB CL i) hcm) fun H10 hS10=> ?_
  simp(disch:=omega) only[↓RA,RB,simprocAttr,hn,c2]
  refine hS10.aj [_] b3W c1m rfl rfl (by simp[Value.cells]) rfl rfl (by decide) (by decide) fun w2 H11 hS11=> ?_
  simp only[RT]at hS11
  simp(disch:=omega) only[↓RA,RZ,simprocAttr,hn]
  refine hS11.aq 2 rfl (hS11.rd 5 rfl) b3W (by rw[nF];simp;omega) fun w3 H12 hS12=> ?_
  simp only[RT]at hS12
  simp(disch:=omega) only[↓RA,RZ,simprocAttr,hn,g2,g3,g4,g5,g29,g30,g31,hS10.ld 0 rfl,hS10.ld 1 rfl,one,(hS10.sl hx.1).ld,Cpl.cells,(hS10.sl hs.o.2.2.2.2.1).ld,hk]
  refine⟨n-1,by omega,i+1,w3,by omega,by simp,rfl,?_⟩
  have hp:a4k s x.cps CL i=(jB s.o.cpls k).name++toB++rW s (jB CL i):=by unfold a4k;rw[hk];rfl
  rw[eR,dY,←gr,dV,show[i].map (a4k s x.cps CL)=[a4k s x.cps CL i]from rfl,hp]
  exact hS12.pick [0,1,2,3] (by decide) rfl
 have hii:i=CL.length:=by omega
 subst hii
 obtain⟨hd0,hd1,hb,hm⟩:0≤x.tc.1∧x.tc.1<s.o.dvs.length∧0≤x.stop∧x.stop<(jB s.o.dvs x.tc.1.toNat).stops.length:=by
  have h2:=(lF s.o x.tc).1 hto
  unfold drwB at e4
  simp only[dB,decide_eq_true_eq]at e4
  exact⟨h2.1,h2.2.1,e4.1.1.1,e4.1.1.2⟩
 obtain⟨d,hd⟩:∃d:Nat,x.tc.1=d:=⟨x.tc.1.toNat,by omega⟩
 obtain⟨k,hk⟩:∃k:Nat,x.stop=k:=⟨x.stop.toNat,by omega⟩
 have hdl:d<s.o.dvs.length:=by omega
 have hdt:x.tc.1.toNat=d:=by omega
 rw[hdt]at hm
 have hkl:k<(jB s.o.dvs d).stops.length:=by omega
 have hst:=(hs.o.2.2.2.1 _ (jE hdl)).2.1
 simp only[hd,hk]at hS7
 simp(disch:=omega) only[↓RA,RC,simprocAttr,q1]
 refine Wp.aJ kQ [(5,0),(8,0),(11,0),(13,0),(16,0)] (by kernel_rfl) (by kernel_rfl) ?_
 simp(disch:=omega) only[↓RA,RZ,simprocAttr,hn,g7]
 have hJ2:b1P (rW s x.pl::(List.range CL.length).map (a4k s x.cps CL)) jn:=by
  unfold a7f at hJ
  rw[←hCL]at hJ
  exact hJ
 have n1:=(Org.bJ hf.o hdl).2 k hkl
 have c1:=fun t t2 cx cy=>oF (P:=prog) t t2 cx cy jn ⟨#[58,32]⟩ (by show _+2<_;omega)
 have c2:=fun t t2 cx cy=>oF (P:=prog) t t2 cx cy (jn++⟨#[58,32]⟩) (jB (jB s.o.dvs d).stops k).name (by rw[hK];show _+2+_<_;omega)
 refine hS7.cF (hJ2 _ ov (hS7.az 2 rfl (fun _=>rfl))) fun H13 hS13=> ?_
 simp(disch:=omega) only[↓RA,RZ,simprocAttr,hn,g2,g3,hS13.ld 0 rfl,hS13.ld 1 rfl,(hS13.sl hs.o.2.2.1).idx,(hS13.sl hs.o.2.2.1).aZ,(hS13.sl hs.o.2.2.1).ld,Dvn.cells,(hS13.sl (hs.o.2.2.2.1 (jB s.o.dvs d) (jE (by omega))).1).idx,(hS13.sl (hs.o.2.2.2.1 (jB s.o.dvs d) (jE (by omega))).1).aZ,(hS13.sl (hs.o.2.2.2.1 (jB s.o.dvs d) (jE (by omega))).1).ld,Stp.cells,hS7.ld 0 rfl,hS7.ld 1 rfl,(hS7.sl hs.o.2.2.1).ld,(hS7.sl (hs.o.2.2.2.1 (jB s.o.dvs d) (jE (by omega))).1).ld,c8G,c1,c2]
 rw[hc,h1]
 have ht:a5F s x jn=jn++c9L++(jB (jB s.o.dvs d).stops k).name:=by unfold a5F;rw[hd,hk];rfl
 rw[ht]
 exact⟨rfl,hS13.forget⟩
end Go.Ds
namespace Go.Ds
open Go.Proofs
variable {H:Heap}
set_option maxRecDepth 100000
set_option maxHeartbeats 1000000
end Go.Ds
namespace Go.Ds
open Go.Proofs
variable {H:Heap}
set_option maxRecDepth 10000
set_option maxHeartbeats 1000000
section
variable (w1 w2 w3 w4 w5 w6 w7:Value)
end
section
variable (w1 w2 d1 g1 s1 d2 g2 s2 w3 w4 w5:Value)
end
end Go.Ds
namespace Go.Ds
open Go.Proofs Go.Proofs.Tryz
variable {H:Heap}
set_option maxRecDepth 10000
set_option maxHeartbeats 1000000
theorem a9V(s:ByteArray):Fn prog 81 [.string s] H fun r H'=>∃wv,r=.agg #[.string s,.string ⟨#[79,112,101,110]⟩,I 8,I 1,I 36,wv]∧St prog H H' [⟨wv,1,(List.replicate 13 (0:Int)).flatMap (one I)⟩]:=by
 refine .aN func81 rfl (by kernel_rfl) (m:=7) rfl fun l hn g0=> ?_
 simp(disch:=omega) only[↓RA,RZ,simprocAttr]
 refine(sR H).eNew 6 [(.string ⟨#[]⟩),(.string ⟨#[]⟩),I 0,I 0,I 0,(.slice none 0 0)] rfl rfl rfl wH fun A1 H1 hS1=> ?_
 simp only[RT]at hS1
 simp(disch:=omega) only[↓RA,RB,simprocAttr,g0,yK]
 refine hS1.cB 13 d2h (by decide) fun w1 H2 hS2=> ?_
 simp only[RT]at hS2
 rw[show List.replicate 13 (Value.int .i64 0)=(List.replicate 13 (0:Int)).flatMap (one I)from by rw[nF,List.map_replicate]]at hS2
 simp(disch:=omega) only[↓RA,RB,simprocAttr,hn,a2I (hS2.rd 1 rfl).cells]
 refine hS2.aa 0 rfl [(.string s),(.string ⟨#[79,112,101,110]⟩),I 8,I 1,I 36,w1] rfl (by simp[OC,(hS2.rd 1 rfl).cells.2.1]) wH (by simp) fun H3 hS3=> ?_
 simp only[RT]at hS3
 simp(disch:=omega) only[↓RA,RZ,simprocAttr,hn,d1c,hS3.ae 0 rfl]
 exact⟨w1,rfl,hS3.pick [1] (by decide) rfl⟩
theorem a3Y(n st:ByteArray)(k:Int)(A:Nat)(hA:Var H A 2 [I 36,I 48]):Fn prog 82 [.string n,.string st,I k,ptr A 0 2] H fun r H'=>∃dv gv sv,r=.agg #[.string n,.bool false,I 36,I 48,sv]∧St prog H H' [⟨dv,2,[I k,I 0]⟩,⟨gv,3,[I 36,I 48,dv]⟩,⟨sv,4,[.string st,I 8,I 1,gv]⟩]:=by
 refine .dg func82 rfl (by kernel_rfl) (m:=20) rfl fun l hn g0 g1 g2 g3=> ?_
 simp(disch:=omega) only[↓RA,RZ,simprocAttr]
 refine(sR H).eNew 5 [(.string ⟨#[]⟩),(.bool false),I 0,I 0,(.slice none 0 0)] rfl rfl rfl sB fun A1 H1 hS1=> ?_
 simp only[RT]at hS1
 simp(disch:=omega) only[↓RA,RZ,simprocAttr,hn,g0,g1,g2,g3,(hA.ag hS1.ag).ae,yK,c2P]
 refine hS1.aj [I k,I 0] a5v a6a rfl rfl (by simp[Value.cells]) rfl rfl (by decide) (by decide) fun w1 H2 hS2=> ?_
 simp only[RT]at hS2
 simp(disch:=omega) only[↓RA,RB,simprocAttr,hn,mT (hS2.rd 1 rfl).cells]
 refine hS2.aj [I 36,I 48,w1] sD zO rfl rfl (by first|(simp[];done)|simp[Value.cells]) (by first|(simp[];done)|simp[Value.cells]) (by simp[OC,(hS2.rd 1 rfl).cells.2.1]) (by decide) (by decide) fun w2 H3 hS3=> ?_
 simp only[RT]at hS3
 simp(disch:=omega) only[↓RA,RB,simprocAttr,hn,b0b (hS3.rd 2 rfl).cells]
 refine hS3.aj [(.string st),I 8,I 1,w2] c1C c5p rfl rfl (by first|(simp[];done)|simp[Value.cells]) (by first|(simp[];done)|simp[Value.cells]) (by simp[OC,(hS3.rd 2 rfl).cells.2.1]) (by decide) (by decide) fun w3 H4 hS4=> ?_
 simp only[RT]at hS4
 simp(disch:=omega) only[↓RA,RB,simprocAttr,hn,a9q (hS4.rd 3 rfl).cells]
 refine hS4.aa 0 rfl [(.string n),(.bool false),I 36,I 48,w3] rfl (by simp[OC,(hS4.rd 3 rfl).cells.2.1]) sB (by simp) fun H5 hS5=> ?_
 simp only[RT]at hS5
 simp(disch:=omega) only[↓RA,RZ,simprocAttr,hn,d2j,hS5.ae 0 rfl]
 exact⟨w1,w2,w3,rfl,hS5.pick [1,2,3] (by decide) rfl⟩
def exT(v1 v2 d1 g1 s1 d2 g2 s2 a b c:Value):Org:=⟨⟨#[84,119,111]⟩,a,[⟨⟨#[65]⟩,⟨#[79,112,101,110]⟩,8,1,36,v1,List.replicate 13 0⟩,⟨⟨#[66]⟩,⟨#[79,112,101,110]⟩,8,1,36,v2,List.replicate 13 0⟩],b,
 [⟨⟨#[71,114,101,97,116]⟩,false,36,48,s1,[⟨⟨#[80,114,105,110,99,105,112,97,108,95,56]⟩,8,1,g1,[⟨36,48,d1,[⟨0,0⟩]⟩]⟩]⟩,⟨⟨#[67,104,111,105,114]⟩,false,36,48,s2,[⟨⟨#[70,108,117,116,101,95,56]⟩,8,1,g2,[⟨36,48,d2,[⟨1,0⟩]⟩]⟩]⟩],c,[⟨⟨#[67,104,111,105,114,95,116,111,95,71,114,101,97,116]⟩,0,1,0,false⟩]⟩
def snT(v1 v2 d1 g1 s1 d2 g2 s2 a b c sv kv:Value):Sn:=⟨exT v1 v2 d1 g1 s1 d2 g2 s2 a b c,sv,⟨[1,1],1,0⟩,kv,[lC [40],(0,0)],(1,4)⟩
theorem c0Z(hG:Glob gH H):Fn prog 38 [] H fun r H'=>∃v1 v2 d1 g1 s1 d2 g2 s2 a b c sv kv,r=(snT v1 v2 d1 g1 s1 d2 g2 s2 a b c sv kv).v∧(snT v1 v2 d1 g1 s1 d2 g2 s2 a b c sv kv).In H'∧St prog H H' []:=by
 refine .dr func38 rfl (by kernel_rfl) (m:=35) rfl fun l hn=> ?_
 simp(disch:=omega) only[↓RA,RZ,simprocAttr]
 refine(sR H).eNew 10 [(.string ⟨#[]⟩),(.slice none 0 0),(.slice none 0 0),(.slice none 0 0),(.slice none 0 0),(.int .u64 0),(.int .u64 0),(.slice none 0 0),I 0,I 0] rfl rfl rfl pS fun A1 H1 hS1=> ?_
 simp only[RT]at hS1
 simp(disch:=omega) only[↓RA,RZ,simprocAttr,a6y]
 refine hS1.eNew 2 [I 0,I 0] rfl rfl rfl rZ fun A2 H2 hS2=> ?_
 simp only[RT]at hS2
 simp(disch:=omega) only[↓RA,RB,simprocAttr,hn]
 refine hS2.aa 1 rfl [I 36,I 48] rfl rfl rZ (by simp) fun H3 hS3=> ?_
 simp only[RT]at hS3
 simp(disch:=omega) only[↓RA,RZ,simprocAttr,hn]
 refine jG (a9V _) ?_
 rintro r H4⟨v1,rfl,hT1⟩
 have hS4:=hS3.trans hT1
 simp only[RT]at hS4
 simp(disch:=omega) only[↓RA,RZ,simprocAttr,hn]
 refine jG (a9V _) ?_
 rintro r H5⟨v2,rfl,hT2⟩
 have hS5:=hS4.trans hT2
 simp only[RT]at hS5
 simp(disch:=omega) only[↓RA,RB,simprocAttr,hn]
 refine hS5.aj [(.string ⟨#[65]⟩),(.string ⟨#[79,112,101,110]⟩),I 8,I 1,I 36,v1,(.string ⟨#[66]⟩),(.string ⟨#[79,112,101,110]⟩),I 8,I 1,I 36,v2] c6r c8X rfl rfl (by first|(simp[];done)|simp[Value.cells]) (by first|(simp[];done)|simp[Value.cells]) (by simp[OC,(hS5.rd 2 rfl).cells.2.1,(hS5.rd 3 rfl).cells.2.1]) (by decide) (by decide) fun w1 H6 hS6=> ?_
 simp only[RT]at hS6
 simp(disch:=omega) only[↓RA,RZ,simprocAttr,hn]
 refine jG (a3Y _ _ 0 A2 (hS6.var 1 rfl)) ?_
 rintro r H7⟨d1,g1,s1,rfl,hT3⟩
 have hS7:=hS6.trans hT3
 simp only[RT]at hS7
 simp(disch:=omega) only[↓RA,RZ,simprocAttr,hn]
 refine jG (a3Y _ _ 1 A2 (hS7.var 1 rfl)) ?_
 rintro r H8⟨d2,g2,s2,rfl,hT4⟩
 have hS8:=hS7.trans hT4
 simp only[RT]at hS8
 simp(disch:=omega) only[↓RA,RB,simprocAttr,hn]
 refine hS8.aj [(.string ⟨#[71,114,101,97,116]⟩),(.bool false),I 36,I 48,s1,(.string ⟨#[67,104,111,105,114]⟩),(.bool false),I 36,I 48,s2] c6D d0m rfl rfl (by first|(simp[];done)|simp[Value.cells]) (by first|(simp[];done)|simp[Value.cells]) (by simp[OC,(hS8.rd 7 rfl).cells.2.1,(hS8.rd 10 rfl).cells.2.1]) (by decide) (by decide) fun w2 H9 hS9=> ?_
 simp only[RT]at hS9
 simp(disch:=omega) only[↓RA,RB,simprocAttr,hn,a9d]
 refine hS9.aj [(.string ⟨#[67,104,111,105,114,95,116,111,95,71,114,101,97,116]⟩),I 0,I 1,I 0,(.bool false)] b2Z c3Q rfl rfl (by simp[Value.cells]) rfl rfl (by decide) (by decide) fun w3 H10 hS10=> ?_
 simp only[RT]at hS10
 simp(disch:=omega) only[↓RA,RZ,simprocAttr,hn,a7x (hS10.rd 4 rfl).cells (hS10.rd 11 rfl).cells (hS10.rd 12 rfl).cells]
 refine hS10.eNew 4 [(.string ⟨#[]⟩),(.slice none 0 0),(.slice none 0 0),(.slice none 0 0)] rfl rfl rfl zD fun A3 H11 hS11=> ?_
 simp only[RT]at hS11
 simp(disch:=omega) only[↓RA,RB,simprocAttr,hn]
 refine hS11.aa 13 rfl [(.string ⟨#[84,119,111]⟩),w1,w2,w3] rfl (by simp[OC,(hS11.rd 4 rfl).cells.2.1,(hS11.rd 11 rfl).cells.2.1,(hS11.rd 12 rfl).cells.2.1]) zD (by simp) fun H12 hS12=> ?_
 simp only[RT]at hS12
 simp(disch:=omega) only[↓RA,RB,simprocAttr]
 refine hS12.aj [I 40] uE a2h rfl rfl (by simp[Value.cells]) rfl rfl (by decide) (by decide) fun w4 H13 hS13=> ?_
 simp only[RT]at hS13
 simp(disch:=omega) only[↓RA,RZ,simprocAttr,hn]
 refine hS13.cF (zX [40] (by intro z hz;rw[dW.1 hz];unfold isN;omega) w4 (hS13.az 14 rfl (rF _)) (by decide)) fun H14 hS14=> ?_
 simp(disch:=omega) only[↓RA,RZ,simprocAttr,hn]
 refine hS14.eNew 2 [(.int .u64 0),(.int .u64 0)] rfl rfl rfl pJ fun A4 H15 hS15=> ?_
 simp only[RT]at hS15
 simp(disch:=omega) only[↓RA,RB,simprocAttr,hn]
 refine hS15.aa 15 rfl [(.int .u64 (lC [40]).1),(.int .u64 (lC [40]).2)] rfl rfl pJ (by simp) fun H16 hS16=> ?_
 simp only[RT]at hS16
 simp(disch:=omega) only[↓RA,RZ,simprocAttr,hn,hS16.ae 13 rfl]
 refine hS16.aj [(.int .u64 1),(.int .u64 1)] b8l c8S rfl rfl (by simp[Value.cells]) rfl rfl (by decide) (by decide) fun w5 H17 hS17=> ?_
 simp only[RT]at hS17
 simp(disch:=omega) only[↓RA,RZ,simprocAttr,hn,b9c (hS17.rd 16 rfl).cells,hS17.ae 15 rfl,c5l]
 refine hS17.aj [(.int .u64 (lC [40]).1),(.int .u64 (lC [40]).2),(.int .u64 0),(.int .u64 0)] b8U c7v rfl rfl (by simp[Value.cells]) rfl rfl (by decide) (by decide) fun w6 H18 hS18=> ?_
 simp only[RT]at hS18
 simp(disch:=omega) only[↓RA,RB,simprocAttr,hn,b0K,a7l (hS18.rd 4 rfl).cells (hS18.rd 11 rfl).cells (hS18.rd 12 rfl).cells (hS18.rd 16 rfl).cells (hS18.rd 17 rfl).cells]
 refine hS18.aa 0 rfl [(.string ⟨#[84,119,111]⟩),w1,w2,w3,w5,(.int .u64 1),(.int .u64 0),w6,I 1,I 4] rfl (by simp[OC,(hS18.rd 4 rfl).cells.2.1,(hS18.rd 11 rfl).cells.2.1,(hS18.rd 12 rfl).cells.2.1,(hS18.rd 16 rfl).cells.2.1,(hS18.rd 17 rfl).cells.2.1]) pS (by simp) fun H19 hS19=> ?_
 simp only[RT]at hS19
 simp(disch:=omega) only[↓RA,RZ,simprocAttr,hn,d1r,hS19.ae 0 rfl]
 have h1:Sl 1 (one I) H19 v1 (List.replicate 13 0):=hS19.az 2 rfl (fun _=>rfl)
 have h2:Sl 1 (one I) H19 v2 (List.replicate 13 0):=hS19.az 3 rfl (fun _=>rfl)
 have h3:Sl 2 Drw.cells H19 d1 [⟨0,0⟩]:=hS19.az 5 rfl (fun _=>rfl)
 have h4:Sl 3 Seg.cells H19 g1 [⟨36,48,d1,[⟨0,0⟩]⟩]:=hS19.az 6 rfl (fun _=>rfl)
 have h5:Sl 4 Stp.cells H19 s1 [⟨⟨#[80,114,105,110,99,105,112,97,108,95,56]⟩,8,1,g1,[⟨36,48,d1,[⟨0,0⟩]⟩]⟩]:=hS19.az 7 rfl (fun _=>rfl)
 have h6:Sl 2 Drw.cells H19 d2 [⟨1,0⟩]:=hS19.az 8 rfl (fun _=>rfl)
 have h7:Sl 3 Seg.cells H19 g2 [⟨36,48,d2,[⟨1,0⟩]⟩]:=hS19.az 9 rfl (fun _=>rfl)
 have h8:Sl 4 Stp.cells H19 s2 [⟨⟨#[70,108,117,116,101,95,56]⟩,8,1,g2,[⟨36,48,d2,[⟨1,0⟩]⟩]⟩]:=hS19.az 10 rfl (fun _=>rfl)
 have h9:Sl 6 Rk.cells H19 w1 (exT v1 v2 d1 g1 s1 d2 g2 s2 w1 w2 w3).ranks:=hS19.az 4 rfl (fun _=>rfl)
 have h10:Sl 5 Dvn.cells H19 w2 (exT v1 v2 d1 g1 s1 d2 g2 s2 w1 w2 w3).dvs:=hS19.az 11 rfl (fun _=>rfl)
 have h11:Sl 5 Cpl.cells H19 w3 (exT v1 v2 d1 g1 s1 d2 g2 s2 w1 w2 w3).cpls:=hS19.az 12 rfl (fun _=>rfl)
 have h12:Sl 1 (one u64) H19 w5 ([1,1]:List Nat):=hS19.az 16 rfl (fun _=>rfl)
 have h13:Sl 2 ntc H19 w6 [lC [40],(0,0)]:=hS19.az 17 rfl (fun _=>rfl)
 have hRo:(⟨[1,1],1,0⟩:Reg).Ok:=⟨by decide,by decide,by decide,by decide⟩
 have hKo:∀x∈([lC [40],(0,0)]:List Nt),Nt.Ok x:=by
  intro x hx
  simp only[ew,eO,or_false]at hx
  rcases hx with rfl|rfl<;>exact⟨by decide,by decide⟩
 refine⟨v1,v2,d1,g1,s1,d2,g2,s2,w1,w2,w3,w5,w6,rfl,⟨⟨h9,?_,h10,?_,h11,by simp[snT,exT],by simp[snT,exT],by simp[snT,exT]⟩,⟨h12,hRo⟩,⟨h13,by simp[snT],hKo⟩⟩,hS19.forget⟩
 ·intro r hr
  simp only[snT,exT,ew,eO,or_false]at hr
  rcases hr with rfl|rfl
  ·exact⟨h1,by simp⟩
  ·exact⟨h2,by simp⟩
 ·intro d hd
  simp only[snT,exT,ew,eO,or_false]at hd
  rcases hd with rfl|rfl
  ·exact⟨h5,fun s hs=>by rw[dW.1 hs];exact⟨h4,fun g hg=>by rw[dW.1 hg];exact⟨h3,by simp⟩,by simp⟩,by simp⟩
  ·exact⟨h8,fun s hs=>by rw[dW.1 hs];exact⟨h7,fun g hg=>by rw[dW.1 hg];exact⟨h6,by simp⟩,by simp⟩,by simp⟩
section
variable (v1 v2 d1 g1 s1 d2 g2 s2 a b c sv kv:Value)
theorem c5S:snE (snT v1 v2 d1 g1 s1 d2 g2 s2 a b c sv kv)=0:=by kernel_rfl
theorem c3a:wR (snT v1 v2 d1 g1 s1 d2 g2 s2 a b c sv kv)=some ((0,40),[0],(1,40)):=by kernel_rfl
theorem c4p:stpL (snT v1 v2 d1 g1 s1 d2 g2 s2 a b c sv kv) (1,40)=[0]:=by kernel_rfl
theorem b4S:pQ (snT v1 v2 d1 g1 s1 d2 g2 s2 a b c sv kv)=[⟨(0,40),[0],(1,40),0⟩]:=by kernel_rfl
theorem c6l(cv:Value):vfE (snT v1 v2 d1 g1 s1 d2 g2 s2 a b c sv kv) ⟨(0,40),cv,[0],(1,40),0⟩=0:=by kernel_rfl
theorem b5T(cv:Value):a7f (snT v1 v2 d1 g1 s1 d2 g2 s2 a b c sv kv) ⟨(0,40),cv,[0],(1,40),0⟩=[exA,exB]:=by kernel_rfl
theorem c1l(cv:Value):a5F (snT v1 v2 d1 g1 s1 d2 g2 s2 a b c sv kv) ⟨(0,40),cv,[0],(1,40),0⟩ ⟨exJ.toArray⟩=⟨#[71,114,101,97,116,32,69,50,44,32,67,104,111,105,114,95,116,111,95,71,114,101,97,116,32,116,111,32,67,104,111,105,114,32,69,50,58,32,70,108,117,116,101,95,56]⟩:=by kernel_rfl
theorem a9g:qM (snT v1 v2 d1 g1 s1 d2 g2 s2 a b c sv kv)=0:=by
 unfold qM
 rw[c5S,if_neg (by decide),b4S,if_neg (by decide)]
theorem b3Y:nD (snT v1 v2 d1 g1 s1 d2 g2 s2 a b c sv kv)=[⟨(0,40),[0],(1,40),0⟩]:=by
 unfold nD
 rw[a9g,if_pos rfl,b4S]
 simp
theorem b4v:mB ⟨(0,40),[0],(1,40),0⟩=[⟨1,1,0⟩,⟨2,0,0⟩]:=by
 unfold mB a1i
 exact a5o (by
  refine .cons (fun x hx=> ?_) (.cons (fun x hx=>(by cases hx)) .nil)
  simp only[eN,gy,dW]at hx
  subst hx
  unfold zC
  kernel_rfl)
theorem c1P:oE (snT v1 v2 d1 g1 s1 d2 g2 s2 a b c sv kv)=[⟨1,1,0⟩,⟨2,0,0⟩]:=by
 unfold oE
 rw[b3Y,ec,fw,dO,←b4v]
 unfold mB
 exact a5o (a7Q _)
theorem c3f:tR (snT v1 v2 d1 g1 s1 d2 g2 s2 a b c sv kv)=0∧wC (snT v1 v2 d1 g1 s1 d2 g2 s2 a b c sv kv)=some [⟨1,1,0⟩]:=by
 have hE:tR (snT v1 v2 d1 g1 s1 d2 g2 s2 a b c sv kv)=0:=by
  unfold tR
  rw[a9g,if_neg (by decide),c1P,if_neg (by decide)]
 refine⟨hE,?_⟩
 unfold wC xY
 rw[hE,b3Y,c1P,if_neg (by simp),eN,gy,b4v]
 kernel_rfl
end
theorem a4D(hG:Glob gH H):Fn prog 10 [] H fun r H'=>r=.bool true∧St prog H H' []:=by
 refine .dr func10 rfl (by kernel_rfl) (m:=61) rfl fun l hn=> ?_
 simp(disch:=omega) only[↓RA,RZ,simprocAttr]
 refine jG ((c0Z ((sR H).gl hG)).mono fun _ _⟨v1,v2,d1,g1,s1,d2,g2,s2,a,b,c,sv,kv,h1,h2,h3⟩=>(⟨_,h1,⟨v1,v2,d1,g1,s1,d2,g2,s2,a,b,c,sv,kv,rfl⟩,h2,h3⟩:∃s:Sn,_=s.v∧(∃v1 v2 d1 g1 s1 d2 g2 s2 a b c sv kv,s=snT v1 v2 d1 g1 s1 d2 g2 s2 a b c sv kv)∧s.In _∧St prog _ _ [])) ?_
 rintro r H1⟨s,rfl,⟨v1,v2,d1,g1,s1,d2,g2,s2,a,b,c,sv,kv,hse⟩,hs,hT1⟩
 have hS1:=(sR H).trans hT1
 simp only[RT]at hS1
 have q1:snE s=0:=by subst hse;exact c5S ..
 have q2:wR s=some ((0,40),[0],(1,40)):=by subst hse;exact c3a ..
 have q3:∀cv,uR s (wR s) cv=⟨(0,40),cv,[0],(1,40),0⟩:=fun cv=>by
  rw[q2]
  unfold uR
  simp only
  rw[show stpL s (1,40)=[0]from by subst hse;exact c4p ..]
  rfl
 have q4:∀cv,vfE s ⟨(0,40),cv,[0],(1,40),0⟩=0:=fun cv=>by subst hse;exact c6l ..
 have q5:∀cv,a7f s ⟨(0,40),cv,[0],(1,40),0⟩=[exA,exB]:=fun cv=>by subst hse;exact b5T ..
 have q6:∀cv,a5F s ⟨(0,40),cv,[0],(1,40),0⟩ ⟨exJ.toArray⟩=⟨#[71,114,101,97,116,32,69,50,44,32,67,104,111,105,114,95,116,111,95,71,114,101,97,116,32,116,111,32,67,104,111,105,114,32,69,50,58,32,70,108,117,116,101,95,56]⟩:=fun cv=>by subst hse;exact c1l ..
 have q7:tR s=0∧wC s=some [⟨1,1,0⟩]:=by subst hse;exact c3f ..
 have q8:∀cv,b3f s ⟨(0,40),cv,[0],(1,40),0⟩ ⟨exJ.toArray⟩=⟨#[71,114,101,97,116,32,69,50,44,32,67,104,111,105,114,95,116,111,95,71,114,101,97,116,32,116,111,32,67,104,111,105,114,32,69,50,58,32,70,108,117,116,101,95,56]⟩:=fun cv=>by unfold b3f;rw[if_pos (q4 cv),q6]
 clear hse
 have hS0:=hS1
 have hG2:=hS0.gl hG
 simp(disch:=omega) only[↓RA,RZ,simprocAttr]
 refine(sR H1).eNew 10 [(.string ⟨#[]⟩),(.slice none 0 0),(.slice none 0 0),(.slice none 0 0),(.slice none 0 0),(.int .u64 0),(.int .u64 0),(.slice none 0 0),I 0,I 0] rfl rfl rfl pS fun A1 H2 hS2=> ?_
 simp only[RT]at hS2
 simp(disch:=omega) only[↓RA,RB,simprocAttr,hn]
 refine hS2.aa 0 rfl [(.string s.o.name),s.o.rv,s.o.dv,s.o.cv,s.sv,(.int .u64 s.rg.cpl),(.int .u64 s.rg.off),s.kv,I s.p.1,I s.p.2] rfl (by simp[OC,(hS2.sl hs.o.1).cells.2.1,(hS2.sl hs.o.2.2.1).cells.2.1,(hS2.sl hs.o.2.2.2.2.1).cells.2.1,(hS2.sl hs.rg.1).cells.2.1,(hS2.sl hs.ks.sl).cells.2.1]) pS (by simp) fun H3 hS3=> ?_
 simp only[RT]at hS3
 simp(disch:=omega) only[↓RA,RZ,simprocAttr,hn,hS3.ae 0 rfl]
 have hL:=a8H (hS3.gl hG2) s (hs.ag hS3)
 simp only[q3,q1]at hL
 rw[q2]at hL
 simp only[Option.isSome_some]at hL
 refine jG (hL) ?_
 rintro r H4⟨cv,rfl,hT2⟩
 have hS4:=hS3.trans hT2
 simp only[RT]at hS4
 simp(disch:=omega) only[↓RA,RZ,simprocAttr,hn]
 refine hS4.eNew 6 [I 0,I 0,(.slice none 0 0),I 0,I 0,I 0] rfl rfl rfl pV fun A2 H5 hS5=> ?_
 simp only[RT]at hS5
 simp(disch:=omega) only[↓RA,RB,simprocAttr,hn]
 refine hS5.aa 2 rfl [I 0,I 40,cv,I 1,I 40,I 0] rfl (by simp[OC,(hS5.rd 1 rfl).cells.2.1]) pV (by simp) fun H6 hS6=> ?_
 simp only[RT]at hS6
 simp(disch:=omega) only[↓RA,RZ,simprocAttr,hn,hS6.ae 0 rfl,hS6.ae 2 rfl]
 have hT:=c2q (hS6.gl hG2) s (hs.ag hS6) ⟨(0,40),cv,[0],(1,40),0⟩ ⟨hS6.az 1 rfl (fun _=>rfl),by simp⟩ (by simp) ⟨exJ.toArray⟩ (by decide) (fun _=>by rw[q5];exact c6F)
 rw[q8,q4]at hT
 refine hS6.cF (hT) fun H7 hS7=> ?_
 simp(disch:=omega) only[↓RA,RZ,simprocAttr,hn,hS7.ae 0 rfl]
 have hQ:=a4w (hS7.gl hG2) s (hs.ag hS7)
 rw[q7.1,q7.2]at hQ
 simp only[Option.isSome_some,eE]at hQ
 refine jG (hQ) ?_
 rintro r H8⟨lv,rfl,hT4⟩
 have hS8:=hS7.trans hT4
 simp only[RT]at hS8
 simp(disch:=omega) only[↓RA,RZ,simprocAttr,hn]
 simp(disch:=omega) only[↓RA,RZ,simprocAttr,hn,(hS8.az 3 rfl (fun _=>rfl)).len]
 have hlx:Sl 3 Ctl.cells H8 lv [⟨1,1,0⟩]:=hS8.az 3 rfl (fun _=>rfl)
 have hid:∀t,xB (some 3) prog t lv (.int .i64 0)=some (kO lv 3 0 0):=fun t=>hlx.idx t .i64 0 (by decide) (by decide)
 have hlA:oU (some true) (some 3) H8 (kO lv 3 0 0)=some (.agg #[I 1,I 1,I 0]):=hlx.ae 0 (by decide)
 simp(disch:=omega) only[↓RA,RZ,simprocAttr,hn,c0X,d2g,hid,hlA]
 exact hS0.trans hS8.forget
end Go.Ds
namespace Go.Ds
open Go.Proofs Go.Proofs.Tryz
variable {H:Heap}
set_option maxRecDepth 10000
def nbL(L:Nat)(vs:List Value):Nat→Prop:=fun B=>nb vs B∧L≤B
theorem Kept.bK{H H':Heap}{vs vs':List Value}(L:Nat)(h:Kept H (nb vs) H' (nb vs')):Kept H (nbL L vs) H' (nbL L vs'):=fun B hX hB=>⟨(h B hX.1 hB).1,(h B hX.1 hB).2,hX.2⟩
theorem Kept.dy{H H':Heap}{Lc:Nat}{vs':List Value}{L:Nat}(hl:L≤Lc)(h:Kept H (fun B=>Lc≤B) H' (nb vs')):Kept H (fun B=>Lc≤B) H' (nbL L vs'):=fun B hX hB=>⟨(h B hX hB).1,(h B hX hB).2,dZ hl hX⟩
theorem Slx.both{α:Type}{n:Nat}{cel:α→List Value}{v:Value}{xs:List α}{X Y:Nat→Prop}(h:Slx n cel H X v xs)(h2:Slx n cel H Y v xs):Slx n cel H (fun B=>X B∧Y B) v xs:=⟨h.1,fun B hb=>⟨h.2 B hb,h2.2 B hb⟩⟩
theorem Kept.snd{H:Heap}{vs:List Value}{L:Nat}:Kept H (nbL L vs) H (fun B=>L≤B):=fun B hX _=>⟨rfl,hX.2⟩
structure Org.Ix(H:Heap)(X:Nat→Prop)(o:Org):Prop where
 rs:Slx 6 Rk.cells H X o.rv o.ranks
 ri:∀r∈o.ranks,r.Ix H X
 ds:Slx 5 Dvn.cells H X o.dv o.dvs
 di:∀d∈o.dvs,d.Ix H X
 cs:Slx 5 Cpl.cells H X o.cv o.cpls
 rl:o.ranks.length<1000000000
 dl:o.dvs.length<1000000000
 cl:o.cpls.length<1000000000
theorem Org.Ix.step{H H':Heap}{X Y:Nat→Prop}{o:Org}(h:o.Ix H X)(hk:Kept H X H' Y):o.Ix H' Y:=⟨h.rs.step hk,fun r hr=>(h.ri r hr).step hk,h.ds.step hk,fun d hd=>(h.di d hd).step hk,h.cs.step hk,h.rl,h.dl,h.cl⟩
theorem Org.Ix.in{H:Heap}{X:Nat→Prop}{o:Org}(h:o.Ix H X):o.In H:=⟨h.rs.1,fun r hr=>(h.ri r hr).in,h.ds.1,fun d hd=>(h.di d hd).in,h.cs.1,h.rl,h.dl,h.cl⟩
theorem b1m(hG:Glob gH H)(p:Pln)(hp:p.In H)(hk:p.Ok)(hf:tV p=true):Fn prog 43 [.agg #[p.rv,p.dv,p.cv]] H fun r H'=>
 ∃o:Org,r=.agg #[.string o.name,o.rv,o.dv,o.cv]∧o.Ix H' (fun B=>H.length≤B)∧Made p o∧St prog H H' []:=by
 have hl1:=hp.2.2.2.2.1
 have hl2:=hp.2.2.2.2.2.1
 have hl3:=hp.2.2.2.2.2.2
 unfold tV at hf
 simp only[dB,decide_eq_true_eq,dT]at hf
 obtain⟨⟨⟨⟨⟨f1,f2⟩,f3⟩,f4⟩,f5⟩,f6⟩:=hf
 refine .aN func43 rfl (by kernel_rfl) (m:=153) rfl fun l hn g0=> ?_
 simp(disch:=omega) only[↓RA,RB,simprocAttr,g0]
 refine(sR H).eNew 3 [p.rv,p.dv,p.cv] rfl rfl (by simp[((sR H).sl hp.1).cells.2.1,((sR H).sl hp.2.1).cells.2.1,((sR H).sl hp.2.2.2.1).cells.2.1]) c1T fun A1 H1 hS1=> ?_
 simp only[RT]at hS1
 simp(disch:=omega) only[↓RA,RZ,simprocAttr]
 refine hS1.eNew 4 [(.string ⟨#[]⟩),(.slice none 0 0),(.slice none 0 0),(.slice none 0 0)] rfl rfl rfl zD fun A2 H2 hS2=> ?_
 simp only[RT]at hS2
 simp(disch:=omega) only[↓RA,RZ,simprocAttr,c7M]
 refine hS2.eNew 4 [(.string ⟨#[]⟩),(.slice none 0 0),(.slice none 0 0),(.slice none 0 0)] rfl rfl rfl zD fun A3 H3 hS3=> ?_
 simp only[RT]at hS3
 simp(disch:=omega) only[↓RA,RB,simprocAttr,hn]
 refine hS3.aa 2 rfl [(.string ⟨#[79,114,103,97,110]⟩),(.slice none 0 0),(.slice none 0 0),(.slice none 0 0)] rfl rfl zD (by simp) fun H4 hS4=> ?_
 simp only[RT]at hS4
 simp(disch:=omega) only[↓RA,RB,simprocAttr]
 have hS5:=hS4.nil 5
 simp only[RT]at hS5
 refine Wp.ak (fun n l H'=>l.length=153∧get l 1=(ptr A1 0 3)∧get l 2=(ptr A2 0 4)∧get l 3=(ptr A3 0 4)∧∃(i:Nat)(rks:List Rk)(rv:Value),(n+i=p.ranks.length∧rks.length=i∧(∀j,j<rks.length→RkOk j (jB rks j))∧∀r∈rks,r.Ix H' (nbL H.length [ptr A1 0 3,ptr A2 0 4,ptr A3 0 4,rv]))∧get l 4=I i∧St prog H H' [⟨ptr A1 0 3,0,[p.rv,p.dv,p.cv]⟩,⟨ptr A2 0 4,0,[(.string ⟨#[]⟩),(.slice none 0 0),(.slice none 0 0),(.slice none 0 0)]⟩,⟨ptr A3 0 4,0,[.string ⟨#[79,114,103,97,110]⟩,rv,.slice none 0 0,.slice none 0 0]⟩,⟨rv,6,rks.flatMap Rk.cells⟩]) p.ranks.length ?_ ?_
 ·simp(disch:=omega) only[RB,RC,simprocAttr,hn]
  exact⟨0,[],.slice none 0 0,⟨by omega,rfl,fun j hj=>absurd hj (eu _),by simp⟩,rfl,hS5⟩
 rintro n l H5⟨hn,g1,g2,g3,i,rks,rv,⟨hi,hrl,hro,hrx⟩,g4,hS6⟩
 simp(disch:=omega) only[↓RA,RZ,simprocAttr,hn,g1,g4,hS6.ld 0 rfl,(hS6.sl hp.1).len]
 refine jA (fun q1=> ?_) (fun q1=> ?_)
 ·obtain⟨B,hBB,hS7⟩:=hS6.aA (os:=[⟨ptr A1 0 3,0,_⟩,⟨ptr A2 0 4,0,_⟩,⟨ptr A3 0 4,0,_⟩,⟨rv,6,_⟩])
  simp(disch:=omega) only[↓RA,RC,simprocAttr,q1]
  refine Wp.aJ kQ [(1,9),(1,10)] (by kernel_rfl) (by kernel_rfl) ?_
  simp(disch:=omega) only[↓RA,RZ,simprocAttr,hn,g1,g3,g4,hS7.ld 2 rfl,hS7.ld 0 rfl,((hS6.ab hBB hS7).sl hp.1).idx,((hS6.ab hBB hS7).sl hp.1).ae,RPl.cells]
  refine jG (b6b (jB p.ranks i) (hk.1 _ (jE (by omega))) i (by omega)) ?_
  rintro r H6⟨wv,rfl,hT1⟩
  have hS8:=hS7.trans hT1
  simp only[RT]at hS8
  have hwe:(List.range (1+(jB p.ranks i).pipes%25)).map (fun j=>I ((jB p.ranks i).wind j))=((List.range (1+(jB p.ranks i).pipes%25)).map fun j=>(((jB p.ranks i).wind j:Nat):Int)).flatMap (one I):=by rw[nF,iM];rfl
  rw[hwe]at hS8
  simp(disch:=omega) only[↓RA,RB,simprocAttr,hn]
  refine hS8.aj [(.string ⟨#[82,UInt8.ofNat (48+i)]⟩),(.string (jB wM ((jB p.ranks i).tone%3))),I (jB nR ((jB p.ranks i).feet%16)).1,I (jB nR ((jB p.ranks i).feet%16)).2,I (jB p.ranks i).first,wv] c6r c8X rfl rfl (by first|(simp[];done)|simp[Value.cells]) (by first|(simp[];done)|simp[Value.cells]) (by simp[OC,(hS8.rd 4 rfl).cells.2.1]) (by decide) (by decide) fun w1 H7 hS9=> ?_
  simp only[RT]at hS9
  simp(disch:=omega) only[↓RA,RZ,simprocAttr,hn]
  refine hS9.aq 3 rfl (hS9.rd 5 rfl) c6r (by rw[jJ (n:=6) (cel:=Rk.cells) (fun _=>rfl)];simp;omega) fun w2 H8 hS10=> ?_
  simp only[RT]at hS10
  simp(disch:=omega) only[↓RA,RZ,simprocAttr,hn,g3]
  refine hS10.aa 2 rfl [w2] (by rw[(hS10.rd 3 rfl).cells.1]) (by simp[(hS10.rd 3 rfl).cells.2.1]) c9i (by simp) fun H9 hS11=> ?_
  simp only[RT]at hS11
  simp(disch:=omega) only[↓RA,RZ,simprocAttr,hn,g1,g2,g3,g4,hS8.ld 2 rfl,hS9.ld 2 rfl]
  have hxn:=(hS6.ab hBB hS11).bY (cel:=one I) 4 rfl (fun _=>rfl)
  have hxw:=(hS11.du (cel:=one I) (os':=[⟨ptr A1 0 3,0,_⟩,⟨ptr A2 0 4,0,_⟩,⟨ptr A3 0 4,0,_⟩,⟨w2,6,_⟩]) 4 rfl (fun _=>rfl) [0,1,2,3] (by decide) rfl).both hxn
  have hS12:=hS11.pick (os':=[⟨ptr A1 0 3,0,_⟩,⟨ptr A2 0 4,0,_⟩,⟨ptr A3 0 4,0,_⟩,⟨w2,6,_⟩]) [0,1,2,3] (by decide) rfl
  have hkp:=(hS12.kept hBB).bK H.length
  have hpo:=hk.1 _ (jE (xs:=p.ranks) (j:=i) (by omega))
  have hro1:RkOk rks.length ⟨nm 82 i,jB wM ((jB p.ranks i).tone%3),(jB nR ((jB p.ranks i).feet%16)).1,(jB nR ((jB p.ranks i).feet%16)).2,(jB p.ranks i).first,wv,(List.range (1+(jB p.ranks i).pipes%25)).map fun j=>(((jB p.ranks i).wind j:Nat):Int)⟩:=by
   refine⟨by rw[hrl],jE (fz _ (by decide)),jE (fz _ (by decide)),⟨hpo.2.2.1,hpo.2.2.2.1⟩,by simp;omega,by simp;omega,?_⟩
   intro x hx
   obtain⟨j,_,rfl⟩:=dP.1 hx
   have:=hpo.wind j
   omega
  refine⟨n-1,by omega,i+1,rks++[_],w2,⟨by omega,by simp[hrl],yI hro hro1,a6U (fun r hr=>(hrx r hr).step hkp) ⟨hxw,by simp;omega⟩⟩,by simp,?_⟩
  rw[vE]
  exact(hS6.ab hBB hS12)
 simp(disch:=omega) only[↓RA,RZ,simprocAttr,q1]
 have hri:rks.length=p.ranks.length:=by omega
 obtain⟨C,hBC,hS13⟩:=hS6.aA (os:=[⟨ptr A1 0 3,0,_⟩,⟨ptr A2 0 4,0,_⟩,⟨ptr A3 0 4,0,_⟩,⟨rv,6,_⟩])
 have hS14:=hS13.nil 4
 simp only[RT]at hS14
 refine Wp.ak (fun n l H'=>l.length=153∧get l 1=(ptr A1 0 3)∧get l 2=(ptr A2 0 4)∧get l 3=(ptr A3 0 4)∧∃(m:Nat)(dvs:List Dvn)(dv:Value),(n+m=p.dvs.length∧dvs.length=m∧(∀j,j<dvs.length→DvOk rks.length j (jB dvs j)∧(jB dvs j).stops.length=(jB p.dvs j).stops.length)∧∀d∈dvs,d.Ix H' (nbL H.length [ptr A1 0 3,ptr A2 0 4,ptr A3 0 4,rv,dv]))∧get l 5=I m∧St prog C H' [⟨ptr A1 0 3,0,[p.rv,p.dv,p.cv]⟩,⟨ptr A2 0 4,0,[(.string ⟨#[]⟩),(.slice none 0 0),(.slice none 0 0),(.slice none 0 0)]⟩,⟨ptr A3 0 4,0,[.string ⟨#[79,114,103,97,110]⟩,rv,dv,.slice none 0 0]⟩,⟨rv,6,rks.flatMap Rk.cells⟩,⟨dv,5,dvs.flatMap Dvn.cells⟩]) p.dvs.length ?_ ?_
 ·simp(disch:=omega) only[RB,RC,simprocAttr,hn,g1,g2,g3]
  exact⟨0,[],.slice none 0 0,⟨by omega,rfl,fun j hj=>absurd hj (eu _),by simp⟩,rfl,hS14⟩
 rintro n l H10⟨hn,g1,g2,g3,m,dvs,dv,⟨hm,hdl,hdo,hdx⟩,g5,hS15⟩
 simp(disch:=omega) only[↓RA,RZ,simprocAttr,hn,g1,g5,hS15.ld 0 rfl,((hS6.ab hBC hS15).sl hp.2.1).len]
 refine jA (fun q2=> ?_) (fun q2=> ?_)
 ·have hbk:=hk.2.1 _ (jE (xs:=p.dvs) (j:=m) (by omega))
  have hbi:=hp.2.2.1 _ (jE (xs:=p.dvs) (j:=m) (by omega))
  have hb6:=f6 _ (jE (xs:=p.dvs) (j:=m) (by omega))
  have t1:((jB p.dvs m).low:Int).tmod 12=(((jB p.dvs m).low%12:Nat):Int):=(fq _ _).symm
  have t2:((jB p.dvs m).keys:Int).tmod 9=(((jB p.dvs m).keys%9:Nat):Int):=(fq _ _).symm
  have hb1:=hbk.1
  have hb2:=hbk.2.1
  obtain⟨D,hBD,hS16⟩:=hS15.aA (os:=[⟨ptr A1 0 3,0,_⟩,⟨ptr A2 0 4,0,_⟩,⟨ptr A3 0 4,0,_⟩,⟨rv,6,_⟩,⟨dv,5,_⟩])
  simp(disch:=omega) only[↓RA,RZ,simprocAttr,hn,g1,g5,hS16.ld 0 rfl,((hS6.ab hBC (hS15.ab hBD hS16)).sl hp.2.1).idx,((hS6.ab hBC (hS15.ab hBD hS16)).sl hp.2.1).ae,Brd.cells,q2]
  refine hS16.eNew 4 [(.int .u8 0),(.int .u8 0),(.bool false),(.slice none 0 0)] rfl rfl rfl b3L fun A4 H11 hS17=> ?_
  simp only[RT]at hS17
  simp(disch:=omega) only[↓RA,RZ,simprocAttr,hn,q2]
  refine hS17.aa 5 rfl [(.int .u8 (jB p.dvs m).low),(.int .u8 (jB p.dvs m).keys),(.bool (jB p.dvs m).pedal),(jB p.dvs m).sv] rfl (by simp[OC,((hS6.ab hBC (hS15.ab hBD hS17)).sl (hp.2.2.1 (jB p.dvs m) (jE (by omega))).1).cells.2.1]) b3L (by simp) fun H12 hS18=> ?_
  simp only[RT]at hS18
  simp(disch:=omega) only[↓RA,RZ,simprocAttr,hn,g5,hS18.ld 5 rfl,q2,t1]
  refine hS18.aj [_] b3S b3O rfl rfl (by simp[Value.cells]) rfl rfl (by decide) (by decide) fun w3 H13 hS19=> ?_
  simp only[RT]at hS19
  simp(disch:=omega) only[↓RA,RZ,simprocAttr,hn,yJ (hS19.rd 6 rfl) pE.1 pE.2.1 pE.2.2,wD,q2]
  simp(disch:=omega) only[↓RA,RZ,simprocAttr,hn,hS19.ld 5 rfl,q2,t2]
  simp(disch:=omega) only[↓RA,RZ,simprocAttr,hn,a6y,a8T,q2]
  refine hS19.eNew 5 [(.string ⟨#[]⟩),(.bool false),I 0,I 0,(.slice none 0 0)] rfl rfl rfl sB fun A5 H14 hS20=> ?_
  simp only[RT]at hS20
  simp(disch:=omega) only[↓RA,RZ,simprocAttr,hn,q2]
  refine hS20.aa 7 rfl [(.string ⟨#[68,UInt8.ofNat (48+(m:Int)).toNat]⟩),(.bool (jB p.dvs m).pedal),I (36+((jB p.dvs m).low%12:Nat)),I (36+((jB p.dvs m).low%12:Nat)+((jB p.dvs m).keys%9:Nat)),(.slice none 0 0)] rfl rfl sB (by simp) fun H15 hS21=> ?_
  simp only[RT]at hS21
  simp(disch:=omega) only[↓RA,RZ,simprocAttr,q2]
  have hS22:=hS21.pick (os':=[⟨ptr A1 0 3,0,_⟩,⟨ptr A2 0 4,0,_⟩,⟨ptr A3 0 4,0,_⟩,⟨rv,6,_⟩,⟨dv,5,_⟩,⟨ptr A4 0 4,0,_⟩,⟨ptr A5 0 5,0,_⟩]) [0,1,2,3,4,5,7] (by decide) rfl
  have hS23:=hS22.nil 3
  simp only[RT]at hS23
  refine Wp.ak (fun n l H'=>l.length=153∧get l 1=(ptr A1 0 3)∧get l 2=(ptr A2 0 4)∧get l 3=(ptr A3 0 4)∧get l 5=I m∧get l 6=(ptr A4 0 4)∧get l 8=(ptr A5 0 5)∧∃(k:Nat)(sts:List Stp)(sv:Value),(n+k=(jB p.dvs m).stops.length∧sts.length=k∧(∀j,j<sts.length→StpOk rks.length (36+((jB p.dvs m).low%12:Nat)) (36+((jB p.dvs m).low%12:Nat)+((jB p.dvs m).keys%9:Nat)) j (jB sts j))∧∀s∈sts,s.Ix H' (nbL H.length [ptr A1 0 3,ptr A2 0 4,ptr A3 0 4,rv,dv,ptr A4 0 4,ptr A5 0 5,sv]))∧get l 9=I k∧St prog D H' [⟨ptr A1 0 3,0,[p.rv,p.dv,p.cv]⟩,⟨ptr A2 0 4,0,[(.string ⟨#[]⟩),(.slice none 0 0),(.slice none 0 0),(.slice none 0 0)]⟩,⟨ptr A3 0 4,0,[.string ⟨#[79,114,103,97,110]⟩,rv,dv,.slice none 0 0]⟩,⟨rv,6,rks.flatMap Rk.cells⟩,⟨dv,5,dvs.flatMap Dvn.cells⟩,⟨ptr A4 0 4,0,[(.int .u8 (jB p.dvs m).low),(.int .u8 (jB p.dvs m).keys),(.bool (jB p.dvs m).pedal),(jB p.dvs m).sv]⟩,⟨ptr A5 0 5,0,[.string ⟨#[68,UInt8.ofNat (48+(m:Int)).toNat]⟩,.bool (jB p.dvs m).pedal,I (36+((jB p.dvs m).low%12:Nat)),I (36+((jB p.dvs m).low%12:Nat)+((jB p.dvs m).keys%9:Nat)),sv]⟩,⟨sv,4,sts.flatMap Stp.cells⟩]) (jB p.dvs m).stops.length ?_ ?_
  ·simp(disch:=omega) only[RB,RC,simprocAttr,hn,g1,g2,g3,g5]
   exact⟨0,[],.slice none 0 0,⟨by omega,rfl,fun j hj=>absurd hj (eu _),by simp⟩,rfl,hS23⟩
  rintro n l H16⟨hn,g1,g2,g3,g5,g6,g8,k,sts,sv,⟨hj,hsl,hso,hsx⟩,g9,hS24⟩
  simp(disch:=omega) only[↓RA,RZ,simprocAttr,hn,g6,g9,hS24.ld 5 rfl,((hS6.ab hBC (hS15.ab hBD hS24)).sl (hp.2.2.1 (jB p.dvs m) (jE (by omega))).1).len]
  refine jA (fun q3=> ?_) (fun q3=> ?_)
  ·obtain⟨E,hBE,hS25⟩:=hS24.aA (os:=[⟨ptr A1 0 3,0,_⟩,⟨ptr A2 0 4,0,_⟩,⟨ptr A3 0 4,0,_⟩,⟨rv,6,_⟩,⟨dv,5,_⟩,⟨ptr A4 0 4,0,_⟩,⟨ptr A5 0 5,0,_⟩,⟨sv,4,_⟩])
   simp(disch:=omega) only[↓RA,RC,simprocAttr,q3]
   refine Wp.aJ kQ [(1,13),(1,14)] (by kernel_rfl) (by kernel_rfl) ?_
   simp(disch:=omega) only[↓RA,RZ,simprocAttr,hn,g3,g6,g8,g9,hS25.ld 6 rfl,hS25.ld 2 rfl,hS25.ae 6 rfl,hS25.ld 5 rfl,((hS6.ab hBC (hS15.ab hBD (hS24.ab hBE hS25))).sl (hp.2.2.1 (jB p.dvs m) (jE (by omega))).1).idx,((hS6.ab hBC (hS15.ab hBD (hS24.ab hBE hS25))).sl (hp.2.2.1 (jB p.dvs m) (jE (by omega))).1).ae,Pul.cells]
   have hSb:=hS25
   have hSbU:=(hS6.ab hBC (hS15.ab hBD (hS24.ab hBE hS25)))
   refine jG (c3I ((hS6.ab hBC (hS15.ab hBD (hS24.ab hBE hS25))).gl hG) rv rks (hS25.az 3 rfl (fun _=>rfl)) (by omega) (by omega) (fun j hj=>(hro j hj).feet) (36+((jB p.dvs m).low%12:Nat)) (36+((jB p.dvs m).low%12:Nat)+((jB p.dvs m).keys%9:Nat)) (by omega) (by omega) (by omega) (jB (jB p.dvs m).stops k) (hbk.2.2 _ (jE (by omega))) k (by omega)) ?_
   rintro r H17⟨s,rfl,hsx1,hok,hT2⟩
   have hS26:=hS25.trans hT2
   simp only[RT]at hS26
   have hkE:=(hS26.kept hBE).bK H.length
   have hkN:=(hSb.bq (H':=H17)).dy (L:=H.length) hSbU.len
   obtain⟨F,hBF,hS27⟩:=hS26.aA (os:=[⟨ptr A1 0 3,0,_⟩,⟨ptr A2 0 4,0,_⟩,⟨ptr A3 0 4,0,_⟩,⟨rv,6,_⟩,⟨dv,5,_⟩,⟨ptr A4 0 4,0,_⟩,⟨ptr A5 0 5,0,_⟩,⟨sv,4,_⟩])
   simp(disch:=omega) only[↓RA,RB,simprocAttr,hn]
   refine hS27.aj [(.string s.name),I s.num,I s.den,s.gv] c1C c5p rfl rfl (by first|(simp[];done)|simp[Value.cells]) (by first|(simp[];done)|simp[Value.cells]) (by simp[OC,hsx1.1.1.cells.2.1]) (by decide) (by decide) fun w4 H18 hS28=> ?_
   simp only[RT]at hS28
   simp(disch:=omega) only[↓RA,RZ,simprocAttr,hn]
   refine hS28.aq 7 rfl (hS28.rd 8 rfl) c1C (by rw[jJ (n:=4) (cel:=Stp.cells) (fun _=>rfl)];simp;omega) fun w5 H19 hS29=> ?_
   simp only[RT]at hS29
   simp(disch:=omega) only[↓RA,RZ,simprocAttr,hn,g8]
   refine hS29.aa 6 rfl [w5] (by rw[(hS29.rd 7 rfl).cells.1]) (by simp[(hS29.rd 7 rfl).cells.2.1]) c5t (by simp) fun H20 hS30=> ?_
   simp only[RT]at hS30
   simp(disch:=omega) only[↓RA,RZ,simprocAttr,hn,g1,g2,g3,g5,g6,g8,g9,hS27.ld 6 rfl,hS28.ld 6 rfl]
   have hS31:=hS30.pick (os':=[⟨ptr A1 0 3,0,_⟩,⟨ptr A2 0 4,0,_⟩,⟨ptr A3 0 4,0,_⟩,⟨rv,6,_⟩,⟨dv,5,_⟩,⟨ptr A4 0 4,0,_⟩,⟨ptr A5 0 5,0,_⟩,⟨w5,4,_⟩]) [0,1,2,3,4,5,6,7] (by decide) rfl
   have hkF:=(hS31.kept hBF).bK H.length
   refine⟨(jB p.dvs m).stops.length-(k+1),by omega,k+1,sts++[s],_,⟨by omega,by simp[hsl],yI hso (by rw[hsl];exact hok),a6U (fun s hs=>((hsx s hs).step hkE).step hkF) ((hsx1.step hkN).step hkF)⟩,by simp,?_⟩
   rw[vE]
   exact(hS24.ab hBE (hS26.ab hBF hS31))
  obtain⟨G,hBG,hS32⟩:=hS24.aA (os:=[⟨ptr A1 0 3,0,_⟩,⟨ptr A2 0 4,0,_⟩,⟨ptr A3 0 4,0,_⟩,⟨rv,6,_⟩,⟨dv,5,_⟩,⟨ptr A4 0 4,0,_⟩,⟨ptr A5 0 5,0,_⟩,⟨sv,4,_⟩])
  simp(disch:=omega) only[↓RA,RZ,simprocAttr,hn,g3,g8,hS32.ld 2 rfl,hS32.ae 6 rfl,q3]
  refine hS32.aj [(.string ⟨#[68,UInt8.ofNat (48+(m:Int)).toNat]⟩),(.bool (jB p.dvs m).pedal),I (36+((jB p.dvs m).low%12:Nat)),I (36+((jB p.dvs m).low%12:Nat)+((jB p.dvs m).keys%9:Nat)),sv] c6D d0m rfl rfl (by first|(simp[];done)|simp[Value.cells]) (by first|(simp[];done)|simp[Value.cells]) (by simp[OC,(hS32.rd 7 rfl).cells.2.1]) (by decide) (by decide) fun w6 H21 hS33=> ?_
  simp only[RT]at hS33
  simp(disch:=omega) only[↓RA,RZ,simprocAttr,hn,q3]
  refine hS33.aq 4 rfl (hS33.rd 8 rfl) c6D (by rw[jJ (n:=5) (cel:=Dvn.cells) (fun _=>rfl)];simp;omega) fun w7 H22 hS34=> ?_
  simp only[RT]at hS34
  simp(disch:=omega) only[↓RA,RZ,simprocAttr,hn,g3,q3]
  refine hS34.aa 2 rfl [w7] (by rw[(hS34.rd 4 rfl).cells.1]) (by simp[(hS34.rd 4 rfl).cells.2.1]) d0D (by simp) fun H23 hS35=> ?_
  simp only[RT]at hS35
  simp(disch:=omega) only[↓RA,RZ,simprocAttr,hn,g1,g2,g3,g5,q3]
  have hxm:=(hS6.ab hBC (hS15.ab hBD (hS24.ab hBG hS35))).bY (cel:=Stp.cells) 7 rfl (fun _=>rfl)
  have hxv:=(hS35.du (cel:=Stp.cells) (os':=[⟨ptr A1 0 3,0,_⟩,⟨ptr A2 0 4,0,_⟩,⟨ptr A3 0 4,0,_⟩,⟨rv,6,_⟩,⟨w7,5,_⟩]) 7 rfl (fun _=>rfl) [0,1,2,3,4] (by decide) rfl).both hxm
  have hS36:=hS35.pick (os':=[⟨ptr A1 0 3,0,_⟩,⟨ptr A2 0 4,0,_⟩,⟨ptr A3 0 4,0,_⟩,⟨rv,6,_⟩,⟨w7,5,_⟩]) [0,1,2,3,4] (by decide) rfl
  have hkG:=(hS36.kept hBG).bK H.length
  have hkD:=((hS24.ab hBG hS36).kept hBD).bK H.length
  have hnm:(⟨#[68,UInt8.ofNat (48+(m:Int)).toNat]⟩:ByteArray)=nm 68 m:=by rw[show(48+(m:Int)).toNat=48+m by omega];rfl
  have hdi:Dvn.Ix H23 (nbL H.length [ptr A1 0 3,ptr A2 0 4,ptr A3 0 4,rv,w7]) ⟨⟨#[68,UInt8.ofNat (48+(m:Int)).toNat]⟩,(jB p.dvs m).pedal,(36+((jB p.dvs m).low%12:Nat)),(36+((jB p.dvs m).low%12:Nat)+((jB p.dvs m).keys%9:Nat)),sv,sts⟩:=⟨hxv,fun s hs=>(hsx s hs).step hkG,by simp only;omega⟩
  have hdk:DvOk rks.length dvs.length ⟨⟨#[68,UInt8.ofNat (48+(m:Int)).toNat]⟩,(jB p.dvs m).pedal,(36+((jB p.dvs m).low%12:Nat)),(36+((jB p.dvs m).low%12:Nat)+((jB p.dvs m).keys%9:Nat)),sv,sts⟩:=⟨by rw[hdl];exact hnm,by simp only;omega,by simp only;omega,by simp only;omega,by simp only;omega,by simp only;omega,hso⟩
  refine⟨p.dvs.length-(m+1),by omega,m+1,dvs++[_],w7,⟨by omega,by simp[hdl],yI (Q:=fun j d=>DvOk rks.length j d∧d.stops.length=(jB p.dvs j).stops.length) hdo ⟨hdk,by rw[hdl];simp only;omega⟩,a6U (Q:=fun d=>Dvn.Ix H23 (nbL H.length [ptr A1 0 3,ptr A2 0 4,ptr A3 0 4,rv,w7]) d) (fun d hd=>(hdx d hd).step hkD) hdi⟩,by simp,?_⟩
  rw[vE]
  exact(hS15.ab hBD (hS24.ab hBG hS36))
 simp(disch:=omega) only[↓RA,RZ,simprocAttr,hn,g1,hS15.ld 0 rfl,((hS6.ab hBC hS15).sl hp.2.1).len,q2]
 have hdm:dvs.length=p.dvs.length:=by omega
 have hkC:=(hS15.kept hBC).bK H.length
 obtain⟨K,hBK,hS37⟩:=hS15.aA (os:=[⟨ptr A1 0 3,0,_⟩,⟨ptr A2 0 4,0,_⟩,⟨ptr A3 0 4,0,_⟩,⟨rv,6,_⟩,⟨dv,5,_⟩])
 have hS38:=hS37.nil 4
 simp only[RT]at hS38
 refine Wp.ak (fun n l H'=>l.length=153∧get l 1=(ptr A1 0 3)∧get l 2=(ptr A2 0 4)∧get l 3=(ptr A3 0 4)∧get l 10=I p.dvs.length∧∃(c:Nat)(cps:List Cpl)(cv:Value),(n+c=p.cpls.length∧cps.length=c∧∀j,j<cps.length→CpOk p.dvs.length j (jB cps j))∧get l 11=I c∧St prog K H' [⟨ptr A1 0 3,0,[p.rv,p.dv,p.cv]⟩,⟨ptr A2 0 4,0,[(.string ⟨#[]⟩),(.slice none 0 0),(.slice none 0 0),(.slice none 0 0)]⟩,⟨ptr A3 0 4,0,[.string ⟨#[79,114,103,97,110]⟩,rv,dv,cv]⟩,⟨rv,6,rks.flatMap Rk.cells⟩,⟨dv,5,dvs.flatMap Dvn.cells⟩,⟨cv,5,cps.flatMap Cpl.cells⟩]) p.cpls.length ?_ ?_
 ·simp(disch:=omega) only[RB,RC,simprocAttr,hn,g1,g2,g3]
  exact⟨0,[],.slice none 0 0,⟨by omega,rfl,fun j hj=>absurd hj (eu _)⟩,rfl,hS38⟩
 rintro n l H24⟨hn,g1,g2,g3,wW,c,cps,cv,⟨hc,hcl,hco⟩,g11,hS39⟩
 simp(disch:=omega) only[↓RA,RZ,simprocAttr,hn,g1,g11,hS39.ld 0 rfl,((hS6.ab hBC (hS15.ab hBK hS39)).sl hp.2.2.2.1).len]
 refine jA (fun q4=> ?_) (fun q4=> ?_)
 ·have hck:=hk.2.2 _ (jE (xs:=p.cpls) (j:=c) (by omega))
  have u1:((jB p.cpls c).src:Int).tmod p.dvs.length=(((jB p.cpls c).src%p.dvs.length:Nat):Int):=(fq _ _).symm
  have u2:((jB p.cpls c).dst:Int).tmod p.dvs.length=(((jB p.cpls c).dst%p.dvs.length:Nat):Int):=(fq _ _).symm
  have u3:(jB p.cpls c).src%p.dvs.length<p.dvs.length:=fz _ (by omega)
  have u4:(jB p.cpls c).dst%p.dvs.length<p.dvs.length:=fz _ (by omega)
  obtain⟨sh,hsh,hsh1,hsh2⟩:∃sh,(jB p.cpls c).shift.tmod 25=sh∧-24≤sh∧sh≤24:=⟨_,rfl,(b9R _).1,(b9R _).2⟩
  have hcs:=hck.1
  have hcd:=hck.2.1
  have hcf:=hck.2.2
  have hnm:(⟨#[67,UInt8.ofNat (48+(c:Int)).toNat]⟩:ByteArray)=nm 67 c:=by rw[show(48+(c:Int)).toNat=48+c by omega];rfl
  simp(disch:=omega) only[↓RA,RZ,simprocAttr,hn,g1,g11,hS39.ld 0 rfl,((hS6.ab hBC (hS15.ab hBK hS39)).sl hp.2.2.2.1).idx,((hS6.ab hBC (hS15.ab hBK hS39)).sl hp.2.2.2.1).ae,Lnk.cells,q4]
  refine hS39.eNew 4 [(.int .u8 0),(.int .u8 0),(.int .i8 0),(.bool false)] rfl rfl rfl b4r fun A6 H25 hS40=> ?_
  simp only[RT]at hS40
  simp(disch:=omega) only[↓RA,RZ,simprocAttr,hn,q4]
  refine hS40.aa 6 rfl [(.int .u8 (jB p.cpls c).src),(.int .u8 (jB p.cpls c).dst),(.int .i8 (jB p.cpls c).shift),(.bool (jB p.cpls c).thr)] rfl rfl b4r (by simp) fun H26 hS41=> ?_
  simp only[RT]at hS41
  simp(disch:=omega) only[↓RA,RZ,simprocAttr,q4]
  refine Wp.aJ kQ [(7,0),(8,0),(12,0),(13,0),(17,0),(18,0),(21,0)] (by kernel_rfl) (by kernel_rfl) ?_
  simp(disch:=omega) only[↓RA,RZ,simprocAttr,hn,g11]
  refine hS41.aj [_] b3S b3O rfl rfl (by simp[Value.cells]) rfl rfl (by decide) (by decide) fun w8 H27 hS42=> ?_
  simp only[RT]at hS42
  simp(disch:=omega) only[↓RA,RZ,simprocAttr,hn,yJ (hS42.rd 7 rfl) pE.1 pE.2.1 pE.2.2,wD]
  simp(disch:=omega) only[↓RA,RZ,simprocAttr,hn,wW,hS42.ld 6 rfl,u1,u2,hsh]
  simp(disch:=omega) only[↓RA,RZ,simprocAttr,a2H]
  refine hS42.eNew 5 [(.string ⟨#[]⟩),I 0,I 0,I 0,(.bool false)] rfl rfl rfl zP fun A7 H28 hS43=> ?_
  simp only[RT]at hS43
  simp(disch:=omega) only[↓RA,RB,simprocAttr,hn]
  refine hS43.aa 8 rfl [(.string ⟨#[67,UInt8.ofNat (48+(c:Int)).toNat]⟩),I (((jB p.cpls c).src%p.dvs.length:Nat):Int),I (((jB p.cpls c).dst%p.dvs.length:Nat):Int),I sh,(.bool (jB p.cpls c).thr)] rfl rfl zP (by simp) fun H29 hS44=> ?_
  simp only[RT]at hS44
  simp(disch:=omega) only[↓RA,RZ,simprocAttr,hn,hS41.ld 6 rfl,hS44.ld 8 rfl]
  refine jW (fun q5=> ?_) (fun q5=> ?_)
  ·simp(disch:=omega) only[↓RA,RZ,simprocAttr,hn,hS44.ld 8 rfl,q5]
   refine jA (fun q6=> ?_) (fun q6=> ?_)
   ·skip
    simp(disch:=omega) only[↓RA,RZ,simprocAttr,hn,q6]
    refine hS44.aa 8 rfl [I 12] rfl rfl tS3 (by simp) fun H30 hS45=> ?_
    simp only[RT]at hS45
    simp(disch:=omega) only[↓RA,RZ,simprocAttr,hn,g3,hS45.ld 2 rfl,hS45.ae 8 rfl,q6]
    refine hS45.aj [(.string ⟨#[67,UInt8.ofNat (48+(c:Int)).toNat]⟩),I (((jB p.cpls c).src%p.dvs.length:Nat):Int),I (((jB p.cpls c).dst%p.dvs.length:Nat):Int),I 12,(.bool (jB p.cpls c).thr)] b2Z c3Q rfl rfl (by simp[Value.cells]) rfl rfl (by decide) (by decide) fun w9 H31 hS46=> ?_
    simp only[RT]at hS46
    simp(disch:=omega) only[↓RA,RZ,simprocAttr,hn,q6]
    refine hS46.aq 5 rfl (hS46.rd 9 rfl) b2Z (by rw[jJ (n:=5) (cel:=Cpl.cells) (fun _=>rfl)];simp;omega) fun w10 H32 hS47=> ?_
    simp only[RT]at hS47
    simp(disch:=omega) only[↓RA,RZ,simprocAttr,hn,g3,q6]
    refine hS47.aa 2 rfl [w10] (by rw[(hS47.rd 5 rfl).cells.1]) (by simp[(hS47.rd 5 rfl).cells.2.1]) c2R (by simp) fun H33 hS48=> ?_
    simp only[RT]at hS48
    simp(disch:=omega) only[↓RA,RZ,simprocAttr,hn,g1,g2,g3,wW,g11,q6]
    have hS49:=hS48.pick (os':=[⟨ptr A1 0 3,0,_⟩,⟨ptr A2 0 4,0,_⟩,⟨ptr A3 0 4,0,_⟩,⟨rv,6,_⟩,⟨dv,5,_⟩,⟨w10,5,_⟩]) [0,1,2,3,4,5] (by decide) rfl
    have hcn:CpOk p.dvs.length cps.length ⟨⟨#[67,UInt8.ofNat (48+(c:Int)).toNat]⟩,(((jB p.cpls c).src%p.dvs.length:Nat):Int),(((jB p.cpls c).dst%p.dvs.length:Nat):Int),12,(jB p.cpls c).thr⟩:=⟨by rw[hcl];exact hnm,by simp only;omega,by simp only;omega,by simp only;omega,by simp only;omega⟩
    refine⟨n-1,by omega,c+1,cps++[_],w10,⟨by omega,by simp[hcl],yI hco hcn⟩,by simp,?_⟩
    rw[vE]
    exact hS49
   simp(disch:=omega) only[↓RA,RZ,simprocAttr,hn,g3,hS44.ld 2 rfl,hS44.ae 8 rfl,q6]
   refine hS44.aj [(.string ⟨#[67,UInt8.ofNat (48+(c:Int)).toNat]⟩),I (((jB p.cpls c).src%p.dvs.length:Nat):Int),I (((jB p.cpls c).dst%p.dvs.length:Nat):Int),I sh,(.bool (jB p.cpls c).thr)] b2Z c3Q rfl rfl (by simp[Value.cells]) rfl rfl (by decide) (by decide) fun w11 H34 hS50=> ?_
   simp only[RT]at hS50
   simp(disch:=omega) only[↓RA,RZ,simprocAttr,hn,q6]
   refine hS50.aq 5 rfl (hS50.rd 9 rfl) b2Z (by rw[jJ (n:=5) (cel:=Cpl.cells) (fun _=>rfl)];simp;omega) fun w12 H35 hS51=> ?_
   simp only[RT]at hS51
   simp(disch:=omega) only[↓RA,RZ,simprocAttr,hn,g3,q6]
   refine hS51.aa 2 rfl [w12] (by rw[(hS51.rd 5 rfl).cells.1]) (by simp[(hS51.rd 5 rfl).cells.2.1]) c2R (by simp) fun H36 hS52=> ?_
   simp only[RT]at hS52
   simp(disch:=omega) only[↓RA,RZ,simprocAttr,hn,g1,g2,g3,wW,g11,q6]
   have hS53:=hS52.pick (os':=[⟨ptr A1 0 3,0,_⟩,⟨ptr A2 0 4,0,_⟩,⟨ptr A3 0 4,0,_⟩,⟨rv,6,_⟩,⟨dv,5,_⟩,⟨w12,5,_⟩]) [0,1,2,3,4,5] (by decide) rfl
   have hcn:CpOk p.dvs.length cps.length ⟨⟨#[67,UInt8.ofNat (48+(c:Int)).toNat]⟩,(((jB p.cpls c).src%p.dvs.length:Nat):Int),(((jB p.cpls c).dst%p.dvs.length:Nat):Int),sh,(jB p.cpls c).thr⟩:=⟨by rw[hcl];exact hnm,by simp only;omega,by simp only;omega,by simp only;omega,by simp only;omega⟩
   refine⟨n-1,by omega,c+1,cps++[_],w12,⟨by omega,by simp[hcl],yI hco hcn⟩,by simp,?_⟩
   rw[vE]
   exact hS53
  simp(disch:=omega) only[↓RA,RZ,simprocAttr,hn,g3,hS44.ld 2 rfl,hS44.ae 8 rfl,q5]
  refine hS44.aj [(.string ⟨#[67,UInt8.ofNat (48+(c:Int)).toNat]⟩),I (((jB p.cpls c).src%p.dvs.length:Nat):Int),I (((jB p.cpls c).dst%p.dvs.length:Nat):Int),I sh,(.bool (jB p.cpls c).thr)] b2Z c3Q rfl rfl (by simp[Value.cells]) rfl rfl (by decide) (by decide) fun w13 H37 hS54=> ?_
  simp only[RT]at hS54
  simp(disch:=omega) only[↓RA,RZ,simprocAttr,hn,q5]
  refine hS54.aq 5 rfl (hS54.rd 9 rfl) b2Z (by rw[jJ (n:=5) (cel:=Cpl.cells) (fun _=>rfl)];simp;omega) fun w14 H38 hS55=> ?_
  simp only[RT]at hS55
  simp(disch:=omega) only[↓RA,RZ,simprocAttr,hn,g3,q5]
  refine hS55.aa 2 rfl [w14] (by rw[(hS55.rd 5 rfl).cells.1]) (by simp[(hS55.rd 5 rfl).cells.2.1]) c2R (by simp) fun H39 hS56=> ?_
  simp only[RT]at hS56
  simp(disch:=omega) only[↓RA,RZ,simprocAttr,hn,g1,g2,g3,wW,g11,q5]
  have hS57:=hS56.pick (os':=[⟨ptr A1 0 3,0,_⟩,⟨ptr A2 0 4,0,_⟩,⟨ptr A3 0 4,0,_⟩,⟨rv,6,_⟩,⟨dv,5,_⟩,⟨w14,5,_⟩]) [0,1,2,3,4,5] (by decide) rfl
  have hcn:CpOk p.dvs.length cps.length ⟨⟨#[67,UInt8.ofNat (48+(c:Int)).toNat]⟩,(((jB p.cpls c).src%p.dvs.length:Nat):Int),(((jB p.cpls c).dst%p.dvs.length:Nat):Int),sh,(jB p.cpls c).thr⟩:=⟨by rw[hcl];exact hnm,by simp only;omega,by simp only;omega,by simp only;omega,by simp only;omega⟩
  refine⟨n-1,by omega,c+1,cps++[_],w14,⟨by omega,by simp[hcl],yI hco hcn⟩,by simp,?_⟩
  rw[vE]
  exact hS57
 simp(disch:=omega) only[↓RA,RZ,simprocAttr,hn,g2,g3,hS39.ae 2 rfl,q4]
 refine hS39.aa 1 rfl [(.string ⟨#[79,114,103,97,110]⟩),rv,dv,cv] rfl (by simp[OC,(hS39.rd 3 rfl).cells.2.1,(hS39.rd 4 rfl).cells.2.1,(hS39.rd 5 rfl).cells.2.1]) zD (by simp) fun H40 hS58=> ?_
 simp only[RT]at hS58
 simp(disch:=omega) only[↓RA,RZ,simprocAttr,g2,d1X,hS58.ae 1 rfl,q4]
 have hcm:cps.length=p.cpls.length:=by omega
 have hkK:=((hS58.pick (os':=[⟨ptr A1 0 3,0,_⟩,⟨ptr A2 0 4,0,_⟩,⟨ptr A3 0 4,0,_⟩,⟨rv,6,_⟩,⟨dv,5,_⟩]) [0,1,2,3,4] (by decide) rfl).kept hBK).bK H.length
 refine⟨⟨⟨#[79,114,103,97,110]⟩,rv,rks,dv,dvs,cv,cps⟩,rfl,⟨(hS6.ab hBC (hS15.ab hBK hS58)).bY 3 rfl (fun _=>rfl),fun r hr=>(((hrx r hr).step hkC).step hkK).step Kept.snd,(hS6.ab hBC (hS15.ab hBK hS58)).bY 4 rfl (fun _=>rfl),fun d hd=>((hdx d hd).step hkK).step Kept.snd,(hS6.ab hBC (hS15.ab hBK hS58)).bY 5 rfl (fun _=>rfl),by simp only;omega,by simp only;omega,by simp only;omega⟩,
  ⟨⟨rfl,by simp only;omega,by simp only;omega,hro,by simp only;omega,by simp only;omega,fun j hj=>(hdo j hj).1,by simp only;omega,by simp only[hdm];exact hco⟩,hri,hdm,hcm,fun j hj=>(hdo j (by omega)).2⟩,(hS6.ab hBC (hS15.ab hBK hS58)).forget⟩
end Go.Ds
namespace Go.Ds
open Go.Proofs Go.Proofs.Tryz
variable {H:Heap}
set_option maxRecDepth 10000
set_option maxHeartbeats 1000000
structure Made26(p:Pln)(b kb:Nat→Nat)(br bn:Nat)(s:Sn):Prop where
 made:Made p s.o
 rg:s.rg=qX s.o b
 ks:s.ks=pU s.o kb
 p1:s.p.1=((br%s.o.ranks.length:Nat):Int)
 p2:s.p.2=((bn%(jB s.o.ranks (br%s.o.ranks.length)).wind.length:Nat):Int)
theorem Org.bM{o:Org}(h:organE o=0){j:Nat}(hj:j<o.ranks.length):0<(jB o.ranks j).wind.length∧(jB o.ranks j).wind.length≤128:=by
 unfold organE at h
 split at h
 ·omega
 split at h
 ·omega
 split at h
 ·rename_i hh;exact absurd h hh
 rename_i hr
 have e:=pP (dX.1 hr) j hj
 unfold pG at e
 split at e
 ·rename_i hh;exact absurd e hh
 rename_i h1
 have e:=dX.1 h1
 unfold rankE at e
 split at e
 ·omega
 split at e
 ·rename_i hh;exact absurd e hh
 split at e
 ·omega
 split at e
 ·omega
 split at e
 ·omega
 omega
theorem a5S{p:Pln}(h:tV p=true):0<p.ranks.length:=by
 unfold tV at h
 simp only[dB,decide_eq_true_eq,dT]at h
 omega
theorem Made26.fit{p:Pln}{b kb:Nat→Nat}{br bn:Nat}{s:Sn}(h:Made26 p b kb br bn s)(hf:tV p=true):s.Fit:=by
 have hoe:=h.made.ok.organE
 have h0:0<s.o.ranks.length:=by rw[h.made.rlen];exact a5S hf
 have hm:br%s.o.ranks.length<s.o.ranks.length:=fz _ h0
 have hw:=Org.bM hoe hm
 have hm2:bn%(jB s.o.ranks (br%s.o.ranks.length)).wind.length<(jB s.o.ranks (br%s.o.ranks.length)).wind.length:=fz _ hw.1
 refine⟨by rw[h.rg];exact b6g b hoe,by rw[h.ks];exact b3G hoe kb,?_⟩
 unfold pOk
 rw[h.p1,eh,h.p2]
 simp only[dB,decide_eq_true_eq]
 omega
theorem b7x(hG:Glob gH H)(p:Pln)(hp:p.In H)(hk:p.Ok)(hf:tV p=true)(b:Nat→Nat)(hb:∀i,b i<256)(kb:Nat→Nat)(hkb:∀i,kb i<65536)(br bn:Nat)(hbr:br<256)(hbn:bn<256):
 Fn prog 14 [.agg #[p.rv,p.dv,p.cv],.agg #[.int .u8 (b 0),.int .u8 (b 1),.int .u8 (b 2),.int .u8 (b 3),.int .u8 (b 4),.int .u16 (kb 0),.int .u16 (kb 1),.int .u16 (kb 2),.int .u8 br,.int .u8 bn]] H fun r H'=>
  ∃s:Sn,r=s.v∧s.In H'∧Made26 p b kb br bn s∧St prog H H' []:=by
 refine .aE func14 rfl (by kernel_rfl) (m:=44) rfl fun l hn g0 g1=> ?_
 simp(disch:=omega) only[↓RA,RB,simprocAttr,g0]
 refine(sR H).eNew 3 [p.rv,p.dv,p.cv] rfl rfl (by simp[((sR H).sl hp.1).cells.2.1,((sR H).sl hp.2.1).cells.2.1,((sR H).sl hp.2.2.2.1).cells.2.1]) c1T fun A1 H1 hS1=> ?_
 simp only[RT]at hS1
 simp(disch:=omega) only[↓RA,RB,simprocAttr,g1]
 refine hS1.eNew 10 [(.int .u8 (b 0)),(.int .u8 (b 1)),(.int .u8 (b 2)),(.int .u8 (b 3)),(.int .u8 (b 4)),(.int .u16 (kb 0)),(.int .u16 (kb 1)),(.int .u16 (kb 2)),(.int .u8 br),(.int .u8 bn)] rfl rfl rfl c7o fun A2 H2 hS2=> ?_
 simp only[RT]at hS2
 simp(disch:=omega) only[↓RA,RZ,simprocAttr]
 refine hS2.eNew 10 [(.string ⟨#[]⟩),(.slice none 0 0),(.slice none 0 0),(.slice none 0 0),(.slice none 0 0),(.int .u64 0),(.int .u64 0),(.slice none 0 0),I 0,I 0] rfl rfl rfl pS fun A3 H3 hS3=> ?_
 simp only[RT]at hS3
 simp(disch:=omega) only[↓RA,RZ,simprocAttr,hn,hS3.ae 0 rfl]
 have hSb:=hS3
 refine jG (b1m (hS3.gl hG) p (hp.ag hS3) hk hf) ?_
 rintro r H4⟨o,rfl,hox,hm,hT1⟩
 have hS4:=hS3.trans hT1
 simp only[RT]at hS4
 have hN:=hox.step (hSb.bq (H':=H4))
 obtain⟨X,hBX,hS5⟩:=hS4.aA (os:=[⟨ptr A1 0 3,0,_⟩,⟨ptr A2 0 10,0,_⟩,⟨ptr A3 0 10,0,_⟩])
 have hin:∀{H1 os},St prog X H1 os→o.In H1:=fun h=>(hN.step (h.kept hBX)).in
 have hoe:=hm.ok.organE
 have hf0:=Org.aK hoe
 obtain⟨k1,k2,k3⟩:=hm.small hf
 have hok:=b7o (o:=o) hb k2
 simp(disch:=omega) only[↓RA,RZ,simprocAttr]
 refine hS5.eNew 4 [(.string ⟨#[]⟩),(.slice none 0 0),(.slice none 0 0),(.slice none 0 0)] rfl rfl rfl zD fun A4 H5 hS6=> ?_
 simp only[RT]at hS6
 simp(disch:=omega) only[↓RA,RB,simprocAttr,hn]
 refine hS6.aa 3 rfl [(.string o.name),o.rv,o.dv,o.cv] rfl (by simp[OC,hox.in.1.cells.2.1,hox.in.2.2.1.cells.2.1,hox.in.2.2.2.2.1.cells.2.1]) zD (by simp) fun H6 hS7=> ?_
 simp only[RT]at hS7
 simp(disch:=omega) only[↓RA,RB,simprocAttr]
 refine Wp.aJ kQ [(0,5),(0,9),(5,0),(7,0)] (by kernel_rfl) (by kernel_rfl) ?_
 simp(disch:=omega) only[↓RA,RZ,simprocAttr,hn,hS7.ae 3 rfl,hS7.ae 1 rfl]
 refine jG (b1q o (hin hS7) k1 k2 k3 b hb) ?_
 rintro r H7⟨sv,rfl,hT2⟩
 have hS8:=hS7.trans hT2
 simp only[RT]at hS8
 simp(disch:=omega) only[↓RA,RZ,simprocAttr,hn,hS8.ae 3 rfl,hS8.ae 1 rfl]
 refine jG ((b2g o (hin hS8) hf0 kb hkb).tr) ?_
 rintro r H8⟨-,hT3⟩
 have hS9:=hS8.trans hT3
 simp only[RT]at hS9
 obtain⟨kv,rfl⟩:∃w,w=r:=⟨r,rfl⟩
 have h0:0<o.ranks.length:=by rw[hm.rlen];exact a5S hf
 have hrl:=hf0.rlen
 have u1:(br:Int).tmod o.ranks.length=((br%o.ranks.length:Nat):Int):=(fq _ _).symm
 obtain⟨q,hq⟩:∃q,q=br%o.ranks.length:=⟨_,rfl⟩
 have hqm:q<o.ranks.length:=by rw[hq];exact fz _ h0
 rw[←hq]at u1
 have hw:=Org.bM hoe hqm
 have u2:(bn:Int).tmod (jB o.ranks q).wind.length=((bn%(jB o.ranks q).wind.length:Nat):Int):=(fq _ _).symm
 simp(disch:=omega) only[↓RA,RZ,simprocAttr,hn,b2s hox.in.1.cells hox.in.2.2.1.cells hox.in.2.2.2.2.1.cells (hS9.rd 4 rfl).cells (hS9.rd 5 rfl).cells]
 refine hS9.eNew 10 [(.string ⟨#[]⟩),(.slice none 0 0),(.slice none 0 0),(.slice none 0 0),(.slice none 0 0),(.int .u64 0),(.int .u64 0),(.slice none 0 0),I 0,I 0] rfl rfl rfl pS fun A5 H9 hS10=> ?_
 simp only[RT]at hS10
 simp(disch:=omega) only[↓RA,RB,simprocAttr,hn]
 refine hS10.aa 6 rfl [(.string o.name),o.rv,o.dv,o.cv,sv,(.int .u64 (qX o b).cpl),(.int .u64 (qX o b).off),kv,I 0,I 0] rfl (by simp[OC,hox.in.1.cells.2.1,hox.in.2.2.1.cells.2.1,hox.in.2.2.2.2.1.cells.2.1,(hS10.rd 4 rfl).cells.2.1,(hS10.rd 5 rfl).cells.2.1]) pS (by simp) fun H10 hS11=> ?_
 simp only[RT]at hS11
 simp(disch:=omega) only[↓RA,RZ,simprocAttr,hn,hS8.ae 3 rfl,hS9.ae 3 rfl,hS7.ae 3 rfl,hS7.ae 1 rfl,hS11.ld 1 rfl,hS11.ld 3 rfl,((hin hS11).1).len,u1]
 refine hS11.aa 6 rfl [I q] rfl rfl tS3 (by simp) fun H11 hS12=> ?_
 simp only[RT]at hS12
 simp(disch:=omega) only[↓RA,RB,simprocAttr]
 refine Wp.drw kQ (by kernel_rfl) ?_
 simp(disch:=omega) only[↓RA,RZ,simprocAttr,hn,hS12.ld 1 rfl,hS12.ld 3 rfl,hS12.ld 6 rfl,((hin hS12).1).idx,((hin hS12).1).aZ,((hin hS12).1).ld,Rk.cells,(((hin hS12).2.1 (jB o.ranks q) (jE (by omega))).1).len,u2]
 refine hS12.aa 6 rfl [I (bn%(jB o.ranks q).wind.length:Nat)] rfl rfl tS3 (by simp) fun H12 hS13=> ?_
 simp only[RT]at hS13
 simp(disch:=omega) only[↓RA,RZ,simprocAttr,hn,hS13.ae 6 rfl]
 refine hS13.aa 2 rfl [(.string o.name),o.rv,o.dv,o.cv,sv,(.int .u64 (qX o b).cpl),(.int .u64 (qX o b).off),kv,I q,I (bn%(jB o.ranks q).wind.length:Nat)] rfl (by simp[OC,hox.in.1.cells.2.1,hox.in.2.2.1.cells.2.1,hox.in.2.2.2.2.1.cells.2.1,(hS13.rd 4 rfl).cells.2.1,(hS13.rd 5 rfl).cells.2.1]) pS (by simp) fun H13 hS14=> ?_
 simp only[RT]at hS14
 simp(disch:=omega) only[↓RA,RZ,simprocAttr,hn,d0Z,hS14.ae 2 rfl]
 have hkl:=vU o kb
 exact⟨⟨o,sv,qX o b,kv,pU o kb,((q:Int),((bn%(jB o.ranks q).wind.length:Nat):Int))⟩,rfl,⟨hin hS14,⟨hS14.az 4 rfl (fun _=>rfl),hok⟩,⟨hS14.az 5 rfl (fun _=>rfl),by simp only;omega,b0I hf0 kb⟩⟩,⟨hm,rfl,rfl,by rw[hq],by rw[hq]⟩,(hS4.ab hBX hS14).forget⟩
def zE(s:Sn)(c:Ctl):Int:=
 if c.kind≠1∧c.kind≠2 then 12
 else if c.kind=2∧c.dv=0∧cplB s c.ix=true then 0
 else if c.kind=1∧0≤c.dv∧c.dv<s.rg.stops.length∧0≤c.ix∧c.ix<64∧(jB s.rg.stops c.dv.toNat).testBit c.ix.toNat=true then 0
 else 10
def a1U(s:Sn)(l:List Ctl):Int:=if snE s≠0 then snE s else mX (fun j=>zE s (jB l j)) l.length
def uM(s:Sn)(l:List Ctl):Reg:=if a1U s l=0 then l.foldl mE s.rg else⟨[],0,0⟩
theorem a2S(g:Reg):∀l:List Ctl,(l.foldl mE g).stops.length=g.stops.length:=by
 intro l
 induction l generalizing g with
 | nil=>rfl
 | cons c l ih=>rw[fN,ih,a2k]
theorem b3u(s:Sn)(hs:s.In H)(lv:Value)(cs:List Ctl)(hl:Sl 3 Ctl.cells H lv cs)(hll:cs.length<1000000):Fn prog 15 [s.v,lv] H fun r H'=>∃nv,r=.tuple #[.agg #[nv,.int .u64 (uM s cs).cpl,.int .u64 (uM s cs).off],I (a1U s cs)]∧St prog H H' [⟨nv,1,(uM s cs).stops.flatMap (one u64)⟩]:=by
 refine .aE func15 rfl (by kernel_rfl) (m:=115) rfl fun l hn g0 g1=> ?_
 simp(disch:=omega) only[↓RA,RB,simprocAttr,g0]
 refine(sR H).eNew 10 [(.string s.o.name),s.o.rv,s.o.dv,s.o.cv,s.sv,(.int .u64 s.rg.cpl),(.int .u64 s.rg.off),s.kv,I s.p.1,I s.p.2] rfl rfl (by simp[OC,((sR H).sl hs.o.1).cells.2.1,((sR H).sl hs.o.2.2.1).cells.2.1,((sR H).sl hs.o.2.2.2.2.1).cells.2.1,((sR H).sl hs.rg.1).cells.2.1,((sR H).sl hs.ks.sl).cells.2.1]) pS fun A1 H1 hS1=> ?_
 simp only[RT]at hS1
 simp(disch:=omega) only[↓RA,RZ,simprocAttr]
 refine hS1.eNew 3 [(.slice none 0 0),(.int .u64 0),(.int .u64 0)] rfl rfl rfl tT fun A2 H2 hS2=> ?_
 simp only[RT]at hS2
 simp(disch:=omega) only[↓RA,RZ,simprocAttr,hn,hS2.ae 0 rfl]
 refine hS2.cF (yV s (hs.ag hS2)) fun H3 hS3=> ?_
 simp(disch:=omega) only[↓RA,RB,simprocAttr,hn]
 refine jA (fun h1=> ?_) (fun h1=> ?_)
 ·have hE:a1U s cs=snE s:=by unfold a1U;rw[if_pos h1]
  have hR:uM s cs=⟨[],0,0⟩:=by unfold uM;rw[hE,if_neg h1]
  simp(disch:=omega) only[↓RA,RZ,simprocAttr,hn,a0L,h1]
  refine hS3.aa 1 rfl [(.slice none 0 0),(.int .u64 0),(.int .u64 0)] rfl rfl tT (by simp) fun H4 hS4=> ?_
  simp only[RT]at hS4
  simp(disch:=omega) only[↓RA,RZ,simprocAttr,hn,a4P,hS4.ae 1 rfl,h1]
  exact⟨.slice none 0 0,by rw[hE,hR];rfl,by rw[hR];exact(hS4.forget).nil 0⟩
 have h1:snE s=0:=dX.1 h1
 have hfit:=qG.1 h1
 have hsl:=hfit.sl
 have hd1:=hfit.aK.dpos
 have hd2:=hfit.aK.dlen
 have hE0:a1U s cs=mX (fun j=>zE s (jB cs j)) cs.length:=by unfold a1U;rw[if_neg (by rw[h1];decide)]
 simp(disch:=omega) only[↓RA,RZ,simprocAttr,hn,hS3.ae 0 rfl,h1]
 refine hS3.eNew 3 [(.slice none 0 0),(.int .u64 0),(.int .u64 0)] rfl rfl rfl tT fun A3 H5 hS5=> ?_
 simp only[RT]at hS5
 simp(disch:=omega) only[↓RA,RZ,simprocAttr,hn,h1]
 refine hS5.aa 2 rfl [s.sv,(.int .u64 s.rg.cpl),(.int .u64 s.rg.off)] rfl (by simp[OC,(hS5.sl hs.rg.1).cells.2.1]) tT (by simp) fun H6 hS6=> ?_
 simp only[RT]at hS6
 simp(disch:=omega) only[↓RA,RZ,simprocAttr,hn,hS6.ld 2 rfl,h1]
 refine jG ((b8X s.sv s.rg.stops (hS6.sl hs.rg.1) (by omega) (by omega)).tr) ?_
 rintro r H7⟨-,hT2⟩
 have hS7:=hS6.trans hT2
 simp only[RT]at hS7
 simp(disch:=omega) only[↓RA,RZ,simprocAttr,hn,h1]
 refine hS7.aa 2 rfl [r] (by rw[(hS7.rd 3 rfl).cells.1]) (by simp[(hS7.rd 3 rfl).cells.2.1]) c7f (by simp) fun H8 hS8=> ?_
 simp only[RT]at hS8
 simp(disch:=omega) only[↓RA,RZ,simprocAttr,hn,g1,(hS8.sl hl).len,h1]
 refine Wp.ak (fun n l H'=>l.length=115∧get l 2=(ptr A1 0 10)∧get l 4=(ptr A2 0 3)∧get l 7=(ptr A3 0 3)∧get l 22=lv∧get l 23=I cs.length∧∃(j:Nat)(g:Reg),(n+j=cs.length∧g=(cs.take j).foldl mE s.rg∧∀q,q<j→zE s (jB cs q)=0)∧get l 24=I j∧St prog H H' [⟨ptr A1 0 10,0,[(.string s.o.name),s.o.rv,s.o.dv,s.o.cv,s.sv,(.int .u64 s.rg.cpl),(.int .u64 s.rg.off),s.kv,I s.p.1,I s.p.2]⟩,⟨ptr A2 0 3,0,[(.slice none 0 0),(.int .u64 0),(.int .u64 0)]⟩,⟨ptr A3 0 3,0,[r,.int .u64 g.cpl,.int .u64 g.off]⟩,⟨r,1,g.stops.flatMap (one u64)⟩]) cs.length ?_ ?_
 ·simp(disch:=omega) only[RB,RC,simprocAttr,hn]
  exact⟨0,s.rg,⟨by omega,rfl,fun q hq=>absurd hq (eu _)⟩,rfl,hS8⟩
 rintro n l H9⟨hn,g2,g4,g7,g22,g23,j,g,⟨hj,hg,hz⟩,g24,hS9⟩
 have hgl:g.stops.length=s.rg.stops.length:=by rw[hg,a2S]
 simp(disch:=omega) only[↓RA,RB,simprocAttr,hn,g23,g24]
 refine jA (fun q1=> ?_) (fun q1=> ?_)
 ·have hbad:∀e:Int,e≠0→zE s (jB cs j)=e→a1U s cs=e∧uM s cs=⟨[],0,0⟩:=fun e h0 h=>by
   have h2:a1U s cs=e:=by rw[hE0,rO _ _ j (by omega) (by rw[h];exact h0) hz,h]
   exact⟨h2,by unfold uM;rw[h2,if_neg h0]⟩
  have hnext:zE s (jB cs j)=0→(∀q,q<j+1→zE s (jB cs q)=0)∧mE g (jB cs j)=(cs.take (j+1)).foldl mE s.rg:=fun h=>by
   refine⟨fun q hq=> ?_,?_⟩
   ·rcases dK.1 hq with e|e
    ·exact hz q e
    ·rw[e];exact h
   ·rw[nJ cs j (by omega),gh,←hg]
    rfl
  simp(disch:=omega) only[↓RA,RZ,simprocAttr,hn,g22,g24,(hS9.sl hl).idx,(hS9.sl hl).ae,Ctl.cells,q1]
  refine hS9.eNew 3 [I 0,I 0,I 0] rfl rfl rfl a4N fun A4 H10 hS10=> ?_
  simp only[RT]at hS10
  simp(disch:=omega) only[↓RA,RZ,simprocAttr,hn,q1]
  refine hS10.aa 4 rfl [I (jB cs j).kind,I (jB cs j).dv,I (jB cs j).ix] rfl rfl a4N (by simp) fun H11 hS11=> ?_
  simp only[RT]at hS11
  simp(disch:=omega) only[↓RA,RZ,simprocAttr,hn,hS11.ld 4 rfl,q1]
  generalize hc:jB cs j=c at hbad hnext hS11 ⊢
  refine jW (fun k1=> ?_) (fun k1=> ?_)
  ·simp(disch:=omega) only[↓RA,RZ,simprocAttr,hn,hS11.ld 4 rfl,q1,k1]
   refine jA (fun k2=> ?_) (fun k2=> ?_)
   ·have hE:=hbad 12 (by decide) (by unfold zE;rw[if_pos ⟨k1,k2⟩])
    simp(disch:=omega) only[↓RA,RZ,simprocAttr,hn,g4,a0L,q1,k1,k2]
    refine hS11.aa 1 rfl [(.slice none 0 0),(.int .u64 0),(.int .u64 0)] rfl rfl tT (by simp) fun H12 hS12=> ?_
    simp only[RT]at hS12
    simp(disch:=omega) only[↓RA,RZ,simprocAttr,hn,g4,a4P,hS12.ae 1 rfl,q1,k1,k2]
    exact⟨.slice none 0 0,by rw[hE.1,hE.2];rfl,by rw[hE.2];exact(hS12.forget).nil 0⟩
   have k2:c.kind=2:=dX.1 k2
   have hbad10:¬(c.dv=0∧cplB s c.ix=true)→a1U s cs=10∧uM s cs=⟨[],0,0⟩:=fun h=>hbad 10 (by decide) (by unfold zE;rw[if_neg (fun q=>q.2 k2),if_neg (fun q=>h q.2),if_neg (fun q=>k1 q.1)])
   simp(disch:=omega) only[↓RA,RZ,simprocAttr,hn,hS11.ld 4 rfl,q1,k2]
   refine jW (fun k4=> ?_) (fun k4=> ?_)
   ·simp(disch:=omega) only[↓RA,RZ,simprocAttr,hn,g2,hS11.ae 0 rfl,hS11.ld 4 rfl,q1,k2,k4]
    refine hS11.cF (a6v s (hs.ag hS11) c.ix) fun H13 hS13=> ?_
    simp(disch:=omega) only[↓RA,RZ,simprocAttr,hn,q1,k2,k4]
    refine kA (fun k5=> ?_) (fun k5=> ?_)
    ·obtain⟨hi0,hi1,_⟩:=tN k5
     have hcl:=hfit.aK.clen
     obtain⟨i,hi⟩:∃i:Nat,c.ix=i:=⟨c.ix.toNat,by omega⟩
     have e1:=c9f g.cpl i (by omega)
     obtain⟨hn1,hn2⟩:=hnext (by unfold zE;rw[if_neg (fun q=>q.2 k2),if_pos ⟨k2,k4,k5⟩])
     have hlf:mE g c={g with cpl:=uO g.cpl i}:=by unfold mE;rw[if_neg k1,if_pos k2,hi]
     simp only[hi]at hS13
     simp(disch:=omega) only[↓RA,RZ,simprocAttr,q1,k2,k4,k5]
     refine Wp.drw kQ (by kernel_rfl) ?_
     simp(disch:=omega) only[↓RA,RZ,simprocAttr,hn,g7,hS13.ld 2 rfl,hS13.ld 4 rfl,k2,k4,e1]
     refine hS13.aa 2 rfl [_] rfl rfl c0s (by simp) fun H14 hS14=> ?_
     simp only[RT]at hS14
     simp(disch:=omega) only[↓RA,RZ,simprocAttr,hn,g2,g4,g7,g22,g23,g24]
     refine⟨n-1,by omega,j+1,mE g c,⟨by omega,hn2,hn1⟩,by simp,?_⟩
     rw[hlf]
     exact hS14.pick [0,1,2,3] (by decide) rfl
    have hE:=hbad10 fun h=>by rw[k5]at h;exact absurd h.2 (by decide)
    simp(disch:=omega) only[↓RA,RZ,simprocAttr,q1,k2,k4,k5]
    refine Wp.drw kQ (by kernel_rfl) ?_
    simp(disch:=omega) only[↓RA,RZ,simprocAttr,hn,hS13.ld 4 rfl,k2,k4]
    simp(disch:=omega) only[↓RA,RB,simprocAttr,hn,g4,a0L]
    refine hS13.aa 1 rfl [(.slice none 0 0),(.int .u64 0),(.int .u64 0)] rfl rfl tT (by simp) fun H15 hS15=> ?_
    simp only[RT]at hS15
    simp(disch:=omega) only[↓RA,RZ,simprocAttr,hn,g4,a4P,hS15.ae 1 rfl]
    exact⟨.slice none 0 0,by rw[hE.1,hE.2];rfl,by rw[hE.2];exact(hS15.forget).nil 0⟩
   have hE:=hbad10 fun h=>k4 h.1
   simp(disch:=omega) only[↓RA,RZ,simprocAttr,hn,q1,k2,k4]
   refine Wp.drw kQ (by kernel_rfl) ?_
   simp(disch:=omega) only[↓RA,RZ,simprocAttr,hn,hS11.ld 4 rfl,k2]
   simp(disch:=omega) only[↓RA,RB,simprocAttr,hn,g4,a0L]
   refine hS11.aa 1 rfl [(.slice none 0 0),(.int .u64 0),(.int .u64 0)] rfl rfl tT (by simp) fun H16 hS16=> ?_
   simp only[RT]at hS16
   simp(disch:=omega) only[↓RA,RZ,simprocAttr,hn,g4,a4P,hS16.ae 1 rfl]
   exact⟨.slice none 0 0,by rw[hE.1,hE.2];rfl,by rw[hE.2];exact(hS16.forget).nil 0⟩
  have k1:c.kind=1:=dX.1 k1
  have hbad10:¬(0≤c.dv∧c.dv<s.rg.stops.length∧0≤c.ix∧c.ix<64∧(jB s.rg.stops c.dv.toNat).testBit c.ix.toNat=true)→a1U s cs=10∧uM s cs=⟨[],0,0⟩:=fun h=>hbad 10 (by decide) (by unfold zE;rw[if_neg (fun q=>q.1 k1),if_neg (fun q=>by omega),if_neg (fun q=>h q.2)])
  simp(disch:=omega) only[↓RA,RZ,simprocAttr,hn,hS11.ld 4 rfl,q1,k1]
  refine Wp.drw kQ (by kernel_rfl) ?_
  simp(disch:=omega) only[↓RA,RZ,simprocAttr,hn,hS11.ld 4 rfl,k1]
  refine jW (fun k4=> ?_) (fun k4=> ?_)
  ·simp(disch:=omega) only[↓RA,RZ,simprocAttr,hn,g7,hS11.ld 4 rfl,hS11.ld 2 rfl,(hS11.az 3 rfl (fun _=>rfl)).len,k1,k4]
   refine jW (fun k5=> ?_) (fun k5=> ?_)
   ·simp(disch:=omega) only[↓RA,RZ,simprocAttr,hn,hS11.ld 4 rfl,k1,k4,k5]
    refine jW (fun k6=> ?_) (fun k6=> ?_)
    ·simp(disch:=omega) only[↓RA,RZ,simprocAttr,hn,hS11.ld 4 rfl,k1,k4,k5,k6]
     refine jW (fun k7=> ?_) (fun k7=> ?_)
     ·obtain⟨d,hd⟩:∃d:Nat,c.dv=d:=⟨c.dv.toNat,by omega⟩
      obtain⟨i,hi⟩:∃i:Nat,c.ix=i:=⟨c.ix.toNat,by omega⟩
      have hdl:d<s.rg.stops.length:=by omega
      have hsx:=hs.rg.2.2.1 _ (jE (xs:=s.rg.stops) (j:=d) hdl)
      have e2:=b1x (jB s.rg.stops d) i hsx
      have e3:=b4N (jB s.rg.stops d>>>i) (a7j _ hsx)
      have e4:(jB s.rg.stops d).testBit i=decide (jB s.rg.stops d>>>i%2=1):=tb _ _
      rw[hd]at k4 k5
      rw[hi]at k6 k7
      simp only[hd,hi]at hS11
      simp(disch:=omega) only[↓RA,RZ,simprocAttr,hn,g2,hS11.ld 0 rfl,hS11.ld 4 rfl,(hS11.sl hs.rg.1).idx,(hS11.sl hs.rg.1).ld,one,u64,k1,k4,k5,k6,k7,hd,hi,e2,e3]
      refine jA (fun k8=> ?_) (fun k8=> ?_)
      ·have e1:=c9f (jB g.stops d) i (by omega)
       have htb:(jB s.rg.stops c.dv.toNat).testBit c.ix.toNat=true:=by rw[hd,hi,eh,eh,e4];exact decide_eq_true (by omega)
       obtain⟨hn1,hn2⟩:=hnext (by unfold zE;rw[if_neg (fun q=>q.1 k1),if_neg (fun q=>by omega),if_pos ⟨k1,by omega,by omega,by omega,by omega,htb⟩])
       have hlf:(mE g c).stops.flatMap (one u64)=(g.stops.flatMap (one u64)).set d (.int .u64 (uO (jB g.stops d) i:Nat)):=by
        rw[mE,if_pos k1,nF,nF,hd,hi]
        show(g.stops.set d _).map u64=_
        rw[je]
        rfl
       have hlc:(mE g c).cpl=g.cpl∧(mE g c).off=g.off:=by rw[mE,if_pos k1];exact⟨rfl,rfl⟩
       simp(disch:=omega) only[↓RA,RC,simprocAttr,k4,k5,k6,k7,hd,hi,k8]
       refine Wp.drw kQ (by kernel_rfl) ?_
       simp(disch:=omega) only[↓RA,RZ,simprocAttr,hn,g7,hS11.ld 2 rfl,hS11.ld 4 rfl,(hS11.az 3 rfl (fun _=>rfl)).idx,(hS11.az 3 rfl (fun _=>rfl)).ld,one,u64,k1,e1,one,u64]
       refine hS11.ba 3 rfl [(.int .u64 (uO (jB g.stops d) i:Nat))] rfl rfl c0s (by simp) (by have h:(g.stops.flatMap (one u64)).length=g.stops.length:=(jJ (n:=1) (fun _=>rfl) _).trans (by omega);rw[h];simp;omega) fun H17 hS17=> ?_
       simp only[RT]at hS17
       simp(disch:=omega) only[↓RA,RZ,simprocAttr,hn,g2,g4,g7,g22,g23,g24]
       refine⟨n-1,by omega,j+1,mE g c,⟨by omega,hn2,hn1⟩,by simp,?_⟩
       rw[hlf,hlc.1,hlc.2]
       exact hS17.pick [0,1,2,3] (by decide) rfl
      have hE:=hbad10 fun h=>by
       have h5:=h.2.2.2.2
       rw[hd,hi,eh,eh,e4]at h5
       have:=of_decide_eq_true h5
       omega
      simp(disch:=omega) only[↓RA,RZ,simprocAttr,hn,g4,a0L,k4,k5,k6,k7,hd,hi,k8]
      refine hS11.aa 1 rfl [(.slice none 0 0),(.int .u64 0),(.int .u64 0)] rfl rfl tT (by simp) fun H18 hS18=> ?_
      simp only[RT]at hS18
      simp(disch:=omega) only[↓RA,RZ,simprocAttr,hn,g4,a4P,hS18.ae 1 rfl,k4,k5,k6,k7,hd,hi,k8]
      exact⟨.slice none 0 0,by rw[hE.1,hE.2];rfl,by rw[hE.2];exact(hS18.forget).nil 0⟩
     have hE:=hbad10 fun h=>k7 h.2.2.2.1
     simp(disch:=omega) only[↓RA,RZ,simprocAttr,hn,g4,a0L,k4,k5,k6,k7]
     refine hS11.aa 1 rfl [(.slice none 0 0),(.int .u64 0),(.int .u64 0)] rfl rfl tT (by simp) fun H19 hS19=> ?_
     simp only[RT]at hS19
     simp(disch:=omega) only[↓RA,RZ,simprocAttr,hn,g4,a4P,hS19.ae 1 rfl,k4,k5,k6,k7]
     exact⟨.slice none 0 0,by rw[hE.1,hE.2];rfl,by rw[hE.2];exact(hS19.forget).nil 0⟩
    have hE:=hbad10 fun h=>k6 h.2.2.1
    simp(disch:=omega) only[↓RA,RZ,simprocAttr,hn,g4,a0L,k4,k5,k6]
    refine hS11.aa 1 rfl [(.slice none 0 0),(.int .u64 0),(.int .u64 0)] rfl rfl tT (by simp) fun H20 hS20=> ?_
    simp only[RT]at hS20
    simp(disch:=omega) only[↓RA,RZ,simprocAttr,hn,g4,a4P,hS20.ae 1 rfl,k4,k5,k6]
    exact⟨.slice none 0 0,by rw[hE.1,hE.2];rfl,by rw[hE.2];exact(hS20.forget).nil 0⟩
   have hE:=hbad10 fun h=>k5 (by rw[←hgl]at h;exact h.2.1)
   simp(disch:=omega) only[↓RA,RZ,simprocAttr,hn,g4,a0L,k4,k5]
   refine hS11.aa 1 rfl [(.slice none 0 0),(.int .u64 0),(.int .u64 0)] rfl rfl tT (by simp) fun H21 hS21=> ?_
   simp only[RT]at hS21
   simp(disch:=omega) only[↓RA,RZ,simprocAttr,hn,g4,a4P,hS21.ae 1 rfl,k4,k5]
   exact⟨.slice none 0 0,by rw[hE.1,hE.2];rfl,by rw[hE.2];exact(hS21.forget).nil 0⟩
  have hE:=hbad10 fun h=>k4 h.1
  simp(disch:=omega) only[↓RA,RZ,simprocAttr,hn,g4,a0L,k4]
  refine hS11.aa 1 rfl [(.slice none 0 0),(.int .u64 0),(.int .u64 0)] rfl rfl tT (by simp) fun H22 hS22=> ?_
  simp only[RT]at hS22
  simp(disch:=omega) only[↓RA,RZ,simprocAttr,hn,g4,a4P,hS22.ae 1 rfl,k4]
  exact⟨.slice none 0 0,by rw[hE.1,hE.2];rfl,by rw[hE.2];exact(hS22.forget).nil 0⟩
 have hjj:j=cs.length:=by omega
 subst hjj
 have hE:a1U s cs=0:=by rw[hE0];exact lZ _ _ hz
 have hR:uM s cs=g:=by unfold uM;rw[if_pos hE,hg,eS]
 simp(disch:=omega) only[↓RA,RZ,simprocAttr,hn,g4,g7,hS9.ae 2 rfl,q1]
 refine hS9.aa 1 rfl [r,(.int .u64 g.cpl),(.int .u64 g.off)] rfl (by simp[OC,(hS9.rd 3 rfl).cells.2.1]) tT (by simp) fun H23 hS23=> ?_
 simp only[RT]at hS23
 simp(disch:=omega) only[↓RA,RZ,simprocAttr,hn,g4,a4P,hS23.ae 1 rfl,q1]
 rw[hE,hR]
 exact⟨r,rfl,hS23.pick [3] (by decide) rfl⟩
end Go.Ds
namespace Go.Ds
open Go.Proofs
variable {H:Heap}
set_option maxRecDepth 10000
set_option maxHeartbeats 1000000
def a6Y(l:List Rp)(r:Rp):Nat→Nat
 | 0=>0
 | n+1=>if wT r (jB l n)=-1 then a6Y l r n else n+1
theorem b7y(l:List Rp)(r:Rp)(n:Nat):a6Y l r (n+1)=if wT r (jB l n)=-1 then a6Y l r n else n+1:=rfl
theorem b4g(l:List Rp)(r:Rp):∀n,a6Y l r n≤n
 | 0=>dG _
 | n+1=>by
   unfold a6Y
   split
   ·exact dZ (b4g l r n) (by omega)
   ·exact dG _
def c0P{α:Type}(l:List α)(r:α)(i:Nat):List α:=l.take i++r::l.drop i
def b3y(l:List Rp)(r:Rp):List Rp:=c0P l r (a6Y l r l.length)
theorem b8d(l:List Rn)(i:Nat)(h:i<l.length):jB (l.map Rn.rp) i=(jB l i).rp:=by
 rw[jR _ i (by simpa using h),jR _ i h]
 simp
@[simp] theorem Rn.cM(r:Rn):r.cells.length=6:=rfl
theorem c8I(es:List Rn)(r:Rn)(i:Nat):(es.take i).flatMap Rn.cells++r.cells++(es.drop i).flatMap Rn.cells=(c0P es r i).flatMap Rn.cells:=by
 unfold c0P
 simp
end Go.Ds
namespace Go.Ds
open Go.Proofs
set_option maxRecDepth 10000
set_option maxHeartbeats 1000000
def b2e(l ns:List Rp):List Rp:=ns.foldl b3y l
def b1r(s:Sn):Nat→Ct→List Int→Ct→List Ct→List Rp→List Rp
 | 0,pl,cps,a,_,out=>b2e out (lY s pl cps a)
 | n+1,pl,cps,a,seen,out=>(List.range s.o.cpls.length).foldl (fun out i=>if out.length<600 then(if onB s cps a seen i then b1r s n pl (cps++[(i:Int)]) (stC s i a) (seen++[stC s i a]) out else out)else out) (b2e out (lY s pl cps a))
def a4R(s:Sn)(n:Nat)(pl:Ct)(cps:List Int)(a:Ct)(seen:List Ct)(out:List Rp)(j:Nat):List Rp:=(List.range j).foldl (fun out i=>if out.length<600 then(if onB s cps a seen i then b1r s n pl (cps++[(i:Int)]) (stC s i a) (seen++[stC s i a]) out else out)else out) out
theorem b7w(s:Sn)(n:Nat)(pl:Ct)(cps:List Int)(a:Ct)(seen:List Ct)(out:List Rp)(j:Nat):a4R s n pl cps a seen out (j+1)=if(a4R s n pl cps a seen out j).length<600 then(if onB s cps a seen j then b1r s n pl (cps++[(j:Int)]) (stC s j a) (seen++[stC s j a]) (a4R s n pl cps a seen out j)else a4R s n pl cps a seen out j)else a4R s n pl cps a seen out j:=by
 unfold a4R
 rw[eR,gh]
 rfl
theorem b5J(s:Sn)(n:Nat)(pl:Ct)(cps:List Int)(a:Ct)(seen:List Ct)(out:List Rp):b1r s (n+1) pl cps a seen out=a4R s n pl cps a seen (b2e out (lY s pl cps a)) s.o.cpls.length:=rfl
structure Outs(H:Heap)(v:Value)(es:List Rn):Prop where
 sl:Sl 6 Rn.cells H v es
 nil:es=[]→v=.slice none 0 0
 els:∀e∈es,e.In H
theorem Outs.ag{H0 H:Heap}{P:Program}{os:List Ob}{v:Value}{es:List Rn}(h:Outs H0 v es)(hS:St P H0 H os):Outs H v es:=⟨hS.sl h.sl,h.nil,fun e he=>(h.els e he).ag hS⟩
variable {H:Heap}
end Go.Ds
namespace Go.Ds
open Go.Proofs
variable {H:Heap}
set_option maxRecDepth 10000
set_option maxHeartbeats 1000000
def c8x(s:Sn)(l:List Ct):List Rp:=l.foldl (fun out c=>b1r s 1025 c [] c [] out) []
def c7k(s:Sn):List Rp:=c8x s (jF s.ks)
end Go.Ds
namespace Go.Ds
open Go.Proofs
set_option maxRecDepth 10000
theorem a9X(a b:Rp):wT b a=-wT a b:=rP _ _
theorem a9e(a b:Rp):wT a b=-1∨wT a b=0∨wT a b=1:=rQ _ _
theorem b1X{a b c:Rp}(h1:wT a b=-1)(h2:wT b c=-1):wT a c=-1:=tJ h1 h2
theorem yN{a b:Rp}:leP a b=true↔wT a b=-1∨a=b:=by
 unfold leP
 rw[eK,decide_eq_false_iff_not,a9X,←a6i]
 have:=a9e a b
 omega
theorem a1O{a b c:Rp}(h1:leP a b=true)(h2:leP b c=true):leP a c=true:=by
 rw[yN]at h1 h2 ⊢
 rcases h1 with h1|rfl
 ·rcases h2 with h2|rfl
  ·exact .inl (b1X h1 h2)
  ·exact .inl h1
 ·exact h2
theorem b6a(a b:Rp):(leP a b||leP b a)=true:=by
 rw[fi,yN,yN]
 rcases a9e a b with h|h|h
 ·exact .inl (.inl h)
 ·exact .inl (.inr (a6i.1 h))
 ·exact .inr (.inl (by rw[a9X,h]))
def b0o(l:List Rp):Prop:=l.Pairwise fun a b=>leP a b=true
theorem b1R(l:List Rp):b0o (l.mergeSort leP):=List.pairwise_mergeSort (le:=leP) (fun _ _ _ h1 h2=>a1O h1 h2) b6a l
theorem b4u{l:List Rp}{r:Rp}(hs:b0o l):∀n,n≤l.length→(∀x∈(l.take n).take (a6Y l r n),leP x r=true)∧∀x∈(l.take n).drop (a6Y l r n),leP r x=true
 | 0,_=>by simp[a6Y]
 | n+1,h=>by
   obtain⟨h1,h2⟩:=b4u hs n (by omega)
   have hle:=b4g l r n
   rw[b7y]
   rw[gg,dH (by omega),gW]
   have hnn:l[n]=jB l n:=(jR _ _ (by omega)).symm
   rw[hnn]
   have hlen:(l.take n).length=n:=by rw[fQ];omega
   split
   ·rename_i hc
    constructor
    ·intro x hx
     rw[List.take_append_of_le_length (by omega)]at hx
     exact h1 x hx
    ·intro x hx
     rw[ir (by omega)]at hx
     rcases eo.1 hx with hx|hx
     ·exact h2 x hx
     ·rw[dW.1 hx]
      exact yN.2 (.inl hc)
   ·rename_i hc
    have hle2:leP (jB l n) r=true:=by
     unfold leP
     rw[eK,decide_eq_false_iff_not]
     exact hc
    have hall:∀x∈l.take n++[jB l n],leP x r=true:=fun x hx=>by
     rcases eo.1 hx with hx|hx
     ·refine a1O ?_ hle2
      have hp:(l.take (n+1)).Pairwise fun a b=>leP a b=true:=hs.sublist (List.take_sublist _ _)
      rw[gg,dH (by omega),gW,hnn,fp]at hp
      exact hp.2.2 x hx _ (dW.2 rfl)
     ·rw[dW.1 hx]
      exact hle2
    have hl2:(l.take n++[jB l n]).length=n+1:=by simp[hlen]
    rw[iy (by omega),iB (by omega)]
    exact⟨hall,fun x hx=>absurd hx eO⟩
theorem b8t{l:List Rp}(r:Rp)(hs:b0o l):b0o (b3y l r):=by
 have h:=b4u (r:=r) hs l.length (dG _)
 rw[eS]at h
 unfold b3y c0P b0o
 rw[fp,List.pairwise_cons]
 refine⟨hs.sublist (List.take_sublist _ _),⟨h.2,hs.sublist (List.drop_sublist _ _)⟩,fun a ha b hb=> ?_⟩
 rcases ew.1 hb with rfl|hb
 ·exact h.1 a ha
 ·exact a1O (h.1 a ha) (h.2 b hb)
theorem b5H(l:List Rp)(r:Rp):(b3y l r).Perm (l++[r]):=by
 unfold b3y c0P
 refine List.perm_middle.trans ?_
 rw[fR]
 exact(List.perm_append_comm (l₁:=[r]) (l₂:=l))
theorem b0h:∀{ns l:List Rp},b0o l→b0o (b2e l ns)
 | [],_,h=>h
 | r::ns,l,h=>b0h (ns:=ns) (l:=b3y l r) (b8t r h)
theorem a6r:∀(ns l:List Rp),(b2e l ns).Perm (l++ns)
 | [],l=>by rw[dO];exact .refl _
 | r::ns,l=>(a6r ns (b3y l r)).trans (by
   rw[show l++r::ns=l++[r]++ns by simp]
   exact(b5H l r).append_right ns)
def Gat(l R:List Rp):Prop:=b0o R∧(R.Perm l∨(600≤R.length∧R.length≤l.length))
theorem Gat.len{l R:List Rp}(h:Gat l R):R.length≤l.length:=h.2.elim (fun h=>Nat.le_of_eq h.length_eq) (·.2)
theorem Gat.more{l R:List Rp}(h:Gat l R)(hl:¬R.length<600)(m:List Rp):Gat (l++m) R:=⟨h.1,.inr ⟨by omega,by have:=h.len;rw[dM];omega⟩⟩
theorem Gat.node{l R:List Rp}(h:Gat l R)(m:List Rp):Gat (l++m) (b2e R m):=by
 refine⟨b0h h.1,?_⟩
 have hp:=a6r m R
 rcases h.2 with h|⟨h1,h2⟩
 ·exact .inl (hp.trans (h.append_right m))
 ·right
  rw[hp.length_eq,dM,dM]
  omega
theorem c0D{s:Sn}:∀(n:Nat){pl:Ct}{cps:List Int}{a:Ct}{seen:List Ct}{l R:List Rp},Gat l R→Gat (l++full s n pl cps a seen) (b1r s n pl cps a seen R):=by
 intro n
 induction n with
 | zero=>
   intro pl cps a seen l R h
   exact h.node _
 | succ n ih=>
   intro pl cps a seen l R h
   rw[b5J]
   unfold full
   rw[←ef]
   have h0:=h.node (lY s pl cps a)
   generalize l++lY s pl cps a=l1 at h0
   generalize b2e R (lY s pl cps a)=R1 at h0
   have key:∀k,Gat (l1++(List.range k).flatMap fun i=>if onB s cps a seen i then full s n pl (cps++[(i:Int)]) (stC s i a) (seen++[stC s i a])else[]) (a4R s n pl cps a seen R1 k):=by
    intro k
    induction k with
    | zero=>simpa [a4R]using h0
    | succ k ihk=>
      rw[b7w,eR,dV,←ef]
      simp only[ec,fw,dO]
      generalize a4R s n pl cps a seen R1 k=R2 at ihk
      generalize l1++(List.range k).flatMap _=l2 at ihk
      by_cases h6:R2.length<600
      ·rw[if_pos h6]
       by_cases hb:onB s cps a seen k=true
       ·rw[if_pos hb,if_pos hb]
        exact ih ihk
       ·rw[if_neg hb,if_neg hb,dO]
        exact ihk
      ·rw[if_neg h6]
       exact ihk.more h6 _
   exact key _
theorem b8w(s:Sn):∀l:List Ct,Gat (l.flatMap fun c=>full s 1025 c [] c []) (c8x s l):=by
 intro l
 have h:∀(l:List Ct)(m R:List Rp),Gat m R→Gat (m++l.flatMap fun c=>full s 1025 c [] c []) (l.foldl (fun out c=>b1r s 1025 c [] c [] out) R):=by
  intro l
  induction l with
  | nil=>intro m R h;simpa using h
  | cons c l ih=>
    intro m R h
    rw[ec,←ef]
    exact ih _ _ (c0D 1025 h)
 have h0:=h l [] [] ⟨.nil,.inl (.refl _)⟩
 rw[fH]at h0
 exact h0
theorem c0K(s:Sn):Gat (pQ s) (c7k s):=b8w s _
theorem a9u(s:Sn):c7k s=[]↔pQ s=[]:=by
 rcases(c0K s).2 with h|⟨h1,h2⟩
 ·exact⟨fun e=>List.nil_perm.1 (e▸h),fun e=>List.perm_nil.1 (e▸h)⟩
 ·constructor
  ·intro e;rw[e]at h1;simp at h1
  ·intro e;rw[e]at h2;simp at h2;omega
def Chn(s:Sn):Bool→Ct→List Int→Ct→Prop
 | _,c,[],e=>e=c
 | f,c,i::l,e=>(∃k:Nat,i=k∧k<s.o.cpls.length)∧ldB s i c f=true∧Chn s false (stC s i c) l e
def rch(s:Sn):Ct→List Int→List Ct
 | _,[]=>[]
 | c,i::l=>stC s i c::rch s (stC s i c) l
theorem Chn.ok{s:Sn}(hf:s.Fit):∀{l:List Int}{f:Bool}{c e:Ct},Chn s f c l e→nB s.o c=true→nB s.o e=true
 | [],_,_,_,h,hc=>by rw[h];exact hc
 | i::l,_,_,_,h,_=>by
   obtain⟨⟨k,rfl,hk⟩,h1,h2⟩:=h
   exact h2.ok hf (xJ hf h1)
theorem Chn.cI{s:Sn}(hf:s.Fit):∀{l:List Int}{c e:Ct},Chn s false c l e→nB s.o c=true→stpL s e≠[]→RN s l.length c
 | [],c,e,h,hc,he=>by rw[show e=c from h]at he;exact .zero hc he
 | i::l,c,e,h,hc,he=>by
   obtain⟨⟨k,rfl,hk⟩,h1,h2⟩:=h
   exact .succ hc ⟨k,hk,h1,rfl⟩ (h2.cI hf (xJ hf h1) he)
theorem a9L{s:Sn}:∀(n:Nat){pl:Ct}{cps:List Int}{a:Ct}{seen:List Ct}{r:Rp},r∈full s n pl cps a seen→r.pl=pl∧∃t,r.cps=cps++t∧Chn s (decide (cps.length=0)) a t r.tc∧r.stop∈stpL s r.tc∧(r.cps≠[]∨rY s pl.1=false):=by
 have hnode:∀{pl:Ct}{cps:List Int}{a:Ct}{r:Rp},r∈lY s pl cps a→r.pl=pl∧r.cps=cps∧r.tc=a∧r.stop∈stpL s a∧(cps≠[]∨rY s pl.1=false):=fun h=>by
  unfold lY at h
  split at h
  ·rename_i hc
   obtain⟨i,hi,rfl⟩:=dP.1 h
   exact⟨rfl,rfl,rfl,hi,hc⟩
  ·cases h
 intro n
 induction n with
 | zero=>
   intro pl cps a seen r h
   obtain⟨h1,h2,h3,h4,h5⟩:=hnode h
   exact⟨h1,[],by rw[h2,dO],h3,by rw[h3];exact h4,by rw[h2];exact h5⟩
 | succ n ih=>
   intro pl cps a seen r h
   unfold full at h
   rcases eo.1 h with h|h
   ·obtain⟨h1,h2,h3,h4,h5⟩:=hnode h
    exact⟨h1,[],by rw[h2,dO],h3,by rw[h3];exact h4,by rw[h2];exact h5⟩
   ·obtain⟨i,hi,h⟩:=eM.1 h
    split at h
    ·rename_i hb
     obtain⟨h1,t,h2,h3,h4,h5⟩:=ih h
     unfold onB at hb
     rw[dB]at hb
     refine⟨h1,(i:Int)::t,by rw[h2];simp,⟨⟨i,rfl,dS.1 hi⟩,hb.1,?_⟩,h4,h5⟩
     rw[decide_eq_false (by simp)]at h3
     exact h3
    ·cases h
theorem a9p{s:Sn}:∀(t:List Int){n:Nat}{pl:Ct}{cps:List Int}{a e:Ct}{seen:List Ct}{i:Int},Chn s (decide (cps.length=0)) a t e→(seen++rch s a t).Nodup→t.length≤n→i∈stpL s e→(cps++t≠[]∨rY s pl.1=false)→(⟨pl,cps++t,e,i⟩:Rp)∈full s n pl cps a seen:=by
 intro t
 induction t with
 | nil=>
   intro n pl cps a e seen i h hnd hn hi ho
   rw[dO]at ho ⊢
   have he:e=a:=h
   subst he
   have:(⟨pl,cps,e,i⟩:Rp)∈lY s pl cps e:=by
    unfold lY
    rw[if_pos ho]
    exact dP.2 ⟨i,hi,rfl⟩
   cases n with
   | zero=>exact this
   | succ n=>unfold full;exact iL _ this
 | cons j t ih=>
   intro n pl cps a e seen i h hnd hn hi ho
   cases n with
   | zero=>simp at hn
   | succ n=>
   obtain⟨⟨k,rfl,hk⟩,h1,h2⟩:=h
   unfold full
   refine gD _ (eM.2 ⟨k,dS.2 hk,?_⟩)
   have hs:stC s (k:Int) a∉seen:=fun hm=>(gN.1 hnd).2.2 _ hm _ eW rfl
   rw[if_pos (by unfold onB;rw[h1,decide_eq_false hs];rfl)]
   rw[show cps++(k:Int)::t=(cps++[(k:Int)])++t by simp]at ho ⊢
   refine ih ?_ ?_ (by simp at hn;omega) hi ho
   ·rw[decide_eq_false (by simp)]
    exact h2
   ·rw[ef]
    exact hnd
theorem b2w{s:Sn}(hf:s.Fit):∀{n:Nat}{x:Ct},Far s x n→(wV s n x).1.length=n∧Chn s false x (wV s n x).1 (wV s n x).2∧stpL s (wV s n x).2≠[]∧(x::rch s x (wV s n x).1).Nodup∧∀y∈rch s x (wV s n x).1,∃m,m<n∧Far s y m
 | 0,x,h=>by
   have hz:stpL s x≠[]:=by cases h.1;assumption
   exact⟨rfl,rfl,hz,by simp[wV,rch],by simp[wV,rch]⟩
 | n+1,x,h=>by
   obtain⟨i,hi,hn⟩:=h.dw hf
   obtain⟨j,hj⟩:∃j,a3S s n x=some j:=by
    unfold a3S
    cases hh:(List.range s.o.cpls.length).find? fun i=>decide (mH s i x false=some n)with
    | some j=>exact⟨j,rfl⟩
    | none=>
      rw[gp]at hh
      exact absurd (by simpa using hn) (hh i (dS.2 hi))
   have hj2:j<s.o.cpls.length∧mH s j x false=some n:=by
    unfold a3S at hj
    exact⟨dS.1 (gB hj),by have:=iV hj;simpa using this⟩
   obtain⟨hl,hfr⟩:=sW hf hj2.2
   obtain⟨h1,h2,h3,h4,h5⟩:=b2w hf hfr
   have e:wV s (n+1) x=((j:Int)::(wV s n (stC s j x)).1,(wV s n (stC s j x)).2):=by
    show(match a3S s n x with|none=>_|some i=>_)=_
    rw[hj]
   rw[e]
   have hall:∀y∈rch s x ((j:Int)::(wV s n (stC s j x)).1),∃m,m<n+1∧Far s y m:=fun y hy=>by
    rcases ew.1 hy with rfl|hy
    ·exact⟨n,by omega,hfr⟩
    ·obtain⟨m,hm,hm2⟩:=h5 y hy
     exact⟨m,by omega,hm2⟩
   refine⟨by simp[h1],⟨⟨j,rfl,hj2.1⟩,hl,h2⟩,h3,?_,hall⟩
   rw[iC]
   refine⟨fun hm=> ?_,h4⟩
   obtain⟨m,hm1,hm2⟩:=hall x hm
   have:=h.uniq hm2
   omega
theorem b4h{s:Sn}(hf:s.Fit):∀{l:List Int}{x e:Ct},Far s x l.length→Chn s false x l e→stpL s e≠[]→lH (wV s l.length x).1 l=-1∨((wV s l.length x).1=l∧(wV s l.length x).2=e)
 | [],x,e,_,h,_=>.inr ⟨rfl,(show e=x from h).symm⟩
 | i::l,x,e,hfar,h,he=>by
   obtain⟨⟨k,rfl,hk⟩,h1,h2⟩:=h
   have hokx:=hfar.1.ok
   have hfl:Far s (stC s k x) l.length:=by
    refine⟨h2.cI hf (xJ hf h1) he,fun m hm=> ?_⟩
    have:=hfar.2 (m+1) (.succ hokx ⟨k,hk,h1,rfl⟩ hm)
    simp at this
    omega
   have hnk:mH s k x false=some l.length:=by
    unfold mH
    rw[if_pos h1,qD hf]
    exact hfl
   obtain⟨j,hj⟩:∃j,a3S s l.length x=some j:=by
    unfold a3S
    cases hh:(List.range s.o.cpls.length).find? fun i=>decide (mH s i x false=some l.length)with
    | some j=>exact⟨j,rfl⟩
    | none=>
      rw[gp]at hh
      exact absurd (by simpa using hnk) (hh k (dS.2 hk))
   have hjk:j≤k:=by
    have hj':=hj
    unfold a3S at hj'
    rw[im]at hj'
    obtain⟨_,q,hq,hq2,hq3⟩:=hj'
    rw[iA]at hq2
    subst hq2
    rcases gQ k q with hlt|hge
    ·have:=hq3 k hlt
     rw[iA,hnk]at this
     simp at this
    ·exact hge
   have e2:wV s (l.length+1) x=((j:Int)::(wV s l.length (stC s j x)).1,(wV s l.length (stC s j x)).2):=by
    show(match a3S s l.length x with|none=>_|some i=>_)=_
    rw[hj]
   rw[eL,e2,oP]
   rcases gq hjk with hlt|rfl
   ·left
    have hc:kU (j:Int) (k:Int)=-1:=sI.2 (by omega)
    rw[hc]
    rfl
   ·rw[qT,if_pos rfl]
    rcases b4h hf hfl h2 he with h3|⟨h3,h4⟩
    ·exact .inl h3
    ·exact .inr ⟨by rw[h3],h4⟩
theorem a5D{s:Sn}{c:Ct}:∀{n i d:Nat},i<n→mH s i c true=some d→∃d0 j,oG s c n=some (d0,j)∧d0≤d∧(d0=d→j≤i)
 | n+1,i,d,hi,hd=>by
   have hrw:oG s c (n+1)=match mH s n c true,oG s c n with
    | none,b=>b
    | some d,none=>some (d,n)
    | some d,some b=>if d<b.1 then some (d,n)else some b:=rfl
   rcases dK.1 hi with hlt|rfl
   ·obtain⟨d0,j,h1,h2,h3⟩:=a5D hlt hd
    rw[hrw,h1]
    have hjn:=(rM h1).1
    cases hn:mH s n c true with
    | none=>exact⟨d0,j,rfl,h2,h3⟩
    | some e=>
      simp only
      split
      ·exact⟨e,n,rfl,by omega,fun h=>by omega⟩
      ·exact⟨d0,j,rfl,h2,h3⟩
   ·rw[hrw,hd]
    cases hb:oG s c i with
    | none=>exact⟨d,i,rfl,dG _,fun _=>dG _⟩
    | some b=>
      simp only
      split
      ·exact⟨d,i,rfl,dG _,fun _=>dG _⟩
      ·have hjn:=(rM (d:=b.1) (i:=b.2) hb).1
       exact⟨b.1,b.2,rfl,by omega,fun _=>by omega⟩
theorem c4B{s:Sn}(hf:s.Fit){c:Ct}(hc:nB s.o c=true){w:List Int×Ct}(h:oT s c=some w):Chn s true c w.1 w.2∧stpL s w.2≠[]∧(w.1≠[]∨rY s c.1=false)∧(rch s c w.1).Nodup∧w.1.length≤1025:=by
 have hlen:=c0E hf h
 unfold oT at h
 split at h
 ·rename_i h0
  injection h with h
  subst h
  have hz:stpL s c≠[]:=by cases ((qD hf).1 h0.1).1;assumption
  exact⟨rfl,hz,.inr h0.2,List.nodup_nil,by simp⟩
 ·split at h
  ·cases h
  ·rename_i d i hb
   injection h with h
   subst h
   obtain⟨hi,hn⟩:=rM hb
   obtain⟨hl,hfr⟩:=sW hf hn
   obtain⟨h1,h2,h3,h4,h5⟩:=b2w hf hfr
   exact⟨⟨⟨i,rfl,hi⟩,hl,h2⟩,h3,.inl (by simp),h4,hlen⟩
theorem a8S{s:Sn}(hf:s.Fit){c e:Ct}(hc:nB s.o c=true){t:List Int}(h:Chn s true c t e)(he:stpL s e≠[])(ho:t≠[]∨rY s c.1=false):∃w,oT s c=some w∧w.1.length≤t.length∧(w.1.length=t.length→lH w.1 t=-1∨(w.1=t∧w.2=e)):=by
 by_cases h0:qY (rU s) c=some 0∧rY s c.1=false
 ·refine⟨([],c),by unfold oT;rw[if_pos h0],by simp,fun hl=> ?_⟩
  have:t=[]:=eG.1 (by simpa using hl.symm)
  subst this
  exact .inr ⟨rfl,(show e=c from h).symm⟩
 ·cases t with
  | nil=>
    exfalso
    have he2:e=c:=h
    subst he2
    refine h0 ⟨(qD hf).2 ⟨.zero hc he,fun m _=>fA _⟩,ho.resolve_left fun h=>h rfl⟩
  | cons i l=>
    obtain⟨⟨k,rfl,hk⟩,h1,h2⟩:=h
    have hrn:=h2.cI hf (xJ hf h1) he
    obtain⟨m,hm,hmf⟩:=(a2V hf).2.2.1 _ _ hrn
    have hml:=hmf.2 _ hrn
    have hnk:mH s k c true=some m:=by unfold mH;rw[if_pos h1];exact hm
    obtain⟨d,j,hb,hd1,hd2⟩:=a5D hk hnk
    have hw:oT s c=some ((j:Int)::(wV s d (stC s j c)).1,(wV s d (stC s j c)).2):=by unfold oT;rw[if_neg h0,hb]
    obtain⟨hj,hnj⟩:=rM hb
    obtain⟨hlj,hfj⟩:=sW hf hnj
    have hgl:=(b2w hf hfj).1
    refine⟨_,hw,by simp only[eL,hgl];omega,fun hl=> ?_⟩
    simp only[eL,hgl]at hl
    have hdm:d=m:=by omega
    have hjk:=hd2 hdm
    rw[oP]
    rcases gq hjk with hlt|rfl
    ·left
     have hc:kU (j:Int) (k:Int)=-1:=sI.2 (by omega)
     rw[hc]
     rfl
    ·rw[qT,if_pos rfl]
     have hdl:d=l.length:=by omega
     subst hdl
     rcases b4h hf hfj h2 he with h3|⟨h3,h4⟩
     ·exact .inl h3
     ·exact .inr ⟨by rw[h3],h4⟩
theorem rC{s:Sn}:∀{n:Nat},qU s n=none↔∀j,j<n→oT s (jB (jF s.ks) j)=none
 | 0=>⟨fun _ j hj=>absurd hj (eu _),fun _=>rfl⟩
 | n+1=>by
   constructor
   ·intro h j hj
    cases hw:oT s (jB (jF s.ks) n)with
    | none=>
      rw[yO hw]at h
      rcases dK.1 hj with hj|rfl
      ·exact rC.1 h j hj
      ·exact hw
    | some w=>
      exfalso
      cases hb:qU s n with
      | none=>rw[uY hw (fun b hb2=>by rw[hb]at hb2;cases hb2)]at h;cases h
      | some b=>
        by_cases hl:w.1.length<b.2.1.length
        ·rw[uY hw (fun b2 hb2=>by rw[hb]at hb2;injection hb2 with hb2;rw[←hb2];exact hl)]at h;cases h
        ·rw[a7h hw hb hl,hb]at h;cases h
   ·intro h
    rw[yO (h n (Nat.lt_succ_self _))]
    exact rC.2 fun j hj=>h j (by omega)
theorem a7s{s:Sn}:∀{n:Nat}{c:Ct}{w:List Int×Ct},qU s n=some (c,w)→∃j,j<n∧c=jB (jF s.ks) j∧oT s c=some w∧∀q,q<n→∀v,oT s (jB (jF s.ks) q)=some v→w.1.length≤v.1.length∧(w.1.length=v.1.length→j≤q)
 | 0,_,_,h=>by cases h
 | n+1,c,w,h=>by
   have hold:qU s n=some (c,w)→(∀v,oT s (jB (jF s.ks) n)=some v→w.1.length≤v.1.length)→∃j,j<n+1∧c=jB (jF s.ks) j∧oT s c=some w∧∀q,q<n+1→∀v,oT s (jB (jF s.ks) q)=some v→w.1.length≤v.1.length∧(w.1.length=v.1.length→j≤q):=fun h h2=>by
    obtain⟨j,hj,hc,hw,hq⟩:=a7s h
    refine⟨j,by omega,hc,hw,fun q hqn v hv=> ?_⟩
    rcases dK.1 hqn with hlt|rfl
    ·exact hq q hlt v hv
    ·exact⟨h2 v hv,fun _=>by omega⟩
   cases hw:oT s (jB (jF s.ks) n)with
   | none=>
     rw[yO hw]at h
     exact hold h (fun v hv=>by rw[hw]at hv;cases hv)
   | some v=>
     cases hb:qU s n with
     | none=>
       rw[uY hw (fun b hb2=>by rw[hb]at hb2;cases hb2)]at h
       injection h with h
       obtain⟨rfl,rfl⟩:=ig h
       refine⟨n,by omega,rfl,hw,fun q hq u hu=> ?_⟩
       rcases dK.1 hq with hlt|rfl
       ·rw[rC.1 hb q hlt]at hu;cases hu
       ·rw[hw]at hu;injection hu with hu;subst hu;exact⟨dG _,fun _=>dG _⟩
     | some b=>
       by_cases hl:v.1.length<b.2.1.length
       ·rw[uY hw (fun b2 hb2=>by rw[hb]at hb2;injection hb2 with hb2;rw[←hb2];exact hl)]at h
        injection h with h
        obtain⟨rfl,rfl⟩:=ig h
        obtain⟨j,hj,hc,hw2,hq2⟩:=a7s (c:=b.1) (w:=b.2) hb
        refine⟨n,by omega,rfl,hw,fun q hq u hu=> ?_⟩
        rcases dK.1 hq with hlt|rfl
        ·have:=(hq2 q hlt u hu).1
         exact⟨by omega,fun e=>by omega⟩
        ·rw[hw]at hu;injection hu with hu;subst hu;exact⟨dG _,fun _=>dG _⟩
       ·rw[a7h hw hb hl]at h
        have h2:=h
        rw[hb]at h2
        injection h2 with h2
        exact hold h (fun u hu=>by rw[hw]at hu;injection hu with hu;rw[←hu];rw[h2]at hl;simp only at hl;omega)
theorem a4b{s:Sn}(hf:s.Fit)(hk:∀x∈s.ks,Nt.Ok x){r:Rp}:r∈pQ s→r.pl∈jF s.ks∧Chn s true r.pl r.cps r.tc∧r.stop∈stpL s r.tc∧(r.cps≠[]∨rY s r.pl.1=false):=fun h=>by
 obtain⟨c,hc,h⟩:=eM.1 h
 obtain⟨h1,t,h2,h3,h4,h5⟩:=a9L _ h
 rw[fH]at h2
 rw[h1,h2]
 exact⟨hc,h3,h4,by rw[h2]at h5;exact h5⟩
theorem a2F{s:Sn}{c e:Ct}{t:List Int}{i:Int}(hc:c∈jF s.ks)(h:Chn s true c t e)(hn:(rch s c t).Nodup)(hl:t.length≤1025)(hi:i∈stpL s e)(ho:t≠[]∨rY s c.1=false):(⟨c,t,e,i⟩:Rp)∈pQ s:=
 eM.2 ⟨c,hc,a9p (cps:=[]) (seen:=[]) t h hn hl hi ho⟩
theorem c4N(s:Sn)(e:Ct):(stpL s e).Pairwise (·<·):=by
 unfold stpL a1Q
 rw[fS]
 exact List.Pairwise.filter _ (List.pairwise_lt_range.imp fun h=>by omega)
theorem b5u{s:Sn}{e:Ct}{i:Int}(h:i∈stpL s e):jB (stpL s e) 0≤i:=by
 have hs:=c4N s e
 cases hl:stpL s e with
 | nil=>rw[hl]at h;cases h
 | cons a l=>
   rw[hl]at h hs
   rw[jR _ 0 (by simp)]
   rcases ew.1 h with rfl|h
   ·exact js _
   ·exact Int.le_of_lt ((List.pairwise_cons.1 hs).1 i h)
theorem c0J{l:List Int}(h:l≠[]):jB l 0∈l:=jE (by cases l;exact absurd rfl h;simp)
def a5m(q:Ct×List Int×Ct)(s:Sn):Rp:=⟨q.1,q.2.1,q.2.2,jB (stpL s q.2.2) 0⟩
theorem c1t(a b c x y z:Int):lH [a,b,c] [x,y,z]=if kU a x=0 then(if kU b y=0 then kU c z else kU b y)else kU a x:=by
 rw[oP,oP,c8a]
theorem c3w{a b:Rp}(h:a.cps.length=b.cps.length):wT a b=if lH [(a.cps.length:Int),a.pl.1,a.pl.2] [(b.cps.length:Int),b.pl.1,b.pl.2]=0 then(if lH a.cps b.cps=0 then lH [a.tc.1,a.tc.2,a.stop] [b.tc.1,b.tc.2,b.stop]else lH a.cps b.cps)else lH [(a.cps.length:Int),a.pl.1,a.pl.2] [(b.cps.length:Int),b.pl.1,b.pl.2]:=by
 unfold wT b0Z
 rw[ef,ef,rI (by simp),rI h]
theorem b1z{a b:Rp}(h:a.cps.length<b.cps.length):wT a b=-1:=by
 unfold wT b0Z
 rw[ef,ef,rI (by simp),c1t]
 have hc:kU (a.cps.length:Int) (b.cps.length:Int)=-1:=sI.2 (by omega)
 rw[hc]
 rfl
theorem c4J{s:Sn}(hf:s.Fit)(hk:∀x∈s.ks,Nt.Ok x){q:Ct×List Int×Ct}(h:qU s (jF s.ks).length=some q):a5m q s∈pQ s∧∀r∈pQ s,leP (a5m q s) r=true:=by
 obtain⟨c,w⟩:=q
 obtain⟨j,hj,hc,hw,hmin⟩:=a7s h
 have hct:=oM hk hf.keys
 have hcm:c∈jF s.ks:=by rw[hc];exact jE hj
 obtain⟨h1,h2,h3,h4,h5⟩:=c4B hf (hct _ hcm) hw
 refine⟨a2F hcm h1 h4 h5 (c0J h2) h3,fun r hr=> ?_⟩
 obtain⟨r1,r2,r3,r4⟩:=a4b hf hk hr
 obtain⟨q,hq,hqe⟩:=eF.1 r1
 have hqe2:jB (jF s.ks) q=r.pl:=by rw[jR _ _ hq];exact hqe
 obtain⟨v,hv,hvl,hvm⟩:=a8S hf (hct _ r1) r2 (fun e=>by rw[e]at r3;cases r3) r4
 obtain⟨m1,m2⟩:=hmin q hq v (by rw[hqe2];exact hv)
 rw[yN]
 have hle:w.1.length≤r.cps.length:=dZ m1 hvl
 rcases gq hle with hlt|heq
 ·exact .inl (b1z (a:=a5m (c,w) s) hlt)
 ·have hvw:w.1.length=v.1.length:=by omega
  have hjq:=m2 hvw
  rw[c3w (a:=a5m (c,w) s) heq]
  have e1:lH [((a5m (c,w) s).cps.length:Int),(a5m (c,w) s).pl.1,(a5m (c,w) s).pl.2] [(r.cps.length:Int),r.pl.1,r.pl.2]=if kU c.1 r.pl.1=0 then kU c.2 r.pl.2 else kU c.1 r.pl.1:=by
   rw[c1t]
   have:kU ((a5m (c,w) s).cps.length:Int) (r.cps.length:Int)=0:=oL.2 (by show(w.1.length:Int)=_;omega)
   rw[this,if_pos rfl]
   rfl
  rw[e1]
  rcases gq hjq with hjl|rfl
  ·have hlp:ltP c r.pl:=by
    rw[hc,←hqe2,jR _ _ hj,jR _ _ hq]
    exact eQ.1 (a5Z s.ks) j q hj hq hjl
   left
   rcases hlp with hl|⟨hl1,hl2⟩
   ·rw[sI.2 hl];rfl
   ·rw[oL.2 hl1,if_pos rfl,sI.2 hl2];rfl
  ·have hcr:c=r.pl:=hc.trans hqe2
   have hwv:v=w:=by rw[←hcr,hw]at hv;injection hv with hv;exact hv.symm
   subst hwv
   rw[hcr,qT,if_pos rfl,qT,if_pos rfl]
   rcases hvm (by omega)with h6|⟨h6,h7⟩
   ·left
    rw[show lH (a5m (r.pl,v) s).cps r.cps=-1 from h6]
    rfl
   ·rw[show(a5m (r.pl,v) s).cps=r.cps from h6,mU.2 rfl,if_pos rfl]
    show lH [v.2.1,v.2.2,jB (stpL s v.2) 0] _=_∨_
    rw[h7,c1t,qT,if_pos rfl,qT,if_pos rfl]
    have hh:=b5u r3
    rcases Int.lt_or_eq_of_le hh with hl|he
    ·exact .inl (sI.2 hl)
    ·right
     obtain⟨a,b,d,e⟩:=r
     show Rp.mk _ _ _ _=_
     simp only at h6 h7 he
     rw[h6,h7,he]
theorem c0b{s:Sn}(hf:s.Fit)(hk:∀x∈s.ks,Nt.Ok x):qU s (jF s.ks).length=none↔pQ s=[]:=by
 constructor
 ·intro h
  rw[List.eq_nil_iff_forall_not_mem]
  intro r hr
  obtain⟨r1,r2,r3,r4⟩:=a4b hf hk hr
  obtain⟨q,hq,hqe⟩:=eF.1 r1
  obtain⟨v,hv,_⟩:=a8S hf (oM hk hf.keys _ r1) r2 (fun e=>by rw[e]at r3;cases r3) r4
  have:=rC.1 h q hq
  rw[jR _ _ hq,hqe,hv]at this
  cases this
 ·intro h
  cases hl:qU s (jF s.ks).length with
  | none=>rfl
  | some q=>
    have:=(c4J hf hk hl).1
    rw[h]at this
    cases this
end Go.Ds
namespace Go.Ds
open Go.Proofs Go.Proofs.Tryz
variable {H:Heap}
set_option maxRecDepth 10000
set_option maxHeartbeats 1000000
theorem c1r{s:Sn}(hf:s.Fit)(hk:∀x∈s.ks,Nt.Ok x):(wR s).isSome=decide (0<(c7k s).length):=by
 have hz:=qG.2 hf
 unfold wR
 rw[if_pos hz]
 have h1:=c0b hf hk
 have h2:=a9u s
 cases hl:qU s (jF s.ks).length with
 | none=>
   rw[h2.2 (h1.1 hl)]
   rfl
 | some q=>
   symm
   refine decide_eq_true (fh.2 fun e=> ?_)
   rw[h1.2 (h2.1 e)]at hl
   cases hl
theorem c6J(s:Sn)(q:Option (Ct×List Int×Ct))(cv:Value):(uR s q cv).v=.agg #[I (uR s q cv).pl.1,I (uR s q cv).pl.2,cv,I (uR s q cv).tc.1,I (uR s q cv).tc.2,I (uR s q cv).stop]:=by
 show Value.agg #[_,_,(uR s q cv).cv,_,_,_]=_
 rw[c4D]
theorem neB(a:Bool):lJ prog .neq 4 4 false false (.bool a) (.bool a)=some (.bool false):=by cases a<;>kernel_rfl
end Go.Ds
namespace Go.Ds
open Go.Proofs
set_option maxRecDepth 10000
theorem b8m(x:Nat)(i:Int)(hx:x<18446744073709551616):uO x i≤x:=by
 have hx':x<2^64:=by simpa using hx
 unfold uO
 rw[gS,iz,gE hx']
 exact Nat.and_le_left
theorem a3j{x n:Nat}(i:Int)(hx:x<18446744073709551616)(h:x>>>n=0):uO x i>>>n=0:=by
 rw[fF]at*
 have:=Nat.div_le_div_right (c:=2^n) (b8m x i hx)
 exact Nat.le_zero.1 (h▸this)
theorem b2G{o:Org}{rg:Reg}(h1:organE o=0)(h2:rg.stops.length=o.dvs.length)(h3:∀j,j<o.dvs.length→jB rg.stops j>>>(jB o.dvs j).stops.length=0)(h4:rg.cpl>>>o.cpls.length=0)(h5:rg.off>>>o.dvs.length=0):uH o rg=0:=by
 unfold uH
 rw[if_neg (by omega),if_neg (by omega),if_neg (by rintro⟨j,hj,h⟩;exact h (h3 j hj)),if_neg (by omega)]
theorem b2L{o:Org}{rg:Reg}(hg:rg.Ok)(h:uH o rg=0)(c:Ctl):uH o (mE rg c)=0:=by
 obtain⟨_,hg2,hg3,hg4⟩:=hg
 obtain⟨h1,h2,h3⟩:=b6S h
 obtain⟨k1,k2⟩:=a0j h
 refine b2G k1 ((a2k rg c).trans k2) (fun j hj=> ?_) ?_ ?_
 ·unfold mE
  split
  ·by_cases e:c.dv.toNat=j
   ·subst e
    rw[show jB (rg.stops.set c.dv.toNat (uO (jB rg.stops c.dv.toNat) c.ix)) c.dv.toNat=uO (jB rg.stops c.dv.toNat) c.ix from by rw[jR _ _ (by simp;omega)];simp]
    exact a3j _ (hg2 _ (jE (by omega))) (h1 _ hj)
   ·rw[show jB (rg.stops.set c.dv.toNat (uO (jB rg.stops c.dv.toNat) c.ix)) j=jB rg.stops j from by rw[jR _ j (by simp;omega),jR rg.stops j (by omega)];simp[List.getElem_set_ne e]]
    exact h1 j hj
  ·split
   ·exact h1 j hj
   ·exact h1 j hj
 ·unfold mE
  split
  ·exact h2
  ·split
   ·exact a3j _ hg3 h2
   ·exact h2
 ·unfold mE
  split
  ·exact h3
  ·split
   ·exact h3
   ·exact a3j _ hg4 h3
theorem b1C{s:Sn}:∀(n:Nat){pl:Ct}{cps:List Int}{a:Ct}{seen:List Ct}{r:Rp},r∈full s n pl cps a seen→seen.Nodup→∃t,r.cps=cps++t∧(seen++rch s a t).Nodup∧t.length≤n:=by
 intro n
 induction n with
 | zero=>
   intro pl cps a seen r h hs
   obtain⟨_,h2,_⟩:=sV h
   exact⟨[],by rw[h2,dO],by simpa [rch]using hs,by simp⟩
 | succ n ih=>
   intro pl cps a seen r h hs
   unfold full at h
   rcases eo.1 h with h|h
   ·obtain⟨_,h2,_⟩:=sV h
    exact⟨[],by rw[h2,dO],by simpa [rch]using hs,by simp⟩
   ·obtain⟨i,hi,h⟩:=eM.1 h
    split at h
    ·rename_i hb
     unfold onB at hb
     rw[dB]at hb
     have hn:stC s i a∉seen:=by simpa using hb.2
     obtain⟨t,h1,h2,h3⟩:=ih h (gN.2 ⟨hs,by simp,fun x hx y hy e=>hn (by rw[dW.1 hy]at e;rw[←e];exact hx)⟩)
     refine⟨(i:Int)::t,by rw[h1];simp,?_,by simp;omega⟩
     rw[ef]at h2
     exact h2
    ·cases h
theorem a1p{s:Sn}(hf:s.Fit)(hk:∀x∈s.ks,Nt.Ok x){r:Rp}:r∈pQ s↔r.pl∈jF s.ks∧Chn s true r.pl r.cps r.tc∧(rch s r.pl r.cps).Nodup∧r.cps.length≤1025∧r.stop∈stpL s r.tc∧(r.cps≠[]∨rY s r.pl.1=false):=by
 constructor
 ·intro h
  obtain⟨h1,h2,h3,h4⟩:=a4b hf hk h
  obtain⟨c,hc,hr⟩:=eM.1 h
  obtain⟨t,h5,h6,h7⟩:=b1C _ hr List.nodup_nil
  rw[fH]at h5 h6
  have hcp:=(a9L _ hr).1
  rw[←h5,←hcp]at h6
  exact⟨h1,h2,h6,by rw[h5];exact h7,h3,h4⟩
 ·rintro⟨h1,h2,h3,h4,h5,h6⟩
  exact a2F h1 h2 h3 h4 h5 h6
def a4G(s:Sn)(c:Ct)(l:List Int):Ct:=l.foldl (fun a i=>stC s i a) c
theorem a9E(s:Sn)(i:Int):∀(l:List Int)(c:Ct),rch s c (l++[i])=rch s c l++[stC s i (a4G s c l)]
 | [],c=>rfl
 | j::l,c=>by
   show stC s j c::rch s (stC s j c) (l++[i])=_
   rw[a9E s i l]
   rfl
theorem b6k(s:Sn)(i:Int)(l:List Int)(c:Ct):a4G s c (l++[i])=stC s i (a4G s c l):=by
 unfold a4G
 rw[gh]
 rfl
theorem Chn.end{s:Sn}:∀{l:List Int}{f:Bool}{c e:Ct},Chn s f c l e→e=a4G s c l
 | [],_,_,_,h=>h
 | _::_,_,_,_,h=>h.2.2.end
theorem Chn.at{s:Sn}:∀{l:List Int}{f:Bool}{c e:Ct},Chn s f c l e→∀n,n<l.length→ldB s (jB l n) (a4G s c (l.take n)) (decide (n=0)&&f)=true
 | i::l,f,c,e,h,0,_=>by
   rw[jR _ 0 (by simp)]
   exact h.2.1
 | i::l,f,c,e,h,n+1,hn=>by
   have hl:n<l.length:=by simp at hn;omega
   have:=h.2.2.at n hl
   rw[jR _ _ hn,List.getElem_cons_succ,←jR _ _ hl]
   rw[Bool.and_false]at this
   rw[show decide (n+1=0)=false from rfl,fX]
   exact this
theorem b0d(s:Sn)(l:List Int)(n:Nat)(h:n<l.length)(c:Ct):rch s c (l.take (n+1))=rch s c (l.take n)++[stC s (jB l n) (a4G s c (l.take n))]:=by
 rw[gg,dH h,gW,a9E,jR _ _ h]
theorem b5N(s:Sn)(l:List Int)(n:Nat)(h:n<l.length)(c:Ct):a4G s c (l.take (n+1))=stC s (jB l n) (a4G s c (l.take n)):=by
 rw[gg,dH h,gW,b6k,jR _ _ h]
theorem b1a(s:Sn)(l:List Int)(c:Ct)(n:Nat):∃m,rch s c l=rch s c (l.take n)++m:=by
 have h:∀(a b:List Int)(c:Ct),∃m,rch s c (a++b)=rch s c a++m:=by
  intro a
  induction a with
  | nil=>exact fun b c=>⟨rch s c b,rfl⟩
  | cons i a ih=>
    intro b c
    obtain⟨m,hm⟩:=ih b (stC s i c)
    exact⟨m,by show _::rch s _ (a++b)=_;rw[hm];rfl⟩
 obtain⟨m,hm⟩:=h (l.take n) (l.drop n) c
 exact⟨m,by rw[fR]at hm;exact hm⟩
theorem a3z{s:Sn}{p e:Ct}{cps:List Int}(h:Chn s true p cps e)(hn:(rch s p cps).Nodup):∀n,n≤cps.length→mA s p cps n=some (rch s p (cps.take n),a4G s p (cps.take n))
 | 0,_=>rfl
 | n+1,hle=>by
   have hl:n<cps.length:=by omega
   unfold mA
   rw[a3z h hn n (by omega)]
   have h1:=h.at n hl
   rw[gj]at h1
   obtain⟨m,hm⟩:=b1a s cps p (n+1)
   rw[hm,b0d s cps n hl]at hn
   have h2:stC s (jB cps n) (a4G s p (cps.take n))∉rch s p (cps.take n):=fun hm2=>
    (gN.1 (gN.1 hn).1).2.2 _ hm2 _ (dW.2 rfl) rfl
   simp only
   rw[h1,decide_eq_false h2,b0d s cps n hl,b5N s cps n hl]
   rfl
theorem c4o{s:Sn}(hf:s.Fit)(hk:∀x∈s.ks,Nt.Ok x){r:Rn}(h:r.rp∈pQ s):vfE s r=0:=by
 obtain⟨h1,h2,h3,h4,h5,h6⟩:=(a1p hf hk).1 h
 have hc:(mZ s r).2=true:=by
  unfold mZ
  have:=a3z h2 h3 r.cps.length (dG _)
  rw[show r.rp.cps=r.cps from rfl,show r.rp.pl=r.pl from rfl,eS]at this
  rw[this]
  exact decide_eq_true h2.end.symm
 have hd:drwB s r.stop r.tc=true:=by
  unfold stpL a1Q at h5
  obtain⟨i,hi,e⟩:=dP.1 h5
  rw[show r.stop=r.rp.stop from rfl,←e]
  exact(eY.1 hi).2
 unfold vfE
 rw[qG.2 hf,if_neg (by simp),if_neg (fun hh=>hh h1),if_neg ?_,if_neg (by rw[hd];simp)]
 rintro(h|⟨h,h'⟩)
 ·rw[hc]at h;cases h
 ·rcases h6 with h6|h6
  ·exact h6 (eG.1 h)
  ·rw[show r.rp.pl=r.pl from rfl,h']at h6;cases h6
def c4l(n:Nat)(c:Ctl):Prop:=(c.kind=2∧c.dv=0∧0≤c.ix∧c.ix<64)∨(c.kind=1∧0≤c.dv∧c.dv<n∧0≤c.ix∧c.ix<64)
theorem c7s{g:Reg}(hg:g.Ok){c:Ctl}(hc:c4l g.stops.length c)(j:Nat):(mE g c).cpl.testBit j=(g.cpl.testBit j&& !decide (c=⟨2,0,(j:Int)⟩)):=by
 obtain⟨k,d,i⟩:=c
 unfold mE
 rcases hc with⟨h1,h2,h3,h4⟩|⟨h1,h2,h3,h4,h5⟩
 ·simp only at h1 h2 h3 h4
  subst h1 h2
  obtain⟨q,rfl⟩:=fu h3
  rw[if_neg (show¬(2:Int)=1 by decide),if_pos rfl]
  simp only
  rw[a9j _ _ _ hg.2.2.1 (by omega)]
  congr 2
  refine decide_eq_decide.2 ⟨fun h=>by rw[h],fun h=> ?_⟩
  injection h with _ _ h
  omega
 ·simp only at h1
  subst h1
  rw[if_pos rfl]
  simp
theorem c2j{g:Reg}(hg:g.Ok){c:Ctl}(hc:c4l g.stops.length c)(d j:Nat):(jB (mE g c).stops d).testBit j=((jB g.stops d).testBit j&& !decide (c=⟨1,(d:Int),(j:Int)⟩)):=by
 obtain⟨k,e,i⟩:=c
 unfold mE
 rcases hc with⟨h1,h2,h3,h4⟩|⟨h1,h2,h3,h4,h5⟩
 ·simp only at h1
  subst h1
  rw[if_neg (by simp),if_pos rfl]
  simp
 ·simp only at h1 h2 h3 h4 h5
  subst h1
  obtain⟨q,rfl⟩:=fu h4
  obtain⟨m,rfl⟩:=fu h2
  rw[if_pos rfl]
  simp only[eh]
  have hm:m<g.stops.length:=by omega
  by_cases hd:d=m
  ·subst hd
   rw[jR _ d (by simpa using hm),List.getElem_set_self,a9j _ _ _ (hg.2.1 _ (jE hm)) (by omega)]
   congr 2
   refine decide_eq_decide.2 ⟨fun h=>by rw[h],fun h=> ?_⟩
   injection h with _ _ h
   omega
  ·have h6:jB (g.stops.set m (uO (jB g.stops m) q)) d=jB g.stops d:=by
    by_cases hdl:d<g.stops.length
    ·rw[jR _ d (by simpa using hdl),jR _ d hdl,List.getElem_set_ne (by omega)]
    ·unfold jB
     simp[hdl]
   rw[h6]
   have:decide ((⟨1,(m:Int),(q:Int)⟩:Ctl)=⟨1,(d:Int),(j:Int)⟩)=false:=decide_eq_false fun h=>by injection h with _ h _;omega
   rw[this]
   simp
theorem b7U:∀(cs:List Ctl){g:Reg},g.Ok→(∀c∈cs,c4l g.stops.length c)→(cs.foldl mE g).Ok∧(cs.foldl mE g).stops.length=g.stops.length∧(cs.foldl mE g).off=g.off∧(∀j:Nat,(cs.foldl mE g).cpl.testBit j=(g.cpl.testBit j&& !decide ((⟨2,0,(j:Int)⟩:Ctl)∈cs)))∧∀d j:Nat,(jB (cs.foldl mE g).stops d).testBit j=((jB g.stops d).testBit j&& !decide ((⟨1,(d:Int),(j:Int)⟩:Ctl)∈cs))
 | [],g,hg,_=>by simp[hg]
 | c::cs,g,hg,hc=>by
   have hc0:=hc c (by simp)
   have hl:=a2k g c
   obtain⟨h1,h2,h3,h4,h5⟩:=b7U cs (a8i hg c) (fun x hx=>by rw[hl];exact hc x (by simp[hx]))
   have hoff:(mE g c).off=g.off:=by
    unfold mE
    rcases hc0 with⟨k1,_⟩|⟨k1,_⟩
    ·rw[if_neg (by omega),if_pos k1]
    ·rw[if_pos k1]
   refine⟨h1,h2.trans hl,h3.trans hoff,fun j=> ?_,fun d j=> ?_⟩
   ·rw[fN,h4,c7s hg hc0,ji]
    congr 1
    rw[←Bool.not_or,←Bool.decide_or]
    congr 1
    refine decide_eq_decide.2 ?_
    rw[ew]
    exact⟨fun h=>h.imp Eq.symm id,fun h=>h.imp Eq.symm id⟩
   ·rw[fN,h5,c2j hg hc0,ji]
    congr 1
    rw[←Bool.not_or,←Bool.decide_or]
    congr 1
    refine decide_eq_decide.2 ?_
    rw[ew]
    exact⟨fun h=>h.imp Eq.symm id,fun h=>h.imp Eq.symm id⟩
theorem b4a(o:Org):∀(cs:List Ctl){g:Reg},g.Ok→uH o g=0→uH o (cs.foldl mE g)=0
 | [],_,_,h=>h
 | c::cs,g,hg,h=>b4a o cs (a8i hg c) (b2L hg h c)
structure Rmd(s s':Sn)(cs:List Ctl):Prop where
 o:s'.o=s.o
 ks:s'.ks=s.ks
 p:s'.p=s.p
 off:s'.rg.off=s.rg.off
 cpl:∀j:Nat,s'.rg.cpl.testBit j=(s.rg.cpl.testBit j&& !decide ((⟨2,0,(j:Int)⟩:Ctl)∈cs))
 stop:∀d j:Nat,(jB s'.rg.stops d).testBit j=((jB s.rg.stops d).testBit j&& !decide ((⟨1,(d:Int),(j:Int)⟩:Ctl)∈cs))
variable {s s':Sn} {cs:List Ctl}
theorem Rmd.cplB(h:Rmd s s' cs)(k:Nat):cplB s' k=(cplB s k&& !decide ((⟨2,0,(k:Int)⟩:Ctl)∈cs)):=by
 unfold Go.Ds.cplB
 rw[h.o,eh,h.cpl,ji,ji,ji]
theorem Rmd.ldB(h:Rmd s s' cs)(k:Nat)(c:Ct)(f:Bool):ldB s' k c f=(ldB s k c f&& !decide ((⟨2,0,(k:Int)⟩:Ctl)∈cs)):=by
 unfold Go.Ds.ldB
 rw[h.cplB,h.o]
 cases Go.Ds.cplB s k<;>cases decide ((⟨2,0,(k:Int)⟩:Ctl)∈cs)<;>simp
theorem Rmd.stC(h:Rmd s s' cs){k:Nat}{c:Ct}{f:Bool}(hl:Go.Ds.ldB s' k c f=true):stC s' k c=stC s k c:=by
 have h1:=(vR.1 hl).1
 have h2:=h1
 rw[h.cplB,dB]at h2
 unfold Go.Ds.stC
 rw[if_pos h1,if_pos h2.1,h.o]
theorem Rmd.de(h:Rmd s s' cs):∀{l:List Int}{f:Bool}{c e:Ct},Chn s' f c l e↔Chn s f c l e∧∀i∈l,(⟨2,0,i⟩:Ctl)∉cs
 | [],f,c,e=>⟨fun h=>⟨h,by simp⟩,fun h=>h.1⟩
 | i::l,f,c,e=>by
   constructor
   ·rintro⟨⟨k,rfl,hk⟩,h1,h2⟩
    rw[h.stC h1,h.de]at h2
    rw[h.ldB,dB]at h1
    rw[h.o]at hk
    refine⟨⟨⟨k,rfl,hk⟩,h1.1,h2.1⟩,fun i hi=> ?_⟩
    rcases ew.1 hi with rfl|hi
    ·simpa using h1.2
    ·exact h2.2 i hi
   ·rintro⟨⟨⟨k,rfl,hk⟩,h1,h2⟩,hn⟩
    have hl:Go.Ds.ldB s' k c f=true:=by
     rw[h.ldB,h1,decide_eq_false (hn _ eW)]
     rfl
    refine⟨⟨k,rfl,by rw[h.o];exact hk⟩,hl,?_⟩
    rw[h.stC hl,h.de]
    exact⟨h2,fun i hi=>hn i (eX _ hi)⟩
theorem Rmd.rch(h:Rmd s s' cs):∀{l:List Int}{f:Bool}{c e:Ct},Chn s' f c l e→rch s' c l=rch s c l
 | [],_,_,_,_=>rfl
 | i::l,f,c,e,hc=>by
   obtain⟨⟨k,rfl,hk⟩,h1,h2⟩:=hc
   show Go.Ds.stC s' k c::Go.Ds.rch s' _ l=Go.Ds.stC s k c::Go.Ds.rch s _ l
   rw[h.rch h2,h.stC h1]
theorem Rmd.drwB(h:Rmd s s' cs)(i:Nat)(c:Ct)(h0:0≤c.1):drwB s' i c=(drwB s i c&& !decide ((⟨1,c.1,(i:Int)⟩:Ctl)∈cs)):=by
 obtain⟨d,hd⟩:=fu h0
 unfold Go.Ds.drwB
 rw[h.o,h.p,hd]
 simp only[eh]
 rw[h.stop]
 generalize decide ((⟨1,((d:Nat):Int),(i:Int)⟩:Ctl)∈cs)=x
 cases x<;>simp
theorem Rmd.stpL(h:Rmd s s' cs){c:Ct}(h0:0≤c.1){x:Int}:x∈stpL s' c↔x∈stpL s c∧(⟨1,c.1,x⟩:Ctl)∉cs:=by
 unfold Go.Ds.stpL a1Q
 rw[h.o]
 constructor
 ·intro hx
  obtain⟨i,hi,rfl⟩:=dP.1 hx
  obtain⟨h1,h2⟩:=eY.1 hi
  rw[h.drwB _ _ h0,dB]at h2
  exact⟨dP.2 ⟨i,eY.2 ⟨h1,h2.1⟩,rfl⟩,by simpa using h2.2⟩
 ·rintro⟨hx,hn⟩
  obtain⟨i,hi,rfl⟩:=dP.1 hx
  obtain⟨h1,h2⟩:=eY.1 hi
  exact dP.2 ⟨i,eY.2 ⟨h1,by rw[h.drwB _ _ h0,h2,decide_eq_false hn];rfl⟩,rfl⟩
theorem Rmd.all(h:Rmd s s' cs)(hf:s.Fit)(hf':s'.Fit)(hk:∀x∈s.ks,Nt.Ok x){r:Rp}:r∈pQ s'↔r∈pQ s∧∀c∈mB r,c∉cs:=by
 have hk':∀x∈s'.ks,Nt.Ok x:=by rw[h.ks];exact hk
 rw[a1p hf hk,a1p hf' hk',h.ks]
 have hoff:rY s' r.pl.1=rY s r.pl.1:=by unfold rY;rw[h.off]
 rw[hoff]
 have hct:=oM hk hf.keys
 have hu:(∀c∈mB r,c∉cs)↔(⟨1,r.tc.1,r.stop⟩:Ctl)∉cs∧∀i∈r.cps,(⟨2,0,i⟩:Ctl)∉cs:=by
  constructor
  ·exact fun h=>⟨h _ (sS.2 (.inl rfl)),fun i hi=>h _ (sS.2 (.inr ⟨i,hi,rfl⟩))⟩
  ·rintro⟨h1,h2⟩c hc
   rcases sS.1 hc with rfl|⟨i,hi,rfl⟩
   ·exact h1
   ·exact h2 i hi
 rw[hu]
 constructor
 ·rintro⟨h1,h2,h3,h4,h5,h6⟩
  rw[h.rch h2]at h3
  rw[h.de]at h2
  have hok:=(lF s.o _).1 (h2.1.ok hf (hct _ h1))
  rw[h.stpL hok.1]at h5
  exact⟨⟨h1,h2.1,h3,h4,h5.1,h6⟩,h5.2,h2.2⟩
 ·rintro⟨⟨h1,h2,h3,h4,h5,h6⟩,h7,h8⟩
  have h2':Chn s' true r.pl r.cps r.tc:=h.de.2 ⟨h2,h8⟩
  have hok:=(lF s.o _).1 (h2.ok hf (hct _ h1))
  exact⟨h1,h2',by rw[h.rch h2'];exact h3,h4,(h.stpL hok.1).2 ⟨h5,h7⟩,h6⟩
end Go.Ds
namespace Go.Ds
open Go.Proofs
set_option maxRecDepth 10000
def a5b(l:List Ctl)(ss:List (List Ctl)):Prop:=∀x∈ss,∃c∈l,c∈x
theorem b6u:∀(f:List Ctl)(ss:List (List Ctl))(n:Nat){l:List Ctl},sM f ss n=some l→l.Sublist f∧l.length≤n∧a5b l ss:=by
 intro f
 induction f with
 | nil=>
   intro ss n l h
   cases ss with
   | nil=>rw[sY]at h;cases h;exact⟨List.Sublist.refl _,by simp,by simp[a5b]⟩
   | cons=>rw[a4e (by simp)]at h;cases h
 | cons c f ih=>
   intro ss n l h
   by_cases hs:ss=[]
   ·subst hs
    rw[sY]at h;cases h;exact⟨List.nil_sublist _,by simp,by simp[a5b]⟩
   ·cases n with
    | zero=>rw[yQ _ hs]at h;cases h
    | succ n=>
      rw[uZ _ _ hs]at h
      cases h2:sM f (ss.filter fun y=> !decide (c∈y)) n with
      | none=>
        rw[h2]at h
        obtain⟨h3,h4,h5⟩:=ih _ _ h
        exact⟨h3.cons c,h4,h5⟩
      | some m=>
        rw[h2]at h
        cases h
        obtain⟨h3,h4,h5⟩:=ih _ _ h2
        refine⟨h3.cons_cons c,by simp;omega,fun x hx=> ?_⟩
        by_cases hcx:c∈x
        ·exact⟨c,eW,hcx⟩
        ·obtain⟨d,hd,hdx⟩:=h5 x (eY.2 ⟨hx,by simpa using hcx⟩)
         exact⟨d,eX _ hd,hdx⟩
theorem b5j:∀(f:List Ctl)(ss:List (List Ctl))(n:Nat){l:List Ctl},l.Sublist f→l.length≤n→a5b l ss→(sM f ss n).isSome=true:=by
 intro f
 induction f with
 | nil=>
   intro ss n l h _ hh
   have:=List.sublist_nil.1 h
   subst this
   cases ss with
   | nil=>rfl
   | cons x ss=>
     obtain⟨c,hc,_⟩:=hh x (by simp)
     cases hc
 | cons c f ih=>
   intro ss n l h hn hh
   by_cases hs:ss=[]
   ·subst hs
    rw[sY];rfl
   ·cases n with
    | zero=>
      have:l=[]:=eG.1 (by omega)
      subst this
      obtain⟨x,hx⟩:=List.exists_mem_of_ne_nil _ hs
      obtain⟨d,hd,_⟩:=hh x hx
      cases hd
    | succ n=>
      rw[uZ _ _ hs]
      cases h2:sM f (ss.filter fun y=> !decide (c∈y)) n with
      | some m=>rfl
      | none=>
        simp only
        cases h with
        | cons _ h=>exact ih _ _ h hn hh
        | cons_cons _ h=>
          rename_i l
          have:=ih (ss.filter fun y=> !decide (c∈y)) n h (by simpa using hn) fun x hx=>by
           rw[eY]at hx
           obtain⟨d,hd,hdx⟩:=hh x hx.1
           have hcx:c∉x:=by simpa using hx.2
           rcases ew.1 hd with rfl|hd
           ·exact absurd hdx hcx
           ·exact⟨d,hd,hdx⟩
          rw[h2]at this
          cases this
theorem b6P{s:Sn}(hE:tR s=0)(hne:nD s≠[]):∃l,wC s=some l∧l.Sublist (oE s)∧a5b l ((nD s).map mB)∧∀m,m.Sublist (oE s)→a5b m ((nD s).map mB)→l.length≤m.length:=by
 have hlast:=a2n (s:=s) (oE s).length (dG _)
 have hex:∃n,(xY s n).isSome=true:=⟨_,hlast⟩
 obtain⟨n,hn,hmin⟩:∃n,(xY s n).isSome=true∧∀m,m<n→xY s m=none:=by
  have key:∀k,(xY s k).isSome=true→∃n,(xY s n).isSome=true∧∀m,m<n→xY s m=none:=by
   intro k
   induction k using Nat.strongRecOn with
   | ind k ih=>
     intro hk
     by_cases h:∃m,m<k∧(xY s m).isSome=true
     ·obtain⟨m,hm,h⟩:=h
      exact ih m hm h
     ·refine⟨k,hk,fun m hm=> ?_⟩
      cases hh:xY s m with
      | none=>rfl
      | some l=>exact absurd ⟨m,hm,by rw[hh];rfl⟩ h
  exact key _ hlast
 obtain⟨l,hl⟩:=fg.1 hn
 obtain⟨h1,h2,h3⟩:=b6u _ _ _ hl
 refine⟨l,b4O hE hne hl hmin,h1,h3,fun m hm hh=> ?_⟩
 rcases gQ m.length n with h4|h4
 ·have:=b5j _ _ m.length hm (dG _) hh
  rw[show sM (oE s) ((nD s).map mB) m.length=xY s m.length from rfl,hmin _ h4]at this
  cases this
 ·omega
theorem a0c{s:Sn}(hf:s.Fit)(hk:∀x∈s.ks,Nt.Ok x)(k1:s.o.cpls.length≤3)(k2:s.o.dvs.length≤3)(k3:∀j,j<s.o.dvs.length→(jB s.o.dvs j).stops.length≤3){r:Rp}(hr:r∈pQ s){c:Ctl}(hc:c∈mB r):zE s c=0∧((c.kind=1∧0≤c.dv∧c.dv<3∧0≤c.ix∧c.ix<3)∨(c.kind=2∧c.dv=0∧0≤c.ix∧c.ix<3)):=by
 obtain⟨h1,h2,h3,h4,h5,h6⟩:=(a1p hf hk).1 hr
 have hct:=oM hk hf.keys
 have hok:=(lF s.o _).1 (h2.ok hf (hct _ h1))
 have hsl:=hf.sl
 rcases sS.1 hc with rfl|⟨i,hi,rfl⟩
 ·unfold stpL a1Q at h5
  obtain⟨x,hx,e⟩:=dP.1 h5
  obtain⟨hx1,hx2⟩:=eY.1 hx
  have hxl:=dS.1 hx1
  have hst:=k3 r.tc.1.toNat (by omega)
  have hd:=hx2
  unfold drwB at hd
  simp only[dB,decide_eq_true_eq,eh]at hd
  refine⟨?_,.inl ⟨rfl,hok.1,by simp only;omega,by simp only;omega,by simp only;omega⟩⟩
  unfold zE
  rw[if_neg (by simp),if_neg (by simp),if_pos]
  simp only
  refine⟨trivial,hok.1,by omega,by omega,by omega,?_⟩
  rw[←e,eh]
  exact hd.1.2
 ·obtain⟨n,hn,e⟩:=eF.1 hi
  have hl:=h2.at n hn
  rw[jR _ _ hn,e]at hl
  have hcb:=(vR.1 hl).1
  obtain⟨h6,h7,_⟩:=tN hcb
  refine⟨?_,.inr ⟨rfl,rfl,by simp only;omega,by simp only;omega⟩⟩
  unfold zE
  rw[if_neg (by simp),if_pos ⟨rfl,rfl,hcb⟩]
theorem a6m{l:List Ctl}(hs:l.Pairwise zC)(h:∀c∈l,(c.kind=1∧0≤c.dv∧c.dv<3∧0≤c.ix∧c.ix<3)∨(c.kind=2∧c.dv=0∧0≤c.ix∧c.ix<3)):l.length≤12:=by
 have hn:(l.map fun c=>if c.kind=1 then(3*c.dv+c.ix).toNat else(9+c.ix).toNat).Nodup:=by
  unfold List.Nodup
  rw[fS]
  refine List.Pairwise.imp_of_mem ?_ hs
  intro a b ha hb hab e
  have h1:=h a ha
  have h2:=h b hb
  refine a0U (a:=a) ?_
  have:a=b:=by
   refine Ctl.bX ?_
   rcases h1 with⟨p1,p2,p3,p4,p5⟩|⟨p1,p2,p3,p4⟩<;>rcases h2 with⟨q1,q2,q3,q4,q5⟩|⟨q1,q2,q3,q4⟩
   ·rw[if_pos p1,if_pos q1]at e
    omega
   ·rw[if_pos p1,if_neg (by omega)]at e
    omega
   ·rw[if_neg (by omega),if_pos q1]at e
    omega
   ·rw[if_neg (by omega),if_neg (by omega)]at e
    omega
  rw[this]at hab ⊢
  exact hab
 have:=a4g 12 _ hn fun i hi=>by
  obtain⟨c,hc,rfl⟩:=dP.1 hi
  rcases h c hc with⟨q1,q2,q3,q4,q5⟩|⟨q1,q2,q3,q4⟩
  ·rw[if_pos q1];omega
  ·rw[if_neg (by omega)];omega
 simpa using this
def qL(s:Sn):List Ctl:=(wC s).getD []
theorem yG{s:Sn}(h:qM s=0){r:Rp}:r∈nD s↔r∈pQ s:=by
 unfold nD
 rw[if_pos h]
 exact List.mem_mergeSort
theorem b7E{s:Sn}(hf:s.Fit)(hk:∀x∈s.ks,Nt.Ok x)(k1:s.o.cpls.length≤3)(k2:s.o.dvs.length≤3)(k3:∀j,j<s.o.dvs.length→(jB s.o.dvs j).stops.length≤3)(h:qM s=0):tR s=0:=by
 have hl:(oE s).length≤12:=a6m (a7Q _) fun c hc=>by
  unfold oE at hc
  rw[a1d,eM]at hc
  obtain⟨r,hr,hc⟩:=hc
  exact(a0c hf hk k1 k2 k3 ((yG h).1 hr) hc).2
 unfold tR
 rw[if_neg (by rw[h];simp),if_neg (by omega)]
theorem a3d{s:Sn}(h:qM s=0)(hE:tR s=0):(qL s).Sublist (oE s)∧a5b (qL s) ((nD s).map mB)∧(∀m,m.Sublist (oE s)→a5b m ((nD s).map mB)→(qL s).length≤m.length)∧(wC s).isSome=decide (0<(nD s).length)∧(qL s=[]↔nD s=[]):=by
 by_cases hne:nD s=[]
 ·have hs:wC s=none:=by unfold wC;rw[if_pos (.inr hne)]
  unfold qL
  rw[hs,hne]
  exact⟨List.nil_sublist _,by simp[a5b],by simp,rfl,by simp⟩
 ·obtain⟨l,h1,h2,h3,h4⟩:=b6P hE hne
  unfold qL
  rw[h1]
  refine⟨h2,h3,h4,?_,?_⟩
  ·rw[decide_eq_true (fh.2 hne)];rfl
  ·refine⟨fun e=> ?_,fun e=>absurd e hne⟩
   obtain⟨r,hr⟩:=List.exists_mem_of_ne_nil _ hne
   obtain⟨c,hc,_⟩:=h3 _ (dP.2 ⟨r,hr,rfl⟩)
   rw[show l=[]from e]at hc
   cases hc
theorem b4V{s:Sn}(h:qM s=0)(hE:tR s=0){c:Ctl}(hc:c∈qL s):∃r∈pQ s,c∈mB r:=by
 have:=(a3d h hE).1.subset hc
 unfold oE at this
 rw[a1d,eM]at this
 obtain⟨r,hr,hc⟩:=this
 exact⟨r,(yG h).1 hr,hc⟩
theorem b3C{s s':Sn}(hr:Rmd s s' (qL s))(hf:s.Fit)(hf':s'.Fit)(hk:∀x∈s.ks,Nt.Ok x)(h:qM s=0)(hE:tR s=0):pQ s'=[]:=by
 rw[List.eq_nil_iff_forall_not_mem]
 intro r hm
 obtain⟨h1,h2⟩:=(hr.all hf hf' hk).1 hm
 obtain⟨c,hc,hcu⟩:=(a3d h hE).2.1 _ (dP.2 ⟨r,(yG h).2 h1,rfl⟩)
 exact h2 c hcu hc
theorem b1e{s s':Sn}{i:Nat}(hi:i<(qL s).length)(hr:Rmd s s' ((qL s).eraseIdx i))(hf:s.Fit)(hf':s'.Fit)(hk:∀x∈s.ks,Nt.Ok x)(h:qM s=0)(hE:tR s=0):pQ s'≠[]:=by
 obtain⟨h1,h2,h3,_⟩:=a3d h hE
 have hnot:¬a5b ((qL s).eraseIdx i) ((nD s).map mB):=fun hh=>by
  have:=h3 _ ((List.eraseIdx_sublist _ _).trans h1) hh
  rw[List.length_eraseIdx_of_lt hi]at this
  omega
 obtain⟨x,hx,hno⟩:∃x∈(nD s).map mB,¬∃c∈(qL s).eraseIdx i,c∈x:=by
  apply fj
  intro hn
  exact hnot fun x hx=>fj fun h2=>hn ⟨x,hx,h2⟩
 obtain⟨r,hrm,rfl⟩:=dP.1 hx
 intro he
 have:r∈pQ s':=(hr.all hf hf' hk).2 ⟨(yG h).1 hrm,fun c hc hm=>hno ⟨c,hm,hc⟩⟩
 rw[he]at this
 cases this
def a2d(q:List Ctl)(i:Int)(k:Nat):List Ctl:=((List.range k).filter fun(j:Nat)=> !decide ((j:Int)=i)).map (jB q)
theorem sX(q:List Ctl)(i:Int)(k:Nat):a2d q i (k+1)=a2d q i k++if(k:Int)=i then[]else[jB q k]:=by
 unfold a2d
 rw[eR,fJ,dY]
 congr 1
 by_cases h:(k:Int)=i
 ·rw[if_pos h];simp[h]
 ·rw[if_neg h];simp[h]
theorem a9C(q:List Ctl)(i:Int)(k:Nat):(a2d q i k).length≤k:=by
 unfold a2d
 rw[dU]
 exact dZ (fy _ _) (by simp)
theorem b0U{q:List Ctl}{i:Int}(h:i<0):∀k,k≤q.length→a2d q i k=q.take k
 | 0,_=>rfl
 | k+1,hk=>by
   rw[sX,b0U h k (by omega),if_neg (by omega),gg,dH (by omega),jR _ _ (by omega)]
   rfl
theorem c1w{q:List Ctl}{i:Nat}(hi:i<q.length):a2d q i q.length=q.eraseIdx i:=by
 have h1:∀k,k≤i→a2d q i k=q.take k:=by
  intro k
  induction k with
  | zero=>intro _;rfl
  | succ k ih=>
    intro hk
    rw[sX,ih (by omega),if_neg (by omega),gg,dH (by omega),jR _ _ (by omega)]
    rfl
 have h2:∀k,i+1+k≤q.length→a2d q i (i+1+k)=q.take i++(q.drop (i+1)).take k:=by
  intro k
  induction k with
  | zero=>
    intro hk
    rw[iu,sX,h1 i (dG _),if_pos rfl]
    simp
  | succ k ih=>
    intro hk
    rw[←gI,sX,ih (by omega),if_neg (by omega),ef]
    congr 1
    rw[gg,dH (by simp;omega),jR _ _ (by omega)]
    simp
 have:=h2 (q.length-(i+1)) (by omega)
 rw[show i+1+(q.length-(i+1))=q.length by omega]at this
 rw[this,show(q.drop (i+1)).take (q.length-(i+1))=q.drop (i+1)from iy (by simp),List.eraseIdx_eq_take_drop_succ]
end Go.Ds
namespace Go.Ds
open Go.Proofs Go.Proofs.Tryz
variable {H:Heap}
set_option maxRecDepth 10000
set_option maxHeartbeats 1000000
theorem b4d{P:Program}{a b:Code}{l:List Value}{Q:oH}(I:List Value→Heap→Prop)(hm:∀l H,I l H→SW P b l H Q)(h:SW P a l H (b5Q I Q)):SW P (.seq a b) l H Q:=
 SWr.mono a (fun e l H h=>by
  cases e with
  | normal=>exact hm _ _ h
  | exit i=>exact h
  | ret=>exact h) h
theorem c0c{q:List Ctl}{i:Int}{k:Nat}(hk:k≤q.length){c:Ctl}(h:c∈a2d q i k):c∈q:=by
 unfold a2d at h
 obtain⟨j,hj,rfl⟩:=dP.1 h
 exact jE (by have:=dS.1 (eY.1 hj).1;omega)
theorem b9T{s:Sn}(h:qM s=0){i:Nat}(hi:i+1<(nD s).length):wT (jB (nD s) i) (jB (nD s) (i+1))=-1:=by
 have hr:nD s=(pQ s).mergeSort leP:=by unfold nD;rw[if_pos h]
 have hs:=b1R (pQ s)
 have hn:((pQ s).mergeSort leP).Nodup:=(List.mergeSort_perm (pQ s) leP).nodup_iff.2 b3N
 rw[←hr]at hs hn
 rw[jR _ _ (by omega),jR _ _ hi]
 have h1:=eQ.1 hs i (i+1) (by omega) hi (by omega)
 have h2:=eQ.1 hn i (i+1) (by omega) hi (by omega)
 exact(yN.1 h1).resolve_right h2
def Sn.reg(s:Sn)(nv:Value)(g:Reg):Sn:={s with sv:=nv,rg:=g}
theorem b1K(hG:Glob gH H)(p:Pln)(hp:p.In H)(hk:p.Ok)(b kb:Nat→Nat)(br bn:Nat)(hb:∀i,b i<256)(hkb:∀i,kb i<65536)(hbr:br<256)(hbn:bn<256):
 Fn prog 8 [.agg #[p.rv,p.dv,p.cv],.agg #[.int .u8 (b 0),.int .u8 (b 1),.int .u8 (b 2),.int .u8 (b 3),.int .u8 (b 4),.int .u16 (kb 0),.int .u16 (kb 1),.int .u16 (kb 2),.int .u8 br,.int .u8 bn]] H fun r H'=>r=.bool true∧St prog H H' []:=by
 refine .aE func8 rfl (by kernel_rfl) (m:=161) rfl fun l hn g0 g1=> ?_
 simp(disch:=omega) only[↓RA,RB,simprocAttr,g0]
 refine(sR H).eNew 3 [p.rv,p.dv,p.cv] rfl rfl (by simp[((sR H).sl hp.1).cells.2.1,((sR H).sl hp.2.1).cells.2.1,((sR H).sl hp.2.2.2.1).cells.2.1]) c1T fun A1 H1 hS1=> ?_
 simp only[RT]at hS1
 simp(disch:=omega) only[↓RA,RB,simprocAttr,g1]
 refine hS1.eNew 10 [(.int .u8 (b 0)),(.int .u8 (b 1)),(.int .u8 (b 2)),(.int .u8 (b 3)),(.int .u8 (b 4)),(.int .u16 (kb 0)),(.int .u16 (kb 1)),(.int .u16 (kb 2)),(.int .u8 br),(.int .u8 bn)] rfl rfl rfl c7o fun A2 H2 hS2=> ?_
 simp only[RT]at hS2
 simp(disch:=omega) only[↓RA,RZ,simprocAttr]
 refine hS2.cF (a4D (hS2.gl hG)) fun H3 hS3=> ?_
 simp(disch:=omega) only[↓RA,RZ,simprocAttr,hn,hS3.ae 0 rfl]
 refine hS3.cF (c2O p (hp.ag hS3)) fun H4 hS4=> ?_
 simp(disch:=omega) only[↓RA,RZ,simprocAttr,hn]
 refine kA (fun h1=> ?_) (fun h1=> ?_)
 ·simp(disch:=omega) only[↓RA,RZ,simprocAttr]
  refine hS4.cF (a4D (hS4.gl hG)) fun H5 hS5=> ?_
  simp(disch:=omega) only[↓RA,RZ,simprocAttr,hn,tR8,h1]
  exact hS5.forget
 have hf:tV p=true:=by simpa using h1
 simp(disch:=omega) only[↓RA,RZ,simprocAttr,hn,hS4.ae 0 rfl,hS4.ae 1 rfl,h1]
 refine jG (b7x (hS4.gl hG) p (hp.ag hS4) hk hf b hb kb hkb br bn hbr hbn) ?_
 rintro r H6⟨s,rfl,hs,hm,hT4⟩
 have hS6:=hS4.trans hT4
 simp only[RT]at hS6
 have hfit:=hm.fit hf
 have hz:=qG.2 hfit
 have hko:∀x∈s.ks,Nt.Ok x:=hs.ks.ok
 obtain⟨k1,k2,k3⟩:=hm.made.small hf
 have hS0:=hS6
 have hG2:=hS0.gl hG
 simp(disch:=omega) only[↓RA,RZ,simprocAttr]
 refine(sR H6).eNew 10 [(.string ⟨#[]⟩),(.slice none 0 0),(.slice none 0 0),(.slice none 0 0),(.slice none 0 0),(.int .u64 0),(.int .u64 0),(.slice none 0 0),I 0,I 0] rfl rfl rfl pS fun A3 H7 hS7=> ?_
 simp only[RT]at hS7
 simp(disch:=omega) only[↓RA,RB,simprocAttr,hn,h1]
 refine hS7.aa 0 rfl [(.string s.o.name),s.o.rv,s.o.dv,s.o.cv,s.sv,(.int .u64 s.rg.cpl),(.int .u64 s.rg.off),s.kv,I s.p.1,I s.p.2] rfl (by simp[OC,(hS7.sl hs.o.1).cells.2.1,(hS7.sl hs.o.2.2.1).cells.2.1,(hS7.sl hs.o.2.2.2.2.1).cells.2.1,(hS7.sl hs.rg.1).cells.2.1,(hS7.sl hs.ks.sl).cells.2.1]) pS (by simp) fun H8 hS8=> ?_
 simp only[RT]at hS8
 simp(disch:=omega) only[↓RA,RZ,simprocAttr,hn,hS8.ae 0 rfl,h1]
 refine jG (b4q (hS8.gl hG2) s (hs.ag hS8)) ?_
 rintro r H9⟨ov,es,rfl,hR1,hR2,hT5⟩
 have hS9:=hS8.trans hT5
 simp only[RT]at hS9
 simp(disch:=omega) only[↓RA,RZ,simprocAttr,hn,h1]
 have hS1:=hS9
 have hs1:=hs.ag hS1
 have hG3:=hS1.gl hG2
 have hv1:=hS1.var 0 rfl
 have hL1:Sl 6 Rn.cells _ ov es:=hS1.az 1 rfl (fun _=>rfl)
 have hL2:∀e∈es,e.In _:=fun e he=>⟨(hR2 e he).1.1,by have:=(hR2 e he).2;omega⟩
 refine jL (fun q1=> ?_) (fun q1=> ?_)
 ·have hE4:qM s=4:=by
   unfold qM at q1 ⊢
   rw[hz,if_neg (by simp)]at q1 ⊢
   split
   ·rfl
   ·rename_i h;rw[if_neg h]at q1;exact absurd rfl q1
  simp(disch:=omega) only[↓RA,RZ,simprocAttr,hn,tR8,h1,hE4]
  exact hS0.forget.trans (hS1.forget.trans (sR H9).forget)
 have hE0:qM s=0:=dX.1 q1
 simp(disch:=omega) only[↓RA,RZ,simprocAttr,hn,((sR H9).sl hL1).len,h1,hE0]
 refine jA (fun q2=> ?_) (fun q2=> ?_)
 ·simp(disch:=omega) only[↓RA,RZ,simprocAttr,hn,tR8,h1,hE0,q2]
  exact hS0.forget.trans (hS1.forget.trans (sR H9).forget)
 simp(disch:=omega) only[↓RA,RZ,simprocAttr,h1,hE0,q2]
 have hel:es.length=(nD s).length:=by rw[←hR1,dU]
 have hel40:es.length≤40:=by omega
 refine Wp.ak (fun n l H'=>l.length=161∧get l 5=(ptr A3 0 10)∧get l 6=ov∧∃(i:Nat),(n+i=es.length)∧get l 8=I i∧St prog H9 H' []) es.length ?_ ?_
 ·simp(disch:=omega) only[RB,RC,simprocAttr,hn]
  exact⟨0,by omega,rfl,(sR H9)⟩
 rintro n l H10⟨hn,g5,g6,i,hi,g8,hS10⟩
 simp(disch:=omega) only[↓RA,RZ,simprocAttr,hn,g6,g8,(hS10.sl hL1).len]
 refine jA (fun q3=> ?_) (fun q3=> ?_)
 ·have hil:i<es.length:=by omega
  have hrm:(jB es i).rp∈pQ s:=by
   rw[←yG hE0,←hR1]
   exact dP.2 ⟨_,jE hil,rfl⟩
  simp(disch:=omega) only[↓RA,RC,simprocAttr,q3]
  refine Wp.drw kQ (by kernel_rfl) ?_
  simp(disch:=omega) only[↓RA,RZ,simprocAttr,hn,g5,g6,g8,(hv1.ag hS10.ag).ae,(hS10.sl hL1).idx,(hS10.sl hL1).ae,Rn.cells]
  have hvf:=a6w (hS10.gl hG3) s (hs1.ag hS10) (jB es i) ((hL2 _ (jE hil)).ag hS10)
  rw[c4o hfit hko hrm]at hvf
  refine hS10.cF (hvf) fun H11 hS11=> ?_
  simp(disch:=omega) only[↓RA,RZ,simprocAttr,hn,g8]
  refine jW (fun q4=> ?_) (fun q4=> ?_)
  ·have hix:((i:Int)-1).toNat=i-1:=by omega
   have hil1:i-1<es.length:=by omega
   have hc1:a7V (jB es (i-1)) (jB es i)=-1:=by
    have:=b9T hE0 (i:=i-1) (by omega)
    rw[←hR1,b8d es _ hil1,b8d es _ (by omega),show i-1+1=i by omega]at this
    exact this
   simp(disch:=omega) only[↓RA,RZ,simprocAttr,hn,g6,g8,(hS11.sl hL1).idx,(hS11.sl hL1).ae,Rn.cells,q4,hix]
   have hcp:=b4o (jB es (i-1)) (jB es i) ((hL2 _ (jE hil1)).ag hS11) ((hL2 _ (jE hil)).ag hS11)
   rw[hc1]at hcp
   refine hS11.cF (hcp) fun H12 hS12=> ?_
   simp(disch:=omega) only[↓RA,RZ,simprocAttr,hn,g5,g6,g8,q4]
   exact⟨n-1,by omega,i+1,by omega,by simp,hS12⟩
  simp(disch:=omega) only[↓RA,RZ,simprocAttr,hn,g5,g6,g8,q4]
  exact⟨n-1,by omega,i+1,by omega,by simp,hS11⟩
 have hsE:=b7E hfit hko k1 k2 k3 hE0
 obtain⟨hq1,hq2,hq3,hq4,hq5⟩:=a3d hE0 hsE
 have hF:decide (0<(nD s).length)=decide ((0:Int)<es.length):=decide_eq_decide.2 (by omega)
 have hql:(qL s).length≤12:=by
  refine a6m ((a7Q _).sublist hq1) fun c hc=> ?_
  obtain⟨r,hr,hcr⟩:=b4V hE0 hsE hc
  exact(a0c hfit hko k1 k2 k3 hr hcr).2
 simp only[b4I,a5U,a2q,zZ]
 show SW prog (Code.seq _ _) _ _ _
 refine b4d (fun l H'=>l.length=161∧get l 5=(ptr A3 0 10)∧get l 6=ov∧∃(lv:Value),(Sl 3 Ctl.cells H' lv (qL s))∧get l 9=lv∧get l 10=(.bool (decide ((0:Int)<es.length)))∧get l 11=I 0∧St prog H9 H' []) ?_ ?_
 ·rintro l H13⟨hn,g5,g6,lv,hlx,g9,wW,g11,hS13⟩
  have hS2:=hS13
  have hs2:=hs1.ag hS2
  have hG4:=hS2.gl hG3
  have hv2:=hv1.ag hS2.ag
  have hL3:=hS2.sl hL1
  have hL4:∀e∈es,e.In _:=fun e he=>(hL2 e he).ag hS2
  show SW prog (Code.seq _ _) _ _ _
  refine b4d (fun l H'=>l.length=161∧get l 5=(ptr A3 0 10)∧get l 9=lv∧St prog H13 H' []) ?_ ?_
  ·rintro l H14⟨hn,g5,g9,hS14⟩
   have hS3:=hS14
   have hs3:=hs2.ag hS3
   have hG5:=hS3.gl hG4
   have hv3:=hv2.ag hS3.ag
   have hl3:=hS3.sl hlx
   simp(disch:=omega) only[↓RA,RB,simprocAttr]
   refine Wp.ak (fun n l H'=>l.length=161∧get l 5=(ptr A3 0 10)∧get l 9=lv∧∃(m:Nat),(n+m=(qL s).length+1)∧get l 12=I ((m:Int)-1)∧St prog H14 H' []) ((qL s).length+1) ?_ ?_
   ·simp(disch:=omega) only[RB,RC,simprocAttr,hn,g5,g9]
    exact⟨0,by omega,rfl,(sR H14)⟩
   rintro n l H15⟨hn,g5,g9,m,hm1,g12,hS15⟩
   have hS4:=hS15
   have hs4:=hs3.ag hS4
   have hG6:=hS4.gl hG5
   have hv4:=hv3.ag hS4.ag
   have hl4:=hS4.sl hl3
   simp(disch:=omega) only[↓RA,RZ,simprocAttr,hn,g9,g12,((sR H15).sl hl4).len]
   refine jA (fun q8=> ?_) (fun q8=> ?_)
   ·have hml:m<(qL s).length+1:=by omega
    simp(disch:=omega) only[↓RA,RZ,simprocAttr,q8]
    have hS16:=(sR H15).nil 2
    simp only[RT]at hS16
    refine Wp.ak (fun n l H'=>l.length=161∧get l 5=(ptr A3 0 10)∧get l 9=lv∧get l 12=I ((m:Int)-1)∧∃(k:Nat)(sv:Value),(n+k=(qL s).length)∧get l 14=I k∧get l 13=sv∧St prog H15 H' [⟨sv,3,oC (a2d (qL s) ((m:Int)-1) k)⟩]) (qL s).length ?_ ?_
    ·simp(disch:=omega) only[RB,RC,simprocAttr,hn,g5,g9,g12]
     exact⟨0,.slice none 0 0,by omega,rfl,rfl,hS16⟩
    rintro n l H16⟨hn,g5,g9,g12,k,sv,hk1,g14,g13,hS17⟩
    simp(disch:=omega) only[↓RA,RZ,simprocAttr,hn,g9,g14,(hS17.sl hl4).len]
    refine jA (fun q9=> ?_) (fun q9=> ?_)
    ·have hkl:k<(qL s).length:=by omega
     have hbl:=a9C (qL s) ((m:Int)-1) k
     simp(disch:=omega) only[↓RA,RZ,simprocAttr,hn,g12,g14,q9]
     refine jA (fun q10=> ?_) (fun q10=> ?_)
     ·skip
      simp(disch:=omega) only[↓RA,RZ,simprocAttr,hn,g9,g14,g13,(hS17.sl hl4).idx,(hS17.sl hl4).ae,Ctl.cells,q9,q10]
      refine hS17.aj [I (jB (qL s) k).kind,I (jB (qL s) k).dv,I (jB (qL s) k).ix] b0C c2K rfl rfl (by simp[Value.cells]) rfl rfl (by decide) (by decide) fun w1 H17 hS18=> ?_
      simp only[RT]at hS18
      simp(disch:=omega) only[↓RA,RZ,simprocAttr,hn,q9,q10]
      refine hS18.aq 0 rfl (hS18.rd 1 rfl) b0C (by rw[jJ (n:=3) (fun _=>rfl)];simp;omega) fun w2 H18 hS19=> ?_
      simp only[RT]at hS19
      simp(disch:=omega) only[↓RA,RZ,simprocAttr,hn,g5,g9,g12,g14,q9,q10]
      refine⟨n-1,by omega,k+1,w2,by omega,by simp,rfl,?_⟩
      rw[sX,if_neg (by omega),pN]
      exact hS19.pick [0] (by decide) rfl
     simp(disch:=omega) only[↓RA,RZ,simprocAttr,hn,g5,g9,g12,g14,g13,q9,q10]
     refine⟨n-1,by omega,k+1,sv,by omega,by simp,rfl,?_⟩
     rw[sX,if_pos (by omega),dO]
     exact hS17
    have hkk:k=(qL s).length:=by omega
    obtain⟨cs,hcs⟩:∃cs,cs=a2d (qL s) ((m:Int)-1) (qL s).length:=⟨_,rfl⟩
    rw[hkk,←hcs]at hS17
    have hcl:cs.length≤12:=by have:=a9C (qL s) ((m:Int)-1) (qL s).length;rw[hcs];omega
    have hcw:∀c∈cs,zE s c=0∧c4l s.rg.stops.length c:=fun c hc=>by
     rw[hcs]at hc
     obtain⟨r,hr,hcr⟩:=b4V hE0 hsE (c0c (dG _) hc)
     obtain⟨u1,u2⟩:=a0c hfit hko k1 k2 k3 hr hcr
     refine⟨u1,?_⟩
     unfold zE at u1
     split at u1
     ·cases u1
     ·split at u1
      ·rename_i u3
       obtain⟨u4,u5,_⟩:=tN u3.2.2
       exact .inl ⟨u3.1,u3.2.1,by omega,by omega⟩
      ·split at u1
       ·rename_i u3
        exact .inr ⟨u3.1,u3.2.1,u3.2.2.1,u3.2.2.2.1,u3.2.2.2.2.1⟩
       ·cases u1
    have hw0:a1U s cs=0:=by
     unfold a1U
     rw[hz,if_neg (by simp)]
     exact lZ _ _ fun j hj=>(hcw _ (jE hj)).1
    have hwR:uM s cs=cs.foldl mE s.rg:=if_pos hw0
    obtain⟨r1,r2,r3,r4,r5⟩:=b7U cs hs.rg.2 fun c hc=>(hcw c hc).2
    rw[←hwR]at r1 r2 r3 r4 r5
    have r6:uH s.o (uM s cs)=0:=by rw[hwR];exact b4a s.o cs hs.rg.2 hfit.reg
    simp(disch:=omega) only[↓RA,RZ,simprocAttr,hn,g5,g13,(hv4.ag hS17.ag).ae,q9]
    have hwo:=b3u s (hs4.ag hS17) _ cs (hS17.az 0 rfl (fun _=>rfl)) (by omega)
    rw[hw0]at hwo
    refine jG (hwo) ?_
    rintro r H19⟨nv,rfl,hT8⟩
    have hS20:=hS17.trans hT8
    simp only[RT]at hS20
    simp(disch:=omega) only[↓RA,RZ,simprocAttr,hn,q9]
    refine hS20.eNew 3 [(.slice none 0 0),(.int .u64 0),(.int .u64 0)] rfl rfl rfl tT fun A4 H20 hS21=> ?_
    simp only[RT]at hS21
    simp(disch:=omega) only[↓RA,RZ,simprocAttr,hn,q9]
    refine hS21.aa 2 rfl [nv,(.int .u64 (uM s cs).cpl),(.int .u64 (uM s cs).off)] rfl (by simp[OC,(hS21.rd 1 rfl).cells.2.1]) tT (by simp) fun H21 hS22=> ?_
    simp only[RT]at hS22
    simp(disch:=omega) only[↓RA,RZ,simprocAttr,hn,g5,(hv4.ag hS22.ag).ae,q9]
    refine hS22.eNew 10 [(.string ⟨#[]⟩),(.slice none 0 0),(.slice none 0 0),(.slice none 0 0),(.slice none 0 0),(.int .u64 0),(.int .u64 0),(.slice none 0 0),I 0,I 0] rfl rfl rfl pS fun A5 H22 hS23=> ?_
    simp only[RT]at hS23
    simp(disch:=omega) only[↓RA,RZ,simprocAttr,hn,q9]
    refine hS23.aa 3 rfl [(.string s.o.name),s.o.rv,s.o.dv,s.o.cv,s.sv,(.int .u64 s.rg.cpl),(.int .u64 s.rg.off),s.kv,I s.p.1,I s.p.2] rfl (by simp[OC,(hS23.sl hs4.o.1).cells.2.1,(hS23.sl hs4.o.2.2.1).cells.2.1,(hS23.sl hs4.o.2.2.2.2.1).cells.2.1,(hS23.sl hs4.rg.1).cells.2.1,(hS23.sl hs4.ks.sl).cells.2.1]) pS (by simp) fun H23 hS24=> ?_
    simp only[RT]at hS24
    simp(disch:=omega) only[↓RA,RZ,simprocAttr,hn,hS24.ae 2 rfl,q9]
    refine hS24.aa 3 rfl [nv,(.int .u64 (uM s cs).cpl),(.int .u64 (uM s cs).off)] rfl (by simp[OC,(hS24.rd 1 rfl).cells.2.1]) tT (by simp) fun H24 hS25=> ?_
    simp only[RT]at hS25
    simp(disch:=omega) only[↓RA,RZ,simprocAttr,hn,hS25.ae 3 rfl,q9]
    obtain⟨s2,hs2d⟩:∃s2,s2=s.reg nv (uM s cs):=⟨_,rfl⟩
    have hR:Rmd s s2 cs:=by
     rw[hs2d]
     exact⟨rfl,rfl,rfl,r3,r4,r5⟩
    have hfit2:s2.Fit:=by
     rw[hs2d]
     exact⟨r6,hfit.keys,hfit.p⟩
    have hfd:(wR s2).isSome=decide (0≤(m:Int)-1):=by
     rw[c1r hfit2 (by rw[hR.ks];exact hko)]
     refine decide_eq_decide.2 ?_
     rw[fh,Ne,a9u]
     rcases Nat.eq_zero_or_pos m with hm0|hm0
     ·have hce:cs=qL s:=by rw[hcs,b0U (by omega) _ (dG _),eS]
      have:=b3C (hce▸hR) hfit hfit2 hko hE0 hsE
      constructor
      ·intro h;exact absurd this h
      ·intro h;omega
     ·have hce:cs=(qL s).eraseIdx (m-1):=by
       rw[hcs,show(m:Int)-1=((m-1:Nat):Int) by omega,c1w (by omega)]
      have:=b1e (by omega) (hce▸hR) hfit hfit2 hko hE0 hsE
      exact⟨fun _=>by omega,fun _=>this⟩
    have hin2:s2.In H24:=by
     rw[hs2d]
     exact⟨(hs4.ag hS25).o,⟨hS25.az 1 rfl (fun _=>rfl),r1⟩,(hs4.ag hS25).ks⟩
    have hL:=a8H (hS25.gl hG6) s2 hin2
    rw[qG.2 hfit2,hfd]at hL
    simp only[c6J]at hL
    have hv2e:s2.v=.agg #[.string s.o.name,s.o.rv,s.o.dv,s.o.cv,nv,.int .u64 (uM s cs).cpl,.int .u64 (uM s cs).off,s.kv,I s.p.1,I s.p.2]:=by rw[hs2d];rfl
    rw[hv2e]at hL
    refine jG (hL) ?_
    rintro r H25⟨cv,rfl,hT9⟩
    have hS26:=hS25.trans hT9
    simp only[RT]at hS26
    simp(disch:=omega) only[↓RA,RZ,simprocAttr,hn,q9]
    refine hS26.eNew 6 [I 0,I 0,(.slice none 0 0),I 0,I 0,I 0] rfl rfl rfl pV fun A6 H26 hS27=> ?_
    simp only[RT]at hS27
    simp(disch:=omega) only[↓RA,RZ,simprocAttr,hn,q9]
    refine hS27.aa 5 rfl [I (uR s2 (wR s2) cv).pl.1,I (uR s2 (wR s2) cv).pl.2,cv,I (uR s2 (wR s2) cv).tc.1,I (uR s2 (wR s2) cv).tc.2,I (uR s2 (wR s2) cv).stop] rfl (by simp[OC,(hS27.rd 4 rfl).cells.2.1]) pV (by simp) fun H27 hS28=> ?_
    simp only[RT]at hS28
    simp(disch:=omega) only[↓RA,RZ,simprocAttr,hn,g5,g9,g12,q9,neB]
    exact⟨(qL s).length+1-(m+1),by omega,m+1,by omega,by simp,hS4.trans hS28.forget⟩
   try simp(disch:=omega) only[↓RA,RZ,simprocAttr,hn,tR8,q8]
   exact hS0.forget.trans (hS1.forget.trans (hS2.trans (hS3.trans (hS4.trans (sR H15).forget))))
  simp(disch:=omega) only[↓RA,RZ,simprocAttr,hn,g6,wW,g11,((sR H13).sl hL3).len,neB]
  refine lI (fun q5=> ?_) (fun q5=> ?_)
  ·have hn5:es.length=0:=by
    have:decide ((0:Int)<es.length)=false:=by simpa using q5
    have:=of_decide_eq_false this
    omega
   have hq0:(qL s).length=0:=by rw[hq5.2 (eG.1 (by omega))];rfl
   try simp(disch:=omega) only[↓RA,RZ,simprocAttr,hn,g9,((sR H13).sl hlx).len,q5]
   refine jL (fun q6=> ?_) (fun q6=> ?_)
   ·exfalso;first|omega|(simp at q6;omega)
   simp(disch:=omega) only[↓RA,RZ,simprocAttr,hn,wW,q5,q6]
   refine jW (fun q7=> ?_) (fun q7=> ?_)
   ·exfalso;first|omega|(simp at q7;omega)
   simp(disch:=omega) only[↓RA,RZ,simprocAttr,hn,g5,g9,lW,q6,q7]
   exact(sR H13)
  have hn5:0<es.length:=by
   have:decide ((0:Int)<es.length)=true:=by simpa using q5
   have:=of_decide_eq_true this
   omega
  have hq0:0<(qL s).length:=fh.2 fun e=>by
   rw[hq5.1 e,eT]at hel
   omega
  simp(disch:=omega) only[↓RA,RZ,simprocAttr,hn,wW,q5]
  refine jW (fun q6=> ?_) (fun q6=> ?_)
  rotate_left
  ·exfalso;first|omega|(simp at q6;omega)
  simp(disch:=omega) only[↓RA,RZ,simprocAttr,hn,g9,((sR H13).sl hlx).len,q6]
  refine jA (fun q7=> ?_) (fun q7=> ?_)
  ·exfalso;first|omega|(simp at q7;omega)
  simp(disch:=omega) only[↓RA,RZ,simprocAttr,hn,g5,g9,lW,q6,q7]
  exact(sR H13)
 simp(disch:=omega) only[↓RA,RZ,simprocAttr,hn,g5,(hv1.ag hS10.ag).ae,q3,lW]
 have hsil:=a4w (hS10.gl hG3) s (hs1.ag hS10)
 rw[show(wC s).getD []=qL s from rfl,hsE,hq4,hF]at hsil
 refine jG (hsil) ?_
 rintro r H28⟨lv,rfl,hT10⟩
 have hS29:=hS10.trans hT10
 simp only[RT]at hS29
 simp(disch:=omega) only[↓RA,RZ,simprocAttr,hn,g5,g6,q3]
 exact⟨lv,hS29.az 0 rfl (fun _=>rfl),rfl,hS29.forget⟩
end Go.Ds
