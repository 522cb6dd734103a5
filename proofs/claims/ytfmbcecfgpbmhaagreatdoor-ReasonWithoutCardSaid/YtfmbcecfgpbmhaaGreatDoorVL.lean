/-
  A part of the proof of ReasonWithout.
-/
import Derived.Shelf.SlGeneric
import Derived.Shelf.SlLaysF0
import Derived.Test.YtfmbcecfgpbmhaaGreatDoorProg
import Derived.Test.YtfmbcecfgpbmhaaGreatDoorVK
import Derived.Shelf.SlSortCmp.NoneTotal
import Derived.Test.YtfmbcecfgpbmhaaGreatDoorVD
import Derived.Test.YtfmbcecfgpbmhaaGreatDoorVC
import Derived.Test.YtfmbcecfgpbmhaaGreatDoorVI
import Derived.Test.YtfmbcecfgpbmhaaGreatDoorVB
set_option linter.unusedVariables false
set_option linter.unusedSimpArgs false
set_option linter.defProp false
set_option linter.unusedSectionVars false
namespace Go.Proofs
open Go.Shelf
def Tryz.bQ:Go.Shelf.Ren:=⟨fun|6=>53|15=>99|14=>98|28=>139|29=>140|20=>131|21=>132|22=>133|23=>134|24=>135|25=>136|26=>137|27=>138|46=>175|47=>176|48=>177|49=>178|50=>179|57=>199|n=>n,fun|22=>75|24=>26|25=>28|3=>3|39=>64|0=>0|53=>252|55=>48|4=>4|46=>246|45=>245|50=>202|5=>5|9=>9|66=>281|70=>285|76=>308|77=>309|n=>n,fun|n=>n⟩
theorem Tryz.cr:Go.Proofs.SlLaysF0.n6 Tryz.prog Tryz.bQ:={
 mixed:=by kernel_rfl
 f6:=⟨Tryz.f53.name,by decide,Tryz.func53.trans (congrArg some (by kernel_rfl))⟩
 f14:=⟨Tryz.f98.name,by decide,Tryz.func98.trans (congrArg some (by kernel_rfl))⟩
 f15:=Tryz.func99.trans (congrArg some (by kernel_rfl))
 f20:=⟨Tryz.f131.name,by decide,Tryz.func131.trans (congrArg some (by kernel_rfl))⟩
 f21:=⟨Tryz.f132.name,by decide,Tryz.func132.trans (congrArg some (by kernel_rfl))⟩
 f22:=⟨Tryz.f133.name,by decide,Tryz.func133.trans (congrArg some (by kernel_rfl))⟩
 f23:=⟨Tryz.f134.name,by decide,Tryz.func134.trans (congrArg some (by kernel_rfl))⟩
 f24:=⟨Tryz.f135.name,by decide,Tryz.func135.trans (congrArg some (by kernel_rfl))⟩
 f25:=⟨Tryz.f136.name,by decide,Tryz.func136.trans (congrArg some (by kernel_rfl))⟩
 f26:=⟨Tryz.f137.name,by decide,Tryz.func137.trans (congrArg some (by kernel_rfl))⟩
 f27:=⟨Tryz.f138.name,by decide,Tryz.func138.trans (congrArg some (by kernel_rfl))⟩
 f28:=Tryz.func139.trans (congrArg some (by kernel_rfl))
 f29:=Tryz.func140.trans (congrArg some (by kernel_rfl))
 f46:=⟨Tryz.f175.name,by decide,Tryz.func175.trans (congrArg some (by kernel_rfl))⟩
 f47:=Tryz.func176.trans (congrArg some (by kernel_rfl))
 f48:=Tryz.func177.trans (congrArg some (by kernel_rfl))
 f49:=⟨Tryz.f178.name,by decide,Tryz.func178.trans (congrArg some (by kernel_rfl))⟩
 f50:=⟨Tryz.f179.name,by decide,Tryz.func179.trans (congrArg some (by kernel_rfl))⟩
 f57:=⟨Tryz.f199.name,by decide,Tryz.func199.trans (congrArg some (by kernel_rfl))⟩
 t0:=Tryz.underlying0
 a0:=Tryz.isAgg0
 z0:=Tryz.sizeOf0
 v0:=Tryz.zeroValue0
 t3:=Tryz.underlying3
 a3:=Tryz.isAgg3
 z3:=Tryz.sizeOf3
 v3:=Tryz.zeroValue3
 t4:=Tryz.underlying4
 a4:=Tryz.isAgg4
 z4:=Tryz.sizeOf4
 v4:=Tryz.zeroValue4
 t5:=Tryz.underlying5
 a5:=Tryz.isAgg5
 z5:=Tryz.sizeOf5
 v5:=Tryz.zeroValue5
 t9:=Tryz.underlying9
 a9:=Tryz.isAgg9
 z9:=Tryz.sizeOf9
 v9:=Tryz.zeroValue9
 t22:=Tryz.underlying75
 a22:=Tryz.isAgg75
 z22:=Tryz.sizeOf75
 v22:=Tryz.zeroValue75
 t25:=Tryz.underlying28
 a25:=Tryz.isAgg28
 z25:=Tryz.sizeOf28
 v25:=Tryz.zeroValue28
 t39:=Tryz.underlying64
 a39:=Tryz.isAgg64
 z39:=Tryz.sizeOf64
 v39:=Tryz.zeroValue64
 t45:=Tryz.underlying245
 a45:=Tryz.isAgg245
 z45:=Tryz.sizeOf245
 v45:=Tryz.zeroValue245
 t46:=Tryz.underlying246
 a46:=Tryz.isAgg246
 z46:=Tryz.sizeOf246
 v46:=Tryz.zeroValue246
 t50:=Tryz.underlying202
 a50:=Tryz.isAgg202
 z50:=Tryz.sizeOf202
 v50:=Tryz.zeroValue202
 t53:=Tryz.underlying252
 a53:=Tryz.isAgg252
 z53:=Tryz.sizeOf252
 v53:=Tryz.zeroValue252
 t55:=Tryz.underlying48
 a55:=Tryz.isAgg48
 z55:=Tryz.sizeOf48
 v55:=Tryz.zeroValue48
 t66:=Tryz.underlying281
 a66:=Tryz.isAgg281
 z66:=Tryz.sizeOf281
 v66:=Tryz.zeroValue281
 t70:=Tryz.underlying285
 a70:=Tryz.isAgg285
 z70:=Tryz.sizeOf285
 v70:=Tryz.zeroValue285
 t76:=Tryz.underlying308
 a76:=Tryz.isAgg308
 z76:=Tryz.sizeOf308
 v76:=Tryz.zeroValue308
 t77:=Tryz.underlying309
 a77:=Tryz.isAgg309
 z77:=Tryz.sizeOf309
 v77:=Tryz.zeroValue309}
def Tryz.bR:Go.Shelf.Ren:=⟨fun|6=>62|15=>99|14=>105|28=>139|29=>140|20=>143|21=>144|22=>145|23=>146|24=>147|25=>148|26=>149|27=>150|46=>182|47=>176|48=>177|49=>183|50=>184|57=>200|n=>n,fun|22=>40|24=>63|25=>156|3=>3|39=>64|0=>0|53=>252|55=>48|4=>4|46=>246|45=>245|50=>202|5=>5|9=>9|66=>281|70=>285|76=>308|77=>309|n=>n,fun|n=>n⟩
theorem Tryz.ct:Go.Proofs.SlLaysF0.n6 Tryz.prog Tryz.bR:={
 mixed:=by kernel_rfl
 f6:=⟨Tryz.f62.name,by decide,Tryz.func62.trans (congrArg some (by kernel_rfl))⟩
 f14:=⟨Tryz.f105.name,by decide,Tryz.func105.trans (congrArg some (by kernel_rfl))⟩
 f15:=Tryz.func99.trans (congrArg some (by kernel_rfl))
 f20:=⟨Tryz.f143.name,by decide,Tryz.func143.trans (congrArg some (by kernel_rfl))⟩
 f21:=⟨Tryz.f144.name,by decide,Tryz.func144.trans (congrArg some (by kernel_rfl))⟩
 f22:=⟨Tryz.f145.name,by decide,Tryz.func145.trans (congrArg some (by kernel_rfl))⟩
 f23:=⟨Tryz.f146.name,by decide,Tryz.func146.trans (congrArg some (by kernel_rfl))⟩
 f24:=⟨Tryz.f147.name,by decide,Tryz.func147.trans (congrArg some (by kernel_rfl))⟩
 f25:=⟨Tryz.f148.name,by decide,Tryz.func148.trans (congrArg some (by kernel_rfl))⟩
 f26:=⟨Tryz.f149.name,by decide,Tryz.func149.trans (congrArg some (by kernel_rfl))⟩
 f27:=⟨Tryz.f150.name,by decide,Tryz.func150.trans (congrArg some (by kernel_rfl))⟩
 f28:=Tryz.func139.trans (congrArg some (by kernel_rfl))
 f29:=Tryz.func140.trans (congrArg some (by kernel_rfl))
 f46:=⟨Tryz.f182.name,by decide,Tryz.func182.trans (congrArg some (by kernel_rfl))⟩
 f47:=Tryz.func176.trans (congrArg some (by kernel_rfl))
 f48:=Tryz.func177.trans (congrArg some (by kernel_rfl))
 f49:=⟨Tryz.f183.name,by decide,Tryz.func183.trans (congrArg some (by kernel_rfl))⟩
 f50:=⟨Tryz.f184.name,by decide,Tryz.func184.trans (congrArg some (by kernel_rfl))⟩
 f57:=⟨Tryz.f200.name,by decide,Tryz.func200.trans (congrArg some (by kernel_rfl))⟩
 t0:=Tryz.underlying0
 a0:=Tryz.isAgg0
 z0:=Tryz.sizeOf0
 v0:=Tryz.zeroValue0
 t3:=Tryz.underlying3
 a3:=Tryz.isAgg3
 z3:=Tryz.sizeOf3
 v3:=Tryz.zeroValue3
 t4:=Tryz.underlying4
 a4:=Tryz.isAgg4
 z4:=Tryz.sizeOf4
 v4:=Tryz.zeroValue4
 t5:=Tryz.underlying5
 a5:=Tryz.isAgg5
 z5:=Tryz.sizeOf5
 v5:=Tryz.zeroValue5
 t9:=Tryz.underlying9
 a9:=Tryz.isAgg9
 z9:=Tryz.sizeOf9
 v9:=Tryz.zeroValue9
 t22:=Tryz.underlying40
 a22:=Tryz.isAgg40
 z22:=Tryz.sizeOf40
 v22:=Tryz.zeroValue40
 t25:=Tryz.underlying156
 a25:=Tryz.isAgg156
 z25:=Tryz.sizeOf156
 v25:=Tryz.zeroValue156
 t39:=Tryz.underlying64
 a39:=Tryz.isAgg64
 z39:=Tryz.sizeOf64
 v39:=Tryz.zeroValue64
 t45:=Tryz.underlying245
 a45:=Tryz.isAgg245
 z45:=Tryz.sizeOf245
 v45:=Tryz.zeroValue245
 t46:=Tryz.underlying246
 a46:=Tryz.isAgg246
 z46:=Tryz.sizeOf246
 v46:=Tryz.zeroValue246
 t50:=Tryz.underlying202
 a50:=Tryz.isAgg202
 z50:=Tryz.sizeOf202
 v50:=Tryz.zeroValue202
 t53:=Tryz.underlying252
 a53:=Tryz.isAgg252
 z53:=Tryz.sizeOf252
 v53:=Tryz.zeroValue252
 t55:=Tryz.underlying48
 a55:=Tryz.isAgg48
 z55:=Tryz.sizeOf48
 v55:=Tryz.zeroValue48
 t66:=Tryz.underlying281
 a66:=Tryz.isAgg281
 z66:=Tryz.sizeOf281
 v66:=Tryz.zeroValue281
 t70:=Tryz.underlying285
 a70:=Tryz.isAgg285
 z70:=Tryz.sizeOf285
 v70:=Tryz.zeroValue285
 t76:=Tryz.underlying308
 a76:=Tryz.isAgg308
 z76:=Tryz.sizeOf308
 v76:=Tryz.zeroValue308
 t77:=Tryz.underlying309
 a77:=Tryz.isAgg309
 z77:=Tryz.sizeOf309
 v77:=Tryz.zeroValue309}
end Go.Proofs
namespace Go.Ds
open Go.Proofs Go.Proofs.Tryz Go.Shelf Go.RowKit Go.Lib Go.Sort
theorem uC{α:Type}(kf:α→List Int)(x y:α):ltOf (fun x y=>lX (kf x) (kf y)) x y=decide (lX (kf x) (kf y)=-1):=by
 have:=sI (kf x) (kf y)
 exact decide_eq_decide.2 (by show lX (kf x) (kf y)<0↔_;omega)
theorem c8J{α:Type}(kf:α→List Int):SWO (ltOf fun x y=>lX (kf x) (kf y)) where
 irrefl x:=by
  rw[uC,nV.2 rfl]
  rfl
 trans x y z h1 h2:=by
  rw[uC,decide_eq_true_eq]at*
  exact uV h1 h2
 ntrans x y z h1 h2:=by
  rw[uC,decide_eq_false_iff_not]at*
  intro h
  have n1:=sN (kf y) (kf x)
  have n2:=sN (kf z) (kf y)
  rcases sI (kf y) (kf x)with e1|e1|e1
  ·rcases sI (kf z) (kf y)with e2|e2|e2
   ·have h3:=uV e2 e1
    have n3:=sN (kf z) (kf x)
    omega
   ·rw[nV]at e2
    rw[e2]at h
    omega
   ·omega
  ·rw[nV]at e1
   rw[e1]at h2
   exact h2 h
  ·omega
theorem c7a{α:Type}{kf:α→List Int}(hk:∀x y,kf x=kf y→x=y)(x y:α)(h1:ltOf (fun x y=>lX (kf x) (kf y)) x y=false)(h2:ltOf (fun x y=>lX (kf x) (kf y)) y x=false):x=y:=by
 rw[uC,decide_eq_false_iff_not]at h1 h2
 refine hk _ _ (nV.1 ?_)
 have:=sI (kf x) (kf y)
 have n:=sN (kf x) (kf y)
 omega
def leR(a b:Rn):Bool:= !decide (a9w b a=-1)
def c2P(es:List Rn):List Rn:=es.mergeSort leR
theorem soR:b7o prog 53 11 6:=
 fun enc hk h1 cf hO hT kX off cap d w hlay hH hblk hsz=>
  AnyQ.slices_SortFunc_total Tryz.cr 6 Tryz.isAgg26 Tryz.sizeOf26 enc hk h1 cf hO 11 #[] kX off cap d w (enters_of func11 (by kernel_rfl) rfl) hlay hH hblk hsz hT
theorem snR:tV prog 53:=fun p cap fv w=>AnyF.slices_SortFunc_none {Tryz.cr with} p cap fv w
theorem enR:oZ prog 53:=⟨Tryz.f53,func53,by kernel_rfl,by kernel_rfl⟩
theorem b8p(es:List Rn)(σ:List (Fin (es.map Rn.cells).length)):(σ.flatMap fun x=>(es.map Rn.cells)[x])=(σ.map fun x=>jB es x.1).flatMap Rn.cells:=by
 rw[List.flatMap_map]
 congr 1
 funext x
 rw[kL es x.1 (Nat.lt_of_lt_of_eq x.2 (dS _))]
 simp
theorem c2m(es:List Rn):((List.finRange (es.map Rn.cells).length).map fun x=>jB es x.1)=es:=by
 apply List.ext_getElem
 ·simp
 ·intro i h1 h2
  simp only[ja,List.getElem_finRange]
  exact kL es i h2
set_option maxHeartbeats 1000000 in
theorem b6s{H:Heap}{B:Base}{os:List Ob}(hS:St prog B H os)(i:Nat){v:Value}{es:List Rn}(ho:os[i]? =some ⟨v,6,es.flatMap Rn.cells⟩)(hl:es.length<100000000000)(hin:∀r∈es,r.In H)(hne:∀r∈es,∀A,kX v=some A→kX r.cv≠some A)(hnd:es.Pairwise fun a b=>a2t a≠a2t b)
 {Q:Value→Heap→Prop} (h:∀H1,St prog B H1 (os.set i ⟨v,6,(c2P es).flatMap Rn.cells⟩)→Q (.tuple #[]) H1):sJ prog 53 [v,.func (.func 11) #[] #[]] H Q:=by
 have hlen:(es.map Rn.cells).length=es.length:=dS _
 have hfl:(es.map Rn.cells).flatten=es.flatMap Rn.cells:=rfl
 have hkf:∀x y:Fin (es.map Rn.cells).length,a2t (jB es x.1)=a2t (jB es y.1)→x=y:=fun x y e=>by
  have hx:=Nat.lt_of_lt_of_eq x.2 hlen
  have hy:=Nat.lt_of_lt_of_eq y.2 hlen
  rw[kL es _ hx,kL es _ hy]at e
  rw[eW]at hnd
  apply Fin.ext
  rcases iT x.1 y.1 with h|h|h
  ·exact absurd e (hnd _ _ hx hy h)
  ·exact h
  ·exact absurd e.symm (hnd _ _ hy hx h)
 refine b7Z soR snR enR hS i (rs:=es.map Rn.cells) (by rw[hfl];exact ho) (by rw[hlen];exact hl) (fun r hr=> ?_) (fun x y=>a9w (jB es x.1) (jB es y.1)) (c8J fun x:Fin (es.map Rn.cells).length=>a2t (jB es x.1)) (c7a hkf) (fun{A ρ w p e}=>b8L (fun a b ha hb=>c2h a b ha hb) hin hne) ?_
 ·obtain⟨q,_,rfl⟩:=dP.1 hr
  rfl
 ·intro H1 hH
  refine h H1 ?_
  rw[b8p,List.map_mergeSort (s:=leR),c2m]at hH
  ·exact hH
  ·intro a _ b _
   unfold leR
   rw[show(fun x y:Fin (es.map Rn.cells).length=>a9w (jB es x.1) (jB es y.1))=fun x y=>lX (a2t (jB es x.1)) (a2t (jB es y.1))from rfl,uC (fun x:Fin (es.map Rn.cells).length=>a2t (jB es x.1))]
   rfl
end Go.Ds
namespace Go.Ds
open Go.Proofs Go.Proofs.Tryz
variable {H:Heap}
set_option maxRecDepth 10000
set_option maxHeartbeats 1000000
def b6d(s:Sn)(i:Nat):List Rp×Bool:=((jG s.ks).take i).foldl (fun q c=>a2q s 1025 c [] c [] q) ([],false)
theorem a4W(s:Sn){i:Nat}(h:i<(jG s.ks).length):b6d s (i+1)=a2q s 1025 (jB (jG s.ks) i) [] (jB (jG s.ks) i) [] (b6d s i):=by
 unfold b6d
 rw[mQ _ _ h,gm]
 rfl
theorem a9p{s:Sn}(hf:s.Fit)(hk:∀x∈s.ks,Nt.Ok x):∀i,i≤(jG s.ks).length→Met (((jG s.ks).take i).flatMap fun c=>full s 1025 c [] c []) (b6d s i)
 | 0,_=>⟨fun _=>⟨rfl,by simp⟩,fun h=>by cases h⟩
 | i+1,h=>by
   rw[a4W s h,mQ _ _ h,dR]
   have h1:=a9p hf hk i (by omega)
   have:=b9g hf 1025 (pl:=jB (jG s.ks) i) (cps:=[]) (a:=jB (jG s.ks) i) (seen:=[]) (uA hk hf.keys _ (jE h)) h1
   simpa using this
theorem b9f{s:Sn}(hf:s.Fit)(hk:∀x∈s.ks,Nt.Ok x):Met (a7M s) (b6d s (jG s.ks).length):=by
 have:=a9p hf hk _ (dD _)
 rw[eQ]at this
 exact this
def leP(a b:Rp):Bool:= !decide (c9Z b a=-1)
def wC(s:Sn):Int:=if snE s≠0 then snE s else if 500<(a7M s).length then 4 else 0
def rA(s:Sn):List Rp:=if wC s=0 then(a7M s).mergeSort leP else[]
theorem c2T(es:List Rn):(c2P es).map Rn.rp=(es.map Rn.rp).mergeSort leP:=by
 unfold c2P
 exact List.map_mergeSort fun a _ b _=>rfl
theorem Sl.cY{α:Type}{n:Nat}{cel:α→List Value}(hc:∀x,(cel x).length=n)(hp:0<n):Sl n cel H (.slice none 0 0) []:=⟨.inl ⟨rfl,rfl⟩,hc,hp⟩
theorem c1V(hG:Glob gH H)(s:Sn)(hs:s.In H):Fn prog 21 [s.v] H fun r H'=>∃(ov:Value)(es:List Rn),r=.tuple #[ov,I (wC s)]∧es.map Rn.rp=rA s∧(∀e∈es,Slx 1 (one I) H' (fun A=>H.length≤A∧kX ov≠some A) e.cv e.cps∧e.cps.length≤1024)∧St prog H H' [⟨ov,6,es.flatMap Rn.cells⟩]:=by
 refine .aN func21 rfl (by kernel_rfl) (m:=44) rfl fun l hn g0=> ?_
 simp(disch:=omega) only[↓RA,RB,simprocAttr,g0]
 refine(sR H).eNew 10 [(.string s.o.name),s.o.rv,s.o.dv,s.o.cv,s.sv,(.int .u64 s.rg.cpl),(.int .u64 s.rg.off),s.kv,I s.p.1,I s.p.2] rfl rfl (by simp[OC,((sR H).sl hs.o.1).cells.2.1,((sR H).sl hs.o.2.2.1).cells.2.1,((sR H).sl hs.o.2.2.2.2.1).cells.2.1,((sR H).sl hs.rg.1).cells.2.1,((sR H).sl hs.ks.sl).cells.2.1]) qE fun A1 H1 hS1=> ?_
 simp only[RT]at hS1
 simp(disch:=omega) only[↓RA,RZ,simprocAttr,hn,hS1.ae 0 rfl]
 refine hS1.cF (xY s (hs.aj hS1)) fun H2 hS2=> ?_
 simp(disch:=omega) only[↓RA,RB,simprocAttr,hn]
 refine jA (fun h1=> ?_) (fun h1=> ?_)
 ·have hE:wC s=snE s:=by unfold wC;rw[if_pos h1]
  have hA:rA s=[]:=by unfold rA;rw[hE,if_neg h1]
  simp(disch:=omega) only[↓RA,RZ,simprocAttr,hn,c4E,h1]
  rw[hE,hA]
  exact⟨.slice none 0 0,[],rfl,rfl,fun e he=>absurd he (eE),(hS2.forget).nil 5⟩
 have hz:snE s=0:=dQ.1 h1
 have hf:=tZ.1 hz
 have hpl:=a1f hf.keys
 have hct:=uA hs.ks.ok hf.keys
 have hmet:=b9f hf hs.ks.ok
 simp(disch:=omega) only[↓RA,RC,simprocAttr,h1]
 refine Wp.aK kP [(0,3)] (by kernel_rfl) (by kernel_rfl) ?_
 simp(disch:=omega) only[↓RA,RZ,simprocAttr,hn,hS2.ae 0 rfl]
 refine jF (a0B s (hs.aj hS2) hf) ?_
 rintro r H3⟨M,kvs,rfl,hD,hT2⟩
 have hS3:=hS2.trans hT2
 simp only[RT]at hS3
 simp(disch:=omega) only[↓RA,RB,simprocAttr,hn,b4h (hS3.sl hs.o.1).cells (hS3.sl hs.o.2.2.1).cells (hS3.sl hs.o.2.2.2.2.1).cells (hS3.sl hs.rg.1).cells (hS3.sl hs.ks.sl).cells (show(Value.map (some M)).cells=#[(Value.map (some M))]∧oneCell (Value.map (some M))=true∧nA (Value.map (some M))=true from⟨rfl,rfl,rfl⟩)]
 refine hS3.eNew 13 [(.string s.o.name),s.o.rv,s.o.dv,s.o.cv,s.sv,(.int .u64 s.rg.cpl),(.int .u64 s.rg.off),s.kv,I s.p.1,I s.p.2,(.map (some M)),(.slice none 0 0),(.bool false)] rfl rfl (by simp[OC,(hS3.sl hs.o.1).cells.2.1,(hS3.sl hs.o.2.2.1).cells.2.1,(hS3.sl hs.o.2.2.2.2.1).cells.2.1,(hS3.sl hs.rg.1).cells.2.1,(hS3.sl hs.ks.sl).cells.2.1]) c4r fun A2 H4 hS4=> ?_
 simp only[RT]at hS4
 simp(disch:=omega) only[↓RA,RZ,simprocAttr,hn,hS3.ae 0 rfl,hS4.ae 0 rfl]
 refine jF ((yV (hS4.gl hG) s (hs.aj hS4) hf).tr) ?_
 rintro r H5⟨-,hT3⟩
 have hS5:=hS4.trans hT3
 simp only[RT]at hS5
 obtain⟨pw,rfl⟩:∃w,w=r:=⟨r,rfl⟩
 simp(disch:=omega) only[↓RA,RZ,simprocAttr,hn,(hS5.ay 3 rfl lE).len]
 have hS6:=hS5.nil 5
 simp only[RT]at hS6
 refine Wp.al (fun n l H'=>l.length=44∧get l 2=(.slice none 0 0)∧get l 3=I 0∧get l 5=(ptr A2 0 13)∧get l 19=pw∧get l 20=I (jG s.ks).length∧∃(i:Nat)(ov:Value)(es:List Rn)(mn:Bool),(n+i=(jG s.ks).length∧(es.map Rn.rp,mn)=b6d s i∧(∀e∈es,Slx 1 (one I) H' (nb [ptr A1 0 10,.map (some M),ptr A2 0 13,pw,ov]) e.cv e.cps∧e.cps.length≤1024∧∀A,kX e.cv=some A→H.length≤A)∧es.length≤560+60*i)∧get l 21=I i∧St prog H H' [⟨ptr A1 0 10,0,[(.string s.o.name),s.o.rv,s.o.dv,s.o.cv,s.sv,(.int .u64 s.rg.cpl),(.int .u64 s.rg.off),s.kv,I s.p.1,I s.p.2]⟩,⟨.map (some M),0,KN kvs⟩,⟨ptr A2 0 13,0,[.string s.o.name,s.o.rv,s.o.dv,s.o.cv,s.sv,.int .u64 s.rg.cpl,.int .u64 s.rg.off,s.kv,I s.p.1,I s.p.2,.map (some M),ov,.bool mn]⟩,⟨pw,2,pr (jG s.ks)⟩,⟨ov,6,es.flatMap Rn.cells⟩]) (jG s.ks).length ?_ ?_
 ·simp(disch:=omega) only[RB,RC,simprocAttr,hn]
  exact⟨0,.slice none 0 0,[],false,⟨by omega,rfl,fun e he=>absurd he (eE),by simp⟩,rfl,hS6⟩
 rintro n l H6⟨hn,g2,g3,g5,g19,g20,i,ov,es,mn,⟨hi,hQ,hN,hL⟩,g21,hS7⟩
 simp(disch:=omega) only[↓RA,RB,simprocAttr,hn,g20,g21]
 refine jA (fun q1=> ?_) (fun q1=> ?_)
 ·have hci:=hct _ (jE (xs:=jG s.ks) (j:=i) (by omega))
  have hco:=(lO s.o _).1 hci
  have hpre:=hS7
  obtain⟨B1,hBB1,hS8⟩:=hS7.aA (os:=[⟨ptr A1 0 10,0,_⟩,⟨.map (some M),0,_⟩,⟨ptr A2 0 13,0,_⟩,⟨pw,2,_⟩,⟨ov,6,_⟩])
  have hun:∀{H1:Heap}{os:List Ob},St prog B1 H1 os→St prog H H1 os:=fun h=>hpre.ab hBB1 h
  have hkp:∀{H1 os},St prog B1 H1 os→∀e∈es,Slx 1 (one I) H1 (nb (os.map (·.v))) e.cv e.cps:=fun h e he=>(hN e he).1.step (h.kept hBB1)
  simp(disch:=omega) only[↓RA,RZ,simprocAttr,hn,g19,g21,(hS8.ay 3 rfl lE).idx,(hS8.ay 3 rfl lE).ae,mD,q1]
  refine hS8.eNew 2 [I 0,I 0] rfl rfl rfl mK fun A3 H7 hS9=> ?_
  simp only[RT]at hS9
  simp(disch:=omega) only[↓RA,RZ,simprocAttr,hn,q1]
  refine hS9.aa 5 rfl [I (jB (jG s.ks) i).1,I (jB (jG s.ks) i).2] rfl rfl mK (by simp) fun H8 hS10=> ?_
  simp only[RT]at hS10
  simp(disch:=omega) only[↓RA,RZ,simprocAttr,hn,g5,hS10.ae 5 rfl,a8H,q1]
  have hSc:=hS10
  have hM1:=hS10.pick (os':=[⟨ptr A2 0 13,0,_⟩,⟨ov,6,_⟩]) [2,4] (by decide) rfl
  have hR1:=hS10.pick (os':=[⟨ptr A2 0 13,0,_⟩,⟨ov,6,_⟩,⟨ptr A1 0 10,0,_⟩,⟨.map (some M),0,_⟩,⟨pw,2,_⟩,⟨ptr A3 0 2,0,_⟩]) [2,4,0,1,3,5] (by decide) rfl
  refine jF (b4o hf hD A2 1025 ⟨jB (jG s.ks) i,.slice none 0 0,[],jB (jG s.ks) i,0⟩ (.slice none 0 0) [] ov es mn hM1.aR (fun h=>⟨hs.aj (hun (hR1.frame h.forget)),(hR1.frame h.forget).own _ (dN (i:=1) rfl),Sl.cY lE (by decide)⟩) (fun h=>⟨Sl.cY (fun _=>rfl) (by decide),fun B hb=>by cases hb⟩) (Que.nil _) hci hco.1 rfl rfl (by omega)) ?_
  rintro r H9⟨rfl,ov3,new2,mn2,hM1,hM2,hM3,hM4,hT4⟩
  have hS11:=hR1.frame hT4
  simp only[RT]at hS11
  simp(disch:=omega) only[↓RA,RZ,simprocAttr,hn,g2,g3,g5,g19,g20,g21,q1]
  refine⟨n-1,by omega,i+1,ov3,es++new2,mn2,⟨by omega,?_,fun e he=> ?_,by omega⟩,by simp,?_⟩
  ·rw[a4W s (by omega),←hQ,←hM3]
  ·rcases eh.1 he with he|he
   ·exact⟨(hkp hS11 e he).bz (by simp),(hN e he).2⟩
   ·obtain⟨h1,h0,h2⟩:=hM4 e he
    have h3:∀A,kX e.cv=some A→_≤A:=fun A hA=>(h2 A hA).resolve_left fun h=>by cases h
    refine⟨⟨h1.1,fun A hA v hv=> ?_⟩,h0,fun A hA=>dZ (hun hSc).len (h3 A hA)⟩
    simp only[eF,eE,or_false]at hv
    rcases hv with rfl|rfl|rfl|rfl|rfl
    ·exact fun hV=>absurd ((hSc.own _ (dN (i:=0) rfl)).lt hV) (Nat.not_lt.2 (h3 A hA))
    ·exact fun hV=>absurd ((hSc.own _ (dN (i:=1) rfl)).lt hV) (Nat.not_lt.2 (h3 A hA))
    ·exact h1.2 A hA _ (by simp)
    ·exact fun hV=>absurd ((hSc.own _ (dN (i:=3) rfl)).lt hV) (Nat.not_lt.2 (h3 A hA))
    ·exact h1.2 A hA _ (by simp)
  ·exact(hS7.ab hBB1 hS11).pick [2,3,0,4,1] (by decide) rfl
 have hii:i=(jG s.ks).length:=by omega
 rw[hii]at hQ
 rw[←hQ]at hmet
 simp(disch:=omega) only[↓RA,RZ,simprocAttr,hn,g5,mB,lY,hS7.ld 2 rfl,q1]
 refine kA (fun q2=> ?_) (fun q2=> ?_)
 ·have hb:=hmet.2 q2
  have hE:wC s=4:=by unfold wC;rw[if_neg h1,if_pos hb]
  have hA:rA s=[]:=by unfold rA;rw[hE,if_neg (by decide)]
  simp(disch:=omega) only[↓RA,RZ,simprocAttr,hn,c4E,q1,q2]
  rw[hE,hA]
  exact⟨.slice none 0 0,[],rfl,rfl,fun e he=>absurd he (eE),(hS7.forget).nil 5⟩
 obtain⟨hb1,hb2⟩:=hmet.1 (by simpa using q2)
 have hE:wC s=0:=by unfold wC;rw[if_neg h1,if_neg (by omega)]
 have hA:rA s=(a7M s).mergeSort leP:=by unfold rA;rw[if_pos hE]
 have hpre:=hS7
 obtain⟨B2,hBB2,hS12⟩:=hS7.aA (os:=[⟨ptr A1 0 10,0,_⟩,⟨.map (some M),0,_⟩,⟨ptr A2 0 13,0,_⟩,⟨pw,2,_⟩,⟨ov,6,_⟩])
 have hks:∀{H1 os},St prog B2 H1 os→∀e∈es,Slx 1 (one I) H1 (nb (os.map (·.v))) e.cv e.cps:=fun h e he=>(hN e he).1.step (h.kept hBB2)
 have hnd:=c3l (s:=s)
 rw[←hb1,gk]at hnd
 simp(disch:=omega) only[↓RA,RZ,simprocAttr,hn,g5,mB,lY,hS12.ld 2 rfl,q1,q2]
 refine b6s hS12 4 rfl (by omega) (fun r hr=>⟨(hks hS12 r hr).1,by have:=(hN r hr).2.1;omega⟩) (fun r hr A hA hB=>(hks hS12 r hr).2 A hB ov (by simp) hA) (hnd.imp fun h e=>h (b8l e)) fun HS hSS=> ?_
 simp only[List.set_cons_succ,gK]at hSS
 have hnt:kE ov=true:=(hSS.ay (cel:=Rn.cells) 4 rfl (fun _=>rfl)).bC
 simp(disch:=omega) only[↓RA,RZ,simprocAttr,hn,g5,mB,lY,hSS.ld 2 rfl,c4E,q1,q2,hnt]
 refine⟨ov,c2P es,?_,?_,fun e he=> ?_,?_⟩
 ·rw[hE]
 ·rw[hA,c2T,show es.map Rn.rp=a7M s from hb1]
 ·have he2:e∈es:=List.mem_mergeSort.1 he
  exact⟨⟨(hks hSS e he2).1,fun A hA=>⟨(hN e he2).2.2 A hA,(hks hSS e he2).2 A hA ov (by simp)⟩⟩,(hN e he2).2.1⟩
 ·exact(hS7.ab hBB2 hSS).pick [4] (by decide) rfl
end Go.Ds
namespace Go.Ds
open Go.Proofs
open Go.Shelf Go.RowKit Go.Lib Go.Sort
def b6O(P:Program)(K kc:FuncId)(k:Nat):Prop:=∀{α:Type}[Inhabited α](enc:α→List Value)(_:∀x,(enc x).length=k)(_:∀x,∀v∈enc x,v.oneCell'=true)(cf:α→α→Int)(_:SWO (ltOf cf))(_:∀x y,(ltOf cf) x y=false→(ltOf cf) y x=false→x=y)(kX off cap:Nat)(d:Array α)(w:World),
    CmpLays P kc #[] enc k cf kX off d.size w→HoldsK enc k w kX off d→kX<w.heap.size→d.size<4611686018427387904→
    Calls P K #[.slice (some ⟨kX,off,none⟩) d.size cap,.func (.func kc) #[] #[]] w fun e w'=>e=.returned (.tuple #[])∧∃n os,w'=sortWorldK enc k w kX off n (d.toList.mergeSort fun x y=> !(ltOf cf) y x).toArray os
set_option maxRecDepth 10000 in
theorem b4q{α:Type}[Inhabited α]{enc:α→List Value}{P:Program}{K kc:FuncId}{k:Nat}(hel:∀x,(enc x).length=k)(hsc:∀x,∀v∈enc x,jX v=true)(hone:∀x,∀v∈enc x,v.oneCell'=true)(hk0:0<k)(hso:b6O P K kc k){H:Heap}{A i lo ver:Nat}{ty:TypeId}{pre:List Value}{xs:List α}(hne:0<xs.length)(hbig:xs.length<100000000000)
 (hg:jR H A=some (.cells (pre++xs.flatMap enc) ty true lo ver)) (hlo:lo≤i+(xs.flatMap enc).length) (hpre:pre.length=i) (hty:jD P ty=some k) (cf:α→α→Int) (hO:SWO (ltOf cf)) (hT:∀x y,(ltOf cf) x y=false→(ltOf cf) y x=false→x=y)
 (hcmp:∀(W:World)x y,Calls P kc #[.agg (enc x).toArray,.agg (enc y).toArray] W fun e w'=>e=.returned (.int .i64 (cf x y))∧∃q os',w'=Go.Sort.grow (W.drewN q) os'):
 CallOk P K [.slice (some ⟨A,i,some (i+(xs.flatMap enc).length)⟩) xs.length k,.func (.func kc) #[] #[]] H (.tuple #[]) (hset H A (.cells (kC (pre++xs.flatMap enc) i ((xs.mergeSort fun x y=> !(ltOf cf) y x).flatMap enc)) ty true (pre++xs.flatMap enc).length ver)):=by
 intro q ρ w args' hr ha
 obtain⟨l⟩:=args'
 match l,ha with
 | [x,f],⟨hx,hf,_⟩=>
   obtain rfl:=V.func0 hf
   have hfl:(xs.flatMap enc).length=xs.length*k:=a9E hel xs
   have hlen:(pre++xs.flatMap enc).length=i+(xs.flatMap enc).length:=by rw[dK,hpre]
   obtain⟨p,c',a,hp,h0',hin,hnc,hac,hpk,rfl⟩:=hx.av
   have ha':a=⟨p.b,p.at i,none⟩:=by
    rcases hac with h|h
    ·exact h.1
    ·omega
   subst ha'
   have hp2:ρ A (pre++xs.flatMap enc).length=some p:=by rw[hlen];exact hp
   obtain⟨_,_,hfit,cur,ty',fr,hw,hsz,hfr,hcell⟩:=(hr.cells _ _ _ _ _ _ hg).2 _ _ hp2
   obtain⟨rfl,hd0,_⟩:=hfr rfl
   have hcur:∀j c,(xs.flatMap enc)[j]? =some c→cur[p.at i+j]? =some c:=fun j c hc=>by
    have hj:=(dL.1 hc).1
    have h2:(pre++xs.flatMap enc)[i+j]? =some c:=by
     rw[eu (by omega),hpre,fy]
     exact hc
    obtain⟨c2,h3,h4⟩:=hcell (by rw[hlen];exact hlo) (i+j) _ (by rw[hlen];omega) (by omega) h2
    have hat:p.at (i+j)=p.at i+j:=by unfold Place.at;omega
    rw[hat]at h3
    obtain⟨x,_,hx⟩:=fi.1 (dN hc)
    have:=h4.ar (hsc x c hx)
    subst this
    exact h3
   have hA:∀x,All2 (C1 ρ) (enc x) (enc x):=fun x=>All2.cX rfl fun j c hc=>⟨c,hc,.c0 (.flat (hsc x c (dN hc)))⟩
   obtain⟨d,hd⟩:∃d:Array α,d=xs.toArray:=⟨_,rfl⟩
   have hds:d.size=xs.length:=by rw[hd];simp
   have hH:Go.Sort.HoldsK enc k w p.b (p.at i) d:=by
    intro j hj
    rw[Go.Sort.size_flatK,hds]at hj
    constructor
    ·rw[Go.Sort.get_flatK _ _ _ _ (by rw[hds];exact hj),hd,b9B hk0 hel xs j hj,dB,dI (by rw[hfl];exact hj)]
     have:=hcur j _ (dI (by rw[hfl];exact hj))
     simp only[World.cell?,hw]
     exact this
    ·simp only[World.frozen?,hw]
     simp
   have hlay:CmpLays P kc #[] enc k cf p.b (p.at i) d.size w:=fun m os dk hdk x y=>hcmp _ x y
   have hcon:=hso enc hel hone cf hO hT p.b (p.at i) c' d w hlay hH (hr.dom _ _ _ hp).2 (by rw[hds];omega)
   rw[hds]at hcon
   obtain⟨σ,hσ⟩:∃σ,xs.mergeSort (fun x y=> !(ltOf cf) y x)=σ:=⟨_,rfl⟩
   have hdl:d.toList=xs:=by rw[hd]
   rw[hdl,hσ]at hcon
   have hσl:σ.length=xs.length:=by rw[←hσ];simp
   have hll:(σ.flatMap enc).length=xs.length*k:=by rw[a9E hel,hσl]
   have hlr:(σ.flatMap enc).length=xs.length*k:=by rw[a9E hel,hσl]
   obtain⟨w1,hrun,hpost⟩:=sY hr hg hp2 h0' (All2.bD hA σ) (by rw[hlen,hll];omega) (by rw[hlen];exact hlo)
   rw[hσ]
   have hcsz:p.at i+(σ.flatMap enc).length≤cur.size:=by
    rw[hlr,hsz]
    unfold Place.at
    rw[hlen]at hfit
    omega
   have hst:=run_storeCells_at (P:=P) p.b (p.at i) ty' (σ.flatMap enc) 0 cur w hw (by simpa using hcsz) (All2.bD hA σ).aJ
   rw[hst]at hrun
   injection hrun with _ hw1
   subst hw1
   refine callsIn_wide.2 (hcon.mono ?_)
   rintro e w'⟨rfl,m,os,rfl⟩
   refine⟨ρ,_,rfl,?_,.tuple trivial⟩
   have hfs:∀j,j<xs.length*k→(Go.Sort.flatK enc k σ.toArray)[j]! =(σ.flatMap enc).getD j undef:=fun j hj=>by
    rw[Go.Sort.get_flatK _ _ _ _ (by rw[fU,hσl];exact hj)]
    exact b9B hk0 hel σ j (by rw[hσl];exact hj)
   have hFs:(Go.Sort.flatK enc k σ.toArray).size=xs.length*k:=by rw[Go.Sort.size_flatK,fU,hσl]
   unfold sortWorldK Go.Sort.putRowK
   generalize Go.Sort.flatK enc k σ.toArray=F at hfs hFs ⊢
   have hlt:=nE hw
   have hh:∀b,b<w.heap.size→(Go.Sort.grow (Go.Sort.putRow id (Go.Sort.ahead w m) p.b (p.at i) F) os).heap[b]? =(Go.Sort.putRow id (Go.Sort.ahead w m) p.b (p.at i) F).heap[b]?:=fun b hb=>by
    have:b<(Go.Sort.putRow id (Go.Sort.ahead w m) p.b (p.at i) F).heap.size:=by simpa [Go.Sort.putRow,Go.Sort.mapBlock,Go.Sort.ahead]using hb
    unfold Go.Sort.grow
    exact ft this
   refine hpost.cG ?_ ?_ rfl ⟨rfl,Nat.le_add_right _ _⟩ rfl
   ·simp[Go.Sort.grow,Go.Sort.putRow,Go.Sort.mapBlock,Go.Sort.ahead]
   ·intro b hbs
    rw[setRow_size]at hbs
    rw[hh b hbs]
    by_cases e:b=p.b
    ·subst e
     rw[setRow_heap w p.b cur _ ty' (0,0) hw]
     have e2:(Go.Sort.putRow id (Go.Sort.ahead w m) p.b (p.at i) F).heap[p.b]? =some (.cells (Go.Sort.putCells id (p.at i) F cur) ty' (0,0)):=by
      simp[Go.Sort.putRow,Go.Sort.mapBlock,Go.Sort.ahead,fC,hw,Go.Sort.onCells]
     rw[e2]
     congr 2
     apply gI
     intro j
     have hseg:=a0C cur.toList (σ.flatMap enc) (p.at i) j (by simpa using hcsz)
     have e3:((List.take (p.at i+0) cur.toList++σ.flatMap enc++List.drop (p.at i+0+(σ.flatMap enc).length) cur.toList).toArray)[j]? =(List.take (p.at i) cur.toList++σ.flatMap enc++List.drop (p.at i+(σ.flatMap enc).length) cur.toList)[j]?:=by simp
     rw[e3,hseg]
     simp only[Go.Sort.putCells,Array.getElem?_mapIdx,gq]
     rw[hlr]at hcsz ⊢
     by_cases h1:p.at i≤j∧j<p.at i+xs.length*k
     ·rw[if_pos h1]
      have hjc:j<cur.size:=by omega
      rw[fG hjc]
      simp only[ee]
      rw[if_pos (by rw[hFs];exact h1),hfs _ (by omega),dB,dI (by rw[hlr];omega)]
      rfl
     ·rw[if_neg h1]
      cases hc:cur[j]? with
      | none=>simp
      | some c=>
        simp only[ee]
        rw[if_neg (by rw[hFs];exact h1)]
    ·rw[setRow_other _ _ _ _ e]
     simp[Go.Sort.putRow,Go.Sort.mapBlock,Go.Sort.ahead,fC,fJ e]
theorem b9r{α:Type}[Inhabited α]{enc:α→List Value}{P:Program}{K kc:FuncId}{k:Nat}(hel:∀x,(enc x).length=k+1)(hsc:∀x,∀v∈enc x,jX v=true)(hone:∀x,∀v∈enc x,v.oneCell'=true)(hso:b6O P K kc (k+1))(hno:tV P K)(hent:oZ P K){H:Heap}{B:Base}{os:List Ob}(hS:St P B H os)(i:Nat){v:Value}{xs:List α}(ho:os[i]? =some ⟨v,k+1,xs.flatMap enc⟩)(hbig:xs.length<100000000000)
 (cf:α→α→Int) (hO:SWO (ltOf cf)) (hT:∀x y,(ltOf cf) x y=false→(ltOf cf) y x=false→x=y)
 (hcmp:∀x y,Fn P kc [.agg (enc x).toArray,.agg (enc y).toArray] .nil fun r H'=>r=I (cf x y)∧St P (.nil:Heap) H' [])
 {Q:Value→Heap→Prop} (h:∀H1,St P B H1 (os.set i ⟨v,k+1,(xs.mergeSort fun x y=> !(ltOf cf) y x).flatMap enc⟩)→Q (.tuple #[]) H1):sJ P K [v,.func (.func kc) #[] #[]] H Q:=by
 have hcm:∀(W:World)x y,Calls P kc #[.agg (enc x).toArray,.agg (enc y).toArray] W fun e w'=>e=.returned (.int .i64 (cf x y))∧∃q os',w'=Go.Sort.grow (W.drewN q) os':=fun W x y=>by
  obtain⟨_,v,H1,h1,hr,_⟩:=hcmp x y
  subst hr
  refine b6A (ρ:=fun _ _=>none) h1 (HRel.none W) (fun b=> ?_) ⟨.v1 (.agg ?_),.v1 (.agg ?_),trivial⟩
  ·rintro⟨A,e,p,kX,hq,_⟩;cases hq
  ·exact All2.cX rfl fun j c hc=>⟨c,hc,.c0 (.flat (hsc x c (dN hc)))⟩
  ·exact All2.cX rfl fun j c hc=>⟨c,hc,.c0 (.flat (hsc y c (dN hc)))⟩
 by_cases h0:xs=[]
 ·subst h0
  refine⟨.tuple #[],H,hent,?_,h H ?_⟩
  ·intro k ρ w args' hr ha
   obtain⟨l⟩:=args'
   match l,ha with
   | [x,f],⟨hx,hf,_⟩=>
     obtain rfl:=V.func0 hf
     have hown:=hS.own _ (dN ho)
     unfold OwnAt at hown
     rw[if_neg (by simp)]at hown
     have hx0:∃p cap,x=.slice p 0 cap:=by
      rcases hown with⟨h2,_⟩|⟨A,j,ty,lo',ver,pre,m,h2,h3,h4,h5,h6,h7⟩
      ·simp only at h2
       subst h2
       rcases hx.az with⟨_,_,_,rfl⟩|⟨A,j,e,p,c',a,hh,_⟩
       ·exact⟨_,_,rfl⟩
       ·cases hh
      ·simp only at h5 h6
       subst h6
       have hm:m=0:=by
        rw[fp,eN]at h5
        rcases iN.1 h5.symm with h|h
        ·exact h
        ·omega
       subst hm
       obtain⟨p,c',a,_,_,_,_,_,_,rfl⟩:=hx.av
       exact⟨_,_,rfl⟩
     obtain⟨p,cap,rfl⟩:=hx0
     refine callsIn_wide.2 ((hno p cap _ w).mono ?_)
     rintro e w'⟨rfl,rfl⟩
     exact⟨ρ,_,rfl,.refl hr,.tuple trivial⟩
  ·obtain⟨hi,hoi⟩:=dL.1 ho
   have e0:([]:List α).mergeSort (fun x y=> !(ltOf cf) y x)=[]:=by simp
   rw[e0]
   have e:os[i]=⟨v,k+1,[]⟩:=by rw[hoi];rfl
   rw[fp,←e,gM]
   exact hS
 ·have hown:=hS.own _ (dN ho)
  unfold OwnAt at hown
  rw[if_neg (by simp)]at hown
  have hne:0<xs.length:=fE.2 h0
  have hfl:=a9E hel xs
  rcases hown with⟨_,h3⟩|⟨A,j,ty,lo',ver,pre,m,h2,h3,h4,h5,h6,h7⟩
  ·simp only at h3
   have:=congrArg List.length h3
   rw[hfl,eN]at this
   rcases iN.1 this with h|h<;>omega
  ·simp only at h2 h3 h5 h6
   have hm:m=xs.length:=fu (fF k) (h5.symm.trans hfl)
   subst hm
   have hsl:((xs.mergeSort fun x y=> !(ltOf cf) y x).flatMap enc).length=(xs.flatMap enc).length:=by
    rw[a9E hel,hfl]
    simp
   have hcall:=b4q hel hsc hone (fF k) hso hne hbig h2 h3 h4 h7 cf hO hT hcm
   rw[←h6]at hcall
   refine⟨_,_,hent,hcall,h _ (hS.put i ho ?_ ?_ ?_ ?_)⟩
   ·unfold OwnAt
    rw[if_neg (by simp)]
    refine .inr ⟨A,j,ty,(pre++xs.flatMap enc).length,ver,pre,xs.length,?_,?_,h4,?_,?_,h7⟩
    ·rw[jQ _ (kK h2)]
     have:=nD ((xs.mergeSort fun x y=> !(ltOf cf) y x).flatMap enc) pre (xs.flatMap enc) (by rw[hsl];exact dD _)
     rw[h4]at this
     rw[this,hsl,iG,dM]
    ·simp only[dK,h4,hsl];exact dD _
    ·simp only[hsl];exact h5
    ·simp only[hsl];exact h6
   ·rw[kN];exact dD _
   ·intro B' hB hne'
    refine rF fun hh=>hne' ?_
    simp[kX,h6,hh]
   ·intro B' hB
    exact .inl hB
end Go.Ds
namespace Go.Ds
open Go.Proofs Go.Proofs.Tryz Go.Shelf Go.RowKit Go.Lib Go.Sort
variable {H:Heap}
set_option maxRecDepth 10000
set_option maxHeartbeats 1000000
theorem Ctl.cg{a b:Ctl}(h:a.kind=b.kind∧a.dv=b.dv∧a.ix=b.ix):a=b:=by
 obtain⟨a1,a2,a3⟩:=a
 obtain⟨b1,b2,b3⟩:=b
 obtain⟨h1,h2,h3⟩:=h
 simp only at h1 h2 h3
 rw[h1,h2,h3]
theorem Ctl.cZ(a b:Ctl):(a.kind=b.kind∧a.dv=b.dv∧a.ix=b.ix)↔b=a:=⟨fun h=>(Ctl.cg h).symm,fun h=>by rw[h];exact⟨rfl,rfl,rfl⟩⟩
def rB(c:Ctl):List Int:=[c.kind,c.dv,c.ix]
theorem a4c{a b:Ctl}(h:rB a=rB b):a=b:=by
 unfold rB at h
 simp only[fq,and_true]at h
 exact Ctl.cg h
theorem c2Q(x y:Ctl):Fn prog 63 [.agg #[I x.kind,I x.dv,I x.ix],.agg #[I y.kind,I y.dv,I y.ix]] H fun r H'=>r=I (lX (rB x) (rB y))∧St prog H H' []:=by
 refine .aE func63 rfl (by kernel_rfl) (m:=22) rfl fun l hn g0 g1=> ?_
 simp(disch:=omega) only[↓RA,RB,simprocAttr,g0]
 refine(sR H).eNew 3 [I x.kind,I x.dv,I x.ix] rfl rfl rfl a2n fun A1 H1 hS1=> ?_
 simp only[RT]at hS1
 simp(disch:=omega) only[↓RA,RB,simprocAttr,g1]
 refine hS1.eNew 3 [I y.kind,I y.dv,I y.ix] rfl rfl rfl a2n fun A2 H2 hS2=> ?_
 simp only[RT]at hS2
 simp(disch:=omega) only[↓RA,RB,simprocAttr]
 refine Wp.aK kP [(6,0),(8,0),(11,0),(11,5),(13,0),(13,5)] (by kernel_rfl) (by kernel_rfl) ?_
 simp(disch:=omega) only[↓RA,RZ,simprocAttr,hn,hS2.ld 0 rfl,hS2.ld 1 rfl]
 refine hS2.cF (pA x.kind y.kind) fun H3 hS3=> ?_
 simp(disch:=omega) only[↓RA,RZ,simprocAttr,hn,hS3.ld 0 rfl,hS3.ld 1 rfl]
 refine hS3.cF (pA x.dv y.dv) fun H4 hS4=> ?_
 simp(disch:=omega) only[↓RA,RZ,simprocAttr,hn,hS4.ld 0 rfl,hS4.ld 1 rfl]
 refine hS4.cF (pA x.ix y.ix) fun H5 hS5=> ?_
 simp(disch:=omega) only[↓RA,RB,simprocAttr,hn]
 refine hS5.ai [I (lG x.kind y.kind),I (lG x.dv y.dv),I (lG x.ix y.ix)] tN a1U rfl rfl (by simp[Value.cells]) rfl rfl (by decide) (by decide) fun w1 H6 hS6=> ?_
 simp only[RT]at hS6
 simp(disch:=omega) only[↓RA,RZ,simprocAttr,hn]
 refine hS6.cF (a9d w1 [lG x.kind y.kind,lG x.dv y.dv,lG x.ix y.ix] (hS6.ay 2 rfl (qS _)) (by simp)) fun H7 hS7=> ?_
 simp(disch:=omega) only[↓RA,RZ,simprocAttr,hn,hS2.ld 0 rfl,hS2.ld 1 rfl,hS3.ld 0 rfl,hS3.ld 1 rfl,d0f]
 exact⟨rfl,hS7.forget⟩
def leC(a b:Ctl):Bool:= !decide (lX (rB b) (rB a)=-1)
def wG(l:List Ctl):List Ctl:=l.mergeSort leC
theorem soC:b6O prog 62 63 3:=
 fun enc hk h1 cf hO hT kX off cap d w hlay hH hblk hsz=>
  AnyQ.slices_SortFunc_total Tryz.ct 3 Tryz.isAgg63 Tryz.sizeOf63 enc hk h1 cf hO 63 #[] kX off cap d w (enters_of func63 (by kernel_rfl) rfl) hlay hH hblk hsz hT
theorem snC:tV prog 62:=fun p cap fv w=>AnyF.slices_SortFunc_none {Tryz.ct with} p cap fv w
theorem enC:oZ prog 62:=⟨Tryz.f62,func62,by kernel_rfl,by kernel_rfl⟩
theorem a7y{B:Base}{os:List Ob}(hS:St prog B H os)(i:Nat){v:Value}{xs:List Ctl}(ho:os[i]? =some ⟨v,3,oH xs⟩)(hl:xs.length<100000000000)
 {Q:Value→Heap→Prop} (h:∀H1,St prog B H1 (os.set i ⟨v,3,oH (wG xs)⟩)→Q (.tuple #[]) H1):sJ prog 62 [v,.func (.func 63) #[] #[]] H Q:=by
 refine b9r (enc:=Ctl.cells) (fun _=>rfl) (fun x v hv=> ?_) (fun x v hv=> ?_) soC snC enC hS i ho hl (fun x y=>lX (rB x) (rB y)) (c8J rB) (c7a fun x y h=>a4c h) (fun x y=>c2Q x y) fun H1 hH=>h H1 ?_
 ·simp only[Ctl.cells,eF,eE,or_false]at hv
  rcases hv with rfl|rfl|rfl<;>rfl
 ·simp only[Ctl.cells,eF,eE,or_false]at hv
  rcases hv with rfl|rfl|rfl<;>rfl
 ·have e:(fun x y:Ctl=> !(ltOf fun x y=>lX (rB x) (rB y)) y x)=leC:=by
   funext x y
   rw[uC]
   rfl
  rw[e]at hH
  exact hH
theorem b5I(v:Value)(xs:List Ctl)(hv:Sl 3 Ctl.cells H v xs)(hl:xs.length<1000000000)(d:Ctl):
 Fn prog 104 [v,.agg #[I d.kind,I d.dv,I d.ix]] H fun r H'=>r=I (qK (fun j=>decide (jB xs j=d)) xs.length)∧St prog H H' []:=by
 refine .aE func104 rfl (by kernel_rfl) (m:=19) rfl fun l hn g0 g1=> ?_
 simp(disch:=omega) only[↓RA,RB,simprocAttr,g1]
 refine(sR H).eNew 3 [I d.kind,I d.dv,I d.ix] rfl rfl rfl a2n fun A1 H1 hS1=> ?_
 simp only[RT]at hS1
 simp(disch:=omega) only[↓RA,RZ,simprocAttr,hn,g0,(hS1.sl hv).len]
 refine Wp.al (fun n l H'=>l.length=19∧get l 0=v∧get l 3=(ptr A1 0 3)∧get l 7=I xs.length∧∃(j:Nat),(n+j=xs.length∧∀q,q<j→decide (jB xs q=d)=false)∧get l 8=I j∧St prog H H' [⟨ptr A1 0 3,0,[I d.kind,I d.dv,I d.ix]⟩]) xs.length ?_ ?_
 ·simp(disch:=omega) only[RB,RC,simprocAttr,hn,g0]
  exact⟨0,⟨by omega,fun q hq=>absurd hq (ed _)⟩,rfl,hS1⟩
 rintro n l H2⟨hn,g0,g3,g7,j,⟨hi,h0⟩,g8,hS2⟩
 simp(disch:=omega) only[↓RA,RB,simprocAttr,hn,g7,g8]
 refine jA (fun h=> ?_) (fun h=> ?_)
 ·simp(disch:=omega) only[↓RA,RZ,simprocAttr,hn,g8,h]
  refine Wp.drw kP (by kernel_rfl) ?_
  simp(disch:=omega) only[↓RA,RZ,simprocAttr,hn,g0,g3,hS2.ae 0 rfl,(hS2.sl hv).idx,(hS2.sl hv).ae,Ctl.cells]
  refine jA (fun hp=> ?_) (fun hp=> ?_)
  ·simp(disch:=omega) only[↓RA,RZ,simprocAttr,hn,c4s,hp]
   exact⟨by rw[uX _ xs.length j (by omega) (by simpa using(Ctl.cZ _ _).1 hp) h0],hS2.forget⟩
  simp(disch:=omega) only[↓RA,RZ,simprocAttr,hn,g0,g3,g7,g8,hp]
  exact⟨n-1,by omega,j+1,⟨by omega,fun q hq=>by rcases dJ.1 hq with e|e;(· exact h0 q e);(· rw[e];simpa using fun hh=>hp ((Ctl.cZ _ _).2 hh))⟩,by simp,hS2⟩
 simp(disch:=omega) only[↓RA,RZ,simprocAttr,hn,c4s,h]
 exact⟨by rw[uM _ xs.length fun q hq=>h0 q (by omega)],hS2.forget⟩
theorem c0G(v:Value)(xs:List Ctl)(hv:Sl 3 Ctl.cells H v xs)(hl:xs.length<1000000000)(d:Ctl):
 Fn prog 61 [v,.agg #[I d.kind,I d.dv,I d.ix]] H fun r H'=>r=.bool (decide (d∈xs))∧St prog H H' []:=by
 have e:decide (0≤qK (fun j=>decide (jB xs j=d)) xs.length)=decide (d∈xs):=by
  rw[eU,decide_eq_true_iff,decide_eq_true_iff,xU]
  constructor
  ·rintro⟨j,hj,hp⟩
   rw[←of_decide_eq_true hp];exact jE hj
  ·intro hx
   obtain⟨j,hj,rfl⟩:=eI.1 hx
   exact⟨j,hj,by rw[kL xs j hj];simp⟩
 refine .aE func61 rfl (by kernel_rfl) (m:=9) rfl fun l hn g0 g1=> ?_
 simp(disch:=omega) only[↓RA,RB,simprocAttr,g1]
 refine(sR H).eNew 3 [I d.kind,I d.dv,I d.ix] rfl rfl rfl a2n fun A1 H1 hS1=> ?_
 simp only[RT]at hS1
 simp(disch:=omega) only[↓RA,RZ,simprocAttr,hn,g0,hS1.ae 0 rfl]
 refine hS1.cF (b5I v xs (hS1.sl hv) hl d) fun H2 hS2=> ?_
 simp(disch:=omega) only[↓RA,RB,simprocAttr,hn,c9p]
 rw[←e]
 first|exact hS2.forget|exact⟨rfl,hS2.forget⟩
theorem c9T:a8A prog 40=some (2+1):=by kernel_rfl
theorem b7P{B:Base}{v:Value}{es:List Ctl}(hS:St prog B H [⟨v,3,oH es⟩])(hl:es.length<100000000000):
 Fn prog 64 [v] H fun r H'=>∃rest:List Value,r=lN v 3 0 (dd es).length∧St prog B H' [⟨v,3,oH (dd es)++rest⟩]:=by
 refine .aN func64 rfl (by kernel_rfl) (m:=61) rfl fun l hn g0=> ?_
 simp(disch:=omega) only[↓RA,RZ,simprocAttr,hn,g0,(hS.ay 0 rfl (fun _=>rfl)).len]
 refine jA (fun h=> ?_) (fun h=> ?_)
 ·have hd:=qT es es.length (dD _) fun j h1 h2=>by omega
  rw[eQ]at hd
  simp(disch:=omega) only[↓RA,RZ,simprocAttr,hn,g0,c5n,h]
  exact⟨[],by unfold dd;rw[hd];exact(RdAt.sub_self (size:=2) (hS.rd 0 rfl) (mY es)).symm,by unfold dd;rw[hd,dM];exact hS⟩
 simp(disch:=omega) only[↓RA,RZ,simprocAttr,h]
 refine Wp.al (fun n l H'=>l.length=61∧get l 0=v∧∃(k:Nat),(0<k∧n+k=es.length∧∀j,0<j→j<k→jB es j≠jB es (j-1))∧get l 3=I k∧St prog B H' [⟨v,3,oH es⟩]) (es.length-1) ?_ ?_
 ·simp(disch:=omega) only[RB,RC,simprocAttr,hn,g0]
  exact⟨1,⟨by omega,by omega,fun j h1 h2=>by omega⟩,rfl,hS⟩
 rintro n l H1⟨hn,g0,k,⟨hk0,hk,hdis⟩,g3,hS1⟩
 simp(disch:=omega) only[↓RA,RZ,simprocAttr,hn,g0,g3,(hS1.ay 0 rfl (fun _=>rfl)).len]
 refine jA (fun h2=> ?_) (fun h2=> ?_)
 ·have hkl:k<es.length:=by omega
  have hpre:(k:Int)-1=((k-1:Nat):Int):=by omega
  simp(disch:=omega) only[↓RA,RC,simprocAttr,h2]
  refine Wp.drw kP (by kernel_rfl) ?_
  simp(disch:=omega) only[↓RA,RZ,simprocAttr,hn,g0,g3,(hS1.ay 0 rfl (fun _=>rfl)).idx,(hS1.ay 0 rfl (fun _=>rfl)).ae,Ctl.cells,hpre]
  refine jA (fun h3=> ?_) (fun h3=> ?_)
  ·have h3:jB es k=jB es (k-1):=Ctl.cg h3
   have hlen:(oH es).length=es.length*(2+1):=mY es
   have hpos:0<es.length:=by omega
   have hdk:=qT es k (by omega) hdis
   have hdk1:wD es (k+1)=es.take k:=by rw[pP,hdk,if_neg (by rintro(h4|h4);omega;exact h4 h3),dM]
   have hrow:St prog B H1 [⟨v,3,oH (wD es (k+1)++es.drop k)⟩]:=by rw[hdk1,gr];exact hS1
   have hdl:(wD es (k+1)).length=k:=by rw[hdk1,fS];omega
   simp(disch:=omega) only[↓RA,RZ,simprocAttr,hn,g0,g3,(hS1.ay 0 rfl (fun _=>rfl)).aF,h3]
   refine Wp.al (fun n l H'=>l.length=61∧get l 0=v∧∃k2:Nat,(0<k2∧n+k+k2=es.length∧(wD es (k+k2)).length<k+k2)∧get l 3=I (wD es (k+k2)).length∧get l 4=lN v 3 k (es.length-k)∧get l 5=I k2∧St prog B H' [⟨v,3,oH (wD es (k+k2)++es.drop (wD es (k+k2)).length)⟩]) (es.length-k-1) ?_ ?_
   ·simp(disch:=omega) only[RB,RC,simprocAttr,hn,g0,g3]
    refine⟨1,⟨by omega,by omega,by omega⟩,by rw[hdl],by congr 1;omega,rfl,?_⟩
    rw[hdl]
    exact hrow
   clear hrow hdk hdk1 hdl hdis
   rintro n l H9⟨hn,g0,k2,⟨hk20,hk2,hlt⟩,g3,g4,g5,hS9⟩
   have hsucc:=pP es (k+k2)
   generalize hD:wD es (k+k2)=D at g3 hlt hS9 hsucc
   have hrl:(D++es.drop D.length).length=es.length:=by rw[dK,eZ];omega
   have hv:Sl 3 Ctl.cells H9 v (D++es.drop D.length):=hS9.ay 0 rfl (fun _=>rfl)
   have hat:∀j,D.length≤j→jB (D++es.drop D.length) j=jB es j:=fun j hj=>by
    unfold jB
    rw[dB,eu hj,dW,dB]
    congr 2;omega
   have hsub:Sl 3 Ctl.cells H9 (lN v 3 k ((D++es.drop D.length).length-k)) ((D++es.drop D.length).drop k):=hv.cd k (by omega) (by omega)
   rw[hrl]at hsub
   have hsl:((D++es.drop D.length).drop k).length=es.length-k:=by rw[eZ,hrl]
   have hsat:∀j,D.length≤k+j→jB ((D++es.drop D.length).drop k) j=jB es (k+j):=fun j hj=>by
    rw[←hat (k+j) hj]
    unfold jB
    rw[dB,dW,dB]
   have hbd:((es.length-k:Nat):Int)=(es.length:Int)-k:=by omega
   simp(disch:=omega) only[↓RA,RZ,simprocAttr,hn,g4,g5,hsub.len,hsl,hbd]
   refine jA (fun h4=> ?_) (fun h4=> ?_)
   ·have hj:k+k2<es.length:=by omega
    have hpre2:(k2:Int)-1=((k2-1:Nat):Int):=by omega
    have e1:=hsat k2 (by omega)
    have e2:=hsat (k2-1) (by omega)
    rw[show k+(k2-1)=k+k2-1 from by omega]at e2
    simp(disch:=omega) only[↓RA,RC,simprocAttr,h4]
    refine Wp.drw kP (by kernel_rfl) ?_
    simp(disch:=omega) only[↓RA,RZ,simprocAttr,hn,g4,g5,hsub.idx,hsub.ae,Ctl.cells,hpre2,e1,e2]
    refine jA (fun h5=> ?_) (fun h5=> ?_)
    ·have hne:jB es (k+k2)≠jB es (k+k2-1):=fun e=>h5 (by rw[e];exact⟨rfl,rfl,rfl⟩)
     rw[if_pos (.inr hne)]at hsucc
     simp(disch:=omega) only[↓RA,RZ,simprocAttr,hn,g0,g3,g4,g5,hsub.idx,hsub.ae,Ctl.cells,e1,h5]
     simp(disch:=omega) only[↓RA,RZ,simprocAttr,hn,(hS9.ay 0 rfl (fun _=>rfl)).idx,h5]
     refine hS9.aX 0 rfl [I (jB es (k+k2)).kind,I (jB es (k+k2)).dv,I (jB es (k+k2)).ix] rfl rfl a2n (by simp) (by rw[mY,hrl];simp;omega) fun H2 hS2=> ?_
     simp only[RT]at hS2
     simp(disch:=omega) only[↓RA,RZ,simprocAttr,hn,g0,g3,g4,g5,h5]
     refine⟨n-1,by omega,k2+1,?_⟩
     rw[show k+(k2+1)=k+k2+1 from by omega,hsucc]
     refine⟨⟨by omega,by omega,by simp;omega⟩,by simp,by simp,?_⟩
     have e3:oH (D++[jB es (k+k2)]++es.drop (D++[jB es (k+k2)]).length)=(((oH (D++es.drop D.length)).set (D.length*3) (I (jB es (k+k2)).kind)).set (D.length*3+1) (I (jB es (k+k2)).dv)).set (D.length*3+2) (I (jB es (k+k2)).ix):=by
      have hx:es.drop D.length=jB es D.length::es.drop (D.length+1):=by
       rw[kL es _ (by omega)]
       exact fT (by omega)
      rw[hx,dK,List.length_singleton,rI,rI,rI]
      have e4:oH (jB es D.length::es.drop (D.length+1))=I (jB es D.length).kind::I (jB es D.length).dv::I (jB es D.length).ix::oH (es.drop (D.length+1)):=rfl
      have e5:oH [jB es (k+k2)]=[I (jB es (k+k2)).kind,I (jB es (k+k2)).dv,I (jB es (k+k2)).ix]:=rfl
      have e6:(oH D).length=D.length*3:=mY D
      rw[e4,e5,fD _ _ (by omega),fD _ _ (by omega),fD _ _ (by omega),e6,iW,fy,fy]
      simp
     rw[e3]
     exact hS2
    have heq:jB es (k+k2)=jB es (k+k2-1):=by
     have h6:=dQ.1 h5
     exact Ctl.cg h6
    rw[if_neg (by rintro(h6|h6);omega;exact h6 heq),dM]at hsucc
    simp(disch:=omega) only[↓RA,RZ,simprocAttr,hn,g0,g3,g4,g5,h5]
    refine⟨n-1,by omega,k2+1,?_⟩
    rw[show k+(k2+1)=k+k2+1 from by omega,hsucc]
    exact⟨⟨by omega,by omega,by omega⟩,rfl,by simp,hS9⟩
   have hke:k+k2=es.length:=by omega
   rw[hke]at hD
   have hcl:(oH (D++es.drop D.length)).length=es.length*(2+1):=by rw[mY,hrl]
   have hDn:D.length≤es.length:=by omega
   simp(disch:=omega) only[↓RA,RZ,simprocAttr,hn,g0,g3,(hS9.ay 0 rfl (fun _=>rfl)).aF,h4]
   rw[show(((D++es.drop D.length).length:Int)-D.length).toNat=es.length-D.length from by rw[hrl];omega]
   refine hS9.bH (size:=2) 0 rfl D.length (es.length-D.length) (by rw[hcl];omega) (by
    intro e
    have h2:(oH (D++es.drop D.length)).length=0:=by rw[e];rfl
    rw[mY,hrl]at h2;omega) c9T fun z H3 hz hSc=> ?_
   simp only[RT]at hSc
   have e3:kC (oH (D++es.drop D.length)) (D.length*3) z=oH D++z:=by
    rw[rI,show D.length*3=(oH D).length from(mY D).symm,nD z (oH D) (oH (es.drop D.length)) (by rw[mY,eZ];omega)]
    rw[List.drop_of_length_le (by rw[mY,eZ];omega),dM]
   rw[show D.length*(2+1)=D.length*3 from rfl,e3]at hSc
   have hw:RdAt H3 v (2+1) (oH D++z):=hSc.rd 0 rfl
   have hwl:(oH D++z).length=es.length*(2+1):=by rw[dK,mY,hz];omega
   simp(disch:=omega) only[↓RA,RZ,simprocAttr,hn,g0,g3,hw.aS hwl,c5n,h4]
   exact⟨z,by unfold dd;rw[hD],by unfold dd;rw[hD];exact hSc⟩
  have hne:jB es k≠jB es (k-1):=fun e=>h3 (by rw[e];exact⟨rfl,rfl,rfl⟩)
  simp(disch:=omega) only[↓RA,RZ,simprocAttr,hn,g0,g3,h3]
  refine⟨n-1,by omega,k+1,⟨by omega,by omega,fun j h4 h5=> ?_⟩,by simp,hS1⟩
  by_cases e:j=k
  ·rw[e];exact hne
  ·exact hdis j h4 (by omega)
 have hke:k=es.length:=by omega
 have hd:=qT es es.length (dD _) (hke▸hdis)
 rw[eQ]at hd
 simp(disch:=omega) only[↓RA,RZ,simprocAttr,hn,g0,c5n,h2]
 exact⟨[],by unfold dd;rw[hd];exact(RdAt.sub_self (size:=2) (hS.rd 0 rfl) (mY es)).symm,by unfold dd;rw[hd,dM];exact hS1⟩
def a0A(r:Rp):List Ctl:=(⟨1,r.tc.1,r.stop⟩:Ctl)::r.cps.map fun i=>⟨2,0,i⟩
def nS(r:Rp):List Ctl:=dd (wG (a0A r))
end Go.Ds
namespace Go.Ds
open Go.Proofs Go.Proofs.Tryz
variable {H:Heap}
set_option maxRecDepth 10000
set_option maxHeartbeats 1000000
theorem a1J{α:Type}[Inhabited α](es:List α)(m:Nat)(h:m<es.length):es.take (m+1)=es.take m++[jB es m]:=by
 rw[kL es m h,gU h]
theorem a5l(r:Rp):(a0A r).length=r.cps.length+1:=by simp[a0A]
theorem b9D{α:Type}[Inhabited α][DecidableEq α](l:List α):(dd l).length≤l.length:=b7B l l.length
theorem b4L(r:Rp):(nS r).length≤r.cps.length+1:=by
 have h:=b9D (wG (a0A r))
 unfold wG at h
 rw[List.length_mergeSort,a5l]at h
 exact h
theorem a3B(l:List Ctl):(wG l).length=l.length:=by unfold wG;rw[List.length_mergeSort]
theorem b0I{v:Value}{xs:List Ctl}{rest:List Value}(h:RdAt H v 3 (oH xs++rest)):Sl 3 Ctl.cells H (lN v 3 0 xs.length) xs:=(Frs.mk (cel:=Ctl.cells) h (fun _=>rfl) (by decide) rfl).sl
theorem c1Y(r:Rn)(hr:r.In H)(hrl:r.cps.length<1000000):Fn prog 58 [r.v] H fun q H'=>∃v rest,q=lN v 3 0 (nS r.rp).length∧St prog H H' [⟨v,3,oH (nS r.rp)++rest⟩]:=by
 refine .aN func58 rfl (by kernel_rfl) (m:=30) rfl fun l hn g0=> ?_
 simp(disch:=omega) only[↓RA,RB,simprocAttr,g0]
 refine(sR H).eNew 6 [I r.pl.1,I r.pl.2,r.cv,I r.tc.1,I r.tc.2,I r.stop] rfl rfl (by simp[OC,((sR H).sl hr.1).cells.2.1]) qP fun A1 H1 hS1=> ?_
 simp only[RT]at hS1
 simp(disch:=omega) only[↓RA,RZ,simprocAttr,hn,hS1.ld 0 rfl,b2w]
 refine hS1.ai [I 1,I r.tc.1,I r.stop] b5w c4Z rfl rfl (by simp[Value.cells]) rfl rfl (by decide) (by decide) fun w1 H2 hS2=> ?_
 simp only[RT]at hS2
 simp(disch:=omega) only[↓RA,RZ,simprocAttr,hn,hS2.ld 0 rfl,(hS2.sl hr.1).len]
 refine Wp.al (fun n l H'=>l.length=30∧get l 2=(.slice none 0 0)∧get l 14=r.cv∧get l 15=I r.cps.length∧∃(j:Nat)(ov:Value),(n+j=r.cps.length)∧get l 16=I j∧get l 3=ov∧St prog H H' [⟨ptr A1 0 6,0,[I r.pl.1,I r.pl.2,r.cv,I r.tc.1,I r.tc.2,I r.stop]⟩,⟨ov,3,oH ((⟨1,r.tc.1,r.stop⟩:Ctl)::(r.cps.take j).map fun i=>⟨2,0,i⟩)⟩]) r.cps.length ?_ ?_
 ·simp(disch:=omega) only[RB,RC,simprocAttr,hn]
  exact⟨0,w1,by omega,rfl,rfl,hS2⟩
 rintro n l H3⟨hn,g2,g14,g15,j,ov,hj,g16,g3,hS3⟩
 simp(disch:=omega) only[↓RA,RB,simprocAttr,hn,g15,g16]
 refine jA (fun q1=> ?_) (fun q1=> ?_)
 ·have hll:=mY ((⟨1,r.tc.1,r.stop⟩:Ctl)::(r.cps.take j).map fun i=>⟨2,0,i⟩)
  rw[eL,dS,fS]at hll
  simp(disch:=omega) only[↓RA,RZ,simprocAttr,hn,g14,g16,g3,(hS3.sl hr.1).idx,(hS3.sl hr.1).ld,one,b8B,q1]
  refine hS3.ai [I 2,I 0,I (jB r.cps j)] b5w c4Z rfl rfl (by simp[Value.cells]) rfl rfl (by decide) (by decide) fun w2 H4 hS4=> ?_
  simp only[RT]at hS4
  simp(disch:=omega) only[↓RA,RZ,simprocAttr,hn,q1]
  refine hS4.aq 1 rfl (hS4.rd 2 rfl) b5w (by rw[hll];simp;omega) fun w3 H5 hS5=> ?_
  simp only[RT]at hS5
  simp(disch:=omega) only[↓RA,RZ,simprocAttr,hn,g2,g14,g15,g16,q1]
  refine⟨n-1,by omega,j+1,w3,by omega,by simp,rfl,?_⟩
  rw[mQ r.cps j (by omega),dU,←ga,rI]
  exact hS5.pick [0,1] (by decide) rfl
 have hjj:j=r.cps.length:=by omega
 subst hjj
 rw[eQ]at hS3
 have hul:(a0A r.rp).length=r.cps.length+1:=a5l r.rp
 simp(disch:=omega) only[↓RA,RZ,simprocAttr,hn,g3,q1]
 refine a7y hS3 1 rfl (xs:=a0A r.rp) (by omega) fun HS hSS=> ?_
 simp only[List.set_cons_succ,gK]at hSS
 simp(disch:=omega) only[↓RA,RZ,simprocAttr,hn,g3,q1]
 have hM1:=hSS.pick (os':=[⟨ov,3,_⟩]) [1] (by decide) rfl
 have hR1:=hSS.pick (os':=[⟨ov,3,_⟩,⟨ptr A1 0 6,0,_⟩]) [1,0] (by decide) rfl
 refine jF (b7P hM1.aR (by rw[a3B,hul];omega)) ?_
 rintro r H6⟨rest,rfl,hT1⟩
 have hS6:=hR1.frame hT1
 simp only[RT]at hS6
 obtain⟨rc,hrcE⟩:∃w,w=lN ov 3 0 (dd (wG (a0A r.rp))).length:=⟨_,rfl⟩
 have hrc:=(b0I (hS6.rd 0 rfl)).cells
 rw[←hrcE]at hrc ⊢
 simp(disch:=omega) only[↓RA,RZ,simprocAttr,hn,c9B,q1]
 exact⟨ov,rest,hrcE,hS6.pick [0] (by decide) rfl⟩
theorem b9j{H0:Heap}{v:Value}{xs:List Ctl}{rest:List Value}(h:St prog H0 H [⟨v,3,oH xs++rest⟩]):Slx 3 Ctl.cells H (fun B=>H0.length≤B) (lN v 3 0 xs.length) xs:=by
 refine⟨b0I (h.rd 0 rfl),fun b hb=> ?_⟩
 rcases h.new _ (eY ..) b (a3U hb)with h|h
 ·exact h
 ·exact h.elim
theorem a7D(r:Rn)(hr:r.In H)(hrl:r.cps.length<1000000):Fn prog 58 [r.v] H fun q H'=>Slx 3 Ctl.cells H' (fun B=>H.length≤B) q (nS r.rp)∧St prog H H' []:=
 (c1Y r hr hrl).mono fun _ _⟨_,_,e,h⟩=>⟨e▸b9j h,h.forget⟩
theorem b8e{s:Sn}(h:wC s≠0):rA s=[]:=by unfold rA;rw[if_neg h]
theorem b3f(s:Sn):(rA s).length≤500:=by
 by_cases h:wC s=0
 ·unfold rA
  rw[if_pos h,List.length_mergeSort]
  unfold wC at h
  split at h
  ·rename_i h1;exact absurd h h1
  ·split at h
   ·cases h
   ·omega
 ·rw[b8e h];simp
end Go.Ds
namespace Go.Ds
open Go.Proofs
set_option maxRecDepth 10000
theorem a6p{α:Type}[Inhabited α][DecidableEq α](es:List α)(x:α):∀m,x∈wD es m↔∃j,j<m∧jB es j=x
 | 0=>by simp[wD]
 | m+1=>by
   rw[pP,eh,a6p es x m]
   constructor
   ·rintro(⟨j,hj,e⟩|h)
    ·exact⟨j,by omega,e⟩
    ·split at h
     ·rw[dX]at h
      exact⟨m,by omega,h.symm⟩
     ·cases h
   ·rintro⟨j,hj,e⟩
    by_cases hm:m=0∨jB es m≠jB es (m-1)
    ·rcases dJ.1 hj with h|h
     ·exact .inl ⟨j,h,e⟩
     ·subst h
      rw[if_pos hm]
      exact .inr (dX.2 e.symm)
    ·rcases dJ.1 hj with h|h
     ·exact .inl ⟨j,h,e⟩
     ·subst h
      have h1:jB es j=jB es (j-1):=fz fun h=>hm (.inr h)
      have h2:j≠0:=fun h=>hm (.inl h)
      exact .inl ⟨j-1,by omega,by rw[←h1];exact e⟩
theorem c1I{α:Type}[Inhabited α][DecidableEq α]{es:List α}{x:α}:x∈dd es↔x∈es:=by
 unfold dd
 rw[a6p]
 constructor
 ·rintro⟨j,hj,rfl⟩
  exact jE hj
 ·intro h
  obtain⟨j,hj,rfl⟩:=eI.1 h
  exact⟨j,hj,kL es j hj⟩
def zV(a b:Ctl):Prop:=lX (rB a) (rB b)=-1
theorem zE{a b c:Ctl}(h:zV a b)(h2:zV b c):zV a c:=uV h h2
theorem a3F{a:Ctl}(h:zV a a):False:=by
 unfold zV at h
 rw[nV.2 rfl]at h
 cases h
theorem a0L{a b:Ctl}:leC a b=true↔zV a b∨a=b:=by
 unfold leC zV
 rw[eJ,decide_eq_false_iff_not]
 have h1:=sN (rB a) (rB b)
 have h2:=sI (rB a) (rB b)
 have h3:lX (rB a) (rB b)=0↔a=b:=⟨fun h=>a4c (nV.1 h),fun h=>by rw[h];exact nV.2 rfl⟩
 constructor
 ·intro h
  rcases h2 with h2|h2|h2
  ·exact .inl h2
  ·exact .inr (h3.1 h2)
  ·omega
 ·rintro(h|h)
  ·omega
  ·have:=h3.2 h;omega
theorem a7O(l:List Ctl):(wG l).Pairwise fun a b=>leC a b=true:=by
 unfold wG
 refine List.pairwise_mergeSort (fun a b c h1 h2=> ?_) (fun a b=> ?_) l
 ·rw[a0L]at*
  rcases h1 with h1|rfl
  ·rcases h2 with h2|rfl
   ·exact .inl (zE h1 h2)
   ·exact .inl h1
  ·exact h2
 ·rw[fb,a0L,a0L]
  have h1:=sN (rB a) (rB b)
  have h3:lX (rB a) (rB b)=0→a=b:=fun h=>a4c (nV.1 h)
  unfold zV
  rcases sI (rB a) (rB b)with h2|h2|h2
  ·exact .inl (.inl h2)
  ·exact .inl (.inr (h3 h2))
  ·exact .inr (.inl (by omega))
theorem b3l{es:List Ctl}(h:es.Pairwise fun a b=>leC a b=true):∀m,m≤es.length→(wD es m).Pairwise zV
 | 0,_=>by simp[wD]
 | m+1,hm=>by
   rw[pP,fA]
   refine⟨b3l h m (by omega),by split<;>simp,fun x hx y hy=> ?_⟩
   split at hy
   ·rename_i hne
    rw[dX]at hy
    subst hy
    obtain⟨j,hj,rfl⟩:=(a6p es x m).1 hx
    have hne:jB es m≠jB es (m-1):=hne.resolve_left (by omega)
    have hpw:=eW.1 h
    have h1:zV (jB es (m-1)) (jB es m):=by
     have h2:=hpw (m-1) m (by omega) (by omega) (by omega)
     rw[←kL es _ (by omega),←kL es _ (by omega),a0L]at h2
     exact h2.resolve_right fun e=>hne e.symm
    rcases gT j (m-1)with hj2|hj2
    ·have h2:=hpw j (m-1) (by omega) (by omega) hj2
     rw[←kL es _ (by omega),←kL es _ (by omega),a0L]at h2
     rcases h2 with h2|h2
     ·exact zE h2 h1
     ·rw[h2];exact h1
    ·rw[show j=m-1 from by omega]
     exact h1
   ·cases hy
theorem b8Y(l:List Ctl):(dd (wG l)).Pairwise zV:=b3l (a7O l) _ (dD _)
theorem a6Z{l:List Ctl}{x:Ctl}:x∈dd (wG l)↔x∈l:=by
 rw[c1I]
 unfold wG
 exact List.mem_mergeSort
theorem a3Q:∀(l m:List Ctl),l.Pairwise zV→m.Pairwise zV→(∀x,x∈l↔x∈m)→l=m
 | [],[],_,_,_=>rfl
 | [],b::m,_,_,h=>absurd ((h b).2 (by simp)) eE
 | a::l,[],_,_,h=>absurd ((h a).1 (by simp)) eE
 | a::l,b::m,h1,h2,h=>by
   rw[List.pairwise_cons]at h1 h2
   have hab:a=b:=by
    rcases eF.1 ((h a).1 (by simp))with e|e
    ·exact e
    ·rcases eF.1 ((h b).2 (by simp))with f|f
     ·exact f.symm
     ·exact absurd (zE (h1.1 b f) (h2.1 a e)) a3F
   subst hab
   rw[a3Q l m h1.2 h2.2 fun x=> ?_]
   constructor
   ·intro hx
    rcases eF.1 ((h x).1 (eV _ hx))with e|e
    ·subst e;exact absurd (h1.1 x hx) a3F
    ·exact e
   ·intro hx
    rcases eF.1 ((h x).2 (eV _ hx))with e|e
    ·subst e;exact absurd (h2.1 x hx) a3F
    ·exact e
theorem a5h{l:List Ctl}(h:l.Pairwise zV):dd (wG l)=l:=a3Q _ _ (b8Y l) h fun x=>a6Z
theorem a5k{r:Rp}{c:Ctl}:c∈nS r↔c=⟨1,r.tc.1,r.stop⟩∨∃i∈r.cps,c=⟨2,0,i⟩:=by
 unfold nS a0A
 rw[a6Z,eF,dP]
 constructor
 ·rintro(h|⟨i,hi,h⟩)
  ·exact .inl h
  ·exact .inr ⟨i,hi,h.symm⟩
 ·rintro(h|⟨i,hi,h⟩)
  ·exact .inl h
  ·exact .inr ⟨i,hi,h.symm⟩
end Go.Ds
namespace Go.Ds
open Go.Proofs Go.Proofs.Tryz
variable {H:Heap}
set_option maxRecDepth 10000
set_option maxHeartbeats 1000000
structure Qv where
 v:Value
 l:List Ctl
 deriving Inhabited
def Qv.cells(q:Qv):List Value:=[q.v]
def Qv.In(H:Heap)(q:Qv):Prop:=Sl 3 Ctl.cells H q.v q.l
def uN:List Ctl→List (List Ctl)→Nat→Option (List Ctl)
 | [],[],_=>some []
 | [],_::_,_=>none
 | _::_,[],_=>some []
 | _::_,_::_,0=>none
 | c::f,x::xs,n+1=>match uN f ((x::xs).filter fun y=> !decide (c∈y)) n with
   | some l=>some (c::l)
   | none=>uN f (x::xs) (n+1)
theorem a0o(f:List Ctl)(n:Nat):uN f [] n=some []:=by cases f<;>rfl
theorem a1u(f:List Ctl){ss:List (List Ctl)}(h:ss≠[]):uN f ss 0=none:=by
 cases ss with
 | nil=>exact absurd rfl h
 | cons=>cases f<;>rfl
theorem a7E{ss:List (List Ctl)}(h:ss≠[])(n:Nat):uN [] ss n=none:=by
 cases ss with
 | nil=>exact absurd rfl h
 | cons=>rfl
theorem a1z(c:Ctl)(f:List Ctl){ss:List (List Ctl)}(h:ss≠[])(n:Nat):uN (c::f) ss (n+1)=match uN f (ss.filter fun y=> !decide (c∈y)) n with
 | some l=>some (c::l)
 | none=>uN f ss (n+1):=by
 cases ss with
 | nil=>exact absurd rfl h
 | cons=>rfl
theorem b9F:∀(f:List Ctl)(ss:List (List Ctl))(n:Nat){l:List Ctl},uN f ss n=some l→l.length≤f.length:=by
 intro f
 induction f with
 | nil=>
   intro ss n l h
   cases ss with
   | nil=>rw[a0o]at h;cases h;simp
   | cons=>rw[a7E (by simp)]at h;cases h
 | cons c f ih=>
   intro ss n l h
   by_cases hs:ss=[]
   ·subst hs
    rw[a0o]at h;cases h;simp
   ·cases n with
    | zero=>rw[a1u _ hs]at h;cases h
    | succ n=>
      rw[a1z _ _ hs]at h
      cases h2:uN f (ss.filter fun y=> !decide (c∈y)) n with
      | none=>
        rw[h2]at h
        have:=ih _ _ h
        simp;omega
      | some m=>
        rw[h2]at h
        cases h
        have:=ih _ _ h2
        simp;omega
theorem b6g:∀(f:List Ctl)(ss:List (List Ctl))(n:Nat),f.length≤n→(∀x∈ss,∃c∈f,c∈x)→(uN f ss n).isSome=true:=by
 intro f
 induction f with
 | nil=>
   intro ss n _ h
   cases ss with
   | nil=>rfl
   | cons x ss=>
     obtain⟨c,hc,_⟩:=h x (by simp)
     cases hc
 | cons c f ih=>
   intro ss n hn h
   by_cases hs:ss=[]
   ·subst hs
    rw[a0o];rfl
   ·cases n with
    | zero=>simp at hn
    | succ n=>
      rw[a1z _ _ hs]
      have h2:=ih (ss.filter fun y=> !decide (c∈y)) n (by simpa using hn) fun x hx=>by
       rw[fQ]at hx
       obtain⟨d,hd,hdx⟩:=h x hx.1
       have hcx:c∉x:=by simpa using hx.2
       rcases eF.1 hd with rfl|hd
       ·exact absurd hdx hcx
       ·exact⟨d,hd,hdx⟩
      cases h3:uN f (ss.filter fun y=> !decide (c∈y)) n with
      | none=>rw[h3]at h2;cases h2
      | some l=>rfl
theorem RdAt.bC{v:Value}{n:Nat}{cs:List Value}(h:RdAt H v n cs):kE v=true:=by
 rcases h with⟨rfl,_⟩|⟨A,i,e,row,ty,rw',lo,ver,m,_,_,_,_,_,_,rfl⟩<;>rfl
theorem c4R:∀(m:Nat){H:Heap}(fv:Value)(fr:List Ctl)(_:fr.length<m)(_:Sl 3 Ctl.cells H fv fr)(sv:Value)(ss:List Qv)(_:Sl 1 Qv.cells H sv ss)(_:∀q∈ss,q.In H)(n:Nat)(_:n<1000)(_:fr.length<1000000)(_:ss.length<1000000)(_:∀q∈ss,q.l.length<1000000000),
 Fn prog 65 [sv,fv,I n] H fun r H'=>∃ov,r=.tuple #[ov,.bool (uN fr (ss.map (·.l)) n).isSome]∧St prog H H' [⟨ov,3,oH ((uN fr (ss.map (·.l)) n).getD [])⟩]:=by
 intro m
 induction m with
 | zero=>exact fun{H}fv fr h=>absurd h (ed _)
 | succ m ih=>
 intro H fv fr hm hf sv ss hs hq n hn9 hfl hsl hql
 refine .cC func65 rfl (by kernel_rfl) (m:=59) rfl fun l hn g0 g1 g2=> ?_
 simp(disch:=omega) only[↓RA,RZ,simprocAttr,hn,g0,((sR H).sl hs).len]
 refine jA (fun h1=> ?_) (fun h1=> ?_)
 ·have hz:ss.map (·.l)=[]:=by rw[eM.1 (show ss.length=0 by omega)];rfl
  simp(disch:=omega) only[↓RA,RZ,simprocAttr,hn,c2w,h1]
  rw[hz,a0o]
  exact⟨.slice none 0 0,rfl,(sR H).nil 2⟩
 have hne:ss.map (·.l)≠[]:=by
  intro e
  have:=congrArg List.length e
  rw[dS,eN]at this
  omega
 simp(disch:=omega) only[↓RA,RZ,simprocAttr,hn,g2,h1]
 refine jA (fun h2=> ?_) (fun h2=> ?_)
 ·have hz:n=0:=by omega
  simp(disch:=omega) only[↓RA,RZ,simprocAttr,hn,c2w,h1,h2]
  rw[hz,a1u _ hne]
  exact⟨.slice none 0 0,rfl,(sR H).nil 2⟩
 obtain⟨k,rfl⟩:∃k,n=k+1:=⟨n-1,by omega⟩
 simp(disch:=omega) only[↓RA,RZ,simprocAttr,hn,g1,((sR H).sl hf).len,h1,h2]
 refine Wp.al (fun n l H'=>l.length=59∧get l 0=sv∧get l 1=fv∧get l 2=I (k+1:Nat)∧get l 20=fv∧get l 21=I fr.length∧∃(i:Nat),(n+i=fr.length∧uN fr (ss.map (·.l)) (k+1)=uN (fr.drop i) (ss.map (·.l)) (k+1))∧get l 22=I i∧St prog H H' []) fr.length ?_ ?_
 ·simp(disch:=omega) only[RB,RC,simprocAttr,hn,g0,g1,g2]
  exact⟨0,⟨by omega,rfl⟩,rfl,(sR H)⟩
 rintro n l H1⟨hn,g0,g1,g2,g20,g21,i,⟨hi,hh⟩,g22,hS1⟩
 simp(disch:=omega) only[↓RA,RB,simprocAttr,hn,g21,g22]
 refine jA (fun q1=> ?_) (fun q1=> ?_)
 ·have hdr:fr.drop i=jB fr i::fr.drop (i+1):=pR fr i (by omega)
  rw[hdr,a1z _ _ hne]at hh
  simp(disch:=omega) only[↓RA,RZ,simprocAttr,hn,g20,g22,(hS1.sl hf).idx,(hS1.sl hf).ae,Ctl.cells,q1]
  refine hS1.eNew 3 [I 0,I 0,I 0] rfl rfl rfl a2n fun A1 H2 hS2=> ?_
  simp only[RT]at hS2
  simp(disch:=omega) only[↓RA,RZ,simprocAttr,hn,q1]
  refine hS2.aa 0 rfl [I (jB fr i).kind,I (jB fr i).dv,I (jB fr i).ix] rfl rfl a2n (by simp) fun H3 hS3=> ?_
  simp only[RT]at hS3
  simp(disch:=omega) only[↓RA,RZ,simprocAttr,hn,g0,(hS3.sl hs).len,q1]
  have hS4:=hS3.nil 0
  simp only[RT]at hS4
  refine Wp.al (fun n l H'=>l.length=59∧get l 0=sv∧get l 1=fv∧get l 2=I (k+1:Nat)∧get l 8=I i∧get l 9=(ptr A1 0 3)∧get l 20=fv∧get l 21=I fr.length∧get l 22=I i∧get l 27=sv∧get l 28=I ss.length∧∃(j:Nat)(ow:Value),(n+j=ss.length)∧get l 29=I j∧get l 10=ow∧St prog H H' [⟨ptr A1 0 3,0,[I (jB fr i).kind,I (jB fr i).dv,I (jB fr i).ix]⟩,⟨ow,1,((ss.take j).filter fun q=> !decide (jB fr i∈q.l)).flatMap Qv.cells⟩]) ss.length ?_ ?_
  ·simp(disch:=omega) only[RB,RC,simprocAttr,hn,g0,g1,g2,g20,g21,g22]
   exact⟨0,.slice none 0 0,by omega,rfl,rfl,hS4⟩
  rintro n l H4⟨hn,g0,g1,g2,g8,g9,g20,g21,g22,g27,g28,j,ow,hj,g29,uL,hS5⟩
  simp(disch:=omega) only[↓RA,RB,simprocAttr,hn,g28,g29]
  refine jA (fun q2=> ?_) (fun q2=> ?_)
  ·have hjm:jB ss j∈ss:=jE (by omega)
   have hts:=a1J ss j (by omega)
   simp(disch:=omega) only[↓RA,RZ,simprocAttr,hn,g9,g27,g29,(hS5.sl hs).idx,(hS5.sl hs).ld,Qv.cells,hS5.ae 0 rfl,q2]
   refine hS5.cF (c0G (jB ss j).v (jB ss j).l (hS5.sl (hq _ hjm)) (hql _ hjm) (jB fr i)) fun H5 hS6=> ?_
   simp(disch:=omega) only[↓RA,RZ,simprocAttr,hn,q2]
   refine kA (fun q3=> ?_) (fun q3=> ?_)
   ·have hfl2:(((ss.take j).filter fun q=> !decide (jB fr i∈q.l)).flatMap Qv.cells).length≤ss.length:=by
     rw[jK (n:=1) (cel:=Qv.cells) (fun _=>rfl),il]
     exact dZ (fw _ _) (by rw[fS];omega)
    simp(disch:=omega) only[↓RA,RZ,simprocAttr,hn,uL,q2,q3]
    refine hS6.ai [(jB ss j).v] b2H c3V rfl rfl (by first|(simp[(hS6.sl (hq (jB ss j) (jE (by omega)))).cells.1];done)|simp[Value.cells,(hS6.sl (hq (jB ss j) (jE (by omega)))).cells.1]) (by first|(simp[(hS6.sl (hq (jB ss j) (jE (by omega)))).cells.1];done)|simp[Value.cells,(hS6.sl (hq (jB ss j) (jE (by omega)))).cells.1]) (by simp[(hS6.sl (hq (jB ss j) (jE (by omega)))).cells.2.1]) (by decide) (by decide) fun w1 H6 hS7=> ?_
    simp only[RT]at hS7
    simp(disch:=omega) only[↓RA,RZ,simprocAttr,hn,q2,q3]
    refine hS7.aq 1 rfl (hS7.rd 2 rfl) b2H (by simp only[eL,eN];omega) fun w2 H7 hS8=> ?_
    simp only[RT]at hS8
    simp(disch:=omega) only[↓RA,RZ,simprocAttr,hn,g0,g1,g2,g8,g9,g20,g21,g22,g27,g28,g29,q2,q3]
    refine⟨n-1,by omega,j+1,w2,by omega,by simp,rfl,?_⟩
    rw[hts,fI,dR,show([jB ss j].filter fun q=> !decide (jB fr i∈q.l))=[jB ss j]from by simp at q3 ⊢;exact q3]
    exact hS8.pick [0,1] (by decide) rfl
   simp(disch:=omega) only[↓RA,RZ,simprocAttr,hn,g0,g1,g2,g8,g9,g20,g21,g22,g27,g28,g29,uL,q2,q3]
   refine⟨n-1,by omega,j+1,ow,by omega,by simp,rfl,?_⟩
   rw[hts,fI,dR,show([jB ss j].filter fun q=> !decide (jB fr i∈q.l))=[]from by simp at q3 ⊢;exact q3,fp,dM]
   exact hS6
  have hjj:j=ss.length:=by omega
  subst hjj
  rw[eQ]at hS5
  obtain⟨ss2,hss2⟩:∃l,l=ss.filter fun q=> !decide (jB fr i∈q.l):=⟨_,rfl⟩
  have hmap:ss2.map (·.l)=(ss.map (·.l)).filter fun y=> !decide (jB fr i∈y):=by rw[hss2,List.filter_map];rfl
  have hmem:∀q∈ss2,q∈ss:=fun q h=>by rw[hss2]at h;exact(fQ.1 h).1
  have hsl2:ss2.length≤ss.length:=by rw[hss2];exact fw _ _
  rw[←hss2]at hS5
  obtain⟨O,hO⟩:∃O,O=uN (fr.drop (i+1)) (ss2.map (·.l)) k:=⟨_,rfl⟩
  rw[←hmap,←hO]at hh
  have hI:=ih (lN fv 3 (i+1) (fr.length-(i+1))) (fr.drop (i+1)) (by rw[eZ];omega) ((hS5.sl hf).cd (i+1) (by omega) (by omega)) ow ss2 (hS5.ay 1 rfl (fun _=>rfl)) (fun q h=>hS5.sl (hq q (hmem q h))) k (by omega) (by rw[eZ];omega) (by omega) (fun q h=>hql q (hmem q h))
  rw[←hO]at hI
  have hti:((i:Int)+1).toNat=i+1:=by omega
  have htl:((fr.length:Int)-((i:Int)+1)).toNat=fr.length-(i+1):=by omega
  have hwm:IntKind.wrap .i64 (((k+1:Nat):Int)-1)=(k:Int):=by
   rw[show(((k+1:Nat):Int)-1)=(k:Int)from by omega]
   exact a3o (a:=(k:Int)) (by omega) (by omega)
  simp(disch:=omega) only[↓RA,RZ,simprocAttr,hn,g1,g8,uL,q2]
  simp(disch:=omega) only[↓RA,RZ,simprocAttr,hn,g2,(hS5.sl hf).aF,q2,hti,htl,hwm]
  refine jF (hI) ?_
  rintro r H8⟨ov,rfl,hT2⟩
  have hS9:=hS5.trans hT2
  simp only[RT]at hS9
  simp(disch:=omega) only[↓RA,RZ,simprocAttr,hn,q2]
  refine kA (fun q4=> ?_) (fun q4=> ?_)
  ·obtain⟨l,hl⟩:∃l,O=some l:=fc.1 q4
   have hll:(oH (O.getD [])).length≤3*fr.length:=by
    rw[mY,hl]
    have:=b9F _ _ _ (hO.symm.trans hl)
    rw[eZ]at this
    simp only[ef]
    omega
   simp(disch:=omega) only[↓RA,RZ,simprocAttr,hn,g9,hS9.ae 0 rfl,q2,q4]
   refine hS9.ai [I (jB fr i).kind,I (jB fr i).dv,I (jB fr i).ix] b5w c4Z rfl rfl (by simp[Value.cells]) rfl rfl (by decide) (by decide) fun w3 H9 hS10=> ?_
   simp only[RT]at hS10
   simp(disch:=omega) only[↓RA,RZ,simprocAttr,hn,q2,q4]
   refine hS10.aq 3 rfl (hS10.rd 2 rfl) b5w (by simp only[eL,eN];omega) fun w4 H10 hS11=> ?_
   simp only[RT]at hS11
   simp(disch:=omega) only[↓RA,RZ,simprocAttr,hn,c2w,q2,q4]
   rw[hl]at hh
   rw[hl]at hS11
   have hnt:kE w4=true:=(hS11.rd 3 rfl).bC
   rw[hh,if_pos hnt]
   exact⟨w4,rfl,hS11.pick [3] (by decide) rfl⟩
  have hl:O=none:=by
   cases O with
   | none=>rfl
   | some l=>simp at q4
  rw[hl]at hh
  simp(disch:=omega) only[↓RA,RZ,simprocAttr,hn,g0,g1,g2,g20,g21,g22,q2,q4]
  exact⟨fr.length-(i+1),by omega,i+1,⟨by omega,hh⟩,by simp,hS9.forget⟩
 have hii:i=fr.length:=by omega
 subst hii
 rw[iG,a7E hne]at hh
 simp(disch:=omega) only[↓RA,RZ,simprocAttr,hn,c2w,q1]
 rw[hh]
 exact⟨.slice none 0 0,rfl,hS1.nil 2⟩
def rC(s:Sn):List Ctl:=dd (wG ((rA s).flatMap nS))
def a8W(s:Sn):Nat→Option (List Ctl):=uN (rC s) ((rA s).map nS)
def zB(s:Sn):Int:=if wC s≠0 then wC s else if 20<(rC s).length then 4 else 0
def a1X(s:Sn):Option (List Ctl):=if zB s≠0∨rA s=[]then none else(List.range ((rC s).length+1)).findSome? (a8W s)
theorem b6t(s:Sn):(rC s).length≤((rA s).flatMap nS).length:=by
 have h:=b9D (wG ((rA s).flatMap nS))
 rw[a3B]at h
 exact h
theorem a5J{s:Sn}(n:Nat)(h:(rC s).length≤n):(a8W s n).isSome=true:=by
 refine b6g _ _ _ h fun x hx=> ?_
 obtain⟨p,hp,rfl⟩:=dP.1 hx
 refine⟨⟨1,p.tc.1,p.stop⟩,?_,a5k.2 (.inl rfl)⟩
 unfold rC
 rw[a6Z,fi]
 exact⟨p,hp,a5k.2 (.inl rfl)⟩
theorem c0J{s:Sn}{n:Nat}{l:List Ctl}(hE:zB s=0)(hne:rA s≠[])(h:a8W s n=some l)(h0:∀m,m<n→a8W s m=none):a1X s=some l:=by
 unfold a1X
 rw[if_neg (by rintro(h|h);(· exact h hE);(· exact hne h))]
 have hn:n≤(rC s).length:=by
  rcases gT (rC s).length n with h1|h1
  ·have:=a5J (s:=s) (rC s).length (dD _)
   rw[h0 _ h1]at this
   cases this
  ·exact h1
 rw[show(rC s).length+1=n+(1+((rC s).length-n))from by omega,List.range_add,List.findSome?_append]
 have h1:(List.range n).findSome? (a8W s)=none:=by
  rw[List.findSome?_eq_none_iff]
  intro m hm
  exact h0 m (dT.1 hm)
 rw[h1,Nat.add_comm 1,List.range_succ_eq_map]
 simp[h]
theorem b1x(hG:Glob gH H)(s:Sn)(hs:s.In H):Fn prog 26 [s.v] H fun r H'=>∃ov,r=.tuple #[ov,.bool (a1X s).isSome,I (zB s)]∧St prog H H' [⟨ov,3,oH ((a1X s).getD [])⟩]:=by
 refine .aN func26 rfl (by kernel_rfl) (m:=60) rfl fun l hn g0=> ?_
 simp(disch:=omega) only[↓RA,RB,simprocAttr,g0]
 refine(sR H).eNew 10 [(.string s.o.name),s.o.rv,s.o.dv,s.o.cv,s.sv,(.int .u64 s.rg.cpl),(.int .u64 s.rg.off),s.kv,I s.p.1,I s.p.2] rfl rfl (by simp[OC,((sR H).sl hs.o.1).cells.2.1,((sR H).sl hs.o.2.2.1).cells.2.1,((sR H).sl hs.o.2.2.2.2.1).cells.2.1,((sR H).sl hs.rg.1).cells.2.1,((sR H).sl hs.ks.sl).cells.2.1]) qE fun A1 H1 hS1=> ?_
 simp only[RT]at hS1
 simp(disch:=omega) only[↓RA,RZ,simprocAttr,hn,hS1.ae 0 rfl]
 refine jF (c1V (hS1.gl hG) s (hs.aj hS1)) ?_
 rintro r H2⟨ov,es,rfl,hQ,hN,hT1⟩
 have hS2:=hS1.trans hT1
 simp only[RT]at hS2
 have hel:es.length≤500:=by
  have:=b3f s
  rw[←hQ,dS]at this
  exact this
 have hov:Sl 6 Rn.cells H2 ov es:=hS2.ay 1 rfl (fun _=>rfl)
 have hin:∀e∈es,e.In H2:=fun e he=>⟨(hN e he).1.1,by have:=(hN e he).2;omega⟩
 have hcl:∀e∈es,e.cps.length<1000000:=fun e he=>by have:=(hN e he).2;omega
 have hul:∀e∈es,(nS e.rp).length≤1025:=fun e he=>by
  have h1:=b4L e.rp
  have h2:=(hN e he).2
  have h3:e.rp.cps=e.cps:=rfl
  rw[h3]at h1
  omega
 simp(disch:=omega) only[↓RA,RZ,simprocAttr,hn]
 refine jI (fun h1=> ?_) (fun h1=> ?_)
 ·have hE:zB s=wC s:=by unfold zB;rw[if_pos h1]
  have hz:a1X s=none:=by unfold a1X;rw[if_pos (.inl (by rw[hE];exact h1))]
  simp(disch:=omega) only[↓RA,RZ,simprocAttr,hn,c3f,h1]
  rw[hz,hE]
  exact⟨.slice none 0 0,rfl,(hS2.forget).nil 2⟩
 have h1:wC s=0:=dQ.1 h1
 simp(disch:=omega) only[↓RA,RZ,simprocAttr,hn,(hS2.ay 1 rfl (fun _=>rfl)).len,h1]
 refine jA (fun h2=> ?_) (fun h2=> ?_)
 ·have hes:es=[]:=eM.1 (by omega)
  have hr:rA s=[]:=by rw[←hQ,hes];rfl
  have hz:a1X s=none:=by unfold a1X;rw[if_pos (.inr hr)]
  have hE:zB s=0:=by unfold zB rC wG;rw[if_neg (by rw[h1];decide),hr];simp[dd,wD]
  simp(disch:=omega) only[↓RA,RZ,simprocAttr,hn,c3f,h1,h2]
  rw[hz,hE]
  exact⟨.slice none 0 0,rfl,(hS2.forget).nil 2⟩
 have hne:rA s≠[]:=by
  intro e
  rw[←hQ]at e
  exact h2 (by rw[iI.1 e];rfl)
 have hpre:=hS2
 simp(disch:=omega) only[↓RA,RZ,simprocAttr,hn,((sR H2).sl hov).len,h1,h2]
 have hS3:=(sR H2).nil 0
 simp only[RT]at hS3
 have hS4:=hS3.nil 2
 simp only[RT]at hS4
 refine Wp.al (fun n l H'=>l.length=60∧get l 2=(.slice none 0 0)∧get l 3=(.bool false)∧get l 4=I (wC s)∧get l 26=ov∧get l 27=I es.length∧∃(j:Nat)(sw:Value)(qs:List Qv)(aw:Value),(n+j=es.length∧qs.map (·.l)=(es.take j).map (fun e=>nS e.rp)∧(∀q∈qs,Slx 3 Ctl.cells H' (nb [sw,aw]) q.v q.l))∧get l 28=I j∧get l 6=sw∧get l 7=aw∧St prog H2 H' [⟨sw,1,qs.flatMap Qv.cells⟩,⟨aw,3,oH ((es.take j).flatMap fun e=>nS e.rp)⟩]) es.length ?_ ?_
 ·simp(disch:=omega) only[RB,RC,simprocAttr,hn,h1]
  exact⟨0,.slice none 0 0,[],.slice none 0 0,⟨by omega,rfl,fun q hq=>absurd hq eE⟩,rfl,rfl,rfl,hS4⟩
 rintro n l H3⟨hn,g2,g3,g4,g26,g27,j,sw,qs,aw,⟨hj,hqm,hqx⟩,g28,g6,g7,hS5⟩
 have hql:qs.length=j:=by
  have:=congrArg List.length hqm
  rw[dS,dS,fS]at this
  omega
 have hal:((es.take j).flatMap fun e=>nS e.rp).length≤j*1025:=by
  rw[List.length_flatMap]
  have h3:∀l:List Rn,(∀e∈l,e∈es)→(l.map fun e=>(nS e.rp).length).sum≤l.length*1025:=by
   intro l
   induction l with
   | nil=>intro _;simp
   | cons e l ih=>
     intro h
     have h1:=hul e (h e (by simp))
     have h2:=ih fun x hx=>h x (by simp[hx])
     simp only[eG,List.sum_cons,eL]
     omega
  refine dZ (h3 _ fun e he=>List.mem_of_mem_take he) ?_
  rw[fS]
  omega
 simp(disch:=omega) only[↓RA,RB,simprocAttr,hn,g27,g28]
 refine jA (fun p1=> ?_) (fun p1=> ?_)
 ·have hm:jB es j∈es:=jE (by omega)
  have hpre1:=hS5
  obtain⟨B1,hBB1,hS6⟩:=hS5.aA (os:=[⟨sw,1,_⟩,⟨aw,3,_⟩])
  have hkp:∀{H1 os},St prog B1 H1 os→∀q∈qs,Slx 3 Ctl.cells H1 (nb (os.map (·.v))) q.v q.l:=fun h q hq=>(hqx q hq).step (h.kept hBB1)
  simp(disch:=omega) only[↓RA,RZ,simprocAttr,hn,g26,g28,((hS5.ab hBB1 hS6).sl hov).idx,((hS5.ab hBB1 hS6).sl hov).ae,Rn.cells,p1]
  refine hS6.eNew 6 [I 0,I 0,(.slice none 0 0),I 0,I 0,I 0] rfl rfl rfl qP fun A2 H4 hS7=> ?_
  simp only[RT]at hS7
  simp(disch:=omega) only[↓RA,RZ,simprocAttr,hn,p1]
  refine hS7.aa 2 rfl [I (jB es j).pl.1,I (jB es j).pl.2,(jB es j).cv,I (jB es j).tc.1,I (jB es j).tc.2,I (jB es j).stop] rfl (by simp[OC,((hS5.ab hBB1 hS7).sl (hin (jB es j) (jE (by omega))).1).cells.2.1]) qP (by simp) fun H5 hS8=> ?_
  simp only[RT]at hS8
  simp(disch:=omega) only[↓RA,RZ,simprocAttr,hn,g6,hS8.ae 2 rfl,p1]
  have hSb:=hS8
  refine jF (a7D (jB es j) ((hin _ hm).aj (hS5.ab hBB1 hS8)) (hcl _ hm)) ?_
  rintro r H6⟨hx1,hT2⟩
  have hS9:=hS8.trans hT2
  simp only[RT]at hS9
  obtain⟨q1,rfl⟩:∃w,w=r:=⟨r,rfl⟩
  have hy1:=hx1.step hSb.bq
  have hpre2:=hS9
  obtain⟨B2,hBB2,hS10⟩:=hS9.aA (os:=[⟨sw,1,_⟩,⟨aw,3,_⟩,⟨ptr A2 0 6,0,_⟩])
  simp(disch:=omega) only[↓RA,RZ,simprocAttr,hn,p1]
  refine hS10.ai [q1] b2H c3V rfl rfl (by first|(simp[hx1.1.cells.1];done)|simp[Value.cells,hx1.1.cells.1]) (by first|(simp[hx1.1.cells.1];done)|simp[Value.cells,hx1.1.cells.1]) (by simp[hx1.1.cells.2.1]) (by decide) (by decide) fun w1 H7 hS11=> ?_
  simp only[RT]at hS11
  simp(disch:=omega) only[↓RA,RZ,simprocAttr,hn,p1]
  refine hS11.aq 0 rfl (hS11.rd 3 rfl) b2H (by rw[jK (n:=1) (cel:=Qv.cells) (fun _=>rfl)];simp;omega) fun w2 H8 hS12=> ?_
  simp only[RT]at hS12
  simp(disch:=omega) only[↓RA,RZ,simprocAttr,hn,g7,hS12.ae 2 rfl,p1]
  refine jF (a7D (jB es j) ((hin _ hm).aj (hS5.ab hBB1 (hS9.ab hBB2 hS12))) (hcl _ hm)) ?_
  rintro r H9⟨hx2,hT3⟩
  have hS13:=hS12.trans hT3
  simp only[RT]at hS13
  obtain⟨q2,rfl⟩:∃w,w=r:=⟨r,rfl⟩
  have hu1:=hul _ hm
  simp(disch:=omega) only[↓RA,RZ,simprocAttr,hn,p1]
  refine hS13.aq 1 rfl hx2.1.rd b5w (by rw[mY,mY];omega) fun w3 H10 hS14=> ?_
  simp only[RT]at hS14
  simp(disch:=omega) only[↓RA,RZ,simprocAttr,hn,g2,g3,g4,g26,g27,g28,p1]
  refine⟨n-1,by omega,j+1,w2,qs++[⟨q1,nS (jB es j).rp⟩],w3,⟨by omega,?_,fun q hq=> ?_⟩,by simp,rfl,rfl,?_⟩
  ·rw[a1J es j (by omega),dU,dU,hqm]
   rfl
  ·rcases eh.1 hq with hq|hq
   ·exact(hkp (hS9.ab hBB2 hS14) q hq).bz (by simp)
   ·rw[dX]at hq
    subst hq
    exact(hy1.step (hS14.kept hBB2)).bz (by simp)
  ·rw[a1J es j (by omega)]
   simp only[dR,ec,fp,dM]
   exact(hS5.ab hBB1 (hS9.ab hBB2 hS14)).pick [0,1] (by decide) rfl
 have hjj:j=es.length:=by omega
 subst hjj
 rw[eQ]at hqm hal
 have hfm:(es.flatMap fun e=>nS e.rp)=(rA s).flatMap nS:=by rw[←hQ,List.flatMap_map]
 have hqm2:qs.map (·.l)=(rA s).map nS:=by rw[hqm,←hQ,iz];rfl
 rw[hfm]at hal
 rw[eQ,hfm]at hS5
 have hpre3:=hS5
 obtain⟨B3,hBB3,hS15⟩:=hS5.aA (os:=[⟨sw,1,_⟩,⟨aw,3,_⟩])
 have hks:∀{H1 os},St prog B3 H1 os→∀q∈qs,Slx 3 Ctl.cells H1 (nb (os.map (·.v))) q.v q.l:=fun h q hq=>(hqx q hq).step (h.kept hBB3)
 simp(disch:=omega) only[↓RA,RZ,simprocAttr,hn,g7,p1]
 refine a7y hS15 1 rfl (by omega) fun HS hSS=> ?_
 simp only[List.set_cons_succ,gK]at hSS
 simp(disch:=omega) only[↓RA,RZ,simprocAttr,hn,g7,p1]
 have hM1:=hSS.pick (os':=[⟨aw,3,_⟩]) [1] (by decide) rfl
 have hR1:=hSS.pick (os':=[⟨aw,3,_⟩,⟨sw,1,_⟩]) [1,0] (by decide) rfl
 refine jF (b7P hM1.aR (by rw[a3B];omega)) ?_
 rintro r H11⟨rest,rfl,hT4⟩
 have hS16:=hR1.frame hT4
 simp only[RT]at hS16
 simp(disch:=omega) only[↓RA,RZ,simprocAttr,hn,p1]
 have hqs:∀q∈qs,q.In H11:=fun q hq=>(hks hS16 q hq).1
 have haw:Sl 3 Ctl.cells H11 (lN aw 3 0 (rC s).length) (rC s):=b0I (hS16.rd 0 rfl)
 have hsw:Sl 1 Qv.cells H11 sw qs:=hS16.ay 1 rfl (fun _=>rfl)
 have hpre4:=(hS5.ab hBB3 hS16)
 have hanl:=b6t s
 have hany:dd (wG ((rA s).flatMap nS))=rC s:=rfl
 simp(disch:=omega) only[↓RA,RZ,simprocAttr,hn,((sR H11).sl haw).len,p1,hany]
 refine jA (fun p3=> ?_) (fun p3=> ?_)
 ·have hE:zB s=4:=by unfold zB;rw[if_neg (by rw[h1];decide),if_pos (by omega)]
  have hz:a1X s=none:=by unfold a1X;rw[if_pos (.inl (by rw[hE];decide))]
  simp(disch:=omega) only[↓RA,RZ,simprocAttr,hn,c3f,p1,hany,p3]
  rw[hz,hE]
  exact⟨.slice none 0 0,rfl,(hpre.forget.trans (hpre4.forget.trans (sR H11))).nil 2⟩
 have hE:zB s=0:=by unfold zB;rw[if_neg (by rw[h1];decide),if_neg (by omega)]
 have hmn:(rA s).map nS≠[]:=fun e=>hne (iI.1 e)
 have hqle:∀q∈qs,q.l.length<1000000000:=fun q hq=>by
  have h3:q.l∈qs.map (·.l):=gD hq
  rw[hqm]at h3
  obtain⟨e,he,h4⟩:=dP.1 h3
  have:=hul e he
  rw[←h4]
  omega
 have hqsl:qs.length≤500:=by
  have:=congrArg List.length hqm2
  have h3:=b3f s
  rw[dS,dS]at this
  omega
 simp(disch:=omega) only[↓RA,RZ,simprocAttr,p1,hany,p3]
 refine Wp.al (fun n l H'=>l.length=60∧get l 6=sw∧get l 7=(lN aw 3 0 (rC s).length)∧∃(k:Nat),(0<k∧n+k=(rC s).length+2∧∀m,m<k→a8W s m=none)∧get l 10=I k∧St prog H11 H' []) ((rC s).length+1) ?_ ?_
 ·simp(disch:=omega) only[RB,RC,simprocAttr,hn,g6]
  exact⟨1,⟨by omega,by omega,fun m hm=>by rw[show m=0 from by omega];exact a1u _ hmn⟩,rfl,(sR H11)⟩
 rintro n l H12⟨hn,g6,g7,k,⟨hk0,hk,hkn⟩,uL,hS17⟩
 obtain⟨O,hO⟩:∃O,O=a8W s k:=⟨_,rfl⟩
 have hI:=c4R ((rC s).length+1) (lN aw 3 0 (rC s).length) (rC s) (by omega) (hS17.sl haw) sw qs (hS17.sl hsw) (fun q hq=>hS17.sl (hqs q hq)) k (by omega) (by omega) (by omega) hqle
 rw[hqm2,show uN (rC s) ((rA s).map nS) k=O from hO.symm]at hI
 simp(disch:=omega) only[↓RA,RZ,simprocAttr,hn,g6,g7,uL]
 refine jF (hI) ?_
 rintro r H13⟨ov2,rfl,hT5⟩
 have hS18:=hS17.trans hT5
 simp only[RT]at hS18
 simp(disch:=omega) only[↓RA,RB,simprocAttr,hn]
 refine kA (fun p4=> ?_) (fun p4=> ?_)
 ·obtain⟨l,hl⟩:∃l,O=some l:=fc.1 p4
  have hsil:=c0J hE hne (hO.symm.trans hl) hkn
  have hnt:kE ov2=true:=(hS18.rd 0 rfl).bC
  simp(disch:=omega) only[↓RA,RZ,simprocAttr,hn,c3f,p4,hnt]
  rw[hl]at hS18
  rw[hsil,hE]
  exact⟨ov2,rfl,hpre.forget.trans (hpre4.forget.trans hS18)⟩
 have hl:O=none:=by
  cases O with
  | none=>rfl
  | some l=>simp at p4
 have hkl:k<(rC s).length:=by
  rcases gT k (rC s).length with h|h
  ·exact h
  ·have:=a5J k h
   rw[←hO,hl]at this
   cases this
 simp(disch:=omega) only[↓RA,RZ,simprocAttr,hn,g6,g7,uL,p4]
 refine⟨n-1,by omega,k+1,⟨by omega,by omega,fun m hm=> ?_⟩,by simp,hS18.forget⟩
 rcases dJ.1 hm with h|h
 ·exact hkn m h
 ·rw[h,←hO,hl]
end Go.Ds
namespace Go.Ds
open Go.Proofs Go.Proofs.Tryz
set_option maxRecDepth 100000
def c7H:List (List UInt8):=[[67],[67,35],[68],[68,35],[69],[70],[70,35],[71],[71,35],[65],[65,35],[66]]
def nmL(k:Nat):List UInt8:=c7H.getD (k%12) []++if k<12 then[45,49]else[(47+k/12).toUInt8]
def nmB(k:Nat):ByteArray:=⟨(nmL k).toArray⟩
def b3D(v:Value)(k:Nat):Bool:=match v with
 | .tuple vs=>match vs.toList with
   | [.string b,.int .i64 m]=>decide (m=0)&&decide (b.data.toList=nmL k)
   | _=>false
 | _=>false
def b6u(r:Rs)(k:Nat):Bool:=match r with
 | .ok v _=>b3D v k
 | .th v _=>b3D v k
 | _=>false
noncomputable def c1B (ps:List Nat):Bool:=tT prog [76,112,114,115,158,188,201,203,204,202,230,231,232,140] .e fun T=>ps.all fun x=>b6u (nX T (exF prog T 4000) [] (lT 76) [.int .i64 x] gH) x
theorem c7s:c1B (List.range 128)=true:=by kernel_rfl
def exA:ByteArray:=⟨#[71,114,101,97,116,32,69,50]⟩
def exB:ByteArray:=⟨#[67,104,111,105,114,95,116,111,95,71,114,101,97,116,32,116,111,32,67,104,111,105,114,32,69,50]⟩
def exJ:List UInt8:=[71,114,101,97,116,32,69,50,44,32,67,104,111,105,114,95,116,111,95,71,114,101,97,116,32,116,111,32,67,104,111,105,114,32,69,50]
def b0a:ByteArray:=⟨#[44,32]⟩
def b0U(r:Rs):Bool:=match r with
 | .ok (.string b) _=>decide (b.data.toList=exJ)
 | .th (.string b) _=>decide (b.data.toList=exJ)
 | _=>false
noncomputable def jH (ty:TypeId):Heap:=Heap.nil.cons (.cells [.string exA,.string exB] ty false 0 2)
noncomputable def b3u (ty:TypeId):Bool:=tT prog [57,100,101,102,141,142] .e fun T=>b0U (nX T (exF prog T 4000) [] (lT 57) [.slice (some ⟨0,0,some 2⟩) 2 1,.string b0a] (jH ty))
theorem c7z(ty:TypeId):b3u ty=true:=by kernel_rfl
end Go.Ds
namespace Go.Ds
open Go.Proofs Go.Proofs.Tryz
open Go.Shelf Go.RowKit Go.Lib Go.Sort
section
variable {P:Program} {ρ ρ0:Rho} {H H0:Heap} {w W:World}
theorem c3y{α:Type}{f:α→Value}(hsc0:∀x,jX (f x)=true)(h0:InW P ρ0 H0 W)(hr:HRel P ρ H w){cv cv':Value}{xs:List α}(hs:Sl 1 (one f) H cv xs)(hv:C1 ρ cv cv')(hne:∀A,kX cv=some A→∀e p,ρ A e=some p→W.heap[p.b]? =w.heap[p.b]?):
 xs≠[]→∃ρ1 cv1 ty n,InW P ρ1 (H0.cons (.cells (xs.flatMap (one f)) ty false 0 2)) W∧n=xs.length∧cv1=.slice (some ⟨H0.length,0,some (xs.flatMap (one f)).length⟩) n 1∧C1 ρ1 cv1 cv':=by
 intro hx0
 have hxl:(xs.flatMap (one f)).length=xs.length:=by rw[mM,dS]
 have hV:V ρ cv cv':=.v1 (.c1 hv)
 rcases hs.rd with⟨rfl,h2⟩|⟨A,i,e,row,ty,rw',lo,ver,n,hg,hlo,hle,hfit,htk,hn,rfl⟩
 ·rcases hV.az with⟨_,_,_,rfl⟩|⟨A,j,e,p,c',a,hh,_⟩
  ·exact absurd (eM.1 (by rw[←hxl,h2];rfl)) hx0
  ·cases hh
 ·obtain⟨p,c',a,hp,h00,hin,hnc,hac,hpk,rfl⟩:=hV.av
  obtain⟨_,hk,hfit2,cur,ty',fr,hw,hsz,hfr,hcell⟩:=(hr.cells _ _ _ _ _ _ hg).2 _ _ hp
  have hWp:W.heap[p.b]? =w.heap[p.b]?:=hne A rfl _ _ hp
  have hrow:=h0.row ⟨p.b,p.d+i,p.sz,p.k⟩ (cur:=cur) (t':=ty') (fr:=fr) (by rw[hWp];exact hw) (ty:=ty) hk hsz (xs.flatMap (one f)) 2 (fun h=>by cases h) (by show((xs.flatMap (one f)).length:Int)+(p.d+i)≤p.sz;omega) (fun j c hj hj0 hc=>by
   have h1:row[i+j]? =some c:=by
    have h2:((row.drop i).take (xs.flatMap (one f)).length)[j]? =some c:=by rw[htk];exact hc
    rw[ew hj,dW]at h2
    exact h2
   obtain⟨c2,h3,h4⟩:=hcell hlo (i+j) c (by omega) (by omega) h1
   have hsc:jX c=true:=by
    rw[mM,fh]at hc
    obtain⟨z,_,rfl⟩:=dF.1 hc
    exact hsc0 z
   have:=h4.ar hsc
   subst this
   refine⟨c2,?_,.c0 (.flat hsc)⟩
   have hat:Place.at ⟨p.b,p.d+i,p.sz,p.k⟩ j=p.at (i+j):=by unfold Place.at;simp only;omega
   rw[hat]
   exact h3)
  obtain⟨h1,h2⟩:=hrow
  refine⟨_,.slice (some ⟨H0.length,0,some (xs.flatMap (one f)).length⟩) n 1,ty,n,h1,by omega,rfl,?_⟩
  have hq:(ρ0.put H0.length (xs.flatMap (one f)).length ⟨p.b,p.d+i,p.sz,p.k⟩) H0.length (xs.flatMap (one f)).length=some ⟨p.b,p.d+i,p.sz,p.k⟩:=Rho.ak _ _ _ _
  have e1:n*p.k=n:=by rw[←hpk,il]
  have e2:c'*p.k=c':=by rw[←hpk,il]
  have hk1:p.k=1:=hpk.symm
  have:=C0.slice (n:=n) (c':=c') (a:=a) hq (i:=0) (by show(0:Int)≤((0:Nat):Int)+(p.d+i);omega) (by show 0+n*p.k≤_;rw[e1];omega) ⟨hnc.1,by show _≤0+c'*p.k;rw[e2];have:=hnc.1;omega⟩ (by
   rcases hac with⟨h3,h4⟩|h3
   ·refine .inl ⟨?_,?_⟩
    ·rw[h3]
     congr 1
     unfold Place.at
     simp only
     omega
    ·show Place.at ⟨p.b,p.d+i,p.sz,p.k⟩ 0+c'*p.k≤p.sz
     have:Place.at ⟨p.b,p.d+i,p.sz,p.k⟩ 0=p.at i:=by unfold Place.at;simp only;omega
     rw[this];exact h4
   ·exact .inr h3)
  simp only[hk1]at this ⊢
  exact .c0 this
theorem CallOk.dh{f:FuncId}{args:List Value}{v:Value}(hv:flat v=true)(h:∀{ρ:Rho}{w:World}{args':Array Value},HRel P ρ H w→All2 (V ρ) args args'.toList→∃ρ1 H1 args1 H2,InW P ρ1 H1 w∧All2 (V ρ1) args1 args'.toList∧CallOk P f args1 H1 v H2):CallOk P f args H v H:=by
 intro k ρ w args' hr ha
 obtain⟨ρ1,H1,args1,H2,hI,ha1,hc⟩:=h hr ha
 refine(hc k ρ1 w args' hI.rel ha1).mono ?_
 rintro e w'⟨ρ',v',rfl,hp,hv'⟩
 have hframe:∀b,b<w.heap.size→w'.heap[b]? =w.heap[b]?:=fun b hb=>(hp.frame b hb (hI.shut b)).1
 refine⟨ρ,v',rfl,?_,?_⟩
 ·exact{
   le:=.refl ρ
   rel:=hr.other hp.size fun A e p hq=>hframe _ (hr.dom _ _ _ hq).2
   len:=dD _
   size:=hp.size
   os:=hp.os
   tape:=hp.tape
   output:=hp.output
   frame:=fun b hb hw=>⟨hframe b hb,hw⟩
   loops:=fun b r h=>⟨r,by rw[hframe b (nE h),h]⟩
   img:=fun _ _ h=>h}
 ·rw[hv'.ag hv]
  exact .of_flat hv
end
variable {H:Heap}
theorem b0b{v:Value}{k:Nat}(h:b3D v k=true):v=.tuple #[.string (nmB k),I 0]:=by
 unfold b3D at h
 split at h
 ·rename_i vs
  split at h
  ·rename_i b m e
   rw[dy,decide_eq_true_eq,decide_eq_true_eq]at h
   obtain⟨rfl,h⟩:=h
   have:b=nmB k:=by
    cases b with|mk d=>cases d with|mk l=>simp only at h;subst h;rfl
   rw[←this]
   congr 1
   exact iO e
  ·cases h
 ·cases h
theorem c1b(hG:Glob gH H)(k:Nat)(hk:k<128):Fn prog 76 [I k] H fun r H'=>r=.tuple #[.string (nmB k),I 0]∧St prog H H' []:=by
 obtain⟨T,hT,h⟩:=sH c7s
 have h:=h k (dT.2 hk)
 refine tP (fun x hx=>by rw[dX.1 hx];rfl) rfl ?_ hG
 unfold b6u at h
 split at h
 ·rename_i v H1 e
  rw[←b0b h]
  exact nQ hT (.inl e)
 ·rename_i v H1 e
  rw[←b0b h]
  exact nQ hT (.inr e)
 ·cases h
theorem enJ:oZ prog 57:=⟨Tryz.f57,func57,by kernel_rfl,by kernel_rfl⟩
theorem c8s(ty:TypeId):∃H2,CallOk prog 57 [.slice (some ⟨0,0,some 2⟩) 2 1,.string b0a] (jH ty) (.string ⟨exJ.toArray⟩) H2:=by
 have h0:=c7z ty
 unfold b3u at h0
 obtain⟨T,hT,e⟩:=a9b (P:=prog) [57,100,101,102,141,142] .e (fun f g h=>by rw[wU]at h;cases h) (fun T=>b0U (nX T (exF prog T 4000) [] (lT 57) [.slice (some ⟨0,0,some 2⟩) 2 1,.string b0a] (jH ty)))
 rw[e]at h0
 unfold b0U at h0
 have key:∀b H1,(nX T (exF prog T 4000) [] (lT 57) [.slice (some ⟨0,0,some 2⟩) 2 1,.string b0a] (jH ty)).Is (.string b) H1→b.data.toList=exJ→∃H2,CallOk prog 57 [.slice (some ⟨0,0,some 2⟩) 2 1,.string b0a] (jH ty) (.string ⟨exJ.toArray⟩) H2:=fun b H1 hi hb=>by
  have e:b=⟨exJ.toArray⟩:=by
   cases b with|mk d=>cases d with|mk l=>simp only at hb;subst hb;rfl
  obtain⟨_,v,H2,h2,h3⟩:=(yB hT (b7N c4e hT 4000) (fun en hen=>by cases hen) rfl hi).1.fn
  rw[h3.1,e]at h2
  exact⟨H2,h2⟩
 split at h0
 ·rename_i b H1 e
  exact key b H1 (.inl e) (of_decide_eq_true h0)
 ·rename_i b H1 e
  exact key b H1 (.inr e) (of_decide_eq_true h0)
 ·cases h0
def b2a(xs:List ByteArray)(t:ByteArray):Prop:=∀(H:Heap)(v:Value),Sl 1 (one Value.string) H v xs→Fn prog 57 [v,.string b0a] H fun r H'=>r=.string t∧St prog H H' []
theorem c5P:b2a [exA,exB] ⟨exJ.toArray⟩:=by
 intro H v hv
 refine⟨enJ,_,H,CallOk.dh rfl ?_,rfl,St.refl _ _⟩
 intro ρ w args' hr ha
 obtain⟨l⟩:=args'
 match l,ha with
 | [x,y],⟨hx,hy,_⟩=>
   have hx1:C1 ρ v x:=by
    rcases hv.rd with⟨rfl,h⟩|⟨A,i,e,row,ty,rw',lo,ver,n,_,_,_,_,_,_,rfl⟩
    ·cases h
    ·cases hx with
     | v1 h=>cases h with
       | c1 h=>exact h
   obtain⟨ρ1,cv1,ty,n,hI,rfl,rfl,hc⟩:=c3y (P:=prog) (f:=Value.string) (fun _=>rfl) (InW.none w) hr hv hx1 (fun _ _ _ _ _=>rfl) (by simp)
   obtain⟨H2,h2⟩:=c8s ty
   have hye:y=.string b0a:=hy.ag rfl
   subst hye
   exact⟨ρ1,_,[.slice (some ⟨0,0,some 2⟩) 2 1,.string b0a],H2,hI,⟨.v1 (.c1 hc),.of_flat rfl,trivial⟩,h2⟩
end Go.Ds
namespace Go.Ds
open Go.Proofs Go.Proofs.Tryz
variable {H:Heap}
set_option maxRecDepth 10000
set_option maxHeartbeats 1000000
def spB:ByteArray:=⟨#[32]⟩
def toB:ByteArray:=⟨#[32,116,111,32]⟩
def c8h:ByteArray:=⟨#[58,32]⟩
def rL(s:Sn)(c:Ct):ByteArray:=(jB s.o.dvs c.1.toNat).name++spB++nmB c.2.toNat
def a3G(s:Sn)(cps:List Int)(l:List Ct)(i:Nat):ByteArray:=(jB s.o.cpls (jB cps i).toNat).name++toB++rL s (jB l i)
def a6l(s:Sn)(r:Rn):List ByteArray:=rL s r.pl::(List.range (nF s r).1.length).map (a3G s r.cps (nF s r).1)
def a4N(s:Sn)(r:Rn)(j:ByteArray):ByteArray:=j++c8h++(jB (jB s.o.dvs r.tc.1.toNat).stops r.stop.toNat).name
theorem a1F{n:ByteArray}(h:¬lP n=false):n.size≤32:=by
 have h:=ij _▸h
 unfold lP at h
 simp only[dy,decide_eq_true_eq]at h
 exact h.1.1.2
theorem Org.bJ{o:Org}(h:organE o=0){j:Nat}(hj:j<o.dvs.length):(jB o.dvs j).name.size≤32∧∀q,q<(jB o.dvs j).stops.length→(jB (jB o.dvs j).stops q).name.size≤32:=by
 unfold organE at h
 split at h
 ·omega
 split at h
 ·omega
 split at h
 ·rename_i hh;exact absurd h hh
 split at h
 ·omega
 split at h
 ·omega
 split at h
 ·rename_i hh;exact absurd h hh
 rename_i _ _ _ _ _ hd
 have e:=pL (dQ.1 hd) j hj
 unfold vE at e
 split at e
 ·omega
 rename_i h1
 split at e
 ·omega
 refine⟨a1F h1,fun q hq=> ?_⟩
 unfold divE at e
 split at e
 ·rename_i hh;exact absurd e hh
 split at e
 ·omega
 have e2:=pL e q hq
 unfold pQ at e2
 split at e2
 ·rename_i hh;exact absurd e2 hh
 rename_i hs2
 have e2:=dQ.1 hs2
 unfold stopE at e2
 split at e2
 ·rename_i hh;exact absurd e2 hh
 split at e2
 ·omega
 rename_i h2
 exact a1F h2
theorem Org.ch{o:Org}(h:organE o=0){j:Nat}(hj:j<o.cpls.length):(jB o.cpls j).name.size≤32:=by
 unfold organE at h
 split at h
 ·omega
 split at h
 ·omega
 split at h
 ·rename_i hh;exact absurd h hh
 split at h
 ·omega
 split at h
 ·omega
 split at h
 ·rename_i hh;exact absurd h hh
 unfold tB at h
 split at h
 ·omega
 split at h
 ·omega
 have e:=pL h j hj
 unfold nW at e
 dsimp only at e
 split at e
 ·omega
 rename_i h1
 exact a1F h1
theorem b9K(k:Nat):(nmB k).size≤4:=by
 have h:∀j,j<12→(c7H.getD j []).length≤2:=by decide
 have h2:=h (k%12) (fm _ (by decide))
 show(nmL k).length≤4
 unfold nmL
 rw[dK]
 rw[dB]at h2 ⊢
 split<;>simp only[eL,eN]<;>omega
theorem b5P{s:Sn}(hf:s.Fit){c:Ct}(hc:nI s.o c=true):(rL s c).size≤37:=by
 have h1:=(lO s.o c).1 hc
 have h2:=(Org.bJ hf.o (j:=c.1.toNat) (by omega)).1
 have h3:=b9K c.2.toNat
 unfold rL
 rw[gQ,gQ]
 have:spB.size=1:=rfl
 omega
theorem b7F{o:Org}(h:organE o=0){c:Ct}(hc:nI o c=true):∃k:Nat,c.2=k∧k<128:=by
 have h1:=(lO o c).1 hc
 have h2:=(Org.aH h).keys c.1.toNat (by omega)
 exact⟨c.2.toNat,by omega,by omega⟩
theorem a5f(hG:Glob gH H)(s:Sn)(hs:s.In H)(hf:s.Fit)(c:Ct)(hc:nI s.o c=true):Fn prog 55 [s.v,.agg #[I c.1,I c.2]] H fun r H'=>r=.string (rL s c)∧St prog H H' []:=by
 obtain⟨k,hk,hk2⟩:=b7F hf.o hc
 have h1:=(lO s.o c).1 hc
 obtain⟨d,hd⟩:∃d:Nat,c.1=d:=⟨c.1.toNat,by omega⟩
 have hP:rL s c=(jB s.o.dvs d).name++spB++nmB k:=by unfold rL;rw[hd,hk];rfl
 have n1:=(Org.bJ hf.o (j:=d) (by omega)).1
 have n2:=b9K k
 have c1:=fun t t2 cx cy=>oD (P:=prog) t t2 cx cy (jB s.o.dvs d).name ⟨#[32]⟩ (by show _+1<_;omega)
 have c2:=fun t t2 cx cy=>oD (P:=prog) t t2 cx cy ((jB s.o.dvs d).name++⟨#[32]⟩) (nmB k) (by rw[gQ];show _+1+_<_;omega)
 rw[hP,hd,hk]
 refine .aE func55 rfl (by kernel_rfl) (m:=24) rfl fun l hn g0 g1=> ?_
 simp(disch:=omega) only[↓RA,RB,simprocAttr,g0]
 refine(sR H).eNew 10 [(.string s.o.name),s.o.rv,s.o.dv,s.o.cv,s.sv,(.int .u64 s.rg.cpl),(.int .u64 s.rg.off),s.kv,I s.p.1,I s.p.2] rfl rfl (by simp[OC,((sR H).sl hs.o.1).cells.2.1,((sR H).sl hs.o.2.2.1).cells.2.1,((sR H).sl hs.o.2.2.2.2.1).cells.2.1,((sR H).sl hs.rg.1).cells.2.1,((sR H).sl hs.ks.sl).cells.2.1]) qE fun A1 H1 hS1=> ?_
 simp only[RT]at hS1
 simp(disch:=omega) only[↓RA,RB,simprocAttr,g1]
 refine hS1.eNew 2 [I d,I k] rfl rfl rfl mK fun A2 H2 hS2=> ?_
 simp only[RT]at hS2
 simp(disch:=omega) only[↓RA,RZ,simprocAttr,hn,hS2.ld 1 rfl]
 refine hS2.cF (c1b (hS2.gl hG) k hk2) fun H3 hS3=> ?_
 simp(disch:=omega) only[↓RA,RZ,simprocAttr,hn,hS3.ld 0 rfl,hS3.ld 1 rfl,(hS3.sl hs.o.2.2.1).idx,(hS3.sl hs.o.2.2.1).ba,(hS3.sl hs.o.2.2.1).ld,Dvn.cells,c9v,c1,c2]
 exact⟨rfl,hS3.forget⟩
theorem b3Z{s:Sn}{r:Rn}(h:(nF s r).2=true):(nF s r).1.length=r.cps.length:=by
 unfold nF at h ⊢
 cases h2:mJ s r.pl r.cps r.cps.length with
 | none=>rw[h2]at h;cases h
 | some q=>
   obtain⟨o2,a2⟩:=q
   exact zC h2
theorem b5j{s:Sn}{r:Rn}(hf:s.Fit)(hp:nI s.o r.pl=true)(h:(nF s r).2=true):(∀c∈(nF s r).1,nI s.o c=true)∧∀i,i<r.cps.length→0≤jB r.cps i∧jB r.cps i<s.o.cpls.length:=by
 have key:∀n out a,mJ s r.pl r.cps n=some (out,a)→nI s.o a=true∧(∀c∈out,nI s.o c=true)∧∀i,i<n→0≤jB r.cps i∧jB r.cps i<s.o.cpls.length:=by
  intro n
  induction n with
  | zero=>
    intro out a h
    unfold mJ at h
    injection h with h
    obtain⟨rfl,rfl⟩:=iw h
    exact⟨hp,fun c hc=>(by cases hc),fun i hi=>absurd hi (ed _)⟩
  | succ n ih=>
    intro out a h
    unfold mJ at h
    cases h2:mJ s r.pl r.cps n with
    | none=>rw[h2]at h;cases h
    | some q=>
      obtain⟨o2,a2⟩:=q
      obtain⟨i1,i2,i3⟩:=ih o2 a2 h2
      rw[h2]at h
      simp only at h
      split at h
      ·rename_i hb
       injection h with h
       obtain⟨rfl,rfl⟩:=iw h
       rw[dy]at hb
       have h5:=a0K.1 hb.1
       obtain⟨h6,h7,_⟩:=qY h5.1
       have hc:=Org.bk hf.o (j:=(jB r.cps n).toNat) (by omega)
       have hok:nI s.o (mZ s (jB r.cps n) a2)=true:=by
        rw[mZ,if_pos h5.1,lO]
        exact⟨hc.2.1.1,hc.2.1.2,h5.2.2.2.1,h5.2.2.2.2⟩
       refine⟨hok,fun c hc=> ?_,fun i hi=> ?_⟩
       ·rcases eh.1 hc with hc|hc
        ·exact i2 c hc
        ·rw[dX]at hc
         rw[hc];exact hok
       ·rcases dJ.1 hi with e|e
        ·exact i3 i e
        ·rw[e];exact⟨h6,h7⟩
      ·cases h
 unfold nF at h ⊢
 cases h2:mJ s r.pl r.cps r.cps.length with
 | none=>rw[h2]at h;cases h
 | some q=>
   obtain⟨o2,a2⟩:=q
   obtain⟨_,i2,i3⟩:=key _ _ _ h2
   exact⟨i2,i3⟩
theorem b9Y{s:Sn}{r:Rn}(h:vfE s r=0):snE s=0∧r.pl∈jG s.ks∧(nF s r).2=true∧¬(r.cps.length=0∧a1b s r.pl.1=true)∧a1s s r.stop r.tc=true:=by
 unfold vfE at h
 split at h
 ·rename_i h1;exact absurd h h1
 ·rename_i h1
  split at h
  ·cases h
  ·rename_i h2
   split at h
   ·cases h
   ·rename_i h3
    split at h
    ·cases h
    ·rename_i h4
     exact⟨dQ.1 h1,dQ.1 h2,by simpa using fun e=>h3 (.inl e),fun e=>h3 (.inr e),by simpa using h4⟩
def b1V(s:Sn)(r:Rn)(j:ByteArray):ByteArray:=if vfE s r=0 then a4N s r j else⟨#[]⟩
theorem c0Z(hG:Glob gH H)(s:Sn)(hs:s.In H)(x:Rn)(hx:x.In H)(hl:x.cps.length<1000000)(jn:ByteArray)(hjl:jn.size<1000000000000)(hJ:vfE s x=0→b2a (a6l s x) jn):Fn prog 23 [s.v,x.v] H fun r H'=>r=.tuple #[.string (b1V s x jn),I (vfE s x)]∧St prog H H' []:=by
 refine .aE func23 rfl (by kernel_rfl) (m:=74) rfl fun l hn g0 g1=> ?_
 simp(disch:=omega) only[↓RA,RB,simprocAttr,g0]
 refine(sR H).eNew 10 [(.string s.o.name),s.o.rv,s.o.dv,s.o.cv,s.sv,(.int .u64 s.rg.cpl),(.int .u64 s.rg.off),s.kv,I s.p.1,I s.p.2] rfl rfl (by simp[OC,((sR H).sl hs.o.1).cells.2.1,((sR H).sl hs.o.2.2.1).cells.2.1,((sR H).sl hs.o.2.2.2.2.1).cells.2.1,((sR H).sl hs.rg.1).cells.2.1,((sR H).sl hs.ks.sl).cells.2.1]) qE fun A1 H1 hS1=> ?_
 simp only[RT]at hS1
 simp(disch:=omega) only[↓RA,RB,simprocAttr,g1]
 refine hS1.eNew 6 [I x.pl.1,I x.pl.2,x.cv,I x.tc.1,I x.tc.2,I x.stop] rfl rfl (by simp[OC,(hS1.sl hx.1).cells.2.1]) qP fun A2 H2 hS2=> ?_
 simp only[RT]at hS2
 simp(disch:=omega) only[↓RA,RZ,simprocAttr,hn,hS2.ae 0 rfl,hS2.ae 1 rfl]
 refine hS2.cF (b3Q (hS2.gl hG) s (hs.aj hS2) x (hx.aj hS2)) fun H3 hS3=> ?_
 simp(disch:=omega) only[↓RA,RB,simprocAttr,hn]
 refine jA (fun h1=> ?_) (fun h1=> ?_)
 ·have hc:b1V s x jn=⟨#[]⟩:=by unfold b1V;rw[if_neg h1]
  simp(disch:=omega) only[↓RA,RZ,simprocAttr,hn,c6G,h1]
  exact⟨by rw[hc],hS3.forget⟩
 have h1:vfE s x=0:=dQ.1 h1
 have hJ:=hJ h1
 have hc:b1V s x jn=a4N s x jn:=by unfold b1V;rw[if_pos h1]
 obtain⟨e0,e1,e2,e3,e4⟩:=b9Y h1
 have hf:=tZ.1 e0
 have hpo:=uA hs.ks.ok hf.keys _ e1
 have hto:=a4U hf hpo e2
 obtain⟨hco,hci⟩:=b5j hf hpo e2
 have hcl:=b3Z e2
 simp(disch:=omega) only[↓RA,RZ,simprocAttr,hn,hS3.ae 0 rfl,hS3.ae 1 rfl,h1]
 refine hS3.cF (a5f (hS3.gl hG) s (hs.aj hS3) hf x.pl hpo) fun H4 hS4=> ?_
 simp(disch:=omega) only[↓RA,RZ,simprocAttr,hn,h1]
 refine hS4.ai [(.string (rL s x.pl))] b3E b9Q rfl rfl (by simp[Value.cells]) rfl rfl (by decide) (by decide) fun w1 H5 hS5=> ?_
 simp only[RT]at hS5
 simp(disch:=omega) only[↓RA,RZ,simprocAttr,hn,hS5.ae 0 rfl,hS5.ae 1 rfl,h1]
 refine jF (a8e s (hs.aj hS5) hf x (hx.aj hS5)) ?_
 rintro r H6⟨cw,rfl,hT3⟩
 have hS6:=hS5.trans hT3
 simp only[RT]at hS6
 simp(disch:=omega) only[↓RA,RZ,simprocAttr,hn,(hS6.ay 3 rfl lE).len,h1]
 obtain⟨CL,hCL⟩:∃l,l=(nF s x).1:=⟨_,rfl⟩
 rw[←hCL]at hco hcl
 simp only[←hCL]at hS6
 simp only[←hCL]
 refine Wp.al (fun n l H'=>l.length=74∧get l 2=(ptr A1 0 10)∧get l 3=(ptr A2 0 6)∧get l 4=(.string ⟨#[]⟩)∧get l 5=I 0∧get l 29=cw∧get l 30=I CL.length∧∃(i:Nat)(ov:Value),(n+i=CL.length)∧get l 31=I i∧get l 7=ov∧St prog H H' [⟨ptr A1 0 10,0,[(.string s.o.name),s.o.rv,s.o.dv,s.o.cv,s.sv,(.int .u64 s.rg.cpl),(.int .u64 s.rg.off),s.kv,I s.p.1,I s.p.2]⟩,⟨ptr A2 0 6,0,[I x.pl.1,I x.pl.2,x.cv,I x.tc.1,I x.tc.2,I x.stop]⟩,⟨ov,1,(rL s x.pl::(List.range i).map (a3G s x.cps CL)).flatMap (one Value.string)⟩,⟨cw,2,pr CL⟩]) CL.length ?_ ?_
 ·simp(disch:=omega) only[RB,RC,simprocAttr,hn]
  exact⟨0,w1,by omega,rfl,rfl,hS6⟩
 rintro n l H7⟨hn,g2,g3,g4,g5,g29,g30,i,ov,hi,g31,g7,hS7⟩
 simp(disch:=omega) only[↓RA,RB,simprocAttr,hn,g30,g31]
 refine jA (fun q1=> ?_) (fun q1=> ?_)
 ·obtain⟨hk0,hk1⟩:=hci i (by omega)
  obtain⟨k,hk⟩:∃k:Nat,jB x.cps i=k:=⟨(jB x.cps i).toNat,by omega⟩
  have hkl:k<s.o.cpls.length:=by omega
  have hcm:=hco _ (jE (xs:=CL) (j:=i) (by omega))
  have n1:=Org.ch hf.o hkl
  have n2:=b5P hf hcm
  have c1:=fun t t2 cx cy=>oD (P:=prog) t t2 cx cy (jB s.o.cpls k).name ⟨#[32,116,111,32]⟩ (by show _+4<_;omega)
  have c2:=fun t t2 cx cy=>oD (P:=prog) t t2 cx cy ((jB s.o.cpls k).name++⟨#[32,116,111,32]⟩) (rL s (jB CL i)) (by rw[gQ];show _+4+_<_;omega)
  simp(disch:=omega) only[↓RA,RZ,simprocAttr,hn,g29,g31,(hS7.ay 3 rfl lE).idx,(hS7.ay 3 rfl lE).ae,mD,q1]
  refine hS7.eNew 2 [I 0,I 0] rfl rfl rfl mK fun A3 H8 hS8=> ?_
  simp only[RT]at hS8
  simp(disch:=omega) only[↓RA,RZ,simprocAttr,hn,q1]
  refine hS8.aa 4 rfl [I (jB CL i).1,I (jB CL i).2] rfl rfl mK (by simp) fun H9 hS9=> ?_
  simp only[RT]at hS9
  simp(disch:=omega) only[↓RA,RZ,simprocAttr,q1]
  refine Wp.aK kP [(3,16),(5,16),(8,16),(11,16)] (by kernel_rfl) (by kernel_rfl) ?_
  simp(disch:=omega) only[↓RA,RZ,simprocAttr,hn,g2,g3,g7,hS9.ld 0 rfl,hS9.ld 1 rfl,(hS9.sl hx.1).idx,(hS9.sl hx.1).ld,one,hk]
  simp(disch:=omega) only[↓RA,RZ,simprocAttr,hn,g2,(hS9.sl hs.o.2.2.2.2.1).idx,(hS9.sl hs.o.2.2.2.2.1).ba,(hS9.sl hs.o.2.2.2.2.1).ld,Cpl.cells,hS9.ae 0 rfl,hS9.ae 4 rfl,c1]
  refine hS9.cF (a5f (hS9.gl hG) s (hs.aj hS9) hf (jB CL i) hcm) fun H10 hS10=> ?_
  simp(disch:=omega) only[↓RA,RB,simprocAttr,hn,c2]
  refine hS10.ai [_] b3E b9Q rfl rfl (by simp[Value.cells]) rfl rfl (by decide) (by decide) fun w2 H11 hS11=> ?_
  simp only[RT]at hS11
  simp(disch:=omega) only[↓RA,RZ,simprocAttr,hn]
  refine hS11.aq 2 rfl (hS11.rd 5 rfl) b3E (by rw[mM];simp;omega) fun w3 H12 hS12=> ?_
  simp only[RT]at hS12
  simp(disch:=omega) only[↓RA,RZ,simprocAttr,hn,g2,g3,g4,g5,g29,g30,g31,hS10.ld 0 rfl,hS10.ld 1 rfl,one,(hS10.sl hx.1).ld,Cpl.cells,(hS10.sl hs.o.2.2.2.2.1).ld,hk]
  refine⟨n-1,by omega,i+1,w3,by omega,by simp,rfl,?_⟩
  have hp:a3G s x.cps CL i=(jB s.o.cpls k).name++toB++rL s (jB CL i):=by unfold a3G;rw[hk];rfl
  rw[eR,dU,←ga,dR,show[i].map (a3G s x.cps CL)=[a3G s x.cps CL i]from rfl,hp]
  exact hS12.pick [0,1,2,3] (by decide) rfl
 have hii:i=CL.length:=by omega
 subst hii
 obtain⟨hd0,hd1,hb,hm⟩:0≤x.tc.1∧x.tc.1<s.o.dvs.length∧0≤x.stop∧x.stop<(jB s.o.dvs x.tc.1.toNat).stops.length:=by
  have h2:=(lO s.o x.tc).1 hto
  unfold a1s at e4
  simp only[dy,decide_eq_true_eq]at e4
  exact⟨h2.1,h2.2.1,e4.1.1.1,e4.1.1.2⟩
 obtain⟨d,hd⟩:∃d:Nat,x.tc.1=d:=⟨x.tc.1.toNat,by omega⟩
 obtain⟨k,hk⟩:∃k:Nat,x.stop=k:=⟨x.stop.toNat,by omega⟩
 have hdl:d<s.o.dvs.length:=by omega
 have hdt:x.tc.1.toNat=d:=by omega
 rw[hdt]at hm
 have hkl:k<(jB s.o.dvs d).stops.length:=by omega
 have hst:=(hs.o.2.2.2.1 _ (jE hdl)).2.1
 simp only[hd,hk]at hS7
 simp(disch:=omega) only[↓RA,RC,simprocAttr,q1]
 refine Wp.aK kP [(5,0),(8,0),(11,0),(13,0),(16,0)] (by kernel_rfl) (by kernel_rfl) ?_
 simp(disch:=omega) only[↓RA,RZ,simprocAttr,hn,g7]
 have hJ2:b2a (rL s x.pl::(List.range CL.length).map (a3G s x.cps CL)) jn:=by
  unfold a6l at hJ
  rw[←hCL]at hJ
  exact hJ
 have n1:=(Org.bJ hf.o hdl).2 k hkl
 have c1:=fun t t2 cx cy=>oD (P:=prog) t t2 cx cy jn ⟨#[58,32]⟩ (by show _+2<_;omega)
 have c2:=fun t t2 cx cy=>oD (P:=prog) t t2 cx cy (jn++⟨#[58,32]⟩) (jB (jB s.o.dvs d).stops k).name (by rw[gQ];show _+2+_<_;omega)
 refine hS7.cF (hJ2 _ ov (hS7.ay 2 rfl (fun _=>rfl))) fun H13 hS13=> ?_
 simp(disch:=omega) only[↓RA,RZ,simprocAttr,hn,g2,g3,hS13.ld 0 rfl,hS13.ld 1 rfl,(hS13.sl hs.o.2.2.1).idx,(hS13.sl hs.o.2.2.1).ba,(hS13.sl hs.o.2.2.1).ld,Dvn.cells,(hS13.sl (hs.o.2.2.2.1 (jB s.o.dvs d) (jE (by omega))).1).idx,(hS13.sl (hs.o.2.2.2.1 (jB s.o.dvs d) (jE (by omega))).1).ba,(hS13.sl (hs.o.2.2.2.1 (jB s.o.dvs d) (jE (by omega))).1).ld,Stp.cells,hS7.ld 0 rfl,hS7.ld 1 rfl,(hS7.sl hs.o.2.2.1).ld,(hS7.sl (hs.o.2.2.2.1 (jB s.o.dvs d) (jE (by omega))).1).ld,c6G,c1,c2]
 rw[hc,h1]
 have ht:a4N s x jn=jn++c8h++(jB (jB s.o.dvs d).stops k).name:=by unfold a4N;rw[hd,hk];rfl
 rw[ht]
 exact⟨rfl,hS13.forget⟩
end Go.Ds
namespace Go.Ds
open Go.Proofs
variable {H:Heap}
set_option maxRecDepth 100000
set_option maxHeartbeats 1000000
end Go.Ds
namespace Go.Ds
open Go.Proofs
variable {H:Heap}
set_option maxRecDepth 10000
set_option maxHeartbeats 1000000
section
variable (w1 w2 w3 w4 w5 w6 w7:Value)
end
section
variable (w1 w2 d1 g1 s1 d2 g2 s2 w3 w4 w5:Value)
end
end Go.Ds
namespace Go.Ds
open Go.Proofs Go.Proofs.Tryz
variable {H:Heap}
set_option maxRecDepth 10000
set_option maxHeartbeats 1000000
theorem a8N(s:ByteArray):Fn prog 81 [.string s] H fun r H'=>∃wv,r=.agg #[.string s,.string ⟨#[79,112,101,110]⟩,I 8,I 1,I 36,wv]∧St prog H H' [⟨wv,1,(List.replicate 13 (0:Int)).flatMap (one I)⟩]:=by
 refine .aN func81 rfl (by kernel_rfl) (m:=7) rfl fun l hn g0=> ?_
 simp(disch:=omega) only[↓RA,RZ,simprocAttr]
 refine(sR H).eNew 6 [(.string ⟨#[]⟩),(.string ⟨#[]⟩),I 0,I 0,I 0,(.slice none 0 0)] rfl rfl rfl vX fun A1 H1 hS1=> ?_
 simp only[RT]at hS1
 simp(disch:=omega) only[↓RA,RB,simprocAttr,g0,xO]
 refine hS1.cB 13 c9q (by decide) fun w1 H2 hS2=> ?_
 simp only[RT]at hS2
 rw[show List.replicate 13 (Value.int .i64 0)=(List.replicate 13 (0:Int)).flatMap (one I)from by rw[mM,List.map_replicate]]at hS2
 simp(disch:=omega) only[↓RA,RB,simprocAttr,hn,a2x (hS2.rd 1 rfl).cells]
 refine hS2.aa 0 rfl [(.string s),(.string ⟨#[79,112,101,110]⟩),I 8,I 1,I 36,w1] rfl (by simp[OC,(hS2.rd 1 rfl).cells.2.1]) vX (by simp) fun H3 hS3=> ?_
 simp only[RT]at hS3
 simp(disch:=omega) only[↓RA,RZ,simprocAttr,hn,d0u,hS3.ae 0 rfl]
 exact⟨w1,rfl,hS3.pick [1] (by decide) rfl⟩
theorem a4g(n st:ByteArray)(k:Int)(A:Nat)(hA:Var H A 2 [I 36,I 48]):Fn prog 82 [.string n,.string st,I k,ptr A 0 2] H fun r H'=>∃dv gv sv,r=.agg #[.string n,.bool false,I 36,I 48,sv]∧St prog H H' [⟨dv,2,[I k,I 0]⟩,⟨gv,3,[I 36,I 48,dv]⟩,⟨sv,4,[.string st,I 8,I 1,gv]⟩]:=by
 refine .db func82 rfl (by kernel_rfl) (m:=20) rfl fun l hn g0 g1 g2 g3=> ?_
 simp(disch:=omega) only[↓RA,RZ,simprocAttr]
 refine(sR H).eNew 5 [(.string ⟨#[]⟩),(.bool false),I 0,I 0,(.slice none 0 0)] rfl rfl rfl rR fun A1 H1 hS1=> ?_
 simp only[RT]at hS1
 simp(disch:=omega) only[↓RA,RZ,simprocAttr,hn,g0,g1,g2,g3,(hA.aj hS1.aj).ae,xO,c3q]
 refine hS1.ai [I k,I 0] a5E a5I rfl rfl (by simp[Value.cells]) rfl rfl (by decide) (by decide) fun w1 H2 hS2=> ?_
 simp only[RT]at hS2
 simp(disch:=omega) only[↓RA,RB,simprocAttr,hn,mS (hS2.rd 1 rfl).cells]
 refine hS2.ai [I 36,I 48,w1] rP yT rfl rfl (by first|(simp[];done)|simp[Value.cells]) (by first|(simp[];done)|simp[Value.cells]) (by simp[OC,(hS2.rd 1 rfl).cells.2.1]) (by decide) (by decide) fun w2 H3 hS3=> ?_
 simp only[RT]at hS3
 simp(disch:=omega) only[↓RA,RB,simprocAttr,hn,a8X (hS3.rd 2 rfl).cells]
 refine hS3.ai [(.string st),I 8,I 1,w2] b8T c4k rfl rfl (by first|(simp[];done)|simp[Value.cells]) (by first|(simp[];done)|simp[Value.cells]) (by simp[OC,(hS3.rd 2 rfl).cells.2.1]) (by decide) (by decide) fun w3 H4 hS4=> ?_
 simp only[RT]at hS4
 simp(disch:=omega) only[↓RA,RB,simprocAttr,hn,a8f (hS4.rd 3 rfl).cells]
 refine hS4.aa 0 rfl [(.string n),(.bool false),I 36,I 48,w3] rfl (by simp[OC,(hS4.rd 3 rfl).cells.2.1]) rR (by simp) fun H5 hS5=> ?_
 simp only[RT]at hS5
 simp(disch:=omega) only[↓RA,RZ,simprocAttr,hn,c9J,hS5.ae 0 rfl]
 exact⟨w1,w2,w3,rfl,hS5.pick [1,2,3] (by decide) rfl⟩
def exT(v1 v2 d1 g1 s1 d2 g2 s2 a b c:Value):Org:=⟨⟨#[84,119,111]⟩,a,[⟨⟨#[65]⟩,⟨#[79,112,101,110]⟩,8,1,36,v1,List.replicate 13 0⟩,⟨⟨#[66]⟩,⟨#[79,112,101,110]⟩,8,1,36,v2,List.replicate 13 0⟩],b,
 [⟨⟨#[71,114,101,97,116]⟩,false,36,48,s1,[⟨⟨#[80,114,105,110,99,105,112,97,108,95,56]⟩,8,1,g1,[⟨36,48,d1,[⟨0,0⟩]⟩]⟩]⟩,⟨⟨#[67,104,111,105,114]⟩,false,36,48,s2,[⟨⟨#[70,108,117,116,101,95,56]⟩,8,1,g2,[⟨36,48,d2,[⟨1,0⟩]⟩]⟩]⟩],c,[⟨⟨#[67,104,111,105,114,95,116,111,95,71,114,101,97,116]⟩,0,1,0,false⟩]⟩
def snT(v1 v2 d1 g1 s1 d2 g2 s2 a b c sv kv:Value):Sn:=⟨exT v1 v2 d1 g1 s1 d2 g2 s2 a b c,sv,⟨[1,1],1,0⟩,kv,[lA [40],(0,0)],(1,4)⟩
theorem b6K(hG:Glob gH H):Fn prog 38 [] H fun r H'=>∃v1 v2 d1 g1 s1 d2 g2 s2 a b c sv kv,r=(snT v1 v2 d1 g1 s1 d2 g2 s2 a b c sv kv).v∧(snT v1 v2 d1 g1 s1 d2 g2 s2 a b c sv kv).In H'∧St prog H H' []:=by
 refine .dm func38 rfl (by kernel_rfl) (m:=35) rfl fun l hn=> ?_
 simp(disch:=omega) only[↓RA,RZ,simprocAttr]
 refine(sR H).eNew 10 [(.string ⟨#[]⟩),(.slice none 0 0),(.slice none 0 0),(.slice none 0 0),(.slice none 0 0),(.int .u64 0),(.int .u64 0),(.slice none 0 0),I 0,I 0] rfl rfl rfl qE fun A1 H1 hS1=> ?_
 simp only[RT]at hS1
 simp(disch:=omega) only[↓RA,RZ,simprocAttr,a5a]
 refine hS1.eNew 2 [I 0,I 0] rfl rfl rfl rN fun A2 H2 hS2=> ?_
 simp only[RT]at hS2
 simp(disch:=omega) only[↓RA,RB,simprocAttr,hn]
 refine hS2.aa 1 rfl [I 36,I 48] rfl rfl rN (by simp) fun H3 hS3=> ?_
 simp only[RT]at hS3
 simp(disch:=omega) only[↓RA,RZ,simprocAttr,hn]
 refine jF (a8N _) ?_
 rintro r H4⟨v1,rfl,hT1⟩
 have hS4:=hS3.trans hT1
 simp only[RT]at hS4
 simp(disch:=omega) only[↓RA,RZ,simprocAttr,hn]
 refine jF (a8N _) ?_
 rintro r H5⟨v2,rfl,hT2⟩
 have hS5:=hS4.trans hT2
 simp only[RT]at hS5
 simp(disch:=omega) only[↓RA,RB,simprocAttr,hn]
 refine hS5.ai [(.string ⟨#[65]⟩),(.string ⟨#[79,112,101,110]⟩),I 8,I 1,I 36,v1,(.string ⟨#[66]⟩),(.string ⟨#[79,112,101,110]⟩),I 8,I 1,I 36,v2] c6b c8b rfl rfl (by first|(simp[];done)|simp[Value.cells]) (by first|(simp[];done)|simp[Value.cells]) (by simp[OC,(hS5.rd 2 rfl).cells.2.1,(hS5.rd 3 rfl).cells.2.1]) (by decide) (by decide) fun w1 H6 hS6=> ?_
 simp only[RT]at hS6
 simp(disch:=omega) only[↓RA,RZ,simprocAttr,hn]
 refine jF (a4g _ _ 0 A2 (hS6.var 1 rfl)) ?_
 rintro r H7⟨d1,g1,s1,rfl,hT3⟩
 have hS7:=hS6.trans hT3
 simp only[RT]at hS7
 simp(disch:=omega) only[↓RA,RZ,simprocAttr,hn]
 refine jF (a4g _ _ 1 A2 (hS7.var 1 rfl)) ?_
 rintro r H8⟨d2,g2,s2,rfl,hT4⟩
 have hS8:=hS7.trans hT4
 simp only[RT]at hS8
 simp(disch:=omega) only[↓RA,RB,simprocAttr,hn]
 refine hS8.ai [(.string ⟨#[71,114,101,97,116]⟩),(.bool false),I 36,I 48,s1,(.string ⟨#[67,104,111,105,114]⟩),(.bool false),I 36,I 48,s2] c5X c8K rfl rfl (by first|(simp[];done)|simp[Value.cells]) (by first|(simp[];done)|simp[Value.cells]) (by simp[OC,(hS8.rd 7 rfl).cells.2.1,(hS8.rd 10 rfl).cells.2.1]) (by decide) (by decide) fun w2 H9 hS9=> ?_
 simp only[RT]at hS9
 simp(disch:=omega) only[↓RA,RB,simprocAttr,hn,a9v]
 refine hS9.ai [(.string ⟨#[67,104,111,105,114,95,116,111,95,71,114,101,97,116]⟩),I 0,I 1,I 0,(.bool false)] b0o c1i rfl rfl (by simp[Value.cells]) rfl rfl (by decide) (by decide) fun w3 H10 hS10=> ?_
 simp only[RT]at hS10
 simp(disch:=omega) only[↓RA,RZ,simprocAttr,hn,a7h (hS10.rd 4 rfl).cells (hS10.rd 11 rfl).cells (hS10.rd 12 rfl).cells]
 refine hS10.eNew 4 [(.string ⟨#[]⟩),(.slice none 0 0),(.slice none 0 0),(.slice none 0 0)] rfl rfl rfl yG fun A3 H11 hS11=> ?_
 simp only[RT]at hS11
 simp(disch:=omega) only[↓RA,RB,simprocAttr,hn]
 refine hS11.aa 13 rfl [(.string ⟨#[84,119,111]⟩),w1,w2,w3] rfl (by simp[OC,(hS11.rd 4 rfl).cells.2.1,(hS11.rd 11 rfl).cells.2.1,(hS11.rd 12 rfl).cells.2.1]) yG (by simp) fun H12 hS12=> ?_
 simp only[RT]at hS12
 simp(disch:=omega) only[↓RA,RB,simprocAttr]
 refine hS12.ai [I 40] tN a1U rfl rfl (by simp[Value.cells]) rfl rfl (by decide) (by decide) fun w4 H13 hS13=> ?_
 simp only[RT]at hS13
 simp(disch:=omega) only[↓RA,RZ,simprocAttr,hn]
 refine hS13.cF (zY [40] (by intro z hz;rw[dX.1 hz];unfold isN;omega) w4 (hS13.ay 14 rfl (qS _)) (by decide)) fun H14 hS14=> ?_
 simp(disch:=omega) only[↓RA,RZ,simprocAttr,hn]
 refine hS14.eNew 2 [(.int .u64 0),(.int .u64 0)] rfl rfl rfl pE fun A4 H15 hS15=> ?_
 simp only[RT]at hS15
 simp(disch:=omega) only[↓RA,RB,simprocAttr,hn]
 refine hS15.aa 15 rfl [(.int .u64 (lA [40]).1),(.int .u64 (lA [40]).2)] rfl rfl pE (by simp) fun H16 hS16=> ?_
 simp only[RT]at hS16
 simp(disch:=omega) only[↓RA,RZ,simprocAttr,hn,hS16.ae 13 rfl]
 refine hS16.ai [(.int .u64 1),(.int .u64 1)] b8E c8L rfl rfl (by simp[Value.cells]) rfl rfl (by decide) (by decide) fun w5 H17 hS17=> ?_
 simp only[RT]at hS17
 simp(disch:=omega) only[↓RA,RZ,simprocAttr,hn,b9I (hS17.rd 16 rfl).cells,hS17.ae 15 rfl,c4d]
 refine hS17.ai [(.int .u64 (lA [40]).1),(.int .u64 (lA [40]).2),(.int .u64 0),(.int .u64 0)] b7d c6r rfl rfl (by simp[Value.cells]) rfl rfl (by decide) (by decide) fun w6 H18 hS18=> ?_
 simp only[RT]at hS18
 simp(disch:=omega) only[↓RA,RB,simprocAttr,hn,a9c,a5Z (hS18.rd 4 rfl).cells (hS18.rd 11 rfl).cells (hS18.rd 12 rfl).cells (hS18.rd 16 rfl).cells (hS18.rd 17 rfl).cells]
 refine hS18.aa 0 rfl [(.string ⟨#[84,119,111]⟩),w1,w2,w3,w5,(.int .u64 1),(.int .u64 0),w6,I 1,I 4] rfl (by simp[OC,(hS18.rd 4 rfl).cells.2.1,(hS18.rd 11 rfl).cells.2.1,(hS18.rd 12 rfl).cells.2.1,(hS18.rd 16 rfl).cells.2.1,(hS18.rd 17 rfl).cells.2.1]) qE (by simp) fun H19 hS19=> ?_
 simp only[RT]at hS19
 simp(disch:=omega) only[↓RA,RZ,simprocAttr,hn,d0x,hS19.ae 0 rfl]
 have h1:Sl 1 (one I) H19 v1 (List.replicate 13 0):=hS19.ay 2 rfl (fun _=>rfl)
 have h2:Sl 1 (one I) H19 v2 (List.replicate 13 0):=hS19.ay 3 rfl (fun _=>rfl)
 have h3:Sl 2 Drw.cells H19 d1 [⟨0,0⟩]:=hS19.ay 5 rfl (fun _=>rfl)
 have h4:Sl 3 Seg.cells H19 g1 [⟨36,48,d1,[⟨0,0⟩]⟩]:=hS19.ay 6 rfl (fun _=>rfl)
 have h5:Sl 4 Stp.cells H19 s1 [⟨⟨#[80,114,105,110,99,105,112,97,108,95,56]⟩,8,1,g1,[⟨36,48,d1,[⟨0,0⟩]⟩]⟩]:=hS19.ay 7 rfl (fun _=>rfl)
 have h6:Sl 2 Drw.cells H19 d2 [⟨1,0⟩]:=hS19.ay 8 rfl (fun _=>rfl)
 have h7:Sl 3 Seg.cells H19 g2 [⟨36,48,d2,[⟨1,0⟩]⟩]:=hS19.ay 9 rfl (fun _=>rfl)
 have h8:Sl 4 Stp.cells H19 s2 [⟨⟨#[70,108,117,116,101,95,56]⟩,8,1,g2,[⟨36,48,d2,[⟨1,0⟩]⟩]⟩]:=hS19.ay 10 rfl (fun _=>rfl)
 have h9:Sl 6 Rk.cells H19 w1 (exT v1 v2 d1 g1 s1 d2 g2 s2 w1 w2 w3).ranks:=hS19.ay 4 rfl (fun _=>rfl)
 have h10:Sl 5 Dvn.cells H19 w2 (exT v1 v2 d1 g1 s1 d2 g2 s2 w1 w2 w3).dvs:=hS19.ay 11 rfl (fun _=>rfl)
 have h11:Sl 5 Cpl.cells H19 w3 (exT v1 v2 d1 g1 s1 d2 g2 s2 w1 w2 w3).cpls:=hS19.ay 12 rfl (fun _=>rfl)
 have h12:Sl 1 (one u64) H19 w5 ([1,1]:List Nat):=hS19.ay 16 rfl (fun _=>rfl)
 have h13:Sl 2 ntc H19 w6 [lA [40],(0,0)]:=hS19.ay 17 rfl (fun _=>rfl)
 have hRo:(⟨[1,1],1,0⟩:Reg).Ok:=⟨by decide,by decide,by decide,by decide⟩
 have hKo:∀x∈([lA [40],(0,0)]:List Nt),Nt.Ok x:=by
  intro x hx
  simp only[eF,eE,or_false]at hx
  rcases hx with rfl|rfl<;>exact⟨by decide,by decide⟩
 refine⟨v1,v2,d1,g1,s1,d2,g2,s2,w1,w2,w3,w5,w6,rfl,⟨⟨h9,?_,h10,?_,h11,by simp[snT,exT],by simp[snT,exT],by simp[snT,exT]⟩,⟨h12,hRo⟩,⟨h13,by simp[snT],hKo⟩⟩,hS19.forget⟩
 ·intro r hr
  simp only[snT,exT,eF,eE,or_false]at hr
  rcases hr with rfl|rfl
  ·exact⟨h1,by simp⟩
  ·exact⟨h2,by simp⟩
 ·intro d hd
  simp only[snT,exT,eF,eE,or_false]at hd
  rcases hd with rfl|rfl
  ·exact⟨h5,fun s hs=>by rw[dX.1 hs];exact⟨h4,fun g hg=>by rw[dX.1 hg];exact⟨h3,by simp⟩,by simp⟩,by simp⟩
  ·exact⟨h8,fun s hs=>by rw[dX.1 hs];exact⟨h7,fun g hg=>by rw[dX.1 hg];exact⟨h6,by simp⟩,by simp⟩,by simp⟩
section
variable (v1 v2 d1 g1 s1 d2 g2 s2 a b c sv kv:Value)
theorem c4i:snE (snT v1 v2 d1 g1 s1 d2 g2 s2 a b c sv kv)=0:=by kernel_rfl
theorem c1M:a4D (snT v1 v2 d1 g1 s1 d2 g2 s2 a b c sv kv)=some ((0,40),[0],(1,40)):=by kernel_rfl
theorem c2x:mP (snT v1 v2 d1 g1 s1 d2 g2 s2 a b c sv kv) (1,40)=[0]:=by kernel_rfl
theorem b3h:a7M (snT v1 v2 d1 g1 s1 d2 g2 s2 a b c sv kv)=[⟨(0,40),[0],(1,40),0⟩]:=by kernel_rfl
theorem c4M(cv:Value):vfE (snT v1 v2 d1 g1 s1 d2 g2 s2 a b c sv kv) ⟨(0,40),cv,[0],(1,40),0⟩=0:=by kernel_rfl
theorem b4i(cv:Value):a6l (snT v1 v2 d1 g1 s1 d2 g2 s2 a b c sv kv) ⟨(0,40),cv,[0],(1,40),0⟩=[exA,exB]:=by kernel_rfl
theorem b9O(cv:Value):a4N (snT v1 v2 d1 g1 s1 d2 g2 s2 a b c sv kv) ⟨(0,40),cv,[0],(1,40),0⟩ ⟨exJ.toArray⟩=⟨#[71,114,101,97,116,32,69,50,44,32,67,104,111,105,114,95,116,111,95,71,114,101,97,116,32,116,111,32,67,104,111,105,114,32,69,50,58,32,70,108,117,116,101,95,56]⟩:=by kernel_rfl
theorem b0d:wC (snT v1 v2 d1 g1 s1 d2 g2 s2 a b c sv kv)=0:=by
 unfold wC
 rw[c4i,if_neg (by decide),b3h,if_neg (by decide)]
theorem b3d:rA (snT v1 v2 d1 g1 s1 d2 g2 s2 a b c sv kv)=[⟨(0,40),[0],(1,40),0⟩]:=by
 unfold rA
 rw[b0d,if_pos rfl,b3h]
 simp
theorem b2M:nS ⟨(0,40),[0],(1,40),0⟩=[⟨1,1,0⟩,⟨2,0,0⟩]:=by
 unfold nS a0A
 exact a5h (by
  refine .cons (fun x hx=> ?_) (.cons (fun x hx=>(by cases hx)) .nil)
  simp only[eG,gj,dX]at hx
  subst hx
  unfold zV
  kernel_rfl)
theorem b9M:rC (snT v1 v2 d1 g1 s1 d2 g2 s2 a b c sv kv)=[⟨1,1,0⟩,⟨2,0,0⟩]:=by
 unfold rC
 rw[b3d,ec,fp,dM,←b2M]
 unfold nS
 exact a5h (b8Y _)
theorem c1J:zB (snT v1 v2 d1 g1 s1 d2 g2 s2 a b c sv kv)=0∧a1X (snT v1 v2 d1 g1 s1 d2 g2 s2 a b c sv kv)=some [⟨1,1,0⟩]:=by
 have hE:zB (snT v1 v2 d1 g1 s1 d2 g2 s2 a b c sv kv)=0:=by
  unfold zB
  rw[b0d,if_neg (by decide),b9M,if_neg (by decide)]
 refine⟨hE,?_⟩
 unfold a1X a8W
 rw[hE,b3d,b9M,if_neg (by simp),eG,gj,b2M]
 kernel_rfl
end
theorem zF(hG:Glob gH H):Fn prog 10 [] H fun r H'=>r=.bool true∧St prog H H' []:=by
 refine .dm func10 rfl (by kernel_rfl) (m:=61) rfl fun l hn=> ?_
 simp(disch:=omega) only[↓RA,RZ,simprocAttr]
 refine jF ((b6K ((sR H).gl hG)).mono fun _ _⟨v1,v2,d1,g1,s1,d2,g2,s2,a,b,c,sv,kv,h1,h2,h3⟩=>(⟨_,h1,⟨v1,v2,d1,g1,s1,d2,g2,s2,a,b,c,sv,kv,rfl⟩,h2,h3⟩:∃s:Sn,_=s.v∧(∃v1 v2 d1 g1 s1 d2 g2 s2 a b c sv kv,s=snT v1 v2 d1 g1 s1 d2 g2 s2 a b c sv kv)∧s.In _∧St prog _ _ [])) ?_
 rintro r H1⟨s,rfl,⟨v1,v2,d1,g1,s1,d2,g2,s2,a,b,c,sv,kv,hse⟩,hs,hT1⟩
 have hS1:=(sR H).trans hT1
 simp only[RT]at hS1
 have q1:snE s=0:=by subst hse;exact c4i ..
 have q2:a4D s=some ((0,40),[0],(1,40)):=by subst hse;exact c1M ..
 have q3:∀cv,b4w s (a4D s) cv=⟨(0,40),cv,[0],(1,40),0⟩:=fun cv=>by
  rw[q2]
  unfold b4w
  simp only
  rw[show mP s (1,40)=[0]from by subst hse;exact c2x ..]
  rfl
 have q4:∀cv,vfE s ⟨(0,40),cv,[0],(1,40),0⟩=0:=fun cv=>by subst hse;exact c4M ..
 have q5:∀cv,a6l s ⟨(0,40),cv,[0],(1,40),0⟩=[exA,exB]:=fun cv=>by subst hse;exact b4i ..
 have q6:∀cv,a4N s ⟨(0,40),cv,[0],(1,40),0⟩ ⟨exJ.toArray⟩=⟨#[71,114,101,97,116,32,69,50,44,32,67,104,111,105,114,95,116,111,95,71,114,101,97,116,32,116,111,32,67,104,111,105,114,32,69,50,58,32,70,108,117,116,101,95,56]⟩:=fun cv=>by subst hse;exact b9O ..
 have q7:zB s=0∧a1X s=some [⟨1,1,0⟩]:=by subst hse;exact c1J ..
 have q8:∀cv,b1V s ⟨(0,40),cv,[0],(1,40),0⟩ ⟨exJ.toArray⟩=⟨#[71,114,101,97,116,32,69,50,44,32,67,104,111,105,114,95,116,111,95,71,114,101,97,116,32,116,111,32,67,104,111,105,114,32,69,50,58,32,70,108,117,116,101,95,56]⟩:=fun cv=>by unfold b1V;rw[if_pos (q4 cv),q6]
 clear hse
 have hS0:=hS1
 have hG2:=hS0.gl hG
 simp(disch:=omega) only[↓RA,RZ,simprocAttr]
 refine(sR H1).eNew 10 [(.string ⟨#[]⟩),(.slice none 0 0),(.slice none 0 0),(.slice none 0 0),(.slice none 0 0),(.int .u64 0),(.int .u64 0),(.slice none 0 0),I 0,I 0] rfl rfl rfl qE fun A1 H2 hS2=> ?_
 simp only[RT]at hS2
 simp(disch:=omega) only[↓RA,RB,simprocAttr,hn]
 refine hS2.aa 0 rfl [(.string s.o.name),s.o.rv,s.o.dv,s.o.cv,s.sv,(.int .u64 s.rg.cpl),(.int .u64 s.rg.off),s.kv,I s.p.1,I s.p.2] rfl (by simp[OC,(hS2.sl hs.o.1).cells.2.1,(hS2.sl hs.o.2.2.1).cells.2.1,(hS2.sl hs.o.2.2.2.2.1).cells.2.1,(hS2.sl hs.rg.1).cells.2.1,(hS2.sl hs.ks.sl).cells.2.1]) qE (by simp) fun H3 hS3=> ?_
 simp only[RT]at hS3
 simp(disch:=omega) only[↓RA,RZ,simprocAttr,hn,hS3.ae 0 rfl]
 have hL:=b8h (hS3.gl hG2) s (hs.aj hS3)
 simp only[q3,q1]at hL
 rw[q2]at hL
 simp only[Option.isSome_some]at hL
 refine jF (hL) ?_
 rintro r H4⟨cv,rfl,hT2⟩
 have hS4:=hS3.trans hT2
 simp only[RT]at hS4
 simp(disch:=omega) only[↓RA,RZ,simprocAttr,hn]
 refine hS4.eNew 6 [I 0,I 0,(.slice none 0 0),I 0,I 0,I 0] rfl rfl rfl qP fun A2 H5 hS5=> ?_
 simp only[RT]at hS5
 simp(disch:=omega) only[↓RA,RB,simprocAttr,hn]
 refine hS5.aa 2 rfl [I 0,I 40,cv,I 1,I 40,I 0] rfl (by simp[OC,(hS5.rd 1 rfl).cells.2.1]) qP (by simp) fun H6 hS6=> ?_
 simp only[RT]at hS6
 simp(disch:=omega) only[↓RA,RZ,simprocAttr,hn,hS6.ae 0 rfl,hS6.ae 2 rfl]
 have hT:=c0Z (hS6.gl hG2) s (hs.aj hS6) ⟨(0,40),cv,[0],(1,40),0⟩ ⟨hS6.ay 1 rfl (fun _=>rfl),by simp⟩ (by simp) ⟨exJ.toArray⟩ (by decide) (fun _=>by rw[q5];exact c5P)
 rw[q8,q4]at hT
 refine hS6.cF (hT) fun H7 hS7=> ?_
 simp(disch:=omega) only[↓RA,RZ,simprocAttr,hn,hS7.ae 0 rfl]
 have hQ:=b1x (hS7.gl hG2) s (hs.aj hS7)
 rw[q7.1,q7.2]at hQ
 simp only[Option.isSome_some,ef]at hQ
 refine jF (hQ) ?_
 rintro r H8⟨lv,rfl,hT4⟩
 have hS8:=hS7.trans hT4
 simp only[RT]at hS8
 simp(disch:=omega) only[↓RA,RZ,simprocAttr,hn]
 simp(disch:=omega) only[↓RA,RZ,simprocAttr,hn,(hS8.ay 3 rfl (fun _=>rfl)).len]
 have hlx:Sl 3 Ctl.cells H8 lv [⟨1,1,0⟩]:=hS8.ay 3 rfl (fun _=>rfl)
 have hid:∀t,xD (some 3) prog t lv (.int .i64 0)=some (kO lv 3 0 0):=fun t=>hlx.idx t .i64 0 (by decide) (by decide)
 have hlA:oP (some true) (some 3) H8 (kO lv 3 0 0)=some (.agg #[I 1,I 1,I 0]):=hlx.ae 0 (by decide)
 simp(disch:=omega) only[↓RA,RZ,simprocAttr,hn,b6z,d0D,hid,hlA]
 exact hS0.trans hS8.forget
end Go.Ds
namespace Go.Ds
open Go.Proofs Go.Proofs.Tryz
variable {H:Heap}
set_option maxRecDepth 10000
def nbL(L:Nat)(vs:List Value):Nat→Prop:=fun B=>nb vs B∧L≤B
theorem Kept.bK{H H':Heap}{vs vs':List Value}(L:Nat)(h:Kept H (nb vs) H' (nb vs')):Kept H (nbL L vs) H' (nbL L vs'):=fun B hX hB=>⟨(h B hX.1 hB).1,(h B hX.1 hB).2,hX.2⟩
theorem Kept.du{H H':Heap}{Lc:Nat}{vs':List Value}{L:Nat}(hl:L≤Lc)(h:Kept H (fun B=>Lc≤B) H' (nb vs')):Kept H (fun B=>Lc≤B) H' (nbL L vs'):=fun B hX hB=>⟨(h B hX hB).1,(h B hX hB).2,dZ hl hX⟩
theorem Slx.both{α:Type}{n:Nat}{cel:α→List Value}{v:Value}{xs:List α}{X Y:Nat→Prop}(h:Slx n cel H X v xs)(h2:Slx n cel H Y v xs):Slx n cel H (fun B=>X B∧Y B) v xs:=⟨h.1,fun B hb=>⟨h.2 B hb,h2.2 B hb⟩⟩
theorem Kept.snd{H:Heap}{vs:List Value}{L:Nat}:Kept H (nbL L vs) H (fun B=>L≤B):=fun B hX _=>⟨rfl,hX.2⟩
structure Org.Ix(H:Heap)(X:Nat→Prop)(o:Org):Prop where
 rs:Slx 6 Rk.cells H X o.rv o.ranks
 ri:∀r∈o.ranks,r.Ix H X
 ds:Slx 5 Dvn.cells H X o.dv o.dvs
 di:∀d∈o.dvs,d.Ix H X
 cs:Slx 5 Cpl.cells H X o.cv o.cpls
 rl:o.ranks.length<1000000000
 dl:o.dvs.length<1000000000
 cl:o.cpls.length<1000000000
theorem Org.Ix.step{H H':Heap}{X Y:Nat→Prop}{o:Org}(h:o.Ix H X)(hk:Kept H X H' Y):o.Ix H' Y:=⟨h.rs.step hk,fun r hr=>(h.ri r hr).step hk,h.ds.step hk,fun d hd=>(h.di d hd).step hk,h.cs.step hk,h.rl,h.dl,h.cl⟩
theorem Org.Ix.in{H:Heap}{X:Nat→Prop}{o:Org}(h:o.Ix H X):o.In H:=⟨h.rs.1,fun r hr=>(h.ri r hr).in,h.ds.1,fun d hd=>(h.di d hd).in,h.cs.1,h.rl,h.dl,h.cl⟩
theorem b1N(hG:Glob gH H)(p:Pln)(hp:p.In H)(hk:p.Ok)(hf:tF p=true):Fn prog 43 [.agg #[p.rv,p.dv,p.cv]] H fun r H'=>
 ∃o:Org,r=.agg #[.string o.name,o.rv,o.dv,o.cv]∧o.Ix H' (fun B=>H.length≤B)∧Made p o∧St prog H H' []:=by
 have hl1:=hp.2.2.2.2.1
 have hl2:=hp.2.2.2.2.2.1
 have hl3:=hp.2.2.2.2.2.2
 unfold tF at hf
 simp only[dy,decide_eq_true_eq,dO]at hf
 obtain⟨⟨⟨⟨⟨f1,f2⟩,f3⟩,f4⟩,f5⟩,f6⟩:=hf
 refine .aN func43 rfl (by kernel_rfl) (m:=153) rfl fun l hn g0=> ?_
 simp(disch:=omega) only[↓RA,RB,simprocAttr,g0]
 refine(sR H).eNew 3 [p.rv,p.dv,p.cv] rfl rfl (by simp[((sR H).sl hp.1).cells.2.1,((sR H).sl hp.2.1).cells.2.1,((sR H).sl hp.2.2.2.1).cells.2.1]) c0n fun A1 H1 hS1=> ?_
 simp only[RT]at hS1
 simp(disch:=omega) only[↓RA,RZ,simprocAttr]
 refine hS1.eNew 4 [(.string ⟨#[]⟩),(.slice none 0 0),(.slice none 0 0),(.slice none 0 0)] rfl rfl rfl yG fun A2 H2 hS2=> ?_
 simp only[RT]at hS2
 simp(disch:=omega) only[↓RA,RZ,simprocAttr,c4G]
 refine hS2.eNew 4 [(.string ⟨#[]⟩),(.slice none 0 0),(.slice none 0 0),(.slice none 0 0)] rfl rfl rfl yG fun A3 H3 hS3=> ?_
 simp only[RT]at hS3
 simp(disch:=omega) only[↓RA,RB,simprocAttr,hn]
 refine hS3.aa 2 rfl [(.string ⟨#[79,114,103,97,110]⟩),(.slice none 0 0),(.slice none 0 0),(.slice none 0 0)] rfl rfl yG (by simp) fun H4 hS4=> ?_
 simp only[RT]at hS4
 simp(disch:=omega) only[↓RA,RB,simprocAttr]
 have hS5:=hS4.nil 5
 simp only[RT]at hS5
 refine Wp.al (fun n l H'=>l.length=153∧get l 1=(ptr A1 0 3)∧get l 2=(ptr A2 0 4)∧get l 3=(ptr A3 0 4)∧∃(i:Nat)(rks:List Rk)(rv:Value),(n+i=p.ranks.length∧rks.length=i∧(∀j,j<rks.length→RkOk j (jB rks j))∧∀r∈rks,r.Ix H' (nbL H.length [ptr A1 0 3,ptr A2 0 4,ptr A3 0 4,rv]))∧get l 4=I i∧St prog H H' [⟨ptr A1 0 3,0,[p.rv,p.dv,p.cv]⟩,⟨ptr A2 0 4,0,[(.string ⟨#[]⟩),(.slice none 0 0),(.slice none 0 0),(.slice none 0 0)]⟩,⟨ptr A3 0 4,0,[.string ⟨#[79,114,103,97,110]⟩,rv,.slice none 0 0,.slice none 0 0]⟩,⟨rv,6,rks.flatMap Rk.cells⟩]) p.ranks.length ?_ ?_
 ·simp(disch:=omega) only[RB,RC,simprocAttr,hn]
  exact⟨0,[],.slice none 0 0,⟨by omega,rfl,fun j hj=>absurd hj (ed _),by simp⟩,rfl,hS5⟩
 rintro n l H5⟨hn,g1,g2,g3,i,rks,rv,⟨hi,hrl,hro,hrx⟩,g4,hS6⟩
 simp(disch:=omega) only[↓RA,RZ,simprocAttr,hn,g1,g4,hS6.ld 0 rfl,(hS6.sl hp.1).len]
 refine jA (fun q1=> ?_) (fun q1=> ?_)
 ·obtain⟨B,hBB,hS7⟩:=hS6.aA (os:=[⟨ptr A1 0 3,0,_⟩,⟨ptr A2 0 4,0,_⟩,⟨ptr A3 0 4,0,_⟩,⟨rv,6,_⟩])
  simp(disch:=omega) only[↓RA,RC,simprocAttr,q1]
  refine Wp.aK kP [(1,9),(1,10)] (by kernel_rfl) (by kernel_rfl) ?_
  simp(disch:=omega) only[↓RA,RZ,simprocAttr,hn,g1,g3,g4,hS7.ld 2 rfl,hS7.ld 0 rfl,((hS6.ab hBB hS7).sl hp.1).idx,((hS6.ab hBB hS7).sl hp.1).ae,RPl.cells]
  refine jF (b5n (jB p.ranks i) (hk.1 _ (jE (by omega))) i (by omega)) ?_
  rintro r H6⟨wv,rfl,hT1⟩
  have hS8:=hS7.trans hT1
  simp only[RT]at hS8
  have hwe:(List.range (1+(jB p.ranks i).pipes%25)).map (fun j=>I ((jB p.ranks i).wind j))=((List.range (1+(jB p.ranks i).pipes%25)).map fun j=>(((jB p.ranks i).wind j:Nat):Int)).flatMap (one I):=by rw[mM,iz];rfl
  rw[hwe]at hS8
  simp(disch:=omega) only[↓RA,RB,simprocAttr,hn]
  refine hS8.ai [(.string ⟨#[82,UInt8.ofNat (48+i)]⟩),(.string (jB vQ ((jB p.ranks i).tone%3))),I (jB nM ((jB p.ranks i).feet%16)).1,I (jB nM ((jB p.ranks i).feet%16)).2,I (jB p.ranks i).first,wv] c6b c8b rfl rfl (by first|(simp[];done)|simp[Value.cells]) (by first|(simp[];done)|simp[Value.cells]) (by simp[OC,(hS8.rd 4 rfl).cells.2.1]) (by decide) (by decide) fun w1 H7 hS9=> ?_
  simp only[RT]at hS9
  simp(disch:=omega) only[↓RA,RZ,simprocAttr,hn]
  refine hS9.aq 3 rfl (hS9.rd 5 rfl) c6b (by rw[jK (n:=6) (cel:=Rk.cells) (fun _=>rfl)];simp;omega) fun w2 H8 hS10=> ?_
  simp only[RT]at hS10
  simp(disch:=omega) only[↓RA,RZ,simprocAttr,hn,g3]
  refine hS10.aa 2 rfl [w2] (by rw[(hS10.rd 3 rfl).cells.1]) (by simp[(hS10.rd 3 rfl).cells.2.1]) c7h (by simp) fun H9 hS11=> ?_
  simp only[RT]at hS11
  simp(disch:=omega) only[↓RA,RZ,simprocAttr,hn,g1,g2,g3,g4,hS8.ld 2 rfl,hS9.ld 2 rfl]
  have hxn:=(hS6.ab hBB hS11).bX (cel:=one I) 4 rfl (fun _=>rfl)
  have hxw:=(hS11.dp (cel:=one I) (os':=[⟨ptr A1 0 3,0,_⟩,⟨ptr A2 0 4,0,_⟩,⟨ptr A3 0 4,0,_⟩,⟨w2,6,_⟩]) 4 rfl (fun _=>rfl) [0,1,2,3] (by decide) rfl).both hxn
  have hS12:=hS11.pick (os':=[⟨ptr A1 0 3,0,_⟩,⟨ptr A2 0 4,0,_⟩,⟨ptr A3 0 4,0,_⟩,⟨w2,6,_⟩]) [0,1,2,3] (by decide) rfl
  have hkp:=(hS12.kept hBB).bK H.length
  have hpo:=hk.1 _ (jE (xs:=p.ranks) (j:=i) (by omega))
  have hro1:RkOk rks.length ⟨nm 82 i,jB vQ ((jB p.ranks i).tone%3),(jB nM ((jB p.ranks i).feet%16)).1,(jB nM ((jB p.ranks i).feet%16)).2,(jB p.ranks i).first,wv,(List.range (1+(jB p.ranks i).pipes%25)).map fun j=>(((jB p.ranks i).wind j:Nat):Int)⟩:=by
   refine⟨by rw[hrl],jE (fm _ (by decide)),jE (fm _ (by decide)),⟨hpo.2.2.1,hpo.2.2.2.1⟩,by simp;omega,by simp;omega,?_⟩
   intro x hx
   obtain⟨j,_,rfl⟩:=dP.1 hx
   have:=hpo.wind j
   omega
  refine⟨n-1,by omega,i+1,rks++[_],w2,⟨by omega,by simp[hrl],xW hro hro1,a7f (fun r hr=>(hrx r hr).step hkp) ⟨hxw,by simp;omega⟩⟩,by simp,?_⟩
  rw[uD]
  exact(hS6.ab hBB hS12)
 simp(disch:=omega) only[↓RA,RZ,simprocAttr,q1]
 have hri:rks.length=p.ranks.length:=by omega
 obtain⟨C,hBC,hS13⟩:=hS6.aA (os:=[⟨ptr A1 0 3,0,_⟩,⟨ptr A2 0 4,0,_⟩,⟨ptr A3 0 4,0,_⟩,⟨rv,6,_⟩])
 have hS14:=hS13.nil 4
 simp only[RT]at hS14
 refine Wp.al (fun n l H'=>l.length=153∧get l 1=(ptr A1 0 3)∧get l 2=(ptr A2 0 4)∧get l 3=(ptr A3 0 4)∧∃(m:Nat)(dvs:List Dvn)(dv:Value),(n+m=p.dvs.length∧dvs.length=m∧(∀j,j<dvs.length→DvOk rks.length j (jB dvs j)∧(jB dvs j).stops.length=(jB p.dvs j).stops.length)∧∀d∈dvs,d.Ix H' (nbL H.length [ptr A1 0 3,ptr A2 0 4,ptr A3 0 4,rv,dv]))∧get l 5=I m∧St prog C H' [⟨ptr A1 0 3,0,[p.rv,p.dv,p.cv]⟩,⟨ptr A2 0 4,0,[(.string ⟨#[]⟩),(.slice none 0 0),(.slice none 0 0),(.slice none 0 0)]⟩,⟨ptr A3 0 4,0,[.string ⟨#[79,114,103,97,110]⟩,rv,dv,.slice none 0 0]⟩,⟨rv,6,rks.flatMap Rk.cells⟩,⟨dv,5,dvs.flatMap Dvn.cells⟩]) p.dvs.length ?_ ?_
 ·simp(disch:=omega) only[RB,RC,simprocAttr,hn,g1,g2,g3]
  exact⟨0,[],.slice none 0 0,⟨by omega,rfl,fun j hj=>absurd hj (ed _),by simp⟩,rfl,hS14⟩
 rintro n l H10⟨hn,g1,g2,g3,m,dvs,dv,⟨hm,hdl,hdo,hdx⟩,g5,hS15⟩
 simp(disch:=omega) only[↓RA,RZ,simprocAttr,hn,g1,g5,hS15.ld 0 rfl,((hS6.ab hBC hS15).sl hp.2.1).len]
 refine jA (fun q2=> ?_) (fun q2=> ?_)
 ·have hbk:=hk.2.1 _ (jE (xs:=p.dvs) (j:=m) (by omega))
  have hbi:=hp.2.2.1 _ (jE (xs:=p.dvs) (j:=m) (by omega))
  have hb6:=f6 _ (jE (xs:=p.dvs) (j:=m) (by omega))
  have t1:((jB p.dvs m).low:Int).tmod 12=(((jB p.dvs m).low%12:Nat):Int):=(fg _ _).symm
  have t2:((jB p.dvs m).keys:Int).tmod 9=(((jB p.dvs m).keys%9:Nat):Int):=(fg _ _).symm
  have hb1:=hbk.1
  have hb2:=hbk.2.1
  obtain⟨D,hBD,hS16⟩:=hS15.aA (os:=[⟨ptr A1 0 3,0,_⟩,⟨ptr A2 0 4,0,_⟩,⟨ptr A3 0 4,0,_⟩,⟨rv,6,_⟩,⟨dv,5,_⟩])
  simp(disch:=omega) only[↓RA,RZ,simprocAttr,hn,g1,g5,hS16.ld 0 rfl,((hS6.ab hBC (hS15.ab hBD hS16)).sl hp.2.1).idx,((hS6.ab hBC (hS15.ab hBD hS16)).sl hp.2.1).ae,Brd.cells,q2]
  refine hS16.eNew 4 [(.int .u8 0),(.int .u8 0),(.bool false),(.slice none 0 0)] rfl rfl rfl b3y fun A4 H11 hS17=> ?_
  simp only[RT]at hS17
  simp(disch:=omega) only[↓RA,RZ,simprocAttr,hn,q2]
  refine hS17.aa 5 rfl [(.int .u8 (jB p.dvs m).low),(.int .u8 (jB p.dvs m).keys),(.bool (jB p.dvs m).pedal),(jB p.dvs m).sv] rfl (by simp[OC,((hS6.ab hBC (hS15.ab hBD hS17)).sl (hp.2.2.1 (jB p.dvs m) (jE (by omega))).1).cells.2.1]) b3y (by simp) fun H12 hS18=> ?_
  simp only[RT]at hS18
  simp(disch:=omega) only[↓RA,RZ,simprocAttr,hn,g5,hS18.ld 5 rfl,q2,t1]
  refine hS18.ai [_] b2X b2K rfl rfl (by simp[Value.cells]) rfl rfl (by decide) (by decide) fun w3 H13 hS19=> ?_
  simp only[RT]at hS19
  simp(disch:=omega) only[↓RA,RZ,simprocAttr,hn,yA (hS19.rd 6 rfl) oY.1 oY.2.1 oY.2.2,uY,q2]
  simp(disch:=omega) only[↓RA,RZ,simprocAttr,hn,hS19.ld 5 rfl,q2,t2]
  simp(disch:=omega) only[↓RA,RZ,simprocAttr,hn,a5a,a9y,q2]
  refine hS19.eNew 5 [(.string ⟨#[]⟩),(.bool false),I 0,I 0,(.slice none 0 0)] rfl rfl rfl rR fun A5 H14 hS20=> ?_
  simp only[RT]at hS20
  simp(disch:=omega) only[↓RA,RZ,simprocAttr,hn,q2]
  refine hS20.aa 7 rfl [(.string ⟨#[68,UInt8.ofNat (48+(m:Int)).toNat]⟩),(.bool (jB p.dvs m).pedal),I (36+((jB p.dvs m).low%12:Nat)),I (36+((jB p.dvs m).low%12:Nat)+((jB p.dvs m).keys%9:Nat)),(.slice none 0 0)] rfl rfl rR (by simp) fun H15 hS21=> ?_
  simp only[RT]at hS21
  simp(disch:=omega) only[↓RA,RZ,simprocAttr,q2]
  have hS22:=hS21.pick (os':=[⟨ptr A1 0 3,0,_⟩,⟨ptr A2 0 4,0,_⟩,⟨ptr A3 0 4,0,_⟩,⟨rv,6,_⟩,⟨dv,5,_⟩,⟨ptr A4 0 4,0,_⟩,⟨ptr A5 0 5,0,_⟩]) [0,1,2,3,4,5,7] (by decide) rfl
  have hS23:=hS22.nil 3
  simp only[RT]at hS23
  refine Wp.al (fun n l H'=>l.length=153∧get l 1=(ptr A1 0 3)∧get l 2=(ptr A2 0 4)∧get l 3=(ptr A3 0 4)∧get l 5=I m∧get l 6=(ptr A4 0 4)∧get l 8=(ptr A5 0 5)∧∃(k:Nat)(sts:List Stp)(sv:Value),(n+k=(jB p.dvs m).stops.length∧sts.length=k∧(∀j,j<sts.length→StpOk rks.length (36+((jB p.dvs m).low%12:Nat)) (36+((jB p.dvs m).low%12:Nat)+((jB p.dvs m).keys%9:Nat)) j (jB sts j))∧∀s∈sts,s.Ix H' (nbL H.length [ptr A1 0 3,ptr A2 0 4,ptr A3 0 4,rv,dv,ptr A4 0 4,ptr A5 0 5,sv]))∧get l 9=I k∧St prog D H' [⟨ptr A1 0 3,0,[p.rv,p.dv,p.cv]⟩,⟨ptr A2 0 4,0,[(.string ⟨#[]⟩),(.slice none 0 0),(.slice none 0 0),(.slice none 0 0)]⟩,⟨ptr A3 0 4,0,[.string ⟨#[79,114,103,97,110]⟩,rv,dv,.slice none 0 0]⟩,⟨rv,6,rks.flatMap Rk.cells⟩,⟨dv,5,dvs.flatMap Dvn.cells⟩,⟨ptr A4 0 4,0,[(.int .u8 (jB p.dvs m).low),(.int .u8 (jB p.dvs m).keys),(.bool (jB p.dvs m).pedal),(jB p.dvs m).sv]⟩,⟨ptr A5 0 5,0,[.string ⟨#[68,UInt8.ofNat (48+(m:Int)).toNat]⟩,.bool (jB p.dvs m).pedal,I (36+((jB p.dvs m).low%12:Nat)),I (36+((jB p.dvs m).low%12:Nat)+((jB p.dvs m).keys%9:Nat)),sv]⟩,⟨sv,4,sts.flatMap Stp.cells⟩]) (jB p.dvs m).stops.length ?_ ?_
  ·simp(disch:=omega) only[RB,RC,simprocAttr,hn,g1,g2,g3,g5]
   exact⟨0,[],.slice none 0 0,⟨by omega,rfl,fun j hj=>absurd hj (ed _),by simp⟩,rfl,hS23⟩
  rintro n l H16⟨hn,g1,g2,g3,g5,g6,g8,k,sts,sv,⟨hj,hsl,hso,hsx⟩,g9,hS24⟩
  simp(disch:=omega) only[↓RA,RZ,simprocAttr,hn,g6,g9,hS24.ld 5 rfl,((hS6.ab hBC (hS15.ab hBD hS24)).sl (hp.2.2.1 (jB p.dvs m) (jE (by omega))).1).len]
  refine jA (fun q3=> ?_) (fun q3=> ?_)
  ·obtain⟨E,hBE,hS25⟩:=hS24.aA (os:=[⟨ptr A1 0 3,0,_⟩,⟨ptr A2 0 4,0,_⟩,⟨ptr A3 0 4,0,_⟩,⟨rv,6,_⟩,⟨dv,5,_⟩,⟨ptr A4 0 4,0,_⟩,⟨ptr A5 0 5,0,_⟩,⟨sv,4,_⟩])
   simp(disch:=omega) only[↓RA,RC,simprocAttr,q3]
   refine Wp.aK kP [(1,13),(1,14)] (by kernel_rfl) (by kernel_rfl) ?_
   simp(disch:=omega) only[↓RA,RZ,simprocAttr,hn,g3,g6,g8,g9,hS25.ld 6 rfl,hS25.ld 2 rfl,hS25.ae 6 rfl,hS25.ld 5 rfl,((hS6.ab hBC (hS15.ab hBD (hS24.ab hBE hS25))).sl (hp.2.2.1 (jB p.dvs m) (jE (by omega))).1).idx,((hS6.ab hBC (hS15.ab hBD (hS24.ab hBE hS25))).sl (hp.2.2.1 (jB p.dvs m) (jE (by omega))).1).ae,Pul.cells]
   have hSb:=hS25
   have hSbU:=(hS6.ab hBC (hS15.ab hBD (hS24.ab hBE hS25)))
   refine jF (c1k ((hS6.ab hBC (hS15.ab hBD (hS24.ab hBE hS25))).gl hG) rv rks (hS25.ay 3 rfl (fun _=>rfl)) (by omega) (by omega) (fun j hj=>(hro j hj).feet) (36+((jB p.dvs m).low%12:Nat)) (36+((jB p.dvs m).low%12:Nat)+((jB p.dvs m).keys%9:Nat)) (by omega) (by omega) (by omega) (jB (jB p.dvs m).stops k) (hbk.2.2 _ (jE (by omega))) k (by omega)) ?_
   rintro r H17⟨s,rfl,hsx1,hok,hT2⟩
   have hS26:=hS25.trans hT2
   simp only[RT]at hS26
   have hkE:=(hS26.kept hBE).bK H.length
   have hkN:=(hSb.bq (H':=H17)).du (L:=H.length) hSbU.len
   obtain⟨F,hBF,hS27⟩:=hS26.aA (os:=[⟨ptr A1 0 3,0,_⟩,⟨ptr A2 0 4,0,_⟩,⟨ptr A3 0 4,0,_⟩,⟨rv,6,_⟩,⟨dv,5,_⟩,⟨ptr A4 0 4,0,_⟩,⟨ptr A5 0 5,0,_⟩,⟨sv,4,_⟩])
   simp(disch:=omega) only[↓RA,RB,simprocAttr,hn]
   refine hS27.ai [(.string s.name),I s.num,I s.den,s.gv] b8T c4k rfl rfl (by first|(simp[];done)|simp[Value.cells]) (by first|(simp[];done)|simp[Value.cells]) (by simp[OC,hsx1.1.1.cells.2.1]) (by decide) (by decide) fun w4 H18 hS28=> ?_
   simp only[RT]at hS28
   simp(disch:=omega) only[↓RA,RZ,simprocAttr,hn]
   refine hS28.aq 7 rfl (hS28.rd 8 rfl) b8T (by rw[jK (n:=4) (cel:=Stp.cells) (fun _=>rfl)];simp;omega) fun w5 H19 hS29=> ?_
   simp only[RT]at hS29
   simp(disch:=omega) only[↓RA,RZ,simprocAttr,hn,g8]
   refine hS29.aa 6 rfl [w5] (by rw[(hS29.rd 7 rfl).cells.1]) (by simp[(hS29.rd 7 rfl).cells.2.1]) c4b (by simp) fun H20 hS30=> ?_
   simp only[RT]at hS30
   simp(disch:=omega) only[↓RA,RZ,simprocAttr,hn,g1,g2,g3,g5,g6,g8,g9,hS27.ld 6 rfl,hS28.ld 6 rfl]
   have hS31:=hS30.pick (os':=[⟨ptr A1 0 3,0,_⟩,⟨ptr A2 0 4,0,_⟩,⟨ptr A3 0 4,0,_⟩,⟨rv,6,_⟩,⟨dv,5,_⟩,⟨ptr A4 0 4,0,_⟩,⟨ptr A5 0 5,0,_⟩,⟨w5,4,_⟩]) [0,1,2,3,4,5,6,7] (by decide) rfl
   have hkF:=(hS31.kept hBF).bK H.length
   refine⟨(jB p.dvs m).stops.length-(k+1),by omega,k+1,sts++[s],_,⟨by omega,by simp[hsl],xW hso (by rw[hsl];exact hok),a7f (fun s hs=>((hsx s hs).step hkE).step hkF) ((hsx1.step hkN).step hkF)⟩,by simp,?_⟩
   rw[uD]
   exact(hS24.ab hBE (hS26.ab hBF hS31))
  obtain⟨G,hBG,hS32⟩:=hS24.aA (os:=[⟨ptr A1 0 3,0,_⟩,⟨ptr A2 0 4,0,_⟩,⟨ptr A3 0 4,0,_⟩,⟨rv,6,_⟩,⟨dv,5,_⟩,⟨ptr A4 0 4,0,_⟩,⟨ptr A5 0 5,0,_⟩,⟨sv,4,_⟩])
  simp(disch:=omega) only[↓RA,RZ,simprocAttr,hn,g3,g8,hS32.ld 2 rfl,hS32.ae 6 rfl,q3]
  refine hS32.ai [(.string ⟨#[68,UInt8.ofNat (48+(m:Int)).toNat]⟩),(.bool (jB p.dvs m).pedal),I (36+((jB p.dvs m).low%12:Nat)),I (36+((jB p.dvs m).low%12:Nat)+((jB p.dvs m).keys%9:Nat)),sv] c5X c8K rfl rfl (by first|(simp[];done)|simp[Value.cells]) (by first|(simp[];done)|simp[Value.cells]) (by simp[OC,(hS32.rd 7 rfl).cells.2.1]) (by decide) (by decide) fun w6 H21 hS33=> ?_
  simp only[RT]at hS33
  simp(disch:=omega) only[↓RA,RZ,simprocAttr,hn,q3]
  refine hS33.aq 4 rfl (hS33.rd 8 rfl) c5X (by rw[jK (n:=5) (cel:=Dvn.cells) (fun _=>rfl)];simp;omega) fun w7 H22 hS34=> ?_
  simp only[RT]at hS34
  simp(disch:=omega) only[↓RA,RZ,simprocAttr,hn,g3,q3]
  refine hS34.aa 2 rfl [w7] (by rw[(hS34.rd 4 rfl).cells.1]) (by simp[(hS34.rd 4 rfl).cells.2.1]) c8i (by simp) fun H23 hS35=> ?_
  simp only[RT]at hS35
  simp(disch:=omega) only[↓RA,RZ,simprocAttr,hn,g1,g2,g3,g5,q3]
  have hxm:=(hS6.ab hBC (hS15.ab hBD (hS24.ab hBG hS35))).bX (cel:=Stp.cells) 7 rfl (fun _=>rfl)
  have hxv:=(hS35.dp (cel:=Stp.cells) (os':=[⟨ptr A1 0 3,0,_⟩,⟨ptr A2 0 4,0,_⟩,⟨ptr A3 0 4,0,_⟩,⟨rv,6,_⟩,⟨w7,5,_⟩]) 7 rfl (fun _=>rfl) [0,1,2,3,4] (by decide) rfl).both hxm
  have hS36:=hS35.pick (os':=[⟨ptr A1 0 3,0,_⟩,⟨ptr A2 0 4,0,_⟩,⟨ptr A3 0 4,0,_⟩,⟨rv,6,_⟩,⟨w7,5,_⟩]) [0,1,2,3,4] (by decide) rfl
  have hkG:=(hS36.kept hBG).bK H.length
  have hkD:=((hS24.ab hBG hS36).kept hBD).bK H.length
  have hnm:(⟨#[68,UInt8.ofNat (48+(m:Int)).toNat]⟩:ByteArray)=nm 68 m:=by rw[show(48+(m:Int)).toNat=48+m by omega];rfl
  have hdi:Dvn.Ix H23 (nbL H.length [ptr A1 0 3,ptr A2 0 4,ptr A3 0 4,rv,w7]) ⟨⟨#[68,UInt8.ofNat (48+(m:Int)).toNat]⟩,(jB p.dvs m).pedal,(36+((jB p.dvs m).low%12:Nat)),(36+((jB p.dvs m).low%12:Nat)+((jB p.dvs m).keys%9:Nat)),sv,sts⟩:=⟨hxv,fun s hs=>(hsx s hs).step hkG,by simp only;omega⟩
  have hdk:DvOk rks.length dvs.length ⟨⟨#[68,UInt8.ofNat (48+(m:Int)).toNat]⟩,(jB p.dvs m).pedal,(36+((jB p.dvs m).low%12:Nat)),(36+((jB p.dvs m).low%12:Nat)+((jB p.dvs m).keys%9:Nat)),sv,sts⟩:=⟨by rw[hdl];exact hnm,by simp only;omega,by simp only;omega,by simp only;omega,by simp only;omega,by simp only;omega,hso⟩
  refine⟨p.dvs.length-(m+1),by omega,m+1,dvs++[_],w7,⟨by omega,by simp[hdl],xW (Q:=fun j d=>DvOk rks.length j d∧d.stops.length=(jB p.dvs j).stops.length) hdo ⟨hdk,by rw[hdl];simp only;omega⟩,a7f (Q:=fun d=>Dvn.Ix H23 (nbL H.length [ptr A1 0 3,ptr A2 0 4,ptr A3 0 4,rv,w7]) d) (fun d hd=>(hdx d hd).step hkD) hdi⟩,by simp,?_⟩
  rw[uD]
  exact(hS15.ab hBD (hS24.ab hBG hS36))
 simp(disch:=omega) only[↓RA,RZ,simprocAttr,hn,g1,hS15.ld 0 rfl,((hS6.ab hBC hS15).sl hp.2.1).len,q2]
 have hdm:dvs.length=p.dvs.length:=by omega
 have hkC:=(hS15.kept hBC).bK H.length
 obtain⟨K,hBK,hS37⟩:=hS15.aA (os:=[⟨ptr A1 0 3,0,_⟩,⟨ptr A2 0 4,0,_⟩,⟨ptr A3 0 4,0,_⟩,⟨rv,6,_⟩,⟨dv,5,_⟩])
 have hS38:=hS37.nil 4
 simp only[RT]at hS38
 refine Wp.al (fun n l H'=>l.length=153∧get l 1=(ptr A1 0 3)∧get l 2=(ptr A2 0 4)∧get l 3=(ptr A3 0 4)∧get l 10=I p.dvs.length∧∃(c:Nat)(cps:List Cpl)(cv:Value),(n+c=p.cpls.length∧cps.length=c∧∀j,j<cps.length→CpOk p.dvs.length j (jB cps j))∧get l 11=I c∧St prog K H' [⟨ptr A1 0 3,0,[p.rv,p.dv,p.cv]⟩,⟨ptr A2 0 4,0,[(.string ⟨#[]⟩),(.slice none 0 0),(.slice none 0 0),(.slice none 0 0)]⟩,⟨ptr A3 0 4,0,[.string ⟨#[79,114,103,97,110]⟩,rv,dv,cv]⟩,⟨rv,6,rks.flatMap Rk.cells⟩,⟨dv,5,dvs.flatMap Dvn.cells⟩,⟨cv,5,cps.flatMap Cpl.cells⟩]) p.cpls.length ?_ ?_
 ·simp(disch:=omega) only[RB,RC,simprocAttr,hn,g1,g2,g3]
  exact⟨0,[],.slice none 0 0,⟨by omega,rfl,fun j hj=>absurd hj (ed _)⟩,rfl,hS38⟩
 rintro n l H24⟨hn,g1,g2,g3,uL,c,cps,cv,⟨hc,hcl,hco⟩,g11,hS39⟩
 simp(disch:=omega) only[↓RA,RZ,simprocAttr,hn,g1,g11,hS39.ld 0 rfl,((hS6.ab hBC (hS15.ab hBK hS39)).sl hp.2.2.2.1).len]
 refine jA (fun q4=> ?_) (fun q4=> ?_)
 ·have hck:=hk.2.2 _ (jE (xs:=p.cpls) (j:=c) (by omega))
  have u1:((jB p.cpls c).src:Int).tmod p.dvs.length=(((jB p.cpls c).src%p.dvs.length:Nat):Int):=(fg _ _).symm
  have u2:((jB p.cpls c).dst:Int).tmod p.dvs.length=(((jB p.cpls c).dst%p.dvs.length:Nat):Int):=(fg _ _).symm
  have u3:(jB p.cpls c).src%p.dvs.length<p.dvs.length:=fm _ (by omega)
  have u4:(jB p.cpls c).dst%p.dvs.length<p.dvs.length:=fm _ (by omega)
  obtain⟨sh,hsh,hsh1,hsh2⟩:∃sh,(jB p.cpls c).shift.tmod 25=sh∧-24≤sh∧sh≤24:=⟨_,rfl,(b7f _).1,(b7f _).2⟩
  have hcs:=hck.1
  have hcd:=hck.2.1
  have hcf:=hck.2.2
  have hnm:(⟨#[67,UInt8.ofNat (48+(c:Int)).toNat]⟩:ByteArray)=nm 67 c:=by rw[show(48+(c:Int)).toNat=48+c by omega];rfl
  simp(disch:=omega) only[↓RA,RZ,simprocAttr,hn,g1,g11,hS39.ld 0 rfl,((hS6.ab hBC (hS15.ab hBK hS39)).sl hp.2.2.2.1).idx,((hS6.ab hBC (hS15.ab hBK hS39)).sl hp.2.2.2.1).ae,Lnk.cells,q4]
  refine hS39.eNew 4 [(.int .u8 0),(.int .u8 0),(.int .i8 0),(.bool false)] rfl rfl rfl b3J fun A6 H25 hS40=> ?_
  simp only[RT]at hS40
  simp(disch:=omega) only[↓RA,RZ,simprocAttr,hn,q4]
  refine hS40.aa 6 rfl [(.int .u8 (jB p.cpls c).src),(.int .u8 (jB p.cpls c).dst),(.int .i8 (jB p.cpls c).shift),(.bool (jB p.cpls c).thr)] rfl rfl b3J (by simp) fun H26 hS41=> ?_
  simp only[RT]at hS41
  simp(disch:=omega) only[↓RA,RZ,simprocAttr,q4]
  refine Wp.aK kP [(7,0),(8,0),(12,0),(13,0),(17,0),(18,0),(21,0)] (by kernel_rfl) (by kernel_rfl) ?_
  simp(disch:=omega) only[↓RA,RZ,simprocAttr,hn,g11]
  refine hS41.ai [_] b2X b2K rfl rfl (by simp[Value.cells]) rfl rfl (by decide) (by decide) fun w8 H27 hS42=> ?_
  simp only[RT]at hS42
  simp(disch:=omega) only[↓RA,RZ,simprocAttr,hn,yA (hS42.rd 7 rfl) oY.1 oY.2.1 oY.2.2,uY]
  simp(disch:=omega) only[↓RA,RZ,simprocAttr,hn,uL,hS42.ld 6 rfl,u1,u2,hsh]
  simp(disch:=omega) only[↓RA,RZ,simprocAttr,a2r]
  refine hS42.eNew 5 [(.string ⟨#[]⟩),I 0,I 0,I 0,(.bool false)] rfl rfl rfl yU fun A7 H28 hS43=> ?_
  simp only[RT]at hS43
  simp(disch:=omega) only[↓RA,RB,simprocAttr,hn]
  refine hS43.aa 8 rfl [(.string ⟨#[67,UInt8.ofNat (48+(c:Int)).toNat]⟩),I (((jB p.cpls c).src%p.dvs.length:Nat):Int),I (((jB p.cpls c).dst%p.dvs.length:Nat):Int),I sh,(.bool (jB p.cpls c).thr)] rfl rfl yU (by simp) fun H29 hS44=> ?_
  simp only[RT]at hS44
  simp(disch:=omega) only[↓RA,RZ,simprocAttr,hn,hS41.ld 6 rfl,hS44.ld 8 rfl]
  refine jY (fun q5=> ?_) (fun q5=> ?_)
  ·simp(disch:=omega) only[↓RA,RZ,simprocAttr,hn,hS44.ld 8 rfl,q5]
   refine jA (fun q6=> ?_) (fun q6=> ?_)
   ·skip
    simp(disch:=omega) only[↓RA,RZ,simprocAttr,hn,q6]
    refine hS44.aa 8 rfl [I 12] rfl rfl tS3 (by simp) fun H30 hS45=> ?_
    simp only[RT]at hS45
    simp(disch:=omega) only[↓RA,RZ,simprocAttr,hn,g3,hS45.ld 2 rfl,hS45.ae 8 rfl,q6]
    refine hS45.ai [(.string ⟨#[67,UInt8.ofNat (48+(c:Int)).toNat]⟩),I (((jB p.cpls c).src%p.dvs.length:Nat):Int),I (((jB p.cpls c).dst%p.dvs.length:Nat):Int),I 12,(.bool (jB p.cpls c).thr)] b0o c1i rfl rfl (by simp[Value.cells]) rfl rfl (by decide) (by decide) fun w9 H31 hS46=> ?_
    simp only[RT]at hS46
    simp(disch:=omega) only[↓RA,RZ,simprocAttr,hn,q6]
    refine hS46.aq 5 rfl (hS46.rd 9 rfl) b0o (by rw[jK (n:=5) (cel:=Cpl.cells) (fun _=>rfl)];simp;omega) fun w10 H32 hS47=> ?_
    simp only[RT]at hS47
    simp(disch:=omega) only[↓RA,RZ,simprocAttr,hn,g3,q6]
    refine hS47.aa 2 rfl [w10] (by rw[(hS47.rd 5 rfl).cells.1]) (by simp[(hS47.rd 5 rfl).cells.2.1]) c1d (by simp) fun H33 hS48=> ?_
    simp only[RT]at hS48
    simp(disch:=omega) only[↓RA,RZ,simprocAttr,hn,g1,g2,g3,uL,g11,q6]
    have hS49:=hS48.pick (os':=[⟨ptr A1 0 3,0,_⟩,⟨ptr A2 0 4,0,_⟩,⟨ptr A3 0 4,0,_⟩,⟨rv,6,_⟩,⟨dv,5,_⟩,⟨w10,5,_⟩]) [0,1,2,3,4,5] (by decide) rfl
    have hcn:CpOk p.dvs.length cps.length ⟨⟨#[67,UInt8.ofNat (48+(c:Int)).toNat]⟩,(((jB p.cpls c).src%p.dvs.length:Nat):Int),(((jB p.cpls c).dst%p.dvs.length:Nat):Int),12,(jB p.cpls c).thr⟩:=⟨by rw[hcl];exact hnm,by simp only;omega,by simp only;omega,by simp only;omega,by simp only;omega⟩
    refine⟨n-1,by omega,c+1,cps++[_],w10,⟨by omega,by simp[hcl],xW hco hcn⟩,by simp,?_⟩
    rw[uD]
    exact hS49
   simp(disch:=omega) only[↓RA,RZ,simprocAttr,hn,g3,hS44.ld 2 rfl,hS44.ae 8 rfl,q6]
   refine hS44.ai [(.string ⟨#[67,UInt8.ofNat (48+(c:Int)).toNat]⟩),I (((jB p.cpls c).src%p.dvs.length:Nat):Int),I (((jB p.cpls c).dst%p.dvs.length:Nat):Int),I sh,(.bool (jB p.cpls c).thr)] b0o c1i rfl rfl (by simp[Value.cells]) rfl rfl (by decide) (by decide) fun w11 H34 hS50=> ?_
   simp only[RT]at hS50
   simp(disch:=omega) only[↓RA,RZ,simprocAttr,hn,q6]
   refine hS50.aq 5 rfl (hS50.rd 9 rfl) b0o (by rw[jK (n:=5) (cel:=Cpl.cells) (fun _=>rfl)];simp;omega) fun w12 H35 hS51=> ?_
   simp only[RT]at hS51
   simp(disch:=omega) only[↓RA,RZ,simprocAttr,hn,g3,q6]
   refine hS51.aa 2 rfl [w12] (by rw[(hS51.rd 5 rfl).cells.1]) (by simp[(hS51.rd 5 rfl).cells.2.1]) c1d (by simp) fun H36 hS52=> ?_
   simp only[RT]at hS52
   simp(disch:=omega) only[↓RA,RZ,simprocAttr,hn,g1,g2,g3,uL,g11,q6]
   have hS53:=hS52.pick (os':=[⟨ptr A1 0 3,0,_⟩,⟨ptr A2 0 4,0,_⟩,⟨ptr A3 0 4,0,_⟩,⟨rv,6,_⟩,⟨dv,5,_⟩,⟨w12,5,_⟩]) [0,1,2,3,4,5] (by decide) rfl
   have hcn:CpOk p.dvs.length cps.length ⟨⟨#[67,UInt8.ofNat (48+(c:Int)).toNat]⟩,(((jB p.cpls c).src%p.dvs.length:Nat):Int),(((jB p.cpls c).dst%p.dvs.length:Nat):Int),sh,(jB p.cpls c).thr⟩:=⟨by rw[hcl];exact hnm,by simp only;omega,by simp only;omega,by simp only;omega,by simp only;omega⟩
   refine⟨n-1,by omega,c+1,cps++[_],w12,⟨by omega,by simp[hcl],xW hco hcn⟩,by simp,?_⟩
   rw[uD]
   exact hS53
  simp(disch:=omega) only[↓RA,RZ,simprocAttr,hn,g3,hS44.ld 2 rfl,hS44.ae 8 rfl,q5]
  refine hS44.ai [(.string ⟨#[67,UInt8.ofNat (48+(c:Int)).toNat]⟩),I (((jB p.cpls c).src%p.dvs.length:Nat):Int),I (((jB p.cpls c).dst%p.dvs.length:Nat):Int),I sh,(.bool (jB p.cpls c).thr)] b0o c1i rfl rfl (by simp[Value.cells]) rfl rfl (by decide) (by decide) fun w13 H37 hS54=> ?_
  simp only[RT]at hS54
  simp(disch:=omega) only[↓RA,RZ,simprocAttr,hn,q5]
  refine hS54.aq 5 rfl (hS54.rd 9 rfl) b0o (by rw[jK (n:=5) (cel:=Cpl.cells) (fun _=>rfl)];simp;omega) fun w14 H38 hS55=> ?_
  simp only[RT]at hS55
  simp(disch:=omega) only[↓RA,RZ,simprocAttr,hn,g3,q5]
  refine hS55.aa 2 rfl [w14] (by rw[(hS55.rd 5 rfl).cells.1]) (by simp[(hS55.rd 5 rfl).cells.2.1]) c1d (by simp) fun H39 hS56=> ?_
  simp only[RT]at hS56
  simp(disch:=omega) only[↓RA,RZ,simprocAttr,hn,g1,g2,g3,uL,g11,q5]
  have hS57:=hS56.pick (os':=[⟨ptr A1 0 3,0,_⟩,⟨ptr A2 0 4,0,_⟩,⟨ptr A3 0 4,0,_⟩,⟨rv,6,_⟩,⟨dv,5,_⟩,⟨w14,5,_⟩]) [0,1,2,3,4,5] (by decide) rfl
  have hcn:CpOk p.dvs.length cps.length ⟨⟨#[67,UInt8.ofNat (48+(c:Int)).toNat]⟩,(((jB p.cpls c).src%p.dvs.length:Nat):Int),(((jB p.cpls c).dst%p.dvs.length:Nat):Int),sh,(jB p.cpls c).thr⟩:=⟨by rw[hcl];exact hnm,by simp only;omega,by simp only;omega,by simp only;omega,by simp only;omega⟩
  refine⟨n-1,by omega,c+1,cps++[_],w14,⟨by omega,by simp[hcl],xW hco hcn⟩,by simp,?_⟩
  rw[uD]
  exact hS57
 simp(disch:=omega) only[↓RA,RZ,simprocAttr,hn,g2,g3,hS39.ae 2 rfl,q4]
 refine hS39.aa 1 rfl [(.string ⟨#[79,114,103,97,110]⟩),rv,dv,cv] rfl (by simp[OC,(hS39.rd 3 rfl).cells.2.1,(hS39.rd 4 rfl).cells.2.1,(hS39.rd 5 rfl).cells.2.1]) yG (by simp) fun H40 hS58=> ?_
 simp only[RT]at hS58
 simp(disch:=omega) only[↓RA,RZ,simprocAttr,g2,c9G,hS58.ae 1 rfl,q4]
 have hcm:cps.length=p.cpls.length:=by omega
 have hkK:=((hS58.pick (os':=[⟨ptr A1 0 3,0,_⟩,⟨ptr A2 0 4,0,_⟩,⟨ptr A3 0 4,0,_⟩,⟨rv,6,_⟩,⟨dv,5,_⟩]) [0,1,2,3,4] (by decide) rfl).kept hBK).bK H.length
 refine⟨⟨⟨#[79,114,103,97,110]⟩,rv,rks,dv,dvs,cv,cps⟩,rfl,⟨(hS6.ab hBC (hS15.ab hBK hS58)).bX 3 rfl (fun _=>rfl),fun r hr=>(((hrx r hr).step hkC).step hkK).step Kept.snd,(hS6.ab hBC (hS15.ab hBK hS58)).bX 4 rfl (fun _=>rfl),fun d hd=>((hdx d hd).step hkK).step Kept.snd,(hS6.ab hBC (hS15.ab hBK hS58)).bX 5 rfl (fun _=>rfl),by simp only;omega,by simp only;omega,by simp only;omega⟩,
  ⟨⟨rfl,by simp only;omega,by simp only;omega,hro,by simp only;omega,by simp only;omega,fun j hj=>(hdo j hj).1,by simp only;omega,by simp only[hdm];exact hco⟩,hri,hdm,hcm,fun j hj=>(hdo j (by omega)).2⟩,(hS6.ab hBC (hS15.ab hBK hS58)).forget⟩
end Go.Ds
namespace Go.Ds
open Go.Proofs Go.Proofs.Tryz
variable {H:Heap}
set_option maxRecDepth 10000
set_option maxHeartbeats 1000000
structure Made26(p:Pln)(b kb:Nat→Nat)(br bn:Nat)(s:Sn):Prop where
 made:Made p s.o
 rg:s.rg=pC s.o b
 ks:s.ks=pX s.o kb
 p1:s.p.1=((br%s.o.ranks.length:Nat):Int)
 p2:s.p.2=((bn%(jB s.o.ranks (br%s.o.ranks.length)).wind.length:Nat):Int)
theorem Org.bM{o:Org}(h:organE o=0){j:Nat}(hj:j<o.ranks.length):0<(jB o.ranks j).wind.length∧(jB o.ranks j).wind.length≤128:=by
 unfold organE at h
 split at h
 ·omega
 split at h
 ·omega
 split at h
 ·rename_i hh;exact absurd h hh
 rename_i hr
 have e:=pL (dQ.1 hr) j hj
 unfold pI at e
 split at e
 ·rename_i hh;exact absurd e hh
 rename_i h1
 have e:=dQ.1 h1
 unfold rankE at e
 split at e
 ·omega
 split at e
 ·rename_i hh;exact absurd e hh
 split at e
 ·omega
 split at e
 ·omega
 split at e
 ·omega
 omega
theorem a4V{p:Pln}(h:tF p=true):0<p.ranks.length:=by
 unfold tF at h
 simp only[dy,decide_eq_true_eq,dO]at h
 omega
theorem Made26.fit{p:Pln}{b kb:Nat→Nat}{br bn:Nat}{s:Sn}(h:Made26 p b kb br bn s)(hf:tF p=true):s.Fit:=by
 have hoe:=h.made.ok.organE
 have h0:0<s.o.ranks.length:=by rw[h.made.rlen];exact a4V hf
 have hm:br%s.o.ranks.length<s.o.ranks.length:=fm _ h0
 have hw:=Org.bM hoe hm
 have hm2:bn%(jB s.o.ranks (br%s.o.ranks.length)).wind.length<(jB s.o.ranks (br%s.o.ranks.length)).wind.length:=fm _ hw.1
 refine⟨by rw[h.rg];exact b5h b hoe,by rw[h.ks];exact b1D hoe kb,?_⟩
 unfold pOk
 rw[h.p1,dV,h.p2]
 simp only[dy,decide_eq_true_eq]
 omega
theorem b4X(hG:Glob gH H)(p:Pln)(hp:p.In H)(hk:p.Ok)(hf:tF p=true)(b:Nat→Nat)(hb:∀i,b i<256)(kb:Nat→Nat)(hkb:∀i,kb i<65536)(br bn:Nat)(hbr:br<256)(hbn:bn<256):
 Fn prog 14 [.agg #[p.rv,p.dv,p.cv],.agg #[.int .u8 (b 0),.int .u8 (b 1),.int .u8 (b 2),.int .u8 (b 3),.int .u8 (b 4),.int .u16 (kb 0),.int .u16 (kb 1),.int .u16 (kb 2),.int .u8 br,.int .u8 bn]] H fun r H'=>
  ∃s:Sn,r=s.v∧s.In H'∧Made26 p b kb br bn s∧St prog H H' []:=by
 refine .aE func14 rfl (by kernel_rfl) (m:=44) rfl fun l hn g0 g1=> ?_
 simp(disch:=omega) only[↓RA,RB,simprocAttr,g0]
 refine(sR H).eNew 3 [p.rv,p.dv,p.cv] rfl rfl (by simp[((sR H).sl hp.1).cells.2.1,((sR H).sl hp.2.1).cells.2.1,((sR H).sl hp.2.2.2.1).cells.2.1]) c0n fun A1 H1 hS1=> ?_
 simp only[RT]at hS1
 simp(disch:=omega) only[↓RA,RB,simprocAttr,g1]
 refine hS1.eNew 10 [(.int .u8 (b 0)),(.int .u8 (b 1)),(.int .u8 (b 2)),(.int .u8 (b 3)),(.int .u8 (b 4)),(.int .u16 (kb 0)),(.int .u16 (kb 1)),(.int .u16 (kb 2)),(.int .u8 br),(.int .u8 bn)] rfl rfl rfl c5O fun A2 H2 hS2=> ?_
 simp only[RT]at hS2
 simp(disch:=omega) only[↓RA,RZ,simprocAttr]
 refine hS2.eNew 10 [(.string ⟨#[]⟩),(.slice none 0 0),(.slice none 0 0),(.slice none 0 0),(.slice none 0 0),(.int .u64 0),(.int .u64 0),(.slice none 0 0),I 0,I 0] rfl rfl rfl qE fun A3 H3 hS3=> ?_
 simp only[RT]at hS3
 simp(disch:=omega) only[↓RA,RZ,simprocAttr,hn,hS3.ae 0 rfl]
 have hSb:=hS3
 refine jF (b1N (hS3.gl hG) p (hp.aj hS3) hk hf) ?_
 rintro r H4⟨o,rfl,hox,hm,hT1⟩
 have hS4:=hS3.trans hT1
 simp only[RT]at hS4
 have hN:=hox.step (hSb.bq (H':=H4))
 obtain⟨X,hBX,hS5⟩:=hS4.aA (os:=[⟨ptr A1 0 3,0,_⟩,⟨ptr A2 0 10,0,_⟩,⟨ptr A3 0 10,0,_⟩])
 have hin:∀{H1 os},St prog X H1 os→o.In H1:=fun h=>(hN.step (h.kept hBX)).in
 have hoe:=hm.ok.organE
 have hf0:=Org.aH hoe
 obtain⟨k1,k2,k3⟩:=hm.small hf
 have hok:=b5E (o:=o) hb k2
 simp(disch:=omega) only[↓RA,RZ,simprocAttr]
 refine hS5.eNew 4 [(.string ⟨#[]⟩),(.slice none 0 0),(.slice none 0 0),(.slice none 0 0)] rfl rfl rfl yG fun A4 H5 hS6=> ?_
 simp only[RT]at hS6
 simp(disch:=omega) only[↓RA,RB,simprocAttr,hn]
 refine hS6.aa 3 rfl [(.string o.name),o.rv,o.dv,o.cv] rfl (by simp[OC,hox.in.1.cells.2.1,hox.in.2.2.1.cells.2.1,hox.in.2.2.2.2.1.cells.2.1]) yG (by simp) fun H6 hS7=> ?_
 simp only[RT]at hS7
 simp(disch:=omega) only[↓RA,RB,simprocAttr]
 refine Wp.aK kP [(0,5),(0,9),(5,0),(7,0)] (by kernel_rfl) (by kernel_rfl) ?_
 simp(disch:=omega) only[↓RA,RZ,simprocAttr,hn,hS7.ae 3 rfl,hS7.ae 1 rfl]
 refine jF (a3X o (hin hS7) k1 k2 k3 b hb) ?_
 rintro r H7⟨sv,rfl,hT2⟩
 have hS8:=hS7.trans hT2
 simp only[RT]at hS8
 simp(disch:=omega) only[↓RA,RZ,simprocAttr,hn,hS8.ae 3 rfl,hS8.ae 1 rfl]
 refine jF ((b2i o (hin hS8) hf0 kb hkb).tr) ?_
 rintro r H8⟨-,hT3⟩
 have hS9:=hS8.trans hT3
 simp only[RT]at hS9
 obtain⟨kv,rfl⟩:∃w,w=r:=⟨r,rfl⟩
 have h0:0<o.ranks.length:=by rw[hm.rlen];exact a4V hf
 have hrl:=hf0.rlen
 have u1:(br:Int).tmod o.ranks.length=((br%o.ranks.length:Nat):Int):=(fg _ _).symm
 obtain⟨q,hq⟩:∃q,q=br%o.ranks.length:=⟨_,rfl⟩
 have hqm:q<o.ranks.length:=by rw[hq];exact fm _ h0
 rw[←hq]at u1
 have hw:=Org.bM hoe hqm
 have u2:(bn:Int).tmod (jB o.ranks q).wind.length=((bn%(jB o.ranks q).wind.length:Nat):Int):=(fg _ _).symm
 simp(disch:=omega) only[↓RA,RZ,simprocAttr,hn,b1J hox.in.1.cells hox.in.2.2.1.cells hox.in.2.2.2.2.1.cells (hS9.rd 4 rfl).cells (hS9.rd 5 rfl).cells]
 refine hS9.eNew 10 [(.string ⟨#[]⟩),(.slice none 0 0),(.slice none 0 0),(.slice none 0 0),(.slice none 0 0),(.int .u64 0),(.int .u64 0),(.slice none 0 0),I 0,I 0] rfl rfl rfl qE fun A5 H9 hS10=> ?_
 simp only[RT]at hS10
 simp(disch:=omega) only[↓RA,RB,simprocAttr,hn]
 refine hS10.aa 6 rfl [(.string o.name),o.rv,o.dv,o.cv,sv,(.int .u64 (pC o b).cpl),(.int .u64 (pC o b).off),kv,I 0,I 0] rfl (by simp[OC,hox.in.1.cells.2.1,hox.in.2.2.1.cells.2.1,hox.in.2.2.2.2.1.cells.2.1,(hS10.rd 4 rfl).cells.2.1,(hS10.rd 5 rfl).cells.2.1]) qE (by simp) fun H10 hS11=> ?_
 simp only[RT]at hS11
 simp(disch:=omega) only[↓RA,RZ,simprocAttr,hn,hS8.ae 3 rfl,hS9.ae 3 rfl,hS7.ae 3 rfl,hS7.ae 1 rfl,hS11.ld 1 rfl,hS11.ld 3 rfl,((hin hS11).1).len,u1]
 refine hS11.aa 6 rfl [I q] rfl rfl tS3 (by simp) fun H11 hS12=> ?_
 simp only[RT]at hS12
 simp(disch:=omega) only[↓RA,RB,simprocAttr]
 refine Wp.drw kP (by kernel_rfl) ?_
 simp(disch:=omega) only[↓RA,RZ,simprocAttr,hn,hS12.ld 1 rfl,hS12.ld 3 rfl,hS12.ld 6 rfl,((hin hS12).1).idx,((hin hS12).1).ba,((hin hS12).1).ld,Rk.cells,(((hin hS12).2.1 (jB o.ranks q) (jE (by omega))).1).len,u2]
 refine hS12.aa 6 rfl [I (bn%(jB o.ranks q).wind.length:Nat)] rfl rfl tS3 (by simp) fun H12 hS13=> ?_
 simp only[RT]at hS13
 simp(disch:=omega) only[↓RA,RZ,simprocAttr,hn,hS13.ae 6 rfl]
 refine hS13.aa 2 rfl [(.string o.name),o.rv,o.dv,o.cv,sv,(.int .u64 (pC o b).cpl),(.int .u64 (pC o b).off),kv,I q,I (bn%(jB o.ranks q).wind.length:Nat)] rfl (by simp[OC,hox.in.1.cells.2.1,hox.in.2.2.1.cells.2.1,hox.in.2.2.2.2.1.cells.2.1,(hS13.rd 4 rfl).cells.2.1,(hS13.rd 5 rfl).cells.2.1]) qE (by simp) fun H13 hS14=> ?_
 simp only[RT]at hS14
 simp(disch:=omega) only[↓RA,RZ,simprocAttr,hn,d0o,hS14.ae 2 rfl]
 have hkl:=uZ o kb
 exact⟨⟨o,sv,pC o b,kv,pX o kb,((q:Int),((bn%(jB o.ranks q).wind.length:Nat):Int))⟩,rfl,⟨hin hS14,⟨hS14.ay 4 rfl (fun _=>rfl),hok⟩,⟨hS14.ay 5 rfl (fun _=>rfl),by simp only;omega,b0e hf0 kb⟩⟩,⟨hm,rfl,rfl,by rw[hq],by rw[hq]⟩,(hS4.ab hBX hS14).forget⟩
def tL(s:Sn)(c:Ctl):Int:=
 if c.kind≠1∧c.kind≠2 then 12
 else if c.kind=2∧c.dv=0∧wE s c.ix=true then 0
 else if c.kind=1∧0≤c.dv∧c.dv<s.rg.stops.length∧0≤c.ix∧c.ix<64∧(jB s.rg.stops c.dv.toNat).testBit c.ix.toNat=true then 0
 else 10
def vM(s:Sn)(l:List Ctl):Int:=if snE s≠0 then snE s else mR (fun j=>tL s (jB l j)) l.length
def oR(s:Sn)(l:List Ctl):Reg:=if vM s l=0 then l.foldl mX s.rg else⟨[],0,0⟩
theorem vR(g:Reg):∀l:List Ctl,(l.foldl mX g).stops.length=g.stops.length:=by
 intro l
 induction l generalizing g with
 | nil=>rfl
 | cons c l ih=>rw[fO,ih,b5K]
theorem b1w(s:Sn)(hs:s.In H)(lv:Value)(cs:List Ctl)(hl:Sl 3 Ctl.cells H lv cs)(hll:cs.length<1000000):Fn prog 15 [s.v,lv] H fun r H'=>∃nv,r=.tuple #[.agg #[nv,.int .u64 (oR s cs).cpl,.int .u64 (oR s cs).off],I (vM s cs)]∧St prog H H' [⟨nv,1,(oR s cs).stops.flatMap (one u64)⟩]:=by
 refine .aE func15 rfl (by kernel_rfl) (m:=115) rfl fun l hn g0 g1=> ?_
 simp(disch:=omega) only[↓RA,RB,simprocAttr,g0]
 refine(sR H).eNew 10 [(.string s.o.name),s.o.rv,s.o.dv,s.o.cv,s.sv,(.int .u64 s.rg.cpl),(.int .u64 s.rg.off),s.kv,I s.p.1,I s.p.2] rfl rfl (by simp[OC,((sR H).sl hs.o.1).cells.2.1,((sR H).sl hs.o.2.2.1).cells.2.1,((sR H).sl hs.o.2.2.2.2.1).cells.2.1,((sR H).sl hs.rg.1).cells.2.1,((sR H).sl hs.ks.sl).cells.2.1]) qE fun A1 H1 hS1=> ?_
 simp only[RT]at hS1
 simp(disch:=omega) only[↓RA,RZ,simprocAttr]
 refine hS1.eNew 3 [(.slice none 0 0),(.int .u64 0),(.int .u64 0)] rfl rfl rfl rJ fun A2 H2 hS2=> ?_
 simp only[RT]at hS2
 simp(disch:=omega) only[↓RA,RZ,simprocAttr,hn,hS2.ae 0 rfl]
 refine hS2.cF (xY s (hs.aj hS2)) fun H3 hS3=> ?_
 simp(disch:=omega) only[↓RA,RB,simprocAttr,hn]
 refine jA (fun h1=> ?_) (fun h1=> ?_)
 ·have hE:vM s cs=snE s:=by unfold vM;rw[if_pos h1]
  have hR:oR s cs=⟨[],0,0⟩:=by unfold oR;rw[hE,if_neg h1]
  simp(disch:=omega) only[↓RA,RZ,simprocAttr,hn,a0k,h1]
  refine hS3.aa 1 rfl [(.slice none 0 0),(.int .u64 0),(.int .u64 0)] rfl rfl rJ (by simp) fun H4 hS4=> ?_
  simp only[RT]at hS4
  simp(disch:=omega) only[↓RA,RZ,simprocAttr,hn,a4q,hS4.ae 1 rfl,h1]
  exact⟨.slice none 0 0,by rw[hE,hR];rfl,by rw[hR];exact(hS4.forget).nil 0⟩
 have h1:snE s=0:=dQ.1 h1
 have hfit:=tZ.1 h1
 have hsl:=hfit.sl
 have hd1:=hfit.aH.dpos
 have hd2:=hfit.aH.dlen
 have hE0:vM s cs=mR (fun j=>tL s (jB cs j)) cs.length:=by unfold vM;rw[if_neg (by rw[h1];decide)]
 simp(disch:=omega) only[↓RA,RZ,simprocAttr,hn,hS3.ae 0 rfl,h1]
 refine hS3.eNew 3 [(.slice none 0 0),(.int .u64 0),(.int .u64 0)] rfl rfl rfl rJ fun A3 H5 hS5=> ?_
 simp only[RT]at hS5
 simp(disch:=omega) only[↓RA,RZ,simprocAttr,hn,h1]
 refine hS5.aa 2 rfl [s.sv,(.int .u64 s.rg.cpl),(.int .u64 s.rg.off)] rfl (by simp[OC,(hS5.sl hs.rg.1).cells.2.1]) rJ (by simp) fun H6 hS6=> ?_
 simp only[RT]at hS6
 simp(disch:=omega) only[↓RA,RZ,simprocAttr,hn,hS6.ld 2 rfl,h1]
 refine jF ((c0r s.sv s.rg.stops (hS6.sl hs.rg.1) (by omega) (by omega)).tr) ?_
 rintro r H7⟨-,hT2⟩
 have hS7:=hS6.trans hT2
 simp only[RT]at hS7
 simp(disch:=omega) only[↓RA,RZ,simprocAttr,hn,h1]
 refine hS7.aa 2 rfl [r] (by rw[(hS7.rd 3 rfl).cells.1]) (by simp[(hS7.rd 3 rfl).cells.2.1]) c5T (by simp) fun H8 hS8=> ?_
 simp only[RT]at hS8
 simp(disch:=omega) only[↓RA,RZ,simprocAttr,hn,g1,(hS8.sl hl).len,h1]
 refine Wp.al (fun n l H'=>l.length=115∧get l 2=(ptr A1 0 10)∧get l 4=(ptr A2 0 3)∧get l 7=(ptr A3 0 3)∧get l 22=lv∧get l 23=I cs.length∧∃(j:Nat)(g:Reg),(n+j=cs.length∧g=(cs.take j).foldl mX s.rg∧∀q,q<j→tL s (jB cs q)=0)∧get l 24=I j∧St prog H H' [⟨ptr A1 0 10,0,[(.string s.o.name),s.o.rv,s.o.dv,s.o.cv,s.sv,(.int .u64 s.rg.cpl),(.int .u64 s.rg.off),s.kv,I s.p.1,I s.p.2]⟩,⟨ptr A2 0 3,0,[(.slice none 0 0),(.int .u64 0),(.int .u64 0)]⟩,⟨ptr A3 0 3,0,[r,.int .u64 g.cpl,.int .u64 g.off]⟩,⟨r,1,g.stops.flatMap (one u64)⟩]) cs.length ?_ ?_
 ·simp(disch:=omega) only[RB,RC,simprocAttr,hn]
  exact⟨0,s.rg,⟨by omega,rfl,fun q hq=>absurd hq (ed _)⟩,rfl,hS8⟩
 rintro n l H9⟨hn,g2,g4,g7,g22,g23,j,g,⟨hj,hg,hz⟩,g24,hS9⟩
 have hgl:g.stops.length=s.rg.stops.length:=by rw[hg,vR]
 simp(disch:=omega) only[↓RA,RB,simprocAttr,hn,g23,g24]
 refine jA (fun q1=> ?_) (fun q1=> ?_)
 ·have hbad:∀e:Int,e≠0→tL s (jB cs j)=e→vM s cs=e∧oR s cs=⟨[],0,0⟩:=fun e h0 h=>by
   have h2:vM s cs=e:=by rw[hE0,pO _ _ j (by omega) (by rw[h];exact h0) hz,h]
   exact⟨h2,by unfold oR;rw[h2,if_neg h0]⟩
  have hnext:tL s (jB cs j)=0→(∀q,q<j+1→tL s (jB cs q)=0)∧mX g (jB cs j)=(cs.take (j+1)).foldl mX s.rg:=fun h=>by
   refine⟨fun q hq=> ?_,?_⟩
   ·rcases dJ.1 hq with e|e
    ·exact hz q e
    ·rw[e];exact h
   ·rw[mQ cs j (by omega),gm,←hg]
    rfl
  simp(disch:=omega) only[↓RA,RZ,simprocAttr,hn,g22,g24,(hS9.sl hl).idx,(hS9.sl hl).ae,Ctl.cells,q1]
  refine hS9.eNew 3 [I 0,I 0,I 0] rfl rfl rfl a2n fun A4 H10 hS10=> ?_
  simp only[RT]at hS10
  simp(disch:=omega) only[↓RA,RZ,simprocAttr,hn,q1]
  refine hS10.aa 4 rfl [I (jB cs j).kind,I (jB cs j).dv,I (jB cs j).ix] rfl rfl a2n (by simp) fun H11 hS11=> ?_
  simp only[RT]at hS11
  simp(disch:=omega) only[↓RA,RZ,simprocAttr,hn,hS11.ld 4 rfl,q1]
  generalize hc:jB cs j=c at hbad hnext hS11 ⊢
  refine jY (fun k1=> ?_) (fun k1=> ?_)
  ·simp(disch:=omega) only[↓RA,RZ,simprocAttr,hn,hS11.ld 4 rfl,q1,k1]
   refine jA (fun k2=> ?_) (fun k2=> ?_)
   ·have hE:=hbad 12 (by decide) (by unfold tL;rw[if_pos ⟨k1,k2⟩])
    simp(disch:=omega) only[↓RA,RZ,simprocAttr,hn,g4,a0k,q1,k1,k2]
    refine hS11.aa 1 rfl [(.slice none 0 0),(.int .u64 0),(.int .u64 0)] rfl rfl rJ (by simp) fun H12 hS12=> ?_
    simp only[RT]at hS12
    simp(disch:=omega) only[↓RA,RZ,simprocAttr,hn,g4,a4q,hS12.ae 1 rfl,q1,k1,k2]
    exact⟨.slice none 0 0,by rw[hE.1,hE.2];rfl,by rw[hE.2];exact(hS12.forget).nil 0⟩
   have k2:c.kind=2:=dQ.1 k2
   have hbad10:¬(c.dv=0∧wE s c.ix=true)→vM s cs=10∧oR s cs=⟨[],0,0⟩:=fun h=>hbad 10 (by decide) (by unfold tL;rw[if_neg (fun q=>q.2 k2),if_neg (fun q=>h q.2),if_neg (fun q=>k1 q.1)])
   simp(disch:=omega) only[↓RA,RZ,simprocAttr,hn,hS11.ld 4 rfl,q1,k2]
   refine jY (fun k4=> ?_) (fun k4=> ?_)
   ·simp(disch:=omega) only[↓RA,RZ,simprocAttr,hn,g2,hS11.ae 0 rfl,hS11.ld 4 rfl,q1,k2,k4]
    refine hS11.cF (a5t s (hs.aj hS11) c.ix) fun H13 hS13=> ?_
    simp(disch:=omega) only[↓RA,RZ,simprocAttr,hn,q1,k2,k4]
    refine kA (fun k5=> ?_) (fun k5=> ?_)
    ·obtain⟨hi0,hi1,_⟩:=qY k5
     have hcl:=hfit.aH.clen
     obtain⟨i,hi⟩:∃i:Nat,c.ix=i:=⟨c.ix.toNat,by omega⟩
     have e1:=c2C g.cpl i (by omega)
     obtain⟨hn1,hn2⟩:=hnext (by unfold tL;rw[if_neg (fun q=>q.2 k2),if_pos ⟨k2,k4,k5⟩])
     have hlf:mX g c={g with cpl:=a0b g.cpl i}:=by unfold mX;rw[if_neg k1,if_pos k2,hi]
     simp only[hi]at hS13
     simp(disch:=omega) only[↓RA,RZ,simprocAttr,q1,k2,k4,k5]
     refine Wp.drw kP (by kernel_rfl) ?_
     simp(disch:=omega) only[↓RA,RZ,simprocAttr,hn,g7,hS13.ld 2 rfl,hS13.ld 4 rfl,k2,k4,e1]
     refine hS13.aa 2 rfl [_] rfl rfl b1u (by simp) fun H14 hS14=> ?_
     simp only[RT]at hS14
     simp(disch:=omega) only[↓RA,RZ,simprocAttr,hn,g2,g4,g7,g22,g23,g24]
     refine⟨n-1,by omega,j+1,mX g c,⟨by omega,hn2,hn1⟩,by simp,?_⟩
     rw[hlf]
     exact hS14.pick [0,1,2,3] (by decide) rfl
    have hE:=hbad10 fun h=>by rw[k5]at h;exact absurd h.2 (by decide)
    simp(disch:=omega) only[↓RA,RZ,simprocAttr,q1,k2,k4,k5]
    refine Wp.drw kP (by kernel_rfl) ?_
    simp(disch:=omega) only[↓RA,RZ,simprocAttr,hn,hS13.ld 4 rfl,k2,k4]
    simp(disch:=omega) only[↓RA,RB,simprocAttr,hn,g4,a0k]
    refine hS13.aa 1 rfl [(.slice none 0 0),(.int .u64 0),(.int .u64 0)] rfl rfl rJ (by simp) fun H15 hS15=> ?_
    simp only[RT]at hS15
    simp(disch:=omega) only[↓RA,RZ,simprocAttr,hn,g4,a4q,hS15.ae 1 rfl]
    exact⟨.slice none 0 0,by rw[hE.1,hE.2];rfl,by rw[hE.2];exact(hS15.forget).nil 0⟩
   have hE:=hbad10 fun h=>k4 h.1
   simp(disch:=omega) only[↓RA,RZ,simprocAttr,hn,q1,k2,k4]
   refine Wp.drw kP (by kernel_rfl) ?_
   simp(disch:=omega) only[↓RA,RZ,simprocAttr,hn,hS11.ld 4 rfl,k2]
   simp(disch:=omega) only[↓RA,RB,simprocAttr,hn,g4,a0k]
   refine hS11.aa 1 rfl [(.slice none 0 0),(.int .u64 0),(.int .u64 0)] rfl rfl rJ (by simp) fun H16 hS16=> ?_
   simp only[RT]at hS16
   simp(disch:=omega) only[↓RA,RZ,simprocAttr,hn,g4,a4q,hS16.ae 1 rfl]
   exact⟨.slice none 0 0,by rw[hE.1,hE.2];rfl,by rw[hE.2];exact(hS16.forget).nil 0⟩
  have k1:c.kind=1:=dQ.1 k1
  have hbad10:¬(0≤c.dv∧c.dv<s.rg.stops.length∧0≤c.ix∧c.ix<64∧(jB s.rg.stops c.dv.toNat).testBit c.ix.toNat=true)→vM s cs=10∧oR s cs=⟨[],0,0⟩:=fun h=>hbad 10 (by decide) (by unfold tL;rw[if_neg (fun q=>q.1 k1),if_neg (fun q=>by omega),if_neg (fun q=>h q.2)])
  simp(disch:=omega) only[↓RA,RZ,simprocAttr,hn,hS11.ld 4 rfl,q1,k1]
  refine Wp.drw kP (by kernel_rfl) ?_
  simp(disch:=omega) only[↓RA,RZ,simprocAttr,hn,hS11.ld 4 rfl,k1]
  refine jY (fun k4=> ?_) (fun k4=> ?_)
  ·simp(disch:=omega) only[↓RA,RZ,simprocAttr,hn,g7,hS11.ld 4 rfl,hS11.ld 2 rfl,(hS11.ay 3 rfl (fun _=>rfl)).len,k1,k4]
   refine jY (fun k5=> ?_) (fun k5=> ?_)
   ·simp(disch:=omega) only[↓RA,RZ,simprocAttr,hn,hS11.ld 4 rfl,k1,k4,k5]
    refine jY (fun k6=> ?_) (fun k6=> ?_)
    ·simp(disch:=omega) only[↓RA,RZ,simprocAttr,hn,hS11.ld 4 rfl,k1,k4,k5,k6]
     refine jY (fun k7=> ?_) (fun k7=> ?_)
     ·obtain⟨d,hd⟩:∃d:Nat,c.dv=d:=⟨c.dv.toNat,by omega⟩
      obtain⟨i,hi⟩:∃i:Nat,c.ix=i:=⟨c.ix.toNat,by omega⟩
      have hdl:d<s.rg.stops.length:=by omega
      have hsx:=hs.rg.2.2.1 _ (jE (xs:=s.rg.stops) (j:=d) hdl)
      have e2:=a6i (jB s.rg.stops d) i hsx
      have e3:=a5M (jB s.rg.stops d>>>i) (a1i _ hsx)
      have e4:(jB s.rg.stops d).testBit i=decide (jB s.rg.stops d>>>i%2=1):=tb _ _
      rw[hd]at k4 k5
      rw[hi]at k6 k7
      simp only[hd,hi]at hS11
      simp(disch:=omega) only[↓RA,RZ,simprocAttr,hn,g2,hS11.ld 0 rfl,hS11.ld 4 rfl,(hS11.sl hs.rg.1).idx,(hS11.sl hs.rg.1).ld,one,u64,k1,k4,k5,k6,k7,hd,hi,e2,e3]
      refine jA (fun k8=> ?_) (fun k8=> ?_)
      ·have e1:=c2C (jB g.stops d) i (by omega)
       have htb:(jB s.rg.stops c.dv.toNat).testBit c.ix.toNat=true:=by rw[hd,hi,dV,dV,e4];exact decide_eq_true (by omega)
       obtain⟨hn1,hn2⟩:=hnext (by unfold tL;rw[if_neg (fun q=>q.1 k1),if_neg (fun q=>by omega),if_pos ⟨k1,by omega,by omega,by omega,by omega,htb⟩])
       have hlf:(mX g c).stops.flatMap (one u64)=(g.stops.flatMap (one u64)).set d (.int .u64 (a0b (jB g.stops d) i:Nat)):=by
        rw[mX,if_pos k1,mM,mM,hd,hi]
        show(g.stops.set d _).map u64=_
        rw[iE]
        rfl
       have hlc:(mX g c).cpl=g.cpl∧(mX g c).off=g.off:=by rw[mX,if_pos k1];exact⟨rfl,rfl⟩
       simp(disch:=omega) only[↓RA,RC,simprocAttr,k4,k5,k6,k7,hd,hi,k8]
       refine Wp.drw kP (by kernel_rfl) ?_
       simp(disch:=omega) only[↓RA,RZ,simprocAttr,hn,g7,hS11.ld 2 rfl,hS11.ld 4 rfl,(hS11.ay 3 rfl (fun _=>rfl)).idx,(hS11.ay 3 rfl (fun _=>rfl)).ld,one,u64,k1,e1,one,u64]
       refine hS11.aX 3 rfl [(.int .u64 (a0b (jB g.stops d) i:Nat))] rfl rfl b1u (by simp) (by have h:(g.stops.flatMap (one u64)).length=g.stops.length:=(jK (n:=1) (fun _=>rfl) _).trans (by omega);rw[h];simp;omega) fun H17 hS17=> ?_
       simp only[RT]at hS17
       simp(disch:=omega) only[↓RA,RZ,simprocAttr,hn,g2,g4,g7,g22,g23,g24]
       refine⟨n-1,by omega,j+1,mX g c,⟨by omega,hn2,hn1⟩,by simp,?_⟩
       rw[hlf,hlc.1,hlc.2]
       exact hS17.pick [0,1,2,3] (by decide) rfl
      have hE:=hbad10 fun h=>by
       have h5:=h.2.2.2.2
       rw[hd,hi,dV,dV,e4]at h5
       have:=of_decide_eq_true h5
       omega
      simp(disch:=omega) only[↓RA,RZ,simprocAttr,hn,g4,a0k,k4,k5,k6,k7,hd,hi,k8]
      refine hS11.aa 1 rfl [(.slice none 0 0),(.int .u64 0),(.int .u64 0)] rfl rfl rJ (by simp) fun H18 hS18=> ?_
      simp only[RT]at hS18
      simp(disch:=omega) only[↓RA,RZ,simprocAttr,hn,g4,a4q,hS18.ae 1 rfl,k4,k5,k6,k7,hd,hi,k8]
      exact⟨.slice none 0 0,by rw[hE.1,hE.2];rfl,by rw[hE.2];exact(hS18.forget).nil 0⟩
     have hE:=hbad10 fun h=>k7 h.2.2.2.1
     simp(disch:=omega) only[↓RA,RZ,simprocAttr,hn,g4,a0k,k4,k5,k6,k7]
     refine hS11.aa 1 rfl [(.slice none 0 0),(.int .u64 0),(.int .u64 0)] rfl rfl rJ (by simp) fun H19 hS19=> ?_
     simp only[RT]at hS19
     simp(disch:=omega) only[↓RA,RZ,simprocAttr,hn,g4,a4q,hS19.ae 1 rfl,k4,k5,k6,k7]
     exact⟨.slice none 0 0,by rw[hE.1,hE.2];rfl,by rw[hE.2];exact(hS19.forget).nil 0⟩
    have hE:=hbad10 fun h=>k6 h.2.2.1
    simp(disch:=omega) only[↓RA,RZ,simprocAttr,hn,g4,a0k,k4,k5,k6]
    refine hS11.aa 1 rfl [(.slice none 0 0),(.int .u64 0),(.int .u64 0)] rfl rfl rJ (by simp) fun H20 hS20=> ?_
    simp only[RT]at hS20
    simp(disch:=omega) only[↓RA,RZ,simprocAttr,hn,g4,a4q,hS20.ae 1 rfl,k4,k5,k6]
    exact⟨.slice none 0 0,by rw[hE.1,hE.2];rfl,by rw[hE.2];exact(hS20.forget).nil 0⟩
   have hE:=hbad10 fun h=>k5 (by rw[←hgl]at h;exact h.2.1)
   simp(disch:=omega) only[↓RA,RZ,simprocAttr,hn,g4,a0k,k4,k5]
   refine hS11.aa 1 rfl [(.slice none 0 0),(.int .u64 0),(.int .u64 0)] rfl rfl rJ (by simp) fun H21 hS21=> ?_
   simp only[RT]at hS21
   simp(disch:=omega) only[↓RA,RZ,simprocAttr,hn,g4,a4q,hS21.ae 1 rfl,k4,k5]
   exact⟨.slice none 0 0,by rw[hE.1,hE.2];rfl,by rw[hE.2];exact(hS21.forget).nil 0⟩
  have hE:=hbad10 fun h=>k4 h.1
  simp(disch:=omega) only[↓RA,RZ,simprocAttr,hn,g4,a0k,k4]
  refine hS11.aa 1 rfl [(.slice none 0 0),(.int .u64 0),(.int .u64 0)] rfl rfl rJ (by simp) fun H22 hS22=> ?_
  simp only[RT]at hS22
  simp(disch:=omega) only[↓RA,RZ,simprocAttr,hn,g4,a4q,hS22.ae 1 rfl,k4]
  exact⟨.slice none 0 0,by rw[hE.1,hE.2];rfl,by rw[hE.2];exact(hS22.forget).nil 0⟩
 have hjj:j=cs.length:=by omega
 subst hjj
 have hE:vM s cs=0:=by rw[hE0];exact lW _ _ hz
 have hR:oR s cs=g:=by unfold oR;rw[if_pos hE,hg,eQ]
 simp(disch:=omega) only[↓RA,RZ,simprocAttr,hn,g4,g7,hS9.ae 2 rfl,q1]
 refine hS9.aa 1 rfl [r,(.int .u64 g.cpl),(.int .u64 g.off)] rfl (by simp[OC,(hS9.rd 3 rfl).cells.2.1]) rJ (by simp) fun H23 hS23=> ?_
 simp only[RT]at hS23
 simp(disch:=omega) only[↓RA,RZ,simprocAttr,hn,g4,a4q,hS23.ae 1 rfl,q1]
 rw[hE,hR]
 exact⟨r,rfl,hS23.pick [3] (by decide) rfl⟩
theorem b9m{x n i:Nat}(h:x>>>n=0)(hb:x.testBit i=true):i<n:=by
 rcases gT i n with h1|h1
 ·exact h1
 ·have h2:(x>>>n).testBit (i-n)=x.testBit i:=by rw[Nat.testBit_shiftRight];congr 1;omega
  rw[h,iH,hb]at h2
  cases h2
theorem b9i{o:Org}{rg:Reg}(h:yH o rg=0){i:Nat}(hb:rg.cpl.testBit i=true):i<o.cpls.length:=b9m (a4P h).2.1 hb
theorem b5d{o:Org}{rg:Reg}(h:yH o rg=0){d i:Nat}(hd:d<rg.stops.length)(hb:(jB rg.stops d).testBit i=true):i<(jB o.dvs d).stops.length:=b9m ((a4P h).1 d (by rw[←(yZ h).2];exact hd)) hb
theorem a4l(hG:Glob gH H)(p:Pln)(hp:p.In H)(hk:p.Ok)(b kb:Nat→Nat)(br bn:Nat)(hb:∀i,b i<256)(hkb:∀i,kb i<65536)(hbr:br<256)(hbn:bn<256)(lv:Value)(cs:List Ctl)(hls:CtI H lv cs):
 Fn prog 4 [.agg #[p.rv,p.dv,p.cv],.agg #[.int .u8 (b 0),.int .u8 (b 1),.int .u8 (b 2),.int .u8 (b 3),.int .u8 (b 4),.int .u16 (kb 0),.int .u16 (kb 1),.int .u16 (kb 2),.int .u8 br,.int .u8 bn],lv] H fun r H'=>r=.bool true∧St prog H H' []:=by
 have hlen:=hls.len
 refine .cC func4 rfl (by kernel_rfl) (m:=171) rfl fun l hn g0 g1 g2=> ?_
 simp(disch:=omega) only[↓RA,RB,simprocAttr,g0]
 refine(sR H).eNew 3 [p.rv,p.dv,p.cv] rfl rfl (by simp[((sR H).sl hp.1).cells.2.1,((sR H).sl hp.2.1).cells.2.1,((sR H).sl hp.2.2.2.1).cells.2.1]) c0n fun A1 H1 hS1=> ?_
 simp only[RT]at hS1
 simp(disch:=omega) only[↓RA,RB,simprocAttr,g1]
 refine hS1.eNew 10 [(.int .u8 (b 0)),(.int .u8 (b 1)),(.int .u8 (b 2)),(.int .u8 (b 3)),(.int .u8 (b 4)),(.int .u16 (kb 0)),(.int .u16 (kb 1)),(.int .u16 (kb 2)),(.int .u8 br),(.int .u8 bn)] rfl rfl rfl c5O fun A2 H2 hS2=> ?_
 simp only[RT]at hS2
 simp(disch:=omega) only[↓RA,RZ,simprocAttr]
 refine hS2.cF (zF (hS2.gl hG)) fun H3 hS3=> ?_
 simp(disch:=omega) only[↓RA,RZ,simprocAttr,hn,hS3.ae 0 rfl]
 refine hS3.cF (c1t p (hp.aj hS3)) fun H4 hS4=> ?_
 simp(disch:=omega) only[↓RA,RZ,simprocAttr,hn]
 refine lF (fun h1=> ?_) (fun h1=> ?_)
 ·simp(disch:=omega) only[↓RA,RZ,simprocAttr,hn,h1]
  refine hS4.cF (zF (hS4.gl hG)) fun H5 hS5=> ?_
  simp(disch:=omega) only[↓RA,RZ,simprocAttr,hn,tR4,h1]
  exact hS5.forget
 have hf:tF p=true:=by simpa using h1
 simp(disch:=omega) only[↓RA,RZ,simprocAttr,hn,g2,(hS4.sl hls.sl).len,h1]
 refine jA (fun h2=> ?_) (fun h2=> ?_)
 ·simp(disch:=omega) only[↓RA,RZ,simprocAttr]
  refine hS4.cF (zF (hS4.gl hG)) fun H6 hS6=> ?_
  simp(disch:=omega) only[↓RA,RZ,simprocAttr,hn,tR4,h1,h2]
  exact hS6.forget
 have hl5:cs.length≤5:=by omega
 simp(disch:=omega) only[↓RA,RZ,simprocAttr,hn,hS4.ae 0 rfl,hS4.ae 1 rfl,h1,h2]
 refine jF (b4X (hS4.gl hG) p (hp.aj hS4) hk hf b hb kb hkb br bn hbr hbn) ?_
 rintro r H7⟨s,rfl,hs,hm,hT5⟩
 have hS7:=hS4.trans hT5
 simp only[RT]at hS7
 have hfit:=hm.fit hf
 have hf0:=hfit.aH
 obtain⟨k1,k2,k3⟩:=hm.made.small hf
 have hrg:=hm.rg
 have hl1:Sl 3 Ctl.cells H7 lv cs:=hS7.sl hls.sl
 have hS0:=hS7
 have hG2:=hS0.gl hG
 simp(disch:=omega) only[↓RA,RZ,simprocAttr]
 refine(sR H7).eNew 10 [(.string ⟨#[]⟩),(.slice none 0 0),(.slice none 0 0),(.slice none 0 0),(.slice none 0 0),(.int .u64 0),(.int .u64 0),(.slice none 0 0),I 0,I 0] rfl rfl rfl qE fun A3 H8 hS8=> ?_
 simp only[RT]at hS8
 simp(disch:=omega) only[↓RA,RZ,simprocAttr,hn,h1,h2]
 refine hS8.aa 0 rfl [(.string s.o.name),s.o.rv,s.o.dv,s.o.cv,s.sv,(.int .u64 s.rg.cpl),(.int .u64 s.rg.off),s.kv,I s.p.1,I s.p.2] rfl (by simp[OC,(hS8.sl hs.o.1).cells.2.1,(hS8.sl hs.o.2.2.1).cells.2.1,(hS8.sl hs.o.2.2.2.2.1).cells.2.1,(hS8.sl hs.rg.1).cells.2.1,(hS8.sl hs.ks.sl).cells.2.1]) qE (by simp) fun H9 hS9=> ?_
 simp only[RT]at hS9
 simp(disch:=omega) only[↓RA,RZ,simprocAttr,hn,g2,hS9.ae 0 rfl,h1,h2]
 refine jF (b1w s (hs.aj hS9) lv cs (hS9.sl hl1) (by omega)) ?_
 rintro r H10⟨nv,rfl,hT6⟩
 have hS10:=hS9.trans hT6
 simp only[RT]at hS10
 simp(disch:=omega) only[↓RA,RZ,simprocAttr,hn,h1,h2]
 refine hS10.eNew 3 [(.slice none 0 0),(.int .u64 0),(.int .u64 0)] rfl rfl rfl rJ fun A4 H11 hS11=> ?_
 simp only[RT]at hS11
 simp(disch:=omega) only[↓RA,RZ,simprocAttr,hn,h1,h2]
 refine hS11.aa 2 rfl [nv,(.int .u64 (oR s cs).cpl),(.int .u64 (oR s cs).off)] rfl (by simp[OC,(hS11.rd 1 rfl).cells.2.1]) rJ (by simp) fun H12 hS12=> ?_
 simp only[RT]at hS12
 simp(disch:=omega) only[↓RA,RZ,simprocAttr,hn,hS12.ae 0 rfl,((hS0.var 1 rfl).aj hS12.aj).ae,h1,h2]
 refine jF (a3X s.o (hs.o.aj hS12) k1 k2 k3 b hb) ?_
 rintro r H13⟨dv,rfl,hT7⟩
 have hS13:=hS12.trans hT7
 simp only[RT]at hS13
 simp(disch:=omega) only[↓RA,RZ,simprocAttr]
 refine hS13.eNew 3 [(.slice none 0 0),(.int .u64 0),(.int .u64 0)] rfl rfl rfl rJ fun A5 H14 hS14=> ?_
 simp only[RT]at hS14
 simp(disch:=omega) only[↓RA,RZ,simprocAttr,hn,h1,h2]
 refine hS14.aa 4 rfl [dv,(.int .u64 (pC s.o b).cpl),(.int .u64 (pC s.o b).off)] rfl (by simp[OC,(hS14.rd 3 rfl).cells.2.1]) rJ (by simp) fun H15 hS15=> ?_
 simp only[RT]at hS15
 simp(disch:=omega) only[↓RA,RZ,simprocAttr,hn,g2,(hS15.sl hl1).len,h1,h2]
 rw[←hrg]
 rw[←hrg]at hS15
 have hcz:∀i,s.rg.cpl.testBit i=true→i<s.o.cpls.length:=fun i h=>b9i hfit.reg h
 have hsz:∀d i,d<s.rg.stops.length→(jB s.rg.stops d).testBit i=true→i<(jB s.o.dvs d).stops.length:=fun d i hd h=>b5d hfit.reg hd h
 have hE0:vM s cs=mR (fun j=>tL s (jB cs j)) cs.length:=by unfold vM;rw[if_neg (by rw[tZ.2 hfit];decide)]
 have hsl:=hfit.sl
 have hd1:=hf0.dpos
 have hd2:=hf0.dlen
 refine Wp.al (fun n l H'=>l.length=171∧get l 7=(ptr A3 0 10)∧get l 8=(ptr A4 0 3)∧get l 9=I (vM s cs)∧get l 10=(ptr A5 0 3)∧get l 40=lv∧get l 41=I cs.length∧∃(j:Nat)(g:Reg),(n+j=cs.length∧g=(cs.take j).foldl mX s.rg∧∀q,q<j→tL s (jB cs q)=0)∧get l 42=I j∧St prog H7 H' [⟨ptr A3 0 10,0,[(.string s.o.name),s.o.rv,s.o.dv,s.o.cv,s.sv,(.int .u64 s.rg.cpl),(.int .u64 s.rg.off),s.kv,I s.p.1,I s.p.2]⟩,⟨nv,1,(oR s cs).stops.flatMap (one u64)⟩,⟨ptr A4 0 3,0,[nv,.int .u64 (oR s cs).cpl,.int .u64 (oR s cs).off]⟩,⟨dv,1,g.stops.flatMap (one u64)⟩,⟨ptr A5 0 3,0,[dv,.int .u64 g.cpl,.int .u64 g.off]⟩]) cs.length ?_ ?_
 ·simp(disch:=omega) only[RB,RC,simprocAttr,hn]
  exact⟨0,s.rg,⟨by omega,rfl,fun q hq=>absurd hq (ed _)⟩,rfl,hS15⟩
 rintro n l H16⟨hn,g7,g8,g9,uL,g40,g41,j,g,⟨hj,hg,hz⟩,g42,hS16⟩
 have hgl:g.stops.length=s.rg.stops.length:=by rw[hg,vR]
 simp(disch:=omega) only[↓RA,RB,simprocAttr,hn,g41,g42]
 refine jA (fun q1=> ?_) (fun q1=> ?_)
 ·have hbad:∀e:Int,e≠0→tL s (jB cs j)=e→vM s cs=e∧oR s cs=⟨[],0,0⟩:=fun e h0 h=>by
   have h2:vM s cs=e:=by rw[hE0,pO _ _ j (by omega) (by rw[h];exact h0) hz,h]
   exact⟨h2,by unfold oR;rw[h2,if_neg h0]⟩
  have hnext:tL s (jB cs j)=0→(∀q,q<j+1→tL s (jB cs q)=0)∧mX g (jB cs j)=(cs.take (j+1)).foldl mX s.rg:=fun h=>by
   refine⟨fun q hq=> ?_,?_⟩
   ·rcases dJ.1 hq with e|e
    ·exact hz q e
    ·rw[e];exact h
   ·rw[mQ cs j (by omega),gm,←hg]
    rfl
  simp(disch:=omega) only[↓RA,RZ,simprocAttr,hn,g40,g42,(hS16.sl hl1).idx,(hS16.sl hl1).ae,Ctl.cells,q1]
  refine hS16.eNew 3 [I 0,I 0,I 0] rfl rfl rfl a2n fun A6 H17 hS17=> ?_
  simp only[RT]at hS17
  simp(disch:=omega) only[↓RA,RZ,simprocAttr,hn,q1]
  refine hS17.aa 5 rfl [I (jB cs j).kind,I (jB cs j).dv,I (jB cs j).ix] rfl rfl a2n (by simp) fun H18 hS18=> ?_
  simp only[RT]at hS18
  simp(disch:=omega) only[↓RA,RZ,simprocAttr,hn,hS18.ld 5 rfl,q1]
  generalize hc:jB cs j=c at hbad hnext hS18 ⊢
  refine jY (fun a1=> ?_) (fun a1=> ?_)
  ·simp(disch:=omega) only[↓RA,RZ,simprocAttr,hn,hS18.ld 5 rfl,q1,a1]
   refine jA (fun a2=> ?_) (fun a2=> ?_)
   ·obtain⟨hE1,hE2⟩:=hbad 12 (by decide) (by unfold tL;rw[if_pos ⟨a1,a2⟩])
    have hR0:(oR s cs).stops.length=0:=by rw[hE2];rfl
    simp(disch:=omega) only[↓RA,RZ,simprocAttr,hn,g8,g9,hS18.ld 2 rfl,(hS18.ay 1 rfl (fun _=>rfl)).len,q1,a1,a2,hE1,hR0]
    simp(disch:=omega) only[RB,RC,simprocAttr,hn,tR4]
    exact hS0.forget.trans hS18.forget
   have a2:c.kind=2:=dQ.1 a2
   have hbad10:¬(c.dv=0∧wE s c.ix=true)→vM s cs=10∧oR s cs=⟨[],0,0⟩:=fun h=>hbad 10 (by decide) (by unfold tL;rw[if_neg (fun q=>q.2 a2),if_neg (fun q=>h q.2),if_neg (fun q=>a1 q.1)])
   simp(disch:=omega) only[↓RA,RZ,simprocAttr,hn,hS18.ld 5 rfl,q1,a2]
   refine jI (fun a4=> ?_) (fun a4=> ?_)
   ·obtain⟨hE1,hE2⟩:=hbad10 fun h=>a4 h.1
    have hR0:(oR s cs).stops.length=0:=by rw[hE2];rfl
    simp(disch:=omega) only[↓RA,RZ,simprocAttr,hn,g8,g9,hS18.ld 2 rfl,(hS18.ay 1 rfl (fun _=>rfl)).len,q1,a2,a4,hE1,hR0]
    simp(disch:=omega) only[RB,RC,simprocAttr,hn,tR4]
    exact hS0.forget.trans hS18.forget
   simp(disch:=omega) only[↓RA,RZ,simprocAttr,hn,hS18.ld 5 rfl,q1,a2,a4]
   refine jI (fun a5=> ?_) (fun a5=> ?_)
   ·obtain⟨hE1,hE2⟩:=hbad10 fun h=>by have:=(qY h.2).1;omega
    have hR0:(oR s cs).stops.length=0:=by rw[hE2];rfl
    simp(disch:=omega) only[↓RA,RZ,simprocAttr,hn,g8,g9,hS18.ld 2 rfl,(hS18.ay 1 rfl (fun _=>rfl)).len,q1,a2,a4,a5,hE1,hR0]
    simp(disch:=omega) only[RB,RC,simprocAttr,hn,tR4]
    exact hS0.forget.trans hS18.forget
   simp(disch:=omega) only[↓RA,RZ,simprocAttr,hn,hS18.ld 5 rfl,q1,a2,a4,a5]
   refine jI (fun a6=> ?_) (fun a6=> ?_)
   ·obtain⟨hE1,hE2⟩:=hbad10 fun h=>by have:=(qY h.2).2.1;omega
    have hR0:(oR s cs).stops.length=0:=by rw[hE2];rfl
    simp(disch:=omega) only[↓RA,RZ,simprocAttr,hn,g8,g9,hS18.ld 2 rfl,(hS18.ay 1 rfl (fun _=>rfl)).len,q1,a2,a4,a5,a6,hE1,hR0]
    simp(disch:=omega) only[RB,RC,simprocAttr,hn,tR4]
    exact hS0.forget.trans hS18.forget
   obtain⟨i,hi⟩:∃i:Nat,c.ix=i:=⟨c.ix.toNat,by omega⟩
   rw[hi]at a5 a6
   simp only[hi]at hS18
   have e1:=a6i s.rg.cpl i hs.rg.2.2.2.1
   have e2:=a5M (s.rg.cpl>>>i) (a1i _ hs.rg.2.2.2.1)
   have e3:s.rg.cpl.testBit i=decide (s.rg.cpl>>>i%2=1):=tb _ _
   simp(disch:=omega) only[↓RA,RZ,simprocAttr,hn,g7,hS18.ld 0 rfl,hS18.ld 5 rfl,q1,a2,a4,a5,a6,hi,e1,e2]
   refine jA (fun a7=> ?_) (fun a7=> ?_)
   ·obtain⟨hE1,hE2⟩:=hbad10 fun h=>by
     have h5:=(qY h.2).2.2
     rw[hi,dV,e3]at h5
     have:=of_decide_eq_true h5
     omega
    have hR0:(oR s cs).stops.length=0:=by rw[hE2];rfl
    simp(disch:=omega) only[↓RA,RZ,simprocAttr,hn,g8,g9,hS18.ld 2 rfl,(hS18.ay 1 rfl (fun _=>rfl)).len,q1,a2,a4,a5,a6,hi,a7,hE1,hR0]
    simp(disch:=omega) only[RB,RC,simprocAttr,hn,tR4]
    exact hS0.forget.trans hS18.forget
   have htb:s.rg.cpl.testBit i=true:=by rw[e3];exact decide_eq_true (by omega)
   have hcp:wE s c.ix=true:=by
    unfold wE
    rw[hi,decide_eq_true (show(0:Int)≤i by omega),decide_eq_true (show(i:Int)<s.o.cpls.length by have:=hcz i htb;omega),dV,htb]
    rfl
   have e4:=c2C g.cpl i (by omega)
   obtain⟨hn1,hn2⟩:=hnext (by unfold tL;rw[if_neg (fun q=>q.2 a2),if_pos ⟨a2,by omega,hcp⟩])
   have hlf:mX g c={g with cpl:=a0b g.cpl i}:=by unfold mX;rw[if_neg a1,if_pos a2,hi]
   simp(disch:=omega) only[↓RA,RZ,simprocAttr,hn,uL,hS18.ld 4 rfl,hS18.ld 5 rfl,q1,a2,a4,a5,a6,hi,a7,e4]
   refine hS18.aa 4 rfl [_] rfl rfl b1u (by simp) fun H19 hS19=> ?_
   simp only[RT]at hS19
   simp(disch:=omega) only[↓RA,RZ,simprocAttr,hn,g7,g8,g9,uL,g40,g41,g42,q1,a2,a4,a5,a6,hi,a7]
   refine⟨n-1,by omega,j+1,mX g c,⟨by omega,hn2,hn1⟩,by simp,?_⟩
   rw[hlf]
   exact hS19.pick [0,1,2,3,4] (by decide) rfl
  have a1:c.kind=1:=dQ.1 a1
  have hbad10:¬(0≤c.dv∧c.dv<s.rg.stops.length∧0≤c.ix∧c.ix<64∧(jB s.rg.stops c.dv.toNat).testBit c.ix.toNat=true)→vM s cs=10∧oR s cs=⟨[],0,0⟩:=fun h=>hbad 10 (by decide) (by unfold tL;rw[if_neg (fun q=>q.1 a1),if_neg (fun q=>by omega),if_neg (fun q=>h q.2)])
  simp(disch:=omega) only[↓RA,RZ,simprocAttr,hn,hS18.ld 5 rfl,q1,a1]
  refine Wp.drw kP (by kernel_rfl) ?_
  simp(disch:=omega) only[↓RA,RZ,simprocAttr,hn,hS18.ld 5 rfl,a1]
  refine jI (fun b4=> ?_) (fun b4=> ?_)
  ·obtain⟨hE1,hE2⟩:=hbad10 fun h=>by omega
   have hR0:(oR s cs).stops.length=0:=by rw[hE2];rfl
   simp(disch:=omega) only[↓RA,RZ,simprocAttr,hn,g8,g9,hS18.ld 2 rfl,(hS18.ay 1 rfl (fun _=>rfl)).len,b4,hE1,hR0]
   simp(disch:=omega) only[RB,RC,simprocAttr,hn,tR4]
   exact hS0.forget.trans hS18.forget
  simp(disch:=omega) only[↓RA,RZ,simprocAttr,hn,uL,hS18.ld 5 rfl,hS18.ld 4 rfl,(hS18.ay 3 rfl (fun _=>rfl)).len,a1,b4]
  refine jI (fun b5=> ?_) (fun b5=> ?_)
  ·obtain⟨hE1,hE2⟩:=hbad10 fun h=>by omega
   have hR0:(oR s cs).stops.length=0:=by rw[hE2];rfl
   simp(disch:=omega) only[↓RA,RZ,simprocAttr,hn,g8,g9,hS18.ld 2 rfl,(hS18.ay 1 rfl (fun _=>rfl)).len,b4,b5,hE1,hR0]
   simp(disch:=omega) only[RB,RC,simprocAttr,hn,tR4]
   exact hS0.forget.trans hS18.forget
  obtain⟨d,hd⟩:∃d:Nat,c.dv=d:=⟨c.dv.toNat,by omega⟩
  have hdl:d<s.rg.stops.length:=by omega
  have hsx:=hs.rg.2.2.1 _ (jE (xs:=s.rg.stops) (j:=d) hdl)
  rw[hd]at b4 b5
  simp only[hd]at hS18
  simp(disch:=omega) only[↓RA,RZ,simprocAttr,hn,hS18.ld 5 rfl,a1,b4,b5,hd]
  refine jI (fun b6=> ?_) (fun b6=> ?_)
  ·obtain⟨hE1,hE2⟩:=hbad10 fun h=>by omega
   have hR0:(oR s cs).stops.length=0:=by rw[hE2];rfl
   simp(disch:=omega) only[↓RA,RZ,simprocAttr,hn,g8,g9,hS18.ld 2 rfl,(hS18.ay 1 rfl (fun _=>rfl)).len,b4,b5,hd,b6,hE1,hR0]
   simp(disch:=omega) only[RB,RC,simprocAttr,hn,tR4]
   exact hS0.forget.trans hS18.forget
  simp(disch:=omega) only[↓RA,RZ,simprocAttr,hn,hS18.ld 5 rfl,a1,b4,b5,hd,b6]
  refine jI (fun b7=> ?_) (fun b7=> ?_)
  ·obtain⟨hE1,hE2⟩:=hbad10 fun h=>by
    have h5:=h.2.2.2.2
    rw[hd,dV]at h5
    have h6:=hsz d _ hdl h5
    have h7:=k3 d (by omega)
    omega
   have hR0:(oR s cs).stops.length=0:=by rw[hE2];rfl
   simp(disch:=omega) only[↓RA,RZ,simprocAttr,hn,g8,g9,hS18.ld 2 rfl,(hS18.ay 1 rfl (fun _=>rfl)).len,b4,b5,hd,b6,b7,hE1,hR0]
   simp(disch:=omega) only[RB,RC,simprocAttr,hn,tR4]
   exact hS0.forget.trans hS18.forget
  obtain⟨i,hi⟩:∃i:Nat,c.ix=i:=⟨c.ix.toNat,by omega⟩
  rw[hi]at b6 b7
  simp only[hi]at hS18
  have e1:=a6i (jB s.rg.stops d) i hsx
  have e2:=a5M (jB s.rg.stops d>>>i) (a1i _ hsx)
  have e3:(jB s.rg.stops d).testBit i=decide (jB s.rg.stops d>>>i%2=1):=tb _ _
  simp(disch:=omega) only[↓RA,RZ,simprocAttr,hn,g7,hS18.ld 0 rfl,hS18.ld 5 rfl,(hS18.sl hs.rg.1).idx,(hS18.sl hs.rg.1).ld,one,u64,a1,b4,b5,hd,b6,b7,hi,e1,e2]
  refine jA (fun b8=> ?_) (fun b8=> ?_)
  ·obtain⟨hE1,hE2⟩:=hbad10 fun h=>by
    have h5:=h.2.2.2.2
    rw[hd,hi,dV,dV,e3]at h5
    have:=of_decide_eq_true h5
    omega
   have hR0:(oR s cs).stops.length=0:=by rw[hE2];rfl
   simp(disch:=omega) only[↓RA,RZ,simprocAttr,hn,g8,g9,hS18.ld 2 rfl,(hS18.ay 1 rfl (fun _=>rfl)).len,b4,b5,hd,b6,b7,hi,b8,hE1,hR0]
   simp(disch:=omega) only[RB,RC,simprocAttr,hn,tR4]
   exact hS0.forget.trans hS18.forget
  have htb:(jB s.rg.stops c.dv.toNat).testBit c.ix.toNat=true:=by rw[hd,hi,dV,dV,e3];exact decide_eq_true (by omega)
  obtain⟨hn1,hn2⟩:=hnext (by unfold tL;rw[if_neg (fun q=>q.1 a1),if_neg (fun q=>by omega),if_pos ⟨a1,by omega,by omega,by omega,by omega,htb⟩])
  have hlf:(mX g c).stops.flatMap (one u64)=(g.stops.flatMap (one u64)).set d (.int .u64 (a0b (jB g.stops d) i:Nat)):=by
   rw[mX,if_pos a1,mM,mM,hd,hi]
   show(g.stops.set d _).map u64=_
   rw[iE]
   rfl
  have hlc:(mX g c).cpl=g.cpl∧(mX g c).off=g.off:=by rw[mX,if_pos a1];exact⟨rfl,rfl⟩
  have e4:=c2C (jB g.stops d) i (by omega)
  simp(disch:=omega) only[↓RA,RC,simprocAttr,b4,b5,hd,b6,b7,hi,b8]
  refine Wp.drw kP (by kernel_rfl) ?_
  simp(disch:=omega) only[↓RA,RZ,simprocAttr,hn,uL,hS18.ld 4 rfl,hS18.ld 5 rfl,(hS18.ay 3 rfl (fun _=>rfl)).idx,(hS18.ay 3 rfl (fun _=>rfl)).ld,one,u64,a1,e4,one,u64]
  refine hS18.aX 3 rfl [(.int .u64 (a0b (jB g.stops d) i:Nat))] rfl rfl b1u (by simp) (by have h:(g.stops.flatMap (one u64)).length=g.stops.length:=(jK (n:=1) (fun _=>rfl) _).trans (by omega);rw[h];simp;omega) fun H20 hS20=> ?_
  simp only[RT]at hS20
  simp(disch:=omega) only[↓RA,RZ,simprocAttr,hn,g7,g8,g9,uL,g40,g41,g42]
  refine⟨n-1,by omega,j+1,mX g c,⟨by omega,hn2,hn1⟩,by simp,?_⟩
  rw[hlf,hlc.1,hlc.2]
  exact hS20.pick [0,1,2,3,4] (by decide) rfl
 have hjj:j=cs.length:=by omega
 subst hjj
 have hE:vM s cs=0:=by rw[hE0];exact lW _ _ hz
 have hR:oR s cs=g:=by unfold oR;rw[if_pos hE,hg,eQ]
 simp(disch:=omega) only[↓RA,RZ,simprocAttr,hn,g8,g9,q1,hE]
 simp(disch:=omega) only[↓RA,RZ,simprocAttr,hn,uL,hS16.ae 2 rfl,hS16.ae 4 rfl,q1]
 have hgo:g.Ok:=by
  have key:∀(l:List Ctl)(g:Reg),g.Ok→(l.foldl mX g).Ok:=by
   intro l
   induction l with
   | nil=>exact fun g h=>h
   | cons c l ih=>exact fun g h=>ih _ (b7y h c)
  rw[hg]
  exact key _ _ hs.rg.2
 rw[hR]
 rw[hR]at hS16
 refine hS16.cF (b4y g nv dv ⟨hS16.ay 1 rfl (fun _=>rfl),hgo⟩ ⟨hS16.ay 3 rfl (fun _=>rfl),hgo⟩ (by omega)) fun H21 hS21=> ?_
 simp(disch:=omega) only[↓RA,RZ,simprocAttr,hn,tR4,q1]
 exact hS0.forget.trans hS21.forget
end Go.Ds
