/-
  A part of the proof of ReasonCompares.
-/
import Derived.Test.YtfmbcecfgpbmhaaGreatDoorVK
import Derived.Shelf.SlSortCmp.NoneTotal
import Derived.Test.YtfmbcecfgpbmhaaGreatDoorVD
import Derived.Test.YtfmbcecfgpbmhaaGreatDoorVC
import Derived.Test.YtfmbcecfgpbmhaaGreatDoorVI
import Derived.Test.YtfmbcecfgpbmhaaGreatDoorVB
set_option linter.unusedVariables false
set_option linter.unusedSimpArgs false
set_option linter.defProp false
set_option linter.unusedSectionVars false
namespace Go.Ds
open Go.Proofs Go.Proofs.Tryz Go.Shelf Go.RowKit Go.Lib Go.Sort
theorem sD{α:Type}(kf:α→List Int)(x y:α):ltOf (fun x y=>kX (kf x) (kf y)) x y=decide (kX (kf x) (kf y)=-1):=by
 have:=pR (kf x) (kf y)
 exact decide_eq_decide.2 (by show kX (kf x) (kf y)<0↔_;omega)
theorem c3x{α:Type}(kf:α→List Int):SWO (ltOf fun x y=>kX (kf x) (kf y)) where
 irrefl x:=by
  rw[sD,mR.2 rfl]
  rfl
 trans x y z h1 h2:=by
  rw[sD,decide_eq_true_eq]at*
  exact tA h1 h2
 ntrans x y z h1 h2:=by
  rw[sD,decide_eq_false_iff_not]at*
  intro h
  have n1:=pJ (kf y) (kf x)
  have n2:=pJ (kf z) (kf y)
  rcases pR (kf y) (kf x)with e1|e1|e1
  ·rcases pR (kf z) (kf y)with e2|e2|e2
   ·have h3:=tA e2 e1
    have n3:=pJ (kf z) (kf x)
    omega
   ·rw[mR]at e2
    rw[e2]at h
    omega
   ·omega
  ·rw[mR]at e1
   rw[e1]at h2
   exact h2 h
  ·omega
theorem c2Q{α:Type}{kf:α→List Int}(hk:∀x y,kf x=kf y→x=y)(x y:α)(h1:ltOf (fun x y=>kX (kf x) (kf y)) x y=false)(h2:ltOf (fun x y=>kX (kf x) (kf y)) y x=false):x=y:=by
 rw[sD,decide_eq_false_iff_not]at h1 h2
 refine hk _ _ (mR.1 ?_)
 have:=pR (kf x) (kf y)
 have n:=pJ (kf x) (kf y)
 omega
def leR(a b:Rn):Bool:= !decide (sC b a=-1)
def b9W(es:List Rn):List Rn:=es.mergeSort leR
theorem soR:b5k prog 53 11 6:=
 fun enc hk h1 cf hO hT jY off cap d w hlay hH hblk hsz=>
  AnyQ.slices_SortFunc_total Tryz.ch 6 Tryz.isAgg26 Tryz.sizeOf26 enc hk h1 cf hO 11 #[] jY off cap d w (enters_of func11 (by kernel_rfl) rfl) hlay hH hblk hsz hT
theorem snR:rZ prog 53:=fun p cap fv w=>AnyF.slices_SortFunc_none {Tryz.ch with} p cap fv w
theorem enR:nN prog 53:=⟨Tryz.f53,func53,by kernel_rfl,by kernel_rfl⟩
theorem b7d(es:List Rn)(σ:List (Fin (es.map Rn.cells).length)):(σ.flatMap fun x=>(es.map Rn.cells)[x])=(σ.map fun x=>iG es x.1).flatMap Rn.cells:=by
 rw[List.flatMap_map]
 congr 1
 funext x
 rw[jV es x.1 (Nat.lt_of_lt_of_eq x.2 (dC _))]
 simp
theorem b9Z(es:List Rn):((List.finRange (es.map Rn.cells).length).map fun x=>iG es x.1)=es:=by
 apply List.ext_getElem
 ·simp
 ·intro i h1 h2
  simp only[List.getElem_map,List.getElem_finRange]
  exact jV es i h2
set_option maxHeartbeats 1000000 in
theorem b5Y{H:Heap}{B:Base}{os:List Ob}(hS:St prog B H os)(i:Nat){v:Value}{es:List Rn}(ho:os[i]? =some ⟨v,6,es.flatMap Rn.cells⟩)(hl:es.length<100000000000)(hin:∀r∈es,r.In H)(hne:∀r∈es,∀A,jY v=some A→jY r.cv≠some A)(hnd:es.Pairwise fun a b=>xJ a≠xJ b)
 {Q:Value→Heap→Prop} (h:∀H1,St prog B H1 (os.set i ⟨v,6,(b9W es).flatMap Rn.cells⟩)→Q (.tuple #[]) H1):qW prog 53 [v,.func (.func 11) #[] #[]] H Q:=by
 have hlen:(es.map Rn.cells).length=es.length:=dC _
 have hfl:(es.map Rn.cells).flatten=es.flatMap Rn.cells:=rfl
 have hkf:∀x y:Fin (es.map Rn.cells).length,xJ (iG es x.1)=xJ (iG es y.1)→x=y:=fun x y e=>by
  have hx:=Nat.lt_of_lt_of_eq x.2 hlen
  have hy:=Nat.lt_of_lt_of_eq y.2 hlen
  rw[jV es _ hx,jV es _ hy]at e
  rw[eK]at hnd
  apply Fin.ext
  rcases ij x.1 y.1 with h|h|h
  ·exact absurd e (hnd _ _ hx hy h)
  ·exact h
  ·exact absurd e.symm (hnd _ _ hy hx h)
 refine b5S soR snR enR hS i (rs:=es.map Rn.cells) (by rw[hfl];exact ho) (by rw[hlen];exact hl) (fun r hr=> ?_) (fun x y=>sC (iG es x.1) (iG es y.1)) (c3x fun x:Fin (es.map Rn.cells).length=>xJ (iG es x.1)) (c2Q hkf) (fun{A ρ w p e}=>b5G (fun a b ha hb=>a5c a b ha hb) hin hne) ?_
 ·obtain⟨q,_,rfl⟩:=dE.1 hr
  rfl
 ·intro H1 hH
  refine h H1 ?_
  rw[b7d,List.map_mergeSort (s:=leR),b9Z]at hH
  ·exact hH
  ·intro a _ b _
   unfold leR
   rw[show(fun x y:Fin (es.map Rn.cells).length=>sC (iG es x.1) (iG es y.1))=fun x y=>kX (xJ (iG es x.1)) (xJ (iG es y.1))from rfl,sD (fun x:Fin (es.map Rn.cells).length=>xJ (iG es x.1))]
   rfl
end Go.Ds
namespace Go.Ds
open Go.Proofs Go.Proofs.Tryz
variable {H:Heap}
set_option maxRecDepth 10000
set_option maxHeartbeats 1000000
def b1G(s:Sn)(i:Nat):List Rp×Bool:=((iK s.ks).take i).foldl (fun q c=>a0L s 1025 c [] c [] q) ([],false)
theorem a3W(s:Sn){i:Nat}(h:i<(iK s.ks).length):b1G s (i+1)=a0L s 1025 (iG (iK s.ks) i) [] (iG (iK s.ks) i) [] (b1G s i):=by
 unfold b1G
 rw[mS _ _ h,gr]
 rfl
theorem a7d{s:Sn}(hf:s.Fit)(hk:∀x∈s.ks,Nt.Ok x):∀i,i≤(iK s.ks).length→Met (((iK s.ks).take i).flatMap fun c=>full s 1025 c [] c []) (b1G s i)
 | 0,_=>⟨fun _=>⟨rfl,by simp⟩,fun h=>by cases h⟩
 | i+1,h=>by
   rw[a3W s h,mS _ _ h,dD]
   have h1:=a7d hf hk i (by omega)
   have:=b3U hf 1025 (pl:=iG (iK s.ks) i) (cps:=[]) (a:=iG (iK s.ks) i) (seen:=[]) (sJ hk hf.keys _ (iM h)) h1
   simpa using this
theorem b4c{s:Sn}(hf:s.Fit)(hk:∀x∈s.ks,Nt.Ok x):Met (a6A s) (b1G s (iK s.ks).length):=by
 have:=a7d hf hk _ (dm _)
 rw[eo]at this
 exact this
def leP(a b:Rp):Bool:= !decide (c4W b a=-1)
def tS(s:Sn):Int:=if snE s≠0 then snE s else if 500<(a6A s).length then 4 else 0
def pN(s:Sn):List Rp:=if tS s=0 then(a6A s).mergeSort leP else[]
theorem b7N(es:List Rn):(b9W es).map Rn.rp=(es.map Rn.rp).mergeSort leP:=by
 unfold b9W
 exact List.map_mergeSort fun a _ b _=>rfl
theorem Sl.cO{α:Type}{n:Nat}{cel:α→List Value}(hc:∀x,(cel x).length=n)(hp:0<n):Sl n cel H (.slice none 0 0) []:=⟨.inl ⟨rfl,rfl⟩,hc,hp⟩
theorem b9a(hG:Glob gH H)(s:Sn)(hs:s.In H):Fn prog 21 [s.v] H fun r H'=>∃(ov:Value)(es:List Rn),r=.tuple #[ov,I (tS s)]∧es.map Rn.rp=pN s∧(∀e∈es,Slx 1 (one I) H' (fun A=>H.length≤A∧jY ov≠some A) e.cv e.cps∧e.cps.length≤1024)∧St prog H H' [⟨ov,6,es.flatMap Rn.cells⟩]:=by
 refine .aS func21 rfl (by kernel_rfl) (m:=44) rfl fun l hn g0=> ?_
 simp(disch:=omega) only[↓RA,RB,simprocAttr,g0]
 refine(sR H).eNew 10 [(.string s.o.name),s.o.rv,s.o.dv,s.o.cv,s.sv,(.int .u64 s.rg.cpl),(.int .u64 s.rg.off),s.kv,I s.p.1,I s.p.2] rfl rfl (by simp[OC,((sR H).sl hs.o.1).cells.2.1,((sR H).sl hs.o.2.2.1).cells.2.1,((sR H).sl hs.o.2.2.2.2.1).cells.2.1,((sR H).sl hs.rg.1).cells.2.1,((sR H).sl hs.ks.sl).cells.2.1]) rQ fun A1 H1 hS1=> ?_
 simp only[RT]at hS1
 simp(disch:=omega) only[↓RA,RZ,simprocAttr,hn,hS1.ae 0 rfl]
 refine hS1.cF (zR s (hs.ag hS1)) fun H2 hS2=> ?_
 simp(disch:=omega) only[↓RA,RB,simprocAttr,hn]
 refine iF (fun h1=> ?_) (fun h1=> ?_)
 ·have hE:tS s=snE s:=by unfold tS;rw[if_pos h1]
  have hA:pN s=[]:=by unfold pN;rw[hE,if_neg h1]
  simp(disch:=omega) only[↓RA,RZ,simprocAttr,hn,c1D,h1]
  rw[hE,hA]
  exact⟨.slice none 0 0,[],rfl,rfl,fun e he=>absurd he (eF),(hS2.forget).nil 5⟩
 have hz:snE s=0:=dI.1 h1
 have hf:=yJ.1 hz
 have hpl:=zA hf.keys
 have hct:=sJ hs.ks.ok hf.keys
 have hmet:=b4c hf hs.ks.ok
 simp(disch:=omega) only[↓RA,RC,simprocAttr,h1]
 refine Wp.aL kJ [(0,3)] (by kernel_rfl) (by kernel_rfl) ?_
 simp(disch:=omega) only[↓RA,RZ,simprocAttr,hn,hS2.ae 0 rfl]
 refine iR (yA s (hs.ag hS2) hf) ?_
 rintro r H3⟨M,kvs,rfl,hD,hT2⟩
 have hS3:=hS2.trans hT2
 simp only[RT]at hS3
 simp(disch:=omega) only[↓RA,RB,simprocAttr,hn,b3A (hS3.sl hs.o.1).cells (hS3.sl hs.o.2.2.1).cells (hS3.sl hs.o.2.2.2.2.1).cells (hS3.sl hs.rg.1).cells (hS3.sl hs.ks.sl).cells (show(Value.map (some M)).cells=#[(Value.map (some M))]∧oneCell (Value.map (some M))=true∧mK (Value.map (some M))=true from⟨rfl,rfl,rfl⟩)]
 refine hS3.eNew 13 [(.string s.o.name),s.o.rv,s.o.dv,s.o.cv,s.sv,(.int .u64 s.rg.cpl),(.int .u64 s.rg.off),s.kv,I s.p.1,I s.p.2,(.map (some M)),(.slice none 0 0),(.bool false)] rfl rfl (by simp[OC,(hS3.sl hs.o.1).cells.2.1,(hS3.sl hs.o.2.2.1).cells.2.1,(hS3.sl hs.o.2.2.2.2.1).cells.2.1,(hS3.sl hs.rg.1).cells.2.1,(hS3.sl hs.ks.sl).cells.2.1]) c0t fun A2 H4 hS4=> ?_
 simp only[RT]at hS4
 simp(disch:=omega) only[↓RA,RZ,simprocAttr,hn,hS3.ae 0 rfl,hS4.ae 0 rfl]
 refine iR ((wW (hS4.gl hG) s (hs.ag hS4) hf).tr) ?_
 rintro r H5⟨-,hT3⟩
 have hS5:=hS4.trans hT3
 simp only[RT]at hS5
 obtain⟨pw,rfl⟩:∃w,w=r:=⟨r,rfl⟩
 simp(disch:=omega) only[↓RA,RZ,simprocAttr,hn,(hS5.az 3 rfl kI).len]
 have hS6:=hS5.nil 5
 simp only[RT]at hS6
 refine Wp.aj (fun n l H'=>l.length=44∧get l 2=(.slice none 0 0)∧get l 3=I 0∧get l 5=(ptr A2 0 13)∧get l 19=pw∧get l 20=I (iK s.ks).length∧∃(i:Nat)(ov:Value)(es:List Rn)(mn:Bool),(n+i=(iK s.ks).length∧(es.map Rn.rp,mn)=b1G s i∧(∀e∈es,Slx 1 (one I) H' (nb [ptr A1 0 10,.map (some M),ptr A2 0 13,pw,ov]) e.cv e.cps∧e.cps.length≤1024∧∀A,jY e.cv=some A→H.length≤A)∧es.length≤560+60*i)∧get l 21=I i∧St prog H H' [⟨ptr A1 0 10,0,[(.string s.o.name),s.o.rv,s.o.dv,s.o.cv,s.sv,(.int .u64 s.rg.cpl),(.int .u64 s.rg.off),s.kv,I s.p.1,I s.p.2]⟩,⟨.map (some M),0,KN kvs⟩,⟨ptr A2 0 13,0,[.string s.o.name,s.o.rv,s.o.dv,s.o.cv,s.sv,.int .u64 s.rg.cpl,.int .u64 s.rg.off,s.kv,I s.p.1,I s.p.2,.map (some M),ov,.bool mn]⟩,⟨pw,2,pr (iK s.ks)⟩,⟨ov,6,es.flatMap Rn.cells⟩]) (iK s.ks).length ?_ ?_
 ·simp(disch:=omega) only[RB,RC,simprocAttr,hn]
  exact⟨0,.slice none 0 0,[],false,⟨by omega,rfl,fun e he=>absurd he (eF),by simp⟩,rfl,hS6⟩
 rintro n l H6⟨hn,g2,g3,g5,g19,g20,i,ov,es,mn,⟨hi,hQ,hN,hL⟩,g21,hS7⟩
 simp(disch:=omega) only[↓RA,RB,simprocAttr,hn,g20,g21]
 refine iF (fun q1=> ?_) (fun q1=> ?_)
 ·have hci:=hct _ (iM (xs:=iK s.ks) (j:=i) (by omega))
  have hco:=(kU s.o _).1 hci
  have hpre:=hS7
  obtain⟨B1,hBB1,hS8⟩:=hS7.aQ (os:=[⟨ptr A1 0 10,0,_⟩,⟨.map (some M),0,_⟩,⟨ptr A2 0 13,0,_⟩,⟨pw,2,_⟩,⟨ov,6,_⟩])
  have hun:∀{H1:Heap}{os:List Ob},St prog B1 H1 os→St prog H H1 os:=fun h=>hpre.ax hBB1 h
  have hkp:∀{H1 os},St prog B1 H1 os→∀e∈es,Slx 1 (one I) H1 (nb (os.map (·.v))) e.cv e.cps:=fun h e he=>(hN e he).1.step (h.kept hBB1)
  simp(disch:=omega) only[↓RA,RZ,simprocAttr,hn,g19,g21,(hS8.az 3 rfl kI).idx,(hS8.az 3 rfl kI).ae,lE,q1]
  refine hS8.eNew 2 [I 0,I 0] rfl rfl rfl lG fun A3 H7 hS9=> ?_
  simp only[RT]at hS9
  simp(disch:=omega) only[↓RA,RZ,simprocAttr,hn,q1]
  refine hS9.aa 5 rfl [I (iG (iK s.ks) i).1,I (iG (iK s.ks) i).2] rfl rfl lG (by simp) fun H8 hS10=> ?_
  simp only[RT]at hS10
  simp(disch:=omega) only[↓RA,RZ,simprocAttr,hn,g5,hS10.ae 5 rfl,a6l,q1]
  have hSc:=hS10
  have hM1:=hS10.pick (os':=[⟨ptr A2 0 13,0,_⟩,⟨ov,6,_⟩]) [2,4] (by decide) rfl
  have hR1:=hS10.pick (os':=[⟨ptr A2 0 13,0,_⟩,⟨ov,6,_⟩,⟨ptr A1 0 10,0,_⟩,⟨.map (some M),0,_⟩,⟨pw,2,_⟩,⟨ptr A3 0 2,0,_⟩]) [2,4,0,1,3,5] (by decide) rfl
  refine iR (b2X hf hD A2 1025 ⟨iG (iK s.ks) i,.slice none 0 0,[],iG (iK s.ks) i,0⟩ (.slice none 0 0) [] ov es mn hM1.aO (fun h=>⟨hs.ag (hun (hR1.frame h.forget)),(hR1.frame h.forget).own _ (dB (i:=1) rfl),Sl.cO kI (by decide)⟩) (fun h=>⟨Sl.cO (fun _=>rfl) (by decide),fun B hb=>by cases hb⟩) (Que.nil _) hci hco.1 rfl rfl (by omega)) ?_
  rintro r H9⟨rfl,ov3,new2,mn2,hM1,hM2,hM3,hM4,hT4⟩
  have hS11:=hR1.frame hT4
  simp only[RT]at hS11
  simp(disch:=omega) only[↓RA,RZ,simprocAttr,hn,g2,g3,g5,g19,g20,g21,q1]
  refine⟨n-1,by omega,i+1,ov3,es++new2,mn2,⟨by omega,?_,fun e he=> ?_,by omega⟩,by simp,?_⟩
  ·rw[a3W s (by omega),←hQ,←hM3]
  ·rcases dP.1 he with he|he
   ·exact⟨(hkp hS11 e he).bn (by simp),(hN e he).2⟩
   ·obtain⟨h1,h0,h2⟩:=hM4 e he
    have h3:∀A,jY e.cv=some A→_≤A:=fun A hA=>(h2 A hA).resolve_left fun h=>by cases h
    refine⟨⟨h1.1,fun A hA v hv=> ?_⟩,h0,fun A hA=>dK (hun hSc).len (h3 A hA)⟩
    simp only[ej,eF,or_false]at hv
    rcases hv with rfl|rfl|rfl|rfl|rfl
    ·exact fun hV=>absurd ((hSc.own _ (dB (i:=0) rfl)).lt hV) (Nat.not_lt.2 (h3 A hA))
    ·exact fun hV=>absurd ((hSc.own _ (dB (i:=1) rfl)).lt hV) (Nat.not_lt.2 (h3 A hA))
    ·exact h1.2 A hA _ (by simp)
    ·exact fun hV=>absurd ((hSc.own _ (dB (i:=3) rfl)).lt hV) (Nat.not_lt.2 (h3 A hA))
    ·exact h1.2 A hA _ (by simp)
  ·exact(hS7.ax hBB1 hS11).pick [2,3,0,4,1] (by decide) rfl
 have hii:i=(iK s.ks).length:=by omega
 rw[hii]at hQ
 rw[←hQ]at hmet
 simp(disch:=omega) only[↓RA,RZ,simprocAttr,hn,g5,lD,lB,hS7.ld 2 rfl,q1]
 refine jD (fun q2=> ?_) (fun q2=> ?_)
 ·have hb:=hmet.2 q2
  have hE:tS s=4:=by unfold tS;rw[if_neg h1,if_pos hb]
  have hA:pN s=[]:=by unfold pN;rw[hE,if_neg (by decide)]
  simp(disch:=omega) only[↓RA,RZ,simprocAttr,hn,c1D,q1,q2]
  rw[hE,hA]
  exact⟨.slice none 0 0,[],rfl,rfl,fun e he=>absurd he (eF),(hS7.forget).nil 5⟩
 obtain⟨hb1,hb2⟩:=hmet.1 (by simpa using q2)
 have hE:tS s=0:=by unfold tS;rw[if_neg h1,if_neg (by omega)]
 have hA:pN s=(a6A s).mergeSort leP:=by unfold pN;rw[if_pos hE]
 have hpre:=hS7
 obtain⟨B2,hBB2,hS12⟩:=hS7.aQ (os:=[⟨ptr A1 0 10,0,_⟩,⟨.map (some M),0,_⟩,⟨ptr A2 0 13,0,_⟩,⟨pw,2,_⟩,⟨ov,6,_⟩])
 have hks:∀{H1 os},St prog B2 H1 os→∀e∈es,Slx 1 (one I) H1 (nb (os.map (·.v))) e.cv e.cps:=fun h e he=>(hN e he).1.step (h.kept hBB2)
 have hnd:=b9Y (s:=s)
 rw[←hb1,fO]at hnd
 simp(disch:=omega) only[↓RA,RZ,simprocAttr,hn,g5,lD,lB,hS12.ld 2 rfl,q1,q2]
 refine b5Y hS12 4 rfl (by omega) (fun r hr=>⟨(hks hS12 r hr).1,by have:=(hN r hr).2.1;omega⟩) (fun r hr A hA hB=>(hks hS12 r hr).2 A hB ov (by simp) hA) (hnd.imp fun h e=>h (b5m e)) fun HS hSS=> ?_
 simp only[List.set_cons_succ,gf]at hSS
 have hnt:jL ov=true:=(hSS.az (cel:=Rn.cells) 4 rfl (fun _=>rfl)).bu
 simp(disch:=omega) only[↓RA,RZ,simprocAttr,hn,g5,lD,lB,hSS.ld 2 rfl,c1D,q1,q2,hnt]
 refine⟨ov,b9W es,?_,?_,fun e he=> ?_,?_⟩
 ·rw[hE]
 ·rw[hA,b7N,show es.map Rn.rp=a6A s from hb1]
 ·have he2:e∈es:=List.mem_mergeSort.1 he
  exact⟨⟨(hks hSS e he2).1,fun A hA=>⟨(hN e he2).2.2 A hA,(hks hSS e he2).2 A hA ov (by simp)⟩⟩,(hN e he2).2.1⟩
 ·exact(hS7.ax hBB2 hSS).pick [4] (by decide) rfl
end Go.Ds
namespace Go.Ds
open Go.Proofs
open Go.Shelf Go.RowKit Go.Lib Go.Sort
def b5e(P:Program)(K kc:FuncId)(k:Nat):Prop:=∀{α:Type}[Inhabited α](enc:α→List Value)(_:∀x,(enc x).length=k)(_:∀x,∀v∈enc x,v.oneCell'=true)(cf:α→α→Int)(_:SWO (ltOf cf))(_:∀x y,(ltOf cf) x y=false→(ltOf cf) y x=false→x=y)(jY off cap:Nat)(d:Array α)(w:World),
    CmpLays P kc #[] enc k cf jY off d.size w→HoldsK enc k w jY off d→jY<w.heap.size→d.size<4611686018427387904→
    Calls P K #[.slice (some ⟨jY,off,none⟩) d.size cap,.func (.func kc) #[] #[]] w fun e w'=>e=.returned (.tuple #[])∧∃n os,w'=sortWorldK enc k w jY off n (d.toList.mergeSort fun x y=> !(ltOf cf) y x).toArray os
set_option maxRecDepth 10000 in
theorem b2D{α:Type}[Inhabited α]{enc:α→List Value}{P:Program}{K kc:FuncId}{k:Nat}(hel:∀x,(enc x).length=k)(hsc:∀x,∀v∈enc x,iZ v=true)(hone:∀x,∀v∈enc x,v.oneCell'=true)(hk0:0<k)(hso:b5e P K kc k){H:Heap}{A i lo ver:Nat}{ty:TypeId}{pre:List Value}{xs:List α}(hne:0<xs.length)(hbig:xs.length<100000000000)
 (hg:iT H A=some (.cells (pre++xs.flatMap enc) ty true lo ver)) (hlo:lo≤i+(xs.flatMap enc).length) (hpre:pre.length=i) (hty:iJ P ty=some k) (cf:α→α→Int) (hO:SWO (ltOf cf)) (hT:∀x y,(ltOf cf) x y=false→(ltOf cf) y x=false→x=y)
 (hcmp:∀(W:World)x y,Calls P kc #[.agg (enc x).toArray,.agg (enc y).toArray] W fun e w'=>e=.returned (.int .i64 (cf x y))∧∃q os',w'=Go.Sort.grow (W.drewN q) os'):
 CallOk P K [.slice (some ⟨A,i,some (i+(xs.flatMap enc).length)⟩) xs.length k,.func (.func kc) #[] #[]] H (.tuple #[]) (hset H A (.cells (jC (pre++xs.flatMap enc) i ((xs.mergeSort fun x y=> !(ltOf cf) y x).flatMap enc)) ty true (pre++xs.flatMap enc).length ver)):=by
 intro q ρ w args' hr ha
 obtain⟨l⟩:=args'
 match l,ha with
 | [x,f],⟨hx,hf,_⟩=>
   obtain rfl:=V.func0 hf
   have hfl:(xs.flatMap enc).length=xs.length*k:=a7z hel xs
   have hlen:(pre++xs.flatMap enc).length=i+(xs.flatMap enc).length:=by rw[du,hpre]
   obtain⟨p,c',a,hp,h0',hin,hnc,hac,hpk,rfl⟩:=hx.aq
   have ha':a=⟨p.b,p.at i,none⟩:=by
    rcases hac with h|h
    ·exact h.1
    ·omega
   subst ha'
   have hp2:ρ A (pre++xs.flatMap enc).length=some p:=by rw[hlen];exact hp
   obtain⟨_,_,hfit,cur,ty',fr,hw,hsz,hfr,hcell⟩:=(hr.cells _ _ _ _ _ _ hg).2 _ _ hp2
   obtain⟨rfl,hd0,_⟩:=hfr rfl
   have hcur:∀j c,(xs.flatMap enc)[j]? =some c→cur[p.at i+j]? =some c:=fun j c hc=>by
    have hj:=(dy.1 hc).1
    have h2:(pre++xs.flatMap enc)[i+j]? =some c:=by
     rw[dQ (by omega),hpre,eR]
     exact hc
    obtain⟨c2,h3,h4⟩:=hcell (by rw[hlen];exact hlo) (i+j) _ (by rw[hlen];omega) (by omega) h2
    have hat:p.at (i+j)=p.at i+j:=by unfold Place.at;omega
    rw[hat]at h3
    obtain⟨x,_,hx⟩:=eT.1 (dB hc)
    have:=h4.al (hsc x c hx)
    subst this
    exact h3
   have hA:∀x,All2 (C1 ρ) (enc x) (enc x):=fun x=>All2.cN rfl fun j c hc=>⟨c,hc,.c0 (.flat (hsc x c (dB hc)))⟩
   obtain⟨d,hd⟩:∃d:Array α,d=xs.toArray:=⟨_,rfl⟩
   have hds:d.size=xs.length:=by rw[hd];simp
   have hH:Go.Sort.HoldsK enc k w p.b (p.at i) d:=by
    intro j hj
    rw[Go.Sort.size_flatK,hds]at hj
    constructor
    ·rw[Go.Sort.get_flatK _ _ _ _ (by rw[hds];exact hj),hd,b4e hk0 hel xs j hj,dj,dx (by rw[hfl];exact hj)]
     have:=hcur j _ (dx (by rw[hfl];exact hj))
     simp only[World.cell?,hw]
     exact this
    ·simp only[World.frozen?,hw]
     simp
   have hlay:CmpLays P kc #[] enc k cf p.b (p.at i) d.size w:=fun m os dk hdk x y=>hcmp _ x y
   have hcon:=hso enc hel hone cf hO hT p.b (p.at i) c' d w hlay hH (hr.dom _ _ _ hp).2 (by rw[hds];omega)
   rw[hds]at hcon
   obtain⟨σ,hσ⟩:∃σ,xs.mergeSort (fun x y=> !(ltOf cf) y x)=σ:=⟨_,rfl⟩
   have hdl:d.toList=xs:=by rw[hd]
   rw[hdl,hσ]at hcon
   have hσl:σ.length=xs.length:=by rw[←hσ];simp
   have hll:(σ.flatMap enc).length=xs.length*k:=by rw[a7z hel,hσl]
   have hlr:(σ.flatMap enc).length=xs.length*k:=by rw[a7z hel,hσl]
   obtain⟨w1,hrun,hpost⟩:=qR hr hg hp2 h0' (All2.bz hA σ) (by rw[hlen,hll];omega) (by rw[hlen];exact hlo)
   rw[hσ]
   have hcsz:p.at i+(σ.flatMap enc).length≤cur.size:=by
    rw[hlr,hsz]
    unfold Place.at
    rw[hlen]at hfit
    omega
   have hst:=run_storeCells_at (P:=P) p.b (p.at i) ty' (σ.flatMap enc) 0 cur w hw (by simpa using hcsz) (All2.bz hA σ).aG
   rw[hst]at hrun
   injection hrun with _ hw1
   subst hw1
   refine callsIn_wide.2 (hcon.mono ?_)
   rintro e w'⟨rfl,m,os,rfl⟩
   refine⟨ρ,_,rfl,?_,.tuple trivial⟩
   have hfs:∀j,j<xs.length*k→(Go.Sort.flatK enc k σ.toArray)[j]! =(σ.flatMap enc).getD j undef:=fun j hj=>by
    rw[Go.Sort.get_flatK _ _ _ _ (by rw[fA,hσl];exact hj)]
    exact b4e hk0 hel σ j (by rw[hσl];exact hj)
   have hFs:(Go.Sort.flatK enc k σ.toArray).size=xs.length*k:=by rw[Go.Sort.size_flatK,fA,hσl]
   unfold sortWorldK Go.Sort.putRowK
   generalize Go.Sort.flatK enc k σ.toArray=F at hfs hFs ⊢
   have hlt:=lZ hw
   have hh:∀b,b<w.heap.size→(Go.Sort.grow (Go.Sort.putRow id (Go.Sort.ahead w m) p.b (p.at i) F) os).heap[b]? =(Go.Sort.putRow id (Go.Sort.ahead w m) p.b (p.at i) F).heap[b]?:=fun b hb=>by
    have:b<(Go.Sort.putRow id (Go.Sort.ahead w m) p.b (p.at i) F).heap.size:=by simpa [Go.Sort.putRow,Go.Sort.mapBlock,Go.Sort.ahead]using hb
    unfold Go.Sort.grow
    exact eO this
   refine hpost.cz ?_ ?_ rfl ⟨rfl,Nat.le_add_right _ _⟩ rfl
   ·simp[Go.Sort.grow,Go.Sort.putRow,Go.Sort.mapBlock,Go.Sort.ahead]
   ·intro b hbs
    rw[setRow_size]at hbs
    rw[hh b hbs]
    by_cases e:b=p.b
    ·subst e
     rw[setRow_heap w p.b cur _ ty' (0,0) hw]
     have e2:(Go.Sort.putRow id (Go.Sort.ahead w m) p.b (p.at i) F).heap[p.b]? =some (.cells (Go.Sort.putCells id (p.at i) F cur) ty' (0,0)):=by
      simp[Go.Sort.putRow,Go.Sort.mapBlock,Go.Sort.ahead,eY,hw,Go.Sort.onCells]
     rw[e2]
     congr 2
     apply gb
     intro j
     have hseg:=xH cur.toList (σ.flatMap enc) (p.at i) j (by simpa using hcsz)
     have e3:((List.take (p.at i+0) cur.toList++σ.flatMap enc++List.drop (p.at i+0+(σ.flatMap enc).length) cur.toList).toArray)[j]? =(List.take (p.at i) cur.toList++σ.flatMap enc++List.drop (p.at i+(σ.flatMap enc).length) cur.toList)[j]?:=by simp
     rw[e3,hseg]
     simp only[Go.Sort.putCells,Array.getElem?_mapIdx,fP]
     rw[hlr]at hcsz ⊢
     by_cases h1:p.at i≤j∧j<p.at i+xs.length*k
     ·rw[if_pos h1]
      have hjc:j<cur.size:=by omega
      rw[fj hjc]
      simp only[dS]
      rw[if_pos (by rw[hFs];exact h1),hfs _ (by omega),dj,dx (by rw[hlr];omega)]
      rfl
     ·rw[if_neg h1]
      cases hc:cur[j]? with
      | none=>simp
      | some c=>
        simp only[dS]
        rw[if_neg (by rw[hFs];exact h1)]
    ·rw[setRow_other _ _ _ _ e]
     simp[Go.Sort.putRow,Go.Sort.mapBlock,Go.Sort.ahead,eY,fm e]
theorem b6c{α:Type}[Inhabited α]{enc:α→List Value}{P:Program}{K kc:FuncId}{k:Nat}(hel:∀x,(enc x).length=k+1)(hsc:∀x,∀v∈enc x,iZ v=true)(hone:∀x,∀v∈enc x,v.oneCell'=true)(hso:b5e P K kc (k+1))(hno:rZ P K)(hent:nN P K){H:Heap}{B:Base}{os:List Ob}(hS:St P B H os)(i:Nat){v:Value}{xs:List α}(ho:os[i]? =some ⟨v,k+1,xs.flatMap enc⟩)(hbig:xs.length<100000000000)
 (cf:α→α→Int) (hO:SWO (ltOf cf)) (hT:∀x y,(ltOf cf) x y=false→(ltOf cf) y x=false→x=y)
 (hcmp:∀x y,Fn P kc [.agg (enc x).toArray,.agg (enc y).toArray] .nil fun r H'=>r=I (cf x y)∧St P (.nil:Heap) H' [])
 {Q:Value→Heap→Prop} (h:∀H1,St P B H1 (os.set i ⟨v,k+1,(xs.mergeSort fun x y=> !(ltOf cf) y x).flatMap enc⟩)→Q (.tuple #[]) H1):qW P K [v,.func (.func kc) #[] #[]] H Q:=by
 have hcm:∀(W:World)x y,Calls P kc #[.agg (enc x).toArray,.agg (enc y).toArray] W fun e w'=>e=.returned (.int .i64 (cf x y))∧∃q os',w'=Go.Sort.grow (W.drewN q) os':=fun W x y=>by
  obtain⟨_,v,H1,h1,hr,_⟩:=hcmp x y
  subst hr
  refine b7j (ρ:=fun _ _=>none) h1 (HRel.none W) (fun b=> ?_) ⟨.v1 (.agg ?_),.v1 (.agg ?_),trivial⟩
  ·rintro⟨A,e,p,jY,hq,_⟩;cases hq
  ·exact All2.cN rfl fun j c hc=>⟨c,hc,.c0 (.flat (hsc x c (dB hc)))⟩
  ·exact All2.cN rfl fun j c hc=>⟨c,hc,.c0 (.flat (hsc y c (dB hc)))⟩
 by_cases h0:xs=[]
 ·subst h0
  refine⟨.tuple #[],H,hent,?_,h H ?_⟩
  ·intro k ρ w args' hr ha
   obtain⟨l⟩:=args'
   match l,ha with
   | [x,f],⟨hx,hf,_⟩=>
     obtain rfl:=V.func0 hf
     have hown:=hS.own _ (dB ho)
     unfold OwnAt at hown
     rw[if_neg (by simp)]at hown
     have hx0:∃p cap,x=.slice p 0 cap:=by
      rcases hown with⟨h2,_⟩|⟨A,j,ty,lo',ver,pre,m,h2,h3,h4,h5,h6,h7⟩
      ·simp only at h2
       subst h2
       rcases hx.ay with⟨_,_,_,rfl⟩|⟨A,j,e,p,c',a,hh,_⟩
       ·exact⟨_,_,rfl⟩
       ·cases hh
      ·simp only at h5 h6
       subst h6
       have hm:m=0:=by
        rw[eU,dZ]at h5
        rcases gX.1 h5.symm with h|h
        ·exact h
        ·omega
       subst hm
       obtain⟨p,c',a,_,_,_,_,_,_,rfl⟩:=hx.aq
       exact⟨_,_,rfl⟩
     obtain⟨p,cap,rfl⟩:=hx0
     refine callsIn_wide.2 ((hno p cap _ w).mono ?_)
     rintro e w'⟨rfl,rfl⟩
     exact⟨ρ,_,rfl,.refl hr,.tuple trivial⟩
  ·obtain⟨hi,hoi⟩:=dy.1 ho
   have e0:([]:List α).mergeSort (fun x y=> !(ltOf cf) y x)=[]:=by simp
   rw[e0]
   have e:os[i]=⟨v,k+1,[]⟩:=by rw[hoi];rfl
   rw[eU,←e,gi]
   exact hS
 ·have hown:=hS.own _ (dB ho)
  unfold OwnAt at hown
  rw[if_neg (by simp)]at hown
  have hne:0<xs.length:=fg.2 h0
  have hfl:=a7z hel xs
  rcases hown with⟨_,h3⟩|⟨A,j,ty,lo',ver,pre,m,h2,h3,h4,h5,h6,h7⟩
  ·simp only at h3
   have:=congrArg List.length h3
   rw[hfl,dZ]at this
   rcases gX.1 this with h|h<;>omega
  ·simp only at h2 h3 h5 h6
   have hm:m=xs.length:=eP (fh k) (h5.symm.trans hfl)
   subst hm
   have hsl:((xs.mergeSort fun x y=> !(ltOf cf) y x).flatMap enc).length=(xs.flatMap enc).length:=by
    rw[a7z hel,hfl]
    simp
   have hcall:=b2D hel hsc hone (fh k) hso hne hbig h2 h3 h4 h7 cf hO hT hcm
   rw[←h6]at hcall
   refine⟨_,_,hent,hcall,h _ (hS.put i ho ?_ ?_ ?_ ?_)⟩
   ·unfold OwnAt
    rw[if_neg (by simp)]
    refine .inr ⟨A,j,ty,(pre++xs.flatMap enc).length,ver,pre,xs.length,?_,?_,h4,?_,?_,h7⟩
    ·rw[iU _ (jP h2)]
     have:=lX ((xs.mergeSort fun x y=> !(ltOf cf) y x).flatMap enc) pre (xs.flatMap enc) (by rw[hsl];exact dm _)
     rw[h4]at this
     rw[this,hsl,gP,dA]
    ·simp only[du,h4,hsl];exact dm _
    ·simp only[hsl];exact h5
    ·simp only[hsl];exact h6
   ·rw[jR];exact dm _
   ·intro B' hB hne'
    refine pM fun hh=>hne' ?_
    simp[jY,h6,hh]
   ·intro B' hB
    exact .inl hB
end Go.Ds
namespace Go.Ds
open Go.Proofs Go.Proofs.Tryz Go.Shelf Go.RowKit Go.Lib Go.Sort
variable {H:Heap}
set_option maxRecDepth 10000
set_option maxHeartbeats 1000000
theorem Ctl.bY{a b:Ctl}(h:a.kind=b.kind∧a.dv=b.dv∧a.ix=b.ix):a=b:=by
 obtain⟨a1,a2,a3⟩:=a
 obtain⟨b1,b2,b3⟩:=b
 obtain⟨h1,h2,h3⟩:=h
 simp only at h1 h2 h3
 rw[h1,h2,h3]
theorem Ctl.cP(a b:Ctl):(a.kind=b.kind∧a.dv=b.dv∧a.ix=b.ix)↔b=a:=⟨fun h=>(Ctl.bY h).symm,fun h=>by rw[h];exact⟨rfl,rfl,rfl⟩⟩
def pP(c:Ctl):List Int:=[c.kind,c.dv,c.ix]
theorem a2f{a b:Ctl}(h:pP a=pP b):a=b:=by
 unfold pP at h
 simp only[fi,and_true]at h
 exact Ctl.bY h
theorem b8e(x y:Ctl):Fn prog 63 [.agg #[I x.kind,I x.dv,I x.ix],.agg #[I y.kind,I y.dv,I y.ix]] H fun r H'=>r=I (kX (pP x) (pP y))∧St prog H H' []:=by
 refine .aH func63 rfl (by kernel_rfl) (m:=22) rfl fun l hn g0 g1=> ?_
 simp(disch:=omega) only[↓RA,RB,simprocAttr,g0]
 refine(sR H).eNew 3 [I x.kind,I x.dv,I x.ix] rfl rfl rfl a7F fun A1 H1 hS1=> ?_
 simp only[RT]at hS1
 simp(disch:=omega) only[↓RA,RB,simprocAttr,g1]
 refine hS1.eNew 3 [I y.kind,I y.dv,I y.ix] rfl rfl rfl a7F fun A2 H2 hS2=> ?_
 simp only[RT]at hS2
 simp(disch:=omega) only[↓RA,RB,simprocAttr]
 refine Wp.aL kJ [(6,0),(8,0),(11,0),(11,5),(13,0),(13,5)] (by kernel_rfl) (by kernel_rfl) ?_
 simp(disch:=omega) only[↓RA,RZ,simprocAttr,hn,hS2.ld 0 rfl,hS2.ld 1 rfl]
 refine hS2.cF (nM x.kind y.kind) fun H3 hS3=> ?_
 simp(disch:=omega) only[↓RA,RZ,simprocAttr,hn,hS3.ld 0 rfl,hS3.ld 1 rfl]
 refine hS3.cF (nM x.dv y.dv) fun H4 hS4=> ?_
 simp(disch:=omega) only[↓RA,RZ,simprocAttr,hn,hS4.ld 0 rfl,hS4.ld 1 rfl]
 refine hS4.cF (nM x.ix y.ix) fun H5 hS5=> ?_
 simp(disch:=omega) only[↓RA,RB,simprocAttr,hn]
 refine hS5.ak [I (kA x.kind y.kind),I (kA x.dv y.dv),I (kA x.ix y.ix)] pZ wS rfl rfl (by simp[Value.cells]) rfl rfl (by decide) (by decide) fun w1 H6 hS6=> ?_
 simp only[RT]at hS6
 simp(disch:=omega) only[↓RA,RZ,simprocAttr,hn]
 refine hS6.cF (a7q w1 [kA x.kind y.kind,kA x.dv y.dv,kA x.ix y.ix] (hS6.az 2 rfl (vE _)) (by simp)) fun H7 hS7=> ?_
 simp(disch:=omega) only[↓RA,RZ,simprocAttr,hn,hS2.ld 0 rfl,hS2.ld 1 rfl,hS3.ld 0 rfl,hS3.ld 1 rfl,c5G]
 exact⟨rfl,hS7.forget⟩
def leC(a b:Ctl):Bool:= !decide (kX (pP b) (pP a)=-1)
def uX(l:List Ctl):List Ctl:=l.mergeSort leC
theorem soC:b5e prog 62 63 3:=
 fun enc hk h1 cf hO hT jY off cap d w hlay hH hblk hsz=>
  AnyQ.slices_SortFunc_total Tryz.cj 3 Tryz.isAgg63 Tryz.sizeOf63 enc hk h1 cf hO 63 #[] jY off cap d w (enters_of func63 (by kernel_rfl) rfl) hlay hH hblk hsz hT
theorem snC:rZ prog 62:=fun p cap fv w=>AnyF.slices_SortFunc_none {Tryz.cj with} p cap fv w
theorem enC:nN prog 62:=⟨Tryz.f62,func62,by kernel_rfl,by kernel_rfl⟩
theorem a7A{B:Base}{os:List Ob}(hS:St prog B H os)(i:Nat){v:Value}{xs:List Ctl}(ho:os[i]? =some ⟨v,3,mZ xs⟩)(hl:xs.length<100000000000)
 {Q:Value→Heap→Prop} (h:∀H1,St prog B H1 (os.set i ⟨v,3,mZ (uX xs)⟩)→Q (.tuple #[]) H1):qW prog 62 [v,.func (.func 63) #[] #[]] H Q:=by
 refine b6c (enc:=Ctl.cells) (fun _=>rfl) (fun x v hv=> ?_) (fun x v hv=> ?_) soC snC enC hS i ho hl (fun x y=>kX (pP x) (pP y)) (c3x pP) (c2Q fun x y h=>a2f h) (fun x y=>b8e x y) fun H1 hH=>h H1 ?_
 ·simp only[Ctl.cells,ej,eF,or_false]at hv
  rcases hv with rfl|rfl|rfl<;>rfl
 ·simp only[Ctl.cells,ej,eF,or_false]at hv
  rcases hv with rfl|rfl|rfl<;>rfl
 ·have e:(fun x y:Ctl=> !(ltOf fun x y=>kX (pP x) (pP y)) y x)=leC:=by
   funext x y
   rw[sD]
   rfl
  rw[e]at hH
  exact hH
theorem b1L(v:Value)(xs:List Ctl)(hv:Sl 3 Ctl.cells H v xs)(hl:xs.length<1000000000)(d:Ctl):
 Fn prog 104 [v,.agg #[I d.kind,I d.dv,I d.ix]] H fun r H'=>r=I (oY (fun j=>decide (iG xs j=d)) xs.length)∧St prog H H' []:=by
 refine .aH func104 rfl (by kernel_rfl) (m:=19) rfl fun l hn g0 g1=> ?_
 simp(disch:=omega) only[↓RA,RB,simprocAttr,g1]
 refine(sR H).eNew 3 [I d.kind,I d.dv,I d.ix] rfl rfl rfl a7F fun A1 H1 hS1=> ?_
 simp only[RT]at hS1
 simp(disch:=omega) only[↓RA,RZ,simprocAttr,hn,g0,(hS1.sl hv).len]
 refine Wp.aj (fun n l H'=>l.length=19∧get l 0=v∧get l 3=(ptr A1 0 3)∧get l 7=I xs.length∧∃(j:Nat),(n+j=xs.length∧∀q,q<j→decide (iG xs q=d)=false)∧get l 8=I j∧St prog H H' [⟨ptr A1 0 3,0,[I d.kind,I d.dv,I d.ix]⟩]) xs.length ?_ ?_
 ·simp(disch:=omega) only[RB,RC,simprocAttr,hn,g0]
  exact⟨0,⟨by omega,fun q hq=>absurd hq (dX _)⟩,rfl,hS1⟩
 rintro n l H2⟨hn,g0,g3,g7,j,⟨hi,h0⟩,g8,hS2⟩
 simp(disch:=omega) only[↓RA,RB,simprocAttr,hn,g7,g8]
 refine iF (fun h=> ?_) (fun h=> ?_)
 ·simp(disch:=omega) only[↓RA,RZ,simprocAttr,hn,g8,h]
  refine Wp.drw kJ (by kernel_rfl) ?_
  simp(disch:=omega) only[↓RA,RZ,simprocAttr,hn,g0,g3,hS2.ae 0 rfl,(hS2.sl hv).idx,(hS2.sl hv).ae,Ctl.cells]
  refine iF (fun hp=> ?_) (fun hp=> ?_)
  ·simp(disch:=omega) only[↓RA,RZ,simprocAttr,hn,c0J,hp]
   exact⟨by rw[sP _ xs.length j (by omega) (by simpa using(Ctl.cP _ _).1 hp) h0],hS2.forget⟩
  simp(disch:=omega) only[↓RA,RZ,simprocAttr,hn,g0,g3,g7,g8,hp]
  exact⟨n-1,by omega,j+1,⟨by omega,fun q hq=>by rcases dw.1 hq with e|e;(· exact h0 q e);(· rw[e];simpa using fun hh=>hp ((Ctl.cP _ _).2 hh))⟩,by simp,hS2⟩
 simp(disch:=omega) only[↓RA,RZ,simprocAttr,hn,c0J,h]
 exact⟨by rw[sV _ xs.length fun q hq=>h0 q (by omega)],hS2.forget⟩
theorem b7V(v:Value)(xs:List Ctl)(hv:Sl 3 Ctl.cells H v xs)(hl:xs.length<1000000000)(d:Ctl):
 Fn prog 61 [v,.agg #[I d.kind,I d.dv,I d.ix]] H fun r H'=>r=.bool (decide (d∈xs))∧St prog H H' []:=by
 have e:decide (0≤oY (fun j=>decide (iG xs j=d)) xs.length)=decide (d∈xs):=by
  rw[eu,decide_eq_true_iff,decide_eq_true_iff,vA]
  constructor
  ·rintro⟨j,hj,hp⟩
   rw[←of_decide_eq_true hp];exact iM hj
  ·intro hx
   obtain⟨j,hj,rfl⟩:=ek.1 hx
   exact⟨j,hj,by rw[jV xs j hj];simp⟩
 refine .aH func61 rfl (by kernel_rfl) (m:=9) rfl fun l hn g0 g1=> ?_
 simp(disch:=omega) only[↓RA,RB,simprocAttr,g1]
 refine(sR H).eNew 3 [I d.kind,I d.dv,I d.ix] rfl rfl rfl a7F fun A1 H1 hS1=> ?_
 simp only[RT]at hS1
 simp(disch:=omega) only[↓RA,RZ,simprocAttr,hn,g0,hS1.ae 0 rfl]
 refine hS1.cF (b1L v xs (hS1.sl hv) hl d) fun H2 hS2=> ?_
 simp(disch:=omega) only[↓RA,RB,simprocAttr,hn,c5M]
 rw[←e]
 first|exact hS2.forget|exact⟨rfl,hS2.forget⟩
theorem c5I:a7j prog 40=some (2+1):=by kernel_rfl
theorem b6W{B:Base}{v:Value}{es:List Ctl}(hS:St prog B H [⟨v,3,mZ es⟩])(hl:es.length<100000000000):
 Fn prog 64 [v] H fun r H'=>∃rest:List Value,r=kS v 3 0 (dd es).length∧St prog B H' [⟨v,3,mZ (dd es)++rest⟩]:=by
 refine .aS func64 rfl (by kernel_rfl) (m:=61) rfl fun l hn g0=> ?_
 simp(disch:=omega) only[↓RA,RZ,simprocAttr,hn,g0,(hS.az 0 rfl (fun _=>rfl)).len]
 refine iF (fun h=> ?_) (fun h=> ?_)
 ·have hd:=pC es es.length (dm _) fun j h1 h2=>by omega
  rw[eo]at hd
  simp(disch:=omega) only[↓RA,RZ,simprocAttr,hn,g0,c1O,h]
  exact⟨[],by unfold dd;rw[hd];exact(RdAt.sub_self (size:=2) (hS.rd 0 rfl) (lP es)).symm,by unfold dd;rw[hd,dA];exact hS⟩
 simp(disch:=omega) only[↓RA,RZ,simprocAttr,h]
 refine Wp.aj (fun n l H'=>l.length=61∧get l 0=v∧∃(k:Nat),(0<k∧n+k=es.length∧∀j,0<j→j<k→iG es j≠iG es (j-1))∧get l 3=I k∧St prog B H' [⟨v,3,mZ es⟩]) (es.length-1) ?_ ?_
 ·simp(disch:=omega) only[RB,RC,simprocAttr,hn,g0]
  exact⟨1,⟨by omega,by omega,fun j h1 h2=>by omega⟩,rfl,hS⟩
 rintro n l H1⟨hn,g0,k,⟨hk0,hk,hdis⟩,g3,hS1⟩
 simp(disch:=omega) only[↓RA,RZ,simprocAttr,hn,g0,g3,(hS1.az 0 rfl (fun _=>rfl)).len]
 refine iF (fun h2=> ?_) (fun h2=> ?_)
 ·have hkl:k<es.length:=by omega
  have hpre:(k:Int)-1=((k-1:Nat):Int):=by omega
  simp(disch:=omega) only[↓RA,RC,simprocAttr,h2]
  refine Wp.drw kJ (by kernel_rfl) ?_
  simp(disch:=omega) only[↓RA,RZ,simprocAttr,hn,g0,g3,(hS1.az 0 rfl (fun _=>rfl)).idx,(hS1.az 0 rfl (fun _=>rfl)).ae,Ctl.cells,hpre]
  refine iF (fun h3=> ?_) (fun h3=> ?_)
  ·have h3:iG es k=iG es (k-1):=Ctl.bY h3
   have hlen:(mZ es).length=es.length*(2+1):=lP es
   have hpos:0<es.length:=by omega
   have hdk:=pC es k (by omega) hdis
   have hdk1:tQ es (k+1)=es.take k:=by rw[oI,hdk,if_neg (by rintro(h4|h4);omega;exact h4 h3),dA]
   have hrow:St prog B H1 [⟨v,3,mZ (tQ es (k+1)++es.drop k)⟩]:=by rw[hdk1,fQ];exact hS1
   have hdl:(tQ es (k+1)).length=k:=by rw[hdk1,fy];omega
   simp(disch:=omega) only[↓RA,RZ,simprocAttr,hn,g0,g3,(hS1.az 0 rfl (fun _=>rfl)).aD,h3]
   refine Wp.aj (fun n l H'=>l.length=61∧get l 0=v∧∃k2:Nat,(0<k2∧n+k+k2=es.length∧(tQ es (k+k2)).length<k+k2)∧get l 3=I (tQ es (k+k2)).length∧get l 4=kS v 3 k (es.length-k)∧get l 5=I k2∧St prog B H' [⟨v,3,mZ (tQ es (k+k2)++es.drop (tQ es (k+k2)).length)⟩]) (es.length-k-1) ?_ ?_
   ·simp(disch:=omega) only[RB,RC,simprocAttr,hn,g0,g3]
    refine⟨1,⟨by omega,by omega,by omega⟩,by rw[hdl],by congr 1;omega,rfl,?_⟩
    rw[hdl]
    exact hrow
   clear hrow hdk hdk1 hdl hdis
   rintro n l H9⟨hn,g0,k2,⟨hk20,hk2,hlt⟩,g3,g4,g5,hS9⟩
   have hsucc:=oI es (k+k2)
   generalize hD:tQ es (k+k2)=D at g3 hlt hS9 hsucc
   have hrl:(D++es.drop D.length).length=es.length:=by rw[du,eE];omega
   have hv:Sl 3 Ctl.cells H9 v (D++es.drop D.length):=hS9.az 0 rfl (fun _=>rfl)
   have hat:∀j,D.length≤j→iG (D++es.drop D.length) j=iG es j:=fun j hj=>by
    unfold iG
    rw[dj,dQ hj,dF,dj]
    congr 2;omega
   have hsub:Sl 3 Ctl.cells H9 (kS v 3 k ((D++es.drop D.length).length-k)) ((D++es.drop D.length).drop k):=hv.bW k (by omega) (by omega)
   rw[hrl]at hsub
   have hsl:((D++es.drop D.length).drop k).length=es.length-k:=by rw[eE,hrl]
   have hsat:∀j,D.length≤k+j→iG ((D++es.drop D.length).drop k) j=iG es (k+j):=fun j hj=>by
    rw[←hat (k+j) hj]
    unfold iG
    rw[dj,dF,dj]
   have hbd:((es.length-k:Nat):Int)=(es.length:Int)-k:=by omega
   simp(disch:=omega) only[↓RA,RZ,simprocAttr,hn,g4,g5,hsub.len,hsl,hbd]
   refine iF (fun h4=> ?_) (fun h4=> ?_)
   ·have hj:k+k2<es.length:=by omega
    have hpre2:(k2:Int)-1=((k2-1:Nat):Int):=by omega
    have e1:=hsat k2 (by omega)
    have e2:=hsat (k2-1) (by omega)
    rw[show k+(k2-1)=k+k2-1 from by omega]at e2
    simp(disch:=omega) only[↓RA,RC,simprocAttr,h4]
    refine Wp.drw kJ (by kernel_rfl) ?_
    simp(disch:=omega) only[↓RA,RZ,simprocAttr,hn,g4,g5,hsub.idx,hsub.ae,Ctl.cells,hpre2,e1,e2]
    refine iF (fun h5=> ?_) (fun h5=> ?_)
    ·have hne:iG es (k+k2)≠iG es (k+k2-1):=fun e=>h5 (by rw[e];exact⟨rfl,rfl,rfl⟩)
     rw[if_pos (.inr hne)]at hsucc
     simp(disch:=omega) only[↓RA,RZ,simprocAttr,hn,g0,g3,g4,g5,hsub.idx,hsub.ae,Ctl.cells,e1,h5]
     simp(disch:=omega) only[↓RA,RZ,simprocAttr,hn,(hS9.az 0 rfl (fun _=>rfl)).idx,h5]
     refine hS9.bm 0 rfl [I (iG es (k+k2)).kind,I (iG es (k+k2)).dv,I (iG es (k+k2)).ix] rfl rfl a7F (by simp) (by rw[lP,hrl];simp;omega) fun H2 hS2=> ?_
     simp only[RT]at hS2
     simp(disch:=omega) only[↓RA,RZ,simprocAttr,hn,g0,g3,g4,g5,h5]
     refine⟨n-1,by omega,k2+1,?_⟩
     rw[show k+(k2+1)=k+k2+1 from by omega,hsucc]
     refine⟨⟨by omega,by omega,by simp;omega⟩,by simp,by simp,?_⟩
     have e3:mZ (D++[iG es (k+k2)]++es.drop (D++[iG es (k+k2)]).length)=(((mZ (D++es.drop D.length)).set (D.length*3) (I (iG es (k+k2)).kind)).set (D.length*3+1) (I (iG es (k+k2)).dv)).set (D.length*3+2) (I (iG es (k+k2)).ix):=by
      have hx:es.drop D.length=iG es D.length::es.drop (D.length+1):=by
       rw[jV es _ (by omega)]
       exact fz (by omega)
      rw[hx,du,List.length_singleton,pQ,pQ,pQ]
      have e4:mZ (iG es D.length::es.drop (D.length+1))=I (iG es D.length).kind::I (iG es D.length).dv::I (iG es D.length).ix::mZ (es.drop (D.length+1)):=rfl
      have e5:mZ [iG es (k+k2)]=[I (iG es (k+k2)).kind,I (iG es (k+k2)).dv,I (iG es (k+k2)).ix]:=rfl
      have e6:(mZ D).length=D.length*3:=lP D
      rw[e4,e5,fb _ _ (by omega),fb _ _ (by omega),fb _ _ (by omega),e6,iq,eR,eR]
      simp
     rw[e3]
     exact hS2
    have heq:iG es (k+k2)=iG es (k+k2-1):=by
     have h6:=dI.1 h5
     exact Ctl.bY h6
    rw[if_neg (by rintro(h6|h6);omega;exact h6 heq),dA]at hsucc
    simp(disch:=omega) only[↓RA,RZ,simprocAttr,hn,g0,g3,g4,g5,h5]
    refine⟨n-1,by omega,k2+1,?_⟩
    rw[show k+(k2+1)=k+k2+1 from by omega,hsucc]
    exact⟨⟨by omega,by omega,by omega⟩,rfl,by simp,hS9⟩
   have hke:k+k2=es.length:=by omega
   rw[hke]at hD
   have hcl:(mZ (D++es.drop D.length)).length=es.length*(2+1):=by rw[lP,hrl]
   have hDn:D.length≤es.length:=by omega
   simp(disch:=omega) only[↓RA,RZ,simprocAttr,hn,g0,g3,(hS9.az 0 rfl (fun _=>rfl)).aD,h4]
   rw[show(((D++es.drop D.length).length:Int)-D.length).toNat=es.length-D.length from by rw[hrl];omega]
   refine hS9.bD (size:=2) 0 rfl D.length (es.length-D.length) (by rw[hcl];omega) (by
    intro e
    have h2:(mZ (D++es.drop D.length)).length=0:=by rw[e];rfl
    rw[lP,hrl]at h2;omega) c5I fun z H3 hz hSc=> ?_
   simp only[RT]at hSc
   have e3:jC (mZ (D++es.drop D.length)) (D.length*3) z=mZ D++z:=by
    rw[pQ,show D.length*3=(mZ D).length from(lP D).symm,lX z (mZ D) (mZ (es.drop D.length)) (by rw[lP,eE];omega)]
    rw[List.drop_of_length_le (by rw[lP,eE];omega),dA]
   rw[show D.length*(2+1)=D.length*3 from rfl,e3]at hSc
   have hw:RdAt H3 v (2+1) (mZ D++z):=hSc.rd 0 rfl
   have hwl:(mZ D++z).length=es.length*(2+1):=by rw[du,lP,hz];omega
   simp(disch:=omega) only[↓RA,RZ,simprocAttr,hn,g0,g3,hw.aP hwl,c1O,h4]
   exact⟨z,by unfold dd;rw[hD],by unfold dd;rw[hD];exact hSc⟩
  have hne:iG es k≠iG es (k-1):=fun e=>h3 (by rw[e];exact⟨rfl,rfl,rfl⟩)
  simp(disch:=omega) only[↓RA,RZ,simprocAttr,hn,g0,g3,h3]
  refine⟨n-1,by omega,k+1,⟨by omega,by omega,fun j h4 h5=> ?_⟩,by simp,hS1⟩
  by_cases e:j=k
  ·rw[e];exact hne
  ·exact hdis j h4 (by omega)
 have hke:k=es.length:=by omega
 have hd:=pC es es.length (dm _) (hke▸hdis)
 rw[eo]at hd
 simp(disch:=omega) only[↓RA,RZ,simprocAttr,hn,g0,c1O,h2]
 exact⟨[],by unfold dd;rw[hd];exact(RdAt.sub_self (size:=2) (hS.rd 0 rfl) (lP es)).symm,by unfold dd;rw[hd,dA];exact hS1⟩
def xY(r:Rp):List Ctl:=(⟨1,r.tc.1,r.stop⟩:Ctl)::r.cps.map fun i=>⟨2,0,i⟩
def mM(r:Rp):List Ctl:=dd (uX (xY r))
end Go.Ds
namespace Go.Ds
open Go.Proofs Go.Proofs.Tryz
variable {H:Heap}
set_option maxRecDepth 10000
set_option maxHeartbeats 1000000
theorem yX{α:Type}[Inhabited α](es:List α)(m:Nat)(h:m<es.length):es.take (m+1)=es.take m++[iG es m]:=by
 rw[jV es m h,gq h]
theorem a3N(r:Rp):(xY r).length=r.cps.length+1:=by simp[xY]
theorem b7a{α:Type}[Inhabited α][DecidableEq α](l:List α):(dd l).length≤l.length:=b6O l l.length
theorem b2c(r:Rp):(mM r).length≤r.cps.length+1:=by
 have h:=b7a (uX (xY r))
 unfold uX at h
 rw[List.length_mergeSort,a3N]at h
 exact h
theorem a1z(l:List Ctl):(uX l).length=l.length:=by unfold uX;rw[List.length_mergeSort]
theorem a9d{v:Value}{xs:List Ctl}{rest:List Value}(h:RdAt H v 3 (mZ xs++rest)):Sl 3 Ctl.cells H (kS v 3 0 xs.length) xs:=(Frs.mk (cel:=Ctl.cells) h (fun _=>rfl) (by decide) rfl).sl
theorem c0d(r:Rn)(hr:r.In H)(hrl:r.cps.length<1000000):Fn prog 58 [r.v] H fun q H'=>∃v rest,q=kS v 3 0 (mM r.rp).length∧St prog H H' [⟨v,3,mZ (mM r.rp)++rest⟩]:=by
 refine .aS func58 rfl (by kernel_rfl) (m:=30) rfl fun l hn g0=> ?_
 simp(disch:=omega) only[↓RA,RB,simprocAttr,g0]
 refine(sR H).eNew 6 [I r.pl.1,I r.pl.2,r.cv,I r.tc.1,I r.tc.2,I r.stop] rfl rfl (by simp[OC,((sR H).sl hr.1).cells.2.1]) nP fun A1 H1 hS1=> ?_
 simp only[RT]at hS1
 simp(disch:=omega) only[↓RA,RZ,simprocAttr,hn,hS1.ld 0 rfl,a8d]
 refine hS1.ak [I 1,I r.tc.1,I r.stop] b1l c1K rfl rfl (by simp[Value.cells]) rfl rfl (by decide) (by decide) fun w1 H2 hS2=> ?_
 simp only[RT]at hS2
 simp(disch:=omega) only[↓RA,RZ,simprocAttr,hn,hS2.ld 0 rfl,(hS2.sl hr.1).len]
 refine Wp.aj (fun n l H'=>l.length=30∧get l 2=(.slice none 0 0)∧get l 14=r.cv∧get l 15=I r.cps.length∧∃(j:Nat)(ov:Value),(n+j=r.cps.length)∧get l 16=I j∧get l 3=ov∧St prog H H' [⟨ptr A1 0 6,0,[I r.pl.1,I r.pl.2,r.cv,I r.tc.1,I r.tc.2,I r.stop]⟩,⟨ov,3,mZ ((⟨1,r.tc.1,r.stop⟩:Ctl)::(r.cps.take j).map fun i=>⟨2,0,i⟩)⟩]) r.cps.length ?_ ?_
 ·simp(disch:=omega) only[RB,RC,simprocAttr,hn]
  exact⟨0,w1,by omega,rfl,rfl,hS2⟩
 rintro n l H3⟨hn,g2,g14,g15,j,ov,hj,g16,g3,hS3⟩
 simp(disch:=omega) only[↓RA,RB,simprocAttr,hn,g15,g16]
 refine iF (fun q1=> ?_) (fun q1=> ?_)
 ·have hll:=lP ((⟨1,r.tc.1,r.stop⟩:Ctl)::(r.cps.take j).map fun i=>⟨2,0,i⟩)
  rw[dT,dC,fy]at hll
  simp(disch:=omega) only[↓RA,RZ,simprocAttr,hn,g14,g16,g3,(hS3.sl hr.1).idx,(hS3.sl hr.1).ld,one,b5s,q1]
  refine hS3.ak [I 2,I 0,I (iG r.cps j)] b1l c1K rfl rfl (by simp[Value.cells]) rfl rfl (by decide) (by decide) fun w2 H4 hS4=> ?_
  simp only[RT]at hS4
  simp(disch:=omega) only[↓RA,RZ,simprocAttr,hn,q1]
  refine hS4.av 1 rfl (hS4.rd 2 rfl) b1l (by rw[hll];simp;omega) fun w3 H5 hS5=> ?_
  simp only[RT]at hS5
  simp(disch:=omega) only[↓RA,RZ,simprocAttr,hn,g2,g14,g15,g16,q1]
  refine⟨n-1,by omega,j+1,w3,by omega,by simp,rfl,?_⟩
  rw[mS r.cps j (by omega),dN,←fJ,pQ]
  exact hS5.pick [0,1] (by decide) rfl
 have hjj:j=r.cps.length:=by omega
 subst hjj
 rw[eo]at hS3
 have hul:(xY r.rp).length=r.cps.length+1:=a3N r.rp
 simp(disch:=omega) only[↓RA,RZ,simprocAttr,hn,g3,q1]
 refine a7A hS3 1 rfl (xs:=xY r.rp) (by omega) fun HS hSS=> ?_
 simp only[List.set_cons_succ,gf]at hSS
 simp(disch:=omega) only[↓RA,RZ,simprocAttr,hn,g3,q1]
 have hM1:=hSS.pick (os':=[⟨ov,3,_⟩]) [1] (by decide) rfl
 have hR1:=hSS.pick (os':=[⟨ov,3,_⟩,⟨ptr A1 0 6,0,_⟩]) [1,0] (by decide) rfl
 refine iR (b6W hM1.aO (by rw[a1z,hul];omega)) ?_
 rintro r H6⟨rest,rfl,hT1⟩
 have hS6:=hR1.frame hT1
 simp only[RT]at hS6
 obtain⟨rc,hrcE⟩:∃w,w=kS ov 3 0 (dd (uX (xY r.rp))).length:=⟨_,rfl⟩
 have hrc:=(a9d (hS6.rd 0 rfl)).cells
 rw[←hrcE]at hrc ⊢
 simp(disch:=omega) only[↓RA,RZ,simprocAttr,hn,c4H,q1]
 exact⟨ov,rest,hrcE,hS6.pick [0] (by decide) rfl⟩
theorem b5u{H0:Heap}{v:Value}{xs:List Ctl}{rest:List Value}(h:St prog H0 H [⟨v,3,mZ xs++rest⟩]):Slx 3 Ctl.cells H (fun B=>H0.length≤B) (kS v 3 0 xs.length) xs:=by
 refine⟨a9d (h.rd 0 rfl),fun b hb=> ?_⟩
 rcases h.new _ (eX ..) b (a1A hb)with h|h
 ·exact h
 ·exact h.elim
theorem a6E(r:Rn)(hr:r.In H)(hrl:r.cps.length<1000000):Fn prog 58 [r.v] H fun q H'=>Slx 3 Ctl.cells H' (fun B=>H.length≤B) q (mM r.rp)∧St prog H H' []:=
 (c0d r hr hrl).mono fun _ _⟨_,_,e,h⟩=>⟨e▸b5u h,h.forget⟩
theorem b4n{s:Sn}(h:tS s≠0):pN s=[]:=by unfold pN;rw[if_neg h]
theorem b0z(s:Sn):(pN s).length≤500:=by
 by_cases h:tS s=0
 ·unfold pN
  rw[if_pos h,List.length_mergeSort]
  unfold tS at h
  split at h
  ·rename_i h1;exact absurd h h1
  ·split at h
   ·cases h
   ·omega
 ·rw[b4n h];simp
end Go.Ds
namespace Go.Ds
open Go.Proofs
set_option maxRecDepth 10000
theorem a4B{α:Type}[Inhabited α][DecidableEq α](es:List α)(x:α):∀m,x∈tQ es m↔∃j,j<m∧iG es j=x
 | 0=>by simp[tQ]
 | m+1=>by
   rw[oI,dP,a4B es x m]
   constructor
   ·rintro(⟨j,hj,e⟩|h)
    ·exact⟨j,by omega,e⟩
    ·split at h
     ·rw[dM]at h
      exact⟨m,by omega,h.symm⟩
     ·cases h
   ·rintro⟨j,hj,e⟩
    by_cases hm:m=0∨iG es m≠iG es (m-1)
    ·rcases dw.1 hj with h|h
     ·exact .inl ⟨j,h,e⟩
     ·subst h
      rw[if_pos hm]
      exact .inr (dM.2 e.symm)
    ·rcases dw.1 hj with h|h
     ·exact .inl ⟨j,h,e⟩
     ·subst h
      have h1:iG es j=iG es (j-1):=eS fun h=>hm (.inr h)
      have h2:j≠0:=fun h=>hm (.inl h)
      exact .inl ⟨j-1,by omega,by rw[←h1];exact e⟩
theorem b7F{α:Type}[Inhabited α][DecidableEq α]{es:List α}{x:α}:x∈dd es↔x∈es:=by
 unfold dd
 rw[a4B]
 constructor
 ·rintro⟨j,hj,rfl⟩
  exact iM hj
 ·intro h
  obtain⟨j,hj,rfl⟩:=ek.1 h
  exact⟨j,hj,jV es j hj⟩
def wU(a b:Ctl):Prop:=kX (pP a) (pP b)=-1
theorem wO{a b c:Ctl}(h:wU a b)(h2:wU b c):wU a c:=tA h h2
theorem a1G{a:Ctl}(h:wU a a):False:=by
 unfold wU at h
 rw[mR.2 rfl]at h
 cases h
theorem yH{a b:Ctl}:leC a b=true↔wU a b∨a=b:=by
 unfold leC wU
 rw[dW,decide_eq_false_iff_not]
 have h1:=pJ (pP a) (pP b)
 have h2:=pR (pP a) (pP b)
 have h3:kX (pP a) (pP b)=0↔a=b:=⟨fun h=>a2f (mR.1 h),fun h=>by rw[h];exact mR.2 rfl⟩
 constructor
 ·intro h
  rcases h2 with h2|h2|h2
  ·exact .inl h2
  ·exact .inr (h3.1 h2)
  ·omega
 ·rintro(h|h)
  ·omega
  ·have:=h3.2 h;omega
theorem a6s(l:List Ctl):(uX l).Pairwise fun a b=>leC a b=true:=by
 unfold uX
 refine List.pairwise_mergeSort (fun a b c h1 h2=> ?_) (fun a b=> ?_) l
 ·rw[yH]at*
  rcases h1 with h1|rfl
  ·rcases h2 with h2|rfl
   ·exact .inl (wO h1 h2)
   ·exact .inl h1
  ·exact h2
 ·rw[eG,yH,yH]
  have h1:=pJ (pP a) (pP b)
  have h3:kX (pP a) (pP b)=0→a=b:=fun h=>a2f (mR.1 h)
  unfold wU
  rcases pR (pP a) (pP b)with h2|h2|h2
  ·exact .inl (.inl h2)
  ·exact .inl (.inr (h3 h2))
  ·exact .inr (.inl (by omega))
theorem b0M{es:List Ctl}(h:es.Pairwise fun a b=>leC a b=true):∀m,m≤es.length→(tQ es m).Pairwise wU
 | 0,_=>by simp[tQ]
 | m+1,hm=>by
   rw[oI,eV]
   refine⟨b0M h m (by omega),by split<;>simp,fun x hx y hy=> ?_⟩
   split at hy
   ·rename_i hne
    rw[dM]at hy
    subst hy
    obtain⟨j,hj,rfl⟩:=(a4B es x m).1 hx
    have hne:iG es m≠iG es (m-1):=hne.resolve_left (by omega)
    have hpw:=eK.1 h
    have h1:wU (iG es (m-1)) (iG es m):=by
     have h2:=hpw (m-1) m (by omega) (by omega) (by omega)
     rw[←jV es _ (by omega),←jV es _ (by omega),yH]at h2
     exact h2.resolve_right fun e=>hne e.symm
    rcases ik j (m-1)with hj2|hj2
    ·have h2:=hpw j (m-1) (by omega) (by omega) hj2
     rw[←jV es _ (by omega),←jV es _ (by omega),yH]at h2
     rcases h2 with h2|h2
     ·exact wO h2 h1
     ·rw[h2];exact h1
    ·rw[show j=m-1 from by omega]
     exact h1
   ·cases hy
theorem b3M(l:List Ctl):(dd (uX l)).Pairwise wU:=b0M (a6s l) _ (dm _)
theorem a4h{l:List Ctl}{x:Ctl}:x∈dd (uX l)↔x∈l:=by
 rw[b7F]
 unfold uX
 exact List.mem_mergeSort
theorem a1f:∀(l m:List Ctl),l.Pairwise wU→m.Pairwise wU→(∀x,x∈l↔x∈m)→l=m
 | [],[],_,_,_=>rfl
 | [],b::m,_,_,h=>absurd ((h b).2 (by simp)) eF
 | a::l,[],_,_,h=>absurd ((h a).1 (by simp)) eF
 | a::l,b::m,h1,h2,h=>by
   rw[List.pairwise_cons]at h1 h2
   have hab:a=b:=by
    rcases ej.1 ((h a).1 (by simp))with e|e
    ·exact e
    ·rcases ej.1 ((h b).2 (by simp))with f|f
     ·exact f.symm
     ·exact absurd (wO (h1.1 b f) (h2.1 a e)) a1G
   subst hab
   rw[a1f l m h1.2 h2.2 fun x=> ?_]
   constructor
   ·intro hx
    rcases ej.1 ((h x).1 (eH _ hx))with e|e
    ·subst e;exact absurd (h1.1 x hx) a1G
    ·exact e
   ·intro hx
    rcases ej.1 ((h x).2 (eH _ hx))with e|e
    ·subst e;exact absurd (h2.1 x hx) a1G
    ·exact e
theorem a3y{l:List Ctl}(h:l.Pairwise wU):dd (uX l)=l:=a1f _ _ (b3M l) h fun x=>a4h
theorem a3F{r:Rp}{c:Ctl}:c∈mM r↔c=⟨1,r.tc.1,r.stop⟩∨∃i∈r.cps,c=⟨2,0,i⟩:=by
 unfold mM xY
 rw[a4h,ej,dE]
 constructor
 ·rintro(h|⟨i,hi,h⟩)
  ·exact .inl h
  ·exact .inr ⟨i,hi,h.symm⟩
 ·rintro(h|⟨i,hi,h⟩)
  ·exact .inl h
  ·exact .inr ⟨i,hi,h.symm⟩
end Go.Ds
namespace Go.Ds
open Go.Proofs Go.Proofs.Tryz
variable {H:Heap}
set_option maxRecDepth 10000
set_option maxHeartbeats 1000000
structure Qv where
 v:Value
 l:List Ctl
 deriving Inhabited
def Qv.cells(q:Qv):List Value:=[q.v]
def Qv.In(H:Heap)(q:Qv):Prop:=Sl 3 Ctl.cells H q.v q.l
def tB:List Ctl→List (List Ctl)→Nat→Option (List Ctl)
 | [],[],_=>some []
 | [],_::_,_=>none
 | _::_,[],_=>some []
 | _::_,_::_,0=>none
 | c::f,x::xs,n+1=>match tB f ((x::xs).filter fun y=> !decide (c∈y)) n with
   | some l=>some (c::l)
   | none=>tB f (x::xs) (n+1)
theorem yF(f:List Ctl)(n:Nat):tB f [] n=some []:=by cases f<;>rfl
theorem a0t(f:List Ctl){ss:List (List Ctl)}(h:ss≠[]):tB f ss 0=none:=by
 cases ss with
 | nil=>exact absurd rfl h
 | cons=>cases f<;>rfl
theorem a6r{ss:List (List Ctl)}(h:ss≠[])(n:Nat):tB [] ss n=none:=by
 cases ss with
 | nil=>exact absurd rfl h
 | cons=>rfl
theorem zJ(c:Ctl)(f:List Ctl){ss:List (List Ctl)}(h:ss≠[])(n:Nat):tB (c::f) ss (n+1)=match tB f (ss.filter fun y=> !decide (c∈y)) n with
 | some l=>some (c::l)
 | none=>tB f ss (n+1):=by
 cases ss with
 | nil=>exact absurd rfl h
 | cons=>rfl
theorem b6q:∀(f:List Ctl)(ss:List (List Ctl))(n:Nat){l:List Ctl},tB f ss n=some l→l.length≤f.length:=by
 intro f
 induction f with
 | nil=>
   intro ss n l h
   cases ss with
   | nil=>rw[yF]at h;cases h;simp
   | cons=>rw[a6r (by simp)]at h;cases h
 | cons c f ih=>
   intro ss n l h
   by_cases hs:ss=[]
   ·subst hs
    rw[yF]at h;cases h;simp
   ·cases n with
    | zero=>rw[a0t _ hs]at h;cases h
    | succ n=>
      rw[zJ _ _ hs]at h
      cases h2:tB f (ss.filter fun y=> !decide (c∈y)) n with
      | none=>
        rw[h2]at h
        have:=ih _ _ h
        simp;omega
      | some m=>
        rw[h2]at h
        cases h
        have:=ih _ _ h2
        simp;omega
theorem b1D:∀(f:List Ctl)(ss:List (List Ctl))(n:Nat),f.length≤n→(∀x∈ss,∃c∈f,c∈x)→(tB f ss n).isSome=true:=by
 intro f
 induction f with
 | nil=>
   intro ss n _ h
   cases ss with
   | nil=>rfl
   | cons x ss=>
     obtain⟨c,hc,_⟩:=h x (by simp)
     cases hc
 | cons c f ih=>
   intro ss n hn h
   by_cases hs:ss=[]
   ·subst hs
    rw[yF];rfl
   ·cases n with
    | zero=>simp at hn
    | succ n=>
      rw[zJ _ _ hs]
      have h2:=ih (ss.filter fun y=> !decide (c∈y)) n (by simpa using hn) fun x hx=>by
       rw[fG]at hx
       obtain⟨d,hd,hdx⟩:=h x hx.1
       have hcx:c∉x:=by simpa using hx.2
       rcases ej.1 hd with rfl|hd
       ·exact absurd hdx hcx
       ·exact⟨d,hd,hdx⟩
      cases h3:tB f (ss.filter fun y=> !decide (c∈y)) n with
      | none=>rw[h3]at h2;cases h2
      | some l=>rfl
theorem RdAt.bu{v:Value}{n:Nat}{cs:List Value}(h:RdAt H v n cs):jL v=true:=by
 rcases h with⟨rfl,_⟩|⟨A,i,e,row,ty,rw',lo,ver,m,_,_,_,_,_,_,rfl⟩<;>rfl
theorem c0Z:∀(m:Nat){H:Heap}(fv:Value)(fr:List Ctl)(_:fr.length<m)(_:Sl 3 Ctl.cells H fv fr)(sv:Value)(ss:List Qv)(_:Sl 1 Qv.cells H sv ss)(_:∀q∈ss,q.In H)(n:Nat)(_:n<1000)(_:fr.length<1000000)(_:ss.length<1000000)(_:∀q∈ss,q.l.length<1000000000),
 Fn prog 65 [sv,fv,I n] H fun r H'=>∃ov,r=.tuple #[ov,.bool (tB fr (ss.map (·.l)) n).isSome]∧St prog H H' [⟨ov,3,mZ ((tB fr (ss.map (·.l)) n).getD [])⟩]:=by
 intro m
 induction m with
 | zero=>exact fun{H}fv fr h=>absurd h (dX _)
 | succ m ih=>
 intro H fv fr hm hf sv ss hs hq n hn9 hfl hsl hql
 refine .cB func65 rfl (by kernel_rfl) (m:=59) rfl fun l hn g0 g1 g2=> ?_
 simp(disch:=omega) only[↓RA,RZ,simprocAttr,hn,g0,((sR H).sl hs).len]
 refine iF (fun h1=> ?_) (fun h1=> ?_)
 ·have hz:ss.map (·.l)=[]:=by rw[ed.1 (show ss.length=0 by omega)];rfl
  simp(disch:=omega) only[↓RA,RZ,simprocAttr,hn,b8U,h1]
  rw[hz,yF]
  exact⟨.slice none 0 0,rfl,(sR H).nil 2⟩
 have hne:ss.map (·.l)≠[]:=by
  intro e
  have:=congrArg List.length e
  rw[dC,dZ]at this
  omega
 simp(disch:=omega) only[↓RA,RZ,simprocAttr,hn,g2,h1]
 refine iF (fun h2=> ?_) (fun h2=> ?_)
 ·have hz:n=0:=by omega
  simp(disch:=omega) only[↓RA,RZ,simprocAttr,hn,b8U,h1,h2]
  rw[hz,a0t _ hne]
  exact⟨.slice none 0 0,rfl,(sR H).nil 2⟩
 obtain⟨k,rfl⟩:∃k,n=k+1:=⟨n-1,by omega⟩
 simp(disch:=omega) only[↓RA,RZ,simprocAttr,hn,g1,((sR H).sl hf).len,h1,h2]
 refine Wp.aj (fun n l H'=>l.length=59∧get l 0=sv∧get l 1=fv∧get l 2=I (k+1:Nat)∧get l 20=fv∧get l 21=I fr.length∧∃(i:Nat),(n+i=fr.length∧tB fr (ss.map (·.l)) (k+1)=tB (fr.drop i) (ss.map (·.l)) (k+1))∧get l 22=I i∧St prog H H' []) fr.length ?_ ?_
 ·simp(disch:=omega) only[RB,RC,simprocAttr,hn,g0,g1,g2]
  exact⟨0,⟨by omega,rfl⟩,rfl,(sR H)⟩
 rintro n l H1⟨hn,g0,g1,g2,g20,g21,i,⟨hi,hh⟩,g22,hS1⟩
 simp(disch:=omega) only[↓RA,RB,simprocAttr,hn,g21,g22]
 refine iF (fun q1=> ?_) (fun q1=> ?_)
 ·have hdr:fr.drop i=iG fr i::fr.drop (i+1):=oB fr i (by omega)
  rw[hdr,zJ _ _ hne]at hh
  simp(disch:=omega) only[↓RA,RZ,simprocAttr,hn,g20,g22,(hS1.sl hf).idx,(hS1.sl hf).ae,Ctl.cells,q1]
  refine hS1.eNew 3 [I 0,I 0,I 0] rfl rfl rfl a7F fun A1 H2 hS2=> ?_
  simp only[RT]at hS2
  simp(disch:=omega) only[↓RA,RZ,simprocAttr,hn,q1]
  refine hS2.aa 0 rfl [I (iG fr i).kind,I (iG fr i).dv,I (iG fr i).ix] rfl rfl a7F (by simp) fun H3 hS3=> ?_
  simp only[RT]at hS3
  simp(disch:=omega) only[↓RA,RZ,simprocAttr,hn,g0,(hS3.sl hs).len,q1]
  have hS4:=hS3.nil 0
  simp only[RT]at hS4
  refine Wp.aj (fun n l H'=>l.length=59∧get l 0=sv∧get l 1=fv∧get l 2=I (k+1:Nat)∧get l 8=I i∧get l 9=(ptr A1 0 3)∧get l 20=fv∧get l 21=I fr.length∧get l 22=I i∧get l 27=sv∧get l 28=I ss.length∧∃(j:Nat)(ow:Value),(n+j=ss.length)∧get l 29=I j∧get l 10=ow∧St prog H H' [⟨ptr A1 0 3,0,[I (iG fr i).kind,I (iG fr i).dv,I (iG fr i).ix]⟩,⟨ow,1,((ss.take j).filter fun q=> !decide (iG fr i∈q.l)).flatMap Qv.cells⟩]) ss.length ?_ ?_
  ·simp(disch:=omega) only[RB,RC,simprocAttr,hn,g0,g1,g2,g20,g21,g22]
   exact⟨0,.slice none 0 0,by omega,rfl,rfl,hS4⟩
  rintro n l H4⟨hn,g0,g1,g2,g8,g9,g20,g21,g22,g27,g28,j,ow,hj,g29,yT,hS5⟩
  simp(disch:=omega) only[↓RA,RB,simprocAttr,hn,g28,g29]
  refine iF (fun q2=> ?_) (fun q2=> ?_)
  ·have hjm:iG ss j∈ss:=iM (by omega)
   have hts:=yX ss j (by omega)
   simp(disch:=omega) only[↓RA,RZ,simprocAttr,hn,g9,g27,g29,(hS5.sl hs).idx,(hS5.sl hs).ld,Qv.cells,hS5.ae 0 rfl,q2]
   refine hS5.cF (b7V (iG ss j).v (iG ss j).l (hS5.sl (hq _ hjm)) (hql _ hjm) (iG fr i)) fun H5 hS6=> ?_
   simp(disch:=omega) only[↓RA,RZ,simprocAttr,hn,q2]
   refine jD (fun q3=> ?_) (fun q3=> ?_)
   ·have hfl2:(((ss.take j).filter fun q=> !decide (iG fr i∈q.l)).flatMap Qv.cells).length≤ss.length:=by
     rw[jF (n:=1) (cel:=Qv.cells) (fun _=>rfl),gI]
     exact dK (fc _ _) (by rw[fy];omega)
    simp(disch:=omega) only[↓RA,RZ,simprocAttr,hn,yT,q2,q3]
    refine hS6.ak [(iG ss j).v] b0g c0p rfl rfl (by first|(simp[(hS6.sl (hq (iG ss j) (iM (by omega)))).cells.1];done)|simp[Value.cells,(hS6.sl (hq (iG ss j) (iM (by omega)))).cells.1]) (by first|(simp[(hS6.sl (hq (iG ss j) (iM (by omega)))).cells.1];done)|simp[Value.cells,(hS6.sl (hq (iG ss j) (iM (by omega)))).cells.1]) (by simp[(hS6.sl (hq (iG ss j) (iM (by omega)))).cells.2.1]) (by decide) (by decide) fun w1 H6 hS7=> ?_
    simp only[RT]at hS7
    simp(disch:=omega) only[↓RA,RZ,simprocAttr,hn,q2,q3]
    refine hS7.av 1 rfl (hS7.rd 2 rfl) b0g (by simp only[dT,dZ];omega) fun w2 H7 hS8=> ?_
    simp only[RT]at hS8
    simp(disch:=omega) only[↓RA,RZ,simprocAttr,hn,g0,g1,g2,g8,g9,g20,g21,g22,g27,g28,g29,q2,q3]
    refine⟨n-1,by omega,j+1,w2,by omega,by simp,rfl,?_⟩
    rw[hts,fw,dD,show([iG ss j].filter fun q=> !decide (iG fr i∈q.l))=[iG ss j]from by simp at q3 ⊢;exact q3]
    exact hS8.pick [0,1] (by decide) rfl
   simp(disch:=omega) only[↓RA,RZ,simprocAttr,hn,g0,g1,g2,g8,g9,g20,g21,g22,g27,g28,g29,yT,q2,q3]
   refine⟨n-1,by omega,j+1,ow,by omega,by simp,rfl,?_⟩
   rw[hts,fw,dD,show([iG ss j].filter fun q=> !decide (iG fr i∈q.l))=[]from by simp at q3 ⊢;exact q3,eU,dA]
   exact hS6
  have hjj:j=ss.length:=by omega
  subst hjj
  rw[eo]at hS5
  obtain⟨ss2,hss2⟩:∃l,l=ss.filter fun q=> !decide (iG fr i∈q.l):=⟨_,rfl⟩
  have hmap:ss2.map (·.l)=(ss.map (·.l)).filter fun y=> !decide (iG fr i∈y):=by rw[hss2,List.filter_map];rfl
  have hmem:∀q∈ss2,q∈ss:=fun q h=>by rw[hss2]at h;exact(fG.1 h).1
  have hsl2:ss2.length≤ss.length:=by rw[hss2];exact fc _ _
  rw[←hss2]at hS5
  obtain⟨O,hO⟩:∃O,O=tB (fr.drop (i+1)) (ss2.map (·.l)) k:=⟨_,rfl⟩
  rw[←hmap,←hO]at hh
  have hI:=ih (kS fv 3 (i+1) (fr.length-(i+1))) (fr.drop (i+1)) (by rw[eE];omega) ((hS5.sl hf).bW (i+1) (by omega) (by omega)) ow ss2 (hS5.az 1 rfl (fun _=>rfl)) (fun q h=>hS5.sl (hq q (hmem q h))) k (by omega) (by rw[eE];omega) (by omega) (fun q h=>hql q (hmem q h))
  rw[←hO]at hI
  have hti:((i:Int)+1).toNat=i+1:=by omega
  have htl:((fr.length:Int)-((i:Int)+1)).toNat=fr.length-(i+1):=by omega
  have hwm:IntKind.wrap .i64 (((k+1:Nat):Int)-1)=(k:Int):=by
   rw[show(((k+1:Nat):Int)-1)=(k:Int)from by omega]
   exact a0k (a:=(k:Int)) (by omega) (by omega)
  simp(disch:=omega) only[↓RA,RZ,simprocAttr,hn,g1,g8,yT,q2]
  simp(disch:=omega) only[↓RA,RZ,simprocAttr,hn,g2,(hS5.sl hf).aD,q2,hti,htl,hwm]
  refine iR (hI) ?_
  rintro r H8⟨ov,rfl,hT2⟩
  have hS9:=hS5.trans hT2
  simp only[RT]at hS9
  simp(disch:=omega) only[↓RA,RZ,simprocAttr,hn,q2]
  refine jD (fun q4=> ?_) (fun q4=> ?_)
  ·obtain⟨l,hl⟩:∃l,O=some l:=eL.1 q4
   have hll:(mZ (O.getD [])).length≤3*fr.length:=by
    rw[lP,hl]
    have:=b6q _ _ _ (hO.symm.trans hl)
    rw[eE]at this
    simp only[dO]
    omega
   simp(disch:=omega) only[↓RA,RZ,simprocAttr,hn,g9,hS9.ae 0 rfl,q2,q4]
   refine hS9.ak [I (iG fr i).kind,I (iG fr i).dv,I (iG fr i).ix] b1l c1K rfl rfl (by simp[Value.cells]) rfl rfl (by decide) (by decide) fun w3 H9 hS10=> ?_
   simp only[RT]at hS10
   simp(disch:=omega) only[↓RA,RZ,simprocAttr,hn,q2,q4]
   refine hS10.av 3 rfl (hS10.rd 2 rfl) b1l (by simp only[dT,dZ];omega) fun w4 H10 hS11=> ?_
   simp only[RT]at hS11
   simp(disch:=omega) only[↓RA,RZ,simprocAttr,hn,b8U,q2,q4]
   rw[hl]at hh
   rw[hl]at hS11
   have hnt:jL w4=true:=(hS11.rd 3 rfl).bu
   rw[hh,if_pos hnt]
   exact⟨w4,rfl,hS11.pick [3] (by decide) rfl⟩
  have hl:O=none:=by
   cases O with
   | none=>rfl
   | some l=>simp at q4
  rw[hl]at hh
  simp(disch:=omega) only[↓RA,RZ,simprocAttr,hn,g0,g1,g2,g20,g21,g22,q2,q4]
  exact⟨fr.length-(i+1),by omega,i+1,⟨by omega,hh⟩,by simp,hS9.forget⟩
 have hii:i=fr.length:=by omega
 subst hii
 rw[gP,a6r hne]at hh
 simp(disch:=omega) only[↓RA,RZ,simprocAttr,hn,b8U,q1]
 rw[hh]
 exact⟨.slice none 0 0,rfl,hS1.nil 2⟩
def pU(s:Sn):List Ctl:=dd (uX ((pN s).flatMap mM))
def a7o(s:Sn):Nat→Option (List Ctl):=tB (pU s) ((pN s).map mM)
def wF(s:Sn):Int:=if tS s≠0 then tS s else if 20<(pU s).length then 4 else 0
def a0o(s:Sn):Option (List Ctl):=if wF s≠0∨pN s=[]then none else(List.range ((pU s).length+1)).findSome? (a7o s)
theorem b4K(s:Sn):(pU s).length≤((pN s).flatMap mM).length:=by
 have h:=b7a (uX ((pN s).flatMap mM))
 rw[a1z]at h
 exact h
theorem a3t{s:Sn}(n:Nat)(h:(pU s).length≤n):(a7o s n).isSome=true:=by
 refine b1D _ _ _ h fun x hx=> ?_
 obtain⟨p,hp,rfl⟩:=dE.1 hx
 refine⟨⟨1,p.tc.1,p.stop⟩,?_,a3F.2 (.inl rfl)⟩
 unfold pU
 rw[a4h,eT]
 exact⟨p,hp,a3F.2 (.inl rfl)⟩
theorem b8W{s:Sn}{n:Nat}{l:List Ctl}(hE:wF s=0)(hne:pN s≠[])(h:a7o s n=some l)(h0:∀m,m<n→a7o s m=none):a0o s=some l:=by
 unfold a0o
 rw[if_neg (by rintro(h|h);(· exact h hE);(· exact hne h))]
 have hn:n≤(pU s).length:=by
  rcases ik (pU s).length n with h1|h1
  ·have:=a3t (s:=s) (pU s).length (dm _)
   rw[h0 _ h1]at this
   cases this
  ·exact h1
 rw[show(pU s).length+1=n+(1+((pU s).length-n))from by omega,List.range_add,List.findSome?_append]
 have h1:(List.range n).findSome? (a7o s)=none:=by
  rw[List.findSome?_eq_none_iff]
  intro m hm
  exact h0 m (dG.1 hm)
 rw[h1,Nat.add_comm 1,List.range_succ_eq_map]
 simp[h]
theorem a8M(hG:Glob gH H)(s:Sn)(hs:s.In H):Fn prog 26 [s.v] H fun r H'=>∃ov,r=.tuple #[ov,.bool (a0o s).isSome,I (wF s)]∧St prog H H' [⟨ov,3,mZ ((a0o s).getD [])⟩]:=by
 refine .aS func26 rfl (by kernel_rfl) (m:=60) rfl fun l hn g0=> ?_
 simp(disch:=omega) only[↓RA,RB,simprocAttr,g0]
 refine(sR H).eNew 10 [(.string s.o.name),s.o.rv,s.o.dv,s.o.cv,s.sv,(.int .u64 s.rg.cpl),(.int .u64 s.rg.off),s.kv,I s.p.1,I s.p.2] rfl rfl (by simp[OC,((sR H).sl hs.o.1).cells.2.1,((sR H).sl hs.o.2.2.1).cells.2.1,((sR H).sl hs.o.2.2.2.2.1).cells.2.1,((sR H).sl hs.rg.1).cells.2.1,((sR H).sl hs.ks.sl).cells.2.1]) rQ fun A1 H1 hS1=> ?_
 simp only[RT]at hS1
 simp(disch:=omega) only[↓RA,RZ,simprocAttr,hn,hS1.ae 0 rfl]
 refine iR (b9a (hS1.gl hG) s (hs.ag hS1)) ?_
 rintro r H2⟨ov,es,rfl,hQ,hN,hT1⟩
 have hS2:=hS1.trans hT1
 simp only[RT]at hS2
 have hel:es.length≤500:=by
  have:=b0z s
  rw[←hQ,dC]at this
  exact this
 have hov:Sl 6 Rn.cells H2 ov es:=hS2.az 1 rfl (fun _=>rfl)
 have hin:∀e∈es,e.In H2:=fun e he=>⟨(hN e he).1.1,by have:=(hN e he).2;omega⟩
 have hcl:∀e∈es,e.cps.length<1000000:=fun e he=>by have:=(hN e he).2;omega
 have hul:∀e∈es,(mM e.rp).length≤1025:=fun e he=>by
  have h1:=b2c e.rp
  have h2:=(hN e he).2
  have h3:e.rp.cps=e.cps:=rfl
  rw[h3]at h1
  omega
 simp(disch:=omega) only[↓RA,RZ,simprocAttr,hn]
 refine iS (fun h1=> ?_) (fun h1=> ?_)
 ·have hE:wF s=tS s:=by unfold wF;rw[if_pos h1]
  have hz:a0o s=none:=by unfold a0o;rw[if_pos (.inl (by rw[hE];exact h1))]
  simp(disch:=omega) only[↓RA,RZ,simprocAttr,hn,c0a,h1]
  rw[hz,hE]
  exact⟨.slice none 0 0,rfl,(hS2.forget).nil 2⟩
 have h1:tS s=0:=dI.1 h1
 simp(disch:=omega) only[↓RA,RZ,simprocAttr,hn,(hS2.az 1 rfl (fun _=>rfl)).len,h1]
 refine iF (fun h2=> ?_) (fun h2=> ?_)
 ·have hes:es=[]:=ed.1 (by omega)
  have hr:pN s=[]:=by rw[←hQ,hes];rfl
  have hz:a0o s=none:=by unfold a0o;rw[if_pos (.inr hr)]
  have hE:wF s=0:=by unfold wF pU uX;rw[if_neg (by rw[h1];decide),hr];simp[dd,tQ]
  simp(disch:=omega) only[↓RA,RZ,simprocAttr,hn,c0a,h1,h2]
  rw[hz,hE]
  exact⟨.slice none 0 0,rfl,(hS2.forget).nil 2⟩
 have hne:pN s≠[]:=by
  intro e
  rw[←hQ]at e
  exact h2 (by rw[gS.1 e];rfl)
 have hpre:=hS2
 simp(disch:=omega) only[↓RA,RZ,simprocAttr,hn,((sR H2).sl hov).len,h1,h2]
 have hS3:=(sR H2).nil 0
 simp only[RT]at hS3
 have hS4:=hS3.nil 2
 simp only[RT]at hS4
 refine Wp.aj (fun n l H'=>l.length=60∧get l 2=(.slice none 0 0)∧get l 3=(.bool false)∧get l 4=I (tS s)∧get l 26=ov∧get l 27=I es.length∧∃(j:Nat)(sw:Value)(qs:List Qv)(aw:Value),(n+j=es.length∧qs.map (·.l)=(es.take j).map (fun e=>mM e.rp)∧(∀q∈qs,Slx 3 Ctl.cells H' (nb [sw,aw]) q.v q.l))∧get l 28=I j∧get l 6=sw∧get l 7=aw∧St prog H2 H' [⟨sw,1,qs.flatMap Qv.cells⟩,⟨aw,3,mZ ((es.take j).flatMap fun e=>mM e.rp)⟩]) es.length ?_ ?_
 ·simp(disch:=omega) only[RB,RC,simprocAttr,hn,h1]
  exact⟨0,.slice none 0 0,[],.slice none 0 0,⟨by omega,rfl,fun q hq=>absurd hq eF⟩,rfl,rfl,rfl,hS4⟩
 rintro n l H3⟨hn,g2,g3,g4,g26,g27,j,sw,qs,aw,⟨hj,hqm,hqx⟩,g28,g6,g7,hS5⟩
 have hql:qs.length=j:=by
  have:=congrArg List.length hqm
  rw[dC,dC,fy]at this
  omega
 have hal:((es.take j).flatMap fun e=>mM e.rp).length≤j*1025:=by
  rw[List.length_flatMap]
  have h3:∀l:List Rn,(∀e∈l,e∈es)→(l.map fun e=>(mM e.rp).length).sum≤l.length*1025:=by
   intro l
   induction l with
   | nil=>intro _;simp
   | cons e l ih=>
     intro h
     have h1:=hul e (h e (by simp))
     have h2:=ih fun x hx=>h x (by simp[hx])
     simp only[dY,List.sum_cons,dT]
     omega
  refine dK (h3 _ fun e he=>List.mem_of_mem_take he) ?_
  rw[fy]
  omega
 simp(disch:=omega) only[↓RA,RB,simprocAttr,hn,g27,g28]
 refine iF (fun p1=> ?_) (fun p1=> ?_)
 ·have hm:iG es j∈es:=iM (by omega)
  have hpre1:=hS5
  obtain⟨B1,hBB1,hS6⟩:=hS5.aQ (os:=[⟨sw,1,_⟩,⟨aw,3,_⟩])
  have hkp:∀{H1 os},St prog B1 H1 os→∀q∈qs,Slx 3 Ctl.cells H1 (nb (os.map (·.v))) q.v q.l:=fun h q hq=>(hqx q hq).step (h.kept hBB1)
  simp(disch:=omega) only[↓RA,RZ,simprocAttr,hn,g26,g28,((hS5.ax hBB1 hS6).sl hov).idx,((hS5.ax hBB1 hS6).sl hov).ae,Rn.cells,p1]
  refine hS6.eNew 6 [I 0,I 0,(.slice none 0 0),I 0,I 0,I 0] rfl rfl rfl nP fun A2 H4 hS7=> ?_
  simp only[RT]at hS7
  simp(disch:=omega) only[↓RA,RZ,simprocAttr,hn,p1]
  refine hS7.aa 2 rfl [I (iG es j).pl.1,I (iG es j).pl.2,(iG es j).cv,I (iG es j).tc.1,I (iG es j).tc.2,I (iG es j).stop] rfl (by simp[OC,((hS5.ax hBB1 hS7).sl (hin (iG es j) (iM (by omega))).1).cells.2.1]) nP (by simp) fun H5 hS8=> ?_
  simp only[RT]at hS8
  simp(disch:=omega) only[↓RA,RZ,simprocAttr,hn,g6,hS8.ae 2 rfl,p1]
  have hSb:=hS8
  refine iR (a6E (iG es j) ((hin _ hm).ag (hS5.ax hBB1 hS8)) (hcl _ hm)) ?_
  rintro r H6⟨hx1,hT2⟩
  have hS9:=hS8.trans hT2
  simp only[RT]at hS9
  obtain⟨q1,rfl⟩:∃w,w=r:=⟨r,rfl⟩
  have hy1:=hx1.step hSb.bX
  have hpre2:=hS9
  obtain⟨B2,hBB2,hS10⟩:=hS9.aQ (os:=[⟨sw,1,_⟩,⟨aw,3,_⟩,⟨ptr A2 0 6,0,_⟩])
  simp(disch:=omega) only[↓RA,RZ,simprocAttr,hn,p1]
  refine hS10.ak [q1] b0g c0p rfl rfl (by first|(simp[hx1.1.cells.1];done)|simp[Value.cells,hx1.1.cells.1]) (by first|(simp[hx1.1.cells.1];done)|simp[Value.cells,hx1.1.cells.1]) (by simp[hx1.1.cells.2.1]) (by decide) (by decide) fun w1 H7 hS11=> ?_
  simp only[RT]at hS11
  simp(disch:=omega) only[↓RA,RZ,simprocAttr,hn,p1]
  refine hS11.av 0 rfl (hS11.rd 3 rfl) b0g (by rw[jF (n:=1) (cel:=Qv.cells) (fun _=>rfl)];simp;omega) fun w2 H8 hS12=> ?_
  simp only[RT]at hS12
  simp(disch:=omega) only[↓RA,RZ,simprocAttr,hn,g7,hS12.ae 2 rfl,p1]
  refine iR (a6E (iG es j) ((hin _ hm).ag (hS5.ax hBB1 (hS9.ax hBB2 hS12))) (hcl _ hm)) ?_
  rintro r H9⟨hx2,hT3⟩
  have hS13:=hS12.trans hT3
  simp only[RT]at hS13
  obtain⟨q2,rfl⟩:∃w,w=r:=⟨r,rfl⟩
  have hu1:=hul _ hm
  simp(disch:=omega) only[↓RA,RZ,simprocAttr,hn,p1]
  refine hS13.av 1 rfl hx2.1.rd b1l (by rw[lP,lP];omega) fun w3 H10 hS14=> ?_
  simp only[RT]at hS14
  simp(disch:=omega) only[↓RA,RZ,simprocAttr,hn,g2,g3,g4,g26,g27,g28,p1]
  refine⟨n-1,by omega,j+1,w2,qs++[⟨q1,mM (iG es j).rp⟩],w3,⟨by omega,?_,fun q hq=> ?_⟩,by simp,rfl,rfl,?_⟩
  ·rw[yX es j (by omega),dN,dN,hqm]
   rfl
  ·rcases dP.1 hq with hq|hq
   ·exact(hkp (hS9.ax hBB2 hS14) q hq).bn (by simp)
   ·rw[dM]at hq
    subst hq
    exact(hy1.step (hS14.kept hBB2)).bn (by simp)
  ·rw[yX es j (by omega)]
   simp only[dD,dL,eU,dA]
   exact(hS5.ax hBB1 (hS9.ax hBB2 hS14)).pick [0,1] (by decide) rfl
 have hjj:j=es.length:=by omega
 subst hjj
 rw[eo]at hqm hal
 have hfm:(es.flatMap fun e=>mM e.rp)=(pN s).flatMap mM:=by rw[←hQ,List.flatMap_map]
 have hqm2:qs.map (·.l)=(pN s).map mM:=by rw[hqm,←hQ,ig];rfl
 rw[hfm]at hal
 rw[eo,hfm]at hS5
 have hpre3:=hS5
 obtain⟨B3,hBB3,hS15⟩:=hS5.aQ (os:=[⟨sw,1,_⟩,⟨aw,3,_⟩])
 have hks:∀{H1 os},St prog B3 H1 os→∀q∈qs,Slx 3 Ctl.cells H1 (nb (os.map (·.v))) q.v q.l:=fun h q hq=>(hqx q hq).step (h.kept hBB3)
 simp(disch:=omega) only[↓RA,RZ,simprocAttr,hn,g7,p1]
 refine a7A hS15 1 rfl (by omega) fun HS hSS=> ?_
 simp only[List.set_cons_succ,gf]at hSS
 simp(disch:=omega) only[↓RA,RZ,simprocAttr,hn,g7,p1]
 have hM1:=hSS.pick (os':=[⟨aw,3,_⟩]) [1] (by decide) rfl
 have hR1:=hSS.pick (os':=[⟨aw,3,_⟩,⟨sw,1,_⟩]) [1,0] (by decide) rfl
 refine iR (b6W hM1.aO (by rw[a1z];omega)) ?_
 rintro r H11⟨rest,rfl,hT4⟩
 have hS16:=hR1.frame hT4
 simp only[RT]at hS16
 simp(disch:=omega) only[↓RA,RZ,simprocAttr,hn,p1]
 have hqs:∀q∈qs,q.In H11:=fun q hq=>(hks hS16 q hq).1
 have haw:Sl 3 Ctl.cells H11 (kS aw 3 0 (pU s).length) (pU s):=a9d (hS16.rd 0 rfl)
 have hsw:Sl 1 Qv.cells H11 sw qs:=hS16.az 1 rfl (fun _=>rfl)
 have hpre4:=(hS5.ax hBB3 hS16)
 have hanl:=b4K s
 have hany:dd (uX ((pN s).flatMap mM))=pU s:=rfl
 simp(disch:=omega) only[↓RA,RZ,simprocAttr,hn,((sR H11).sl haw).len,p1,hany]
 refine iF (fun p3=> ?_) (fun p3=> ?_)
 ·have hE:wF s=4:=by unfold wF;rw[if_neg (by rw[h1];decide),if_pos (by omega)]
  have hz:a0o s=none:=by unfold a0o;rw[if_pos (.inl (by rw[hE];decide))]
  simp(disch:=omega) only[↓RA,RZ,simprocAttr,hn,c0a,p1,hany,p3]
  rw[hz,hE]
  exact⟨.slice none 0 0,rfl,(hpre.forget.trans (hpre4.forget.trans (sR H11))).nil 2⟩
 have hE:wF s=0:=by unfold wF;rw[if_neg (by rw[h1];decide),if_neg (by omega)]
 have hmn:(pN s).map mM≠[]:=fun e=>hne (gS.1 e)
 have hqle:∀q∈qs,q.l.length<1000000000:=fun q hq=>by
  have h3:q.l∈qs.map (·.l):=gx hq
  rw[hqm]at h3
  obtain⟨e,he,h4⟩:=dE.1 h3
  have:=hul e he
  rw[←h4]
  omega
 have hqsl:qs.length≤500:=by
  have:=congrArg List.length hqm2
  have h3:=b0z s
  rw[dC,dC]at this
  omega
 simp(disch:=omega) only[↓RA,RZ,simprocAttr,p1,hany,p3]
 refine Wp.aj (fun n l H'=>l.length=60∧get l 6=sw∧get l 7=(kS aw 3 0 (pU s).length)∧∃(k:Nat),(0<k∧n+k=(pU s).length+2∧∀m,m<k→a7o s m=none)∧get l 10=I k∧St prog H11 H' []) ((pU s).length+1) ?_ ?_
 ·simp(disch:=omega) only[RB,RC,simprocAttr,hn,g6]
  exact⟨1,⟨by omega,by omega,fun m hm=>by rw[show m=0 from by omega];exact a0t _ hmn⟩,rfl,(sR H11)⟩
 rintro n l H12⟨hn,g6,g7,k,⟨hk0,hk,hkn⟩,yT,hS17⟩
 obtain⟨O,hO⟩:∃O,O=a7o s k:=⟨_,rfl⟩
 have hI:=c0Z ((pU s).length+1) (kS aw 3 0 (pU s).length) (pU s) (by omega) (hS17.sl haw) sw qs (hS17.sl hsw) (fun q hq=>hS17.sl (hqs q hq)) k (by omega) (by omega) (by omega) hqle
 rw[hqm2,show tB (pU s) ((pN s).map mM) k=O from hO.symm]at hI
 simp(disch:=omega) only[↓RA,RZ,simprocAttr,hn,g6,g7,yT]
 refine iR (hI) ?_
 rintro r H13⟨ov2,rfl,hT5⟩
 have hS18:=hS17.trans hT5
 simp only[RT]at hS18
 simp(disch:=omega) only[↓RA,RB,simprocAttr,hn]
 refine jD (fun p4=> ?_) (fun p4=> ?_)
 ·obtain⟨l,hl⟩:∃l,O=some l:=eL.1 p4
  have hsil:=b8W hE hne (hO.symm.trans hl) hkn
  have hnt:jL ov2=true:=(hS18.rd 0 rfl).bu
  simp(disch:=omega) only[↓RA,RZ,simprocAttr,hn,c0a,p4,hnt]
  rw[hl]at hS18
  rw[hsil,hE]
  exact⟨ov2,rfl,hpre.forget.trans (hpre4.forget.trans hS18)⟩
 have hl:O=none:=by
  cases O with
  | none=>rfl
  | some l=>simp at p4
 have hkl:k<(pU s).length:=by
  rcases ik k (pU s).length with h|h
  ·exact h
  ·have:=a3t k h
   rw[←hO,hl]at this
   cases this
 simp(disch:=omega) only[↓RA,RZ,simprocAttr,hn,g6,g7,yT,p4]
 refine⟨n-1,by omega,k+1,⟨by omega,by omega,fun m hm=> ?_⟩,by simp,hS18.forget⟩
 rcases dw.1 hm with h|h
 ·exact hkn m h
 ·rw[h,←hO,hl]
end Go.Ds
namespace Go.Ds
open Go.Proofs Go.Proofs.Tryz
set_option maxRecDepth 100000
def c3p:List (List UInt8):=[[67],[67,35],[68],[68,35],[69],[70],[70,35],[71],[71,35],[65],[65,35],[66]]
def nmL(k:Nat):List UInt8:=c3p.getD (k%12) []++if k<12 then[45,49]else[(47+k/12).toUInt8]
def nmB(k:Nat):ByteArray:=⟨(nmL k).toArray⟩
def b0D(v:Value)(k:Nat):Bool:=match v with
 | .tuple vs=>match vs.toList with
   | [.string b,.int .i64 m]=>decide (m=0)&&decide (b.data.toList=nmL k)
   | _=>false
 | _=>false
def b3K(r:Rs)(k:Nat):Bool:=match r with
 | .ok v _=>b0D v k
 | .th v _=>b0D v k
 | _=>false
noncomputable def b7Q (ps:List Nat):Bool:=rY prog [76,112,114,115,158,188,201,203,204,202,230,231,232,140] .e fun T=>ps.all fun x=>b3K (nT T (exF prog T 4000) [] (kW 76) [.int .i64 x] gH) x
theorem c4d:b7Q (List.range 128)=true:=by kernel_rfl
def exA:ByteArray:=⟨#[71,114,101,97,116,32,69,50]⟩
def exB:ByteArray:=⟨#[67,104,111,105,114,95,116,111,95,71,114,101,97,116,32,116,111,32,67,104,111,105,114,32,69,50]⟩
def exJ:List UInt8:=[71,114,101,97,116,32,69,50,44,32,67,104,111,105,114,95,116,111,95,71,114,101,97,116,32,116,111,32,67,104,111,105,114,32,69,50]
def a7Q:ByteArray:=⟨#[44,32]⟩
def a9g(r:Rs):Bool:=match r with
 | .ok (.string b) _=>decide (b.data.toList=exJ)
 | .th (.string b) _=>decide (b.data.toList=exJ)
 | _=>false
noncomputable def jH (ty:TypeId):Heap:=Heap.nil.cons (.cells [.string exA,.string exB] ty false 0 2)
noncomputable def b0K (ty:TypeId):Bool:=rY prog [57,100,101,102,141,142] .e fun T=>a9g (nT T (exF prog T 4000) [] (kW 57) [.slice (some ⟨0,0,some 2⟩) 2 1,.string a7Q] (jH ty))
theorem c4e(ty:TypeId):b0K ty=true:=by kernel_rfl
end Go.Ds
namespace Go.Ds
open Go.Proofs Go.Proofs.Tryz
open Go.Shelf Go.RowKit Go.Lib Go.Sort
section
variable {P:Program} {ρ ρ0:Rho} {H H0:Heap} {w W:World}
theorem b9B{α:Type}{f:α→Value}(hsc0:∀x,iZ (f x)=true)(h0:InW P ρ0 H0 W)(hr:HRel P ρ H w){cv cv':Value}{xs:List α}(hs:Sl 1 (one f) H cv xs)(hv:C1 ρ cv cv')(hne:∀A,jY cv=some A→∀e p,ρ A e=some p→W.heap[p.b]? =w.heap[p.b]?):
 xs≠[]→∃ρ1 cv1 ty n,InW P ρ1 (H0.cons (.cells (xs.flatMap (one f)) ty false 0 2)) W∧n=xs.length∧cv1=.slice (some ⟨H0.length,0,some (xs.flatMap (one f)).length⟩) n 1∧C1 ρ1 cv1 cv':=by
 intro hx0
 have hxl:(xs.flatMap (one f)).length=xs.length:=by rw[lN,dC]
 have hV:V ρ cv cv':=.v1 (.c1 hv)
 rcases hs.rd with⟨rfl,h2⟩|⟨A,i,e,row,ty,rw',lo,ver,n,hg,hlo,hle,hfit,htk,hn,rfl⟩
 ·rcases hV.ay with⟨_,_,_,rfl⟩|⟨A,j,e,p,c',a,hh,_⟩
  ·exact absurd (ed.1 (by rw[←hxl,h2];rfl)) hx0
  ·cases hh
 ·obtain⟨p,c',a,hp,h00,hin,hnc,hac,hpk,rfl⟩:=hV.aq
  obtain⟨_,hk,hfit2,cur,ty',fr,hw,hsz,hfr,hcell⟩:=(hr.cells _ _ _ _ _ _ hg).2 _ _ hp
  have hWp:W.heap[p.b]? =w.heap[p.b]?:=hne A rfl _ _ hp
  have hrow:=h0.row ⟨p.b,p.d+i,p.sz,p.k⟩ (cur:=cur) (t':=ty') (fr:=fr) (by rw[hWp];exact hw) (ty:=ty) hk hsz (xs.flatMap (one f)) 2 (fun h=>by cases h) (by show((xs.flatMap (one f)).length:Int)+(p.d+i)≤p.sz;omega) (fun j c hj hj0 hc=>by
   have h1:row[i+j]? =some c:=by
    have h2:((row.drop i).take (xs.flatMap (one f)).length)[j]? =some c:=by rw[htk];exact hc
    rw[dR hj,dF]at h2
    exact h2
   obtain⟨c2,h3,h4⟩:=hcell hlo (i+j) c (by omega) (by omega) h1
   have hsc:iZ c=true:=by
    rw[lN,eI]at hc
    obtain⟨z,_,rfl⟩:=dq.1 hc
    exact hsc0 z
   have:=h4.al hsc
   subst this
   refine⟨c2,?_,.c0 (.flat hsc)⟩
   have hat:Place.at ⟨p.b,p.d+i,p.sz,p.k⟩ j=p.at (i+j):=by unfold Place.at;simp only;omega
   rw[hat]
   exact h3)
  obtain⟨h1,h2⟩:=hrow
  refine⟨_,.slice (some ⟨H0.length,0,some (xs.flatMap (one f)).length⟩) n 1,ty,n,h1,by omega,rfl,?_⟩
  have hq:(ρ0.put H0.length (xs.flatMap (one f)).length ⟨p.b,p.d+i,p.sz,p.k⟩) H0.length (xs.flatMap (one f)).length=some ⟨p.b,p.d+i,p.sz,p.k⟩:=Rho.ai _ _ _ _
  have e1:n*p.k=n:=by rw[←hpk,gI]
  have e2:c'*p.k=c':=by rw[←hpk,gI]
  have hk1:p.k=1:=hpk.symm
  have:=C0.slice (n:=n) (c':=c') (a:=a) hq (i:=0) (by show(0:Int)≤((0:Nat):Int)+(p.d+i);omega) (by show 0+n*p.k≤_;rw[e1];omega) ⟨hnc.1,by show _≤0+c'*p.k;rw[e2];have:=hnc.1;omega⟩ (by
   rcases hac with⟨h3,h4⟩|h3
   ·refine .inl ⟨?_,?_⟩
    ·rw[h3]
     congr 1
     unfold Place.at
     simp only
     omega
    ·show Place.at ⟨p.b,p.d+i,p.sz,p.k⟩ 0+c'*p.k≤p.sz
     have:Place.at ⟨p.b,p.d+i,p.sz,p.k⟩ 0=p.at i:=by unfold Place.at;simp only;omega
     rw[this];exact h4
   ·exact .inr h3)
  simp only[hk1]at this ⊢
  exact .c0 this
theorem CallOk.cV{f:FuncId}{args:List Value}{v:Value}(hv:flat v=true)(h:∀{ρ:Rho}{w:World}{args':Array Value},HRel P ρ H w→All2 (V ρ) args args'.toList→∃ρ1 H1 args1 H2,InW P ρ1 H1 w∧All2 (V ρ1) args1 args'.toList∧CallOk P f args1 H1 v H2):CallOk P f args H v H:=by
 intro k ρ w args' hr ha
 obtain⟨ρ1,H1,args1,H2,hI,ha1,hc⟩:=h hr ha
 refine(hc k ρ1 w args' hI.rel ha1).mono ?_
 rintro e w'⟨ρ',v',rfl,hp,hv'⟩
 have hframe:∀b,b<w.heap.size→w'.heap[b]? =w.heap[b]?:=fun b hb=>(hp.frame b hb (hI.shut b)).1
 refine⟨ρ,v',rfl,?_,?_⟩
 ·exact{
   le:=.refl ρ
   rel:=hr.other hp.size fun A e p hq=>hframe _ (hr.dom _ _ _ hq).2
   len:=dm _
   size:=hp.size
   os:=hp.os
   tape:=hp.tape
   output:=hp.output
   frame:=fun b hb hw=>⟨hframe b hb,hw⟩
   loops:=fun b r h=>⟨r,by rw[hframe b (lZ h),h]⟩
   img:=fun _ _ h=>h}
 ·rw[hv'.ab hv]
  exact .of_flat hv
end
variable {H:Heap}
theorem a6K{v:Value}{k:Nat}(h:b0D v k=true):v=.tuple #[.string (nmB k),I 0]:=by
 unfold b0D at h
 split at h
 ·rename_i vs
  split at h
  ·rename_i b m e
   rw[de,decide_eq_true_eq,decide_eq_true_eq]at h
   obtain⟨rfl,h⟩:=h
   have:b=nmB k:=by
    cases b with|mk d=>cases d with|mk l=>simp only at h;subst h;rfl
   rw[←this]
   congr 1
   exact iu e
  ·cases h
 ·cases h
theorem b9l(hG:Glob gH H)(k:Nat)(hk:k<128):Fn prog 76 [I k] H fun r H'=>r=.tuple #[.string (nmB k),I 0]∧St prog H H' []:=by
 obtain⟨T,hT,h⟩:=a8C c4d
 have h:=h k (dG.2 hk)
 refine b3m (fun x hx=>by rw[dM.1 hx];rfl) rfl ?_ hG
 unfold b3K at h
 split at h
 ·rename_i v H1 e
  rw[←a6K h]
  exact a0E hT (.inl e)
 ·rename_i v H1 e
  rw[←a6K h]
  exact a0E hT (.inr e)
 ·cases h
theorem enJ:nN prog 57:=⟨Tryz.f57,func57,by kernel_rfl,by kernel_rfl⟩
theorem c3O(ty:TypeId):∃H2,CallOk prog 57 [.slice (some ⟨0,0,some 2⟩) 2 1,.string a7Q] (jH ty) (.string ⟨exJ.toArray⟩) H2:=by
 have h0:=c4e ty
 unfold b0K at h0
 obtain⟨T,hT,e⟩:=a5u (P:=prog) [57,100,101,102,141,142] .e (fun f g h=>by rw[uW]at h;cases h) (fun T=>a9g (nT T (exF prog T 4000) [] (kW 57) [.slice (some ⟨0,0,some 2⟩) 2 1,.string a7Q] (jH ty)))
 rw[e]at h0
 unfold a9g at h0
 have key:∀b H1,(nT T (exF prog T 4000) [] (kW 57) [.slice (some ⟨0,0,some 2⟩) 2 1,.string a7Q] (jH ty)).Is (.string b) H1→b.data.toList=exJ→∃H2,CallOk prog 57 [.slice (some ⟨0,0,some 2⟩) 2 1,.string a7Q] (jH ty) (.string ⟨exJ.toArray⟩) H2:=fun b H1 hi hb=>by
  have e:b=⟨exJ.toArray⟩:=by
   cases b with|mk d=>cases d with|mk l=>simp only at hb;subst hb;rfl
  obtain⟨_,v,H2,h2,h3⟩:=(vJ hT (b5L c0w hT 4000) (fun en hen=>by cases hen) rfl hi).1.fn
  rw[h3.1,e]at h2
  exact⟨H2,h2⟩
 split at h0
 ·rename_i b H1 e
  exact key b H1 (.inl e) (of_decide_eq_true h0)
 ·rename_i b H1 e
  exact key b H1 (.inr e) (of_decide_eq_true h0)
 ·cases h0
def a9x(xs:List ByteArray)(t:ByteArray):Prop:=∀(H:Heap)(v:Value),Sl 1 (one Value.string) H v xs→Fn prog 57 [v,.string a7Q] H fun r H'=>r=.string t∧St prog H H' []
theorem c1j:a9x [exA,exB] ⟨exJ.toArray⟩:=by
 intro H v hv
 refine⟨enJ,_,H,CallOk.cV rfl ?_,rfl,St.refl _ _⟩
 intro ρ w args' hr ha
 obtain⟨l⟩:=args'
 match l,ha with
 | [x,y],⟨hx,hy,_⟩=>
   have hx1:C1 ρ v x:=by
    rcases hv.rd with⟨rfl,h⟩|⟨A,i,e,row,ty,rw',lo,ver,n,_,_,_,_,_,_,rfl⟩
    ·cases h
    ·cases hx with
     | v1 h=>cases h with
       | c1 h=>exact h
   obtain⟨ρ1,cv1,ty,n,hI,rfl,rfl,hc⟩:=b9B (P:=prog) (f:=Value.string) (fun _=>rfl) (InW.none w) hr hv hx1 (fun _ _ _ _ _=>rfl) (by simp)
   obtain⟨H2,h2⟩:=c3O ty
   have hye:y=.string a7Q:=hy.ab rfl
   subst hye
   exact⟨ρ1,_,[.slice (some ⟨0,0,some 2⟩) 2 1,.string a7Q],H2,hI,⟨.v1 (.c1 hc),.of_flat rfl,trivial⟩,h2⟩
end Go.Ds
namespace Go.Ds
open Go.Proofs Go.Proofs.Tryz
variable {H:Heap}
set_option maxRecDepth 10000
set_option maxHeartbeats 1000000
def spB:ByteArray:=⟨#[32]⟩
def toB:ByteArray:=⟨#[32,116,111,32]⟩
def c3R:ByteArray:=⟨#[58,32]⟩
def qA(s:Sn)(c:Ct):ByteArray:=(iG s.o.dvs c.1.toNat).name++spB++nmB c.2.toNat
def a1Y(s:Sn)(cps:List Int)(l:List Ct)(i:Nat):ByteArray:=(iG s.o.cpls (iG cps i).toNat).name++toB++qA s (iG l i)
def a4L(s:Sn)(r:Rn):List ByteArray:=qA s r.pl::(List.range (lY s r).1.length).map (a1Y s r.cps (lY s r).1)
def a3A(s:Sn)(r:Rn)(j:ByteArray):ByteArray:=j++c3R++(iG (iG s.o.dvs r.tc.1.toNat).stops r.stop.toNat).name
theorem yZ{n:ByteArray}(h:¬kP n=false):n.size≤32:=by
 have h:=gG _▸h
 unfold kP at h
 simp only[de,decide_eq_true_eq]at h
 exact h.1.1.2
theorem Org.bF{o:Org}(h:organE o=0){j:Nat}(hj:j<o.dvs.length):(iG o.dvs j).name.size≤32∧∀q,q<(iG o.dvs j).stops.length→(iG (iG o.dvs j).stops q).name.size≤32:=by
 unfold organE at h
 split at h
 ·omega
 split at h
 ·omega
 split at h
 ·rename_i hh;exact absurd h hh
 split at h
 ·omega
 split at h
 ·omega
 split at h
 ·rename_i hh;exact absurd h hh
 rename_i _ _ _ _ _ hd
 have e:=oW (dI.1 hd) j hj
 unfold tG at e
 split at e
 ·omega
 rename_i h1
 split at e
 ·omega
 refine⟨yZ h1,fun q hq=> ?_⟩
 unfold divE at e
 split at e
 ·rename_i hh;exact absurd e hh
 split at e
 ·omega
 have e2:=oW e q hq
 unfold oL at e2
 split at e2
 ·rename_i hh;exact absurd e2 hh
 rename_i hs2
 have e2:=dI.1 hs2
 unfold stopE at e2
 split at e2
 ·rename_i hh;exact absurd e2 hh
 split at e2
 ·omega
 rename_i h2
 exact yZ h2
theorem Org.bZ{o:Org}(h:organE o=0){j:Nat}(hj:j<o.cpls.length):(iG o.cpls j).name.size≤32:=by
 unfold organE at h
 split at h
 ·omega
 split at h
 ·omega
 split at h
 ·rename_i hh;exact absurd h hh
 split at h
 ·omega
 split at h
 ·omega
 split at h
 ·rename_i hh;exact absurd h hh
 unfold rJ at h
 split at h
 ·omega
 split at h
 ·omega
 have e:=oW h j hj
 unfold mT at e
 dsimp only at e
 split at e
 ·omega
 rename_i h1
 exact yZ h1
theorem b6K(k:Nat):(nmB k).size≤4:=by
 have h:∀j,j<12→(c3p.getD j []).length≤2:=by decide
 have h2:=h (k%12) (iD _ (by decide))
 show(nmL k).length≤4
 unfold nmL
 rw[du]
 rw[dj]at h2 ⊢
 split<;>simp only[dT,dZ]<;>omega
theorem b1C{s:Sn}(hf:s.Fit){c:Ct}(hc:mB s.o c=true):(qA s c).size≤37:=by
 have h1:=(kU s.o c).1 hc
 have h2:=(Org.bF hf.o (j:=c.1.toNat) (by omega)).1
 have h3:=b6K c.2.toNat
 unfold qA
 rw[gn,gn]
 have:spB.size=1:=rfl
 omega
theorem b5E{o:Org}(h:organE o=0){c:Ct}(hc:mB o c=true):∃k:Nat,c.2=k∧k<128:=by
 have h1:=(kU o c).1 hc
 have h2:=(Org.aT h).keys c.1.toNat (by omega)
 exact⟨c.2.toNat,by omega,by omega⟩
theorem a3q(hG:Glob gH H)(s:Sn)(hs:s.In H)(hf:s.Fit)(c:Ct)(hc:mB s.o c=true):Fn prog 55 [s.v,.agg #[I c.1,I c.2]] H fun r H'=>r=.string (qA s c)∧St prog H H' []:=by
 obtain⟨k,hk,hk2⟩:=b5E hf.o hc
 have h1:=(kU s.o c).1 hc
 obtain⟨d,hd⟩:∃d:Nat,c.1=d:=⟨c.1.toNat,by omega⟩
 have hP:qA s c=(iG s.o.dvs d).name++spB++nmB k:=by unfold qA;rw[hd,hk];rfl
 have n1:=(Org.bF hf.o (j:=d) (by omega)).1
 have n2:=b6K k
 have c1:=fun t t2 cx cy=>nW (P:=prog) t t2 cx cy (iG s.o.dvs d).name ⟨#[32]⟩ (by show _+1<_;omega)
 have c2:=fun t t2 cx cy=>nW (P:=prog) t t2 cx cy ((iG s.o.dvs d).name++⟨#[32]⟩) (nmB k) (by rw[gn];show _+1+_<_;omega)
 rw[hP,hd,hk]
 refine .aH func55 rfl (by kernel_rfl) (m:=24) rfl fun l hn g0 g1=> ?_
 simp(disch:=omega) only[↓RA,RB,simprocAttr,g0]
 refine(sR H).eNew 10 [(.string s.o.name),s.o.rv,s.o.dv,s.o.cv,s.sv,(.int .u64 s.rg.cpl),(.int .u64 s.rg.off),s.kv,I s.p.1,I s.p.2] rfl rfl (by simp[OC,((sR H).sl hs.o.1).cells.2.1,((sR H).sl hs.o.2.2.1).cells.2.1,((sR H).sl hs.o.2.2.2.2.1).cells.2.1,((sR H).sl hs.rg.1).cells.2.1,((sR H).sl hs.ks.sl).cells.2.1]) rQ fun A1 H1 hS1=> ?_
 simp only[RT]at hS1
 simp(disch:=omega) only[↓RA,RB,simprocAttr,g1]
 refine hS1.eNew 2 [I d,I k] rfl rfl rfl lG fun A2 H2 hS2=> ?_
 simp only[RT]at hS2
 simp(disch:=omega) only[↓RA,RZ,simprocAttr,hn,hS2.ld 1 rfl]
 refine hS2.cF (b9l (hS2.gl hG) k hk2) fun H3 hS3=> ?_
 simp(disch:=omega) only[↓RA,RZ,simprocAttr,hn,hS3.ld 0 rfl,hS3.ld 1 rfl,(hS3.sl hs.o.2.2.1).idx,(hS3.sl hs.o.2.2.1).bp,(hS3.sl hs.o.2.2.1).ld,Dvn.cells,c5c,c1,c2]
 exact⟨rfl,hS3.forget⟩
theorem b3k{s:Sn}{r:Rn}(h:(lY s r).2=true):(lY s r).1.length=r.cps.length:=by
 unfold lY at h ⊢
 cases h2:lH s r.pl r.cps r.cps.length with
 | none=>rw[h2]at h;cases h
 | some q=>
   obtain⟨o2,a2⟩:=q
   exact wC h2
theorem b1k{s:Sn}{r:Rn}(hf:s.Fit)(hp:mB s.o r.pl=true)(h:(lY s r).2=true):(∀c∈(lY s r).1,mB s.o c=true)∧∀i,i<r.cps.length→0≤iG r.cps i∧iG r.cps i<s.o.cpls.length:=by
 have key:∀n out a,lH s r.pl r.cps n=some (out,a)→mB s.o a=true∧(∀c∈out,mB s.o c=true)∧∀i,i<n→0≤iG r.cps i∧iG r.cps i<s.o.cpls.length:=by
  intro n
  induction n with
  | zero=>
    intro out a h
    unfold lH at h
    injection h with h
    obtain⟨rfl,rfl⟩:=gL h
    exact⟨hp,fun c hc=>(by cases hc),fun i hi=>absurd hi (dX _)⟩
  | succ n ih=>
    intro out a h
    unfold lH at h
    cases h2:lH s r.pl r.cps n with
    | none=>rw[h2]at h;cases h
    | some q=>
      obtain⟨o2,a2⟩:=q
      obtain⟨i1,i2,i3⟩:=ih o2 a2 h2
      rw[h2]at h
      simp only at h
      split at h
      ·rename_i hb
       injection h with h
       obtain⟨rfl,rfl⟩:=gL h
       rw[de]at hb
       have h5:=yP.1 hb.1
       obtain⟨h6,h7,_⟩:=yL h5.1
       have hc:=Org.bg hf.o (j:=(iG r.cps n).toNat) (by omega)
       have hok:mB s.o (lU s (iG r.cps n) a2)=true:=by
        rw[lU,if_pos h5.1,kU]
        exact⟨hc.2.1.1,hc.2.1.2,h5.2.2.2.1,h5.2.2.2.2⟩
       refine⟨hok,fun c hc=> ?_,fun i hi=> ?_⟩
       ·rcases dP.1 hc with hc|hc
        ·exact i2 c hc
        ·rw[dM]at hc
         rw[hc];exact hok
       ·rcases dw.1 hi with e|e
        ·exact i3 i e
        ·rw[e];exact⟨h6,h7⟩
      ·cases h
 unfold lY at h ⊢
 cases h2:lH s r.pl r.cps r.cps.length with
 | none=>rw[h2]at h;cases h
 | some q=>
   obtain⟨o2,a2⟩:=q
   obtain⟨_,i2,i3⟩:=key _ _ _ h2
   exact⟨i2,i3⟩
theorem b7e{s:Sn}{r:Rn}(h:vfE s r=0):snE s=0∧r.pl∈iK s.ks∧(lY s r).2=true∧¬(r.cps.length=0∧zB s r.pl.1=true)∧yW s r.stop r.tc=true:=by
 unfold vfE at h
 split at h
 ·rename_i h1;exact absurd h h1
 ·rename_i h1
  split at h
  ·cases h
  ·rename_i h2
   split at h
   ·cases h
   ·rename_i h3
    split at h
    ·cases h
    ·rename_i h4
     exact⟨dI.1 h1,dI.1 h2,by simpa using fun e=>h3 (.inl e),fun e=>h3 (.inr e),by simpa using h4⟩
def b0c(s:Sn)(r:Rn)(j:ByteArray):ByteArray:=if vfE s r=0 then a3A s r j else⟨#[]⟩
theorem b7C(hG:Glob gH H)(s:Sn)(hs:s.In H)(x:Rn)(hx:x.In H)(hl:x.cps.length<1000000)(jn:ByteArray)(hjl:jn.size<1000000000000)(hJ:vfE s x=0→a9x (a4L s x) jn):Fn prog 23 [s.v,x.v] H fun r H'=>r=.tuple #[.string (b0c s x jn),I (vfE s x)]∧St prog H H' []:=by
 refine .aH func23 rfl (by kernel_rfl) (m:=74) rfl fun l hn g0 g1=> ?_
 simp(disch:=omega) only[↓RA,RB,simprocAttr,g0]
 refine(sR H).eNew 10 [(.string s.o.name),s.o.rv,s.o.dv,s.o.cv,s.sv,(.int .u64 s.rg.cpl),(.int .u64 s.rg.off),s.kv,I s.p.1,I s.p.2] rfl rfl (by simp[OC,((sR H).sl hs.o.1).cells.2.1,((sR H).sl hs.o.2.2.1).cells.2.1,((sR H).sl hs.o.2.2.2.2.1).cells.2.1,((sR H).sl hs.rg.1).cells.2.1,((sR H).sl hs.ks.sl).cells.2.1]) rQ fun A1 H1 hS1=> ?_
 simp only[RT]at hS1
 simp(disch:=omega) only[↓RA,RB,simprocAttr,g1]
 refine hS1.eNew 6 [I x.pl.1,I x.pl.2,x.cv,I x.tc.1,I x.tc.2,I x.stop] rfl rfl (by simp[OC,(hS1.sl hx.1).cells.2.1]) nP fun A2 H2 hS2=> ?_
 simp only[RT]at hS2
 simp(disch:=omega) only[↓RA,RZ,simprocAttr,hn,hS2.ae 0 rfl,hS2.ae 1 rfl]
 refine hS2.cF (b1A (hS2.gl hG) s (hs.ag hS2) x (hx.ag hS2)) fun H3 hS3=> ?_
 simp(disch:=omega) only[↓RA,RB,simprocAttr,hn]
 refine iF (fun h1=> ?_) (fun h1=> ?_)
 ·have hc:b0c s x jn=⟨#[]⟩:=by unfold b0c;rw[if_neg h1]
  simp(disch:=omega) only[↓RA,RZ,simprocAttr,hn,c2W,h1]
  exact⟨by rw[hc],hS3.forget⟩
 have h1:vfE s x=0:=dI.1 h1
 have hJ:=hJ h1
 have hc:b0c s x jn=a3A s x jn:=by unfold b0c;rw[if_pos h1]
 obtain⟨e0,e1,e2,e3,e4⟩:=b7e h1
 have hf:=yJ.1 e0
 have hpo:=sJ hs.ks.ok hf.keys _ e1
 have hto:=a3u hf hpo e2
 obtain⟨hco,hci⟩:=b1k hf hpo e2
 have hcl:=b3k e2
 simp(disch:=omega) only[↓RA,RZ,simprocAttr,hn,hS3.ae 0 rfl,hS3.ae 1 rfl,h1]
 refine hS3.cF (a3q (hS3.gl hG) s (hs.ag hS3) hf x.pl hpo) fun H4 hS4=> ?_
 simp(disch:=omega) only[↓RA,RZ,simprocAttr,hn,h1]
 refine hS4.ak [(.string (qA s x.pl))] b6S c0I rfl rfl (by simp[Value.cells]) rfl rfl (by decide) (by decide) fun w1 H5 hS5=> ?_
 simp only[RT]at hS5
 simp(disch:=omega) only[↓RA,RZ,simprocAttr,hn,hS5.ae 0 rfl,hS5.ae 1 rfl,h1]
 refine iR (a7t s (hs.ag hS5) hf x (hx.ag hS5)) ?_
 rintro r H6⟨cw,rfl,hT3⟩
 have hS6:=hS5.trans hT3
 simp only[RT]at hS6
 simp(disch:=omega) only[↓RA,RZ,simprocAttr,hn,(hS6.az 3 rfl kI).len,h1]
 obtain⟨CL,hCL⟩:∃l,l=(lY s x).1:=⟨_,rfl⟩
 rw[←hCL]at hco hcl
 simp only[←hCL]at hS6
 simp only[←hCL]
 refine Wp.aj (fun n l H'=>l.length=74∧get l 2=(ptr A1 0 10)∧get l 3=(ptr A2 0 6)∧get l 4=(.string ⟨#[]⟩)∧get l 5=I 0∧get l 29=cw∧get l 30=I CL.length∧∃(i:Nat)(ov:Value),(n+i=CL.length)∧get l 31=I i∧get l 7=ov∧St prog H H' [⟨ptr A1 0 10,0,[(.string s.o.name),s.o.rv,s.o.dv,s.o.cv,s.sv,(.int .u64 s.rg.cpl),(.int .u64 s.rg.off),s.kv,I s.p.1,I s.p.2]⟩,⟨ptr A2 0 6,0,[I x.pl.1,I x.pl.2,x.cv,I x.tc.1,I x.tc.2,I x.stop]⟩,⟨ov,1,(qA s x.pl::(List.range i).map (a1Y s x.cps CL)).flatMap (one Value.string)⟩,⟨cw,2,pr CL⟩]) CL.length ?_ ?_
 ·simp(disch:=omega) only[RB,RC,simprocAttr,hn]
  exact⟨0,w1,by omega,rfl,rfl,hS6⟩
 rintro n l H7⟨hn,g2,g3,g4,g5,g29,g30,i,ov,hi,g31,g7,hS7⟩
 simp(disch:=omega) only[↓RA,RB,simprocAttr,hn,g30,g31]
 refine iF (fun q1=> ?_) (fun q1=> ?_)
 ·obtain⟨hk0,hk1⟩:=hci i (by omega)
  obtain⟨k,hk⟩:∃k:Nat,iG x.cps i=k:=⟨(iG x.cps i).toNat,by omega⟩
  have hkl:k<s.o.cpls.length:=by omega
  have hcm:=hco _ (iM (xs:=CL) (j:=i) (by omega))
  have n1:=Org.bZ hf.o hkl
  have n2:=b1C hf hcm
  have c1:=fun t t2 cx cy=>nW (P:=prog) t t2 cx cy (iG s.o.cpls k).name ⟨#[32,116,111,32]⟩ (by show _+4<_;omega)
  have c2:=fun t t2 cx cy=>nW (P:=prog) t t2 cx cy ((iG s.o.cpls k).name++⟨#[32,116,111,32]⟩) (qA s (iG CL i)) (by rw[gn];show _+4+_<_;omega)
  simp(disch:=omega) only[↓RA,RZ,simprocAttr,hn,g29,g31,(hS7.az 3 rfl kI).idx,(hS7.az 3 rfl kI).ae,lE,q1]
  refine hS7.eNew 2 [I 0,I 0] rfl rfl rfl lG fun A3 H8 hS8=> ?_
  simp only[RT]at hS8
  simp(disch:=omega) only[↓RA,RZ,simprocAttr,hn,q1]
  refine hS8.aa 4 rfl [I (iG CL i).1,I (iG CL i).2] rfl rfl lG (by simp) fun H9 hS9=> ?_
  simp only[RT]at hS9
  simp(disch:=omega) only[↓RA,RZ,simprocAttr,q1]
  refine Wp.aL kJ [(3,16),(5,16),(8,16),(11,16)] (by kernel_rfl) (by kernel_rfl) ?_
  simp(disch:=omega) only[↓RA,RZ,simprocAttr,hn,g2,g3,g7,hS9.ld 0 rfl,hS9.ld 1 rfl,(hS9.sl hx.1).idx,(hS9.sl hx.1).ld,one,hk]
  simp(disch:=omega) only[↓RA,RZ,simprocAttr,hn,g2,(hS9.sl hs.o.2.2.2.2.1).idx,(hS9.sl hs.o.2.2.2.2.1).bp,(hS9.sl hs.o.2.2.2.2.1).ld,Cpl.cells,hS9.ae 0 rfl,hS9.ae 4 rfl,c1]
  refine hS9.cF (a3q (hS9.gl hG) s (hs.ag hS9) hf (iG CL i) hcm) fun H10 hS10=> ?_
  simp(disch:=omega) only[↓RA,RB,simprocAttr,hn,c2]
  refine hS10.ak [_] b6S c0I rfl rfl (by simp[Value.cells]) rfl rfl (by decide) (by decide) fun w2 H11 hS11=> ?_
  simp only[RT]at hS11
  simp(disch:=omega) only[↓RA,RZ,simprocAttr,hn]
  refine hS11.av 2 rfl (hS11.rd 5 rfl) b6S (by rw[lN];simp;omega) fun w3 H12 hS12=> ?_
  simp only[RT]at hS12
  simp(disch:=omega) only[↓RA,RZ,simprocAttr,hn,g2,g3,g4,g5,g29,g30,g31,hS10.ld 0 rfl,hS10.ld 1 rfl,one,(hS10.sl hx.1).ld,Cpl.cells,(hS10.sl hs.o.2.2.2.2.1).ld,hk]
  refine⟨n-1,by omega,i+1,w3,by omega,by simp,rfl,?_⟩
  have hp:a1Y s x.cps CL i=(iG s.o.cpls k).name++toB++qA s (iG CL i):=by unfold a1Y;rw[hk];rfl
  rw[eN,dN,←fJ,dD,show[i].map (a1Y s x.cps CL)=[a1Y s x.cps CL i]from rfl,hp]
  exact hS12.pick [0,1,2,3] (by decide) rfl
 have hii:i=CL.length:=by omega
 subst hii
 obtain⟨hd0,hd1,hb,hm⟩:0≤x.tc.1∧x.tc.1<s.o.dvs.length∧0≤x.stop∧x.stop<(iG s.o.dvs x.tc.1.toNat).stops.length:=by
  have h2:=(kU s.o x.tc).1 hto
  unfold yW at e4
  simp only[de,decide_eq_true_eq]at e4
  exact⟨h2.1,h2.2.1,e4.1.1.1,e4.1.1.2⟩
 obtain⟨d,hd⟩:∃d:Nat,x.tc.1=d:=⟨x.tc.1.toNat,by omega⟩
 obtain⟨k,hk⟩:∃k:Nat,x.stop=k:=⟨x.stop.toNat,by omega⟩
 have hdl:d<s.o.dvs.length:=by omega
 have hdt:x.tc.1.toNat=d:=by omega
 rw[hdt]at hm
 have hkl:k<(iG s.o.dvs d).stops.length:=by omega
 have hst:=(hs.o.2.2.2.1 _ (iM hdl)).2.1
 simp only[hd,hk]at hS7
 simp(disch:=omega) only[↓RA,RC,simprocAttr,q1]
 refine Wp.aL kJ [(5,0),(8,0),(11,0),(13,0),(16,0)] (by kernel_rfl) (by kernel_rfl) ?_
 simp(disch:=omega) only[↓RA,RZ,simprocAttr,hn,g7]
 have hJ2:a9x (qA s x.pl::(List.range CL.length).map (a1Y s x.cps CL)) jn:=by
  unfold a4L at hJ
  rw[←hCL]at hJ
  exact hJ
 have n1:=(Org.bF hf.o hdl).2 k hkl
 have c1:=fun t t2 cx cy=>nW (P:=prog) t t2 cx cy jn ⟨#[58,32]⟩ (by show _+2<_;omega)
 have c2:=fun t t2 cx cy=>nW (P:=prog) t t2 cx cy (jn++⟨#[58,32]⟩) (iG (iG s.o.dvs d).stops k).name (by rw[gn];show _+2+_<_;omega)
 refine hS7.cF (hJ2 _ ov (hS7.az 2 rfl (fun _=>rfl))) fun H13 hS13=> ?_
 simp(disch:=omega) only[↓RA,RZ,simprocAttr,hn,g2,g3,hS13.ld 0 rfl,hS13.ld 1 rfl,(hS13.sl hs.o.2.2.1).idx,(hS13.sl hs.o.2.2.1).bp,(hS13.sl hs.o.2.2.1).ld,Dvn.cells,(hS13.sl (hs.o.2.2.2.1 (iG s.o.dvs d) (iM (by omega))).1).idx,(hS13.sl (hs.o.2.2.2.1 (iG s.o.dvs d) (iM (by omega))).1).bp,(hS13.sl (hs.o.2.2.2.1 (iG s.o.dvs d) (iM (by omega))).1).ld,Stp.cells,hS7.ld 0 rfl,hS7.ld 1 rfl,(hS7.sl hs.o.2.2.1).ld,(hS7.sl (hs.o.2.2.2.1 (iG s.o.dvs d) (iM (by omega))).1).ld,c2W,c1,c2]
 rw[hc,h1]
 have ht:a3A s x jn=jn++c3R++(iG (iG s.o.dvs d).stops k).name:=by unfold a3A;rw[hd,hk];rfl
 rw[ht]
 exact⟨rfl,hS13.forget⟩
end Go.Ds
namespace Go.Ds
open Go.Proofs
variable {H:Heap}
set_option maxRecDepth 100000
set_option maxHeartbeats 1000000
end Go.Ds
namespace Go.Ds
open Go.Proofs
variable {H:Heap}
set_option maxRecDepth 10000
set_option maxHeartbeats 1000000
section
variable (w1 w2 w3 w4 w5 w6 w7:Value)
end
section
variable (w1 w2 d1 g1 s1 d2 g2 s2 w3 w4 w5:Value)
end
end Go.Ds
namespace Go.Ds
open Go.Proofs Go.Proofs.Tryz
variable {H:Heap}
set_option maxRecDepth 10000
set_option maxHeartbeats 1000000
theorem a6S(s:ByteArray):Fn prog 81 [.string s] H fun r H'=>∃wv,r=.agg #[.string s,.string ⟨#[79,112,101,110]⟩,I 8,I 1,I 36,wv]∧St prog H H' [⟨wv,1,(List.replicate 13 (0:Int)).flatMap (one I)⟩]:=by
 refine .aS func81 rfl (by kernel_rfl) (m:=7) rfl fun l hn g0=> ?_
 simp(disch:=omega) only[↓RA,RZ,simprocAttr]
 refine(sR H).eNew 6 [(.string ⟨#[]⟩),(.string ⟨#[]⟩),I 0,I 0,I 0,(.slice none 0 0)] rfl rfl rfl a0A fun A1 H1 hS1=> ?_
 simp only[RT]at hS1
 simp(disch:=omega) only[↓RA,RB,simprocAttr,g0,a3n]
 refine hS1.cr 13 c4L (by decide) fun w1 H2 hS2=> ?_
 simp only[RT]at hS2
 rw[show List.replicate 13 (Value.int .i64 0)=(List.replicate 13 (0:Int)).flatMap (one I)from by rw[lN,List.map_replicate]]at hS2
 simp(disch:=omega) only[↓RA,RB,simprocAttr,hn,a0Q (hS2.rd 1 rfl).cells]
 refine hS2.aa 0 rfl [(.string s),(.string ⟨#[79,112,101,110]⟩),I 8,I 1,I 36,w1] rfl (by simp[OC,(hS2.rd 1 rfl).cells.2.1]) a0A (by simp) fun H3 hS3=> ?_
 simp only[RT]at hS3
 simp(disch:=omega) only[↓RA,RZ,simprocAttr,hn,c5X,hS3.ae 0 rfl]
 exact⟨w1,rfl,hS3.pick [1] (by decide) rfl⟩
theorem a1Z(n st:ByteArray)(k:Int)(A:Nat)(hA:Var H A 2 [I 36,I 48]):Fn prog 82 [.string n,.string st,I k,ptr A 0 2] H fun r H'=>∃dv gv sv,r=.agg #[.string n,.bool false,I 36,I 48,sv]∧St prog H H' [⟨dv,2,[I k,I 0]⟩,⟨gv,3,[I 36,I 48,dv]⟩,⟨sv,4,[.string st,I 8,I 1,gv]⟩]:=by
 refine .cY func82 rfl (by kernel_rfl) (m:=20) rfl fun l hn g0 g1 g2 g3=> ?_
 simp(disch:=omega) only[↓RA,RZ,simprocAttr]
 refine(sR H).eNew 5 [(.string ⟨#[]⟩),(.bool false),I 0,I 0,(.slice none 0 0)] rfl rfl rfl rF fun A1 H1 hS1=> ?_
 simp only[RT]at hS1
 simp(disch:=omega) only[↓RA,RZ,simprocAttr,hn,g0,g1,g2,g3,(hA.ag hS1.ag).ae,a3n,b9s]
 refine hS1.ak [I k,I 0] c4p c2N rfl rfl (by simp[Value.cells]) rfl rfl (by decide) (by decide) fun w1 H2 hS2=> ?_
 simp only[RT]at hS2
 simp(disch:=omega) only[↓RA,RB,simprocAttr,hn,a6D (hS2.rd 1 rfl).cells]
 refine hS2.ak [I 36,I 48,w1] c4n c4m rfl rfl (by first|(simp[];done)|simp[Value.cells]) (by first|(simp[];done)|simp[Value.cells]) (by simp[OC,(hS2.rd 1 rfl).cells.2.1]) (by decide) (by decide) fun w2 H3 hS3=> ?_
 simp only[RT]at hS3
 simp(disch:=omega) only[↓RA,RB,simprocAttr,hn,a6f (hS3.rd 2 rfl).cells]
 refine hS3.ak [(.string st),I 8,I 1,w2] c4g c2P rfl rfl (by first|(simp[];done)|simp[Value.cells]) (by first|(simp[];done)|simp[Value.cells]) (by simp[OC,(hS3.rd 2 rfl).cells.2.1]) (by decide) (by decide) fun w3 H4 hS4=> ?_
 simp only[RT]at hS4
 simp(disch:=omega) only[↓RA,RB,simprocAttr,hn,a7G (hS4.rd 3 rfl).cells]
 refine hS4.aa 0 rfl [(.string n),(.bool false),I 36,I 48,w3] rfl (by simp[OC,(hS4.rd 3 rfl).cells.2.1]) rF (by simp) fun H5 hS5=> ?_
 simp only[RT]at hS5
 simp(disch:=omega) only[↓RA,RZ,simprocAttr,hn,c4Z,hS5.ae 0 rfl]
 exact⟨w1,w2,w3,rfl,hS5.pick [1,2,3] (by decide) rfl⟩
def exT(v1 v2 d1 g1 s1 d2 g2 s2 a b c:Value):Org:=⟨⟨#[84,119,111]⟩,a,[⟨⟨#[65]⟩,⟨#[79,112,101,110]⟩,8,1,36,v1,List.replicate 13 0⟩,⟨⟨#[66]⟩,⟨#[79,112,101,110]⟩,8,1,36,v2,List.replicate 13 0⟩],b,
 [⟨⟨#[71,114,101,97,116]⟩,false,36,48,s1,[⟨⟨#[80,114,105,110,99,105,112,97,108,95,56]⟩,8,1,g1,[⟨36,48,d1,[⟨0,0⟩]⟩]⟩]⟩,⟨⟨#[67,104,111,105,114]⟩,false,36,48,s2,[⟨⟨#[70,108,117,116,101,95,56]⟩,8,1,g2,[⟨36,48,d2,[⟨1,0⟩]⟩]⟩]⟩],c,[⟨⟨#[67,104,111,105,114,95,116,111,95,71,114,101,97,116]⟩,0,1,0,false⟩]⟩
def snT(v1 v2 d1 g1 s1 d2 g2 s2 a b c sv kv:Value):Sn:=⟨exT v1 v2 d1 g1 s1 d2 g2 s2 a b c,sv,⟨[1,1],1,0⟩,kv,[kG [40],(0,0)],(1,4)⟩
theorem b3H(hG:Glob gH H):Fn prog 38 [] H fun r H'=>∃v1 v2 d1 g1 s1 d2 g2 s2 a b c sv kv,r=(snT v1 v2 d1 g1 s1 d2 g2 s2 a b c sv kv).v∧(snT v1 v2 d1 g1 s1 d2 g2 s2 a b c sv kv).In H'∧St prog H H' []:=by
 refine .cX func38 rfl (by kernel_rfl) (m:=35) rfl fun l hn=> ?_
 simp(disch:=omega) only[↓RA,RZ,simprocAttr]
 refine(sR H).eNew 10 [(.string ⟨#[]⟩),(.slice none 0 0),(.slice none 0 0),(.slice none 0 0),(.slice none 0 0),(.int .u64 0),(.int .u64 0),(.slice none 0 0),I 0,I 0] rfl rfl rfl rQ fun A1 H1 hS1=> ?_
 simp only[RT]at hS1
 simp(disch:=omega) only[↓RA,RZ,simprocAttr,b1N]
 refine hS1.eNew 2 [I 0,I 0] rfl rfl rfl sG fun A2 H2 hS2=> ?_
 simp only[RT]at hS2
 simp(disch:=omega) only[↓RA,RB,simprocAttr,hn]
 refine hS2.aa 1 rfl [I 36,I 48] rfl rfl sG (by simp) fun H3 hS3=> ?_
 simp only[RT]at hS3
 simp(disch:=omega) only[↓RA,RZ,simprocAttr,hn]
 refine iR (a6S _) ?_
 rintro r H4⟨v1,rfl,hT1⟩
 have hS4:=hS3.trans hT1
 simp only[RT]at hS4
 simp(disch:=omega) only[↓RA,RZ,simprocAttr,hn]
 refine iR (a6S _) ?_
 rintro r H5⟨v2,rfl,hT2⟩
 have hS5:=hS4.trans hT2
 simp only[RT]at hS5
 simp(disch:=omega) only[↓RA,RB,simprocAttr,hn]
 refine hS5.ak [(.string ⟨#[65]⟩),(.string ⟨#[79,112,101,110]⟩),I 8,I 1,I 36,v1,(.string ⟨#[66]⟩),(.string ⟨#[79,112,101,110]⟩),I 8,I 1,I 36,v2] c5b c4T rfl rfl (by first|(simp[];done)|simp[Value.cells]) (by first|(simp[];done)|simp[Value.cells]) (by simp[OC,(hS5.rd 2 rfl).cells.2.1,(hS5.rd 3 rfl).cells.2.1]) (by decide) (by decide) fun w1 H6 hS6=> ?_
 simp only[RT]at hS6
 simp(disch:=omega) only[↓RA,RZ,simprocAttr,hn]
 refine iR (a1Z _ _ 0 A2 (hS6.var 1 rfl)) ?_
 rintro r H7⟨d1,g1,s1,rfl,hT3⟩
 have hS7:=hS6.trans hT3
 simp only[RT]at hS7
 simp(disch:=omega) only[↓RA,RZ,simprocAttr,hn]
 refine iR (a1Z _ _ 1 A2 (hS7.var 1 rfl)) ?_
 rintro r H8⟨d2,g2,s2,rfl,hT4⟩
 have hS8:=hS7.trans hT4
 simp only[RT]at hS8
 simp(disch:=omega) only[↓RA,RB,simprocAttr,hn]
 refine hS8.ak [(.string ⟨#[71,114,101,97,116]⟩),(.bool false),I 36,I 48,s1,(.string ⟨#[67,104,111,105,114]⟩),(.bool false),I 36,I 48,s2] c5v c4U rfl rfl (by first|(simp[];done)|simp[Value.cells]) (by first|(simp[];done)|simp[Value.cells]) (by simp[OC,(hS8.rd 7 rfl).cells.2.1,(hS8.rd 10 rfl).cells.2.1]) (by decide) (by decide) fun w2 H9 hS9=> ?_
 simp only[RT]at hS9
 simp(disch:=omega) only[↓RA,RB,simprocAttr,hn,a6g]
 refine hS9.ak [(.string ⟨#[67,104,111,105,114,95,116,111,95,71,114,101,97,116]⟩),I 0,I 1,I 0,(.bool false)] c4K c5A rfl rfl (by simp[Value.cells]) rfl rfl (by decide) (by decide) fun w3 H10 hS10=> ?_
 simp only[RT]at hS10
 simp(disch:=omega) only[↓RA,RZ,simprocAttr,hn,a4b (hS10.rd 4 rfl).cells (hS10.rd 11 rfl).cells (hS10.rd 12 rfl).cells]
 refine hS10.eNew 4 [(.string ⟨#[]⟩),(.slice none 0 0),(.slice none 0 0),(.slice none 0 0)] rfl rfl rfl a5Y fun A3 H11 hS11=> ?_
 simp only[RT]at hS11
 simp(disch:=omega) only[↓RA,RB,simprocAttr,hn]
 refine hS11.aa 13 rfl [(.string ⟨#[84,119,111]⟩),w1,w2,w3] rfl (by simp[OC,(hS11.rd 4 rfl).cells.2.1,(hS11.rd 11 rfl).cells.2.1,(hS11.rd 12 rfl).cells.2.1]) a5Y (by simp) fun H12 hS12=> ?_
 simp only[RT]at hS12
 simp(disch:=omega) only[↓RA,RB,simprocAttr]
 refine hS12.ak [I 40] pZ wS rfl rfl (by simp[Value.cells]) rfl rfl (by decide) (by decide) fun w4 H13 hS13=> ?_
 simp only[RT]at hS13
 simp(disch:=omega) only[↓RA,RZ,simprocAttr,hn]
 refine hS13.cF (a9l [40] (by intro z hz;rw[dM.1 hz];unfold isN;omega) w4 (hS13.az 14 rfl (vE _)) (by decide)) fun H14 hS14=> ?_
 simp(disch:=omega) only[↓RA,RZ,simprocAttr,hn]
 refine hS14.eNew 2 [(.int .u64 0),(.int .u64 0)] rfl rfl rfl pA fun A4 H15 hS15=> ?_
 simp only[RT]at hS15
 simp(disch:=omega) only[↓RA,RB,simprocAttr,hn]
 refine hS15.aa 15 rfl [(.int .u64 (kG [40]).1),(.int .u64 (kG [40]).2)] rfl rfl pA (by simp) fun H16 hS16=> ?_
 simp only[RT]at hS16
 simp(disch:=omega) only[↓RA,RZ,simprocAttr,hn,hS16.ae 13 rfl]
 refine hS16.ak [(.int .u64 1),(.int .u64 1)] c5V c5j rfl rfl (by simp[Value.cells]) rfl rfl (by decide) (by decide) fun w5 H17 hS17=> ?_
 simp only[RT]at hS17
 simp(disch:=omega) only[↓RA,RZ,simprocAttr,hn,b4h (hS17.rd 16 rfl).cells,hS17.ae 15 rfl,c0H]
 refine hS17.ak [(.int .u64 (kG [40]).1),(.int .u64 (kG [40]).2),(.int .u64 0),(.int .u64 0)] c5Y c5E rfl rfl (by simp[Value.cells]) rfl rfl (by decide) (by decide) fun w6 H18 hS18=> ?_
 simp only[RT]at hS18
 simp(disch:=omega) only[↓RA,RB,simprocAttr,hn,a5t,a4e (hS18.rd 4 rfl).cells (hS18.rd 11 rfl).cells (hS18.rd 12 rfl).cells (hS18.rd 16 rfl).cells (hS18.rd 17 rfl).cells]
 refine hS18.aa 0 rfl [(.string ⟨#[84,119,111]⟩),w1,w2,w3,w5,(.int .u64 1),(.int .u64 0),w6,I 1,I 4] rfl (by simp[OC,(hS18.rd 4 rfl).cells.2.1,(hS18.rd 11 rfl).cells.2.1,(hS18.rd 12 rfl).cells.2.1,(hS18.rd 16 rfl).cells.2.1,(hS18.rd 17 rfl).cells.2.1]) rQ (by simp) fun H19 hS19=> ?_
 simp only[RT]at hS19
 simp(disch:=omega) only[↓RA,RZ,simprocAttr,hn,c4M,hS19.ae 0 rfl]
 have h1:Sl 1 (one I) H19 v1 (List.replicate 13 0):=hS19.az 2 rfl (fun _=>rfl)
 have h2:Sl 1 (one I) H19 v2 (List.replicate 13 0):=hS19.az 3 rfl (fun _=>rfl)
 have h3:Sl 2 Drw.cells H19 d1 [⟨0,0⟩]:=hS19.az 5 rfl (fun _=>rfl)
 have h4:Sl 3 Seg.cells H19 g1 [⟨36,48,d1,[⟨0,0⟩]⟩]:=hS19.az 6 rfl (fun _=>rfl)
 have h5:Sl 4 Stp.cells H19 s1 [⟨⟨#[80,114,105,110,99,105,112,97,108,95,56]⟩,8,1,g1,[⟨36,48,d1,[⟨0,0⟩]⟩]⟩]:=hS19.az 7 rfl (fun _=>rfl)
 have h6:Sl 2 Drw.cells H19 d2 [⟨1,0⟩]:=hS19.az 8 rfl (fun _=>rfl)
 have h7:Sl 3 Seg.cells H19 g2 [⟨36,48,d2,[⟨1,0⟩]⟩]:=hS19.az 9 rfl (fun _=>rfl)
 have h8:Sl 4 Stp.cells H19 s2 [⟨⟨#[70,108,117,116,101,95,56]⟩,8,1,g2,[⟨36,48,d2,[⟨1,0⟩]⟩]⟩]:=hS19.az 10 rfl (fun _=>rfl)
 have h9:Sl 6 Rk.cells H19 w1 (exT v1 v2 d1 g1 s1 d2 g2 s2 w1 w2 w3).ranks:=hS19.az 4 rfl (fun _=>rfl)
 have h10:Sl 5 Dvn.cells H19 w2 (exT v1 v2 d1 g1 s1 d2 g2 s2 w1 w2 w3).dvs:=hS19.az 11 rfl (fun _=>rfl)
 have h11:Sl 5 Cpl.cells H19 w3 (exT v1 v2 d1 g1 s1 d2 g2 s2 w1 w2 w3).cpls:=hS19.az 12 rfl (fun _=>rfl)
 have h12:Sl 1 (one u64) H19 w5 ([1,1]:List Nat):=hS19.az 16 rfl (fun _=>rfl)
 have h13:Sl 2 ntc H19 w6 [kG [40],(0,0)]:=hS19.az 17 rfl (fun _=>rfl)
 have hRo:(⟨[1,1],1,0⟩:Reg).Ok:=⟨by decide,by decide,by decide,by decide⟩
 have hKo:∀x∈([kG [40],(0,0)]:List Nt),Nt.Ok x:=by
  intro x hx
  simp only[ej,eF,or_false]at hx
  rcases hx with rfl|rfl<;>exact⟨by decide,by decide⟩
 refine⟨v1,v2,d1,g1,s1,d2,g2,s2,w1,w2,w3,w5,w6,rfl,⟨⟨h9,?_,h10,?_,h11,by simp[snT,exT],by simp[snT,exT],by simp[snT,exT]⟩,⟨h12,hRo⟩,⟨h13,by simp[snT],hKo⟩⟩,hS19.forget⟩
 ·intro r hr
  simp only[snT,exT,ej,eF,or_false]at hr
  rcases hr with rfl|rfl
  ·exact⟨h1,by simp⟩
  ·exact⟨h2,by simp⟩
 ·intro d hd
  simp only[snT,exT,ej,eF,or_false]at hd
  rcases hd with rfl|rfl
  ·exact⟨h5,fun s hs=>by rw[dM.1 hs];exact⟨h4,fun g hg=>by rw[dM.1 hg];exact⟨h3,by simp⟩,by simp⟩,by simp⟩
  ·exact⟨h8,fun s hs=>by rw[dM.1 hs];exact⟨h7,fun g hg=>by rw[dM.1 hg];exact⟨h6,by simp⟩,by simp⟩,by simp⟩
section
variable (v1 v2 d1 g1 s1 d2 g2 s2 a b c sv kv:Value)
theorem c0v:snE (snT v1 v2 d1 g1 s1 d2 g2 s2 a b c sv kv)=0:=by kernel_rfl
theorem b8G:a2W (snT v1 v2 d1 g1 s1 d2 g2 s2 a b c sv kv)=some ((0,40),[0],(1,40)):=by kernel_rfl
theorem b8w:lK (snT v1 v2 d1 g1 s1 d2 g2 s2 a b c sv kv) (1,40)=[0]:=by kernel_rfl
theorem b0q:a6A (snT v1 v2 d1 g1 s1 d2 g2 s2 a b c sv kv)=[⟨(0,40),[0],(1,40),0⟩]:=by kernel_rfl
theorem c1w(cv:Value):vfE (snT v1 v2 d1 g1 s1 d2 g2 s2 a b c sv kv) ⟨(0,40),cv,[0],(1,40),0⟩=0:=by kernel_rfl
theorem b2x(cv:Value):a4L (snT v1 v2 d1 g1 s1 d2 g2 s2 a b c sv kv) ⟨(0,40),cv,[0],(1,40),0⟩=[exA,exB]:=by kernel_rfl
theorem b5h(cv:Value):a3A (snT v1 v2 d1 g1 s1 d2 g2 s2 a b c sv kv) ⟨(0,40),cv,[0],(1,40),0⟩ ⟨exJ.toArray⟩=⟨#[71,114,101,97,116,32,69,50,44,32,67,104,111,105,114,95,116,111,95,71,114,101,97,116,32,116,111,32,67,104,111,105,114,32,69,50,58,32,70,108,117,116,101,95,56]⟩:=by kernel_rfl
theorem a6d:tS (snT v1 v2 d1 g1 s1 d2 g2 s2 a b c sv kv)=0:=by
 unfold tS
 rw[c0v,if_neg (by decide),b0q,if_neg (by decide)]
theorem b0I:pN (snT v1 v2 d1 g1 s1 d2 g2 s2 a b c sv kv)=[⟨(0,40),[0],(1,40),0⟩]:=by
 unfold pN
 rw[a6d,if_pos rfl,b0q]
 simp
theorem b1h:mM ⟨(0,40),[0],(1,40),0⟩=[⟨1,1,0⟩,⟨2,0,0⟩]:=by
 unfold mM xY
 exact a3y (by
  refine .cons (fun x hx=> ?_) (.cons (fun x hx=>(by cases hx)) .nil)
  simp only[dY,fN,dM]at hx
  subst hx
  unfold wU
  kernel_rfl)
theorem b7v:pU (snT v1 v2 d1 g1 s1 d2 g2 s2 a b c sv kv)=[⟨1,1,0⟩,⟨2,0,0⟩]:=by
 unfold pU
 rw[b0I,dL,eU,dA,←b1h]
 unfold mM
 exact a3y (b3M _)
theorem b8q:wF (snT v1 v2 d1 g1 s1 d2 g2 s2 a b c sv kv)=0∧a0o (snT v1 v2 d1 g1 s1 d2 g2 s2 a b c sv kv)=some [⟨1,1,0⟩]:=by
 have hE:wF (snT v1 v2 d1 g1 s1 d2 g2 s2 a b c sv kv)=0:=by
  unfold wF
  rw[a6d,if_neg (by decide),b7v,if_neg (by decide)]
 refine⟨hE,?_⟩
 unfold a0o a7o
 rw[hE,b0I,b7v,if_neg (by simp),dY,fN,b1h]
 kernel_rfl
end
theorem wD(hG:Glob gH H):Fn prog 10 [] H fun r H'=>r=.bool true∧St prog H H' []:=by
 refine .cX func10 rfl (by kernel_rfl) (m:=61) rfl fun l hn=> ?_
 simp(disch:=omega) only[↓RA,RZ,simprocAttr]
 refine iR ((b3H ((sR H).gl hG)).mono fun _ _⟨v1,v2,d1,g1,s1,d2,g2,s2,a,b,c,sv,kv,h1,h2,h3⟩=>(⟨_,h1,⟨v1,v2,d1,g1,s1,d2,g2,s2,a,b,c,sv,kv,rfl⟩,h2,h3⟩:∃s:Sn,_=s.v∧(∃v1 v2 d1 g1 s1 d2 g2 s2 a b c sv kv,s=snT v1 v2 d1 g1 s1 d2 g2 s2 a b c sv kv)∧s.In _∧St prog _ _ [])) ?_
 rintro r H1⟨s,rfl,⟨v1,v2,d1,g1,s1,d2,g2,s2,a,b,c,sv,kv,hse⟩,hs,hT1⟩
 have hS1:=(sR H).trans hT1
 simp only[RT]at hS1
 have q1:snE s=0:=by subst hse;exact c0v ..
 have q2:a2W s=some ((0,40),[0],(1,40)):=by subst hse;exact b8G ..
 have q3:∀cv,b2J s (a2W s) cv=⟨(0,40),cv,[0],(1,40),0⟩:=fun cv=>by
  rw[q2]
  unfold b2J
  simp only
  rw[show lK s (1,40)=[0]from by subst hse;exact b8w ..]
  rfl
 have q4:∀cv,vfE s ⟨(0,40),cv,[0],(1,40),0⟩=0:=fun cv=>by subst hse;exact c1w ..
 have q5:∀cv,a4L s ⟨(0,40),cv,[0],(1,40),0⟩=[exA,exB]:=fun cv=>by subst hse;exact b2x ..
 have q6:∀cv,a3A s ⟨(0,40),cv,[0],(1,40),0⟩ ⟨exJ.toArray⟩=⟨#[71,114,101,97,116,32,69,50,44,32,67,104,111,105,114,95,116,111,95,71,114,101,97,116,32,116,111,32,67,104,111,105,114,32,69,50,58,32,70,108,117,116,101,95,56]⟩:=fun cv=>by subst hse;exact b5h ..
 have q7:wF s=0∧a0o s=some [⟨1,1,0⟩]:=by subst hse;exact b8q ..
 have q8:∀cv,b0c s ⟨(0,40),cv,[0],(1,40),0⟩ ⟨exJ.toArray⟩=⟨#[71,114,101,97,116,32,69,50,44,32,67,104,111,105,114,95,116,111,95,71,114,101,97,116,32,116,111,32,67,104,111,105,114,32,69,50,58,32,70,108,117,116,101,95,56]⟩:=fun cv=>by unfold b0c;rw[if_pos (q4 cv),q6]
 clear hse
 have hS0:=hS1
 have hG2:=hS0.gl hG
 simp(disch:=omega) only[↓RA,RZ,simprocAttr]
 refine(sR H1).eNew 10 [(.string ⟨#[]⟩),(.slice none 0 0),(.slice none 0 0),(.slice none 0 0),(.slice none 0 0),(.int .u64 0),(.int .u64 0),(.slice none 0 0),I 0,I 0] rfl rfl rfl rQ fun A1 H2 hS2=> ?_
 simp only[RT]at hS2
 simp(disch:=omega) only[↓RA,RB,simprocAttr,hn]
 refine hS2.aa 0 rfl [(.string s.o.name),s.o.rv,s.o.dv,s.o.cv,s.sv,(.int .u64 s.rg.cpl),(.int .u64 s.rg.off),s.kv,I s.p.1,I s.p.2] rfl (by simp[OC,(hS2.sl hs.o.1).cells.2.1,(hS2.sl hs.o.2.2.1).cells.2.1,(hS2.sl hs.o.2.2.2.2.1).cells.2.1,(hS2.sl hs.rg.1).cells.2.1,(hS2.sl hs.ks.sl).cells.2.1]) rQ (by simp) fun H3 hS3=> ?_
 simp only[RT]at hS3
 simp(disch:=omega) only[↓RA,RZ,simprocAttr,hn,hS3.ae 0 rfl]
 have hL:=b6p (hS3.gl hG2) s (hs.ag hS3)
 simp only[q3,q1]at hL
 rw[q2]at hL
 simp only[Option.isSome_some]at hL
 refine iR (hL) ?_
 rintro r H4⟨cv,rfl,hT2⟩
 have hS4:=hS3.trans hT2
 simp only[RT]at hS4
 simp(disch:=omega) only[↓RA,RZ,simprocAttr,hn]
 refine hS4.eNew 6 [I 0,I 0,(.slice none 0 0),I 0,I 0,I 0] rfl rfl rfl nP fun A2 H5 hS5=> ?_
 simp only[RT]at hS5
 simp(disch:=omega) only[↓RA,RB,simprocAttr,hn]
 refine hS5.aa 2 rfl [I 0,I 40,cv,I 1,I 40,I 0] rfl (by simp[OC,(hS5.rd 1 rfl).cells.2.1]) nP (by simp) fun H6 hS6=> ?_
 simp only[RT]at hS6
 simp(disch:=omega) only[↓RA,RZ,simprocAttr,hn,hS6.ae 0 rfl,hS6.ae 2 rfl]
 have hT:=b7C (hS6.gl hG2) s (hs.ag hS6) ⟨(0,40),cv,[0],(1,40),0⟩ ⟨hS6.az 1 rfl (fun _=>rfl),by simp⟩ (by simp) ⟨exJ.toArray⟩ (by decide) (fun _=>by rw[q5];exact c1j)
 rw[q8,q4]at hT
 refine hS6.cF (hT) fun H7 hS7=> ?_
 simp(disch:=omega) only[↓RA,RZ,simprocAttr,hn,hS7.ae 0 rfl]
 have hQ:=a8M (hS7.gl hG2) s (hs.ag hS7)
 rw[q7.1,q7.2]at hQ
 simp only[Option.isSome_some,dO]at hQ
 refine iR (hQ) ?_
 rintro r H8⟨lv,rfl,hT4⟩
 have hS8:=hS7.trans hT4
 simp only[RT]at hS8
 simp(disch:=omega) only[↓RA,RZ,simprocAttr,hn]
 simp(disch:=omega) only[↓RA,RZ,simprocAttr,hn,(hS8.az 3 rfl (fun _=>rfl)).len]
 have hlx:Sl 3 Ctl.cells H8 lv [⟨1,1,0⟩]:=hS8.az 3 rfl (fun _=>rfl)
 have hid:∀t,wG (some 3) prog t lv (.int .i64 0)=some (jS lv 3 0 0):=fun t=>hlx.idx t .i64 0 (by decide) (by decide)
 have hlA:qC (some true) (some 3) H8 (jS lv 3 0 0)=some (.agg #[I 1,I 1,I 0]):=hlx.ae 0 (by decide)
 simp(disch:=omega) only[↓RA,RZ,simprocAttr,hn,b7o,c5P,hid,hlA]
 exact hS0.trans hS8.forget
theorem b6A(a b:Rn):sC b a=-sC a b:=pJ _ _
theorem a2i(hG:Glob gH H)(a:Rn)(ha:RnI H a)(b:Rn)(hb:RnI H b):
 Fn prog 3 [a.v,b.v] H fun r H'=>r=.bool true∧St prog H H' []:=by
 have hal:=ha.len
 have hbl:=hb.len
 have hneg:=b6A a b
 have hv:=pR (xJ a) (xJ b)
 have hw:IntKind.wrap .i64 (0-sC a b)=-sC a b:=by
  rw[show 0-sC a b=-sC a b from by omega]
  exact a0k (a:=-sC a b) (by unfold sC;omega) (by unfold sC;omega)
 refine .aH func3 rfl (by kernel_rfl) (m:=37) rfl fun l hn g0 g1=> ?_
 simp(disch:=omega) only[↓RA,RB,simprocAttr,g0]
 refine(sR H).eNew 6 [I a.pl.1,I a.pl.2,a.cv,I a.tc.1,I a.tc.2,I a.stop] rfl rfl (by simp[OC,((sR H).sl ha.sl).cells.2.1]) nP fun A1 H1 hS1=> ?_
 simp only[RT]at hS1
 simp(disch:=omega) only[↓RA,RB,simprocAttr,g1]
 refine hS1.eNew 6 [I b.pl.1,I b.pl.2,b.cv,I b.tc.1,I b.tc.2,I b.stop] rfl rfl (by simp[OC,(hS1.sl hb.sl).cells.2.1]) nP fun A2 H2 hS2=> ?_
 simp only[RT]at hS2
 simp(disch:=omega) only[↓RA,RZ,simprocAttr]
 refine hS2.cF (wD (hS2.gl hG)) fun H3 hS3=> ?_
 simp(disch:=omega) only[↓RA,RZ,simprocAttr,hn,hS3.ld 0 rfl,(hS3.sl ha.sl).len]
 refine iS (fun h1=> ?_) (fun h1=> ?_)
 ·simp(disch:=omega) only[↓RA,RZ,simprocAttr,hn,h1]
  refine hS3.cF (wD (hS3.gl hG)) fun H4 hS4=> ?_
  simp(disch:=omega) only[↓RA,RZ,simprocAttr,hn,tR3,h1]
  exact hS4.forget
 simp(disch:=omega) only[↓RA,RZ,simprocAttr,hn,hS3.ld 1 rfl,(hS3.sl hb.sl).len,h1]
 refine iF (fun h2=> ?_) (fun h2=> ?_)
 ·simp(disch:=omega) only[↓RA,RZ,simprocAttr]
  refine hS3.cF (wD (hS3.gl hG)) fun H5 hS5=> ?_
  simp(disch:=omega) only[↓RA,RZ,simprocAttr,hn,tR3,h1,h2]
  exact hS5.forget
 have ha:=ha.rn (by omega)
 have hb:=hb.rn (by omega)
 simp(disch:=omega) only[↓RA,RC,simprocAttr,h1,h2]
 refine Wp.aL kJ [(3,0),(4,0),(11,6),(12,6)] (by kernel_rfl) (by kernel_rfl) ?_
 simp(disch:=omega) only[↓RA,RZ,simprocAttr,hn,hS3.ae 0 rfl,hS3.ae 1 rfl]
 refine hS3.cF (a5c a b (ha.ag hS3) (hb.ag hS3)) fun H6 hS6=> ?_
 simp(disch:=omega) only[↓RA,RZ,simprocAttr,hn,hS6.ae 0 rfl,hS6.ae 1 rfl]
 refine hS6.cF (a3U a b (ha.ag hS6) (hb.ag hS6)) fun H7 hS7=> ?_
 simp(disch:=omega) only[↓RA,RZ,simprocAttr,hn]
 simp(disch:=omega) only[↓RA,RZ,simprocAttr,hn,hS7.ae 1 rfl,hS7.ae 0 rfl]
 refine hS7.cF (a5c b a (hb.ag hS7) (ha.ag hS7)) fun H8 hS8=> ?_
 simp(disch:=omega) only[↓RA,RZ,simprocAttr,hn,hS8.ae 0 rfl,hS8.ae 1 rfl]
 refine hS8.cF (a3U a b (ha.ag hS8) (hb.ag hS8)) fun H9 hS9=> ?_
 simp(disch:=omega) only[↓RA,RZ,simprocAttr,hn,hS3.ae 0 rfl,hS3.ae 1 rfl,hS7.ae 0 rfl,hS7.ae 1 rfl,tR3,hw,hneg]
 exact hS9.forget
end Go.Ds
