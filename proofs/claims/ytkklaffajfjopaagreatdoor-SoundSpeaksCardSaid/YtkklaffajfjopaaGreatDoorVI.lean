/-
  A part of the proof of SoundSpeaks.
-/
import Derived.Test.YtkklaffajfjopaaGreatDoorVE
import Derived.Test.YtkklaffajfjopaaGreatDoorVF
import Derived.Test.YtkklaffajfjopaaGreatDoorVG
import Derived.Test.YtkklaffajfjopaaGreatDoorVH
import Derived.Test.YtkklaffajfjopaaGreatDoorVC
import Derived.Test.YtkklaffajfjopaaGreatDoorVD
import Derived.WideShapes
import Derived.OpenShut
import Derived.Handed
import Derived.LaidMore
import Derived.ProofKit
import Derived.Stop.Joined
import Derived.Test.YtkklaffajfjopaaGreatDoorRows
set_option linter.unusedVariables false
set_option linter.unusedSimpArgs false
set_option linter.defProp false
set_option linter.unusedSectionVars false
namespace Go.Ds
open Go.Proofs Go.Proofs.Tryz
variable {H:Heap}
theorem nZ{P:Program}{k:FuncId}{args:List Value}{v:Value}{G:Heap}(hfa:∀x∈args,flat x=true)(hv:flat v=true)(h:Fn P k args G fun r _=>r=v)(hG:Glob G H):Fn P k args H fun r H'=>r=v∧St P H H' []:=by
 obtain⟨h1,r,H1,h2,rfl⟩:=h
 exact⟨h1,r,H,CallOk.bI hfa hv h2 hG,rfl,St.refl _ _⟩
theorem mT{fs:List FuncId}{α:Type}{ps:List α}{f:LT→α→Bool}(h:(qR prog fs .e fun T=>ps.all fun x=>f T x)=true):∃T,TOk prog T∧∀x∈ps,f T x=true:=by
 obtain⟨T,hT,e⟩:=b5T (P:=prog) fs .e (fun f g h=>by rw[xI]at h;cases h) (fun T=>ps.all fun x=>f T x)
 rw[e]at h
 exact⟨T,hT,dj.1 h⟩
theorem mB{T:LT}(hT:TOk prog T){k:FuncId}{args:List Value}{v:Value}{H1:Heap}(h:(lZ T (xZ prog T 4000) [] (kM k) args gH).Is v H1):Fn prog k args gH fun r _=>r=v:=
 ((a0r hT (c2z c4R hT 4000) (fun en hen=>by cases hen) rfl h).1.fn).mono fun _ _ h=>h.1
theorem zC{T:LT}(hT:TOk prog T){k:FuncId}{args:List Value}{n:Nat}(h:a4o (lZ T (xZ prog T 4000) [] (kM k) args gH) n=true):Fn prog k args gH fun r _=>r=.string (mC n):=by
 unfold a4o at h
 split at h
 ·rename_i b H1 e
  rw[←a5E (of_decide_eq_true h)]
  exact mB hT (.inl e)
 ·rename_i b H1 e
  rw[←a5E (of_decide_eq_true h)]
  exact mB hT (.inr e)
 ·cases h
theorem b1L{v:Value}{n:Nat}(h:c0A v n=true):v=.tuple #[.string (mC n),I 0]:=by
 unfold c0A at h
 split at h
 ·rename_i vs
  split at h
  ·rename_i b m e
   rw[cU,decide_eq_true_eq,decide_eq_true_eq]at h
   obtain⟨rfl,h⟩:=h
   rw[←a5E h]
   congr 1
   exact gK e
  ·cases h
 ·cases h
theorem b6E{T:LT}(hT:TOk prog T){k:FuncId}{args:List Value}{n:Nat}(h:b7q (lZ T (xZ prog T 4000) [] (kM k) args gH) n=true):Fn prog k args gH fun r _=>r=.tuple #[.string (mC n),I 0]:=by
 unfold b7q at h
 split at h
 ·rename_i v H1 e
  rw[←b1L h]
  exact mB hT (.inl e)
 ·rename_i v H1 e
  rw[←b1L h]
  exact mB hT (.inr e)
 ·cases h
theorem a8P{T:LT}(hT:TOk prog T){k:FuncId}{args:List Value}{n:Int}(h:b1J (lZ T (xZ prog T 4000) [] (kM k) args gH) n=true):Fn prog k args gH fun r _=>r=I n:=by
 unfold b1J at h
 split at h
 ·rename_i m H1 e
  rw[←of_decide_eq_true h]
  exact mB hT (.inl e)
 ·rename_i m H1 e
  rw[←of_decide_eq_true h]
  exact mB hT (.inr e)
 ·cases h
theorem c1L{ps:List Nat}(h:c0X ps=true)(hG:Glob gH H):∀x∈ps,Fn prog 125 [I x] H fun r H'=>r=.string (mC x)∧St prog H H' []:=by
 obtain⟨T,hT,h⟩:=mT h
 intro x hx
 exact nZ (by simp[flat,iZ,iY]) rfl (zC hT (h x hx)) hG
theorem b9A{ps:List Nat}(h:vJ ps=true)(hG:Glob gH H):∀x∈ps,Fn prog 124 [.string (mC x),I 24] H fun r H'=>r=.tuple #[.string (mC (x^24)),I 0]∧St prog H H' []:=by
 obtain⟨T,hT,h⟩:=mT h
 intro x hx
 exact nZ (by simp[flat,iZ,iY]) rfl (b6E hT (h x hx)) hG
theorem c0q{ps:List (Nat×Nat)}(h:mA ps=true)(hG:Glob gH H):∀x∈ps,Fn prog 126 [.string (mC x.1),.string (mC x.2)] H fun r H'=>r=.string (mC (x.1*x.2))∧St prog H H' []:=by
 obtain⟨T,hT,h⟩:=mT h
 intro x hx
 exact nZ (by simp[flat,iZ,iY]) rfl (zC hT (h x hx)) hG
theorem b8y{ps:List (Nat×Nat)}(h:uT ps=true)(hG:Glob gH H):∀x∈ps,Fn prog 127 [.string (mC x.1),.string (mC x.2)] H fun r H'=>r=I (a5j x.1 x.2)∧St prog H H' []:=by
 obtain⟨T,hT,h⟩:=mT h
 intro x hx
 exact nZ (by simp[flat,iZ,iY]) rfl (a8P hT (h x hx)) hG
end Go.Ds
namespace Go.Ds
open Go.Proofs Go.Proofs.Tryz
variable {H:Heap}
set_option maxRecDepth 100000
def c2d:List (List Nat):=[[2,4,6,8],[10,12,14,16],[20,24,28,32],[40,48,56,64],[80,96,112,128],[160,192,256,320]]
def b5U:List (List (Nat×Nat)):=[[(2,0),(4,0),(6,5)],[(8,7)],[(10,8)],[(12,5),(14,2)],[(16,7)],[(20,8)],[(24,9)],[(28,2)],[(32,10)],[(40,8)],[(48,9)],[(56,9)],[(64,7)],[(80,8)],[(96,9)],[(112,2)],[(128,7)],[(256,4)]]
def c3A:List (List (Nat×Nat×Nat)):=[[(2,2,0),(4,4,0),(8,6,5),(8,8,0),(10,8,4),(12,8,7),(16,10,8),(16,12,5),(16,14,2)],[(16,16,0),(20,16,4),(24,16,7),(24,24,0),(32,20,8),(32,24,5),(32,28,2),(32,32,0)],[(40,24,9),(40,32,4),(40,40,0),(48,32,7),(48,40,3),(48,48,0),(56,32,10)],[(64,40,8),(64,48,5),(64,56,2),(64,64,0),(80,48,9),(80,56,6)],[(80,64,4),(80,80,0),(96,56,9),(96,64,7),(96,96,0),(128,80,8),(128,112,2)],[(160,96,9),(160,128,4),(192,128,7),(320,256,4)]]
abbrev nL:List Nat:=c2d.flatten
abbrev cL:List (Nat×Nat×Nat):=c3A.flatten
theorem c7a:∀l∈c2d,vJ l=true:=by
 unfold c2d
 simp only[fF]
 exact⟨c4P,c5P,c4t,c6F,c4L,c6G,fun _ h=>absurd h dV⟩
theorem c7j:∀l∈b5U,mA (l.flatMap sF)=true:=by
 unfold b5U
 simp only[fF]
 exact⟨c4H,c5z,c4B,c4U,c4E,c6u,c6C,c6m,c4k,c6L,c1Y,c3L,c2i,c3F,c3T,c2V,c3u,c3G,fun _ h=>absurd h dV⟩
theorem c7J:∀l∈c3A,uT (l.flatMap a6E)=true:=by
 unfold c3A
 simp only[fF]
 exact⟨c5I,c5E,c5i,c6b,c6w,c5h,fun _ h=>absurd h dV⟩
theorem ofT(hG:Glob gH H)(x:Nat)(hx:x∈nL):Fn prog 125 [I x] H fun r H'=>r=.string (mC x)∧St prog H H' []:=c1L (ps:=nL) c8c hG x hx
theorem c6M(hG:Glob gH H)(x:Nat)(hx:x∈nL):Fn prog 124 [.string (mC x),I 24] H fun r H'=>r=.tuple #[.string (mC (x^24)),I 0]∧St prog H H' []:=by
 obtain⟨l,hl,hx⟩:=gg.1 hx
 exact b9A (c7a l hl) hG x hx
theorem c4Y(hG:Glob gH H)(x:Nat×Nat){t:Nat×Nat}(ht:t∈b5U.flatten)(hx:x∈sF t):Fn prog 126 [.string (mC x.1),.string (mC x.2)] H fun r H'=>r=.string (mC (x.1*x.2))∧St prog H H' []:=by
 obtain⟨l,hl,ht⟩:=gg.1 ht
 exact c0q (c7j l hl) hG x (dR.2 ⟨t,ht,hx⟩)
theorem c7T(hG:Glob gH H)(x:Nat×Nat){t:Nat×Nat×Nat}(ht:t∈cL)(hx:x∈a6E t):Fn prog 127 [.string (mC x.1),.string (mC x.2)] H fun r H'=>r=I (a5j x.1 x.2)∧St prog H H' []:=by
 obtain⟨l,hl,ht⟩:=gg.1 ht
 exact b8y (c7J l hl) hG x (dR.2 ⟨t,ht,hx⟩)
theorem c4z:(cL.all fun s=>decide (s.1∈nL)&&decide (s.2.1∈nL)&&(b5U.flatten.any fun m=>decide (m.1=s.2.1)&&decide (s.2.2≤m.2))&&decide (s.2.2≤12)&&decide (s.1^24≤2*s.2.1^24*4^s.2.2)&&(List.range s.2.2).all fun k=>decide (2*s.2.1^24*4^k<s.1^24))=true:=by kernel_rfl
def up:Nat→Int×Int×Int→Int×Int×Int
 | 0,s=>s
 | n+1,s=>if s.1<s.2.1 then up n (s.1*2,s.2.1,s.2.2-12)else s
def dn:Nat→Int×Int×Int→Int×Int×Int
 | 0,s=>s
 | n+1,s=>if 2*s.2.1≤s.1 then dn n (s.1,s.2.1*2,s.2.2+12)else s
theorem b9a{s:Int×Int×Int}(h:¬s.1<s.2.1):∀n,up n s=s
 | 0=>rfl
 | n+1=>by rw[up,if_neg h]
theorem b9w{s:Int×Int×Int}(h:¬2*s.2.1≤s.1):∀n,dn n s=s
 | 0=>rfl
 | n+1=>by rw[dn,if_neg h]
def ent(s:Int×Int×Int):Option (Nat×Nat×Nat):=cL.find? fun c=>decide ((c.1:Int)=(dn 20 (up 20 s)).1∧(c.2.1:Int)=(dn 20 (up 20 s)).2.1)
def zV(a b:Int×Int):Int:=(dn 20 (up 20 (b.1*a.2,b.2*a.1,0))).2.2+(((ent (b.1*a.2,b.2*a.1,0)).map fun c=>(c.2.2:Int)).getD 0)
def nrm(s:Int×Int×Int):Bool:=decide (1≤s.1∧s.1≤1000∧1≤s.2.1∧s.2.1≤1000)&&decide (¬(up 20 s).1<(up 20 s).2.1)&&decide (¬2*(dn 20 (up 20 s)).2.1≤(dn 20 (up 20 s)).1)&&decide (-60≤(dn 20 (up 20 s)).2.2∧(dn 20 (up 20 s)).2.2≤60)&&(ent s).isSome
theorem c4D:(kY.all fun a=>lA.all fun b=>nrm (b.1*a.2,b.2*a.1,0)&&decide (mR a.1 a.2=0)&&decide (mR b.1 b.2=0))=true:=by kernel_rfl
theorem c2J:(lA.all fun a=>nrm ((8,1).1*a.2,(8,1).2*a.1,0)&&decide (mR a.1 a.2=0)&&decide (mR 8 1=0))=true:=by kernel_rfl
end Go.Ds
namespace Go.Ds
open Go.Proofs Go.Proofs.Tryz
variable {H:Heap}
theorem St.gl{P:Program}{G H:Heap}{B:Heap}{os:List Ob}(hS:St P B H os)(hG:Glob G B):Glob G H:=
 ⟨dy hG.len hS.len,fun A hA=>by rw[hS.ak A (dF hA hG.len)];exact hG.same A hA,hG.glob⟩
theorem c4i{s:Nat×Nat×Nat}(h:s∈cL):s.1∈nL∧s.2.1∈nL∧(∃m,m∈b5U.flatten∧m.1=s.2.1∧s.2.2≤m.2)∧s.2.2≤12∧s.1^24≤2*s.2.1^24*4^s.2.2∧∀k,k<s.2.2→2*s.2.1^24*4^k<s.1^24:=by
 have:=dj.1 c4z _ h
 simp only[cU,decide_eq_true_eq,gy]at this
 exact⟨this.1.1.1.1.1,this.1.1.1.1.2,this.1.1.1.2,this.1.1.2,this.1.2,fun k hk=>of_decide_eq_true (dj.1 this.2 k (dq.2 hk))⟩
def a6W(a b c d:Int):Int:=if mR a b≠0 then mR a b else mR c d
theorem c0v(a b c d:Int):Fn prog 86 [.agg #[I a,I b],.agg #[I c,I d]] H fun r H'=>r=I (a6W a b c d)∧St prog H H' []:=by
 refine .aF func86 rfl (by kernel_rfl) (m:=13) rfl fun l hn g0 g1=> ?_
 simp(disch:=omega) only[↓RA,RB,simprocAttr,g0]
 refine(sR H).eNew 2 [I a,I b] rfl rfl rfl uI fun A1 H1 hS1=> ?_
 simp only[RT]at hS1
 simp(disch:=omega) only[↓RA,RB,simprocAttr,g1]
 refine hS1.eNew 2 [I c,I d] rfl rfl rfl uI fun A2 H2 hS2=> ?_
 simp only[RT]at hS2
 simp(disch:=omega) only[↓RA,RZ,simprocAttr,hn,hS2.ai 0 rfl]
 refine hS2.cF (a1q a b) fun H3 hS3=> ?_
 simp(disch:=omega) only[↓RA,RB,simprocAttr,hn]
 refine iA (fun h=> ?_) (fun h=> ?_)
 ·simp(disch:=omega) only[↓RA,RZ,simprocAttr,hn,c5V,h]
  exact⟨by rw[a6W,if_pos h],hS3.forget⟩
 simp(disch:=omega) only[↓RA,RZ,simprocAttr,hn,hS3.ai 1 rfl,h]
 refine hS3.cF (a1q c d) fun H4 hS4=> ?_
 simp(disch:=omega) only[↓RA,RZ,simprocAttr,hn,c5V,h]
 exact⟨by rw[a6W,if_neg h],hS4.forget⟩
theorem b6j(hG:Glob gH H)(a b:Int×Int)(hr:nrm (b.1*a.2,b.2*a.1,0)=true):Fn prog 87 [.agg #[I a.1,I a.2],.agg #[I b.1,I b.2]] H fun r H'=>(r=I (zV a b)∧-100≤zV a b∧zV a b≤100)∧St prog H H' []:=by
 unfold nrm at hr
 simp only[cU,decide_eq_true_eq]at hr
 obtain⟨⟨⟨⟨hr0,hr1⟩,hr2⟩,hr3⟩,hen⟩:=hr
 obtain⟨⟨X,Y,K⟩,hen⟩:=eO.1 hen
 have hsh:zV a b=(dn 20 (up 20 (b.1*a.2,b.2*a.1,0))).2.2+(K:Int):=by
  unfold zV
  rw[hen]
  rfl
 rw[hsh]
 clear hsh
 have hc:(X,Y,K)∈cL:=gE hen
 have hXY:=List.find?_some hen
 rw[decide_eq_true_eq]at hXY
 obtain⟨hX,hY⟩:=hXY
 clear hen
 generalize hR1:up 20 (b.1*a.2,b.2*a.1,0)=R1 at hr1 hr2 hr3 hX hY
 generalize hR2:dn 20 R1=R2 at hr2 hr3 hX hY
 obtain⟨c1,c2,⟨m,c3,c4,c5⟩,c6,c7,c8⟩:=c4i hc
 simp only at c1 c2 c4 c5 c6 c7 c8 hX hY
 refine .aF func87 rfl (by kernel_rfl) (m:=61) rfl fun l hn g0 g1=> ?_
 simp(disch:=omega) only[↓RA,RB,simprocAttr,g0]
 refine(sR H).eNew 2 [I a.1,I a.2] rfl rfl rfl uI fun A1 H1 hS1=> ?_
 simp only[RT]at hS1
 simp(disch:=omega) only[↓RA,RB,simprocAttr,g1]
 refine hS1.eNew 2 [I b.1,I b.2] rfl rfl rfl uI fun A2 H2 hS2=> ?_
 simp only[RT]at hS2
 simp(disch:=omega) only[↓RA,RB,simprocAttr]
 refine Wp.drw jW (by kernel_rfl) ?_
 simp(disch:=omega) only[↓RA,RZ,simprocAttr,hn,hS2.ld 1 rfl,hS2.ld 0 rfl]
 refine Wp.aj (fun n l H'=>l.length=61∧get l 4=I 0∧∃(x y t:Int),(up n (x,y,t)=R1∧1≤x∧x≤2000∧1≤y∧y≤1000∧n≤20∧-12*(20-(n:Int))≤t∧t≤0)∧get l 5=I x∧get l 6=I y∧get l 7=I t∧St prog H H' [⟨ptr A1 0 2,0,[I a.1,I a.2]⟩,⟨ptr A2 0 2,0,[I b.1,I b.2]⟩]) 20 ?_ ?_
 ·simp(disch:=omega) only[RB,RC,simprocAttr,hn]
  exact⟨_,_,_,by refine⟨hR1,?_⟩;omega,rfl,rfl,rfl,hS2⟩
 rintro n l H3⟨hn,g4,x,y,t,⟨u1,u2,u3,u4,u5,u6,u7,u8⟩,g5,g6,g7,hS3⟩
 simp(disch:=omega) only[↓RA,RB,simprocAttr,hn,g5,g6]
 refine iA (fun h=> ?_) (fun h=> ?_)
 ·simp(disch:=omega) only[↓RA,RZ,simprocAttr,hn,g4,g5,g6,g7,h]
  cases n with
  | zero=>
    rw[←u1]at hr1
    exact absurd h hr1
  | succ n=>
    rw[up,if_pos h]at u1
    exact⟨n,by omega,x*2,y,t-12,⟨u1,by omega,by omega,by omega,by omega,by omega,by omega,by omega⟩,rfl,rfl,rfl,hS3⟩
 rw[b9a h]at u1
 simp(disch:=omega) only[↓RA,RC,simprocAttr,h]
 refine Wp.aj (fun n l H'=>l.length=61∧get l 4=I 0∧∃(x2 y2 t2:Int),(dn n (x2,y2,t2)=R2∧x2=x∧1≤y2∧y2≤x2∧n≤20∧t2≤12*(20-(n:Int))∧-240≤t2)∧get l 5=I x2∧get l 6=I y2∧get l 7=I t2∧St prog H H' [⟨ptr A1 0 2,0,[I a.1,I a.2]⟩,⟨ptr A2 0 2,0,[I b.1,I b.2]⟩]) 20 ?_ ?_
 ·simp(disch:=omega) only[RB,RC,simprocAttr,hn,g4,g5,g6,g7]
  exact⟨_,_,_,by refine⟨by rw[u1];exact hR2,?_⟩;omega,rfl,rfl,rfl,hS3⟩
 rintro n l H4⟨hn,g4,x2,y2,t2,⟨v1,v2,v3,v4,v5,v6,v7⟩,g5,g6,g7,hS4⟩
 simp(disch:=omega) only[↓RA,RB,simprocAttr,hn,g5,g6]
 refine iA (fun h2=> ?_) (fun h2=> ?_)
 ·simp(disch:=omega) only[↓RA,RZ,simprocAttr,hn,g4,g5,g6,g7,h2]
  cases n with
  | zero=>
    rw[←v1]at hr2
    exact absurd h2 hr2
  | succ n=>
    rw[dn,if_pos h2]at v1
    exact⟨n,by omega,x2,y2*2,t2+12,⟨v1,v2,by omega,by omega,by omega,by omega,by omega⟩,rfl,rfl,rfl,hS4⟩
 rw[b9w (by simp only;omega)]at v1
 subst v1
 simp only at hX hY hr3
 subst hX
 subst hY
 simp(disch:=omega) only[↓RA,RZ,simprocAttr,hn,g5,h2]
 refine hS4.cF (ofT (hS4.gl hG) X c1) fun H5 hS5=> ?_
 simp(disch:=omega) only[↓RA,RZ,simprocAttr,hn,h2]
 refine hS5.cF (c6M (hS5.gl hG) X c1) fun H6 hS6=> ?_
 simp(disch:=omega) only[↓RA,RZ,simprocAttr,hn,g6,h2]
 refine hS6.cF (ofT (hS6.gl hG) Y c2) fun H7 hS7=> ?_
 simp(disch:=omega) only[↓RA,RZ,simprocAttr,hn,h2]
 refine hS7.cF (c6M (hS7.gl hG) Y c2) fun H8 hS8=> ?_
 simp(disch:=omega) only[↓RA,RZ,simprocAttr,hn,h2]
 refine hS8.cF (c4Y (hS8.gl hG) (Y^24,2) c3 (by rw[←c4];exact dG ..)) fun H9 hS9=> ?_
 simp(disch:=omega) only[↓RA,RZ,simprocAttr,hn,h2]
 refine Wp.aj (fun n l H'=>l.length=61∧get l 4=I 0∧get l 8=(.string (mC (X^24)))∧∃(k:Nat),(n=13-k∧k≤K)∧get l 7=I (t2+k)∧get l 12=(.string (mC (2*Y^24*4^k)))∧St prog H H' [⟨ptr A1 0 2,0,[I a.1,I a.2]⟩,⟨ptr A2 0 2,0,[I b.1,I b.2]⟩]) 13 ?_ ?_
 ·simp(disch:=omega) only[RB,RC,simprocAttr,hn,g4,g7]
  exact⟨0,⟨rfl,by omega⟩,by simp,by simp[Nat.mul_comm],hS9⟩
 rintro n l H10⟨hn,g4,g8,k,⟨hn3,hk⟩,g7,g12,hS10⟩
 simp(disch:=omega) only[↓RA,RZ,simprocAttr,hn,g8,g12]
 refine hS10.cF (c7T (hS10.gl hG) (X^24,2*Y^24*4^k) hc (dr.2 ⟨k,dq.2 (by simp only;omega),rfl⟩)) fun H11 hS11=> ?_
 simp(disch:=omega) only[↓RA,RB,simprocAttr,hn]
 refine iA (fun h3=> ?_) (fun h3=> ?_)
 ·have hlt:2*Y^24*4^k<X^24:=by
   refine gz fun hle=> ?_
   unfold a5j at h3
   split at h3
   ·omega
   ·split at h3
    ·omega
    ·omega
  have hkK:k<K:=by
   rcases Nat.lt_or_ge k K with e|e
   ·exact e
   ·have e:k=K:=by omega
    rw[e]at hlt
    omega
  simp(disch:=omega) only[↓RA,RZ,simprocAttr,hn,g7,g12,h3]
  refine hS11.cF (c4Y (hS11.gl hG) (2*Y^24*4^k,4) c3 (by rw[←c4];exact dN _ (dr.2 ⟨k,dq.2 (by omega),rfl⟩))) fun H12 hS12=> ?_
  simp(disch:=omega) only[↓RA,RZ,simprocAttr,hn,g4,g8,h3]
  exact⟨12-k,by omega,k+1,⟨by omega,by omega⟩,by congr 1;omega,by rw[show 2*Y^24*4^(k+1)=2*Y^24*4^k*4 from by rw[Nat.pow_succ 4 k];simp only[Nat.mul_assoc]],hS12⟩
 have hkk:k=K:=by
  have hnl:¬2*Y^24*4^k<X^24:=fun hlt=>h3 (by
   unfold a5j
   rw[if_neg (by omega),if_pos hlt]
   decide)
  rcases Nat.lt_or_ge k K with e|e
  ·exact absurd (c8 k e) hnl
  ·omega
 simp(disch:=omega) only[↓RA,RZ,simprocAttr,hn,g7,c6V,h3]
 first|exact⟨⟨by rw[hkk],by omega,by omega⟩,hS11.forget⟩|exact⟨⟨by rw[hkk],by rw[←hkk];omega,by rw[←hkk];omega⟩,hS11.forget⟩
theorem a2q(hG:Glob gH H){a b:Int×Int}(h1:nrm (b.1*a.2,b.2*a.1,0)=true)(h2:mR a.1 a.2=0)(h3:mR b.1 b.2=0):Fn prog 50 [.agg #[I a.1,I a.2],.agg #[I b.1,I b.2]] H fun r H'=>(r=.tuple #[I (zV a b),I 0]∧-100≤zV a b∧zV a b≤100)∧St prog H H' []:=by
 refine .aF func50 rfl (by kernel_rfl) (m:=16) rfl fun l hn g0 g1=> ?_
 simp(disch:=omega) only[↓RA,RB,simprocAttr,g0]
 refine(sR H).eNew 2 [I a.1,I a.2] rfl rfl rfl uI fun A1 H1 hS1=> ?_
 simp only[RT]at hS1
 simp(disch:=omega) only[↓RA,RB,simprocAttr,g1]
 refine hS1.eNew 2 [I b.1,I b.2] rfl rfl rfl uI fun A2 H2 hS2=> ?_
 simp only[RT]at hS2
 simp(disch:=omega) only[↓RA,RZ,simprocAttr,hn,hS2.ai 0 rfl,hS2.ai 1 rfl]
 refine hS2.cF (c0v a.1 a.2 b.1 b.2) fun H3 hS3=> ?_
 have he:a6W a.1 a.2 b.1 b.2=0:=by unfold a6W;rw[h2,h3];rfl
 simp(disch:=omega) only[↓RA,RB,simprocAttr,hn]
 refine iA (fun h=> ?_) (fun h=> ?_)
 ·exact(h he).elim
 simp(disch:=omega) only[↓RA,RZ,simprocAttr,hn,hS3.ai 0 rfl,hS3.ai 1 rfl,h]
 refine iG (b6j (hS3.gl hG) a b h1) ?_
 rintro r H4⟨⟨rfl,hn1,hn2⟩,hT2⟩
 have hS4:=hS3.trans hT2
 simp only[RT]at hS4
 simp(disch:=omega) only[↓RA,RZ,simprocAttr,hn,c8b,h]
 first|exact⟨⟨rfl,hn1,hn2⟩,hS4.forget⟩|exact⟨⟨hn1,hn2⟩,hS4.forget⟩
theorem a1R(hG:Glob gH H){a b:Int×Int}(ha:a∈kY)(hb:b∈lA):Fn prog 50 [.agg #[I a.1,I a.2],.agg #[I b.1,I b.2]] H fun r H'=>(r=.tuple #[I (zV a b),I 0]∧-100≤zV a b∧zV a b≤100)∧St prog H H' []:=by
 have h:=dj.1 (dj.1 c4D a ha) b hb
 simp only[cU,decide_eq_true_eq]at h
 exact a2q hG h.1.1 h.1.2 h.2
theorem b0q(hG:Glob gH H){a:Int×Int}(ha:a∈lA):Fn prog 50 [.agg #[I a.1,I a.2],.agg #[I 8,I 1]] H fun r H'=>(r=.tuple #[I (zV a (8,1)),I 0]∧-100≤zV a (8,1)∧zV a (8,1)≤100)∧St prog H H' []:=by
 have h:=dj.1 c2J a ha
 simp only[cU,decide_eq_true_eq]at h
 exact a2q (b:=(8,1)) hG h.1.1 h.1.2 h.2
theorem a4d(hG:Glob gH H){a b:Int×Int}(ha:a∈kY)(hb:b∈lA):Fn prog 50 [.agg #[I a.1,I a.2],.agg #[I b.1,I b.2]] H fun r H'=>(∃n:Int,r=.tuple #[I n,I 0]∧-100≤n∧n≤100)∧St prog H H' []:=
 (a1R hG ha hb).mono fun _ _ h=>⟨⟨_,h.1⟩,h.2⟩
end Go.Ds
namespace Go.Ds
open Go.Proofs Go.Proofs.Tryz
variable {P:Program} {H:Heap}
structure Pul where
 rank:Nat
 feet:Nat
 kind:Nat
 pos:Nat
 deriving Inhabited
def Pul.cells(p:Pul):List Value:=[.int .u8 p.rank,.int .u8 p.feet,.int .u8 p.kind,.int .u8 p.pos]
def Pul.Ok(p:Pul):Prop:=p.rank<256∧p.feet<256∧p.kind<256∧p.pos<256
section
variable {H':Heap} {os:List Ob}
theorem b6Y(hS:St P H H' os)(a b:Nat){w1 w2:Value}{lo hi:Int}{ds:List Drw}(h1:os[a]? =some ⟨w1,2,ds.flatMap Drw.cells⟩)(h2:os[b]? =some ⟨w2,3,[I lo,I hi,w1]⟩)(hl:ds.length<1000000000)(nm:ByteArray)(num den:Int):
 Stp.Ix H' (fun B=>H.length≤B) ⟨nm,num,den,w2,[⟨lo,hi,w1,ds⟩]⟩:=by
 refine⟨hS.cB (xs:=[(⟨lo,hi,w1,ds⟩:Seg)]) b h2 (fun _=>rfl),?_,by simp⟩
 intro g hg
 obtain rfl:=dH.1 hg
 exact⟨hS.cB a h1 (fun _=>rfl),hl⟩
theorem c5S(hS:St P H H' os)(a b c:Nat){w1 w2 w3:Value}{lo m at' hi:Int}{ds ds':List Drw}(h1:os[a]? =some ⟨w1,2,ds.flatMap Drw.cells⟩)(h2:os[b]? =some ⟨w2,2,ds'.flatMap Drw.cells⟩)(h3:os[c]? =some ⟨w3,3,[I lo,I m,w1,I at',I hi,w2]⟩)
 (hl:ds.length<1000000000) (hl':ds'.length<1000000000) (nm:ByteArray) (num den:Int):Stp.Ix H' (fun B=>H.length≤B) ⟨nm,num,den,w3,[⟨lo,m,w1,ds⟩,⟨at',hi,w2,ds'⟩]⟩:=by
 refine⟨hS.cB (xs:=[(⟨lo,m,w1,ds⟩:Seg),⟨at',hi,w2,ds'⟩]) c h3 (fun _=>rfl),?_,by simp⟩
 intro g hg
 rcases dS.1 hg with rfl|hg
 ·exact⟨hS.cB a h1 (fun _=>rfl),hl⟩
 obtain rfl:=dH.1 hg
 exact⟨hS.cB b h2 (fun _=>rfl),hl'⟩
end
theorem b8Y(hG:Glob gH H)(rv:Value)(rks:List Rk)(hr:Sl 6 Rk.cells H rv rks)(h0:0<rks.length)(h3:rks.length≤3)(hf:∀j,j<rks.length→((iB rks j).num,(iB rks j).den)∈lA)
 (lo hi:Int) (hlo:0≤lo) (hle:lo≤hi) (hhi:hi≤127) (p:Pul) (hp:p.Ok) (i:Nat) (hi10:i<10):
 Fn prog 35 [rv,.agg #[I lo,I hi],.agg #[.int .u8 p.rank,.int .u8 p.feet,.int .u8 p.kind,.int .u8 p.pos],I i] H fun r H'=>
  ∃s:Stp,r=.agg #[.string s.name,I s.num,I s.den,s.gv]∧s.Ix H' (fun B=>H.length≤B)∧StpOk rks.length lo hi i s∧St prog H H' []:=by
 obtain⟨p1,p2,p3,p4⟩:=hp
 refine .cG func35 rfl (by kernel_rfl) (m:=158) rfl fun l hn g0 g1 g2 g3=> ?_
 have hn1:(p.rank:Int).tmod rks.length=((p.rank%rks.length:Nat):Int):=(eh _ _).symm
 have hn2:p.rank%rks.length<rks.length:=eM _ h0
 have hk:(p.kind:Int).tmod 6=((p.kind%6:Nat):Int):=(eh _ _).symm
 obtain⟨q,hq,hq0,hq1⟩:∃q,(p.pos:Int).tmod (hi-lo+1)=q∧0≤q∧q<hi-lo+1:=⟨_,rfl,Int.tmod_nonneg _ (by omega),Int.tmod_lt_of_pos _ (by omega)⟩
 generalize hnn:p.rank%rks.length=n at hn1 hn2
 simp(disch:=omega) only[↓RA,RB,simprocAttr,g1]
 refine(sR H).eNew 2 [I lo,I hi] rfl rfl rfl a1h fun A1 H1 hS1=> ?_
 simp only[RT]at hS1
 simp(disch:=omega) only[↓RA,RB,simprocAttr,g2]
 refine hS1.eNew 4 [(.int .u8 p.rank),(.int .u8 p.feet),(.int .u8 p.kind),(.int .u8 p.pos)] rfl rfl rfl b5B fun A2 H2 hS2=> ?_
 simp only[RT]at hS2
 simp(disch:=omega) only[↓RA,RZ,simprocAttr]
 refine hS2.eNew 4 [(.string ⟨#[]⟩),I 0,I 0,(.slice none 0 0)] rfl rfl rfl oA fun A3 H3 hS3=> ?_
 simp only[RT]at hS3
 simp(disch:=omega) only[↓RA,RZ,simprocAttr,hn,g0,hS3.ld 1 rfl,(hS3.sl hr).len,hn1]
 refine Wp.cb jW [6,7,8,0,1,2,3,4,5,9,10,11] [3,4,5,6,7,8,0,1,2,9,10,11] ⟨true,[],[(7,6)]⟩ [(5,0)] (by kernel_rfl) (by kernel_rfl) (by kernel_rfl) ?_
 simp(disch:=omega) only[↓RA,RZ,simprocAttr,hn]
 simp(disch:=omega) only[↓RA,RZ,simprocAttr,hn,hS3.ld 1 rfl]
 refine hS3.cF (a6w p.feet) fun H4 hS4=> ?_
 simp(disch:=omega) only[↓RA,RZ,simprocAttr,hn,g3]
 refine hS4.ag [_] b1K b1z rfl rfl (by simp[Value.cells]) rfl rfl (by decide) (by decide) fun w1 H5 hS5=> ?_
 simp only[RT]at hS5
 simp(disch:=omega) only[↓RA,RB,simprocAttr,hn,vP (hS5.rd 3 rfl) nM.1 nM.2.1 nM.2.2,sY]
 simp(disch:=omega) only[↓RA,RZ,simprocAttr,b4f]
 refine hS5.eNew 4 [(.string ⟨#[]⟩),I 0,I 0,(.slice none 0 0)] rfl rfl rfl oA fun A4 H6 hS6=> ?_
 simp only[RT]at hS6
 simp(disch:=omega) only[↓RA,RB,simprocAttr,hn]
 refine hS6.aa 4 rfl [(.string ⟨#[83,UInt8.ofNat (48+(i:Int)).toNat]⟩),I (iB kY (p.feet%6)).1,I (iB kY (p.feet%6)).2,(.slice none 0 0)] rfl rfl oA (by simp) fun H7 hS7=> ?_
 simp only[RT]at hS7
 simp(disch:=omega) only[↓RA,RZ,simprocAttr,hn]
 refine Wp.drw jW (by kernel_rfl) ?_
 simp(disch:=omega) only[↓RA,RZ,simprocAttr,hn,g0,hS7.ai 4 rfl,(hS7.sl hr).idx,(hS7.sl hr).bb,(hS7.sl hr).cE 2,Rk.cells]
 refine iG (a4d (hS7.gl hG) (a:=iB kY (p.feet%6)) (b:=((iB rks n).num,(iB rks n).den)) (iD (eM _ (by decide))) (hf n hn2)) ?_
 rintro r H8⟨⟨sh,rfl,hs1,hs2⟩,hT2⟩
 have hS8:=hS7.trans hT2
 simp only[RT]at hS8
 simp(disch:=omega) only[↓RA,RB,simprocAttr,hn,qI]
 refine hS8.ag [I n,I sh] a4j a4q rfl rfl (by simp[Value.cells]) rfl rfl (by decide) (by decide) fun w2 H9 hS9=> ?_
 simp only[RT]at hS9
 simp(disch:=omega) only[↓RA,RB,simprocAttr,hn]
 refine Wp.drw jW (by kernel_rfl) ?_
 simp(disch:=omega) only[↓RA,RZ,simprocAttr,hn,hS9.ld 0 rfl,hS9.ld 1 rfl,hk,hq]
 have he:(48+(i:Int)).toNat=48+i:=by omega
 have fin:∀(H':Heap)(s:Stp),s.name=nm 83 i→s.num=(iB kY (p.feet%6)).1→s.den=(iB kY (p.feet%6)).2→s.Ix H' (fun B=>H.length≤B)→0<s.segs.length→s.segs.length≤2→lO (kW lo hi rks.length s.segs) s.segs.length=0→St prog H H' []→
  ∃s':Stp,(.agg #[.string ⟨#[83,UInt8.ofNat (48+(i:Int)).toNat]⟩,I (iB kY (p.feet%6)).1,I (iB kY (p.feet%6)).2,s.gv]:Value)=.agg #[.string s'.name,I s'.num,I s'.den,s'.gv]∧s'.Ix H' (fun B=>H.length≤B)∧StpOk rks.length lo hi i s'∧St prog H H' []:=
  fun H' s e1 e2 e3 hx hp1 hp2 hsc hS=>⟨s,by rw[e1,e2,e3,he];rfl,hx,⟨e1,by rw[e2,e3];exact iD (eM _ (by decide)),hp1,hp2,hsc⟩,hS⟩
 have d1:kT rks.length [⟨n,sh⟩]=0:=b0H _ _ _ (by omega) (by omega) (by omega) (by omega)
 refine iA (fun k2=> ?_) (fun k2=> ?_)
 ·simp(disch:=omega) only[↓RA,RZ,simprocAttr,hn,hS9.ld 0 rfl,qI,k2]
  refine hS9.ag [I n,I sh,I n,_] a4j a4q rfl rfl (by simp[Value.cells]) rfl rfl (by decide) (by decide) fun w3 H10 hS10=> ?_
  simp only[RT]at hS10
  simp(disch:=omega) only[↓RA,RZ,simprocAttr,hn,lJ (hS10.rd 6 rfl).cells,k2]
  refine hS10.ag [I lo,I hi,w3] pV wE rfl rfl (by first|(simp[];done)|simp[Value.cells]) (by first|(simp[];done)|simp[Value.cells]) (by simp[OC,(hS10.rd 6 rfl).cells.2.1]) (by decide) (by decide) fun w4 H11 hS11=> ?_
  simp only[RT]at hS11
  simp(disch:=omega) only[↓RA,RZ,simprocAttr,hn,k2]
  refine hS11.aa 4 rfl [w4] (by rw[(hS11.rd 7 rfl).cells.1]) (by simp[(hS11.rd 7 rfl).cells.2.1]) wB (by simp) fun H12 hS12=> ?_
  simp only[RT]at hS12
  simp(disch:=omega) only[↓RA,RZ,simprocAttr,hn,hS12.ai 4 rfl,k2]
  refine hS12.aa 2 rfl [(.string ⟨#[83,UInt8.ofNat (48+(i:Int)).toNat]⟩),I (iB kY (p.feet%6)).1,I (iB kY (p.feet%6)).2,w4] rfl (by simp[OC,(hS12.rd 7 rfl).cells.2.1]) oA (by simp) fun H13 hS13=> ?_
  simp only[RT]at hS13
  simp(disch:=omega) only[↓RA,RZ,simprocAttr,hn,b0a,hS13.ai 2 rfl,k2]
  exact fin _ ⟨_,_,_,w4,[⟨lo,hi,w3,[⟨n,sh⟩,⟨n,sh+7⟩]⟩]⟩ rfl rfl rfl (b6Y hS13 6 7 rfl rfl (by simp) _ _ _) (by simp) (by simp) (a8e _ _ _ _ _ _ _ (by omega) hle (by omega) (c2e _ _ _ _ (by omega) (by omega) (by omega) (by omega) (by omega) (by omega) (by omega))) hS13.forget
 simp(disch:=omega) only[↓RA,RZ,simprocAttr,hn,k2]
 refine iA (fun k3=> ?_) (fun k3=> ?_)
 ·simp(disch:=omega) only[↓RA,RZ,simprocAttr,hn,qI,k3]
  refine hS9.ag [I n,_] a4j a4q rfl rfl (by simp[Value.cells]) rfl rfl (by decide) (by decide) fun w5 H14 hS14=> ?_
  simp only[RT]at hS14
  simp(disch:=omega) only[↓RA,RZ,simprocAttr,hn,g0,hS14.ld 1 rfl,hk,k3]
  ·have hm1:((n:Int)+1).tmod rks.length=(((n+1)%rks.length:Nat):Int):=(eh (n+1) _).symm
   have hm2:(n+1)%rks.length<rks.length:=eM _ h0
   generalize hm:(n+1)%rks.length=m at hm1 hm2
   simp(disch:=omega) only[↓RA,RZ,simprocAttr,hn,(hS14.sl hr).len,k3,hm1]
   refine Wp.drw jW (by kernel_rfl) ?_
   simp(disch:=omega) only[↓RA,RZ,simprocAttr,hn]
   simp(disch:=omega) only[↓RA,RZ,simprocAttr,hn,g0,hS14.ai 4 rfl,(hS14.sl hr).idx,(hS14.sl hr).bb,(hS14.sl hr).cE 2,Rk.cells]
   refine iG (a4d (hS14.gl hG) (a:=iB kY (p.feet%6)) (b:=((iB rks m).num,(iB rks m).den)) (iD (eM _ (by decide))) (hf m hm2)) ?_
   rintro r H15⟨⟨ot,rfl,ht1,ht2⟩,hT3⟩
   have hS15:=hS14.trans hT3
   simp only[RT]at hS15
   simp(disch:=omega) only[↓RA,RB,simprocAttr,hn,qI]
   refine hS15.ag [I m,I ot] a4j a4q rfl rfl (by simp[Value.cells]) rfl rfl (by decide) (by decide) fun w6 H16 hS16=> ?_
   simp only[RT]at hS16
   simp(disch:=omega) only[↓RA,RZ,simprocAttr,hn,hS16.ld 0 rfl]
   have d2:kT rks.length [⟨m,ot⟩]=0:=b0H _ _ _ (by omega) (by omega) (by omega) (by omega)
   refine iA (fun ka=> ?_) (fun ka=> ?_)
   ·simp(disch:=omega) only[↓RA,RZ,simprocAttr,hn,hS16.ld 4 rfl,hS16.ld 0 rfl,ka]
    simp(disch:=omega) only[↓RA,RZ,simprocAttr,hn,lJ (hS16.rd 5 rfl).cells,ka]
    refine hS16.ag [I lo,I (lo+q-1),w2] pV wE rfl rfl (by first|(simp[];done)|simp[Value.cells]) (by first|(simp[];done)|simp[Value.cells]) (by simp[OC,(hS16.rd 5 rfl).cells.2.1]) (by decide) (by decide) fun w7 H17 hS17=> ?_
    simp only[RT]at hS17
    simp(disch:=omega) only[↓RA,RZ,simprocAttr,hn,ka]
    have hS18:=hS17.nil 2
    simp only[RT]at hS18
    refine hS18.aq 9 rfl (hS18.rd 8 rfl) pV (by first|(simp;done)|(simp;omega)) fun w8 H18 hS19=> ?_
    simp only[RT]at hS19
    simp(disch:=omega) only[↓RA,RZ,simprocAttr,hn,ka]
    refine hS19.aa 4 rfl [w8] (by rw[(hS19.rd 9 rfl).cells.1]) (by simp[(hS19.rd 9 rfl).cells.2.1]) wB (by simp) fun H19 hS20=> ?_
    simp only[RT]at hS20
    simp(disch:=omega) only[↓RA,RZ,simprocAttr,hn,hS20.ld 4 rfl,hS20.ld 0 rfl,lJ (hS20.rd 7 rfl).cells,ka]
    refine hS20.ag [I (lo+q),I hi,w6] pV wE rfl rfl (by first|(simp[];done)|simp[Value.cells]) (by first|(simp[];done)|simp[Value.cells]) (by simp[OC,(hS20.rd 7 rfl).cells.2.1]) (by decide) (by decide) fun w9 H20 hS21=> ?_
    simp only[RT]at hS21
    simp(disch:=omega) only[↓RA,RZ,simprocAttr,hn,ka]
    refine hS21.aq 9 rfl (hS21.rd 10 rfl) pV (by first|(simp;done)|(simp;omega)) fun w10 H21 hS22=> ?_
    simp only[RT]at hS22
    simp(disch:=omega) only[↓RA,RZ,simprocAttr,hn,ka]
    refine hS22.aa 4 rfl [w10] (by rw[(hS22.rd 9 rfl).cells.1]) (by simp[(hS22.rd 9 rfl).cells.2.1]) wB (by simp) fun H22 hS23=> ?_
    simp only[RT]at hS23
    simp(disch:=omega) only[↓RA,RZ,simprocAttr,hn,hS23.ai 4 rfl,ka]
    refine hS23.aa 2 rfl [(.string ⟨#[83,UInt8.ofNat (48+(i:Int)).toNat]⟩),I (iB kY (p.feet%6)).1,I (iB kY (p.feet%6)).2,w10] rfl (by simp[OC,(hS23.rd 9 rfl).cells.2.1]) oA (by simp) fun H23 hS24=> ?_
    simp only[RT]at hS24
    simp(disch:=omega) only[↓RA,RZ,simprocAttr,hn,b0a,hS24.ai 2 rfl,ka]
    exact fin _ ⟨_,_,_,w10,[⟨lo,lo+q-1,w2,[⟨n,sh⟩]⟩,⟨lo+q,hi,w6,[⟨m,ot⟩]⟩]⟩ rfl rfl rfl (c5S hS24 5 7 9 rfl rfl rfl (by simp) (by simp) _ _ _) (by simp) (by simp) (c1n _ _ _ _ _ _ _ _ (by omega) (by omega) d1 d2) hS24.forget
   simp(disch:=omega) only[↓RA,RZ,simprocAttr,hn,hS16.ld 4 rfl,hS16.ld 0 rfl,lJ (hS16.rd 7 rfl).cells,ka]
   refine hS16.ag [I (lo+q),I hi,w6] pV wE rfl rfl (by first|(simp[];done)|simp[Value.cells]) (by first|(simp[];done)|simp[Value.cells]) (by simp[OC,(hS16.rd 7 rfl).cells.2.1]) (by decide) (by decide) fun w11 H24 hS25=> ?_
   simp only[RT]at hS25
   simp(disch:=omega) only[↓RA,RZ,simprocAttr,hn,ka]
   have hS26:=hS25.nil 2
   simp only[RT]at hS26
   refine hS26.aq 9 rfl (hS26.rd 8 rfl) pV (by first|(simp;done)|(simp;omega)) fun w12 H25 hS27=> ?_
   simp only[RT]at hS27
   simp(disch:=omega) only[↓RA,RZ,simprocAttr,hn,ka]
   refine hS27.aa 4 rfl [w12] (by rw[(hS27.rd 9 rfl).cells.1]) (by simp[(hS27.rd 9 rfl).cells.2.1]) wB (by simp) fun H26 hS28=> ?_
   simp only[RT]at hS28
   simp(disch:=omega) only[↓RA,RZ,simprocAttr,hn,hS28.ai 4 rfl,ka]
   refine hS28.aa 2 rfl [(.string ⟨#[83,UInt8.ofNat (48+(i:Int)).toNat]⟩),I (iB kY (p.feet%6)).1,I (iB kY (p.feet%6)).2,w12] rfl (by simp[OC,(hS28.rd 9 rfl).cells.2.1]) oA (by simp) fun H27 hS29=> ?_
   simp only[RT]at hS29
   simp(disch:=omega) only[↓RA,RZ,simprocAttr,hn,b0a,hS29.ai 2 rfl,ka]
   exact fin _ ⟨_,_,_,w12,[⟨lo+q,hi,w6,[⟨m,ot⟩]⟩]⟩ rfl rfl rfl (b6Y hS29 7 9 rfl rfl (by simp) _ _ _) (by simp) (by simp) (a8e _ _ _ _ _ _ _ (by omega) (by omega) (by omega) d2) hS29.forget
 simp(disch:=omega) only[↓RA,RZ,simprocAttr,hn,k2,k3]
 refine iA (fun k4=> ?_) (fun k4=> ?_)
 ·simp(disch:=omega) only[↓RA,RZ,simprocAttr,hn,qI,k4]
  refine hS9.ag [I n,_] a4j a4q rfl rfl (by simp[Value.cells]) rfl rfl (by decide) (by decide) fun w13 H28 hS30=> ?_
  simp only[RT]at hS30
  simp(disch:=omega) only[↓RA,RZ,simprocAttr,hn,hS30.ld 1 rfl,hk,k4]
  simp(disch:=omega) only[↓RA,RZ,simprocAttr,hn,hS30.ld 0 rfl,k4]
  have d2:kT rks.length [⟨n,sh-12⟩]=0:=b0H _ _ _ (by omega) (by omega) (by omega) (by omega)
  refine iA (fun ka=> ?_) (fun ka=> ?_)
  ·simp(disch:=omega) only[↓RA,RZ,simprocAttr,hn,hS30.ld 4 rfl,hS30.ld 0 rfl,k4,ka]
   simp(disch:=omega) only[↓RA,RZ,simprocAttr,hn,lJ (hS30.rd 5 rfl).cells,k4,ka]
   refine hS30.ag [I lo,I (lo+q-1),w2] pV wE rfl rfl (by first|(simp[];done)|simp[Value.cells]) (by first|(simp[];done)|simp[Value.cells]) (by simp[OC,(hS30.rd 5 rfl).cells.2.1]) (by decide) (by decide) fun w14 H29 hS31=> ?_
   simp only[RT]at hS31
   simp(disch:=omega) only[↓RA,RZ,simprocAttr,hn,k4,ka]
   have hS32:=hS31.nil 2
   simp only[RT]at hS32
   refine hS32.aq 8 rfl (hS32.rd 7 rfl) pV (by first|(simp;done)|(simp;omega)) fun w15 H30 hS33=> ?_
   simp only[RT]at hS33
   simp(disch:=omega) only[↓RA,RZ,simprocAttr,hn,k4,ka]
   refine hS33.aa 4 rfl [w15] (by rw[(hS33.rd 8 rfl).cells.1]) (by simp[(hS33.rd 8 rfl).cells.2.1]) wB (by simp) fun H31 hS34=> ?_
   simp only[RT]at hS34
   simp(disch:=omega) only[↓RA,RZ,simprocAttr,hn,hS34.ld 4 rfl,hS34.ld 0 rfl,lJ (hS34.rd 6 rfl).cells,k4,ka]
   refine hS34.ag [I (lo+q),I hi,w13] pV wE rfl rfl (by first|(simp[];done)|simp[Value.cells]) (by first|(simp[];done)|simp[Value.cells]) (by simp[OC,(hS34.rd 6 rfl).cells.2.1]) (by decide) (by decide) fun w16 H32 hS35=> ?_
   simp only[RT]at hS35
   simp(disch:=omega) only[↓RA,RZ,simprocAttr,hn,k4,ka]
   refine hS35.aq 8 rfl (hS35.rd 9 rfl) pV (by first|(simp;done)|(simp;omega)) fun w17 H33 hS36=> ?_
   simp only[RT]at hS36
   simp(disch:=omega) only[↓RA,RZ,simprocAttr,hn,k4,ka]
   refine hS36.aa 4 rfl [w17] (by rw[(hS36.rd 8 rfl).cells.1]) (by simp[(hS36.rd 8 rfl).cells.2.1]) wB (by simp) fun H34 hS37=> ?_
   simp only[RT]at hS37
   simp(disch:=omega) only[↓RA,RZ,simprocAttr,hn,hS37.ai 4 rfl,k4,ka]
   refine hS37.aa 2 rfl [(.string ⟨#[83,UInt8.ofNat (48+(i:Int)).toNat]⟩),I (iB kY (p.feet%6)).1,I (iB kY (p.feet%6)).2,w17] rfl (by simp[OC,(hS37.rd 8 rfl).cells.2.1]) oA (by simp) fun H35 hS38=> ?_
   simp only[RT]at hS38
   simp(disch:=omega) only[↓RA,RZ,simprocAttr,hn,b0a,hS38.ai 2 rfl,k4,ka]
   exact fin _ ⟨_,_,_,w17,[⟨lo,lo+q-1,w2,[⟨n,sh⟩]⟩,⟨lo+q,hi,w13,[⟨n,sh-12⟩]⟩]⟩ rfl rfl rfl (c5S hS38 5 6 8 rfl rfl rfl (by simp) (by simp) _ _ _) (by simp) (by simp) (c1n _ _ _ _ _ _ _ _ (by omega) (by omega) d1 d2) hS38.forget
  simp(disch:=omega) only[↓RA,RZ,simprocAttr,hn,hS30.ld 4 rfl,hS30.ld 0 rfl,lJ (hS30.rd 6 rfl).cells,k4,ka]
  refine hS30.ag [I (lo+q),I hi,w13] pV wE rfl rfl (by first|(simp[];done)|simp[Value.cells]) (by first|(simp[];done)|simp[Value.cells]) (by simp[OC,(hS30.rd 6 rfl).cells.2.1]) (by decide) (by decide) fun w18 H36 hS39=> ?_
  simp only[RT]at hS39
  simp(disch:=omega) only[↓RA,RZ,simprocAttr,hn,k4,ka]
  have hS40:=hS39.nil 2
  simp only[RT]at hS40
  refine hS40.aq 8 rfl (hS40.rd 7 rfl) pV (by first|(simp;done)|(simp;omega)) fun w19 H37 hS41=> ?_
  simp only[RT]at hS41
  simp(disch:=omega) only[↓RA,RZ,simprocAttr,hn,k4,ka]
  refine hS41.aa 4 rfl [w19] (by rw[(hS41.rd 8 rfl).cells.1]) (by simp[(hS41.rd 8 rfl).cells.2.1]) wB (by simp) fun H38 hS42=> ?_
  simp only[RT]at hS42
  simp(disch:=omega) only[↓RA,RZ,simprocAttr,hn,hS42.ai 4 rfl,k4,ka]
  refine hS42.aa 2 rfl [(.string ⟨#[83,UInt8.ofNat (48+(i:Int)).toNat]⟩),I (iB kY (p.feet%6)).1,I (iB kY (p.feet%6)).2,w19] rfl (by simp[OC,(hS42.rd 8 rfl).cells.2.1]) oA (by simp) fun H39 hS43=> ?_
  simp only[RT]at hS43
  simp(disch:=omega) only[↓RA,RZ,simprocAttr,hn,b0a,hS43.ai 2 rfl,k4,ka]
  exact fin _ ⟨_,_,_,w19,[⟨lo+q,hi,w13,[⟨n,sh-12⟩]⟩]⟩ rfl rfl rfl (b6Y hS43 6 8 rfl rfl (by simp) _ _ _) (by simp) (by simp) (a8e _ _ _ _ _ _ _ (by omega) (by omega) (by omega) d2) hS43.forget
 simp(disch:=omega) only[↓RA,RZ,simprocAttr,hn,k2,k3,k4]
 refine iA (fun k5=> ?_) (fun k5=> ?_)
 ·simp(disch:=omega) only[↓RA,RZ,simprocAttr,hn,hS9.ld 0 rfl,lJ (hS9.rd 5 rfl).cells,k5]
  refine hS9.ag [I (lo+q),I hi,w2] pV wE rfl rfl (by first|(simp[];done)|simp[Value.cells]) (by first|(simp[];done)|simp[Value.cells]) (by simp[OC,(hS9.rd 5 rfl).cells.2.1]) (by decide) (by decide) fun w20 H40 hS44=> ?_
  simp only[RT]at hS44
  simp(disch:=omega) only[↓RA,RZ,simprocAttr,hn,k5]
  refine hS44.aa 4 rfl [w20] (by rw[(hS44.rd 6 rfl).cells.1]) (by simp[(hS44.rd 6 rfl).cells.2.1]) wB (by simp) fun H41 hS45=> ?_
  simp only[RT]at hS45
  simp(disch:=omega) only[↓RA,RZ,simprocAttr,hn,hS45.ai 4 rfl,k5]
  refine hS45.aa 2 rfl [(.string ⟨#[83,UInt8.ofNat (48+(i:Int)).toNat]⟩),I (iB kY (p.feet%6)).1,I (iB kY (p.feet%6)).2,w20] rfl (by simp[OC,(hS45.rd 6 rfl).cells.2.1]) oA (by simp) fun H42 hS46=> ?_
  simp only[RT]at hS46
  simp(disch:=omega) only[↓RA,RZ,simprocAttr,hn,b0a,hS46.ai 2 rfl,k5]
  exact fin _ ⟨_,_,_,w20,[⟨lo+q,hi,w2,[⟨n,sh⟩]⟩]⟩ rfl rfl rfl (b6Y hS46 5 6 rfl rfl (by simp) _ _ _) (by simp) (by simp) (a8e _ _ _ _ _ _ _ (by omega) (by omega) (by omega) d1) hS46.forget
 simp(disch:=omega) only[↓RA,RZ,simprocAttr,hn,hS9.ld 0 rfl,lJ (hS9.rd 5 rfl).cells,k2,k3,k4,k5]
 refine hS9.ag [I lo,I hi,w2] pV wE rfl rfl (by first|(simp[];done)|simp[Value.cells]) (by first|(simp[];done)|simp[Value.cells]) (by simp[OC,(hS9.rd 5 rfl).cells.2.1]) (by decide) (by decide) fun w21 H43 hS47=> ?_
 simp only[RT]at hS47
 simp(disch:=omega) only[↓RA,RZ,simprocAttr,hn,k2,k3,k4,k5]
 refine hS47.aa 4 rfl [w21] (by rw[(hS47.rd 6 rfl).cells.1]) (by simp[(hS47.rd 6 rfl).cells.2.1]) wB (by simp) fun H44 hS48=> ?_
 simp only[RT]at hS48
 simp(disch:=omega) only[↓RA,RZ,simprocAttr,hn,hS48.ai 4 rfl,k2,k3,k4,k5]
 refine hS48.aa 2 rfl [(.string ⟨#[83,UInt8.ofNat (48+(i:Int)).toNat]⟩),I (iB kY (p.feet%6)).1,I (iB kY (p.feet%6)).2,w21] rfl (by simp[OC,(hS48.rd 6 rfl).cells.2.1]) oA (by simp) fun H45 hS49=> ?_
 simp only[RT]at hS49
 simp(disch:=omega) only[↓RA,RZ,simprocAttr,hn,b0a,hS49.ai 2 rfl,k2,k3,k4,k5]
 exact fin _ ⟨_,_,_,w21,[⟨lo,hi,w2,[⟨n,sh⟩]⟩]⟩ rfl rfl rfl (b6Y hS49 5 6 rfl rfl (by simp) _ _ _) (by simp) (by simp) (a8e _ _ _ _ _ _ _ (by omega) hle (by omega) d1) hS49.forget
structure Brd where
 low:Nat
 keys:Nat
 pedal:Bool
 sv:Value
 stops:List Pul
 deriving Inhabited
structure Lnk where
 src:Nat
 dst:Nat
 shift:Int
 thr:Bool
 deriving Inhabited
structure Pln where
 rv:Value
 ranks:List RPl
 dv:Value
 dvs:List Brd
 cv:Value
 cpls:List Lnk
 deriving Inhabited
def Brd.cells(b:Brd):List Value:=[.int .u8 b.low,.int .u8 b.keys,.bool b.pedal,b.sv]
def Lnk.cells(l:Lnk):List Value:=[.int .u8 l.src,.int .u8 l.dst,.int .i8 l.shift,.bool l.thr]
def Pln.cells(p:Pln):List Value:=[p.rv,p.dv,p.cv]
def Brd.In(H:Heap)(b:Brd):Prop:=Sl 4 Pul.cells H b.sv b.stops∧b.stops.length<9223372036854775808
def Pln.In(H:Heap)(p:Pln):Prop:=Sl 9 RPl.cells H p.rv p.ranks∧Sl 4 Brd.cells H p.dv p.dvs∧(∀b∈p.dvs,b.In H)∧Sl 4 Lnk.cells H p.cv p.cpls∧p.ranks.length<9223372036854775808∧p.dvs.length<9223372036854775808∧p.cpls.length<9223372036854775808
def Brd.Ok(b:Brd):Prop:=b.low<256∧b.keys<256∧∀s∈b.stops,s.Ok
def Lnk.Ok(l:Lnk):Prop:=l.src<256∧l.dst<256∧-128≤l.shift∧l.shift<128
def Pln.Ok(p:Pln):Prop:=(∀r∈p.ranks,r.Ok)∧(∀b∈p.dvs,b.Ok)∧∀l∈p.cpls,l.Ok
theorem Brd.In.ak{H0:Heap}{os:List Ob}{b:Brd}(h:b.In H0)(hS:St P H0 H os):b.In H:=⟨hS.sl h.1,h.2⟩
theorem Pln.In.ak{H0:Heap}{os:List Ob}{p:Pln}(h:p.In H0)(hS:St P H0 H os):p.In H:=⟨hS.sl h.1,hS.sl h.2.1,fun b hb=>(h.2.2.1 b hb).ak hS,hS.sl h.2.2.2.1,h.2.2.2.2⟩
def vZ(p:Pln):Bool:=decide (1≤p.ranks.length)&&decide (p.ranks.length≤3)&&decide (1≤p.dvs.length)&&decide (p.dvs.length≤3)&&decide (p.cpls.length≤3)&&p.dvs.all fun b=>decide (b.stops.length≤3)
theorem c0j(p:Pln)(hp:p.In H):Fn prog 7 [.agg #[p.rv,p.dv,p.cv]] H fun r H'=>r=.bool (vZ p)∧St prog H H' []:=by
 have hl1:=hp.2.2.2.2.1
 have hl2:=hp.2.2.2.2.2.1
 have hl3:=hp.2.2.2.2.2.2
 have no:¬(1≤p.ranks.length∧p.ranks.length≤3∧1≤p.dvs.length∧p.dvs.length≤3∧p.cpls.length≤3)→vZ p=false:=fun hh=>by
  rw[←dX]
  unfold vZ
  simp only[cU,decide_eq_true_eq]
  exact fun h=>hh ⟨h.1.1.1.1.1,h.1.1.1.1.2,h.1.1.1.2,h.1.1.2,h.1.2⟩
 refine .aT func7 rfl (by kernel_rfl) (m:=47) rfl fun l hn g0=> ?_
 simp(disch:=omega) only[↓RA,RB,simprocAttr,g0]
 refine(sR H).eNew 3 [p.rv,p.dv,p.cv] rfl rfl (by simp[((sR H).sl hp.1).cells.2.1,((sR H).sl hp.2.1).cells.2.1,((sR H).sl hp.2.2.2.1).cells.2.1]) b8U fun A1 H1 hS1=> ?_
 simp only[RT]at hS1
 simp(disch:=omega) only[↓RA,RZ,simprocAttr,hn,hS1.ld 0 rfl,(hS1.sl hp.1).len]
 refine iN (fun h1=> ?_) (fun h1=> ?_)
 ·simp(disch:=omega) only[↓RA,RZ,simprocAttr,hn,tR7,h1]
  exact⟨by rw[no (by omega)],hS1.forget⟩
 simp(disch:=omega) only[↓RA,RZ,simprocAttr,hn,hS1.ld 0 rfl,(hS1.sl hp.1).len,h1]
 refine iN (fun h2=> ?_) (fun h2=> ?_)
 ·simp(disch:=omega) only[↓RA,RZ,simprocAttr,hn,tR7,h1,h2]
  exact⟨by rw[no (by omega)],hS1.forget⟩
 simp(disch:=omega) only[↓RA,RZ,simprocAttr,hn,hS1.ld 0 rfl,(hS1.sl hp.2.1).len,h1,h2]
 refine iN (fun h3=> ?_) (fun h3=> ?_)
 ·simp(disch:=omega) only[↓RA,RZ,simprocAttr,hn,tR7,h1,h2,h3]
  exact⟨by rw[no (by omega)],hS1.forget⟩
 simp(disch:=omega) only[↓RA,RZ,simprocAttr,hn,hS1.ld 0 rfl,(hS1.sl hp.2.1).len,h1,h2,h3]
 refine iN (fun h4=> ?_) (fun h4=> ?_)
 ·simp(disch:=omega) only[↓RA,RZ,simprocAttr,hn,tR7,h1,h2,h3,h4]
  exact⟨by rw[no (by omega)],hS1.forget⟩
 simp(disch:=omega) only[↓RA,RZ,simprocAttr,hn,hS1.ld 0 rfl,(hS1.sl hp.2.2.2.1).len,h1,h2,h3,h4]
 refine iA (fun h5=> ?_) (fun h5=> ?_)
 ·simp(disch:=omega) only[↓RA,RZ,simprocAttr,hn,tR7,h1,h2,h3,h4,h5]
  exact⟨by rw[no (by omega)],hS1.forget⟩
 simp(disch:=omega) only[↓RA,RZ,simprocAttr,h1,h2,h3,h4,h5]
 have hE:vZ p=p.dvs.all fun b=>decide (b.stops.length≤3):=by
  unfold vZ
  rw[decide_eq_true (by omega),decide_eq_true (by omega),decide_eq_true (by omega),decide_eq_true (by omega),decide_eq_true (by omega)]
  rfl
 clear no
 refine Wp.aj (fun n l H'=>l.length=47∧get l 1=(ptr A1 0 3)∧∃(i:Nat),(n+i=p.dvs.length∧∀j,j<i→(iB p.dvs j).stops.length≤3)∧get l 3=I i∧St prog H H' [⟨ptr A1 0 3,0,[p.rv,p.dv,p.cv]⟩]) p.dvs.length ?_ ?_
 ·simp(disch:=omega) only[RB,RC,simprocAttr,hn]
  exact⟨0,⟨by omega,fun j hj=>absurd hj (dL _)⟩,rfl,hS1⟩
 rintro n l H2⟨hn,g1,i,⟨hi,hz⟩,g3,hS2⟩
 have hst:∀h:i<p.dvs.length,(iB p.dvs i).stops.length<9223372036854775808:=fun h=>(hp.2.2.1 _ (iD h)).2
 simp(disch:=omega) only[↓RA,RZ,simprocAttr,hn,g1,g3,hS2.ld 0 rfl,(hS2.sl hp.2.1).len]
 refine iA (fun q1=> ?_) (fun q1=> ?_)
 ·have hst:=hst (by omega)
  simp(disch:=omega) only[↓RA,RZ,simprocAttr,hn,g1,g3,hS2.ld 0 rfl,(hS2.sl hp.2.1).idx,(hS2.sl hp.2.1).bb,(hS2.sl hp.2.1).ld,Brd.cells,(hS2.sl (hp.2.2.1 (iB p.dvs i) (iD (by omega))).1).len,q1]
  refine iA (fun q2=> ?_) (fun q2=> ?_)
  ·simp(disch:=omega) only[↓RA,RZ,simprocAttr,hn,tR7,q1,q2]
   refine⟨?_,hS2.forget⟩
   rw[hE]
   congr 1
   symm
   rw[←dX,dj]
   intro hh
   have:=of_decide_eq_true (hh _ (iD (xs:=p.dvs) (j:=i) (by omega)))
   omega
  simp(disch:=omega) only[↓RA,RZ,simprocAttr,hn,g1,g3,q1,q2]
  exact⟨n-1,by omega,i+1,⟨by omega,fun j hj=>by rcases dm.1 hj with e|e;(· exact hz j e);(· rw[e];omega)⟩,by simp,hS2.sub (by simp)⟩
 simp(disch:=omega) only[↓RA,RZ,simprocAttr,hn,tR7,q1]
 refine⟨?_,hS2.forget⟩
 rw[hE]
 congr 1
 symm
 rw[dj]
 intro x hx
 obtain⟨j,hj,rfl⟩:=dO.1 hx
 rw[←kC p.dvs j hj]
 exact decide_eq_true (hz j (by omega))
end Go.Ds
namespace Go.Ds
open Go.Proofs Go.Proofs.Tryz
variable {H:Heap}
set_option maxRecDepth 10000
theorem c0s{α:Type}[Inhabited α](l:List α)(x:α)(j:Nat):iB (l++[x]) j=if j=l.length then x else iB l j:=by
 unfold iB
 rw[cY,cY]
 split
 ·rename_i h
  subst h
  simp
 ·rename_i h
  rcases fL h with h|h
  ·rw[ey h]
  ·rw[ed (by simp;omega),ed (by omega)]
theorem vN{α:Type}[Inhabited α]{l:List α}{x:α}{Q:Nat→α→Prop}(h:∀j,j<l.length→Q j (iB l j))(hx:Q l.length x):∀j,j<(l++[x]).length→Q j (iB (l++[x]) j):=by
 intro j hj
 rw[c0s]
 split
 ·rename_i e;rw[e];exact hx
 ·simp at hj;exact h j (by omega)
theorem a5B{α:Type}{l:List α}{x:α}{Q:α→Prop}(h:∀y∈l,Q y)(hx:Q x):∀y∈l++[x],Q y:=by
 intro y hy
 rcases dE.1 hy with hy|hy
 ·exact h y hy
 ·rw[dH.1 hy];exact hx
theorem sH{α:Type}(l:List α)(x:α)(f:α→List Value):(l++[x]).flatMap f=l.flatMap f++f x:=by
 rw[dz,du,ez,di]
theorem b7W(a:Int): -24≤a.tmod 25∧a.tmod 25≤24:=by
 have h:=Int.natAbs_tmod a 25
 have h2:(25:Int).natAbs=25:=rfl
 rw[h2]at h
 have:a.natAbs%25<25:=eM _ (by decide)
 omega
structure Made(p:Pln)(o:Org):Prop where
 ok:OrgOk o
 rlen:o.ranks.length=p.ranks.length
 dlen:o.dvs.length=p.dvs.length
 clen:o.cpls.length=p.cpls.length
 slen:∀j,j<p.dvs.length→(iB o.dvs j).stops.length=(iB p.dvs j).stops.length
theorem b2X(hG:Glob gH H)(p:Pln)(hp:p.In H)(hk:p.Ok)(hf:vZ p=true):Fn prog 8 [.agg #[p.rv,p.dv,p.cv]] H fun r H'=>
 ∃o:Org,r=.agg #[.string o.name,o.rv,o.dv,o.cv]∧o.In H'∧Made p o∧St prog H H' []:=by
 have hl1:=hp.2.2.2.2.1
 have hl2:=hp.2.2.2.2.2.1
 have hl3:=hp.2.2.2.2.2.2
 unfold vZ at hf
 simp only[cU,decide_eq_true_eq,dj]at hf
 obtain⟨⟨⟨⟨⟨f1,f2⟩,f3⟩,f4⟩,f5⟩,f6⟩:=hf
 refine .aT func8 rfl (by kernel_rfl) (m:=153) rfl fun l hn g0=> ?_
 simp(disch:=omega) only[↓RA,RB,simprocAttr,g0]
 refine(sR H).eNew 3 [p.rv,p.dv,p.cv] rfl rfl (by simp[((sR H).sl hp.1).cells.2.1,((sR H).sl hp.2.1).cells.2.1,((sR H).sl hp.2.2.2.1).cells.2.1]) b8U fun A1 H1 hS1=> ?_
 simp only[RT]at hS1
 simp(disch:=omega) only[↓RA,RZ,simprocAttr]
 refine hS1.eNew 4 [(.string ⟨#[]⟩),(.slice none 0 0),(.slice none 0 0),(.slice none 0 0)] rfl rfl rfl mX fun A2 H2 hS2=> ?_
 simp only[RT]at hS2
 simp(disch:=omega) only[↓RA,RZ,simprocAttr,c2h]
 refine hS2.eNew 4 [(.string ⟨#[]⟩),(.slice none 0 0),(.slice none 0 0),(.slice none 0 0)] rfl rfl rfl mX fun A3 H3 hS3=> ?_
 simp only[RT]at hS3
 simp(disch:=omega) only[↓RA,RB,simprocAttr,hn]
 refine hS3.aa 2 rfl [(.string ⟨#[79,114,103,97,110]⟩),(.slice none 0 0),(.slice none 0 0),(.slice none 0 0)] rfl rfl mX (by simp) fun H4 hS4=> ?_
 simp only[RT]at hS4
 simp(disch:=omega) only[↓RA,RB,simprocAttr]
 have hS5:=hS4.nil 5
 simp only[RT]at hS5
 refine Wp.aj (fun n l H'=>l.length=153∧get l 1=(ptr A1 0 3)∧get l 2=(ptr A2 0 4)∧get l 3=(ptr A3 0 4)∧∃(i:Nat)(rks:List Rk)(rv:Value),(n+i=p.ranks.length∧rks.length=i∧(∀j,j<rks.length→RkOk j (iB rks j))∧∀r∈rks,r.Ix H' (nb [ptr A1 0 3,ptr A2 0 4,ptr A3 0 4,rv]))∧get l 4=I i∧St prog H H' [⟨ptr A1 0 3,0,[p.rv,p.dv,p.cv]⟩,⟨ptr A2 0 4,0,[(.string ⟨#[]⟩),(.slice none 0 0),(.slice none 0 0),(.slice none 0 0)]⟩,⟨ptr A3 0 4,0,[.string ⟨#[79,114,103,97,110]⟩,rv,.slice none 0 0,.slice none 0 0]⟩,⟨rv,6,rks.flatMap Rk.cells⟩]) p.ranks.length ?_ ?_
 ·simp(disch:=omega) only[RB,RC,simprocAttr,hn]
  exact⟨0,[],.slice none 0 0,⟨by omega,rfl,fun j hj=>absurd hj (dL _),by simp⟩,rfl,hS5⟩
 rintro n l H5⟨hn,g1,g2,g3,i,rks,rv,⟨hi,hrl,hro,hrx⟩,g4,hS6⟩
 simp(disch:=omega) only[↓RA,RZ,simprocAttr,hn,g1,g4,hS6.ld 0 rfl,(hS6.sl hp.1).len]
 refine iA (fun q1=> ?_) (fun q1=> ?_)
 ·obtain⟨B,hBB,hS7⟩:=hS6.aB (os:=[⟨ptr A1 0 3,0,_⟩,⟨ptr A2 0 4,0,_⟩,⟨ptr A3 0 4,0,_⟩,⟨rv,6,_⟩])
  simp(disch:=omega) only[↓RA,RC,simprocAttr,q1]
  refine Wp.aQ jW [(1,9),(1,10)] (by kernel_rfl) (by kernel_rfl) ?_
  simp(disch:=omega) only[↓RA,RZ,simprocAttr,hn,g1,g3,g4,hS7.ld 2 rfl,hS7.ld 0 rfl,((hS6.ab hBB hS7).sl hp.1).idx,((hS6.ab hBB hS7).sl hp.1).ai,RPl.cells]
  refine iG (b4c (iB p.ranks i) (hk.1 _ (iD (by omega))) i (by omega)) ?_
  rintro r H6⟨wv,rfl,hT1⟩
  have hS8:=hS7.trans hT1
  simp only[RT]at hS8
  have hwe:(List.range (1+(iB p.ranks i).pipes%25)).map (fun j=>I ((iB p.ranks i).wind j))=((List.range (1+(iB p.ranks i).pipes%25)).map fun j=>(((iB p.ranks i).wind j:Nat):Int)).flatMap (one I):=by rw[yC,List.map_map];rfl
  rw[hwe]at hS8
  simp(disch:=omega) only[↓RA,RB,simprocAttr,hn]
  refine hS8.ag [(.string ⟨#[82,UInt8.ofNat (48+i)]⟩),(.string (iB tP ((iB p.ranks i).tone%3))),I (iB lA ((iB p.ranks i).feet%16)).1,I (iB lA ((iB p.ranks i).feet%16)).2,I (iB p.ranks i).first,wv] c1W c6p rfl rfl (by first|(simp[];done)|simp[Value.cells]) (by first|(simp[];done)|simp[Value.cells]) (by simp[OC,(hS8.rd 4 rfl).cells.2.1]) (by decide) (by decide) fun w1 H7 hS9=> ?_
  simp only[RT]at hS9
  simp(disch:=omega) only[↓RA,RZ,simprocAttr,hn]
  refine hS9.aq 3 rfl (hS9.rd 5 rfl) c1W (by rw[iL (n:=6) (cel:=Rk.cells) (fun _=>rfl)];simp;omega) fun w2 H8 hS10=> ?_
  simp only[RT]at hS10
  simp(disch:=omega) only[↓RA,RZ,simprocAttr,hn,g3]
  refine hS10.aa 2 rfl [w2] (by rw[(hS10.rd 3 rfl).cells.1]) (by simp[(hS10.rd 3 rfl).cells.2.1]) c6K (by simp) fun H9 hS11=> ?_
  simp only[RT]at hS11
  simp(disch:=omega) only[↓RA,RZ,simprocAttr,hn,g1,g2,g3,g4,hS8.ld 2 rfl,hS9.ld 2 rfl]
  have hxw:=hS11.cO (cel:=one I) (os':=[⟨ptr A1 0 3,0,_⟩,⟨ptr A2 0 4,0,_⟩,⟨ptr A3 0 4,0,_⟩,⟨w2,6,_⟩]) 4 rfl (fun _=>rfl) [0,1,2,3] (by decide) rfl
  have hS12:=hS11.pick (os':=[⟨ptr A1 0 3,0,_⟩,⟨ptr A2 0 4,0,_⟩,⟨ptr A3 0 4,0,_⟩,⟨w2,6,_⟩]) [0,1,2,3] (by decide) rfl
  have hkp:=hS12.kept hBB
  have hpo:=hk.1 _ (iD (xs:=p.ranks) (j:=i) (by omega))
  have hro1:RkOk rks.length ⟨nm 82 i,iB tP ((iB p.ranks i).tone%3),(iB lA ((iB p.ranks i).feet%16)).1,(iB lA ((iB p.ranks i).feet%16)).2,(iB p.ranks i).first,wv,(List.range (1+(iB p.ranks i).pipes%25)).map fun j=>(((iB p.ranks i).wind j:Nat):Int)⟩:=by
   refine⟨by rw[hrl],iD (eM _ (by decide)),iD (eM _ (by decide)),⟨hpo.2.2.1,hpo.2.2.2.1⟩,by simp;omega,by simp;omega,?_⟩
   intro x hx
   obtain⟨j,_,rfl⟩:=dr.1 hx
   have:=hpo.wind j
   omega
  refine⟨n-1,by omega,i+1,rks++[_],w2,⟨by omega,by simp[hrl],vN hro hro1,a5B (fun r hr=>(hrx r hr).step hkp) ⟨hxw,by simp;omega⟩⟩,by simp,?_⟩
  rw[sH]
  exact(hS6.ab hBB hS12)
 simp(disch:=omega) only[↓RA,RZ,simprocAttr,q1]
 have hri:rks.length=p.ranks.length:=by omega
 obtain⟨C,hBC,hS13⟩:=hS6.aB (os:=[⟨ptr A1 0 3,0,_⟩,⟨ptr A2 0 4,0,_⟩,⟨ptr A3 0 4,0,_⟩,⟨rv,6,_⟩])
 have hS14:=hS13.nil 4
 simp only[RT]at hS14
 refine Wp.aj (fun n l H'=>l.length=153∧get l 1=(ptr A1 0 3)∧get l 2=(ptr A2 0 4)∧get l 3=(ptr A3 0 4)∧∃(m:Nat)(dvs:List Dvn)(dv:Value),(n+m=p.dvs.length∧dvs.length=m∧(∀j,j<dvs.length→DvOk rks.length j (iB dvs j)∧(iB dvs j).stops.length=(iB p.dvs j).stops.length)∧∀d∈dvs,d.Ix H' (nb [ptr A1 0 3,ptr A2 0 4,ptr A3 0 4,rv,dv]))∧get l 5=I m∧St prog C H' [⟨ptr A1 0 3,0,[p.rv,p.dv,p.cv]⟩,⟨ptr A2 0 4,0,[(.string ⟨#[]⟩),(.slice none 0 0),(.slice none 0 0),(.slice none 0 0)]⟩,⟨ptr A3 0 4,0,[.string ⟨#[79,114,103,97,110]⟩,rv,dv,.slice none 0 0]⟩,⟨rv,6,rks.flatMap Rk.cells⟩,⟨dv,5,dvs.flatMap Dvn.cells⟩]) p.dvs.length ?_ ?_
 ·simp(disch:=omega) only[RB,RC,simprocAttr,hn,g1,g2,g3]
  exact⟨0,[],.slice none 0 0,⟨by omega,rfl,fun j hj=>absurd hj (dL _),by simp⟩,rfl,hS14⟩
 rintro n l H10⟨hn,g1,g2,g3,m,dvs,dv,⟨hm,hdl,hdo,hdx⟩,g5,hS15⟩
 simp(disch:=omega) only[↓RA,RZ,simprocAttr,hn,g1,g5,hS15.ld 0 rfl,((hS6.ab hBC hS15).sl hp.2.1).len]
 refine iA (fun q2=> ?_) (fun q2=> ?_)
 ·have hbk:=hk.2.1 _ (iD (xs:=p.dvs) (j:=m) (by omega))
  have hbi:=hp.2.2.1 _ (iD (xs:=p.dvs) (j:=m) (by omega))
  have hb6:=f6 _ (iD (xs:=p.dvs) (j:=m) (by omega))
  have t1:((iB p.dvs m).low:Int).tmod 12=(((iB p.dvs m).low%12:Nat):Int):=(eh _ _).symm
  have t2:((iB p.dvs m).keys:Int).tmod 9=(((iB p.dvs m).keys%9:Nat):Int):=(eh _ _).symm
  have hb1:=hbk.1
  have hb2:=hbk.2.1
  obtain⟨D,hBD,hS16⟩:=hS15.aB (os:=[⟨ptr A1 0 3,0,_⟩,⟨ptr A2 0 4,0,_⟩,⟨ptr A3 0 4,0,_⟩,⟨rv,6,_⟩,⟨dv,5,_⟩])
  simp(disch:=omega) only[↓RA,RZ,simprocAttr,hn,g1,g5,hS16.ld 0 rfl,((hS6.ab hBC (hS15.ab hBD hS16)).sl hp.2.1).idx,((hS6.ab hBC (hS15.ab hBD hS16)).sl hp.2.1).ai,Brd.cells,q2]
  refine hS16.eNew 4 [(.int .u8 0),(.int .u8 0),(.bool false),(.slice none 0 0)] rfl rfl rfl b1r fun A4 H11 hS17=> ?_
  simp only[RT]at hS17
  simp(disch:=omega) only[↓RA,RZ,simprocAttr,hn,q2]
  refine hS17.aa 5 rfl [(.int .u8 (iB p.dvs m).low),(.int .u8 (iB p.dvs m).keys),(.bool (iB p.dvs m).pedal),(iB p.dvs m).sv] rfl (by simp[OC,((hS6.ab hBC (hS15.ab hBD hS17)).sl (hp.2.2.1 (iB p.dvs m) (iD (by omega))).1).cells.2.1]) b1r (by simp) fun H12 hS18=> ?_
  simp only[RT]at hS18
  simp(disch:=omega) only[↓RA,RZ,simprocAttr,hn,g5,hS18.ld 5 rfl,q2,t1]
  refine hS18.ag [_] b1K b1z rfl rfl (by simp[Value.cells]) rfl rfl (by decide) (by decide) fun w3 H13 hS19=> ?_
  simp only[RT]at hS19
  simp(disch:=omega) only[↓RA,RZ,simprocAttr,hn,vP (hS19.rd 6 rfl) nM.1 nM.2.1 nM.2.2,sY,q2]
  simp(disch:=omega) only[↓RA,RZ,simprocAttr,hn,hS19.ld 5 rfl,q2,t2]
  simp(disch:=omega) only[↓RA,RZ,simprocAttr,hn,a7Z,a9x,q2]
  refine hS19.eNew 5 [(.string ⟨#[]⟩),(.bool false),I 0,I 0,(.slice none 0 0)] rfl rfl rfl a1g fun A5 H14 hS20=> ?_
  simp only[RT]at hS20
  simp(disch:=omega) only[↓RA,RZ,simprocAttr,hn,q2]
  refine hS20.aa 7 rfl [(.string ⟨#[68,UInt8.ofNat (48+(m:Int)).toNat]⟩),(.bool (iB p.dvs m).pedal),I (36+((iB p.dvs m).low%12:Nat)),I (36+((iB p.dvs m).low%12:Nat)+((iB p.dvs m).keys%9:Nat)),(.slice none 0 0)] rfl rfl a1g (by simp) fun H15 hS21=> ?_
  simp only[RT]at hS21
  simp(disch:=omega) only[↓RA,RZ,simprocAttr,q2]
  have hS22:=hS21.pick (os':=[⟨ptr A1 0 3,0,_⟩,⟨ptr A2 0 4,0,_⟩,⟨ptr A3 0 4,0,_⟩,⟨rv,6,_⟩,⟨dv,5,_⟩,⟨ptr A4 0 4,0,_⟩,⟨ptr A5 0 5,0,_⟩]) [0,1,2,3,4,5,7] (by decide) rfl
  have hS23:=hS22.nil 3
  simp only[RT]at hS23
  refine Wp.aj (fun n l H'=>l.length=153∧get l 1=(ptr A1 0 3)∧get l 2=(ptr A2 0 4)∧get l 3=(ptr A3 0 4)∧get l 5=I m∧get l 6=(ptr A4 0 4)∧get l 8=(ptr A5 0 5)∧∃(k:Nat)(sts:List Stp)(sv:Value),(n+k=(iB p.dvs m).stops.length∧sts.length=k∧(∀j,j<sts.length→StpOk rks.length (36+((iB p.dvs m).low%12:Nat)) (36+((iB p.dvs m).low%12:Nat)+((iB p.dvs m).keys%9:Nat)) j (iB sts j))∧∀s∈sts,s.Ix H' (nb [ptr A1 0 3,ptr A2 0 4,ptr A3 0 4,rv,dv,ptr A4 0 4,ptr A5 0 5,sv]))∧get l 9=I k∧St prog D H' [⟨ptr A1 0 3,0,[p.rv,p.dv,p.cv]⟩,⟨ptr A2 0 4,0,[(.string ⟨#[]⟩),(.slice none 0 0),(.slice none 0 0),(.slice none 0 0)]⟩,⟨ptr A3 0 4,0,[.string ⟨#[79,114,103,97,110]⟩,rv,dv,.slice none 0 0]⟩,⟨rv,6,rks.flatMap Rk.cells⟩,⟨dv,5,dvs.flatMap Dvn.cells⟩,⟨ptr A4 0 4,0,[(.int .u8 (iB p.dvs m).low),(.int .u8 (iB p.dvs m).keys),(.bool (iB p.dvs m).pedal),(iB p.dvs m).sv]⟩,⟨ptr A5 0 5,0,[.string ⟨#[68,UInt8.ofNat (48+(m:Int)).toNat]⟩,.bool (iB p.dvs m).pedal,I (36+((iB p.dvs m).low%12:Nat)),I (36+((iB p.dvs m).low%12:Nat)+((iB p.dvs m).keys%9:Nat)),sv]⟩,⟨sv,4,sts.flatMap Stp.cells⟩]) (iB p.dvs m).stops.length ?_ ?_
  ·simp(disch:=omega) only[RB,RC,simprocAttr,hn,g1,g2,g3,g5]
   exact⟨0,[],.slice none 0 0,⟨by omega,rfl,fun j hj=>absurd hj (dL _),by simp⟩,rfl,hS23⟩
  rintro n l H16⟨hn,g1,g2,g3,g5,g6,g8,k,sts,sv,⟨hj,hsl,hso,hsx⟩,g9,hS24⟩
  simp(disch:=omega) only[↓RA,RZ,simprocAttr,hn,g6,g9,hS24.ld 5 rfl,((hS6.ab hBC (hS15.ab hBD hS24)).sl (hp.2.2.1 (iB p.dvs m) (iD (by omega))).1).len]
  refine iA (fun q3=> ?_) (fun q3=> ?_)
  ·obtain⟨E,hBE,hS25⟩:=hS24.aB (os:=[⟨ptr A1 0 3,0,_⟩,⟨ptr A2 0 4,0,_⟩,⟨ptr A3 0 4,0,_⟩,⟨rv,6,_⟩,⟨dv,5,_⟩,⟨ptr A4 0 4,0,_⟩,⟨ptr A5 0 5,0,_⟩,⟨sv,4,_⟩])
   simp(disch:=omega) only[↓RA,RC,simprocAttr,q3]
   refine Wp.aQ jW [(1,13),(1,14)] (by kernel_rfl) (by kernel_rfl) ?_
   simp(disch:=omega) only[↓RA,RZ,simprocAttr,hn,g3,g6,g8,g9,hS25.ld 6 rfl,hS25.ld 2 rfl,hS25.ai 6 rfl,hS25.ld 5 rfl,((hS6.ab hBC (hS15.ab hBD (hS24.ab hBE hS25))).sl (hp.2.2.1 (iB p.dvs m) (iD (by omega))).1).idx,((hS6.ab hBC (hS15.ab hBD (hS24.ab hBE hS25))).sl (hp.2.2.1 (iB p.dvs m) (iD (by omega))).1).ai,Pul.cells]
   have hSb:=hS25
   refine iG (b8Y ((hS6.ab hBC (hS15.ab hBD (hS24.ab hBE hS25))).gl hG) rv rks (hS25.av 3 rfl (fun _=>rfl)) (by omega) (by omega) (fun j hj=>(hro j hj).feet) (36+((iB p.dvs m).low%12:Nat)) (36+((iB p.dvs m).low%12:Nat)+((iB p.dvs m).keys%9:Nat)) (by omega) (by omega) (by omega) (iB (iB p.dvs m).stops k) (hbk.2.2 _ (iD (by omega))) k (by omega)) ?_
   rintro r H17⟨s,rfl,hsx1,hok,hT2⟩
   have hS26:=hS25.trans hT2
   simp only[RT]at hS26
   have hkE:=hS26.kept hBE
   have hkN:=hSb.aW (H':=H17)
   obtain⟨F,hBF,hS27⟩:=hS26.aB (os:=[⟨ptr A1 0 3,0,_⟩,⟨ptr A2 0 4,0,_⟩,⟨ptr A3 0 4,0,_⟩,⟨rv,6,_⟩,⟨dv,5,_⟩,⟨ptr A4 0 4,0,_⟩,⟨ptr A5 0 5,0,_⟩,⟨sv,4,_⟩])
   simp(disch:=omega) only[↓RA,RB,simprocAttr,hn]
   refine hS27.ag [(.string s.name),I s.num,I s.den,s.gv] c3M c4g rfl rfl (by first|(simp[];done)|simp[Value.cells]) (by first|(simp[];done)|simp[Value.cells]) (by simp[OC,hsx1.1.1.cells.2.1]) (by decide) (by decide) fun w4 H18 hS28=> ?_
   simp only[RT]at hS28
   simp(disch:=omega) only[↓RA,RZ,simprocAttr,hn]
   refine hS28.aq 7 rfl (hS28.rd 8 rfl) c3M (by rw[iL (n:=4) (cel:=Stp.cells) (fun _=>rfl)];simp;omega) fun w5 H19 hS29=> ?_
   simp only[RT]at hS29
   simp(disch:=omega) only[↓RA,RZ,simprocAttr,hn,g8]
   refine hS29.aa 6 rfl [w5] (by rw[(hS29.rd 7 rfl).cells.1]) (by simp[(hS29.rd 7 rfl).cells.2.1]) c5X (by simp) fun H20 hS30=> ?_
   simp only[RT]at hS30
   simp(disch:=omega) only[↓RA,RZ,simprocAttr,hn,g1,g2,g3,g5,g6,g8,g9,hS27.ld 6 rfl,hS28.ld 6 rfl]
   have hS31:=hS30.pick (os':=[⟨ptr A1 0 3,0,_⟩,⟨ptr A2 0 4,0,_⟩,⟨ptr A3 0 4,0,_⟩,⟨rv,6,_⟩,⟨dv,5,_⟩,⟨ptr A4 0 4,0,_⟩,⟨ptr A5 0 5,0,_⟩,⟨w5,4,_⟩]) [0,1,2,3,4,5,6,7] (by decide) rfl
   have hkF:=hS31.kept hBF
   refine⟨(iB p.dvs m).stops.length-(k+1),by omega,k+1,sts++[s],_,⟨by omega,by simp[hsl],vN hso (by rw[hsl];exact hok),a5B (fun s hs=>((hsx s hs).step hkE).step hkF) ((hsx1.step hkN).step hkF)⟩,by simp,?_⟩
   rw[sH]
   exact(hS24.ab hBE (hS26.ab hBF hS31))
  obtain⟨G,hBG,hS32⟩:=hS24.aB (os:=[⟨ptr A1 0 3,0,_⟩,⟨ptr A2 0 4,0,_⟩,⟨ptr A3 0 4,0,_⟩,⟨rv,6,_⟩,⟨dv,5,_⟩,⟨ptr A4 0 4,0,_⟩,⟨ptr A5 0 5,0,_⟩,⟨sv,4,_⟩])
  simp(disch:=omega) only[↓RA,RZ,simprocAttr,hn,g3,g8,hS32.ld 2 rfl,hS32.ai 6 rfl,q3]
  refine hS32.ag [(.string ⟨#[68,UInt8.ofNat (48+(m:Int)).toNat]⟩),(.bool (iB p.dvs m).pedal),I (36+((iB p.dvs m).low%12:Nat)),I (36+((iB p.dvs m).low%12:Nat)+((iB p.dvs m).keys%9:Nat)),sv] c2x c5f rfl rfl (by first|(simp[];done)|simp[Value.cells]) (by first|(simp[];done)|simp[Value.cells]) (by simp[OC,(hS32.rd 7 rfl).cells.2.1]) (by decide) (by decide) fun w6 H21 hS33=> ?_
  simp only[RT]at hS33
  simp(disch:=omega) only[↓RA,RZ,simprocAttr,hn,q3]
  refine hS33.aq 4 rfl (hS33.rd 8 rfl) c2x (by rw[iL (n:=5) (cel:=Dvn.cells) (fun _=>rfl)];simp;omega) fun w7 H22 hS34=> ?_
  simp only[RT]at hS34
  simp(disch:=omega) only[↓RA,RZ,simprocAttr,hn,g3,q3]
  refine hS34.aa 2 rfl [w7] (by rw[(hS34.rd 4 rfl).cells.1]) (by simp[(hS34.rd 4 rfl).cells.2.1]) c4Z (by simp) fun H23 hS35=> ?_
  simp only[RT]at hS35
  simp(disch:=omega) only[↓RA,RZ,simprocAttr,hn,g1,g2,g3,g5,q3]
  have hxv:=hS35.cO (cel:=Stp.cells) (os':=[⟨ptr A1 0 3,0,_⟩,⟨ptr A2 0 4,0,_⟩,⟨ptr A3 0 4,0,_⟩,⟨rv,6,_⟩,⟨w7,5,_⟩]) 7 rfl (fun _=>rfl) [0,1,2,3,4] (by decide) rfl
  have hS36:=hS35.pick (os':=[⟨ptr A1 0 3,0,_⟩,⟨ptr A2 0 4,0,_⟩,⟨ptr A3 0 4,0,_⟩,⟨rv,6,_⟩,⟨w7,5,_⟩]) [0,1,2,3,4] (by decide) rfl
  have hkG:=hS36.kept hBG
  have hkD:=(hS24.ab hBG hS36).kept hBD
  have hnm:(⟨#[68,UInt8.ofNat (48+(m:Int)).toNat]⟩:ByteArray)=nm 68 m:=by rw[show(48+(m:Int)).toNat=48+m by omega];rfl
  have hdi:Dvn.Ix H23 (nb [ptr A1 0 3,ptr A2 0 4,ptr A3 0 4,rv,w7]) ⟨⟨#[68,UInt8.ofNat (48+(m:Int)).toNat]⟩,(iB p.dvs m).pedal,(36+((iB p.dvs m).low%12:Nat)),(36+((iB p.dvs m).low%12:Nat)+((iB p.dvs m).keys%9:Nat)),sv,sts⟩:=⟨hxv,fun s hs=>(hsx s hs).step hkG,by simp only;omega⟩
  have hdk:DvOk rks.length dvs.length ⟨⟨#[68,UInt8.ofNat (48+(m:Int)).toNat]⟩,(iB p.dvs m).pedal,(36+((iB p.dvs m).low%12:Nat)),(36+((iB p.dvs m).low%12:Nat)+((iB p.dvs m).keys%9:Nat)),sv,sts⟩:=⟨by rw[hdl];exact hnm,by simp only;omega,by simp only;omega,by simp only;omega,by simp only;omega,by simp only;omega,hso⟩
  refine⟨p.dvs.length-(m+1),by omega,m+1,dvs++[_],w7,⟨by omega,by simp[hdl],vN (Q:=fun j d=>DvOk rks.length j d∧d.stops.length=(iB p.dvs j).stops.length) hdo ⟨hdk,by rw[hdl];simp only;omega⟩,a5B (Q:=fun d=>Dvn.Ix H23 (nb [ptr A1 0 3,ptr A2 0 4,ptr A3 0 4,rv,w7]) d) (fun d hd=>(hdx d hd).step hkD) hdi⟩,by simp,?_⟩
  rw[sH]
  exact(hS15.ab hBD (hS24.ab hBG hS36))
 simp(disch:=omega) only[↓RA,RZ,simprocAttr,hn,g1,hS15.ld 0 rfl,((hS6.ab hBC hS15).sl hp.2.1).len,q2]
 have hdm:dvs.length=p.dvs.length:=by omega
 have hkC:=hS15.kept hBC
 obtain⟨K,hBK,hS37⟩:=hS15.aB (os:=[⟨ptr A1 0 3,0,_⟩,⟨ptr A2 0 4,0,_⟩,⟨ptr A3 0 4,0,_⟩,⟨rv,6,_⟩,⟨dv,5,_⟩])
 have hS38:=hS37.nil 4
 simp only[RT]at hS38
 refine Wp.aj (fun n l H'=>l.length=153∧get l 1=(ptr A1 0 3)∧get l 2=(ptr A2 0 4)∧get l 3=(ptr A3 0 4)∧get l 10=I p.dvs.length∧∃(c:Nat)(cps:List Cpl)(cv:Value),(n+c=p.cpls.length∧cps.length=c∧∀j,j<cps.length→CpOk p.dvs.length j (iB cps j))∧get l 11=I c∧St prog K H' [⟨ptr A1 0 3,0,[p.rv,p.dv,p.cv]⟩,⟨ptr A2 0 4,0,[(.string ⟨#[]⟩),(.slice none 0 0),(.slice none 0 0),(.slice none 0 0)]⟩,⟨ptr A3 0 4,0,[.string ⟨#[79,114,103,97,110]⟩,rv,dv,cv]⟩,⟨rv,6,rks.flatMap Rk.cells⟩,⟨dv,5,dvs.flatMap Dvn.cells⟩,⟨cv,5,cps.flatMap Cpl.cells⟩]) p.cpls.length ?_ ?_
 ·simp(disch:=omega) only[RB,RC,simprocAttr,hn,g1,g2,g3]
  exact⟨0,[],.slice none 0 0,⟨by omega,rfl,fun j hj=>absurd hj (dL _)⟩,rfl,hS38⟩
 rintro n l H24⟨hn,g1,g2,g3,nH,c,cps,cv,⟨hc,hcl,hco⟩,g11,hS39⟩
 simp(disch:=omega) only[↓RA,RZ,simprocAttr,hn,g1,g11,hS39.ld 0 rfl,((hS6.ab hBC (hS15.ab hBK hS39)).sl hp.2.2.2.1).len]
 refine iA (fun q4=> ?_) (fun q4=> ?_)
 ·have hck:=hk.2.2 _ (iD (xs:=p.cpls) (j:=c) (by omega))
  have u1:((iB p.cpls c).src:Int).tmod p.dvs.length=(((iB p.cpls c).src%p.dvs.length:Nat):Int):=(eh _ _).symm
  have u2:((iB p.cpls c).dst:Int).tmod p.dvs.length=(((iB p.cpls c).dst%p.dvs.length:Nat):Int):=(eh _ _).symm
  have u3:(iB p.cpls c).src%p.dvs.length<p.dvs.length:=eM _ (by omega)
  have u4:(iB p.cpls c).dst%p.dvs.length<p.dvs.length:=eM _ (by omega)
  obtain⟨sh,hsh,hsh1,hsh2⟩:∃sh,(iB p.cpls c).shift.tmod 25=sh∧-24≤sh∧sh≤24:=⟨_,rfl,(b7W _).1,(b7W _).2⟩
  have hcs:=hck.1
  have hcd:=hck.2.1
  have hcf:=hck.2.2
  have hnm:(⟨#[67,UInt8.ofNat (48+(c:Int)).toNat]⟩:ByteArray)=nm 67 c:=by rw[show(48+(c:Int)).toNat=48+c by omega];rfl
  simp(disch:=omega) only[↓RA,RZ,simprocAttr,hn,g1,g11,hS39.ld 0 rfl,((hS6.ab hBC (hS15.ab hBK hS39)).sl hp.2.2.2.1).idx,((hS6.ab hBC (hS15.ab hBK hS39)).sl hp.2.2.2.1).ai,Lnk.cells,q4]
  refine hS39.eNew 4 [(.int .u8 0),(.int .u8 0),(.int .i8 0),(.bool false)] rfl rfl rfl b1T fun A6 H25 hS40=> ?_
  simp only[RT]at hS40
  simp(disch:=omega) only[↓RA,RZ,simprocAttr,hn,q4]
  refine hS40.aa 6 rfl [(.int .u8 (iB p.cpls c).src),(.int .u8 (iB p.cpls c).dst),(.int .i8 (iB p.cpls c).shift),(.bool (iB p.cpls c).thr)] rfl rfl b1T (by simp) fun H26 hS41=> ?_
  simp only[RT]at hS41
  simp(disch:=omega) only[↓RA,RZ,simprocAttr,q4]
  refine Wp.aQ jW [(7,0),(8,0),(12,0),(13,0),(17,0),(18,0),(21,0)] (by kernel_rfl) (by kernel_rfl) ?_
  simp(disch:=omega) only[↓RA,RZ,simprocAttr,hn,g11]
  refine hS41.ag [_] b1K b1z rfl rfl (by simp[Value.cells]) rfl rfl (by decide) (by decide) fun w8 H27 hS42=> ?_
  simp only[RT]at hS42
  simp(disch:=omega) only[↓RA,RZ,simprocAttr,hn,vP (hS42.rd 7 rfl) nM.1 nM.2.1 nM.2.2,sY]
  simp(disch:=omega) only[↓RA,RZ,simprocAttr,hn,nH,hS42.ld 6 rfl,u1,u2,hsh]
  simp(disch:=omega) only[↓RA,RZ,simprocAttr,a1e]
  refine hS42.eNew 5 [(.string ⟨#[]⟩),I 0,I 0,I 0,(.bool false)] rfl rfl rfl tV fun A7 H28 hS43=> ?_
  simp only[RT]at hS43
  simp(disch:=omega) only[↓RA,RB,simprocAttr,hn]
  refine hS43.aa 8 rfl [(.string ⟨#[67,UInt8.ofNat (48+(c:Int)).toNat]⟩),I (((iB p.cpls c).src%p.dvs.length:Nat):Int),I (((iB p.cpls c).dst%p.dvs.length:Nat):Int),I sh,(.bool (iB p.cpls c).thr)] rfl rfl tV (by simp) fun H29 hS44=> ?_
  simp only[RT]at hS44
  simp(disch:=omega) only[↓RA,RZ,simprocAttr,hn,hS41.ld 6 rfl,hS44.ld 8 rfl]
  refine jC (fun q5=> ?_) (fun q5=> ?_)
  ·simp(disch:=omega) only[↓RA,RZ,simprocAttr,hn,hS44.ld 8 rfl,q5]
   refine iA (fun q6=> ?_) (fun q6=> ?_)
   ·skip
    simp(disch:=omega) only[↓RA,RZ,simprocAttr,hn,q6]
    refine hS44.aa 8 rfl [I 12] rfl rfl tS3 (by simp) fun H30 hS45=> ?_
    simp only[RT]at hS45
    simp(disch:=omega) only[↓RA,RZ,simprocAttr,hn,g3,hS45.ld 2 rfl,hS45.ai 8 rfl,q6]
    refine hS45.ag [(.string ⟨#[67,UInt8.ofNat (48+(c:Int)).toNat]⟩),I (((iB p.cpls c).src%p.dvs.length:Nat):Int),I (((iB p.cpls c).dst%p.dvs.length:Nat):Int),I 12,(.bool (iB p.cpls c).thr)] b0J b8W rfl rfl (by simp[Value.cells]) rfl rfl (by decide) (by decide) fun w9 H31 hS46=> ?_
    simp only[RT]at hS46
    simp(disch:=omega) only[↓RA,RZ,simprocAttr,hn,q6]
    refine hS46.aq 5 rfl (hS46.rd 9 rfl) b0J (by rw[iL (n:=5) (cel:=Cpl.cells) (fun _=>rfl)];simp;omega) fun w10 H32 hS47=> ?_
    simp only[RT]at hS47
    simp(disch:=omega) only[↓RA,RZ,simprocAttr,hn,g3,q6]
    refine hS47.aa 2 rfl [w10] (by rw[(hS47.rd 5 rfl).cells.1]) (by simp[(hS47.rd 5 rfl).cells.2.1]) c0g (by simp) fun H33 hS48=> ?_
    simp only[RT]at hS48
    simp(disch:=omega) only[↓RA,RZ,simprocAttr,hn,g1,g2,g3,nH,g11,q6]
    have hS49:=hS48.pick (os':=[⟨ptr A1 0 3,0,_⟩,⟨ptr A2 0 4,0,_⟩,⟨ptr A3 0 4,0,_⟩,⟨rv,6,_⟩,⟨dv,5,_⟩,⟨w10,5,_⟩]) [0,1,2,3,4,5] (by decide) rfl
    have hcn:CpOk p.dvs.length cps.length ⟨⟨#[67,UInt8.ofNat (48+(c:Int)).toNat]⟩,(((iB p.cpls c).src%p.dvs.length:Nat):Int),(((iB p.cpls c).dst%p.dvs.length:Nat):Int),12,(iB p.cpls c).thr⟩:=⟨by rw[hcl];exact hnm,by simp only;omega,by simp only;omega,by simp only;omega,by simp only;omega⟩
    refine⟨n-1,by omega,c+1,cps++[_],w10,⟨by omega,by simp[hcl],vN hco hcn⟩,by simp,?_⟩
    rw[sH]
    exact hS49
   simp(disch:=omega) only[↓RA,RZ,simprocAttr,hn,g3,hS44.ld 2 rfl,hS44.ai 8 rfl,q6]
   refine hS44.ag [(.string ⟨#[67,UInt8.ofNat (48+(c:Int)).toNat]⟩),I (((iB p.cpls c).src%p.dvs.length:Nat):Int),I (((iB p.cpls c).dst%p.dvs.length:Nat):Int),I sh,(.bool (iB p.cpls c).thr)] b0J b8W rfl rfl (by simp[Value.cells]) rfl rfl (by decide) (by decide) fun w11 H34 hS50=> ?_
   simp only[RT]at hS50
   simp(disch:=omega) only[↓RA,RZ,simprocAttr,hn,q6]
   refine hS50.aq 5 rfl (hS50.rd 9 rfl) b0J (by rw[iL (n:=5) (cel:=Cpl.cells) (fun _=>rfl)];simp;omega) fun w12 H35 hS51=> ?_
   simp only[RT]at hS51
   simp(disch:=omega) only[↓RA,RZ,simprocAttr,hn,g3,q6]
   refine hS51.aa 2 rfl [w12] (by rw[(hS51.rd 5 rfl).cells.1]) (by simp[(hS51.rd 5 rfl).cells.2.1]) c0g (by simp) fun H36 hS52=> ?_
   simp only[RT]at hS52
   simp(disch:=omega) only[↓RA,RZ,simprocAttr,hn,g1,g2,g3,nH,g11,q6]
   have hS53:=hS52.pick (os':=[⟨ptr A1 0 3,0,_⟩,⟨ptr A2 0 4,0,_⟩,⟨ptr A3 0 4,0,_⟩,⟨rv,6,_⟩,⟨dv,5,_⟩,⟨w12,5,_⟩]) [0,1,2,3,4,5] (by decide) rfl
   have hcn:CpOk p.dvs.length cps.length ⟨⟨#[67,UInt8.ofNat (48+(c:Int)).toNat]⟩,(((iB p.cpls c).src%p.dvs.length:Nat):Int),(((iB p.cpls c).dst%p.dvs.length:Nat):Int),sh,(iB p.cpls c).thr⟩:=⟨by rw[hcl];exact hnm,by simp only;omega,by simp only;omega,by simp only;omega,by simp only;omega⟩
   refine⟨n-1,by omega,c+1,cps++[_],w12,⟨by omega,by simp[hcl],vN hco hcn⟩,by simp,?_⟩
   rw[sH]
   exact hS53
  simp(disch:=omega) only[↓RA,RZ,simprocAttr,hn,g3,hS44.ld 2 rfl,hS44.ai 8 rfl,q5]
  refine hS44.ag [(.string ⟨#[67,UInt8.ofNat (48+(c:Int)).toNat]⟩),I (((iB p.cpls c).src%p.dvs.length:Nat):Int),I (((iB p.cpls c).dst%p.dvs.length:Nat):Int),I sh,(.bool (iB p.cpls c).thr)] b0J b8W rfl rfl (by simp[Value.cells]) rfl rfl (by decide) (by decide) fun w13 H37 hS54=> ?_
  simp only[RT]at hS54
  simp(disch:=omega) only[↓RA,RZ,simprocAttr,hn,q5]
  refine hS54.aq 5 rfl (hS54.rd 9 rfl) b0J (by rw[iL (n:=5) (cel:=Cpl.cells) (fun _=>rfl)];simp;omega) fun w14 H38 hS55=> ?_
  simp only[RT]at hS55
  simp(disch:=omega) only[↓RA,RZ,simprocAttr,hn,g3,q5]
  refine hS55.aa 2 rfl [w14] (by rw[(hS55.rd 5 rfl).cells.1]) (by simp[(hS55.rd 5 rfl).cells.2.1]) c0g (by simp) fun H39 hS56=> ?_
  simp only[RT]at hS56
  simp(disch:=omega) only[↓RA,RZ,simprocAttr,hn,g1,g2,g3,nH,g11,q5]
  have hS57:=hS56.pick (os':=[⟨ptr A1 0 3,0,_⟩,⟨ptr A2 0 4,0,_⟩,⟨ptr A3 0 4,0,_⟩,⟨rv,6,_⟩,⟨dv,5,_⟩,⟨w14,5,_⟩]) [0,1,2,3,4,5] (by decide) rfl
  have hcn:CpOk p.dvs.length cps.length ⟨⟨#[67,UInt8.ofNat (48+(c:Int)).toNat]⟩,(((iB p.cpls c).src%p.dvs.length:Nat):Int),(((iB p.cpls c).dst%p.dvs.length:Nat):Int),sh,(iB p.cpls c).thr⟩:=⟨by rw[hcl];exact hnm,by simp only;omega,by simp only;omega,by simp only;omega,by simp only;omega⟩
  refine⟨n-1,by omega,c+1,cps++[_],w14,⟨by omega,by simp[hcl],vN hco hcn⟩,by simp,?_⟩
  rw[sH]
  exact hS57
 simp(disch:=omega) only[↓RA,RZ,simprocAttr,hn,g2,g3,hS39.ai 2 rfl,q4]
 refine hS39.aa 1 rfl [(.string ⟨#[79,114,103,97,110]⟩),rv,dv,cv] rfl (by simp[OC,(hS39.rd 3 rfl).cells.2.1,(hS39.rd 4 rfl).cells.2.1,(hS39.rd 5 rfl).cells.2.1]) mX (by simp) fun H40 hS58=> ?_
 simp only[RT]at hS58
 simp(disch:=omega) only[↓RA,RZ,simprocAttr,g2,tR8,hS58.ai 1 rfl,q4]
 have hcm:cps.length=p.cpls.length:=by omega
 have hkK:=(hS58.pick (os':=[⟨ptr A1 0 3,0,_⟩,⟨ptr A2 0 4,0,_⟩,⟨ptr A3 0 4,0,_⟩,⟨rv,6,_⟩,⟨dv,5,_⟩]) [0,1,2,3,4] (by decide) rfl).kept hBK
 refine⟨⟨⟨#[79,114,103,97,110]⟩,rv,rks,dv,dvs,cv,cps⟩,rfl,⟨hS58.av 3 rfl (fun _=>rfl),fun r hr=>(((hrx r hr).step hkC).step hkK).in,hS58.av 4 rfl (fun _=>rfl),fun d hd=>((hdx d hd).step hkK).in,hS58.av 5 rfl (fun _=>rfl),by simp only;omega,by simp only;omega,by simp only;omega⟩,
  ⟨⟨rfl,by simp only;omega,by simp only;omega,hro,by simp only;omega,by simp only;omega,fun j hj=>(hdo j hj).1,by simp only;omega,by simp only[hdm];exact hco⟩,hri,hdm,hcm,fun j hj=>(hdo j (by omega)).2⟩,(hS6.ab hBC (hS15.ab hBK hS58)).forget⟩
end Go.Ds
namespace Go.Ds
open Go.Proofs
variable {H:Heap}
set_option maxRecDepth 10000
set_option maxHeartbeats 1000000
theorem Made.small{p:Pln}{o:Org}(h:Made p o)(hf:vZ p=true):o.cpls.length≤3∧o.dvs.length≤3∧∀j,j<o.dvs.length→(iB o.dvs j).stops.length≤3:=by
 unfold vZ at hf
 simp only[cU,decide_eq_true_eq,dj]at hf
 obtain⟨⟨⟨⟨⟨f1,f2⟩,f3⟩,f4⟩,f5⟩,f6⟩:=hf
 refine⟨by rw[h.clen];exact f5,by rw[h.dlen];exact f4,fun j hj=> ?_⟩
 rw[h.dlen]at hj
 rw[h.slen j hj]
 exact f6 _ (iD hj)
theorem b2y{o:Org}{b:Nat→Nat}(hb:∀i,b i<256)(h2:o.dvs.length≤3):(uS o b).Ok:=by
 have hm:∀i n:Nat,b i%2^n<18446744073709551616:=fun i n=>by
  have:=hb i
  have:=Nat.mod_le (b i) (2^n)
  omega
 refine⟨?_,fun x hx=> ?_,hm _ _,hm _ _⟩
 ·unfold uS
  simp only[dK,List.length_range]
  omega
 ·obtain⟨i,_,rfl⟩:=dr.1 hx
  exact hm _ _
end Go.Ds
namespace Go.Ds
open Go.Proofs Go.Proofs.Tryz Go.ChangeShapes Go.WideShapes Go.RowKit Go.Deep
set_option maxRecDepth 10000
theorem ce4:prog.cellsOf 4=1:=by kernel_rfl
theorem ce5:prog.cellsOf 5=1:=by kernel_rfl
theorem c1C:prog.cellsOf 109=1:=by kernel_rfl
theorem c6l:prog.cellsOf 27=5:=by kernel_rfl
theorem c6y:prog.cellsOf 105=1:=by kernel_rfl
theorem c0Y:prog.cellsOf 111=9:=by kernel_rfl
theorem c1e:prog.cellsOf 107=4:=by kernel_rfl
theorem c1a:prog.cellsOf 118=4:=by kernel_rfl
theorem c1D:prog.cellsOf 120=4:=by kernel_rfl
theorem c7X:prog.cellsOf 22=1:=by kernel_rfl
theorem c8t:prog.cellsOf 23=1:=by kernel_rfl
theorem c7Y:prog.cellsOf 24=1:=by kernel_rfl
theorem c8m:prog.cellsOf 26=3:=by kernel_rfl
section
variable {H0:Type} {enc:TypeId×Value→H0} {w:World} {base n:Nat} {spare:Nat→Bool} {kZ:Bool} {x:DataW H0×List MemPlace}
theorem pW{v:Value}(h:DataW.trod enc prog w base spare kZ n 5 [v]=some x):∃m:Nat,v=.int .u8 m∧m<256:=by
 obtain⟨m,hv,_,hw⟩:=DataW.trod_int underlying5 h
 have hv:v=.int .u8 m:=by simpa using hv
 have hm:0≤m∧m≤255:=by simpa [Lit.wf,IntKind.min,IntKind.max,IntKind.signed,IntKind.bits]using hw
 exact⟨m.toNat,by rw[hv,fJ hm.1],by omega⟩
theorem c0U{v:Value}(h:DataW.trod enc prog w base spare kZ n 109 [v]=some x):∃m:Int,v=.int .i8 m∧-128≤m∧m<128:=by
 obtain⟨m,hv,_,hw⟩:=DataW.trod_int underlying109 h
 have hv:v=.int .i8 m:=by simpa using hv
 have hm: -128≤m∧m≤127:=by simpa [Lit.wf,IntKind.min,IntKind.max,IntKind.signed,IntKind.bits]using hw
 exact⟨m,hv,hm.1,by omega⟩
theorem b1I{v:Value}(h:DataW.trod enc prog w base spare kZ n 4 [v]=some x):∃b,v=.bool b:=by
 obtain⟨b,hv,_⟩:=DataW.trod_bool underlying4 h
 exact⟨b,by simpa using hv⟩
theorem a2T{t:TypeId}{fs:Array Field}{cs:List Value}(ht:prog.underlying t=some (.struct fs))(h:DataW.trod enc prog w base spare kZ n t cs=some x):
 cs.length=prog.cellsOf t∧∃m,∀(i:Nat)(f:Field),fs[i]? =some f→∃y,DataW.trod enc prog w base spare kZ m f.type ((cs.drop f.offset).take (prog.cellsOf f.type))=some y:=by
 obtain⟨xs,m,_,_,hl,hxl,hf⟩:=DataW.trod_struct ht h
 refine⟨hl,m,fun i f hi=> ?_⟩
 have hlt:i<xs.length:=by rw[hxl];exact(da.1 hi).1
 exact⟨xs[i],by rw[hf i f hi,dh hlt]⟩
theorem b1Q{cs:List Value}(h:DataW.trod enc prog w base spare kZ n 27 cs=some x):∃b:Nat→Nat,(∀i,b i<256)∧cs=[.int .u8 (b 0),.int .u8 (b 1),.int .u8 (b 2),.int .u8 (b 3),.int .u8 (b 4)]:=by
 obtain⟨xs,m,_,_,hl,hxl,hf⟩:=DataW.trod_array underlying27 h
 rw[c6l]at hl
 match cs,hl with
 | [c0,c1,c2,c3,c4],_=>
   have hy:∀i,i<5→∃y,DataW.trod enc prog w base spare kZ m 5 ((([c0,c1,c2,c3,c4]:List Value).drop (i*1)).take 1)=some y:=fun i hi=>by
    have:=hf i hi
    rw[ce5]at this
    exact⟨xs[i],by rw[this,dh (by omega)]⟩
   obtain⟨_,h0⟩:=hy 0 (by decide)
   obtain⟨_,h1⟩:=hy 1 (by decide)
   obtain⟨_,h2⟩:=hy 2 (by decide)
   obtain⟨_,h3⟩:=hy 3 (by decide)
   obtain⟨_,h4⟩:=hy 4 (by decide)
   obtain⟨b0,rfl,k0⟩:=pW h0
   obtain⟨b1,rfl,k1⟩:=pW h1
   obtain⟨b2,rfl,k2⟩:=pW h2
   obtain⟨b3,rfl,k3⟩:=pW h3
   obtain⟨b4,rfl,k4⟩:=pW h4
   exact⟨fun i=>match i with|0=>b0|1=>b1|2=>b2|3=>b3|_=>b4,fun i=>by
    match i with
    | 0=>exact k0
    | 1=>exact k1
    | 2=>exact k2
    | 3=>exact k3
    | _+4=>exact k4,rfl⟩
theorem c2u{cs:List Value}(h:DataW.trod enc prog w base spare kZ n 118 cs=some x):∃p:Pul,cs=p.cells∧p.Ok:=by
 obtain⟨hl,m,hf⟩:=a2T underlying118 h
 rw[c1a]at hl
 match cs,hl with
 | [c0,c1,c2,c3],_=>
   obtain⟨_,h0⟩:=hf 0 ⟨_,5,0,_,_,_,_⟩ rfl
   obtain⟨_,h1⟩:=hf 1 ⟨_,5,1,_,_,_,_⟩ rfl
   obtain⟨_,h2⟩:=hf 2 ⟨_,5,2,_,_,_,_⟩ rfl
   obtain⟨_,h3⟩:=hf 3 ⟨_,5,3,_,_,_,_⟩ rfl
   simp only[ce5]at h0 h1 h2 h3
   obtain⟨b0,rfl,k0⟩:=pW h0
   obtain⟨b1,rfl,k1⟩:=pW h1
   obtain⟨b2,rfl,k2⟩:=pW h2
   obtain⟨b3,rfl,k3⟩:=pW h3
   exact⟨⟨b0,b1,b2,b3⟩,rfl,k0,k1,k2,k3⟩
theorem c3d{cs:List Value}(h:DataW.trod enc prog w base spare kZ n 120 cs=some x):∃p:Lnk,cs=p.cells∧p.Ok:=by
 obtain⟨hl,m,hf⟩:=a2T underlying120 h
 rw[c1D]at hl
 match cs,hl with
 | [c0,c1,c2,c3],_=>
   obtain⟨_,h0⟩:=hf 0 ⟨_,5,0,_,_,_,_⟩ rfl
   obtain⟨_,h1⟩:=hf 1 ⟨_,5,1,_,_,_,_⟩ rfl
   obtain⟨_,h2⟩:=hf 2 ⟨_,109,2,_,_,_,_⟩ rfl
   obtain⟨_,h3⟩:=hf 3 ⟨_,4,3,_,_,_,_⟩ rfl
   simp only[ce5,c1C,ce4]at h0 h1 h2 h3
   obtain⟨b0,rfl,k0⟩:=pW h0
   obtain⟨b1,rfl,k1⟩:=pW h1
   obtain⟨b2,rfl,k2⟩:=c0U h2
   obtain⟨b3,rfl⟩:=b1I h3
   exact⟨⟨b0,b1,b2,b3⟩,rfl,k0,k1,k2.1,k2.2⟩
theorem c1R{cs:List Value}(h:DataW.trod enc prog w base spare kZ n 111 cs=some x):∃p:RPl,cs=p.cells∧p.Ok:=by
 obtain⟨hl,m,hf⟩:=a2T underlying111 h
 rw[c0Y]at hl
 match cs,hl with
 | [c0,c1,c2,c3,c4,c5,c6,c7,c8],_=>
   obtain⟨_,h0⟩:=hf 0 ⟨_,5,0,_,_,_,_⟩ rfl
   obtain⟨_,h1⟩:=hf 1 ⟨_,5,1,_,_,_,_⟩ rfl
   obtain⟨_,h2⟩:=hf 2 ⟨_,109,2,_,_,_,_⟩ rfl
   obtain⟨_,h3⟩:=hf 3 ⟨_,5,3,_,_,_,_⟩ rfl
   obtain⟨_,h4⟩:=hf 4 ⟨_,27,4,_,_,_,_⟩ rfl
   simp only[ce5,c1C,c6l]at h0 h1 h2 h3 h4
   obtain⟨b0,rfl,k0⟩:=pW h0
   obtain⟨b1,rfl,k1⟩:=pW h1
   obtain⟨b2,rfl,k2⟩:=c0U h2
   obtain⟨b3,rfl,k3⟩:=pW h3
   obtain⟨b,kb,hb⟩:=b1Q h4
   have hb:[c4,c5,c6,c7,c8]=[Value.int .u8 (b 0),.int .u8 (b 1),.int .u8 (b 2),.int .u8 (b 3),.int .u8 (b 4)]:=hb
   simp only[fP,and_true]at hb
   obtain⟨rfl,rfl,rfl,rfl,rfl⟩:=hb
   exact⟨⟨b0,b1,b2,b3,b 0,b 1,b 2,b 3,b 4⟩,rfl,k0,k1,k2.1,k2.2,k3,kb 0,kb 1,kb 2,kb 3,kb 4⟩
end
theorem All2.at{α β:Type}{R:α→β→Prop}:∀{l:List α}{l':List β},All2 R l l'→∀(i:Nat)c,l[i]? =some c→∃c',l'[i]? =some c'∧R c c'
 | [],[],_,i,c,h=>by simp at h
 | a::l,b::l',h,0,c,hc=>by
   simp only[eS,dB]at hc
   subst hc
   exact⟨b,rfl,h.1⟩
 | a::l,b::l',h,i+1,c,hc=>All2.at h.2 i c (by simpa using hc)
section
variable {P:Program} {ρ:Rho} {H:Heap} {w:World} {base:Nat}
theorem a8w{α:Type}[Inhabited α]{cel:α→List Value}{sz:Nat}(h:InW P ρ H w){b0:Nat}{cur0:Array Value}{t0:TypeId}{fr0:Nat×Nat}(hb0:w.heap[b0]? =some (.cells cur0 t0 fr0)){ty:TypeId}(hty:iE P ty=some sz)(hs:0<sz)(hc:∀x,(cel x).length=sz)
 {a:Addr} {len cap:Nat} (hl:len≤cap) (f:Nat→List Value) (hf:∀i,i<cap→w.cells? base (a.add (i*sz)) sz=some (f i)) (xs:List α) (hx:xs.length=len) (hR:∀i,i<len→All2 (C1 ρ) (cel (iB xs i)) (f i)):
 ∃ρ' H' v,InW P ρ' H' w∧ExtW ρ H ρ' H'∧C1 ρ' v (.slice (some a) len cap)∧Sl sz cel H' v xs:=by
 have hcell:∀q r,q<cap→r<sz→w.cell? (a.add (q*sz+r))=(f q)[r]?∧(f q).length=sz:=fun q r hq hr=>by
  obtain⟨_,h1,h2⟩:=World.cells?_some (hf q hq)
  have:=h2 r hr
  rw[add_add]at this
  exact⟨this,h1⟩
 have hqr:∀i n,i<n*sz→i/sz<n∧i%sz<sz∧i=i/sz*sz+i%sz:=fun i n hi=>by
  refine⟨Nat.div_lt_of_lt_mul (by rwa [Nat.mul_comm]),eM _ hs,?_⟩
  rw[Nat.mul_comm]
  exact(Nat.div_add_mod i sz).symm
 obtain⟨ρ',H',v,h1,h2,h3,h4⟩:=h.slice hb0 hty hs hl (fun i hi=>by
  obtain⟨k1,k2,k3⟩:=hqr i cap hi
  obtain⟨e1,e2⟩:=hcell _ _ k1 k2
  rw[k3,e1,dh (by omega)]
  rfl) (xs.flatMap cel) (by rw[iL hc,hx]) (fun i c hi=>by
  have hi':i<len*sz:=by
   have:=(dp.1 hi).1
   rwa [iL hc,hx]at this
  obtain⟨k1,k2,k3⟩:=hqr i len hi'
  rw[k3,a4n hc xs _ _ (by omega) k2]at hi
  obtain⟨c',g1,g2⟩:=(hR _ k1).at _ _ hi
  refine⟨c',?_,g2⟩
  rw[k3,(hcell _ _ (by omega) k2).1,g1])
 exact⟨ρ',H',v,h1,h2,h3,h4,hc,hs⟩
end
theorem Sl.ext{α:Type}{sz:Nat}{cel:α→List Value}{ρ ρ':Rho}{H H':Heap}{v:Value}{xs:List α}(h:Sl sz cel H v xs)(e:ExtW ρ H ρ' H'):Sl sz cel H' v xs:=⟨h.rd.ak e.old,h.hc,h.pos⟩
theorem All2.flat{ρ:Rho}:∀(l:List Value),(∀c∈l,iY c=true)→All2 (C1 ρ) l l
 | [],_=>trivial
 | c::l,h=>⟨.c0 (.flat (h c (dG ..))),All2.flat l fun d hd=>h d (dN _ hd)⟩
section
variable {H0:Type} {enc:TypeId×Value→H0} {w:World} {base fuel:Nat} {kZ:Bool} {x:DataW H0×List MemPlace} {ρ:Rho} {H:Heap}
theorem a6h{α:Type}[Inhabited α]{cel:α→List Value}{ok:α→Prop}{t e:TypeId}{sz:Nat}(ht:prog.underlying t=some (.slice e))(hce:prog.cellsOf e=sz)(hty:iE prog e=some sz)(hs:0<sz)(hc:∀x,(cel x).length=sz)(hsc:∀x,∀c∈cel x,iY c=true)
 (hit:∀{n cs}{x:DataW H0×List MemPlace},DataW.trod enc prog w base (fun _=>true) kZ n e cs=some x→∃p,cs=cel p∧ok p)
 (h:InW prog ρ H w) {b0:Nat} {cur0:Array Value} {t0:TypeId} {fr0:Nat×Nat} (hb0:w.heap[b0]? =some (.cells cur0 t0 fr0)) {v:Value} (hv:DataW.trod enc prog w base (fun _=>true) kZ fuel t [v]=some x):
 ∃ρ' H' v' xs,InW prog ρ' H' w∧ExtW ρ H ρ' H'∧C1 ρ' v' v∧Sl sz cel H' v' xs∧(∀x∈xs,ok x)∧xs.length<9223372036854775808:=by
 rcases open_slice ht hv with⟨hcs,_⟩|⟨a,len,cap,m,n,D,Pl,hcs,_,hl,hm,hmm,_,hi⟩
 ·obtain rfl:v=.slice none 0 0:=by simpa using hcs
  exact⟨ρ,H,.slice none 0 0,[],h,.refl _ _,.c0 (.flat rfl),⟨.inl ⟨rfl,rfl⟩,hc,hs⟩,by simp,by simp⟩
 ·obtain rfl:v=.slice (some a) len cap:=by simpa using hcs
  simp only[if_true]at hmm
  subst hmm
  rw[hce]at hi
  obtain⟨f,hf⟩:=choose_lt (α:=α) (p:=fun i p=>w.cells? base (a.add (i*sz)) sz=some (cel p)∧ok p) (fun i hi'=>by
   obtain⟨cs',h1,h2⟩:=hi i hi'
   obtain⟨p,rfl,hp⟩:=hit h2
   exact⟨p,h1,hp⟩)
  have hn:∀i,i<len→iB ((List.range len).map f) i=f i:=fun i hi=>by
   rw[b8v _ (by simpa using hi),kC _ _ (by simpa using hi),List.getElem_range]
  obtain⟨ρ',H',v',h1,h2,h3,h4⟩:=a8w h hb0 hty hs hc hl (fun i=>cel (f i)) (fun i hi=>(hf i hi).1) ((List.range len).map f) (by simp) (fun i hi=>by
   rw[hn i hi]
   exact All2.flat _ (hsc _))
  refine⟨ρ',H',v',_,h1,h2,h3,h4,fun x hx=> ?_,?_⟩
  ·obtain⟨i,hi,rfl⟩:=dr.1 hx
   exact(hf i (by have:=dq.1 hi;omega)).2
  ·have:maxLen=9223372036854775807:=rfl
   simp
   omega
end
section
variable {H0:Type} {enc:TypeId×Value→H0} {w:World} {base fuel:Nat} {kZ:Bool} {x:DataW H0×List MemPlace} {ρ:Rho} {H:Heap}
theorem b9q(h:InW prog ρ H w){b0:Nat}{cur0:Array Value}{t0:TypeId}{fr0:Nat×Nat}(hb0:w.heap[b0]? =some (.cells cur0 t0 fr0)){v:Value}(hv:DataW.trod enc prog w base (fun _=>true) kZ fuel 105 [v]=some x):
 ∃ρ' H' v' xs,InW prog ρ' H' w∧ExtW ρ H ρ' H'∧C1 ρ' v' v∧Sl 4 Pul.cells H' v' xs∧(∀x∈xs,Pul.Ok x)∧xs.length<9223372036854775808:=
 a6h underlying105 c1a b5B (by decide) (fun _=>rfl) (fun x c hc=>by
  simp only[Pul.cells,dS,dV,or_false]at hc
  rcases hc with rfl|rfl|rfl|rfl<;>rfl) (fun hh=>c2u hh) h hb0 hv
theorem b9n(h:InW prog ρ H w){b0:Nat}{cur0:Array Value}{t0:TypeId}{fr0:Nat×Nat}(hb0:w.heap[b0]? =some (.cells cur0 t0 fr0)){v:Value}(hv:DataW.trod enc prog w base (fun _=>true) kZ fuel 24 [v]=some x):
 ∃ρ' H' v' xs,InW prog ρ' H' w∧ExtW ρ H ρ' H'∧C1 ρ' v' v∧Sl 4 Lnk.cells H' v' xs∧(∀x∈xs,Lnk.Ok x)∧xs.length<9223372036854775808:=
 a6h underlying24 c1D b1T (by decide) (fun _=>rfl) (fun x c hc=>by
  simp only[Lnk.cells,dS,dV,or_false]at hc
  rcases hc with rfl|rfl|rfl|rfl<;>rfl) (fun hh=>c3d hh) h hb0 hv
theorem b9C(h:InW prog ρ H w){b0:Nat}{cur0:Array Value}{t0:TypeId}{fr0:Nat×Nat}(hb0:w.heap[b0]? =some (.cells cur0 t0 fr0)){v:Value}(hv:DataW.trod enc prog w base (fun _=>true) kZ fuel 22 [v]=some x):
 ∃ρ' H' v' xs,InW prog ρ' H' w∧ExtW ρ H ρ' H'∧C1 ρ' v' v∧Sl 9 RPl.cells H' v' xs∧(∀x∈xs,RPl.Ok x)∧xs.length<9223372036854775808:=
 a6h underlying22 c0Y b5E (by decide) (fun _=>rfl) (fun x c hc=>by
  simp only[RPl.cells,dS,dV,or_false]at hc
  rcases hc with rfl|rfl|rfl|rfl|rfl|rfl|rfl|rfl|rfl<;>rfl) (fun hh=>c1R hh) h hb0 hv
theorem c2b(h:InW prog ρ H w){b0:Nat}{cur0:Array Value}{t0:TypeId}{fr0:Nat×Nat}(hb0:w.heap[b0]? =some (.cells cur0 t0 fr0)){cs:List Value}(hv:DataW.trod enc prog w base (fun _=>true) kZ fuel 107 cs=some x):
 ∃(ρ':Rho)(H':Heap)(b:Brd),InW prog ρ' H' w∧ExtW ρ H ρ' H'∧All2 (C1 ρ') (Brd.cells b) cs∧b.In H'∧b.Ok:=by
 obtain⟨hl,m,hf⟩:=a2T underlying107 hv
 rw[c1e]at hl
 match cs,hl with
 | [c0,c1,c2,c3],_=>
   obtain⟨_,h0⟩:=hf 0 ⟨_,5,0,_,_,_,_⟩ rfl
   obtain⟨_,h1⟩:=hf 1 ⟨_,5,1,_,_,_,_⟩ rfl
   obtain⟨_,h2⟩:=hf 2 ⟨_,4,2,_,_,_,_⟩ rfl
   obtain⟨_,h3⟩:=hf 3 ⟨_,105,3,_,_,_,_⟩ rfl
   simp only[ce5,ce4,c6y]at h0 h1 h2 h3
   obtain⟨b0,rfl,k0⟩:=pW h0
   obtain⟨b1,rfl,k1⟩:=pW h1
   obtain⟨b2,rfl⟩:=b1I h2
   obtain⟨ρ',H',v',xs,i1,i2,i3,i4,i5,i6⟩:=b9q h hb0 h3
   exact⟨ρ',H',⟨b0,b1,b2,v',xs⟩,i1,i2,⟨.c0 (.flat rfl),.c0 (.flat rfl),.c0 (.flat rfl),i3,trivial⟩,⟨i4,i6⟩,k0,k1,i5⟩
theorem b9Y(h:InW prog ρ H w){b0:Nat}{cur0:Array Value}{t0:TypeId}{fr0:Nat×Nat}(hb0:w.heap[b0]? =some (.cells cur0 t0 fr0)){v:Value}(hv:DataW.trod enc prog w base (fun _=>true) kZ fuel 23 [v]=some x):
 ∃ρ' H' v' xs,InW prog ρ' H' w∧ExtW ρ H ρ' H'∧C1 ρ' v' v∧Sl 4 Brd.cells H' v' xs∧(∀b∈xs,b.In H'∧b.Ok)∧xs.length<9223372036854775808:=by
 rcases open_slice underlying23 hv with⟨hcs,_⟩|⟨a,len,cap,m,n,D,Pl,hcs,_,hl,hm,hmm,_,hi⟩
 ·obtain rfl:v=.slice none 0 0:=by simpa using hcs
  exact⟨ρ,H,.slice none 0 0,[],h,.refl _ _,.c0 (.flat rfl),⟨.inl ⟨rfl,rfl⟩,fun _=>rfl,by decide⟩,by simp,by simp⟩
 ·obtain rfl:v=.slice (some a) len cap:=by simpa using hcs
  simp only[if_true]at hmm
  subst hmm
  rw[c1e]at hi
  obtain⟨f,hf⟩:=choose_lt (α:=List Value) (p:=fun i cs=>w.cells? base (a.add (i*4)) 4=some cs∧DataW.trod enc prog w base (fun _=>true) kZ n 107 cs=some (D i,Pl i)) hi
  obtain⟨ρ1,H1,xs,j1,j2,j3,j4⟩:=h.each (n:=len) (Q:=fun i ρ H b=>All2 (C1 ρ) (Brd.cells b) (f i)∧b.In H∧b.Ok) (fun i ρ H b ρ' H' hq he=>⟨hq.1.mono fun _ _ hh=>hh.mono he.le,⟨hq.2.1.1.ext he,hq.2.1.2⟩,hq.2.2⟩)
   (fun i hi' ρ1 H1 g1 _=>c2b g1 hb0 (hf i (by omega)).2)
  obtain⟨ρ2,H2,v',i1,i2,i3,i4⟩:=a8w j1 hb0 b1r (by decide) (fun _=>rfl) hl f (fun i hi'=>(hf i hi').1) xs j3 (fun i hi'=>(j4 i hi').1)
  refine⟨ρ2,H2,v',xs,i1,j2.trans i2,i3,i4,fun b hb=> ?_,?_⟩
  ·obtain⟨i,hi',rfl⟩:=dO.1 hb
   have:=(j4 i (by omega)).2
   rw[kC _ _ hi']at this
   exact⟨⟨this.1.1.ext i2,this.1.2⟩,this.2⟩
  ·have:maxLen=9223372036854775807:=rfl
   omega
theorem b9i{v0:Value}{d0:DataW H0}{p0:List MemPlace}{c0:Nat}(h:InW prog ρ H w){b0:Nat}{cur0:Array Value}{t0:TypeId}{fr0:Nat×Nat}(hb0:w.heap[b0]? =some (.cells cur0 t0 fr0))(h0:DataW.Trod enc prog w base (fun _=>true) kZ 26 v0 d0 p0)(hval:Value.okWide prog w .any c0 26 v0):
 ∃(ρ':Rho)(H':Heap)(p:Pln),InW prog ρ' H' w∧ExtW ρ H ρ' H'∧V ρ' (.agg #[p.rv,p.dv,p.cv]) v0∧p.In H'∧p.Ok:=by
 obtain⟨cs,rfl,hsz⟩:=okWide_struct underlying26 hval
 rw[c8m]at hsz
 obtain⟨fuel,hf⟩:=h0
 obtain⟨l⟩:=cs
 have hl:l.length=3:=hsz
 match l,hl with
 | [x,y,z],_=>
   obtain⟨_,m,hf⟩:=a2T (cs:=[x,y,z]) underlying26 hf
   obtain⟨_,h0⟩:=hf 0 ⟨_,22,0,_,_,_,_⟩ rfl
   obtain⟨_,h1⟩:=hf 1 ⟨_,23,1,_,_,_,_⟩ rfl
   obtain⟨_,h2⟩:=hf 2 ⟨_,24,2,_,_,_,_⟩ rfl
   simp only[c7X,c8t,c7Y]at h0 h1 h2
   obtain⟨ρ1,H1,v1,xs,i1,i2,i3,i4,i5,i6⟩:=b9C h hb0 h0
   obtain⟨ρ2,H2,v2,ys,j1,j2,j3,j4,j5,j6⟩:=b9Y i1 hb0 h1
   obtain⟨ρ3,H3,v3,zs,k1,k2,k3,k4,k5,k6⟩:=b9n j1 hb0 h2
   refine⟨ρ3,H3,⟨v1,xs,v2,ys,v3,zs⟩,k1,i2.trans (j2.trans k2),.v1 (.agg ⟨i3.mono (j2.trans k2).le,j3.mono k2.le,k3,trivial⟩),⟨i4.ext (j2.trans k2),j4.ext k2,fun b hb=>⟨(j5 b hb).1.1.ext k2,(j5 b hb).1.2⟩,k4,i6,j6,k6⟩,i5,fun b hb=>(j5 b hb).2,k5⟩
theorem c2Y{v0:Value}{d0:DataW H0}{p0:List MemPlace}{c0:Nat}(h0:DataW.Trod enc prog w base (fun _=>true) kZ 27 v0 d0 p0)(hval:Value.okWide prog w .any c0 27 v0):
 ∃b:Nat→Nat,(∀i,b i<256)∧v0=.agg #[.int .u8 (b 0),.int .u8 (b 1),.int .u8 (b 2),.int .u8 (b 3),.int .u8 (b 4)]:=by
 simp only[Value.okWide,underlying27]at hval
 obtain⟨cs,rfl,_,_⟩:=hval
 obtain⟨fuel,hf⟩:=h0
 obtain⟨b,hb,he⟩:=b1Q hf
 obtain⟨l⟩:=cs
 have he:l=_:=he
 exact⟨b,hb,by rw[he]⟩
end
end Go.Ds
namespace Go.Ds
open Go.Proofs Go.ChangeShapes Go.WideShapes Go.RowKit Go.Deep
section
variable {H:Type} {enc:TypeId×Value→H}
theorem a3x{a:Assume}{C:Checked}{os:Os}{f:FuncId}{fn:Func}{s:ChangeSpec}{conds:List PathCond}{apart fresh handsOn again:Bool}{X:World→Array Value→Prop}
 (hX:∀(w w':World)(args:Array Value),w.heap=w'.heap→X w args→X w' args)
 (own:ownKnob C.prog.godebug=none) (started:os.Started) (noInit:C.prog.inits.idxOf? f=none) (hfn:C.prog.funcs[f]? =some fn)
 (witness:∃(w:World)(tape:Tape)(i:Input),w.os=os∧(w.forCall tape i).Shaped C.prog∧i.vars=[]∧Input.okWide C.prog (w.forCall tape i) .any w.heap.size f i∧
   ((s.pre enc C.prog fn conds apart (w.forCall tape i).memory i.args∧X (w.forCall tape i).memory i.args)∧sizedMet enc C.prog fn (OpenSpec.ofChange s) apart (w.forCall tape i).memory i.args)∧a.holds C.prog (lone (Frame.enter C.prog f i.args .normal) [] (w.forCall tape i)))
 (contract:∀(W:World)(args:Array Value)(ds gs:List (DataW H))(before:List MemPlace),W.ShapedOpen C.prog→
   (∃base,∀(j:Nat)t v,fn.params[j]? =some t→args[j]? =some v→Value.okWide C.prog W .any base t v)→
   DataW.Whole enc C.prog fn.params.toList s.vars apart W args.toList ds gs before→X W args→
   Calls C.prog f args W fun e W'=>∃v,e=.returned v∧s.post enc C.prog fn apart fresh handsOn again W args v W'):
 ReturnsInHanded a C os f .any (fun w args=>(s.pre enc C.prog fn conds apart w args∧X w args)∧sizedMet enc C.prog fn (OpenSpec.ofChange s) apart w args) (s.post enc C.prog fn apart fresh handsOn again):=by
 refine returnsInHanded_of_calls own started noInit witness ?_
 intro w tape i _ hsh _ hok hpre hholds
 obtain⟨_,_,_,fn',hfn',_,_,_,_,hval⟩:=hok
 obtain rfl:fn'=fn:=cT (hfn'.symm.trans hfn)
 obtain⟨⟨⟨ds,gs,before,hw,hc⟩,hx⟩,hz⟩:=hpre
 refine(contract (w.forCall tape i) i.args ds gs before hsh ⟨_,hval⟩ (DataW.Whole.of_heap (w':=w.forCall tape i) (by rfl) hw) (hX _ _ _ (by rfl) hx)).mono fun e W'⟨v,he,hp⟩=> ?_
 subst he
 exact ChangeSpec.post_blind hp
end
end Go.Ds
namespace Go.Proofs.YtkklaffajfjopaaGreatDoor
open Go.ChangeShapes Go.WideShapes Go.ChangeAt Go.RowKit Go.Deep Go.Ds
theorem own:ownKnob Tryz.prog.godebug=none:=by kernel_rfl
theorem laidOut:laidOutB Tryz.prog=true:=by kernel_rfl
end Go.Proofs.YtkklaffajfjopaaGreatDoor
