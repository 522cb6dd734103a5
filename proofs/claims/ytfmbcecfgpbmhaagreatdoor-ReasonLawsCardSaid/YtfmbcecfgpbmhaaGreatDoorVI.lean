/-
  A part of the proof of ReasonLaws.
-/
import Derived.Test.YtfmbcecfgpbmhaaGreatDoorVE
import Derived.Test.YtfmbcecfgpbmhaaGreatDoorVF
import Derived.Test.YtfmbcecfgpbmhaaGreatDoorVG
import Derived.Test.YtfmbcecfgpbmhaaGreatDoorVH
import Derived.Test.YtfmbcecfgpbmhaaGreatDoorVD
import Derived.Test.YtfmbcecfgpbmhaaGreatDoorVC
import Derived.WideShapes
import Derived.OpenShut
import Derived.Handed
import Derived.LaidMore
import Derived.ProofKit
import Derived.Stop.Joined
import Derived.Test.YtfmbcecfgpbmhaaGreatDoorRows
set_option linter.unusedVariables false
set_option linter.unusedSimpArgs false
set_option linter.defProp false
set_option linter.unusedSectionVars false
namespace Go.Ds
open Go.Proofs Go.Proofs.Tryz
variable {H:Heap}
theorem vD{P:Program}{k:FuncId}{args:List Value}{v:Value}{G:Heap}(hfa:∀x∈args,flat x=true)(hv:flat v=true)(h:Fn P k args G fun r _=>r=v)(hG:Glob G H):Fn P k args H fun r H'=>r=v∧St P H H' []:=by
 obtain⟨h1,r,H1,h2,rfl⟩:=h
 exact⟨h1,r,H,CallOk.bU hfa hv h2 hG,rfl,St.refl _ _⟩
theorem tA{fs:List FuncId}{α:Type}{ps:List α}{f:LT→α→Bool}(h:(uX prog fs .e fun T=>ps.all fun x=>f T x)=true):∃T,TOk prog T∧∀x∈ps,f T x=true:=by
 obtain⟨T,hT,e⟩:=a8O (P:=prog) fs .e (fun f g h=>by rw[yC]at h;cases h) (fun T=>ps.all fun x=>f T x)
 rw[e]at h
 exact⟨T,hT,dT.1 h⟩
theorem nS{T:LT}(hT:TOk prog T){k:FuncId}{args:List Value}{v:Value}{H1:Heap}(h:(nW T (exF prog T 4000) [] (lU k) args gH).Is v H1):Fn prog k args gH fun r _=>r=v:=
 ((yH hT (b9v c5M hT 4000) (fun en hen=>by cases hen) rfl h).1.fn).mono fun _ _ h=>h.1
theorem b0B{T:LT}(hT:TOk prog T){k:FuncId}{args:List Value}{n:Nat}(h:b4P (nW T (exF prog T 4000) [] (lU k) args gH) n=true):Fn prog k args gH fun r _=>r=.string (qV n):=by
 unfold b4P at h
 split at h
 ·rename_i b H1 e
  rw[←a6T (of_decide_eq_true h)]
  exact nS hT (.inl e)
 ·rename_i b H1 e
  rw[←a6T (of_decide_eq_true h)]
  exact nS hT (.inr e)
 ·cases h
theorem b3K{v:Value}{n:Nat}(h:c4H v n=true):v=.tuple #[.string (qV n),I 0]:=by
 unfold c4H at h
 split at h
 ·rename_i vs
  split at h
  ·rename_i b m e
   rw[dB,decide_eq_true_eq,decide_eq_true_eq]at h
   obtain⟨rfl,h⟩:=h
   rw[←a6T h]
   congr 1
   exact iX e
  ·cases h
 ·cases h
theorem b9i{T:LT}(hT:TOk prog T){k:FuncId}{args:List Value}{n:Nat}(h:c1O (nW T (exF prog T 4000) [] (lU k) args gH) n=true):Fn prog k args gH fun r _=>r=.tuple #[.string (qV n),I 0]:=by
 unfold c1O at h
 split at h
 ·rename_i v H1 e
  rw[←b3K h]
  exact nS hT (.inl e)
 ·rename_i v H1 e
  rw[←b3K h]
  exact nS hT (.inr e)
 ·cases h
theorem b9X{T:LT}(hT:TOk prog T){k:FuncId}{args:List Value}{n:Int}(h:b8f (nW T (exF prog T 4000) [] (lU k) args gH) n=true):Fn prog k args gH fun r _=>r=I n:=by
 unfold b8f at h
 split at h
 ·rename_i m H1 e
  rw[←of_decide_eq_true h]
  exact nS hT (.inl e)
 ·rename_i m H1 e
  rw[←of_decide_eq_true h]
  exact nS hT (.inr e)
 ·cases h
theorem c6a{ps:List Nat}(h:c5y ps=true)(hG:Glob gH H):∀x∈ps,Fn prog 192 [I x] H fun r H'=>r=.string (qV x)∧St prog H H' []:=by
 obtain⟨T,hT,h⟩:=tA h
 intro x hx
 exact vD (by simp[flat,kE,jZ]) rfl (b0B hT (h x hx)) hG
theorem c2L{ps:List Nat}(h:xA ps=true)(hG:Glob gH H):∀x∈ps,Fn prog 191 [.string (qV x),I 24] H fun r H'=>r=.tuple #[.string (qV (x^24)),I 0]∧St prog H H' []:=by
 obtain⟨T,hT,h⟩:=tA h
 intro x hx
 exact vD (by simp[flat,kE,jZ]) rfl (b9i hT (h x hx)) hG
theorem c2x{ps:List (Nat×Nat)}(h:nO ps=true)(hG:Glob gH H):∀x∈ps,Fn prog 193 [.string (qV x.1),.string (qV x.2)] H fun r H'=>r=.string (qV (x.1*x.2))∧St prog H H' []:=by
 obtain⟨T,hT,h⟩:=tA h
 intro x hx
 exact vD (by simp[flat,kE,jZ]) rfl (b0B hT (h x hx)) hG
theorem c4L{ps:List (Nat×Nat)}(h:wY ps=true)(hG:Glob gH H):∀x∈ps,Fn prog 194 [.string (qV x.1),.string (qV x.2)] H fun r H'=>r=I (b9A x.1 x.2)∧St prog H H' []:=by
 obtain⟨T,hT,h⟩:=tA h
 intro x hx
 exact vD (by simp[flat,kE,jZ]) rfl (b9X hT (h x hx)) hG
end Go.Ds
namespace Go.Ds
open Go.Proofs Go.Proofs.Tryz
variable {H:Heap}
set_option maxRecDepth 100000
def c6M:List (List Nat):=[[2,4,6,8],[10,12,14,16],[20,24,28,32],[40,48,56,64],[80,96,112,128],[160,192,256,320]]
def c0x:List (List (Nat×Nat)):=[[(2,0),(4,0),(6,5)],[(8,7)],[(10,8)],[(12,5),(14,2)],[(16,7)],[(20,8)],[(24,9)],[(28,2)],[(32,10)],[(40,8)],[(48,9)],[(56,9)],[(64,7)],[(80,8)],[(96,9)],[(112,2)],[(128,7)],[(256,4)]]
def c7E:List (List (Nat×Nat×Nat)):=[[(2,2,0),(4,4,0),(8,6,5),(8,8,0),(10,8,4),(12,8,7),(16,10,8),(16,12,5),(16,14,2)],[(16,16,0),(20,16,4),(24,16,7),(24,24,0),(32,20,8),(32,24,5),(32,28,2),(32,32,0)],[(40,24,9),(40,32,4),(40,40,0),(48,32,7),(48,40,3),(48,48,0),(56,32,10)],[(64,40,8),(64,48,5),(64,56,2),(64,64,0),(80,48,9),(80,56,6)],[(80,64,4),(80,80,0),(96,56,9),(96,64,7),(96,96,0),(128,80,8),(128,112,2)],[(160,96,9),(160,128,4),(192,128,7),(320,256,4)]]
abbrev nL:List Nat:=c6M.flatten
abbrev cL:List (Nat×Nat×Nat):=c7E.flatten
theorem d1a:∀l∈c6M,xA l=true:=by
 unfold c6M
 simp only[List.forall_mem_cons]
 exact⟨c8p,c9I,c8Y,d0o,c8O,c9T,fun _ h=>absurd h eO⟩
theorem d1E:∀l∈c0x,nO (l.flatMap uP)=true:=by
 unfold c0x
 simp only[List.forall_mem_cons]
 exact⟨c9d,c8q,c8L,c9k,c9c,c9b,c9m,d0w,c9o,c9J,c7h,c7u,c7G,c6I,c6b,c7K,c7V,c6U,fun _ h=>absurd h eO⟩
theorem d2q:∀l∈c7E,wY (l.flatMap a8f)=true:=by
 unfold c7E
 simp only[List.forall_mem_cons]
 exact⟨d0l,c8W,c8A,d0k,c8T,c8z,fun _ h=>absurd h eO⟩
theorem ofT(hG:Glob gH H)(x:Nat)(hx:x∈nL):Fn prog 192 [I x] H fun r H'=>r=.string (qV x)∧St prog H H' []:=c6a (ps:=nL) d1A hG x hx
theorem d0c(hG:Glob gH H)(x:Nat)(hx:x∈nL):Fn prog 191 [.string (qV x),I 24] H fun r H'=>r=.tuple #[.string (qV (x^24)),I 0]∧St prog H H' []:=by
 obtain⟨l,hl,hx⟩:=List.mem_flatten.1 hx
 exact c2L (d1a l hl) hG x hx
theorem d0C(hG:Glob gH H)(x:Nat×Nat){t:Nat×Nat}(ht:t∈c0x.flatten)(hx:x∈uP t):Fn prog 193 [.string (qV x.1),.string (qV x.2)] H fun r H'=>r=.string (qV (x.1*x.2))∧St prog H H' []:=by
 obtain⟨l,hl,ht⟩:=List.mem_flatten.1 ht
 exact c2x (d1E l hl) hG x (eM.2 ⟨t,ht,hx⟩)
theorem d1d(hG:Glob gH H)(x:Nat×Nat){t:Nat×Nat×Nat}(ht:t∈cL)(hx:x∈a8f t):Fn prog 194 [.string (qV x.1),.string (qV x.2)] H fun r H'=>r=I (b9A x.1 x.2)∧St prog H H' []:=by
 obtain⟨l,hl,ht⟩:=List.mem_flatten.1 ht
 exact c4L (d2q l hl) hG x (eM.2 ⟨t,ht,hx⟩)
theorem d0I:(cL.all fun s=>decide (s.1∈nL)&&decide (s.2.1∈nL)&&(c0x.flatten.any fun m=>decide (m.1=s.2.1)&&decide (s.2.2≤m.2))&&decide (s.2.2≤12)&&decide (s.1^24≤2*s.2.1^24*4^s.2.2)&&(List.range s.2.2).all fun k=>decide (2*s.2.1^24*4^k<s.1^24))=true:=by kernel_rfl
def up:Nat→Int×Int×Int→Int×Int×Int
 | 0,s=>s
 | n+1,s=>if s.1<s.2.1 then up n (s.1*2,s.2.1,s.2.2-12)else s
def dn:Nat→Int×Int×Int→Int×Int×Int
 | 0,s=>s
 | n+1,s=>if 2*s.2.1≤s.1 then dn n (s.1,s.2.1*2,s.2.2+12)else s
theorem c5a{s:Int×Int×Int}(h:¬s.1<s.2.1):∀n,up n s=s
 | 0=>rfl
 | n+1=>by rw[up,if_neg h]
theorem c3O{s:Int×Int×Int}(h:¬2*s.2.1≤s.1):∀n,dn n s=s
 | 0=>rfl
 | n+1=>by rw[dn,if_neg h]
def ent(s:Int×Int×Int):Option (Nat×Nat×Nat):=cL.find? fun c=>decide ((c.1:Int)=(dn 20 (up 20 s)).1∧(c.2.1:Int)=(dn 20 (up 20 s)).2.1)
def shF(a b:Int×Int):Int:=(dn 20 (up 20 (b.1*a.2,b.2*a.1,0))).2.2+(((ent (b.1*a.2,b.2*a.1,0)).map fun c=>(c.2.2:Int)).getD 0)
def nrm(s:Int×Int×Int):Bool:=decide (1≤s.1∧s.1≤1000∧1≤s.2.1∧s.2.1≤1000)&&decide (¬(up 20 s).1<(up 20 s).2.1)&&decide (¬2*(dn 20 (up 20 s)).2.1≤(dn 20 (up 20 s)).1)&&decide (-60≤(dn 20 (up 20 s)).2.2∧(dn 20 (up 20 s)).2.2≤60)&&(ent s).isSome
theorem c8K:(mM.all fun a=>nR.all fun b=>nrm (b.1*a.2,b.2*a.1,0)&&decide (pA a.1 a.2=0)&&decide (pA b.1 b.2=0))=true:=by kernel_rfl
end Go.Ds
namespace Go.Ds
open Go.Proofs Go.Proofs.Tryz
variable {H:Heap}
theorem St.gl{P:Program}{G H:Heap}{B:Heap}{os:List Ob}(hS:St P B H os)(hG:Glob G B):Glob G H:=
 ⟨dZ hG.len hS.len,fun A hA=>by rw[hS.ag A (eH hA hG.len)];exact hG.same A hA,hG.glob⟩
theorem d0G{s:Nat×Nat×Nat}(h:s∈cL):s.1∈nL∧s.2.1∈nL∧(∃m,m∈c0x.flatten∧m.1=s.2.1∧s.2.2≤m.2)∧s.2.2≤12∧s.1^24≤2*s.2.1^24*4^s.2.2∧∀k,k<s.2.2→2*s.2.1^24*4^k<s.1^24:=by
 have:=dT.1 d0I _ h
 simp only[dB,decide_eq_true_eq,iN]at this
 exact⟨this.1.1.1.1.1,this.1.1.1.1.2,this.1.1.1.2,this.1.1.2,this.1.2,fun k hk=>of_decide_eq_true (dT.1 this.2 k (dS.2 hk))⟩
def a8c(a b c d:Int):Int:=if pA a b≠0 then pA a b else pA c d
theorem c3X(a b c d:Int):Fn prog 167 [.agg #[I a,I b],.agg #[I c,I d]] H fun r H'=>r=I (a8c a b c d)∧St prog H H' []:=by
 refine .aE func167 rfl (by kernel_rfl) (m:=13) rfl fun l hn g0 g1=> ?_
 simp(disch:=omega) only[↓RA,RB,simprocAttr,g0]
 refine(sR H).eNew 2 [I a,I b] rfl rfl rfl uK fun A1 H1 hS1=> ?_
 simp only[RT]at hS1
 simp(disch:=omega) only[↓RA,RB,simprocAttr,g1]
 refine hS1.eNew 2 [I c,I d] rfl rfl rfl uK fun A2 H2 hS2=> ?_
 simp only[RT]at hS2
 simp(disch:=omega) only[↓RA,RZ,simprocAttr,hn,hS2.ae 0 rfl]
 refine hS2.cF (a3a a b) fun H3 hS3=> ?_
 simp(disch:=omega) only[↓RA,RB,simprocAttr,hn]
 refine jA (fun h=> ?_) (fun h=> ?_)
 ·simp(disch:=omega) only[↓RA,RZ,simprocAttr,hn,c5B,h]
  exact⟨by rw[a8c,if_pos h],hS3.forget⟩
 simp(disch:=omega) only[↓RA,RZ,simprocAttr,hn,hS3.ae 1 rfl,h]
 refine hS3.cF (a3a c d) fun H4 hS4=> ?_
 simp(disch:=omega) only[↓RA,RZ,simprocAttr,hn,c5B,h]
 exact⟨by rw[a8c,if_neg h],hS4.forget⟩
theorem c1o(hG:Glob gH H)(a b:Int×Int)(hr:nrm (b.1*a.2,b.2*a.1,0)=true):Fn prog 168 [.agg #[I a.1,I a.2],.agg #[I b.1,I b.2]] H fun r H'=>(r=I (shF a b)∧-100≤shF a b∧shF a b≤100)∧St prog H H' []:=by
 unfold nrm at hr
 simp only[dB,decide_eq_true_eq]at hr
 obtain⟨⟨⟨⟨hr0,hr1⟩,hr2⟩,hr3⟩,hen⟩:=hr
 obtain⟨⟨X,Y,K⟩,hen⟩:=fg.1 hen
 have hsh:shF a b=(dn 20 (up 20 (b.1*a.2,b.2*a.1,0))).2.2+(K:Int):=by
  unfold shF
  rw[hen]
  rfl
 rw[hsh]
 clear hsh
 have hc:(X,Y,K)∈cL:=gB hen
 have hXY:=iV hen
 rw[decide_eq_true_eq]at hXY
 obtain⟨hX,hY⟩:=hXY
 clear hen
 generalize hR1:up 20 (b.1*a.2,b.2*a.1,0)=R1 at hr1 hr2 hr3 hX hY
 generalize hR2:dn 20 R1=R2 at hr2 hr3 hX hY
 obtain⟨c1,c2,⟨m,c3,c4,c5⟩,c6,c7,c8⟩:=d0G hc
 simp only at c1 c2 c4 c5 c6 c7 c8 hX hY
 refine .aE func168 rfl (by kernel_rfl) (m:=61) rfl fun l hn g0 g1=> ?_
 simp(disch:=omega) only[↓RA,RB,simprocAttr,g0]
 refine(sR H).eNew 2 [I a.1,I a.2] rfl rfl rfl uK fun A1 H1 hS1=> ?_
 simp only[RT]at hS1
 simp(disch:=omega) only[↓RA,RB,simprocAttr,g1]
 refine hS1.eNew 2 [I b.1,I b.2] rfl rfl rfl uK fun A2 H2 hS2=> ?_
 simp only[RT]at hS2
 simp(disch:=omega) only[↓RA,RB,simprocAttr]
 refine Wp.drw kQ (by kernel_rfl) ?_
 simp(disch:=omega) only[↓RA,RZ,simprocAttr,hn,hS2.ld 1 rfl,hS2.ld 0 rfl]
 refine Wp.ak (fun n l H'=>l.length=61∧get l 4=I 0∧∃(x y t:Int),(up n (x,y,t)=R1∧1≤x∧x≤2000∧1≤y∧y≤1000∧n≤20∧-12*(20-(n:Int))≤t∧t≤0)∧get l 5=I x∧get l 6=I y∧get l 7=I t∧St prog H H' [⟨ptr A1 0 2,0,[I a.1,I a.2]⟩,⟨ptr A2 0 2,0,[I b.1,I b.2]⟩]) 20 ?_ ?_
 ·simp(disch:=omega) only[RB,RC,simprocAttr,hn]
  exact⟨_,_,_,by refine⟨hR1,?_⟩;omega,rfl,rfl,rfl,hS2⟩
 rintro n l H3⟨hn,g4,x,y,t,⟨u1,u2,u3,u4,u5,u6,u7,u8⟩,g5,g6,g7,hS3⟩
 simp(disch:=omega) only[↓RA,RB,simprocAttr,hn,g5,g6]
 refine jA (fun h=> ?_) (fun h=> ?_)
 ·simp(disch:=omega) only[↓RA,RZ,simprocAttr,hn,g4,g5,g6,g7,h]
  cases n with
  | zero=>
    rw[←u1]at hr1
    exact absurd h hr1
  | succ n=>
    rw[up,if_pos h]at u1
    exact⟨n,by omega,x*2,y,t-12,⟨u1,by omega,by omega,by omega,by omega,by omega,by omega,by omega⟩,rfl,rfl,rfl,hS3⟩
 rw[c5a h]at u1
 simp(disch:=omega) only[↓RA,RC,simprocAttr,h]
 refine Wp.ak (fun n l H'=>l.length=61∧get l 4=I 0∧∃(x2 y2 t2:Int),(dn n (x2,y2,t2)=R2∧x2=x∧1≤y2∧y2≤x2∧n≤20∧t2≤12*(20-(n:Int))∧-240≤t2)∧get l 5=I x2∧get l 6=I y2∧get l 7=I t2∧St prog H H' [⟨ptr A1 0 2,0,[I a.1,I a.2]⟩,⟨ptr A2 0 2,0,[I b.1,I b.2]⟩]) 20 ?_ ?_
 ·simp(disch:=omega) only[RB,RC,simprocAttr,hn,g4,g5,g6,g7]
  exact⟨_,_,_,by refine⟨by rw[u1];exact hR2,?_⟩;omega,rfl,rfl,rfl,hS3⟩
 rintro n l H4⟨hn,g4,x2,y2,t2,⟨v1,v2,v3,v4,v5,v6,v7⟩,g5,g6,g7,hS4⟩
 simp(disch:=omega) only[↓RA,RB,simprocAttr,hn,g5,g6]
 refine jA (fun h2=> ?_) (fun h2=> ?_)
 ·simp(disch:=omega) only[↓RA,RZ,simprocAttr,hn,g4,g5,g6,g7,h2]
  cases n with
  | zero=>
    rw[←v1]at hr2
    exact absurd h2 hr2
  | succ n=>
    rw[dn,if_pos h2]at v1
    exact⟨n,by omega,x2,y2*2,t2+12,⟨v1,v2,by omega,by omega,by omega,by omega,by omega⟩,rfl,rfl,rfl,hS4⟩
 rw[c3O (by simp only;omega)]at v1
 subst v1
 simp only at hX hY hr3
 subst hX
 subst hY
 simp(disch:=omega) only[↓RA,RZ,simprocAttr,hn,g5,h2]
 refine hS4.cF (ofT (hS4.gl hG) X c1) fun H5 hS5=> ?_
 simp(disch:=omega) only[↓RA,RZ,simprocAttr,hn,h2]
 refine hS5.cF (d0c (hS5.gl hG) X c1) fun H6 hS6=> ?_
 simp(disch:=omega) only[↓RA,RZ,simprocAttr,hn,g6,h2]
 refine hS6.cF (ofT (hS6.gl hG) Y c2) fun H7 hS7=> ?_
 simp(disch:=omega) only[↓RA,RZ,simprocAttr,hn,h2]
 refine hS7.cF (d0c (hS7.gl hG) Y c2) fun H8 hS8=> ?_
 simp(disch:=omega) only[↓RA,RZ,simprocAttr,hn,h2]
 refine hS8.cF (d0C (hS8.gl hG) (Y^24,2) c3 (by rw[←c4];exact eW ..)) fun H9 hS9=> ?_
 simp(disch:=omega) only[↓RA,RZ,simprocAttr,hn,h2]
 refine Wp.ak (fun n l H'=>l.length=61∧get l 4=I 0∧get l 8=(.string (qV (X^24)))∧∃(k:Nat),(n=13-k∧k≤K)∧get l 7=I (t2+k)∧get l 12=(.string (qV (2*Y^24*4^k)))∧St prog H H' [⟨ptr A1 0 2,0,[I a.1,I a.2]⟩,⟨ptr A2 0 2,0,[I b.1,I b.2]⟩]) 13 ?_ ?_
 ·simp(disch:=omega) only[RB,RC,simprocAttr,hn,g4,g7]
  exact⟨0,⟨rfl,by omega⟩,by simp,by simp[jh],hS9⟩
 rintro n l H10⟨hn,g4,g8,k,⟨hn3,hk⟩,g7,g12,hS10⟩
 simp(disch:=omega) only[↓RA,RZ,simprocAttr,hn,g8,g12]
 refine hS10.cF (d1d (hS10.gl hG) (X^24,2*Y^24*4^k) hc (dP.2 ⟨k,dS.2 (by simp only;omega),rfl⟩)) fun H11 hS11=> ?_
 simp(disch:=omega) only[↓RA,RB,simprocAttr,hn]
 refine jA (fun h3=> ?_) (fun h3=> ?_)
 ·have hlt:2*Y^24*4^k<X^24:=by
   refine iO fun hle=> ?_
   unfold b9A at h3
   split at h3
   ·omega
   ·split at h3
    ·omega
    ·omega
  have hkK:k<K:=by
   rcases gQ k K with e|e
   ·exact e
   ·have e:k=K:=by omega
    rw[e]at hlt
    omega
  simp(disch:=omega) only[↓RA,RZ,simprocAttr,hn,g7,g12,h3]
  refine hS11.cF (d0C (hS11.gl hG) (2*Y^24*4^k,4) c3 (by rw[←c4];exact eX _ (dP.2 ⟨k,dS.2 (by omega),rfl⟩))) fun H12 hS12=> ?_
  simp(disch:=omega) only[↓RA,RZ,simprocAttr,hn,g4,g8,h3]
  exact⟨12-k,by omega,k+1,⟨by omega,by omega⟩,by congr 1;omega,by rw[show 2*Y^24*4^(k+1)=2*Y^24*4^k*4 from by rw[Nat.pow_succ 4 k];simp only[Nat.mul_assoc]],hS12⟩
 have hkk:k=K:=by
  have hnl:¬2*Y^24*4^k<X^24:=fun hlt=>h3 (by
   unfold b9A
   rw[if_neg (by omega),if_pos hlt]
   decide)
  rcases gQ k K with e|e
  ·exact absurd (c8 k e) hnl
  ·omega
 simp(disch:=omega) only[↓RA,RZ,simprocAttr,hn,g7,c9x,h3]
 first|exact⟨⟨by rw[hkk],by omega,by omega⟩,hS11.forget⟩|exact⟨⟨by rw[hkk],by rw[←hkk];omega,by rw[←hkk];omega⟩,hS11.forget⟩
theorem b2W(hG:Glob gH H){a b:Int×Int}(h1:nrm (b.1*a.2,b.2*a.1,0)=true)(h2:pA a.1 a.2=0)(h3:pA b.1 b.2=0):Fn prog 121 [.agg #[I a.1,I a.2],.agg #[I b.1,I b.2]] H fun r H'=>(r=.tuple #[I (shF a b),I 0]∧-100≤shF a b∧shF a b≤100)∧St prog H H' []:=by
 refine .aE func121 rfl (by kernel_rfl) (m:=16) rfl fun l hn g0 g1=> ?_
 simp(disch:=omega) only[↓RA,RB,simprocAttr,g0]
 refine(sR H).eNew 2 [I a.1,I a.2] rfl rfl rfl uK fun A1 H1 hS1=> ?_
 simp only[RT]at hS1
 simp(disch:=omega) only[↓RA,RB,simprocAttr,g1]
 refine hS1.eNew 2 [I b.1,I b.2] rfl rfl rfl uK fun A2 H2 hS2=> ?_
 simp only[RT]at hS2
 simp(disch:=omega) only[↓RA,RZ,simprocAttr,hn,hS2.ae 0 rfl,hS2.ae 1 rfl]
 refine hS2.cF (c3X a.1 a.2 b.1 b.2) fun H3 hS3=> ?_
 have he:a8c a.1 a.2 b.1 b.2=0:=by unfold a8c;rw[h2,h3];rfl
 simp(disch:=omega) only[↓RA,RB,simprocAttr,hn]
 refine jA (fun h=> ?_) (fun h=> ?_)
 ·exact(h he).elim
 simp(disch:=omega) only[↓RA,RZ,simprocAttr,hn,hS3.ae 0 rfl,hS3.ae 1 rfl,h]
 refine jG (c1o (hS3.gl hG) a b h1) ?_
 rintro r H4⟨⟨rfl,hn1,hn2⟩,hT2⟩
 have hS4:=hS3.trans hT2
 simp only[RT]at hS4
 simp(disch:=omega) only[↓RA,RZ,simprocAttr,hn,c9S,h]
 first|exact⟨⟨rfl,hn1,hn2⟩,hS4.forget⟩|exact⟨⟨hn1,hn2⟩,hS4.forget⟩
theorem b2c(hG:Glob gH H){a b:Int×Int}(ha:a∈mM)(hb:b∈nR):Fn prog 121 [.agg #[I a.1,I a.2],.agg #[I b.1,I b.2]] H fun r H'=>(r=.tuple #[I (shF a b),I 0]∧-100≤shF a b∧shF a b≤100)∧St prog H H' []:=by
 have h:=dT.1 (dT.1 c8K a ha) b hb
 simp only[dB,decide_eq_true_eq]at h
 exact b2W hG h.1.1 h.1.2 h.2
theorem a5R(hG:Glob gH H){a b:Int×Int}(ha:a∈mM)(hb:b∈nR):Fn prog 121 [.agg #[I a.1,I a.2],.agg #[I b.1,I b.2]] H fun r H'=>(∃n:Int,r=.tuple #[I n,I 0]∧-100≤n∧n≤100)∧St prog H H' []:=
 (b2c hG ha hb).mono fun _ _ h=>⟨⟨_,h.1⟩,h.2⟩
end Go.Ds
namespace Go.Ds
open Go.Proofs Go.Proofs.Tryz
variable {P:Program} {H:Heap}
structure Pul where
 rank:Nat
 feet:Nat
 kind:Nat
 pos:Nat
 deriving Inhabited
def Pul.cells(p:Pul):List Value:=[.int .u8 p.rank,.int .u8 p.feet,.int .u8 p.kind,.int .u8 p.pos]
def Pul.Ok(p:Pul):Prop:=p.rank<256∧p.feet<256∧p.kind<256∧p.pos<256
section
variable {H':Heap} {os:List Ob}
theorem b9S(hS:St P H H' os)(a b:Nat){w1 w2:Value}{lo hi:Int}{ds:List Drw}(h1:os[a]? =some ⟨w1,2,ds.flatMap Drw.cells⟩)(h2:os[b]? =some ⟨w2,3,[I lo,I hi,w1]⟩)(hl:ds.length<1000000000)(nm:ByteArray)(num den:Int):
 Stp.Ix H' (fun B=>H.length≤B) ⟨nm,num,den,w2,[⟨lo,hi,w1,ds⟩]⟩:=by
 refine⟨hS.bY (xs:=[(⟨lo,hi,w1,ds⟩:Seg)]) b h2 (fun _=>rfl),?_,by simp⟩
 intro g hg
 obtain rfl:=dW.1 hg
 exact⟨hS.bY a h1 (fun _=>rfl),hl⟩
theorem d0f(hS:St P H H' os)(a b c:Nat){w1 w2 w3:Value}{lo m at' hi:Int}{ds ds':List Drw}(h1:os[a]? =some ⟨w1,2,ds.flatMap Drw.cells⟩)(h2:os[b]? =some ⟨w2,2,ds'.flatMap Drw.cells⟩)(h3:os[c]? =some ⟨w3,3,[I lo,I m,w1,I at',I hi,w2]⟩)
 (hl:ds.length<1000000000) (hl':ds'.length<1000000000) (nm:ByteArray) (num den:Int):Stp.Ix H' (fun B=>H.length≤B) ⟨nm,num,den,w3,[⟨lo,m,w1,ds⟩,⟨at',hi,w2,ds'⟩]⟩:=by
 refine⟨hS.bY (xs:=[(⟨lo,m,w1,ds⟩:Seg),⟨at',hi,w2,ds'⟩]) c h3 (fun _=>rfl),?_,by simp⟩
 intro g hg
 rcases ew.1 hg with rfl|hg
 ·exact⟨hS.bY a h1 (fun _=>rfl),hl⟩
 obtain rfl:=dW.1 hg
 exact⟨hS.bY b h2 (fun _=>rfl),hl'⟩
end
theorem c3I(hG:Glob gH H)(rv:Value)(rks:List Rk)(hr:Sl 6 Rk.cells H rv rks)(h0:0<rks.length)(h3:rks.length≤3)(hf:∀j,j<rks.length→((jB rks j).num,(jB rks j).den)∈nR)
 (lo hi:Int) (hlo:0≤lo) (hle:lo≤hi) (hhi:hi≤127) (p:Pul) (hp:p.Ok) (i:Nat) (hi10:i<10):
 Fn prog 86 [rv,.agg #[I lo,I hi],.agg #[.int .u8 p.rank,.int .u8 p.feet,.int .u8 p.kind,.int .u8 p.pos],I i] H fun r H'=>
  ∃s:Stp,r=.agg #[.string s.name,I s.num,I s.den,s.gv]∧s.Ix H' (fun B=>H.length≤B)∧StpOk rks.length lo hi i s∧St prog H H' []:=by
 obtain⟨p1,p2,p3,p4⟩:=hp
 refine .dg func86 rfl (by kernel_rfl) (m:=158) rfl fun l hn g0 g1 g2 g3=> ?_
 have hn1:(p.rank:Int).tmod rks.length=((p.rank%rks.length:Nat):Int):=(fq _ _).symm
 have hn2:p.rank%rks.length<rks.length:=fz _ h0
 have hk:(p.kind:Int).tmod 6=((p.kind%6:Nat):Int):=(fq _ _).symm
 obtain⟨q,hq,hq0,hq1⟩:∃q,(p.pos:Int).tmod (hi-lo+1)=q∧0≤q∧q<hi-lo+1:=⟨_,rfl,Int.tmod_nonneg _ (by omega),Int.tmod_lt_of_pos _ (by omega)⟩
 generalize hnn:p.rank%rks.length=n at hn1 hn2
 simp(disch:=omega) only[↓RA,RB,simprocAttr,g1]
 refine(sR H).eNew 2 [I lo,I hi] rfl rfl rfl rZ fun A1 H1 hS1=> ?_
 simp only[RT]at hS1
 simp(disch:=omega) only[↓RA,RB,simprocAttr,g2]
 refine hS1.eNew 4 [(.int .u8 p.rank),(.int .u8 p.feet),(.int .u8 p.kind),(.int .u8 p.pos)] rfl rfl rfl c0G fun A2 H2 hS2=> ?_
 simp only[RT]at hS2
 simp(disch:=omega) only[↓RA,RZ,simprocAttr]
 refine hS2.eNew 4 [(.string ⟨#[]⟩),I 0,I 0,(.slice none 0 0)] rfl rfl rfl sC fun A3 H3 hS3=> ?_
 simp only[RT]at hS3
 simp(disch:=omega) only[↓RA,RZ,simprocAttr,hn,g0,hS3.ld 1 rfl,(hS3.sl hr).len,hn1]
 refine Wp.cV kQ [6,7,8,0,1,2,3,4,5,9,10,11] [3,4,5,6,7,8,0,1,2,9,10,11] ⟨true,[],[(7,6)]⟩ [(5,0)] (by kernel_rfl) (by kernel_rfl) (by kernel_rfl) ?_
 simp(disch:=omega) only[↓RA,RZ,simprocAttr,hn]
 simp(disch:=omega) only[↓RA,RZ,simprocAttr,hn,hS3.ld 1 rfl]
 refine hS3.cF (b0J p.feet) fun H4 hS4=> ?_
 simp(disch:=omega) only[↓RA,RZ,simprocAttr,hn,g3]
 refine hS4.aj [_] b3S b3O rfl rfl (by simp[Value.cells]) rfl rfl (by decide) (by decide) fun w1 H5 hS5=> ?_
 simp only[RT]at hS5
 simp(disch:=omega) only[↓RA,RB,simprocAttr,hn,yJ (hS5.rd 3 rfl) pE.1 pE.2.1 pE.2.2,wD]
 simp(disch:=omega) only[↓RA,RZ,simprocAttr,b5y]
 refine hS5.eNew 4 [(.string ⟨#[]⟩),I 0,I 0,(.slice none 0 0)] rfl rfl rfl sC fun A4 H6 hS6=> ?_
 simp only[RT]at hS6
 simp(disch:=omega) only[↓RA,RB,simprocAttr,hn]
 refine hS6.aa 4 rfl [(.string ⟨#[83,UInt8.ofNat (48+(i:Int)).toNat]⟩),I (jB mM (p.feet%6)).1,I (jB mM (p.feet%6)).2,(.slice none 0 0)] rfl rfl sC (by simp) fun H7 hS7=> ?_
 simp only[RT]at hS7
 simp(disch:=omega) only[↓RA,RZ,simprocAttr,hn]
 refine Wp.drw kQ (by kernel_rfl) ?_
 simp(disch:=omega) only[↓RA,RZ,simprocAttr,hn,g0,hS7.ae 4 rfl,(hS7.sl hr).idx,(hS7.sl hr).aZ,(hS7.sl hr).cK 2,Rk.cells]
 refine jG (a5R (hS7.gl hG) (a:=jB mM (p.feet%6)) (b:=((jB rks n).num,(jB rks n).den)) (jE (fz _ (by decide))) (hf n hn2)) ?_
 rintro r H8⟨⟨sh,rfl,hs1,hs2⟩,hT2⟩
 have hS8:=hS7.trans hT2
 simp only[RT]at hS8
 simp(disch:=omega) only[↓RA,RB,simprocAttr,hn,uS]
 refine hS8.aj [I n,I sh] a5v a6a rfl rfl (by simp[Value.cells]) rfl rfl (by decide) (by decide) fun w2 H9 hS9=> ?_
 simp only[RT]at hS9
 simp(disch:=omega) only[↓RA,RB,simprocAttr,hn]
 refine Wp.drw kQ (by kernel_rfl) ?_
 simp(disch:=omega) only[↓RA,RZ,simprocAttr,hn,hS9.ld 0 rfl,hS9.ld 1 rfl,hk,hq]
 have he:(48+(i:Int)).toNat=48+i:=by omega
 have fin:∀(H':Heap)(s:Stp),s.name=nm 83 i→s.num=(jB mM (p.feet%6)).1→s.den=(jB mM (p.feet%6)).2→s.Ix H' (fun B=>H.length≤B)→0<s.segs.length→s.segs.length≤2→mX (mD lo hi rks.length s.segs) s.segs.length=0→St prog H H' []→
  ∃s':Stp,(.agg #[.string ⟨#[83,UInt8.ofNat (48+(i:Int)).toNat]⟩,I (jB mM (p.feet%6)).1,I (jB mM (p.feet%6)).2,s.gv]:Value)=.agg #[.string s'.name,I s'.num,I s'.den,s'.gv]∧s'.Ix H' (fun B=>H.length≤B)∧StpOk rks.length lo hi i s'∧St prog H H' []:=
  fun H' s e1 e2 e3 hx hp1 hp2 hsc hS=>⟨s,by rw[e1,e2,e3,he];rfl,hx,⟨e1,by rw[e2,e3];exact jE (fz _ (by decide)),hp1,hp2,hsc⟩,hS⟩
 have d1:mS rks.length [⟨n,sh⟩]=0:=b2x _ _ _ (by omega) (by omega) (by omega) (by omega)
 refine jA (fun k2=> ?_) (fun k2=> ?_)
 ·simp(disch:=omega) only[↓RA,RZ,simprocAttr,hn,hS9.ld 0 rfl,uS,k2]
  refine hS9.aj [I n,I sh,I n,_] a5v a6a rfl rfl (by simp[Value.cells]) rfl rfl (by decide) (by decide) fun w3 H10 hS10=> ?_
  simp only[RT]at hS10
  simp(disch:=omega) only[↓RA,RZ,simprocAttr,hn,mT (hS10.rd 6 rfl).cells,k2]
  refine hS10.aj [I lo,I hi,w3] sD zO rfl rfl (by first|(simp[];done)|simp[Value.cells]) (by first|(simp[];done)|simp[Value.cells]) (by simp[OC,(hS10.rd 6 rfl).cells.2.1]) (by decide) (by decide) fun w4 H11 hS11=> ?_
  simp only[RT]at hS11
  simp(disch:=omega) only[↓RA,RZ,simprocAttr,hn,k2]
  refine hS11.aa 4 rfl [w4] (by rw[(hS11.rd 7 rfl).cells.1]) (by simp[(hS11.rd 7 rfl).cells.2.1]) zF (by simp) fun H12 hS12=> ?_
  simp only[RT]at hS12
  simp(disch:=omega) only[↓RA,RZ,simprocAttr,hn,hS12.ae 4 rfl,k2]
  refine hS12.aa 2 rfl [(.string ⟨#[83,UInt8.ofNat (48+(i:Int)).toNat]⟩),I (jB mM (p.feet%6)).1,I (jB mM (p.feet%6)).2,w4] rfl (by simp[OC,(hS12.rd 7 rfl).cells.2.1]) sC (by simp) fun H13 hS13=> ?_
  simp only[RT]at hS13
  simp(disch:=omega) only[↓RA,RZ,simprocAttr,hn,b1M,hS13.ae 2 rfl,k2]
  exact fin _ ⟨_,_,_,w4,[⟨lo,hi,w3,[⟨n,sh⟩,⟨n,sh+7⟩]⟩]⟩ rfl rfl rfl (b9S hS13 6 7 rfl rfl (by simp) _ _ _) (by simp) (by simp) (a8d _ _ _ _ _ _ _ (by omega) hle (by omega) (c7x _ _ _ _ (by omega) (by omega) (by omega) (by omega) (by omega) (by omega) (by omega))) hS13.forget
 simp(disch:=omega) only[↓RA,RZ,simprocAttr,hn,k2]
 refine jA (fun k3=> ?_) (fun k3=> ?_)
 ·simp(disch:=omega) only[↓RA,RZ,simprocAttr,hn,uS,k3]
  refine hS9.aj [I n,_] a5v a6a rfl rfl (by simp[Value.cells]) rfl rfl (by decide) (by decide) fun w5 H14 hS14=> ?_
  simp only[RT]at hS14
  simp(disch:=omega) only[↓RA,RZ,simprocAttr,hn,g0,hS14.ld 1 rfl,hk,k3]
  ·have hm1:((n:Int)+1).tmod rks.length=(((n+1)%rks.length:Nat):Int):=(fq (n+1) _).symm
   have hm2:(n+1)%rks.length<rks.length:=fz _ h0
   generalize hm:(n+1)%rks.length=m at hm1 hm2
   simp(disch:=omega) only[↓RA,RZ,simprocAttr,hn,(hS14.sl hr).len,k3,hm1]
   refine Wp.drw kQ (by kernel_rfl) ?_
   simp(disch:=omega) only[↓RA,RZ,simprocAttr,hn]
   simp(disch:=omega) only[↓RA,RZ,simprocAttr,hn,g0,hS14.ae 4 rfl,(hS14.sl hr).idx,(hS14.sl hr).aZ,(hS14.sl hr).cK 2,Rk.cells]
   refine jG (a5R (hS14.gl hG) (a:=jB mM (p.feet%6)) (b:=((jB rks m).num,(jB rks m).den)) (jE (fz _ (by decide))) (hf m hm2)) ?_
   rintro r H15⟨⟨ot,rfl,ht1,ht2⟩,hT3⟩
   have hS15:=hS14.trans hT3
   simp only[RT]at hS15
   simp(disch:=omega) only[↓RA,RB,simprocAttr,hn,uS]
   refine hS15.aj [I m,I ot] a5v a6a rfl rfl (by simp[Value.cells]) rfl rfl (by decide) (by decide) fun w6 H16 hS16=> ?_
   simp only[RT]at hS16
   simp(disch:=omega) only[↓RA,RZ,simprocAttr,hn,hS16.ld 0 rfl]
   have d2:mS rks.length [⟨m,ot⟩]=0:=b2x _ _ _ (by omega) (by omega) (by omega) (by omega)
   refine jA (fun ka=> ?_) (fun ka=> ?_)
   ·simp(disch:=omega) only[↓RA,RZ,simprocAttr,hn,hS16.ld 4 rfl,hS16.ld 0 rfl,ka]
    simp(disch:=omega) only[↓RA,RZ,simprocAttr,hn,mT (hS16.rd 5 rfl).cells,ka]
    refine hS16.aj [I lo,I (lo+q-1),w2] sD zO rfl rfl (by first|(simp[];done)|simp[Value.cells]) (by first|(simp[];done)|simp[Value.cells]) (by simp[OC,(hS16.rd 5 rfl).cells.2.1]) (by decide) (by decide) fun w7 H17 hS17=> ?_
    simp only[RT]at hS17
    simp(disch:=omega) only[↓RA,RZ,simprocAttr,hn,ka]
    have hS18:=hS17.nil 2
    simp only[RT]at hS18
    refine hS18.aq 9 rfl (hS18.rd 8 rfl) sD (by first|(simp;done)|(simp;omega)) fun w8 H18 hS19=> ?_
    simp only[RT]at hS19
    simp(disch:=omega) only[↓RA,RZ,simprocAttr,hn,ka]
    refine hS19.aa 4 rfl [w8] (by rw[(hS19.rd 9 rfl).cells.1]) (by simp[(hS19.rd 9 rfl).cells.2.1]) zF (by simp) fun H19 hS20=> ?_
    simp only[RT]at hS20
    simp(disch:=omega) only[↓RA,RZ,simprocAttr,hn,hS20.ld 4 rfl,hS20.ld 0 rfl,mT (hS20.rd 7 rfl).cells,ka]
    refine hS20.aj [I (lo+q),I hi,w6] sD zO rfl rfl (by first|(simp[];done)|simp[Value.cells]) (by first|(simp[];done)|simp[Value.cells]) (by simp[OC,(hS20.rd 7 rfl).cells.2.1]) (by decide) (by decide) fun w9 H20 hS21=> ?_
    simp only[RT]at hS21
    simp(disch:=omega) only[↓RA,RZ,simprocAttr,hn,ka]
    refine hS21.aq 9 rfl (hS21.rd 10 rfl) sD (by first|(simp;done)|(simp;omega)) fun w10 H21 hS22=> ?_
    simp only[RT]at hS22
    simp(disch:=omega) only[↓RA,RZ,simprocAttr,hn,ka]
    refine hS22.aa 4 rfl [w10] (by rw[(hS22.rd 9 rfl).cells.1]) (by simp[(hS22.rd 9 rfl).cells.2.1]) zF (by simp) fun H22 hS23=> ?_
    simp only[RT]at hS23
    simp(disch:=omega) only[↓RA,RZ,simprocAttr,hn,hS23.ae 4 rfl,ka]
    refine hS23.aa 2 rfl [(.string ⟨#[83,UInt8.ofNat (48+(i:Int)).toNat]⟩),I (jB mM (p.feet%6)).1,I (jB mM (p.feet%6)).2,w10] rfl (by simp[OC,(hS23.rd 9 rfl).cells.2.1]) sC (by simp) fun H23 hS24=> ?_
    simp only[RT]at hS24
    simp(disch:=omega) only[↓RA,RZ,simprocAttr,hn,b1M,hS24.ae 2 rfl,ka]
    exact fin _ ⟨_,_,_,w10,[⟨lo,lo+q-1,w2,[⟨n,sh⟩]⟩,⟨lo+q,hi,w6,[⟨m,ot⟩]⟩]⟩ rfl rfl rfl (d0f hS24 5 7 9 rfl rfl rfl (by simp) (by simp) _ _ _) (by simp) (by simp) (c5O _ _ _ _ _ _ _ _ (by omega) (by omega) d1 d2) hS24.forget
   simp(disch:=omega) only[↓RA,RZ,simprocAttr,hn,hS16.ld 4 rfl,hS16.ld 0 rfl,mT (hS16.rd 7 rfl).cells,ka]
   refine hS16.aj [I (lo+q),I hi,w6] sD zO rfl rfl (by first|(simp[];done)|simp[Value.cells]) (by first|(simp[];done)|simp[Value.cells]) (by simp[OC,(hS16.rd 7 rfl).cells.2.1]) (by decide) (by decide) fun w11 H24 hS25=> ?_
   simp only[RT]at hS25
   simp(disch:=omega) only[↓RA,RZ,simprocAttr,hn,ka]
   have hS26:=hS25.nil 2
   simp only[RT]at hS26
   refine hS26.aq 9 rfl (hS26.rd 8 rfl) sD (by first|(simp;done)|(simp;omega)) fun w12 H25 hS27=> ?_
   simp only[RT]at hS27
   simp(disch:=omega) only[↓RA,RZ,simprocAttr,hn,ka]
   refine hS27.aa 4 rfl [w12] (by rw[(hS27.rd 9 rfl).cells.1]) (by simp[(hS27.rd 9 rfl).cells.2.1]) zF (by simp) fun H26 hS28=> ?_
   simp only[RT]at hS28
   simp(disch:=omega) only[↓RA,RZ,simprocAttr,hn,hS28.ae 4 rfl,ka]
   refine hS28.aa 2 rfl [(.string ⟨#[83,UInt8.ofNat (48+(i:Int)).toNat]⟩),I (jB mM (p.feet%6)).1,I (jB mM (p.feet%6)).2,w12] rfl (by simp[OC,(hS28.rd 9 rfl).cells.2.1]) sC (by simp) fun H27 hS29=> ?_
   simp only[RT]at hS29
   simp(disch:=omega) only[↓RA,RZ,simprocAttr,hn,b1M,hS29.ae 2 rfl,ka]
   exact fin _ ⟨_,_,_,w12,[⟨lo+q,hi,w6,[⟨m,ot⟩]⟩]⟩ rfl rfl rfl (b9S hS29 7 9 rfl rfl (by simp) _ _ _) (by simp) (by simp) (a8d _ _ _ _ _ _ _ (by omega) (by omega) (by omega) d2) hS29.forget
 simp(disch:=omega) only[↓RA,RZ,simprocAttr,hn,k2,k3]
 refine jA (fun k4=> ?_) (fun k4=> ?_)
 ·simp(disch:=omega) only[↓RA,RZ,simprocAttr,hn,uS,k4]
  refine hS9.aj [I n,_] a5v a6a rfl rfl (by simp[Value.cells]) rfl rfl (by decide) (by decide) fun w13 H28 hS30=> ?_
  simp only[RT]at hS30
  simp(disch:=omega) only[↓RA,RZ,simprocAttr,hn,hS30.ld 1 rfl,hk,k4]
  simp(disch:=omega) only[↓RA,RZ,simprocAttr,hn,hS30.ld 0 rfl,k4]
  have d2:mS rks.length [⟨n,sh-12⟩]=0:=b2x _ _ _ (by omega) (by omega) (by omega) (by omega)
  refine jA (fun ka=> ?_) (fun ka=> ?_)
  ·simp(disch:=omega) only[↓RA,RZ,simprocAttr,hn,hS30.ld 4 rfl,hS30.ld 0 rfl,k4,ka]
   simp(disch:=omega) only[↓RA,RZ,simprocAttr,hn,mT (hS30.rd 5 rfl).cells,k4,ka]
   refine hS30.aj [I lo,I (lo+q-1),w2] sD zO rfl rfl (by first|(simp[];done)|simp[Value.cells]) (by first|(simp[];done)|simp[Value.cells]) (by simp[OC,(hS30.rd 5 rfl).cells.2.1]) (by decide) (by decide) fun w14 H29 hS31=> ?_
   simp only[RT]at hS31
   simp(disch:=omega) only[↓RA,RZ,simprocAttr,hn,k4,ka]
   have hS32:=hS31.nil 2
   simp only[RT]at hS32
   refine hS32.aq 8 rfl (hS32.rd 7 rfl) sD (by first|(simp;done)|(simp;omega)) fun w15 H30 hS33=> ?_
   simp only[RT]at hS33
   simp(disch:=omega) only[↓RA,RZ,simprocAttr,hn,k4,ka]
   refine hS33.aa 4 rfl [w15] (by rw[(hS33.rd 8 rfl).cells.1]) (by simp[(hS33.rd 8 rfl).cells.2.1]) zF (by simp) fun H31 hS34=> ?_
   simp only[RT]at hS34
   simp(disch:=omega) only[↓RA,RZ,simprocAttr,hn,hS34.ld 4 rfl,hS34.ld 0 rfl,mT (hS34.rd 6 rfl).cells,k4,ka]
   refine hS34.aj [I (lo+q),I hi,w13] sD zO rfl rfl (by first|(simp[];done)|simp[Value.cells]) (by first|(simp[];done)|simp[Value.cells]) (by simp[OC,(hS34.rd 6 rfl).cells.2.1]) (by decide) (by decide) fun w16 H32 hS35=> ?_
   simp only[RT]at hS35
   simp(disch:=omega) only[↓RA,RZ,simprocAttr,hn,k4,ka]
   refine hS35.aq 8 rfl (hS35.rd 9 rfl) sD (by first|(simp;done)|(simp;omega)) fun w17 H33 hS36=> ?_
   simp only[RT]at hS36
   simp(disch:=omega) only[↓RA,RZ,simprocAttr,hn,k4,ka]
   refine hS36.aa 4 rfl [w17] (by rw[(hS36.rd 8 rfl).cells.1]) (by simp[(hS36.rd 8 rfl).cells.2.1]) zF (by simp) fun H34 hS37=> ?_
   simp only[RT]at hS37
   simp(disch:=omega) only[↓RA,RZ,simprocAttr,hn,hS37.ae 4 rfl,k4,ka]
   refine hS37.aa 2 rfl [(.string ⟨#[83,UInt8.ofNat (48+(i:Int)).toNat]⟩),I (jB mM (p.feet%6)).1,I (jB mM (p.feet%6)).2,w17] rfl (by simp[OC,(hS37.rd 8 rfl).cells.2.1]) sC (by simp) fun H35 hS38=> ?_
   simp only[RT]at hS38
   simp(disch:=omega) only[↓RA,RZ,simprocAttr,hn,b1M,hS38.ae 2 rfl,k4,ka]
   exact fin _ ⟨_,_,_,w17,[⟨lo,lo+q-1,w2,[⟨n,sh⟩]⟩,⟨lo+q,hi,w13,[⟨n,sh-12⟩]⟩]⟩ rfl rfl rfl (d0f hS38 5 6 8 rfl rfl rfl (by simp) (by simp) _ _ _) (by simp) (by simp) (c5O _ _ _ _ _ _ _ _ (by omega) (by omega) d1 d2) hS38.forget
  simp(disch:=omega) only[↓RA,RZ,simprocAttr,hn,hS30.ld 4 rfl,hS30.ld 0 rfl,mT (hS30.rd 6 rfl).cells,k4,ka]
  refine hS30.aj [I (lo+q),I hi,w13] sD zO rfl rfl (by first|(simp[];done)|simp[Value.cells]) (by first|(simp[];done)|simp[Value.cells]) (by simp[OC,(hS30.rd 6 rfl).cells.2.1]) (by decide) (by decide) fun w18 H36 hS39=> ?_
  simp only[RT]at hS39
  simp(disch:=omega) only[↓RA,RZ,simprocAttr,hn,k4,ka]
  have hS40:=hS39.nil 2
  simp only[RT]at hS40
  refine hS40.aq 8 rfl (hS40.rd 7 rfl) sD (by first|(simp;done)|(simp;omega)) fun w19 H37 hS41=> ?_
  simp only[RT]at hS41
  simp(disch:=omega) only[↓RA,RZ,simprocAttr,hn,k4,ka]
  refine hS41.aa 4 rfl [w19] (by rw[(hS41.rd 8 rfl).cells.1]) (by simp[(hS41.rd 8 rfl).cells.2.1]) zF (by simp) fun H38 hS42=> ?_
  simp only[RT]at hS42
  simp(disch:=omega) only[↓RA,RZ,simprocAttr,hn,hS42.ae 4 rfl,k4,ka]
  refine hS42.aa 2 rfl [(.string ⟨#[83,UInt8.ofNat (48+(i:Int)).toNat]⟩),I (jB mM (p.feet%6)).1,I (jB mM (p.feet%6)).2,w19] rfl (by simp[OC,(hS42.rd 8 rfl).cells.2.1]) sC (by simp) fun H39 hS43=> ?_
  simp only[RT]at hS43
  simp(disch:=omega) only[↓RA,RZ,simprocAttr,hn,b1M,hS43.ae 2 rfl,k4,ka]
  exact fin _ ⟨_,_,_,w19,[⟨lo+q,hi,w13,[⟨n,sh-12⟩]⟩]⟩ rfl rfl rfl (b9S hS43 6 8 rfl rfl (by simp) _ _ _) (by simp) (by simp) (a8d _ _ _ _ _ _ _ (by omega) (by omega) (by omega) d2) hS43.forget
 simp(disch:=omega) only[↓RA,RZ,simprocAttr,hn,k2,k3,k4]
 refine jA (fun k5=> ?_) (fun k5=> ?_)
 ·simp(disch:=omega) only[↓RA,RZ,simprocAttr,hn,hS9.ld 0 rfl,mT (hS9.rd 5 rfl).cells,k5]
  refine hS9.aj [I (lo+q),I hi,w2] sD zO rfl rfl (by first|(simp[];done)|simp[Value.cells]) (by first|(simp[];done)|simp[Value.cells]) (by simp[OC,(hS9.rd 5 rfl).cells.2.1]) (by decide) (by decide) fun w20 H40 hS44=> ?_
  simp only[RT]at hS44
  simp(disch:=omega) only[↓RA,RZ,simprocAttr,hn,k5]
  refine hS44.aa 4 rfl [w20] (by rw[(hS44.rd 6 rfl).cells.1]) (by simp[(hS44.rd 6 rfl).cells.2.1]) zF (by simp) fun H41 hS45=> ?_
  simp only[RT]at hS45
  simp(disch:=omega) only[↓RA,RZ,simprocAttr,hn,hS45.ae 4 rfl,k5]
  refine hS45.aa 2 rfl [(.string ⟨#[83,UInt8.ofNat (48+(i:Int)).toNat]⟩),I (jB mM (p.feet%6)).1,I (jB mM (p.feet%6)).2,w20] rfl (by simp[OC,(hS45.rd 6 rfl).cells.2.1]) sC (by simp) fun H42 hS46=> ?_
  simp only[RT]at hS46
  simp(disch:=omega) only[↓RA,RZ,simprocAttr,hn,b1M,hS46.ae 2 rfl,k5]
  exact fin _ ⟨_,_,_,w20,[⟨lo+q,hi,w2,[⟨n,sh⟩]⟩]⟩ rfl rfl rfl (b9S hS46 5 6 rfl rfl (by simp) _ _ _) (by simp) (by simp) (a8d _ _ _ _ _ _ _ (by omega) (by omega) (by omega) d1) hS46.forget
 simp(disch:=omega) only[↓RA,RZ,simprocAttr,hn,hS9.ld 0 rfl,mT (hS9.rd 5 rfl).cells,k2,k3,k4,k5]
 refine hS9.aj [I lo,I hi,w2] sD zO rfl rfl (by first|(simp[];done)|simp[Value.cells]) (by first|(simp[];done)|simp[Value.cells]) (by simp[OC,(hS9.rd 5 rfl).cells.2.1]) (by decide) (by decide) fun w21 H43 hS47=> ?_
 simp only[RT]at hS47
 simp(disch:=omega) only[↓RA,RZ,simprocAttr,hn,k2,k3,k4,k5]
 refine hS47.aa 4 rfl [w21] (by rw[(hS47.rd 6 rfl).cells.1]) (by simp[(hS47.rd 6 rfl).cells.2.1]) zF (by simp) fun H44 hS48=> ?_
 simp only[RT]at hS48
 simp(disch:=omega) only[↓RA,RZ,simprocAttr,hn,hS48.ae 4 rfl,k2,k3,k4,k5]
 refine hS48.aa 2 rfl [(.string ⟨#[83,UInt8.ofNat (48+(i:Int)).toNat]⟩),I (jB mM (p.feet%6)).1,I (jB mM (p.feet%6)).2,w21] rfl (by simp[OC,(hS48.rd 6 rfl).cells.2.1]) sC (by simp) fun H45 hS49=> ?_
 simp only[RT]at hS49
 simp(disch:=omega) only[↓RA,RZ,simprocAttr,hn,b1M,hS49.ae 2 rfl,k2,k3,k4,k5]
 exact fin _ ⟨_,_,_,w21,[⟨lo,hi,w2,[⟨n,sh⟩]⟩]⟩ rfl rfl rfl (b9S hS49 5 6 rfl rfl (by simp) _ _ _) (by simp) (by simp) (a8d _ _ _ _ _ _ _ (by omega) hle (by omega) d1) hS49.forget
structure Brd where
 low:Nat
 keys:Nat
 pedal:Bool
 sv:Value
 stops:List Pul
 deriving Inhabited
structure Lnk where
 src:Nat
 dst:Nat
 shift:Int
 thr:Bool
 deriving Inhabited
structure Pln where
 rv:Value
 ranks:List RPl
 dv:Value
 dvs:List Brd
 cv:Value
 cpls:List Lnk
 deriving Inhabited
def Brd.cells(b:Brd):List Value:=[.int .u8 b.low,.int .u8 b.keys,.bool b.pedal,b.sv]
def Lnk.cells(l:Lnk):List Value:=[.int .u8 l.src,.int .u8 l.dst,.int .i8 l.shift,.bool l.thr]
def Pln.cells(p:Pln):List Value:=[p.rv,p.dv,p.cv]
def Brd.In(H:Heap)(b:Brd):Prop:=Sl 4 Pul.cells H b.sv b.stops∧b.stops.length<9223372036854775808
def Pln.In(H:Heap)(p:Pln):Prop:=Sl 9 RPl.cells H p.rv p.ranks∧Sl 4 Brd.cells H p.dv p.dvs∧(∀b∈p.dvs,b.In H)∧Sl 4 Lnk.cells H p.cv p.cpls∧p.ranks.length<9223372036854775808∧p.dvs.length<9223372036854775808∧p.cpls.length<9223372036854775808
def Brd.Ok(b:Brd):Prop:=b.low<256∧b.keys<256∧∀s∈b.stops,s.Ok
def Lnk.Ok(l:Lnk):Prop:=l.src<256∧l.dst<256∧-128≤l.shift∧l.shift<128
def Pln.Ok(p:Pln):Prop:=(∀r∈p.ranks,r.Ok)∧(∀b∈p.dvs,b.Ok)∧∀l∈p.cpls,l.Ok
theorem Brd.In.ag{H0:Heap}{os:List Ob}{b:Brd}(h:b.In H0)(hS:St P H0 H os):b.In H:=⟨hS.sl h.1,h.2⟩
theorem Pln.In.ag{H0:Heap}{os:List Ob}{p:Pln}(h:p.In H0)(hS:St P H0 H os):p.In H:=⟨hS.sl h.1,hS.sl h.2.1,fun b hb=>(h.2.2.1 b hb).ag hS,hS.sl h.2.2.2.1,h.2.2.2.2⟩
def tV(p:Pln):Bool:=decide (1≤p.ranks.length)&&decide (p.ranks.length≤3)&&decide (1≤p.dvs.length)&&decide (p.dvs.length≤3)&&decide (p.cpls.length≤3)&&p.dvs.all fun b=>decide (b.stops.length≤3)
theorem c2O(p:Pln)(hp:p.In H):Fn prog 13 [.agg #[p.rv,p.dv,p.cv]] H fun r H'=>r=.bool (tV p)∧St prog H H' []:=by
 have hl1:=hp.2.2.2.2.1
 have hl2:=hp.2.2.2.2.2.1
 have hl3:=hp.2.2.2.2.2.2
 have no:¬(1≤p.ranks.length∧p.ranks.length≤3∧1≤p.dvs.length∧p.dvs.length≤3∧p.cpls.length≤3)→tV p=false:=fun hh=>by
  rw[←gF]
  unfold tV
  simp only[dB,decide_eq_true_eq]
  exact fun h=>hh ⟨h.1.1.1.1.1,h.1.1.1.1.2,h.1.1.1.2,h.1.1.2,h.1.2⟩
 refine .aN func13 rfl (by kernel_rfl) (m:=47) rfl fun l hn g0=> ?_
 simp(disch:=omega) only[↓RA,RB,simprocAttr,g0]
 refine(sR H).eNew 3 [p.rv,p.dv,p.cv] rfl rfl (by simp[((sR H).sl hp.1).cells.2.1,((sR H).sl hp.2.1).cells.2.1,((sR H).sl hp.2.2.2.1).cells.2.1]) c1T fun A1 H1 hS1=> ?_
 simp only[RT]at hS1
 simp(disch:=omega) only[↓RA,RZ,simprocAttr,hn,hS1.ld 0 rfl,(hS1.sl hp.1).len]
 refine jL (fun h1=> ?_) (fun h1=> ?_)
 ·simp(disch:=omega) only[↓RA,RZ,simprocAttr,hn,b3t,h1]
  exact⟨by rw[no (by omega)],hS1.forget⟩
 simp(disch:=omega) only[↓RA,RZ,simprocAttr,hn,hS1.ld 0 rfl,(hS1.sl hp.1).len,h1]
 refine jL (fun h2=> ?_) (fun h2=> ?_)
 ·simp(disch:=omega) only[↓RA,RZ,simprocAttr,hn,b3t,h1,h2]
  exact⟨by rw[no (by omega)],hS1.forget⟩
 simp(disch:=omega) only[↓RA,RZ,simprocAttr,hn,hS1.ld 0 rfl,(hS1.sl hp.2.1).len,h1,h2]
 refine jL (fun h3=> ?_) (fun h3=> ?_)
 ·simp(disch:=omega) only[↓RA,RZ,simprocAttr,hn,b3t,h1,h2,h3]
  exact⟨by rw[no (by omega)],hS1.forget⟩
 simp(disch:=omega) only[↓RA,RZ,simprocAttr,hn,hS1.ld 0 rfl,(hS1.sl hp.2.1).len,h1,h2,h3]
 refine jL (fun h4=> ?_) (fun h4=> ?_)
 ·simp(disch:=omega) only[↓RA,RZ,simprocAttr,hn,b3t,h1,h2,h3,h4]
  exact⟨by rw[no (by omega)],hS1.forget⟩
 simp(disch:=omega) only[↓RA,RZ,simprocAttr,hn,hS1.ld 0 rfl,(hS1.sl hp.2.2.2.1).len,h1,h2,h3,h4]
 refine jA (fun h5=> ?_) (fun h5=> ?_)
 ·simp(disch:=omega) only[↓RA,RZ,simprocAttr,hn,b3t,h1,h2,h3,h4,h5]
  exact⟨by rw[no (by omega)],hS1.forget⟩
 simp(disch:=omega) only[↓RA,RZ,simprocAttr,h1,h2,h3,h4,h5]
 have hE:tV p=p.dvs.all fun b=>decide (b.stops.length≤3):=by
  unfold tV
  rw[decide_eq_true (by omega),decide_eq_true (by omega),decide_eq_true (by omega),decide_eq_true (by omega),decide_eq_true (by omega)]
  rfl
 clear no
 refine Wp.ak (fun n l H'=>l.length=47∧get l 1=(ptr A1 0 3)∧∃(i:Nat),(n+i=p.dvs.length∧∀j,j<i→(jB p.dvs j).stops.length≤3)∧get l 3=I i∧St prog H H' [⟨ptr A1 0 3,0,[p.rv,p.dv,p.cv]⟩]) p.dvs.length ?_ ?_
 ·simp(disch:=omega) only[RB,RC,simprocAttr,hn]
  exact⟨0,⟨by omega,fun j hj=>absurd hj (eu _)⟩,rfl,hS1⟩
 rintro n l H2⟨hn,g1,i,⟨hi,hz⟩,g3,hS2⟩
 have hst:∀h:i<p.dvs.length,(jB p.dvs i).stops.length<9223372036854775808:=fun h=>(hp.2.2.1 _ (jE h)).2
 simp(disch:=omega) only[↓RA,RZ,simprocAttr,hn,g1,g3,hS2.ld 0 rfl,(hS2.sl hp.2.1).len]
 refine jA (fun q1=> ?_) (fun q1=> ?_)
 ·have hst:=hst (by omega)
  simp(disch:=omega) only[↓RA,RZ,simprocAttr,hn,g1,g3,hS2.ld 0 rfl,(hS2.sl hp.2.1).idx,(hS2.sl hp.2.1).aZ,(hS2.sl hp.2.1).ld,Brd.cells,(hS2.sl (hp.2.2.1 (jB p.dvs i) (jE (by omega))).1).len,q1]
  refine jA (fun q2=> ?_) (fun q2=> ?_)
  ·simp(disch:=omega) only[↓RA,RZ,simprocAttr,hn,b3t,q1,q2]
   refine⟨?_,hS2.forget⟩
   rw[hE]
   congr 1
   symm
   rw[←gF,dT]
   intro hh
   have:=of_decide_eq_true (hh _ (jE (xs:=p.dvs) (j:=i) (by omega)))
   omega
  simp(disch:=omega) only[↓RA,RZ,simprocAttr,hn,g1,g3,q1,q2]
  exact⟨n-1,by omega,i+1,⟨by omega,fun j hj=>by rcases dK.1 hj with e|e;(· exact hz j e);(· rw[e];omega)⟩,by simp,hS2.sub (by simp)⟩
 simp(disch:=omega) only[↓RA,RZ,simprocAttr,hn,b3t,q1]
 refine⟨?_,hS2.forget⟩
 rw[hE]
 congr 1
 symm
 rw[dT]
 intro x hx
 obtain⟨j,hj,rfl⟩:=eF.1 hx
 rw[←jR p.dvs j hj]
 exact decide_eq_true (hz j (by omega))
end Go.Ds
namespace Go.Ds
open Go.Proofs
variable {H:Heap}
set_option maxRecDepth 10000
theorem c4A{α:Type}[Inhabited α](l:List α)(x:α)(j:Nat):jB (l++[x]) j=if j=l.length then x else jB l j:=by
 unfold jB
 rw[dE,dE]
 split
 ·rename_i h
  subst h
  simp
 ·rename_i h
  rcases gU h with h|h
  ·rw[eZ h]
  ·rw[fm (by simp;omega),fm (by omega)]
theorem yI{α:Type}[Inhabited α]{l:List α}{x:α}{Q:Nat→α→Prop}(h:∀j,j<l.length→Q j (jB l j))(hx:Q l.length x):∀j,j<(l++[x]).length→Q j (jB (l++[x]) j):=by
 intro j hj
 rw[c4A]
 split
 ·rename_i e;rw[e];exact hx
 ·simp at hj;exact h j (by omega)
theorem a6U{α:Type}{l:List α}{x:α}{Q:α→Prop}(h:∀y∈l,Q y)(hx:Q x):∀y∈l++[x],Q y:=by
 intro y hy
 rcases eo.1 hy with hy|hy
 ·exact h y hy
 ·rw[dW.1 hy];exact hx
theorem vE{α:Type}(l:List α)(x:α)(f:α→List Value):(l++[x]).flatMap f=l.flatMap f++f x:=by
 rw[dV,ec,fw,dO]
theorem b9R(a:Int): -24≤a.tmod 25∧a.tmod 25≤24:=by
 have h:=Int.natAbs_tmod a 25
 have h2:(25:Int).natAbs=25:=rfl
 rw[h2]at h
 have:a.natAbs%25<25:=fz _ (by decide)
 omega
structure Made(p:Pln)(o:Org):Prop where
 ok:OrgOk o
 rlen:o.ranks.length=p.ranks.length
 dlen:o.dvs.length=p.dvs.length
 clen:o.cpls.length=p.cpls.length
 slen:∀j,j<p.dvs.length→(jB o.dvs j).stops.length=(jB p.dvs j).stops.length
end Go.Ds
namespace Go.Ds
open Go.Proofs
variable {H:Heap}
set_option maxRecDepth 10000
set_option maxHeartbeats 1000000
theorem Made.small{p:Pln}{o:Org}(h:Made p o)(hf:tV p=true):o.cpls.length≤3∧o.dvs.length≤3∧∀j,j<o.dvs.length→(jB o.dvs j).stops.length≤3:=by
 unfold tV at hf
 simp only[dB,decide_eq_true_eq,dT]at hf
 obtain⟨⟨⟨⟨⟨f1,f2⟩,f3⟩,f4⟩,f5⟩,f6⟩:=hf
 refine⟨by rw[h.clen];exact f5,by rw[h.dlen];exact f4,fun j hj=> ?_⟩
 rw[h.dlen]at hj
 rw[h.slen j hj]
 exact f6 _ (jE hj)
theorem b7o{o:Org}{b:Nat→Nat}(hb:∀i,b i<256)(h2:o.dvs.length≤3):(qX o b).Ok:=by
 have hm:∀i n:Nat,b i%2^n<18446744073709551616:=fun i n=>by
  have:=hb i
  have:=Nat.mod_le (b i) (2^n)
  omega
 refine⟨?_,fun x hx=> ?_,hm _ _,hm _ _⟩
 ·unfold qX
  simp only[dU,List.length_range]
  omega
 ·obtain⟨i,_,rfl⟩:=dP.1 hx
  exact hm _ _
end Go.Ds
namespace Go.Ds
open Go.Proofs Go.Proofs.Tryz Go.ChangeShapes Go.WideShapes Go.RowKit Go.Deep
set_option maxRecDepth 10000
theorem ce4:prog.cellsOf 4=1:=by kernel_rfl
theorem ce5:prog.cellsOf 5=1:=by kernel_rfl
theorem c5H:prog.cellsOf 184=1:=by kernel_rfl
theorem c8o:prog.cellsOf 35=5:=by kernel_rfl
theorem c9C:prog.cellsOf 113=1:=by kernel_rfl
theorem c5q:prog.cellsOf 186=9:=by kernel_rfl
theorem c5V:prog.cellsOf 115=4:=by kernel_rfl
theorem c5P:prog.cellsOf 189=4:=by kernel_rfl
theorem c5L:prog.cellsOf 191=4:=by kernel_rfl
theorem d2p:prog.cellsOf 30=1:=by kernel_rfl
theorem d1t:prog.cellsOf 31=1:=by kernel_rfl
theorem d2k:prog.cellsOf 32=1:=by kernel_rfl
theorem d1y:prog.cellsOf 34=3:=by kernel_rfl
section
variable {H0:Type} {enc:TypeId×Value→H0} {w:World} {base n:Nat} {spare:Nat→Bool} {lR:Bool} {x:DataW H0×List MemPlace}
theorem qP{v:Value}(h:DataW.trod enc prog w base spare lR n 5 [v]=some x):∃m:Nat,v=.int .u8 m∧m<256:=by
 obtain⟨m,hv,_,hw⟩:=DataW.trod_int underlying5 h
 have hv:v=.int .u8 m:=by simpa using hv
 have hm:0≤m∧m≤255:=by simpa [Lit.wf,IntKind.min,IntKind.max,IntKind.signed,IntKind.bits]using hw
 exact⟨m.toNat,by rw[hv,gA hm.1],by omega⟩
theorem c5z{v:Value}(h:DataW.trod enc prog w base spare lR n 184 [v]=some x):∃m:Int,v=.int .i8 m∧-128≤m∧m<128:=by
 obtain⟨m,hv,_,hw⟩:=DataW.trod_int underlying184 h
 have hv:v=.int .i8 m:=by simpa using hv
 have hm: -128≤m∧m≤127:=by simpa [Lit.wf,IntKind.min,IntKind.max,IntKind.signed,IntKind.bits]using hw
 exact⟨m,hv,hm.1,by omega⟩
theorem b4E{v:Value}(h:DataW.trod enc prog w base spare lR n 4 [v]=some x):∃b,v=.bool b:=by
 obtain⟨b,hv,_⟩:=DataW.trod_bool underlying4 h
 exact⟨b,by simpa using hv⟩
theorem a1F{t:TypeId}{fs:Array Field}{cs:List Value}(ht:prog.underlying t=some (.struct fs))(h:DataW.trod enc prog w base spare lR n t cs=some x):
 cs.length=prog.cellsOf t∧∃m,∀(i:Nat)(f:Field),fs[i]? =some f→∃y,DataW.trod enc prog w base spare lR m f.type ((cs.drop f.offset).take (prog.cellsOf f.type))=some y:=by
 obtain⟨xs,m,_,_,hl,hxl,hf⟩:=DataW.trod_struct ht h
 refine⟨hl,m,fun i f hi=> ?_⟩
 have hlt:i<xs.length:=by rw[hxl];exact(dL.1 hi).1
 exact⟨xs[i],by rw[hf i f hi,dH hlt]⟩
theorem b4t{cs:List Value}(h:DataW.trod enc prog w base spare lR n 35 cs=some x):∃b:Nat→Nat,(∀i,b i<256)∧cs=[.int .u8 (b 0),.int .u8 (b 1),.int .u8 (b 2),.int .u8 (b 3),.int .u8 (b 4)]:=by
 obtain⟨xs,m,_,_,hl,hxl,hf⟩:=DataW.trod_array underlying35 h
 rw[c8o]at hl
 match cs,hl with
 | [c0,c1,c2,c3,c4],_=>
   have hy:∀i,i<5→∃y,DataW.trod enc prog w base spare lR m 5 ((([c0,c1,c2,c3,c4]:List Value).drop (i*1)).take 1)=some y:=fun i hi=>by
    have:=hf i hi
    rw[ce5]at this
    exact⟨xs[i],by rw[this,dH (by omega)]⟩
   obtain⟨_,h0⟩:=hy 0 (by decide)
   obtain⟨_,h1⟩:=hy 1 (by decide)
   obtain⟨_,h2⟩:=hy 2 (by decide)
   obtain⟨_,h3⟩:=hy 3 (by decide)
   obtain⟨_,h4⟩:=hy 4 (by decide)
   obtain⟨b0,rfl,k0⟩:=qP h0
   obtain⟨b1,rfl,k1⟩:=qP h1
   obtain⟨b2,rfl,k2⟩:=qP h2
   obtain⟨b3,rfl,k3⟩:=qP h3
   obtain⟨b4,rfl,k4⟩:=qP h4
   exact⟨fun i=>match i with|0=>b0|1=>b1|2=>b2|3=>b3|_=>b4,fun i=>by
    match i with
    | 0=>exact k0
    | 1=>exact k1
    | 2=>exact k2
    | 3=>exact k3
    | _+4=>exact k4,rfl⟩
theorem c7j{cs:List Value}(h:DataW.trod enc prog w base spare lR n 189 cs=some x):∃p:Pul,cs=p.cells∧p.Ok:=by
 obtain⟨hl,m,hf⟩:=a1F underlying189 h
 rw[c5P]at hl
 match cs,hl with
 | [c0,c1,c2,c3],_=>
   obtain⟨_,h0⟩:=hf 0 ⟨_,5,0,_,_,_,_⟩ rfl
   obtain⟨_,h1⟩:=hf 1 ⟨_,5,1,_,_,_,_⟩ rfl
   obtain⟨_,h2⟩:=hf 2 ⟨_,5,2,_,_,_,_⟩ rfl
   obtain⟨_,h3⟩:=hf 3 ⟨_,5,3,_,_,_,_⟩ rfl
   simp only[ce5]at h0 h1 h2 h3
   obtain⟨b0,rfl,k0⟩:=qP h0
   obtain⟨b1,rfl,k1⟩:=qP h1
   obtain⟨b2,rfl,k2⟩:=qP h2
   obtain⟨b3,rfl,k3⟩:=qP h3
   exact⟨⟨b0,b1,b2,b3⟩,rfl,k0,k1,k2,k3⟩
theorem c6g{cs:List Value}(h:DataW.trod enc prog w base spare lR n 191 cs=some x):∃p:Lnk,cs=p.cells∧p.Ok:=by
 obtain⟨hl,m,hf⟩:=a1F underlying191 h
 rw[c5L]at hl
 match cs,hl with
 | [c0,c1,c2,c3],_=>
   obtain⟨_,h0⟩:=hf 0 ⟨_,5,0,_,_,_,_⟩ rfl
   obtain⟨_,h1⟩:=hf 1 ⟨_,5,1,_,_,_,_⟩ rfl
   obtain⟨_,h2⟩:=hf 2 ⟨_,184,2,_,_,_,_⟩ rfl
   obtain⟨_,h3⟩:=hf 3 ⟨_,4,3,_,_,_,_⟩ rfl
   simp only[ce5,c5H,ce4]at h0 h1 h2 h3
   obtain⟨b0,rfl,k0⟩:=qP h0
   obtain⟨b1,rfl,k1⟩:=qP h1
   obtain⟨b2,rfl,k2⟩:=c5z h2
   obtain⟨b3,rfl⟩:=b4E h3
   exact⟨⟨b0,b1,b2,b3⟩,rfl,k0,k1,k2.1,k2.2⟩
theorem c6y{cs:List Value}(h:DataW.trod enc prog w base spare lR n 186 cs=some x):∃p:RPl,cs=p.cells∧p.Ok:=by
 obtain⟨hl,m,hf⟩:=a1F underlying186 h
 rw[c5q]at hl
 match cs,hl with
 | [c0,c1,c2,c3,c4,c5,c6,c7,c8],_=>
   obtain⟨_,h0⟩:=hf 0 ⟨_,5,0,_,_,_,_⟩ rfl
   obtain⟨_,h1⟩:=hf 1 ⟨_,5,1,_,_,_,_⟩ rfl
   obtain⟨_,h2⟩:=hf 2 ⟨_,184,2,_,_,_,_⟩ rfl
   obtain⟨_,h3⟩:=hf 3 ⟨_,5,3,_,_,_,_⟩ rfl
   obtain⟨_,h4⟩:=hf 4 ⟨_,35,4,_,_,_,_⟩ rfl
   simp only[ce5,c5H,c8o]at h0 h1 h2 h3 h4
   obtain⟨b0,rfl,k0⟩:=qP h0
   obtain⟨b1,rfl,k1⟩:=qP h1
   obtain⟨b2,rfl,k2⟩:=c5z h2
   obtain⟨b3,rfl,k3⟩:=qP h3
   obtain⟨b,kb,hb⟩:=b4t h4
   have hb:[c4,c5,c6,c7,c8]=[Value.int .u8 (b 0),.int .u8 (b 1),.int .u8 (b 2),.int .u8 (b 3),.int .u8 (b 4)]:=hb
   simp only[fG,and_true]at hb
   obtain⟨rfl,rfl,rfl,rfl,rfl⟩:=hb
   exact⟨⟨b0,b1,b2,b3,b 0,b 1,b 2,b 3,b 4⟩,rfl,k0,k1,k2.1,k2.2,k3,kb 0,kb 1,kb 2,kb 3,kb 4⟩
end
theorem All2.at{α β:Type}{R:α→β→Prop}:∀{l:List α}{l':List β},All2 R l l'→∀(i:Nat)c,l[i]? =some c→∃c',l'[i]? =some c'∧R c c'
 | [],[],_,i,c,h=>by simp at h
 | a::l,b::l',h,0,c,hc=>by
   simp only[fT,ee]at hc
   subst hc
   exact⟨b,rfl,h.1⟩
 | a::l,b::l',h,i+1,c,hc=>All2.at h.2 i c (by simpa using hc)
section
variable {P:Program} {ρ:Rho} {H:Heap} {w:World} {base:Nat}
theorem a8L{α:Type}[Inhabited α]{cel:α→List Value}{sz:Nat}(h:InW P ρ H w){b0:Nat}{cur0:Array Value}{t0:TypeId}{fr0:Nat×Nat}(hb0:w.heap[b0]? =some (.cells cur0 t0 fr0)){ty:TypeId}(hty:jD P ty=some sz)(hs:0<sz)(hc:∀x,(cel x).length=sz)
 {a:Addr} {len cap:Nat} (hl:len≤cap) (f:Nat→List Value) (hf:∀i,i<cap→w.cells? base (a.add (i*sz)) sz=some (f i)) (xs:List α) (hx:xs.length=len) (hR:∀i,i<len→All2 (C1 ρ) (cel (jB xs i)) (f i)):
 ∃ρ' H' v,InW P ρ' H' w∧ExtW ρ H ρ' H'∧C1 ρ' v (.slice (some a) len cap)∧Sl sz cel H' v xs:=by
 have hcell:∀q r,q<cap→r<sz→w.cell? (a.add (q*sz+r))=(f q)[r]?∧(f q).length=sz:=fun q r hq hr=>by
  obtain⟨_,h1,h2⟩:=World.cells?_some (hf q hq)
  have:=h2 r hr
  rw[add_add]at this
  exact⟨this,h1⟩
 have hqr:∀i n,i<n*sz→i/sz<n∧i%sz<sz∧i=i/sz*sz+i%sz:=fun i n hi=>by
  refine⟨Nat.div_lt_of_lt_mul (by rwa [jh]),fz _ hs,?_⟩
  rw[jh]
  exact(Nat.div_add_mod i sz).symm
 obtain⟨ρ',H',v,h1,h2,h3,h4⟩:=h.slice hb0 hty hs hl (fun i hi=>by
  obtain⟨k1,k2,k3⟩:=hqr i cap hi
  obtain⟨e1,e2⟩:=hcell _ _ k1 k2
  rw[k3,e1,dH (by omega)]
  rfl) (xs.flatMap cel) (by rw[jJ hc,hx]) (fun i c hi=>by
  have hi':i<len*sz:=by
   have:=(dQ.1 hi).1
   rwa [jJ hc,hx]at this
  obtain⟨k1,k2,k3⟩:=hqr i len hi'
  rw[k3,a5I hc xs _ _ (by omega) k2]at hi
  obtain⟨c',g1,g2⟩:=(hR _ k1).at _ _ hi
  refine⟨c',?_,g2⟩
  rw[k3,(hcell _ _ (by omega) k2).1,g1])
 exact⟨ρ',H',v,h1,h2,h3,h4,hc,hs⟩
end
theorem Sl.ext{α:Type}{sz:Nat}{cel:α→List Value}{ρ ρ':Rho}{H H':Heap}{v:Value}{xs:List α}(h:Sl sz cel H v xs)(e:ExtW ρ H ρ' H'):Sl sz cel H' v xs:=⟨h.rd.ag e.old,h.hc,h.pos⟩
theorem All2.flat{ρ:Rho}:∀(l:List Value),(∀c∈l,jZ c=true)→All2 (C1 ρ) l l
 | [],_=>trivial
 | c::l,h=>⟨.c0 (.flat (h c (eW ..))),All2.flat l fun d hd=>h d (eX _ hd)⟩
section
variable {H0:Type} {enc:TypeId×Value→H0} {w:World} {base fuel:Nat} {lR:Bool} {x:DataW H0×List MemPlace} {ρ:Rho} {H:Heap}
theorem a7w{α:Type}[Inhabited α]{cel:α→List Value}{ok:α→Prop}{t e:TypeId}{sz:Nat}(ht:prog.underlying t=some (.slice e))(hce:prog.cellsOf e=sz)(hty:jD prog e=some sz)(hs:0<sz)(hc:∀x,(cel x).length=sz)(hsc:∀x,∀c∈cel x,jZ c=true)
 (hit:∀{n cs}{x:DataW H0×List MemPlace},DataW.trod enc prog w base (fun _=>true) lR n e cs=some x→∃p,cs=cel p∧ok p)
 (h:InW prog ρ H w) {b0:Nat} {cur0:Array Value} {t0:TypeId} {fr0:Nat×Nat} (hb0:w.heap[b0]? =some (.cells cur0 t0 fr0)) {v:Value} (hv:DataW.trod enc prog w base (fun _=>true) lR fuel t [v]=some x):
 ∃ρ' H' v' xs,InW prog ρ' H' w∧ExtW ρ H ρ' H'∧C1 ρ' v' v∧Sl sz cel H' v' xs∧(∀x∈xs,ok x)∧xs.length<9223372036854775808:=by
 rcases open_slice ht hv with⟨hcs,_⟩|⟨a,len,cap,m,n,D,Pl,hcs,_,hl,hm,hmm,_,hi⟩
 ·obtain rfl:v=.slice none 0 0:=by simpa using hcs
  exact⟨ρ,H,.slice none 0 0,[],h,.refl _ _,.c0 (.flat rfl),⟨.inl ⟨rfl,rfl⟩,hc,hs⟩,by simp,by simp⟩
 ·obtain rfl:v=.slice (some a) len cap:=by simpa using hcs
  simp only[if_true]at hmm
  subst hmm
  rw[hce]at hi
  obtain⟨f,hf⟩:=choose_lt (α:=α) (p:=fun i p=>w.cells? base (a.add (i*sz)) sz=some (cel p)∧ok p) (fun i hi'=>by
   obtain⟨cs',h1,h2⟩:=hi i hi'
   obtain⟨p,rfl,hp⟩:=hit h2
   exact⟨p,h1,hp⟩)
  have hn:∀i,i<len→jB ((List.range len).map f) i=f i:=fun i hi=>by
   rw[c2u _ (by simpa using hi),jR _ _ (by simpa using hi),iA]
  obtain⟨ρ',H',v',h1,h2,h3,h4⟩:=a8L h hb0 hty hs hc hl (fun i=>cel (f i)) (fun i hi=>(hf i hi).1) ((List.range len).map f) (by simp) (fun i hi=>by
   rw[hn i hi]
   exact All2.flat _ (hsc _))
  refine⟨ρ',H',v',_,h1,h2,h3,h4,fun x hx=> ?_,?_⟩
  ·obtain⟨i,hi,rfl⟩:=dP.1 hx
   exact(hf i (by have:=dS.1 hi;omega)).2
  ·have:maxLen=9223372036854775807:=rfl
   simp
   omega
end
section
variable {H0:Type} {enc:TypeId×Value→H0} {w:World} {base fuel:Nat} {lR:Bool} {x:DataW H0×List MemPlace} {ρ:Rho} {H:Heap}
theorem c2l(h:InW prog ρ H w){b0:Nat}{cur0:Array Value}{t0:TypeId}{fr0:Nat×Nat}(hb0:w.heap[b0]? =some (.cells cur0 t0 fr0)){v:Value}(hv:DataW.trod enc prog w base (fun _=>true) lR fuel 113 [v]=some x):
 ∃ρ' H' v' xs,InW prog ρ' H' w∧ExtW ρ H ρ' H'∧C1 ρ' v' v∧Sl 4 Pul.cells H' v' xs∧(∀x∈xs,Pul.Ok x)∧xs.length<9223372036854775808:=
 a7w underlying113 c5P c0G (by decide) (fun _=>rfl) (fun x c hc=>by
  simp only[Pul.cells,ew,eO,or_false]at hc
  rcases hc with rfl|rfl|rfl|rfl<;>rfl) (fun hh=>c7j hh) h hb0 hv
theorem c4m(h:InW prog ρ H w){b0:Nat}{cur0:Array Value}{t0:TypeId}{fr0:Nat×Nat}(hb0:w.heap[b0]? =some (.cells cur0 t0 fr0)){v:Value}(hv:DataW.trod enc prog w base (fun _=>true) lR fuel 32 [v]=some x):
 ∃ρ' H' v' xs,InW prog ρ' H' w∧ExtW ρ H ρ' H'∧C1 ρ' v' v∧Sl 4 Lnk.cells H' v' xs∧(∀x∈xs,Lnk.Ok x)∧xs.length<9223372036854775808:=
 a7w underlying32 c5L b4r (by decide) (fun _=>rfl) (fun x c hc=>by
  simp only[Lnk.cells,ew,eO,or_false]at hc
  rcases hc with rfl|rfl|rfl|rfl<;>rfl) (fun hh=>c6g hh) h hb0 hv
theorem c2B(h:InW prog ρ H w){b0:Nat}{cur0:Array Value}{t0:TypeId}{fr0:Nat×Nat}(hb0:w.heap[b0]? =some (.cells cur0 t0 fr0)){v:Value}(hv:DataW.trod enc prog w base (fun _=>true) lR fuel 30 [v]=some x):
 ∃ρ' H' v' xs,InW prog ρ' H' w∧ExtW ρ H ρ' H'∧C1 ρ' v' v∧Sl 9 RPl.cells H' v' xs∧(∀x∈xs,RPl.Ok x)∧xs.length<9223372036854775808:=
 a7w underlying30 c5q b9f (by decide) (fun _=>rfl) (fun x c hc=>by
  simp only[RPl.cells,ew,eO,or_false]at hc
  rcases hc with rfl|rfl|rfl|rfl|rfl|rfl|rfl|rfl|rfl<;>rfl) (fun hh=>c6y hh) h hb0 hv
theorem c7m(h:InW prog ρ H w){b0:Nat}{cur0:Array Value}{t0:TypeId}{fr0:Nat×Nat}(hb0:w.heap[b0]? =some (.cells cur0 t0 fr0)){cs:List Value}(hv:DataW.trod enc prog w base (fun _=>true) lR fuel 115 cs=some x):
 ∃(ρ':Rho)(H':Heap)(b:Brd),InW prog ρ' H' w∧ExtW ρ H ρ' H'∧All2 (C1 ρ') (Brd.cells b) cs∧b.In H'∧b.Ok:=by
 obtain⟨hl,m,hf⟩:=a1F underlying115 hv
 rw[c5V]at hl
 match cs,hl with
 | [c0,c1,c2,c3],_=>
   obtain⟨_,h0⟩:=hf 0 ⟨_,5,0,_,_,_,_⟩ rfl
   obtain⟨_,h1⟩:=hf 1 ⟨_,5,1,_,_,_,_⟩ rfl
   obtain⟨_,h2⟩:=hf 2 ⟨_,4,2,_,_,_,_⟩ rfl
   obtain⟨_,h3⟩:=hf 3 ⟨_,113,3,_,_,_,_⟩ rfl
   simp only[ce5,ce4,c9C]at h0 h1 h2 h3
   obtain⟨b0,rfl,k0⟩:=qP h0
   obtain⟨b1,rfl,k1⟩:=qP h1
   obtain⟨b2,rfl⟩:=b4E h2
   obtain⟨ρ',H',v',xs,i1,i2,i3,i4,i5,i6⟩:=c2l h hb0 h3
   exact⟨ρ',H',⟨b0,b1,b2,v',xs⟩,i1,i2,⟨.c0 (.flat rfl),.c0 (.flat rfl),.c0 (.flat rfl),i3,trivial⟩,⟨i4,i6⟩,k0,k1,i5⟩
theorem c5d(h:InW prog ρ H w){b0:Nat}{cur0:Array Value}{t0:TypeId}{fr0:Nat×Nat}(hb0:w.heap[b0]? =some (.cells cur0 t0 fr0)){v:Value}(hv:DataW.trod enc prog w base (fun _=>true) lR fuel 31 [v]=some x):
 ∃ρ' H' v' xs,InW prog ρ' H' w∧ExtW ρ H ρ' H'∧C1 ρ' v' v∧Sl 4 Brd.cells H' v' xs∧(∀b∈xs,b.In H'∧b.Ok)∧xs.length<9223372036854775808:=by
 rcases open_slice underlying31 hv with⟨hcs,_⟩|⟨a,len,cap,m,n,D,Pl,hcs,_,hl,hm,hmm,_,hi⟩
 ·obtain rfl:v=.slice none 0 0:=by simpa using hcs
  exact⟨ρ,H,.slice none 0 0,[],h,.refl _ _,.c0 (.flat rfl),⟨.inl ⟨rfl,rfl⟩,fun _=>rfl,by decide⟩,by simp,by simp⟩
 ·obtain rfl:v=.slice (some a) len cap:=by simpa using hcs
  simp only[if_true]at hmm
  subst hmm
  rw[c5V]at hi
  obtain⟨f,hf⟩:=choose_lt (α:=List Value) (p:=fun i cs=>w.cells? base (a.add (i*4)) 4=some cs∧DataW.trod enc prog w base (fun _=>true) lR n 115 cs=some (D i,Pl i)) hi
  obtain⟨ρ1,H1,xs,j1,j2,j3,j4⟩:=h.each (n:=len) (Q:=fun i ρ H b=>All2 (C1 ρ) (Brd.cells b) (f i)∧b.In H∧b.Ok) (fun i ρ H b ρ' H' hq he=>⟨hq.1.mono fun _ _ hh=>hh.mono he.le,⟨hq.2.1.1.ext he,hq.2.1.2⟩,hq.2.2⟩)
   (fun i hi' ρ1 H1 g1 _=>c7m g1 hb0 (hf i (by omega)).2)
  obtain⟨ρ2,H2,v',i1,i2,i3,i4⟩:=a8L j1 hb0 b3L (by decide) (fun _=>rfl) hl f (fun i hi'=>(hf i hi').1) xs j3 (fun i hi'=>(j4 i hi').1)
  refine⟨ρ2,H2,v',xs,i1,j2.trans i2,i3,i4,fun b hb=> ?_,?_⟩
  ·obtain⟨i,hi',rfl⟩:=eF.1 hb
   have:=(j4 i (by omega)).2
   rw[jR _ _ hi']at this
   exact⟨⟨this.1.1.ext i2,this.1.2⟩,this.2⟩
  ·have:maxLen=9223372036854775807:=rfl
   omega
theorem c4i{v0:Value}{d0:DataW H0}{p0:List MemPlace}{c0:Nat}(h:InW prog ρ H w){b0:Nat}{cur0:Array Value}{t0:TypeId}{fr0:Nat×Nat}(hb0:w.heap[b0]? =some (.cells cur0 t0 fr0))(h0:DataW.Trod enc prog w base (fun _=>true) lR 34 v0 d0 p0)(hval:Value.okWide prog w .any c0 34 v0):
 ∃(ρ':Rho)(H':Heap)(p:Pln),InW prog ρ' H' w∧ExtW ρ H ρ' H'∧V ρ' (.agg #[p.rv,p.dv,p.cv]) v0∧p.In H'∧p.Ok:=by
 obtain⟨cs,rfl,hsz⟩:=okWide_struct underlying34 hval
 rw[d1y]at hsz
 obtain⟨fuel,hf⟩:=h0
 obtain⟨l⟩:=cs
 have hl:l.length=3:=hsz
 match l,hl with
 | [x,y,z],_=>
   obtain⟨_,m,hf⟩:=a1F (cs:=[x,y,z]) underlying34 hf
   obtain⟨_,h0⟩:=hf 0 ⟨_,30,0,_,_,_,_⟩ rfl
   obtain⟨_,h1⟩:=hf 1 ⟨_,31,1,_,_,_,_⟩ rfl
   obtain⟨_,h2⟩:=hf 2 ⟨_,32,2,_,_,_,_⟩ rfl
   simp only[d2p,d1t,d2k]at h0 h1 h2
   obtain⟨ρ1,H1,v1,xs,i1,i2,i3,i4,i5,i6⟩:=c2B h hb0 h0
   obtain⟨ρ2,H2,v2,ys,j1,j2,j3,j4,j5,j6⟩:=c5d i1 hb0 h1
   obtain⟨ρ3,H3,v3,zs,k1,k2,k3,k4,k5,k6⟩:=c4m j1 hb0 h2
   refine⟨ρ3,H3,⟨v1,xs,v2,ys,v3,zs⟩,k1,i2.trans (j2.trans k2),.v1 (.agg ⟨i3.mono (j2.trans k2).le,j3.mono k2.le,k3,trivial⟩),⟨i4.ext (j2.trans k2),j4.ext k2,fun b hb=>⟨(j5 b hb).1.1.ext k2,(j5 b hb).1.2⟩,k4,i6,j6,k6⟩,i5,fun b hb=>(j5 b hb).2,k5⟩
end
end Go.Ds
namespace Go.Ds
open Go.Proofs Go.ChangeShapes Go.WideShapes Go.RowKit Go.Deep
section
variable {H:Type} {enc:TypeId×Value→H}
theorem a4Y{a:Assume}{C:Checked}{os:Os}{f:FuncId}{fn:Func}{s:ChangeSpec}{conds:List PathCond}{apart fresh handsOn again:Bool}{X:World→Array Value→Prop}
 (hX:∀(w w':World)(args:Array Value),w.heap=w'.heap→X w args→X w' args)
 (own:ownKnob C.prog.godebug=none) (started:os.Started) (noInit:C.prog.inits.idxOf? f=none) (hfn:C.prog.funcs[f]? =some fn)
 (witness:∃(w:World)(tape:Tape)(i:Input),w.os=os∧(w.forCall tape i).Shaped C.prog∧i.vars=[]∧Input.okWide C.prog (w.forCall tape i) .any w.heap.size f i∧
   ((s.pre enc C.prog fn conds apart (w.forCall tape i).memory i.args∧X (w.forCall tape i).memory i.args)∧sizedMet enc C.prog fn (OpenSpec.ofChange s) apart (w.forCall tape i).memory i.args)∧a.holds C.prog (lone (Frame.enter C.prog f i.args .normal) [] (w.forCall tape i)))
 (contract:∀(W:World)(args:Array Value)(ds gs:List (DataW H))(before:List MemPlace),W.ShapedOpen C.prog→
   (∃base,∀(j:Nat)t v,fn.params[j]? =some t→args[j]? =some v→Value.okWide C.prog W .any base t v)→
   DataW.Whole enc C.prog fn.params.toList s.vars apart W args.toList ds gs before→X W args→
   Calls C.prog f args W fun e W'=>∃v,e=.returned v∧s.post enc C.prog fn apart fresh handsOn again W args v W'):
 ReturnsInHanded a C os f .any (fun w args=>(s.pre enc C.prog fn conds apart w args∧X w args)∧sizedMet enc C.prog fn (OpenSpec.ofChange s) apart w args) (s.post enc C.prog fn apart fresh handsOn again):=by
 refine returnsInHanded_of_calls own started noInit witness ?_
 intro w tape i _ hsh _ hok hpre hholds
 obtain⟨_,_,_,fn',hfn',_,_,_,_,hval⟩:=hok
 obtain rfl:fn'=fn:=dA (hfn'.symm.trans hfn)
 obtain⟨⟨⟨ds,gs,before,hw,hc⟩,hx⟩,hz⟩:=hpre
 refine(contract (w.forCall tape i) i.args ds gs before hsh ⟨_,hval⟩ (DataW.Whole.of_heap (w':=w.forCall tape i) (by rfl) hw) (hX _ _ _ (by rfl) hx)).mono fun e W'⟨v,he,hp⟩=> ?_
 subst he
 exact ChangeSpec.post_blind hp
end
end Go.Ds
namespace Go.Proofs.YtfmbcecfgpbmhaaGreatDoor
open Go.ChangeShapes Go.WideShapes Go.ChangeAt Go.RowKit Go.Deep Go.Ds
theorem own:ownKnob Tryz.prog.godebug=none:=by kernel_rfl
theorem laidOut:laidOutB Tryz.prog=true:=by kernel_rfl
def laid3:List (String×DataW Unit):=[("math/bits.deBruijn32tab",Rows.laid_math_bits_deBruijn32tab),("math/bits.deBruijn64tab",Rows.laid_math_bits_deBruijn64tab),("internal/strconv.uint64pow10",Rows.laid_internal_strconv_uint64pow10)]
theorem door_met(os:Os)(args:Array Value):laidMetH Tryz.prog laid3 ((World.doorLaid Tryz.prog 400 os).forCall (fun _ _=>0) ⟨#[],args,[]⟩).memory:=
 laidMetH_of_parts3 (fuel:=8) (laidMet_of_run' 8 (by kernel_rfl) (by kernel_rfl)) (by kernel_rfl) (by kernel_rfl)
set_option maxRecDepth 100000 in
theorem of_laid{W:World}(h:laidMetH Tryz.prog laid3 W)(hsh:W.ShapedOpen Tryz.prog):(∃ρ,InW Tryz.prog ρ gH W)∧∃cs t fr,W.heap[0]? =some (.cells cs t fr):=by
 rw[MakeChecks.laidMetH_plain _ _ _ (by kernel_rfl)]at h
 have h32:Lib.TabIs Tryz.prog W "math/bits.deBruijn32tab" .u8 (t32.map Int.ofNat):=Lib.tabIs_of_head (g:=3) g32 (t:=359) (by kernel_rfl) Tryz.underlying359 (e:=5) (n:=32) Tryz.underlying5 (by kernel_rfl) (by kernel_rfl) (rest:=_) h
 have h64:Lib.TabIs Tryz.prog W "math/bits.deBruijn64tab" .u8 (t64.map Int.ofNat):=Lib.tabIs_of_head (g:=0) g64 (t:=294) (by kernel_rfl) Tryz.underlying294 (e:=5) (n:=64) Tryz.underlying5 (by kernel_rfl) (by kernel_rfl) (rest:=_) h.tail
 have h10:Lib.TabIs Tryz.prog W "internal/strconv.uint64pow10" .u64 (p10):=Lib.tabIs_of_head (g:=2) wW (t:=339) (by kernel_rfl) Tryz.underlying339 (e:=48) (n:=20) Tryz.underlying48 (by kernel_rfl) (by kernel_rfl) (rest:=_) h.tail.tail
 obtain⟨cs1,h1001,_⟩:=hsh.1 1 #[.int .i64 0] 3 (by rw[show Tryz.prog.globals.size=4 from by kernel_rfl];decide) (by kernel_rfl)
 obtain⟨t,fr,h0⟩:=a6u g64 h64
 exact⟨c3G h64 h10 h32 ⟨_,_,_,h1001⟩,_,_,_,h0⟩
end Go.Proofs.YtfmbcecfgpbmhaaGreatDoor
