/-
  A part of the proof of SurveyParts.
-/
import Derived.Test.YtbkobkpbkhbcgaaGreatDoorVE
import Derived.Test.YtbkobkpbkhbcgaaGreatDoorVF
import Derived.Test.YtbkobkpbkhbcgaaGreatDoorVG
import Derived.Test.YtbkobkpbkhbcgaaGreatDoorVH
import Derived.Test.YtbkobkpbkhbcgaaGreatDoorVC
import Derived.Test.YtbkobkpbkhbcgaaGreatDoorVD
import Derived.WideShapes
import Derived.OpenShut
import Derived.Handed
import Derived.LaidMore
import Derived.ProofKit
import Derived.Stop.Joined
import Derived.Test.YtbkobkpbkhbcgaaGreatDoorRows
set_option linter.unusedVariables false
set_option linter.unusedSimpArgs false
set_option linter.defProp false
set_option linter.unusedSectionVars false
set_option maxRecDepth 100000
set_option maxHeartbeats 2000000
namespace Go.Ds
open Go.Proofs Go.Proofs.Tryz
variable {H:Heap}
theorem tQ{P:Program}{k:FuncId}{args:List Value}{v:Value}{G:Heap}(hfa:∀x∈args,flat x=true)(hv:flat v=true)(h:Fn P k args G λr _=>r=v)(hG:Glob G H):Fn P k args H λr H'=>r=v∧St P H H' []:=by obtain⟨h1,r,H1,h2,rfl⟩:=h;exact⟨h1,r,H,CallOk.bV hfa hv h2 hG,rfl,St.refl _ _⟩
theorem sD{fs:List FuncId}{α:Type}{ps:List α}{f:LT->α->Bool}(h:(vB prog fs .e λT=>ps.all λx=>f T x)=true):∃T,TOk prog T∧∀x∈ps,f T x=true:=by obtain⟨T,hT,e⟩:=b8l (P:=prog) fs .e (λf g h=>by rw[yD]at h;cases h) (λT=>ps.all λx=>f T x);rw[e]at h;exact⟨T,hT,dZ.1 h⟩
theorem nD{T:LT}(hT:TOk prog T){k:FuncId}{args:List Value}{v:Value}{H1:Heap}(h:(oA T (exF prog T 4000) [] (lM k) args gH).Is v H1):Fn prog k args gH λr _=>r=v:=((a1k hT (c3z c4G hT 4000) (λen hen=>by cases hen) rfl h).1.fn).mono λ_ _ h=>h.1
theorem a7x{T:LT}(hT:TOk prog T){k:FuncId}{args:List Value}{n:Nat}(h:b1W (oA T (exF prog T 4000) [] (lM k) args gH) n=true):Fn prog k args gH λr _=>r=.string (qI n):=by unfold b1W at h;split at h;(·rename_i b H1 e;rw[<-a5Y (of_decide_eq_true h)];exact nD hT (.inl e));(·rename_i b H1 e;rw[<-a5Y (of_decide_eq_true h)];exact nD hT (.inr e));·cases h
theorem b1I{v:Value}{n:Nat}(h:b9n v n=true):v=.tuple #[.string (qI n),I 0]:=by unfold b9n at h;split at h;(·rename_i vs;split at h;(·rename_i b m e;rw[dN,decide_eq_true_eq,decide_eq_true_eq]at h;obtain⟨rfl,h⟩:=h;rw[<-a5Y h];congr 1;exact iO e);·cases h);·cases h
theorem b6D{T:LT}(hT:TOk prog T){k:FuncId}{args:List Value}{n:Nat}(h:b5m (oA T (exF prog T 4000) [] (lM k) args gH) n=true):Fn prog k args gH λr _=>r=.tuple #[.string (qI n),I 0]:=by unfold b5m at h;split at h;(·rename_i v H1 e;rw[<-b1I h];exact nD hT (.inl e));(·rename_i v H1 e;rw[<-b1I h];exact nD hT (.inr e));·cases h
theorem b5l{T:LT}(hT:TOk prog T){k:FuncId}{args:List Value}{n:Int}(h:b7g (oA T (exF prog T 4000) [] (lM k) args gH) n=true):Fn prog k args gH λr _=>r=I n:=by unfold b7g at h;split at h;(·rename_i m H1 e;rw[<-of_decide_eq_true h];exact nD hT (.inl e));(·rename_i m H1 e;rw[<-of_decide_eq_true h];exact nD hT (.inr e));·cases h
theorem c2S{ps:List Nat}(h:c2i ps=true)(hG:Glob gH H):∀x∈ps,Fn prog 99 [I x] H λr H'=>r=.string (qI x)∧St prog H H' []:=by obtain⟨T,hT,h⟩:=sD h;intro x hx;exact tQ (by simp[flat,jY,jN]) rfl (a7x hT (h x hx)) hG
theorem c0Y{ps:List Nat}(h:wA ps=true)(hG:Glob gH H):∀x∈ps,Fn prog 98 [.string (qI x),I 24] H λr H'=>r=.tuple #[.string (qI (x^24)),I 0]∧St prog H H' []:=by obtain⟨T,hT,h⟩:=sD h;intro x hx;exact tQ (by simp[flat,jY,jN]) rfl (b6D hT (h x hx)) hG
theorem b9A{ps:List (Nat×Nat)}(h:mZ ps=true)(hG:Glob gH H):∀x∈ps,Fn prog 100 [.string (qI x.1),.string (qI x.2)] H λr H'=>r=.string (qI (x.1*x.2))∧St prog H H' []:=by obtain⟨T,hT,h⟩:=sD h;intro x hx;exact tQ (by simp[flat,jY,jN]) rfl (a7x hT (h x hx)) hG
theorem b9D{ps:List (Nat×Nat)}(h:vT ps=true)(hG:Glob gH H):∀x∈ps,Fn prog 101 [.string (qI x.1),.string (qI x.2)] H λr H'=>r=I (uV x.1 x.2)∧St prog H H' []:=by obtain⟨T,hT,h⟩:=sD h;intro x hx;exact tQ (by simp[flat,jY,jN]) rfl (b5l hT (h x hx)) hG
def c2Y:List (List Nat):=[[2,4,6,8],[10,12,14,16],[20,24,28,32],[40,48,56,64],[80,96,112,128],[160,192,256,320]]
def b5b:List (List (Nat×Nat)):=[[(2,0),(4,0),(6,5)],[(8,7)],[(10,8)],[(12,5),(14,2)],[(16,7)],[(20,8)],[(24,9)],[(28,2)],[(32,10)],[(40,8)],[(48,9)],[(56,9)],[(64,7)],[(80,8)],[(96,9)],[(112,2)],[(128,7)],[(256,4)]]
def c2s:List (List (Nat×Nat×Nat)):=[[(2,2,0),(4,4,0),(8,6,5),(8,8,0),(10,8,4),(12,8,7),(16,10,8),(16,12,5),(16,14,2)],[(16,16,0),(20,16,4),(24,16,7),(24,24,0),(32,20,8),(32,24,5),(32,28,2),(32,32,0)],[(40,24,9),(40,32,4),(40,40,0),(48,32,7),(48,40,3),(48,48,0),(56,32,10)],[(64,40,8),(64,48,5),(64,56,2),(64,64,0),(80,48,9),(80,56,6)],[(80,64,4),(80,80,0),(96,56,9),(96,64,7),(96,96,0),(128,80,8),(128,112,2)],[(160,96,9),(160,128,4),(192,128,7),(320,256,4)]]
abbrev nL:List Nat:=c2Y.flatten
abbrev cL:List (Nat×Nat×Nat):=c2s.flatten
theorem c7Y:∀l∈c2Y,wA l=true:=by unfold c2Y;simp only[List.forall_mem_cons];exact⟨c5F,c5x,c6p,c6C,c5E,c5D,λ_ h=>absurd h fz⟩
theorem c7r:∀l∈b5b,mZ (l.flatMap tN)=true:=by unfold b5b;simp only[List.forall_mem_cons];exact⟨c4n,c4y,c5e,c4x,c4U,c6B,c4T,c4I,c6v,c5j,c2I,c3d,c3k,c2A,c3b,c2F,c3N,c2v,λ_ h=>absurd h fz⟩
theorem c7R:∀l∈c2s,vT (l.flatMap a6q)=true:=by unfold c2s;simp only[List.forall_mem_cons];exact⟨c5L,c4M,c5s,c5o,c6j,c6J,λ_ h=>absurd h fz⟩
theorem ofT(hG:Glob gH H)(x:Nat)(hx:x∈nL):Fn prog 99 [I x] H λr H'=>r=.string (qI x)∧St prog H H' []:=c2S (ps:=nL) c7X hG x hx
theorem c6d(hG:Glob gH H)(x:Nat)(hx:x∈nL):Fn prog 98 [.string (qI x),I 24] H λr H'=>r=.tuple #[.string (qI (x^24)),I 0]∧St prog H H' []:=by obtain⟨l,hl,hx⟩:=List.mem_flatten.1 hx;exact c0Y (c7Y l hl) hG x hx
theorem c6E(hG:Glob gH H)(x:Nat×Nat){t:Nat×Nat}(ht:t∈b5b.flatten)(hx:x∈tN t):Fn prog 100 [.string (qI x.1),.string (qI x.2)] H λr H'=>r=.string (qI (x.1*x.2))∧St prog H H' []:=by obtain⟨l,hl,ht⟩:=List.mem_flatten.1 ht;exact b9A (c7r l hl) hG x (gw.2 ⟨t,ht,hx⟩)
theorem c8d(hG:Glob gH H)(x:Nat×Nat){t:Nat×Nat×Nat}(ht:t∈cL)(hx:x∈a6q t):Fn prog 101 [.string (qI x.1),.string (qI x.2)] H λr H'=>r=I (uV x.1 x.2)∧St prog H H' []:=by obtain⟨l,hl,ht⟩:=List.mem_flatten.1 ht;exact b9D (c7R l hl) hG x (gw.2 ⟨t,ht,hx⟩)
theorem c5V:(cL.all λs=>decide (s.1∈nL)&&decide (s.2.1∈nL)&&(b5b.flatten.any λm=>decide (m.1=s.2.1)&&decide (s.2.2<=m.2))&&decide (s.2.2<=12)&&decide (s.1^24<=2*s.2.1^24*4^s.2.2)&&(List.range s.2.2).all λk=>decide (2*s.2.1^24*4^k<s.1^24))=true:=by kernel_rfl
def up:Nat->Int×Int×Int->Int×Int×Int| 0,s=>s| n+1,s=>if s.1<s.2.1 then up n (s.1*2,s.2.1,s.2.2-12)else s
def dn:Nat->Int×Int×Int->Int×Int×Int| 0,s=>s| n+1,s=>if 2*s.2.1<=s.1 then dn n (s.1,s.2.1*2,s.2.2+12)else s
theorem b9e{s:Int×Int×Int}(h:¬s.1<s.2.1):∀n,up n s=s| 0=>rfl| n+1=>by rw[up,if_neg h]
theorem c0p{s:Int×Int×Int}(h:¬2*s.2.1<=s.1):∀n,dn n s=s| 0=>rfl| n+1=>by rw[dn,if_neg h]
def ent(s:Int×Int×Int):Option (Nat×Nat×Nat):=cL.find? λc=>decide ((c.1:Int)=(dn 20 (up 20 s)).1∧(c.2.1:Int)=(dn 20 (up 20 s)).2.1)
def shF(a b:Int×Int):Int:=(dn 20 (up 20 (b.1*a.2,b.2*a.1,0))).2.2+(((ent (b.1*a.2,b.2*a.1,0)).map λc=>(c.2.2:Int)).getD 0)
def nrm(s:Int×Int×Int):Bool:=decide (1<=s.1∧s.1<=1000∧1<=s.2.1∧s.2.1<=1000)&&decide (¬(up 20 s).1<(up 20 s).2.1)&&decide (¬2*(dn 20 (up 20 s)).2.1<=(dn 20 (up 20 s)).1)&&decide (-60<=(dn 20 (up 20 s)).2.2∧(dn 20 (up 20 s)).2.2<=60)&&(ent s).isSome
theorem c5i:(lG.all λa=>mO.all λb=>nrm (b.1*a.2,b.2*a.1,0)&&decide (oT a.1 a.2=0)&&decide (oT b.1 b.2=0))=true:=by kernel_rfl
theorem St.gl{P:Program}{G H:Heap}{B:Heap}{os:List Ob}(hS:St P B H os)(hG:Glob G B):Glob G H:=⟨ek hG.len hS.len,λA hA=>by rw[hS.ar A (ez hA hG.len)];exact hG.same A hA,hG.glob⟩
theorem c4r{s:Nat×Nat×Nat}(h:s∈cL):s.1∈nL∧s.2.1∈nL∧(∃m,m∈b5b.flatten∧m.1=s.2.1∧s.2.2<=m.2)∧s.2.2<=12∧s.1^24<=2*s.2.1^24*4^s.2.2∧∀k,k<s.2.2->2*s.2.1^24*4^k<s.1^24:=by have:=dZ.1 c5V _ h;simp only[dN,decide_eq_true_eq,gW]at this;exact⟨this.1.1.1.1.1,this.1.1.1.1.2,this.1.1.1.2,this.1.1.2,this.1.2,λk hk=>of_decide_eq_true (dZ.1 this.2 k (eO.2 hk))⟩
def a8J(a b c d:Int):Int:=if oT a b≠0 then oT a b else oT c d
theorem b9m(a b c d:Int):Fn prog 75 [.agg #[I a,I b],.agg #[I c,I d]] H λr H'=>r=I (a8J a b c d)∧St prog H H' []:=by
 refine .aF func75 rfl (by kernel_rfl) (m:=13) rfl λl hn g0 g1=> ?_;simp(disch:=omega) only[↓RA,RB,simprocAttr,g0];refine(sR H).eNew 2 [I a,I b] rfl rfl rfl vJ λA1 H1 hS1=> ?_;simp only[RT]at hS1;simp(disch:=omega) only[↓RA,RB,simprocAttr,g1];refine hS1.eNew 2 [I c,I d] rfl rfl rfl vJ λA2 H2 hS2=> ?_;simp only[RT]at hS2;simp(disch:=omega) only[↓RA,RZ,simprocAttr,hn,hS2.av 0 rfl];refine hS2.cF (a2f a b) λH3 hS3=> ?_;simp(disch:=omega) only[↓RA,RB,simprocAttr,hn];refine jB (λh=> ?_) (λh=> ?_);(·simp(disch:=omega) only[↓RA,RZ,simprocAttr,hn,c6k,h];exact⟨by rw[a8J,if_pos h],hS3.forget⟩);simp(disch:=omega) only[↓RA,RZ,simprocAttr,hn,hS3.av 1 rfl,h];refine hS3.cF (a2f c d) λH4 hS4=> ?_;simp(disch:=omega) only[↓RA,RZ,simprocAttr,hn,c6k,h];exact⟨by rw[a8J,if_neg h],hS4.forget⟩
theorem b7B(hG:Glob gH H)(a b:Int×Int)(hr:nrm (b.1*a.2,b.2*a.1,0)=true):Fn prog 76 [.agg #[I a.1,I a.2],.agg #[I b.1,I b.2]] H λr H'=>(r=I (shF a b)∧-100<=shF a b∧shF a b<=100)∧St prog H H' []:=by
 unfold nrm at hr;simp only[dN,decide_eq_true_eq]at hr;obtain⟨⟨⟨⟨hr0,hr1⟩,hr2⟩,hr3⟩,hen⟩:=hr;obtain⟨⟨X,Y,K⟩,hen⟩:=fU.1 hen;(have hsh:shF a b=(dn 20 (up 20 (b.1*a.2,b.2*a.1,0))).2.2+(K:Int):=by unfold shF;rw[hen];rfl);rw[hsh];clear hsh;have hc:(X,Y,K)∈cL:=ij hen;have hXY:=iX hen;rw[decide_eq_true_eq]at hXY;obtain⟨hX,hY⟩:=hXY;clear hen;generalize hR1:up 20 (b.1*a.2,b.2*a.1,0)=R1 at hr1 hr2 hr3 hX hY;generalize hR2:dn 20 R1=R2 at hr2 hr3 hX hY;obtain⟨c1,c2,⟨m,c3,c4,c5⟩,c6,c7,c8⟩:=c4r hc;simp only at c1 c2 c4 c5 c6 c7 c8 hX hY;refine .aF func76 rfl (by kernel_rfl) (m:=61) rfl λl hn g0 g1=> ?_;simp(disch:=omega) only[↓RA,RB,simprocAttr,g0];refine(sR H).eNew 2 [I a.1,I a.2] rfl rfl rfl vJ λA1 H1 hS1=> ?_;simp only[RT]at hS1;simp(disch:=omega) only[↓RA,RB,simprocAttr,g1];refine hS1.eNew 2 [I b.1,I b.2] rfl rfl rfl vJ λA2 H2 hS2=> ?_;simp only[RT]at hS2;simp(disch:=omega) only[↓RA,RB,simprocAttr]
 refine Wp.drw lA (by kernel_rfl) ?_;simp(disch:=omega) only[↓RA,RZ,simprocAttr,hn,hS2.ld 1 rfl,hS2.ld 0 rfl];refine Wp.al (λn l H'=>l.length=61∧get l 4=I 0∧∃(x y t:Int),(up n (x,y,t)=R1∧1<=x∧x<=2000∧1<=y∧y<=1000∧n<=20∧-12*(20-(n:Int))<=t∧t<=0)∧get l 5=I x∧get l 6=I y∧get l 7=I t∧St prog H H' [⟨ptr A1 0 2,0,[I a.1,I a.2]⟩,⟨ptr A2 0 2,0,[I b.1,I b.2]⟩]) 20 ?_ ?_;(·simp(disch:=omega) only[RB,RC,simprocAttr,hn];exact⟨_,_,_,by refine⟨hR1,?_⟩;omega,rfl,rfl,rfl,hS2⟩);rintro n l H3⟨hn,g4,x,y,t,⟨u1,u2,u3,u4,u5,u6,u7,u8⟩,g5,g6,g7,hS3⟩;simp(disch:=omega) only[↓RA,RB,simprocAttr,hn,g5,g6];refine jB (λh=> ?_) (λh=> ?_);(·simp(disch:=omega) only[↓RA,RZ,simprocAttr,hn,g4,g5,g6,g7,h];cases n with| zero=>rw[<-u1]at hr1;exact absurd h hr1| succ n=>rw[up,if_pos h]at u1;exact⟨n,by omega,x*2,y,t-12,⟨u1,by omega,by omega,by omega,by omega,by omega,by omega,by omega⟩,rfl,rfl,rfl,hS3⟩);rw[b9e h]at u1;simp(disch:=omega) only[↓RA,RC,simprocAttr,h]
 refine Wp.al (λn l H'=>l.length=61∧get l 4=I 0∧∃(x2 y2 t2:Int),(dn n (x2,y2,t2)=R2∧x2=x∧1<=y2∧y2<=x2∧n<=20∧t2<=12*(20-(n:Int))∧-240<=t2)∧get l 5=I x2∧get l 6=I y2∧get l 7=I t2∧St prog H H' [⟨ptr A1 0 2,0,[I a.1,I a.2]⟩,⟨ptr A2 0 2,0,[I b.1,I b.2]⟩]) 20 ?_ ?_;(·simp(disch:=omega) only[RB,RC,simprocAttr,hn,g4,g5,g6,g7];exact⟨_,_,_,by refine⟨by rw[u1];exact hR2,?_⟩;omega,rfl,rfl,rfl,hS3⟩);rintro n l H4⟨hn,g4,x2,y2,t2,⟨v1,v2,v3,v4,v5,v6,v7⟩,g5,g6,g7,hS4⟩;simp(disch:=omega) only[↓RA,RB,simprocAttr,hn,g5,g6];refine jB (λh2=> ?_) (λh2=> ?_);(·simp(disch:=omega) only[↓RA,RZ,simprocAttr,hn,g4,g5,g6,g7,h2];cases n with| zero=>rw[<-v1]at hr2;exact absurd h2 hr2| succ n=>rw[dn,if_pos h2]at v1;exact⟨n,by omega,x2,y2*2,t2+12,⟨v1,v2,by omega,by omega,by omega,by omega,by omega⟩,rfl,rfl,rfl,hS4⟩);rw[c0p (by simp only;omega)]at v1;subst v1;simp only at hX hY hr3;subst hX;subst hY;simp(disch:=omega) only[↓RA,RZ,simprocAttr,hn,g5,h2]
 refine hS4.cF (ofT (hS4.gl hG) X c1) λH5 hS5=> ?_;simp(disch:=omega) only[↓RA,RZ,simprocAttr,hn,h2];refine hS5.cF (c6d (hS5.gl hG) X c1) λH6 hS6=> ?_;simp(disch:=omega) only[↓RA,RZ,simprocAttr,hn,g6,h2];refine hS6.cF (ofT (hS6.gl hG) Y c2) λH7 hS7=> ?_;simp(disch:=omega) only[↓RA,RZ,simprocAttr,hn,h2];refine hS7.cF (c6d (hS7.gl hG) Y c2) λH8 hS8=> ?_;simp(disch:=omega) only[↓RA,RZ,simprocAttr,hn,h2];refine hS8.cF (c6E (hS8.gl hG) (Y^24,2) c3 (by rw[<-c4];exact eL ..)) λH9 hS9=> ?_;simp(disch:=omega) only[↓RA,RZ,simprocAttr,hn,h2];refine Wp.al (λn l H'=>l.length=61∧get l 4=I 0∧get l 8=(.string (qI (X^24)))∧∃(k:Nat),(n=13-k∧k<=K)∧get l 7=I (t2+k)∧get l 12=(.string (qI (2*Y^24*4^k)))∧St prog H H' [⟨ptr A1 0 2,0,[I a.1,I a.2]⟩,⟨ptr A2 0 2,0,[I b.1,I b.2]⟩]) 13 ?_ ?_;(·simp(disch:=omega) only[RB,RC,simprocAttr,hn,g4,g7];exact⟨0,⟨rfl,by omega⟩,by simp,by simp[Nat.mul_comm],hS9⟩);rintro n l H10⟨hn,g4,g8,k,⟨hn3,hk⟩,g7,g12,hS10⟩
 simp(disch:=omega) only[↓RA,RZ,simprocAttr,hn,g8,g12];refine hS10.cF (c8d (hS10.gl hG) (X^24,2*Y^24*4^k) hc (eC.2 ⟨k,eO.2 (by simp only;omega),rfl⟩)) λH11 hS11=> ?_;simp(disch:=omega) only[↓RA,RB,simprocAttr,hn];refine jB (λh3=> ?_) (λh3=> ?_);(·(have hlt:2*Y^24*4^k<X^24:=by refine iS λhle=> ?_;unfold uV at h3;split at h3;(·omega);·split at h3;(·omega);·omega);(have hkK:k<K:=by rcases gC k K with e|e;(·exact e);·(have e:k=K:=by omega);rw[e]at hlt;omega);simp(disch:=omega) only[↓RA,RZ,simprocAttr,hn,g7,g12,h3];refine hS11.cF (c6E (hS11.gl hG) (2*Y^24*4^k,4) c3 (by rw[<-c4];exact fj _ (eC.2 ⟨k,eO.2 (by omega),rfl⟩))) λH12 hS12=> ?_;simp(disch:=omega) only[↓RA,RZ,simprocAttr,hn,g4,g8,h3];exact⟨12-k,by omega,k+1,⟨by omega,by omega⟩,by congr 1;omega,by rw[show 2*Y^24*4^(k+1)=2*Y^24*4^k*4 from by rw[jg 4 k];simp only[Nat.mul_assoc]],hS12⟩);(have hkk:k=K:=by have hnl:¬2*Y^24*4^k<X^24:=λhlt=>h3 (by unfold uV;rw[if_neg (by omega),if_pos hlt];decide);rcases gC k K with e|e;(·exact absurd (c8 k e) hnl);·omega)
 simp(disch:=omega) only[↓RA,RZ,simprocAttr,hn,g7,c7c,h3];first|exact⟨⟨by rw[hkk],by omega,by omega⟩,hS11.forget⟩|exact⟨⟨by rw[hkk],by rw[<-hkk];omega,by rw[<-hkk];omega⟩,hS11.forget⟩
theorem a9e(hG:Glob gH H){a b:Int×Int}(h1:nrm (b.1*a.2,b.2*a.1,0)=true)(h2:oT a.1 a.2=0)(h3:oT b.1 b.2=0):Fn prog 52 [.agg #[I a.1,I a.2],.agg #[I b.1,I b.2]] H λr H'=>(r=.tuple #[I (shF a b),I 0]∧-100<=shF a b∧shF a b<=100)∧St prog H H' []:=by
 refine .aF func52 rfl (by kernel_rfl) (m:=16) rfl λl hn g0 g1=> ?_;simp(disch:=omega) only[↓RA,RB,simprocAttr,g0];refine(sR H).eNew 2 [I a.1,I a.2] rfl rfl rfl vJ λA1 H1 hS1=> ?_;simp only[RT]at hS1;simp(disch:=omega) only[↓RA,RB,simprocAttr,g1];refine hS1.eNew 2 [I b.1,I b.2] rfl rfl rfl vJ λA2 H2 hS2=> ?_;simp only[RT]at hS2;simp(disch:=omega) only[↓RA,RZ,simprocAttr,hn,hS2.av 0 rfl,hS2.av 1 rfl];refine hS2.cF (b9m a.1 a.2 b.1 b.2) λH3 hS3=> ?_;(have he:a8J a.1 a.2 b.1 b.2=0:=by unfold a8J;rw[h2,h3];rfl);simp(disch:=omega) only[↓RA,RB,simprocAttr,hn];refine jB (λh=> ?_) (λh=> ?_);(·exact(h he).elim);simp(disch:=omega) only[↓RA,RZ,simprocAttr,hn,hS3.av 0 rfl,hS3.av 1 rfl,h];refine jH (b7B (hS3.gl hG) a b h1) ?_;rintro r H4⟨⟨rfl,hn1,hn2⟩,hT2⟩;have hS4:=hS3.trans hT2;simp only[RT]at hS4;simp(disch:=omega) only[↓RA,RZ,simprocAttr,hn,c7K,h];first|exact⟨⟨rfl,hn1,hn2⟩,hS4.forget⟩|exact⟨⟨hn1,hn2⟩,hS4.forget⟩
theorem a2z(hG:Glob gH H){a b:Int×Int}(ha:a∈lG)(hb:b∈mO):Fn prog 52 [.agg #[I a.1,I a.2],.agg #[I b.1,I b.2]] H λr H'=>(r=.tuple #[I (shF a b),I 0]∧-100<=shF a b∧shF a b<=100)∧St prog H H' []:=by have h:=dZ.1 (dZ.1 c5i a ha) b hb;simp only[dN,decide_eq_true_eq]at h;exact a9e hG h.1.1 h.1.2 h.2
theorem a4j(hG:Glob gH H){a b:Int×Int}(ha:a∈lG)(hb:b∈mO):Fn prog 52 [.agg #[I a.1,I a.2],.agg #[I b.1,I b.2]] H λr H'=>(∃n:Int,r=.tuple #[I n,I 0]∧-100<=n∧n<=100)∧St prog H H' []:=(a2z hG ha hb).mono λ_ _ h=>⟨⟨_,h.1⟩,h.2⟩
end Go.Ds
namespace Go.Ds
open Go.Proofs
variable {P:Program} {H:Heap}
structure Pul where
 rank:Nat
 feet:Nat
 kind:Nat
 pos:Nat
 deriving Inhabited
def Pul.cells(p:Pul):List Value:=[.int .u8 p.rank,.int .u8 p.feet,.int .u8 p.kind,.int .u8 p.pos]
def Pul.Ok(p:Pul):Prop:=p.rank<256∧p.feet<256∧p.kind<256∧p.pos<256
section
variable {H':Heap} {os:List Ob}
theorem c7d(hS:St P H H' os)(a b:Nat){w1 w2:Value}{lo hi:Int}{ds:List Drw}(h1:os[a]? =some ⟨w1,2,ds.flatMap Drw.cells⟩)(h2:os[b]? =some ⟨w2,3,[I lo,I hi,w1]⟩)(hl:ds.length<1000000000)(nm:ByteArray)(num den:Int): Stp.Ix H' (λB=>H.length<=B) ⟨nm,num,den,w2,[⟨lo,hi,w1,ds⟩]⟩:=by refine⟨hS.bC (xs:=[(⟨lo,hi,w1,ds⟩:Seg)]) b h2 (λ_=>rfl),?_,by simp⟩;intro g hg;obtain rfl:=ee.1 hg;exact⟨hS.bC a h1 (λ_=>rfl),hl⟩
theorem c7v(hS:St P H H' os)(a b c:Nat){w1 w2 w3:Value}{lo m at' hi:Int}{ds ds':List Drw}(h1:os[a]? =some ⟨w1,2,ds.flatMap Drw.cells⟩)(h2:os[b]? =some ⟨w2,2,ds'.flatMap Drw.cells⟩)(h3:os[c]? =some ⟨w3,3,[I lo,I m,w1,I at',I hi,w2]⟩) (hl:ds.length<1000000000) (hl':ds'.length<1000000000) (nm:ByteArray) (num den:Int):Stp.Ix H' (λB=>H.length<=B) ⟨nm,num,den,w3,[⟨lo,m,w1,ds⟩,⟨at',hi,w2,ds'⟩]⟩:=by refine⟨hS.bC (xs:=[(⟨lo,m,w1,ds⟩:Seg),⟨at',hi,w2,ds'⟩]) c h3 (λ_=>rfl),?_,by simp⟩;intro g hg;rcases fC.1 hg with rfl|hg;(·exact⟨hS.bC a h1 (λ_=>rfl),hl⟩);obtain rfl:=ee.1 hg;exact⟨hS.bC b h2 (λ_=>rfl),hl'⟩
end
end Go.Ds
namespace Go.Ds
open Go.Proofs Go.Proofs.Tryz
variable {P:Program} {H:Heap}
structure Brd where
 low:Nat
 keys:Nat
 pedal:Bool
 sv:Value
 stops:List Pul
 deriving Inhabited
structure Lnk where
 src:Nat
 dst:Nat
 shift:Int
 thr:Bool
 deriving Inhabited
structure Pln where
 rv:Value
 ranks:List RPl
 dv:Value
 dvs:List Brd
 cv:Value
 cpls:List Lnk
 deriving Inhabited
def Brd.cells(b:Brd):List Value:=[.int .u8 b.low,.int .u8 b.keys,.bool b.pedal,b.sv]
def Lnk.cells(l:Lnk):List Value:=[.int .u8 l.src,.int .u8 l.dst,.int .i8 l.shift,.bool l.thr]
def Pln.cells(p:Pln):List Value:=[p.rv,p.dv,p.cv]
def Brd.In(H:Heap)(b:Brd):Prop:=Sl 4 Pul.cells H b.sv b.stops∧b.stops.length<9223372036854775808
def Pln.In(H:Heap)(p:Pln):Prop:=Sl 9 RPl.cells H p.rv p.ranks∧Sl 4 Brd.cells H p.dv p.dvs∧(∀b∈p.dvs,b.In H)∧Sl 4 Lnk.cells H p.cv p.cpls∧p.ranks.length<9223372036854775808∧p.dvs.length<9223372036854775808∧p.cpls.length<9223372036854775808
def Brd.Ok(b:Brd):Prop:=b.low<256∧b.keys<256∧∀s∈b.stops,s.Ok
def Lnk.Ok(l:Lnk):Prop:=l.src<256∧l.dst<256∧-128<=l.shift∧l.shift<128
def Pln.Ok(p:Pln):Prop:=(∀r∈p.ranks,r.Ok)∧(∀b∈p.dvs,b.Ok)∧∀l∈p.cpls,l.Ok
theorem Brd.In.ar{H0:Heap}{os:List Ob}{b:Brd}(h:b.In H0)(hS:St P H0 H os):b.In H:=⟨hS.sl h.1,h.2⟩
theorem Pln.In.ar{H0:Heap}{os:List Ob}{p:Pln}(h:p.In H0)(hS:St P H0 H os):p.In H:=⟨hS.sl h.1,hS.sl h.2.1,λb hb=>(h.2.2.1 b hb).ar hS,hS.sl h.2.2.2.1,h.2.2.2.2⟩
def a1x(p:Pln):Bool:=decide (1<=p.ranks.length)&&decide (p.ranks.length<=3)&&decide (1<=p.dvs.length)&&decide (p.dvs.length<=3)&&decide (p.cpls.length<=3)&&p.dvs.all λb=>decide (b.stops.length<=3)
theorem b9Q(p:Pln)(hp:p.In H):Fn prog 10 [.agg #[p.rv,p.dv,p.cv]] H λr H'=>r=.bool (a1x p)∧St prog H H' []:=by
 have hl1:=hp.2.2.2.2.1;have hl2:=hp.2.2.2.2.2.1;have hl3:=hp.2.2.2.2.2.2;(have no:¬(1<=p.ranks.length∧p.ranks.length<=3∧1<=p.dvs.length∧p.dvs.length<=3∧p.cpls.length<=3)->a1x p=false:=λhh=>by rw[<-gO];unfold a1x;simp only[dN,decide_eq_true_eq];exact λh=>hh ⟨h.1.1.1.1.1,h.1.1.1.1.2,h.1.1.1.2,h.1.1.2,h.1.2⟩);refine .aN func10 rfl (by kernel_rfl) (m:=47) rfl λl hn g0=> ?_;simp only[↓RA,RB,g0];refine(sR H).eNew 3 [p.rv,p.dv,p.cv] rfl rfl (by simp[((sR H).sl hp.1).cells.2.1,((sR H).sl hp.2.1).cells.2.1,((sR H).sl hp.2.2.2.1).cells.2.1]) c0A λA1 H1 hS1=> ?_;simp only[RT]at hS1;simp only[↓RA,RZ,simprocAttr,hn,hS1.ld 0 rfl,(hS1.sl hp.1).len];refine jO (λh1=> ?_) (λh1=> ?_);(·simp only[↓RA,RZ,simprocAttr,hn,b0w,h1];exact⟨by rw[no (by omega)],hS1.forget⟩);simp only[↓RA,RZ,simprocAttr,hn,hS1.ld 0 rfl,(hS1.sl hp.1).len,h1];refine jO (λh2=> ?_) (λh2=> ?_);(·simp only[↓RA,RZ,simprocAttr,hn,b0w,h1,h2];exact⟨by rw[no (by omega)],hS1.forget⟩)
 simp only[↓RA,RZ,simprocAttr,hn,hS1.ld 0 rfl,(hS1.sl hp.2.1).len,h1,h2];refine jO (λh3=> ?_) (λh3=> ?_);(·simp only[↓RA,RZ,simprocAttr,hn,b0w,h1,h2,h3];exact⟨by rw[no (by omega)],hS1.forget⟩);simp only[↓RA,RZ,simprocAttr,hn,hS1.ld 0 rfl,(hS1.sl hp.2.1).len,h1,h2,h3];refine jO (λh4=> ?_) (λh4=> ?_);(·simp only[↓RA,RZ,simprocAttr,hn,b0w,h1,h2,h3,h4];exact⟨by rw[no (by omega)],hS1.forget⟩);simp only[↓RA,RZ,simprocAttr,hn,hS1.ld 0 rfl,(hS1.sl hp.2.2.2.1).len,h1,h2,h3,h4];refine jB (λh5=> ?_) (λh5=> ?_);(·simp only[↓RA,RZ,simprocAttr,hn,b0w,h1,h2,h3,h4,h5];exact⟨by rw[no (by omega)],hS1.forget⟩);simp only[↓RA,RZ,h1,h2,h3,h4,h5];(have hE:a1x p=p.dvs.all λb=>decide (b.stops.length<=3):=by unfold a1x;rw[decide_eq_true (by omega),decide_eq_true (by omega),decide_eq_true (by omega),decide_eq_true (by omega),decide_eq_true (by omega)];rfl);clear no;refine Wp.al (λn l H'=>l.length=47∧get l 1=(ptr A1 0 3)∧∃(i:Nat),(n+i=p.dvs.length∧∀j,j<i->(jA p.dvs j).stops.length<=3)∧get l 3=I i∧St prog H H' [⟨ptr A1 0 3,0,[p.rv,p.dv,p.cv]⟩]) p.dvs.length ?_ ?_
 (·simp only[RB,RC,simprocAttr,hn];exact⟨0,⟨by omega,λj hj=>absurd hj (eK _)⟩,rfl,hS1⟩);rintro n l H2⟨hn,g1,i,⟨hi,hz⟩,g3,hS2⟩;have hst:∀h:i<p.dvs.length,(jA p.dvs i).stops.length<9223372036854775808:=λh=>(hp.2.2.1 _ (jC h)).2;simp only[↓RA,RZ,simprocAttr,hn,g1,g3,hS2.ld 0 rfl,(hS2.sl hp.2.1).len];refine jB (λq1=> ?_) (λq1=> ?_);(·have hst:=hst (by omega);simp(disch:=omega) only[↓RA,RZ,simprocAttr,hn,g1,g3,hS2.ld 0 rfl,(hS2.sl hp.2.1).idx,(hS2.sl hp.2.1).ba,(hS2.sl hp.2.1).ld,Brd.cells,(hS2.sl (hp.2.2.1 (jA p.dvs i) (jC (by omega))).1).len,q1];refine jB (λq2=> ?_) (λq2=> ?_);(·simp only[↓RA,RZ,simprocAttr,hn,b0w,q1,q2];refine⟨?_,hS2.forget⟩;rw[hE];congr 1;symm;rw[<-gO,dZ];intro hh;have:=of_decide_eq_true (hh _ (jC (xs:=p.dvs) (j:=i) (by omega)));omega);simp(disch:=omega) only[↓RA,RZ,simprocAttr,hn,g1,g3,q1,q2];exact⟨n-1,by omega,i+1,⟨by omega,λj hj=>by rcases dX.1 hj with e|e;(· exact hz j e);(· rw[e];omega)⟩,by simp,hS2.sub (by simp)⟩)
 simp only[↓RA,RZ,simprocAttr,hn,b0w,q1];refine⟨?_,hS2.forget⟩;rw[hE];congr 1;symm;rw[dZ];intro x hx;obtain⟨j,hj,rfl⟩:=eE.1 hx;rw[<-kC p.dvs j hj];exact decide_eq_true (hz j (by omega))
end Go.Ds
namespace Go.Ds
open Go.Proofs
variable {H:Heap}
theorem b8K{α:Type}[Inhabited α](l:List α)(x:α)(j:Nat):jA (l++[x]) j=if j=l.length then x else jA l j:=by unfold jA;rw[dT,dT];split;(·rename_i h;subst h;simp);·rename_i h;rcases gY h with h|h;(·rw[fw h]);·rw[fx (by simp;omega),fx (by omega)]
theorem uC{α:Type}[Inhabited α]{l:List α}{x:α}{Q:Nat->α->Prop}(h:∀j,j<l.length->Q j (jA l j))(hx:Q l.length x):∀j,j<(l++[x]).length->Q j (jA (l++[x]) j):=by intro j hj;rw[b8K];split;(·rename_i e;rw[e];exact hx);·simp at hj;exact h j (by omega)
theorem a2e{α:Type}{l:List α}{x:α}{Q:α->Prop}(h:∀y∈l,Q y)(hx:Q x):∀y∈l++[x],Q y:=by intro y hy;rcases eo.1 hy with hy|hy;(·exact h y hy);·rw[ee.1 hy];exact hx
theorem rU{α:Type}(l:List α)(x:α)(f:α->List Value):(l++[x]).flatMap f=l.flatMap f++f x:=by rw[ed,eW,List.flatMap_nil,eu]
theorem b4Q(a:Int): -24<=a.tmod 25∧a.tmod 25<=24:=by have h:=Int.natAbs_tmod a 25;have h2:(25:Int).natAbs=25:=rfl;rw[h2]at h;have:a.natAbs%25<25:=fN _ (by decide);omega
structure Made(p:Pln)(o:Org):Prop where
 ok:OrgOk o
 rlen:o.ranks.length=p.ranks.length
 dlen:o.dvs.length=p.dvs.length
 clen:o.cpls.length=p.cpls.length
 slen:∀j,j<p.dvs.length→(jA o.dvs j).stops.length=(jA p.dvs j).stops.length
end Go.Ds
namespace Go.Ds
open Go.Proofs Go.Proofs.Tryz Go.ChangeShapes Go.WideShapes Go.RowKit Go.Deep
theorem ce4:prog.cellsOf 4=1:=by kernel_rfl
theorem ce5:prog.cellsOf 5=1:=by kernel_rfl
theorem c4C:prog.cellsOf 87=1:=by kernel_rfl
theorem c1Z:prog.cellsOf 109=5:=by kernel_rfl
theorem c4s:prog.cellsOf 105=1:=by kernel_rfl
theorem c1S:prog.cellsOf 111=9:=by kernel_rfl
theorem c2d:prog.cellsOf 107=4:=by kernel_rfl
theorem c1F:prog.cellsOf 115=4:=by kernel_rfl
theorem c1N:prog.cellsOf 117=4:=by kernel_rfl
theorem c7Q:prog.cellsOf 22=1:=by kernel_rfl
theorem c8g:prog.cellsOf 23=1:=by kernel_rfl
theorem c7Z:prog.cellsOf 24=1:=by kernel_rfl
theorem c7w:prog.cellsOf 26=3:=by kernel_rfl
section
variable {H0:Type} {enc:TypeId×Value→H0} {w:World} {base n:Nat} {spare:Nat→Bool} {lZ:Bool} {x:DataW H0×List MemPlace}
theorem pK{v:Value}(h:DataW.trod enc prog w base spare lZ n 5 [v]=some x):∃m:Nat,v=.int .u8 m∧m<256:=by obtain⟨m,hv,_,hw⟩:=DataW.trod_int underlying5 h;(have hv:v=.int .u8 m:=by simpa using hv);(have hm:0<=m∧m<=255:=by simpa [Lit.wf,IntKind.min,IntKind.max,IntKind.signed,IntKind.bits]using hw);exact⟨m.toNat,by rw[hv,fW hm.1],by omega⟩
theorem b8A{v:Value}(h:DataW.trod enc prog w base spare lZ n 87 [v]=some x):∃m:Int,v=.int .i8 m∧-128<=m∧m<128:=by obtain⟨m,hv,_,hw⟩:=DataW.trod_int underlying87 h;(have hv:v=.int .i8 m:=by simpa using hv);(have hm: -128<=m∧m<=127:=by simpa [Lit.wf,IntKind.min,IntKind.max,IntKind.signed,IntKind.bits]using hw);exact⟨m,hv,hm.1,by omega⟩
theorem b1R{v:Value}(h:DataW.trod enc prog w base spare lZ n 4 [v]=some x):∃b,v=.bool b:=by obtain⟨b,hv,_⟩:=DataW.trod_bool underlying4 h;exact⟨b,by simpa using hv⟩
theorem a2t{t:TypeId}{fs:Array Field}{cs:List Value}(ht:prog.underlying t=some (.struct fs))(h:DataW.trod enc prog w base spare lZ n t cs=some x): cs.length=prog.cellsOf t∧∃m,∀(i:Nat)(f:Field),fs[i]? =some f->∃y,DataW.trod enc prog w base spare lZ m f.type ((cs.drop f.offset).take (prog.cellsOf f.type))=some y:=by obtain⟨xs,m,_,_,hl,hxl,hf⟩:=DataW.trod_struct ht h;refine⟨hl,m,λi f hi=> ?_⟩;(have hlt:i<xs.length:=by rw[hxl];exact(dQ.1 hi).1);exact⟨xs[i],by rw[hf i f hi,dV hlt]⟩
theorem c1w{cs:List Value}(h:DataW.trod enc prog w base spare lZ n 109 cs=some x):∃b:Nat->Nat,(∀i,b i<256)∧cs=[.int .u8 (b 0),.int .u8 (b 1),.int .u8 (b 2),.int .u8 (b 3),.int .u8 (b 4)]:=by
 obtain⟨xs,m,_,_,hl,hxl,hf⟩:=DataW.trod_array underlying109 h;rw[c1Z]at hl;match cs,hl with| [c0,c1,c2,c3,c4],_=>(have hy:∀i,i<5->∃y,DataW.trod enc prog w base spare lZ m 5 ((([c0,c1,c2,c3,c4]:List Value).drop (i*1)).take 1)=some y:=λi hi=>by have:=hf i hi;rw[ce5]at this;exact⟨xs[i],by rw[this,dV (by omega)]⟩);obtain⟨_,h0⟩:=hy 0 (by decide);obtain⟨_,h1⟩:=hy 1 (by decide);obtain⟨_,h2⟩:=hy 2 (by decide);obtain⟨_,h3⟩:=hy 3 (by decide);obtain⟨_,h4⟩:=hy 4 (by decide);obtain⟨b0,rfl,k0⟩:=pK h0;obtain⟨b1,rfl,k1⟩:=pK h1;obtain⟨b2,rfl,k2⟩:=pK h2;obtain⟨b3,rfl,k3⟩:=pK h3;obtain⟨b4,rfl,k4⟩:=pK h4;exact⟨λi=>match i with|0=>b0|1=>b1|2=>b2|3=>b3|_=>b4,λi=>by match i with| 0=>exact k0| 1=>exact k1| 2=>exact k2| 3=>exact k3| _+4=>exact k4,rfl⟩
theorem c3s{cs:List Value}(h:DataW.trod enc prog w base spare lZ n 115 cs=some x):∃p:Pul,cs=p.cells∧p.Ok:=by obtain⟨hl,m,hf⟩:=a2t underlying115 h;rw[c1F]at hl;match cs,hl with| [c0,c1,c2,c3],_=>obtain⟨_,h0⟩:=hf 0 ⟨_,5,0,_,_,_,_⟩ rfl;obtain⟨_,h1⟩:=hf 1 ⟨_,5,1,_,_,_,_⟩ rfl;obtain⟨_,h2⟩:=hf 2 ⟨_,5,2,_,_,_,_⟩ rfl;obtain⟨_,h3⟩:=hf 3 ⟨_,5,3,_,_,_,_⟩ rfl;simp only[ce5]at h0 h1 h2 h3;obtain⟨b0,rfl,k0⟩:=pK h0;obtain⟨b1,rfl,k1⟩:=pK h1;obtain⟨b2,rfl,k2⟩:=pK h2;obtain⟨b3,rfl,k3⟩:=pK h3;exact⟨⟨b0,b1,b2,b3⟩,rfl,k0,k1,k2,k3⟩
theorem c2B{cs:List Value}(h:DataW.trod enc prog w base spare lZ n 117 cs=some x):∃p:Lnk,cs=p.cells∧p.Ok:=by obtain⟨hl,m,hf⟩:=a2t underlying117 h;rw[c1N]at hl;match cs,hl with| [c0,c1,c2,c3],_=>obtain⟨_,h0⟩:=hf 0 ⟨_,5,0,_,_,_,_⟩ rfl;obtain⟨_,h1⟩:=hf 1 ⟨_,5,1,_,_,_,_⟩ rfl;obtain⟨_,h2⟩:=hf 2 ⟨_,87,2,_,_,_,_⟩ rfl;obtain⟨_,h3⟩:=hf 3 ⟨_,4,3,_,_,_,_⟩ rfl;simp only[ce5,c4C,ce4]at h0 h1 h2 h3;obtain⟨b0,rfl,k0⟩:=pK h0;obtain⟨b1,rfl,k1⟩:=pK h1;obtain⟨b2,rfl,k2⟩:=b8A h2;obtain⟨b3,rfl⟩:=b1R h3;exact⟨⟨b0,b1,b2,b3⟩,rfl,k0,k1,k2.1,k2.2⟩
theorem c2p{cs:List Value}(h:DataW.trod enc prog w base spare lZ n 111 cs=some x):∃p:RPl,cs=p.cells∧p.Ok:=by
 obtain⟨hl,m,hf⟩:=a2t underlying111 h;rw[c1S]at hl;match cs,hl with| [c0,c1,c2,c3,c4,c5,c6,c7,c8],_=>obtain⟨_,h0⟩:=hf 0 ⟨_,5,0,_,_,_,_⟩ rfl;obtain⟨_,h1⟩:=hf 1 ⟨_,5,1,_,_,_,_⟩ rfl;obtain⟨_,h2⟩:=hf 2 ⟨_,87,2,_,_,_,_⟩ rfl;obtain⟨_,h3⟩:=hf 3 ⟨_,5,3,_,_,_,_⟩ rfl;obtain⟨_,h4⟩:=hf 4 ⟨_,109,4,_,_,_,_⟩ rfl;simp only[ce5,c4C,c1Z]at h0 h1 h2 h3 h4;obtain⟨b0,rfl,k0⟩:=pK h0;obtain⟨b1,rfl,k1⟩:=pK h1;obtain⟨b2,rfl,k2⟩:=b8A h2;obtain⟨b3,rfl,k3⟩:=pK h3;obtain⟨b,kb,hb⟩:=c1w h4;have hb:[c4,c5,c6,c7,c8]=[Value.int .u8 (b 0),.int .u8 (b 1),.int .u8 (b 2),.int .u8 (b 3),.int .u8 (b 4)]:=hb;simp only[il,and_true]at hb;obtain⟨rfl,rfl,rfl,rfl,rfl⟩:=hb;exact⟨⟨b0,b1,b2,b3,b 0,b 1,b 2,b 3,b 4⟩,rfl,k0,k1,k2.1,k2.2,k3,kb 0,kb 1,kb 2,kb 3,kb 4⟩
end
theorem All2.at{α β:Type}{R:α->β->Prop}:∀{l:List α}{l':List β},All2 R l l'->∀(i:Nat)c,l[i]? =some c->∃c',l'[i]? =some c'∧R c c'| [],[],_,i,c,h=>by simp at h| a::l,b::l',h,0,c,hc=>by simp only[ft,ef]at hc;subst hc;exact⟨b,rfl,h.1⟩| a::l,b::l',h,i+1,c,hc=>All2.at h.2 i c (by simpa using hc)
section
variable {P:Program} {ρ:Rho} {H:Heap} {w:World} {base:Nat}
theorem a6o{α:Type}[Inhabited α]{cel:α->List Value}{sz:Nat}(h:InW P ρ H w){b0:Nat}{cur0:Array Value}{t0:TypeId}{fr0:Nat×Nat}(hb0:w.heap[b0]? =some (.cells cur0 t0 fr0)){ty:TypeId}(hty:jF P ty=some sz)(hs:0<sz)(hc:∀x,(cel x).length=sz) {a:Addr} {len cap:Nat} (hl:len<=cap) (f:Nat->List Value) (hf:∀i,i<cap->w.cells? base (a.add (i*sz)) sz=some (f i)) (xs:List α) (hx:xs.length=len) (hR:∀i,i<len->All2 (C1 ρ) (cel (jA xs i)) (f i)): ∃ρ' H' v,InW P ρ' H' w∧ExtW ρ H ρ' H'∧C1 ρ' v (.slice (some a) len cap)∧Sl sz cel H' v xs:=by
 (have hcell:∀q r,q<cap->r<sz->w.cell? (a.add (q*sz+r))=(f q)[r]?∧(f q).length=sz:=λq r hq hr=>by obtain⟨_,h1,h2⟩:=World.cells?_some (hf q hq);have:=h2 r hr;rw[add_add]at this;exact⟨this,h1⟩);(have hqr:∀i n,i<n*sz->i/sz<n∧i%sz<sz∧i=i/sz*sz+i%sz:=λi n hi=>by refine⟨Nat.div_lt_of_lt_mul (by rwa [Nat.mul_comm]),fN _ hs,?_⟩;rw[Nat.mul_comm];exact(Nat.div_add_mod i sz).symm);obtain⟨ρ',H',v,h1,h2,h3,h4⟩:=h.slice hb0 hty hs hl (λi hi=>by obtain⟨k1,k2,k3⟩:=hqr i cap hi;obtain⟨e1,e2⟩:=hcell _ _ k1 k2;rw[k3,e1,dV (by omega)];rfl) (xs.flatMap cel) (by rw[jE hc,hx]) (λi c hi=>by(have hi':i<len*sz:=by have:=(dW.1 hi).1;rwa [jE hc,hx]at this);obtain⟨k1,k2,k3⟩:=hqr i len hi';rw[k3,a4K hc xs _ _ (by omega) k2]at hi;obtain⟨c',g1,g2⟩:=(hR _ k1).at _ _ hi;refine⟨c',?_,g2⟩;rw[k3,(hcell _ _ (by omega) k2).1,g1]);exact⟨ρ',H',v,h1,h2,h3,h4,hc,hs⟩
end
theorem Sl.ext{α:Type}{sz:Nat}{cel:α->List Value}{ρ ρ':Rho}{H H':Heap}{v:Value}{xs:List α}(h:Sl sz cel H v xs)(e:ExtW ρ H ρ' H'):Sl sz cel H' v xs:=⟨h.rd.ar e.old,h.hc,h.pos⟩
theorem All2.flat{ρ:Rho}:∀(l:List Value),(∀c∈l,jN c=true)->All2 (C1 ρ) l l| [],_=>trivial| c::l,h=>⟨.c0 (.flat (h c (eL ..))),All2.flat l λd hd=>h d (fj _ hd)⟩
section
variable {H0:Type} {enc:TypeId×Value→H0} {w:World} {base fuel:Nat} {lZ:Bool} {x:DataW H0×List MemPlace} {ρ:Rho} {H:Heap}
theorem a5J{α:Type}[Inhabited α]{cel:α->List Value}{ok:α->Prop}{t e:TypeId}{sz:Nat}(ht:prog.underlying t=some (.slice e))(hce:prog.cellsOf e=sz)(hty:jF prog e=some sz)(hs:0<sz)(hc:∀x,(cel x).length=sz)(hsc:∀x,∀c∈cel x,jN c=true) (hit:∀{n cs}{x:DataW H0×List MemPlace},DataW.trod enc prog w base (λ_=>true) lZ n e cs=some x->∃p,cs=cel p∧ok p) (h:InW prog ρ H w) {b0:Nat} {cur0:Array Value} {t0:TypeId} {fr0:Nat×Nat} (hb0:w.heap[b0]? =some (.cells cur0 t0 fr0)) {v:Value} (hv:DataW.trod enc prog w base (λ_=>true) lZ fuel t [v]=some x): ∃ρ' H' v' xs,InW prog ρ' H' w∧ExtW ρ H ρ' H'∧C1 ρ' v' v∧Sl sz cel H' v' xs∧(∀x∈xs,ok x)∧xs.length<9223372036854775808:=by
 rcases open_slice ht hv with⟨hcs,_⟩|⟨a,len,cap,m,n,D,Pl,hcs,_,hl,hm,hmm,_,hi⟩;(·(obtain rfl:v=.slice none 0 0:=by simpa using hcs);exact⟨ρ,H,.slice none 0 0,[],h,.refl _ _,.c0 (.flat rfl),⟨.inl ⟨rfl,rfl⟩,hc,hs⟩,by simp,by simp⟩);·(obtain rfl:v=.slice (some a) len cap:=by simpa using hcs);simp only[if_true]at hmm;subst hmm;rw[hce]at hi;obtain⟨f,hf⟩:=choose_lt (α:=α) (p:=λi p=>w.cells? base (a.add (i*sz)) sz=some (cel p)∧ok p) (λi hi'=>by obtain⟨cs',h1,h2⟩:=hi i hi';obtain⟨p,rfl,hp⟩:=hit h2;exact⟨p,h1,hp⟩);(have hn:∀i,i<len->jA ((List.range len).map f) i=f i:=λi hi=>by rw[c0G _ (by simpa using hi),kC _ _ (by simpa using hi),List.getElem_range]);obtain⟨ρ',H',v',h1,h2,h3,h4⟩:=a6o h hb0 hty hs hc hl (λi=>cel (f i)) (λi hi=>(hf i hi).1) ((List.range len).map f) (by simp) (λi hi=>by rw[hn i hi];exact All2.flat _ (hsc _));refine⟨ρ',H',v',_,h1,h2,h3,h4,λx hx=> ?_,?_⟩;(·obtain⟨i,hi,rfl⟩:=eC.1 hx;exact(hf i (by have:=eO.1 hi;omega)).2);·have:maxLen=9223372036854775807:=rfl;simp;omega
end
section
variable {H0:Type} {enc:TypeId×Value→H0} {w:World} {base fuel:Nat} {lZ:Bool} {x:DataW H0×List MemPlace} {ρ:Rho} {H:Heap}
theorem c0o(h:InW prog ρ H w){b0:Nat}{cur0:Array Value}{t0:TypeId}{fr0:Nat×Nat}(hb0:w.heap[b0]? =some (.cells cur0 t0 fr0)){v:Value}(hv:DataW.trod enc prog w base (λ_=>true) lZ fuel 105 [v]=some x): ∃ρ' H' v' xs,InW prog ρ' H' w∧ExtW ρ H ρ' H'∧C1 ρ' v' v∧Sl 4 Pul.cells H' v' xs∧(∀x∈xs,Pul.Ok x)∧xs.length<9223372036854775808:=a5J underlying105 c1F b8F (by decide) (λ_=>rfl) (λx c hc=>by simp only[Pul.cells,fC,fz,or_false]at hc;rcases hc with rfl|rfl|rfl|rfl<;>rfl) (λhh=>c3s hh) h hb0 hv
theorem b9U(h:InW prog ρ H w){b0:Nat}{cur0:Array Value}{t0:TypeId}{fr0:Nat×Nat}(hb0:w.heap[b0]? =some (.cells cur0 t0 fr0)){v:Value}(hv:DataW.trod enc prog w base (λ_=>true) lZ fuel 24 [v]=some x): ∃ρ' H' v' xs,InW prog ρ' H' w∧ExtW ρ H ρ' H'∧C1 ρ' v' v∧Sl 4 Lnk.cells H' v' xs∧(∀x∈xs,Lnk.Ok x)∧xs.length<9223372036854775808:=a5J underlying24 c1N b1p (by decide) (λ_=>rfl) (λx c hc=>by simp only[Lnk.cells,fC,fz,or_false]at hc;rcases hc with rfl|rfl|rfl|rfl<;>rfl) (λhh=>c2B hh) h hb0 hv
theorem b9j(h:InW prog ρ H w){b0:Nat}{cur0:Array Value}{t0:TypeId}{fr0:Nat×Nat}(hb0:w.heap[b0]? =some (.cells cur0 t0 fr0)){v:Value}(hv:DataW.trod enc prog w base (λ_=>true) lZ fuel 22 [v]=some x): ∃ρ' H' v' xs,InW prog ρ' H' w∧ExtW ρ H ρ' H'∧C1 ρ' v' v∧Sl 9 RPl.cells H' v' xs∧(∀x∈xs,RPl.Ok x)∧xs.length<9223372036854775808:=a5J underlying22 c1S b5z (by decide) (λ_=>rfl) (λx c hc=>by simp only[RPl.cells,fC,fz,or_false]at hc;rcases hc with rfl|rfl|rfl|rfl|rfl|rfl|rfl|rfl|rfl<;>rfl) (λhh=>c2p hh) h hb0 hv
theorem c3t(h:InW prog ρ H w){b0:Nat}{cur0:Array Value}{t0:TypeId}{fr0:Nat×Nat}(hb0:w.heap[b0]? =some (.cells cur0 t0 fr0)){cs:List Value}(hv:DataW.trod enc prog w base (λ_=>true) lZ fuel 107 cs=some x): ∃(ρ':Rho)(H':Heap)(b:Brd),InW prog ρ' H' w∧ExtW ρ H ρ' H'∧All2 (C1 ρ') (Brd.cells b) cs∧b.In H'∧b.Ok:=by
 obtain⟨hl,m,hf⟩:=a2t underlying107 hv;rw[c2d]at hl;match cs,hl with| [c0,c1,c2,c3],_=>obtain⟨_,h0⟩:=hf 0 ⟨_,5,0,_,_,_,_⟩ rfl;obtain⟨_,h1⟩:=hf 1 ⟨_,5,1,_,_,_,_⟩ rfl;obtain⟨_,h2⟩:=hf 2 ⟨_,4,2,_,_,_,_⟩ rfl;obtain⟨_,h3⟩:=hf 3 ⟨_,105,3,_,_,_,_⟩ rfl;simp only[ce5,ce4,c4s]at h0 h1 h2 h3;obtain⟨b0,rfl,k0⟩:=pK h0;obtain⟨b1,rfl,k1⟩:=pK h1;obtain⟨b2,rfl⟩:=b1R h2;obtain⟨ρ',H',v',xs,i1,i2,i3,i4,i5,i6⟩:=c0o h hb0 h3;exact⟨ρ',H',⟨b0,b1,b2,v',xs⟩,i1,i2,⟨.c0 (.flat rfl),.c0 (.flat rfl),.c0 (.flat rfl),i3,trivial⟩,⟨i4,i6⟩,k0,k1,i5⟩
theorem c0x(h:InW prog ρ H w){b0:Nat}{cur0:Array Value}{t0:TypeId}{fr0:Nat×Nat}(hb0:w.heap[b0]? =some (.cells cur0 t0 fr0)){v:Value}(hv:DataW.trod enc prog w base (λ_=>true) lZ fuel 23 [v]=some x): ∃ρ' H' v' xs,InW prog ρ' H' w∧ExtW ρ H ρ' H'∧C1 ρ' v' v∧Sl 4 Brd.cells H' v' xs∧(∀b∈xs,b.In H'∧b.Ok)∧xs.length<9223372036854775808:=by
 rcases open_slice underlying23 hv with⟨hcs,_⟩|⟨a,len,cap,m,n,D,Pl,hcs,_,hl,hm,hmm,_,hi⟩;(·(obtain rfl:v=.slice none 0 0:=by simpa using hcs);exact⟨ρ,H,.slice none 0 0,[],h,.refl _ _,.c0 (.flat rfl),⟨.inl ⟨rfl,rfl⟩,λ_=>rfl,by decide⟩,by simp,by simp⟩);·(obtain rfl:v=.slice (some a) len cap:=by simpa using hcs);simp only[if_true]at hmm;subst hmm;rw[c2d]at hi;obtain⟨f,hf⟩:=choose_lt (α:=List Value) (p:=λi cs=>w.cells? base (a.add (i*4)) 4=some cs∧DataW.trod enc prog w base (λ_=>true) lZ n 107 cs=some (D i,Pl i)) hi;obtain⟨ρ1,H1,xs,j1,j2,j3,j4⟩:=h.each (n:=len) (Q:=λi ρ H b=>All2 (C1 ρ) (Brd.cells b) (f i)∧b.In H∧b.Ok) (λi ρ H b ρ' H' hq he=>⟨hq.1.mono λ_ _ hh=>hh.mono he.le,⟨hq.2.1.1.ext he,hq.2.1.2⟩,hq.2.2⟩) (λi hi' ρ1 H1 g1 _=>c3t g1 hb0 (hf i (by omega)).2);obtain⟨ρ2,H2,v',i1,i2,i3,i4⟩:=a6o j1 hb0 b1S (by decide) (λ_=>rfl) hl f (λi hi'=>(hf i hi').1) xs j3 (λi hi'=>(j4 i hi').1);refine⟨ρ2,H2,v',xs,i1,j2.trans i2,i3,i4,λb hb=> ?_,?_⟩;(·obtain⟨i,hi',rfl⟩:=eE.1 hb;have:=(j4 i (by omega)).2;rw[kC _ _ hi']at this;exact⟨⟨this.1.1.ext i2,this.1.2⟩,this.2⟩);·have:maxLen=9223372036854775807:=rfl;omega
theorem b8L{v0:Value}{d0:DataW H0}{p0:List MemPlace}{c0:Nat}(h:InW prog ρ H w){b0:Nat}{cur0:Array Value}{t0:TypeId}{fr0:Nat×Nat}(hb0:w.heap[b0]? =some (.cells cur0 t0 fr0))(h0:DataW.Trod enc prog w base (λ_=>true) lZ 26 v0 d0 p0)(hval:Value.okWide prog w .any c0 26 v0): ∃(ρ':Rho)(H':Heap)(p:Pln),InW prog ρ' H' w∧ExtW ρ H ρ' H'∧V ρ' (.agg #[p.rv,p.dv,p.cv]) v0∧p.In H'∧p.Ok:=by
 obtain⟨cs,rfl,hsz⟩:=okWide_struct underlying26 hval;rw[c7w]at hsz;obtain⟨fuel,hf⟩:=h0;obtain⟨l⟩:=cs;have hl:l.length=3:=hsz;match l,hl with| [x,y,z],_=>obtain⟨_,m,hf⟩:=a2t (cs:=[x,y,z]) underlying26 hf;obtain⟨_,h0⟩:=hf 0 ⟨_,22,0,_,_,_,_⟩ rfl;obtain⟨_,h1⟩:=hf 1 ⟨_,23,1,_,_,_,_⟩ rfl;obtain⟨_,h2⟩:=hf 2 ⟨_,24,2,_,_,_,_⟩ rfl;simp only[c7Q,c8g,c7Z]at h0 h1 h2;obtain⟨ρ1,H1,v1,xs,i1,i2,i3,i4,i5,i6⟩:=b9j h hb0 h0;obtain⟨ρ2,H2,v2,ys,j1,j2,j3,j4,j5,j6⟩:=c0x i1 hb0 h1;obtain⟨ρ3,H3,v3,zs,k1,k2,k3,k4,k5,k6⟩:=b9U j1 hb0 h2;refine⟨ρ3,H3,⟨v1,xs,v2,ys,v3,zs⟩,k1,i2.trans (j2.trans k2),.v1 (.agg ⟨i3.mono (j2.trans k2).le,j3.mono k2.le,k3,trivial⟩),⟨i4.ext (j2.trans k2),j4.ext k2,λb hb=>⟨(j5 b hb).1.1.ext k2,(j5 b hb).1.2⟩,k4,i6,j6,k6⟩,i5,λb hb=>(j5 b hb).2,k5⟩
end
end Go.Ds
namespace Go.Ds
open Go.Proofs Go.ChangeShapes Go.WideShapes Go.RowKit Go.Deep
section
variable {H:Type} {enc:TypeId×Value→H}
theorem a3J{a:Assume}{C:Checked}{os:Os}{f:FuncId}{fn:Func}{s:ChangeSpec}{conds:List PathCond}{apart fresh handsOn again:Bool}{X:World->Array Value->Prop} (hX:∀(w w':World)(args:Array Value),w.heap=w'.heap->X w args->X w' args) (own:ownKnob C.prog.godebug=none) (started:os.Started) (noInit:C.prog.inits.idxOf? f=none) (hfn:C.prog.funcs[f]? =some fn) (witness:∃(w:World)(tape:Tape)(i:Input),w.os=os∧(w.forCall tape i).Shaped C.prog∧i.vars=[]∧Input.okWide C.prog (w.forCall tape i) .any w.heap.size f i∧ ((s.pre enc C.prog fn conds apart (w.forCall tape i).memory i.args∧X (w.forCall tape i).memory i.args)∧sizedMet enc C.prog fn (OpenSpec.ofChange s) apart (w.forCall tape i).memory i.args)∧a.holds C.prog (lone (Frame.enter C.prog f i.args .normal) [] (w.forCall tape i))) (contract:∀(W:World)(args:Array Value)(ds gs:List (DataW H))(before:List MemPlace),W.ShapedOpen C.prog-> (∃base,∀(j:Nat)t v,fn.params[j]? =some t->args[j]? =some v->Value.okWide C.prog W .any base t v)-> DataW.Whole enc C.prog fn.params.toList s.vars apart W args.toList ds gs before->X W args-> Calls C.prog f args W λe W'=>∃v,e=.returned v∧s.post enc C.prog fn apart fresh handsOn again W args v W'): ReturnsInHanded a C os f .any (λw args=>(s.pre enc C.prog fn conds apart w args∧X w args)∧sizedMet enc C.prog fn (OpenSpec.ofChange s) apart w args) (s.post enc C.prog fn apart fresh handsOn again):=by
 refine returnsInHanded_of_calls own started noInit witness ?_;intro w tape i _ hsh _ hok hpre hholds;obtain⟨_,_,_,fn',hfn',_,_,_,_,hval⟩:=hok;obtain rfl:fn'=fn:=dK (hfn'.symm.trans hfn);obtain⟨⟨⟨ds,gs,before,hw,hc⟩,hx⟩,hz⟩:=hpre;refine(contract (w.forCall tape i) i.args ds gs before hsh ⟨_,hval⟩ (DataW.Whole.of_heap (w':=w.forCall tape i) (by rfl) hw) (hX _ _ _ (by rfl) hx)).mono λe W'⟨v,he,hp⟩=> ?_;subst he;exact ChangeSpec.post_blind hp
end
end Go.Ds
namespace Go.Proofs.YtbkobkpbkhbcgaaGreatDoor
open Go.ChangeShapes Go.WideShapes Go.ChangeAt Go.RowKit Go.Deep Go.Ds
theorem own:ownKnob Tryz.prog.godebug=none:=by kernel_rfl
theorem laidOut:laidOutB Tryz.prog=true:=by kernel_rfl
end Go.Proofs.YtbkobkpbkhbcgaaGreatDoor
