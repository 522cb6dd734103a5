/-
  A part of the proof of SoundSpeaks.
-/
import Derived.Test.YtkklaffajfjopaaGreatDoorVK
import Derived.Test.YtkklaffajfjopaaGreatDoorVMA
import Derived.Test.YtkklaffajfjopaaGreatDoorVMB
import Derived.Test.YtkklaffajfjopaaGreatDoorVMC
import Derived.Test.YtkklaffajfjopaaGreatDoorVMD
import Derived.Test.YtkklaffajfjopaaGreatDoorVNA
import Derived.Test.YtkklaffajfjopaaGreatDoorVNB
import Derived.Test.YtkklaffajfjopaaGreatDoorVNC
import Derived.Test.YtkklaffajfjopaaGreatDoorVND
import Derived.Test.YtkklaffajfjopaaGreatDoorVOA
import Derived.Test.YtkklaffajfjopaaGreatDoorVOB
import Derived.Test.YtkklaffajfjopaaGreatDoorVOC
import Derived.Test.YtkklaffajfjopaaGreatDoorVOD
import Derived.Test.YtkklaffajfjopaaGreatDoorVOE
import Derived.Test.YtkklaffajfjopaaGreatDoorVOF
import Derived.Test.YtkklaffajfjopaaGreatDoorVOG
import Derived.Test.YtkklaffajfjopaaGreatDoorVI
import Derived.Test.YtkklaffajfjopaaGreatDoorVD
import Derived.Test.YtkklaffajfjopaaGreatDoorVB
import Derived.Test.YtkklaffajfjopaaGreatDoorVC
set_option linter.unusedVariables false
set_option linter.unusedSimpArgs false
set_option linter.defProp false
set_option linter.unusedSectionVars false
namespace Go.Ds
open Go.Proofs Go.Proofs.Tryz
variable {H:Heap}
set_option maxRecDepth 100000
def b3x:List (List (Nat×Nat)):=[[(8,24),(16,24),(24,24)],[(32,24),(40,24),(48,24)],[(56,24),(64,24)],[(2,1),(2,3),(2,7),(2,9),(2,11),(2,13),(2,15),(2,17),(2,19),(2,21),(2,23)]]
def b9e:List (List (Nat×Nat)):=[[(8,0),(8,1),(8,3),(8,6),(16,0),(16,1),(16,3)],[(16,6),(16,7),(16,8),(16,9),(32,0),(32,1),(32,3)],[(32,4),(32,5),(32,6),(32,7),(32,8),(32,9),(32,10)],[(32,11),(64,0),(64,1),(64,3),(64,6)]]
def b8s:List (List (Nat×Nat×Nat)):=[[(8,8,0),(8,8,1),(8,8,3),(8,8,6),(16,16,0)],[(16,16,1),(16,16,3),(16,16,6),(24,16,6),(24,16,7)],[(24,16,8),(24,16,9),(32,32,0),(32,32,1),(32,32,3)],[(32,32,6),(40,32,3),(40,32,4),(40,32,5),(40,32,6)],[(48,32,6),(48,32,7),(48,32,8),(48,32,9),(56,32,6)],[(56,32,9),(56,32,10),(56,32,11),(64,64,0),(64,64,1)],[(64,64,3),(64,64,6)]]
theorem c7N:∀l∈b3x,a1E l=true:=by
 unfold b3x
 simp only[fF]
 exact⟨c5M,c6e,c4r,c5O,fun _ h=>absurd h dV⟩
theorem c7x:∀l∈b9e,a3k l=true:=by
 unfold b9e
 simp only[fF]
 exact⟨c4b,c5r,c6o,c4I,fun _ h=>absurd h dV⟩
theorem c7A:∀l∈b8s,uU l=true:=by
 unfold b8s
 simp only[fF]
 exact⟨c5l,c5L,c5R,c4V,c5p,c4F,c5F,fun _ h=>absurd h dV⟩
theorem c2T(hG:Glob gH H){x:Nat×Nat}(hx:x∈b3x.flatten):Fn prog 96 [I x.1,I x.2] H fun r H'=>r=.string (mC (x.1^x.2))∧St prog H H' []:=by
 obtain⟨l,hl,hx⟩:=gg.1 hx
 obtain⟨T,hT,h⟩:=mT (c7N l hl)
 exact nZ (by simp[flat,iZ,iY]) rfl (zC hT (h x hx)) hG
theorem c7W(hG:Glob gH H){x:Nat×Nat}(hx:x∈b9e.flatten):Fn prog 98 [.string (mC (x.1^24)),.string (mC (2^(2*x.2+1)))] H fun r H'=>r=.string (mC (x.1^24*2^(2*x.2+1)))∧St prog H H' []:=by
 obtain⟨l,hl,hx⟩:=gg.1 hx
 obtain⟨T,hT,h⟩:=mT (c7x l hl)
 exact nZ (by simp[flat,iZ,iY]) rfl (zC hT (h x hx)) hG
theorem c6W(hG:Glob gH H){x:Nat×Nat×Nat}(hx:x∈b8s.flatten):Fn prog 97 [.string (mC (x.1^24)),.string (mC (x.2.1^24*2^(2*x.2.2+1)))] H fun r H'=>r=I (a5j (x.1^24) (x.2.1^24*2^(2*x.2.2+1)))∧St prog H H' []:=by
 obtain⟨l,hl,hx⟩:=gg.1 hx
 obtain⟨T,hT,h⟩:=mT (c7A l hl)
 exact nZ (by simp[flat,iZ,iY]) rfl (a8P hT (h x hx)) hG
def a6j:Nat→Int×Int×Int→Int×Int×Int
 | 0,s=>s
 | n+1,s=>if 2*s.2.1≤s.1 then a6j n (s.1,2*s.2.1,s.2.2+1)else s
def a9t:Nat→Int×Int×Int→Int×Int×Int
 | 0,s=>s
 | n+1,s=>if s.1<s.2.1 then a9t n (2*s.1,s.2.1,s.2.2-1)else s
def b4a(X Y m:Nat):Bool:=decide (X^24<Y^24*2^(2*m+1))
def a8I(X Y:Nat):Nat→Nat→Nat→Nat
 | 0,lo,_=>lo
 | n+1,lo,hi=>if lo<hi then(if b4a X Y ((lo+hi)/2)then a8I X Y n lo ((lo+hi)/2)else a8I X Y n ((lo+hi)/2+1) hi)else lo
def b2F(X Y:Nat):Nat→Nat→Nat→Bool
 | 0,lo,hi=>decide (hi≤lo)
 | n+1,lo,hi=>if lo<hi then decide ((2,2*((lo+hi)/2)+1)∈b3x.flatten)&&decide ((Y,(lo+hi)/2)∈b9e.flatten)&&decide ((X,Y,(lo+hi)/2)∈b8s.flatten)&&
    (if b4a X Y ((lo+hi)/2)then b2F X Y n lo ((lo+hi)/2)else b2F X Y n ((lo+hi)/2+1) hi)else true
theorem b4i{s:Int×Int×Int}(h:¬s.1<s.2.1):∀n,a9t n s=s
 | 0=>rfl
 | n+1=>by rw[a9t,if_neg h]
theorem b3s{s:Int×Int×Int}(h:¬2*s.2.1≤s.1):∀n,a6j n s=s
 | 0=>rfl
 | n+1=>by rw[a6j,if_neg h]
theorem b4d{X Y lo hi:Nat}(h:¬lo<hi):∀n,a8I X Y n lo hi=lo
 | 0=>rfl
 | n+1=>by rw[a8I,if_neg h]
def pX(a b:Int×Int):Int×Int×Int:=a9t 20 (a6j 20 (b.1*a.2,b.2*a.1,0))
def c2R(a b:Int×Int):Int:=12*(pX a b).2.2+a8I (pX a b).1.toNat (pX a b).2.1.toNat 5 0 12
def b8g(a b:Int×Int):Bool:=decide (1≤b.1*a.2∧b.1*a.2≤1000∧1≤b.2*a.1∧b.2*a.1≤1000)&&decide (¬2*(a6j 20 (b.1*a.2,b.2*a.1,0)).2.1≤(a6j 20 (b.1*a.2,b.2*a.1,0)).1)&&decide (¬(pX a b).1<(pX a b).2.1)&&
 decide (1≤(pX a b).1∧(pX a b).1≤4000∧1≤(pX a b).2.1∧(pX a b).2.1≤4000∧-20≤(pX a b).2.2∧(pX a b).2.2≤20)&&decide (((pX a b).1.toNat,24)∈b3x.flatten)&&decide (((pX a b).2.1.toNat,24)∈b3x.flatten)&&b2F (pX a b).1.toNat (pX a b).2.1.toNat 5 0 12
theorem a7r:(lA.all fun a=>b8g a (8,1)&&decide (c2R a (8,1)=zV a (8,1))&&decide (-100≤zV a (8,1)∧zV a (8,1)≤100))=true:=by kernel_rfl
theorem b0E(hG:Glob gH H)(a b:Int×Int)(hr:b8g a b=true):Fn prog 58 [.agg #[I a.1,I a.2],.agg #[I b.1,I b.2]] H fun r H'=>r=I (c2R a b)∧St prog H H' []:=by
 unfold b8g at hr
 simp only[cU,decide_eq_true_eq]at hr
 obtain⟨⟨⟨⟨⟨⟨r1,r2⟩,r3⟩,r4⟩,r5⟩,r6⟩,r7⟩:=hr
 unfold c2R
 unfold pX at r3 r4 r5 r6 r7 ⊢
 generalize hD:a6j 20 (b.1*a.2,b.2*a.1,0)=D at r2 r3 r4 r5 r6 r7
 generalize hE:a9t 20 D=E at r3 r4 r5 r6 r7
 refine .aF func58 rfl (by kernel_rfl) (m:=65) rfl fun l hn g0 g1=> ?_
 simp(disch:=omega) only[↓RA,RB,simprocAttr,g0]
 refine(sR H).eNew 2 [I a.1,I a.2] rfl rfl rfl uI fun A1 H1 hS1=> ?_
 simp only[RT]at hS1
 simp(disch:=omega) only[↓RA,RB,simprocAttr,g1]
 refine hS1.eNew 2 [I b.1,I b.2] rfl rfl rfl uI fun A2 H2 hS2=> ?_
 simp only[RT]at hS2
 simp(disch:=omega) only[↓RA,RB,simprocAttr]
 refine Wp.drw jW (by kernel_rfl) ?_
 simp(disch:=omega) only[↓RA,RZ,simprocAttr,hn,hS2.ld 1 rfl,hS2.ld 0 rfl]
 refine Wp.aj (fun n l H'=>l.length=65∧get l 4=I 0∧∃(x y t:Int),(a6j n (x,y,t)=D∧1≤x∧x≤1000∧1≤y∧y≤2000∧n≤20∧0≤t∧t≤20-(n:Int))∧get l 5=I x∧get l 6=I y∧get l 7=I t∧St prog H H' [⟨ptr A1 0 2,0,[I a.1,I a.2]⟩,⟨ptr A2 0 2,0,[I b.1,I b.2]⟩]) 20 ?_ ?_
 ·simp(disch:=omega) only[RB,RC,simprocAttr,hn]
  exact⟨_,_,_,by refine⟨hD,?_⟩;omega,rfl,rfl,rfl,hS2⟩
 rintro n l H3⟨hn,g4,x,y,t,⟨u1,u2,u3,u4,u5,u6,u7,u8⟩,g5,g6,g7,hS3⟩
 simp(disch:=omega) only[↓RA,RB,simprocAttr,hn,g5,g6]
 refine iA (fun h=> ?_) (fun h=> ?_)
 ·simp(disch:=omega) only[↓RA,RZ,simprocAttr,hn,g4,g5,g6,g7,h]
  cases n with
  | zero=>
    rw[←u1]at r2
    exact absurd h r2
  | succ n=>
    rw[a6j,if_pos h]at u1
    exact⟨n,by omega,x,2*y,t+1,⟨u1,by omega,by omega,by omega,by omega,by omega,by omega,by omega⟩,rfl,rfl,rfl,hS3⟩
 rw[b3s h]at u1
 simp(disch:=omega) only[↓RA,RC,simprocAttr,h]
 refine Wp.aj (fun n l H'=>l.length=65∧get l 4=I 0∧∃(x2 y2 t2:Int),(a9t n (x2,y2,t2)=E∧y2=y∧1≤x2∧x2≤4000∧n≤20∧t2≤20∧(n:Int)-20≤t2)∧get l 5=I x2∧get l 6=I y2∧get l 7=I t2∧St prog H H' [⟨ptr A1 0 2,0,[I a.1,I a.2]⟩,⟨ptr A2 0 2,0,[I b.1,I b.2]⟩]) 20 ?_ ?_
 ·simp(disch:=omega) only[RB,RC,simprocAttr,hn,g4,g5,g6,g7]
  exact⟨_,_,_,by refine⟨by rw[u1];exact hE,?_⟩;omega,rfl,rfl,rfl,hS3⟩
 rintro n l H4⟨hn,g4,x2,y2,t2,⟨v1,v2,v3,v4,v5,v6,v7⟩,g5,g6,g7,hS4⟩
 simp(disch:=omega) only[↓RA,RB,simprocAttr,hn,g5,g6]
 refine iA (fun h2=> ?_) (fun h2=> ?_)
 ·simp(disch:=omega) only[↓RA,RZ,simprocAttr,hn,g4,g5,g6,g7,h2]
  cases n with
  | zero=>
    rw[←v1]at r3
    exact absurd h2 r3
  | succ n=>
    rw[a9t,if_pos h2]at v1
    exact⟨n,by omega,2*x2,y2,t2-1,⟨v1,v2,by omega,by omega,by omega,by omega,by omega⟩,rfl,rfl,rfl,hS4⟩
 rw[b4i h2]at v1
 subst v1
 simp only at r4 r5 r6 r7 ⊢
 obtain⟨X,hX⟩:∃X:Nat,x2=X:=⟨x2.toNat,by omega⟩
 obtain⟨Y,hY⟩:∃Y:Nat,y2=Y:=⟨y2.toNat,by omega⟩
 subst hX
 rw[hY]at r4 r6 r7 g6 ⊢
 simp only[eK]at r5 r6 r7 ⊢
 simp(disch:=omega) only[↓RA,RZ,simprocAttr,hn,g5]
 refine hS4.cF (c2T (hS4.gl hG) (x:=(X,24)) r5) fun H5 hS5=> ?_
 simp(disch:=omega) only[↓RA,RZ,simprocAttr,hn,g6]
 refine hS5.cF (c2T (hS5.gl hG) (x:=(Y,24)) r6) fun H6 hS6=> ?_
 simp(disch:=omega) only[↓RA,RB,simprocAttr,hn]
 refine Wp.aj (fun n l H'=>l.length=65∧get l 4=I 0∧get l 7=I t2∧get l 8=(.string (mC (X^24)))∧get l 9=(.string (mC (Y^24)))∧∃(lo hi:Nat),(a8I X Y n lo hi=a8I X Y 5 0 12∧b2F X Y n lo hi=true∧lo≤hi∧hi≤12)∧get l 10=I lo∧get l 11=I hi∧St prog H H' [⟨ptr A1 0 2,0,[I a.1,I a.2]⟩,⟨ptr A2 0 2,0,[I b.1,I b.2]⟩]) 5 ?_ ?_
 ·simp(disch:=omega) only[RB,RC,simprocAttr,hn,g4,g7]
  exact⟨0,12,⟨rfl,r7,by omega,by omega⟩,rfl,rfl,hS6⟩
 rintro n l H7⟨hn,g4,g7,g8,g9,lo,hi,⟨b1,b2,b3,b4⟩,nH,g11,hS7⟩
 simp(disch:=omega) only[↓RA,RB,simprocAttr,hn,nH,g11]
 refine iA (fun h3=> ?_) (fun h3=> ?_)
 ·cases n with
  | zero=>
    unfold b2F at b2
    rw[decide_eq_true_eq]at b2
    omega
  | succ n=>
  have hlt:lo<hi:=by omega
  obtain⟨mid,hmid⟩:∃mid,mid=(lo+hi)/2:=⟨_,rfl⟩
  have hq:((lo:Int)+hi).tdiv 2=((mid:Nat):Int):=by rw[hmid];exact(Int.ofNat_tdiv _ _).symm
  rw[b2F,if_pos hlt,←hmid]at b2
  rw[a8I,if_pos hlt,←hmid]at b1
  simp only[cU,decide_eq_true_eq]at b2
  obtain⟨⟨⟨w1,w2⟩,w3⟩,w4⟩:=b2
  simp(disch:=omega) only[↓RA,RZ,simprocAttr,hn,g8,g9,nH,g11,h3,hq]
  have hp:=c2T (hS7.gl hG) (x:=(2,2*mid+1)) w1
  simp only at hp
  rw[show((2*mid+1:Nat):Int)=2*(mid:Int)+1 from by omega]at hp
  refine hS7.cF (hp) fun H8 hS8=> ?_
  simp(disch:=omega) only[↓RA,RZ,simprocAttr,hn,h3]
  refine hS8.cF (c7W (hS8.gl hG) (x:=(Y,mid)) w2) fun H9 hS9=> ?_
  simp(disch:=omega) only[↓RA,RZ,simprocAttr,hn,h3]
  refine hS9.cF (c6W (hS9.gl hG) (x:=(X,Y,mid)) w3) fun H10 hS10=> ?_
  simp(disch:=omega) only[↓RA,RZ,simprocAttr,hn,h3]
  refine iA (fun h4=> ?_) (fun h4=> ?_)
  ·have hl:b4a X Y mid=true:=by
    unfold b4a
    rw[decide_eq_true_eq]
    unfold a5j at h4
    split at h4
    ·assumption
    ·split at h4<;>omega
   rw[if_pos hl]at b1 w4
   simp(disch:=omega) only[↓RA,RZ,simprocAttr,hn,g4,g7,g8,g9,nH,h3,h4]
   exact⟨n,by omega,lo,mid,⟨b1,w4,by omega,by omega⟩,rfl,rfl,hS10⟩
  have hl:¬b4a X Y mid=true:=by
   unfold b4a
   rw[decide_eq_true_eq]
   intro hlt
   exact h4 (by unfold a5j;rw[if_pos hlt];decide)
  rw[if_neg hl]at b1 w4
  simp(disch:=omega) only[↓RA,RZ,simprocAttr,hn,g4,g7,g8,g9,g11,h3,h4]
  exact⟨n,by omega,mid+1,hi,⟨b1,w4,by omega,by omega⟩,by simp,rfl,hS10⟩
 rw[b4d (by omega)]at b1
 simp(disch:=omega) only[↓RA,RZ,simprocAttr,hn,g7,nH,c7q,h3]
 exact⟨by rw[←b1],hS7.forget⟩
theorem c1Q{a:Int×Int}(ha:a∈lA): -100≤zV a (8,1)∧zV a (8,1)≤100:=by
 have h:=dj.1 a7r a ha
 simp only[cU,decide_eq_true_eq]at h
 exact h.2
theorem c3o(hG:Glob gH H){a:Int×Int}(ha:a∈lA):Fn prog 22 [.agg #[I a.1,I a.2],.agg #[I 8,I 1]] H fun r H'=>(r=I (zV a (8,1))∧-100≤zV a (8,1)∧zV a (8,1)≤100)∧St prog H H' []:=by
 have h:=dj.1 a7r a ha
 simp only[cU,decide_eq_true_eq]at h
 obtain⟨⟨h1,h2⟩,h3⟩:=h
 refine .aF func22 rfl (by kernel_rfl) (m:=8) rfl fun l hn g0 g1=> ?_
 simp(disch:=omega) only[↓RA,RB,simprocAttr,g0]
 refine(sR H).eNew 2 [I a.1,I a.2] rfl rfl rfl uI fun A1 H1 hS1=> ?_
 simp only[RT]at hS1
 simp(disch:=omega) only[↓RA,RB,simprocAttr,g1]
 refine hS1.eNew 2 [I 8,I 1] rfl rfl rfl uI fun A2 H2 hS2=> ?_
 simp only[RT]at hS2
 simp(disch:=omega) only[↓RA,RZ,simprocAttr,hn,hS2.ai 0 rfl,hS2.ai 1 rfl]
 refine hS2.cF (b0E (hS2.gl hG) a (8,1) h1) fun H3 hS3=> ?_
 rw[h2]
 simp(disch:=omega) only[↓RA,RZ,simprocAttr,hn,c7E]
 exact⟨h3,hS3.forget⟩
end Go.Ds
