/-
  Terms: the canonical form of a concept, as a plain function; it is not greater.
  Conditions: none.
-/
import Derived.Test.YtbobcfjlbcgchaaGreatDoorWOv
import Derived.Test.YtbobcfjlbcgchaaGreatDoorWYa
import Derived.Test.YtbobcfjlbcgchaaGreatDoorWAr
set_option linter.unusedSectionVars false
set_option linter.unusedSimpArgs false
set_option linter.unusedVariables false
set_option maxHeartbeats 16000000
namespace Go.Proofs.YtbobcfjlbcgchaaGreatDoor
section
attribute [local irreducible] aK aF Tri aH YVC cG aT
open Go.RowKit
set_option maxRecDepth 10000
theorem fF {α:Type}{w:α->List UInt8}{l:List α}{j:Nat}(h:j < l.length):((l.take (j+1)).map w).flatten=((l.take j).map w).flatten++w l[j]:=by
 rw [List.take_succ_eq_append_getElem h,List.map_append,List.flatten_append];simp
theorem qH {α:Type}{w:α->List UInt8}(l:List α) (j:Nat):(((l.take j).map w).flatten).length<=((l.map w).flatten).length:=by
 have e:l.map w=(l.take j).map w++(l.drop j).map w:=by rw [<-List.map_append,List.take_append_drop]
 rw [e,List.flatten_append,List.length_append];omega
theorem fJ {α:Type}(w:α->List UInt8) (l:List α):(cU w l).length=4+((l.map w).flatten).length:=by unfold cU;rw [List.length_append,aW]
theorem iT {α:Type}{w:α->List UInt8}{k:Nat}(hk:1<=k) (hw: ∀x,k<=(w x).length) (l:List α):l.length<=((l.map w).flatten).length:=by
 have h:=aB6 hw l
 have h2:1 * l.length<=k * l.length:=Nat.mul_le_mul_right _ hk
 omega
theorem aGq (s:List UInt8):4<=(bZ s).length:=by unfold bZ;rw [List.length_append,aW];omega
theorem aQn (d:Dig):32<=(wJ d).length:=by obtain⟨l,h⟩:=d;show 32<=l.length;omega
theorem cY (z:Int):(gJ z).length=8:=by unfold gJ;exact aW ..
theorem aS (z:Int):(jE z).length=1:=aW ..
theorem aLg (l:List (List UInt8)):WrT 47 [.d (.sl 1 (l.map bJ))] (cU bZ l):=by
 intro p hp
 rw [fJ]at hp
 have hn:=iT (by decide) aGq l
 have g:uN (l.length:Int)=l.length:=aCq (by omega)
 have c:(l.map bJ).length=l.length:=List.length_map ..
 refine aG false [] hty Tryz.func47 rfl (kp [0,1,5,10,11,12,13]) 100 (by simp [Tryz.f47]) ?_
 refine qX ?_;intros
 rw [c]
 refine WrT.call (rF l.length) rfl p (by rw [aW];omega) (by decide) rfl rfl ?_
 rw [g]
 refine qX ?_;intros
 rw [c]
 refine aD hty (λj:Nat=>([(0, .ptr 3 0),(10, .d (.sl 1 (l.map bJ))),(11, .d (.int .i64 l.length)),(12, .d (.int .i64 j))],[(3,wrC 4 (p++beN 4 l.length++((l.take j).map bZ).flatten)),(4,wrB (p++beN 4 l.length++((l.take j).map bZ).flatten))])) (λj=>j<=l.length) (λj=>l.length - j) 0 (by omega) ⟨qB,by rw [List.take_zero,List.map_nil,List.flatten_nil,List.append_nil];exact⟨rfl,rfl,trivial⟩⟩ ?_
 intro j hj
 refine qX ?_;intros
 refine aA (λf=> ?_) (λf=> ?_)
 ·have a:j < l.length:=by omega
  have hrow:(l.map bJ)[((j:Nat):Int).toNat]? =some (bJ l[j]):=bA a
  have b:=fF (w:=bZ) a
  have e:=qH (w:=bZ) l (j+1)
  rw [b,List.length_append]at e
  refine qZ ?_;intros
  refine WrT.call (lK l[j]) rfl _ (by rw [List.length_append,List.length_append,aW];omega) (by decide) rfl rfl ?_
  refine qX ?_;intros
  refine⟨j+1,qO,qO, ?_⟩
  dsimp only
  rw [b,<-List.append_assoc]
  exact⟨qB,qB⟩
 ·have a:j=l.length:=by omega
  subst a
  rw [List.take_length]
  refine qX ?_;intros
  unfold cU
  rw [<-List.append_assoc]
  exact⟨rfl,rfl⟩
theorem aCl (l:List Dig):WrT 85 [.d (.sl 32 (l.map aBe))] (cU wJ l):=by
 intro p hp
 rw [fJ]at hp
 have hn:=iT (by decide) aQn l
 have g:uN (l.length:Int)=l.length:=aCq (by omega)
 have b:(l.map aBe).length=l.length:=List.length_map ..
 refine aG false [] hty Tryz.func85 rfl (kp [0,1,5,10,11,12,13]) 100 (by simp [Tryz.f85]) ?_
 refine qX ?_;intros
 rw [b]
 refine WrT.call (rF l.length) rfl p (by rw [aW];omega) (by decide) rfl rfl ?_
 rw [g]
 refine qX ?_;intros
 rw [b]
 refine aD hty (λj:Nat=>([(0, .ptr 3 0),(10, .d (.sl 32 (l.map aBe))),(11, .d (.int .i64 l.length)),(12, .d (.int .i64 j))],[(3,wrC 4 (p++beN 4 l.length++((l.take j).map wJ).flatten)),(4,wrB (p++beN 4 l.length++((l.take j).map wJ).flatten))])) (λj=>j<=l.length) (λj=>l.length - j) 0 (by omega) ⟨qB,by rw [List.take_zero,List.map_nil,List.flatten_nil,List.append_nil];exact⟨rfl,rfl,trivial⟩⟩ ?_
 intro j hj
 refine qX ?_;intros
 refine aA (λh=> ?_) (λh=> ?_)
 ·have a:j < l.length:=by omega
  have hrow:(l.map aBe)[((j:Nat):Int).toNat]? =some (aBe l[j]):=bA a
  have c:=fF (w:=wJ) a
  have f:=qH (w:=wJ) l (j+1)
  rw [c,List.length_append]at f
  have e:=tU l[j]
  generalize l[j]=x at *
  obtain⟨xl,hx⟩:=x
  obtain⟨y0,y1,y2,y3,y4,y5,y6,y7,y8,y9,y10,y11,y12,y13,y14,y15,y16,y17,y18,y19,y20,y21,y22,y23,y24,y25,y26,y27,y28,y29,y30,y31,rfl⟩:=aFv hx
  refine qZ ?_;intros
  refine WrT.call e rfl _ (by rw [List.length_append,List.length_append,aW];omega) (by decide) rfl rfl ?_
  refine qX ?_;intros
  refine⟨j+1,qO,qO, ?_⟩
  dsimp only
  rw [c,<-List.append_assoc]
  exact⟨qB,qB⟩
 ·have a:j=l.length:=by omega
  subst a
  rw [List.take_length]
  refine qX ?_;intros
  unfold cU
  rw [<-List.append_assoc]
  exact⟨rfl,rfl⟩
theorem aQp (c:Cn):1<=(wC c).length:=by rw [aJj,List.length_append,aS];omega
theorem aCm: ∀c:Cn,WrT 46 [.d (.agg (cnR c))] (wC c):=by
 refine Cn.ind ?_
 intro c n p hp
 rw [aJj]at hp |-
 rw [aJ]
 generalize c.kind=kd at *
 generalize c.name=nm at *
 generalize c.lo=lo at *
 generalize c.hi=hi at *
 generalize c.parts=l at *
 simp only [List.length_append,aS,cY,fJ]at hp
 have hn:=iT (Nat.le_refl 1) aQp l
 have m:uN (l.length:Int)=l.length:=aCq (by omega)
 have f:(l.map cnR).length=l.length:=List.length_map ..
 refine aG false [] hty Tryz.func46 rfl (kp [0,1,3,5,28,29,30,31]) 100 (by simp [Tryz.f46]) ?_
 refine qX ?_;intros
 refine WrT.call (tT kd) rfl p (by simp only [aS];omega) (by decide) rfl rfl ?_
 refine qX ?_;intros
 refine WrT.call (lK nm) rfl _ (by simp only [List.length_append,aS];omega) (by decide) rfl rfl ?_
 refine qX ?_;intros
 refine WrT.call (oA lo) rfl _ (by simp only [List.length_append,aS,aW];omega) (by decide) rfl rfl ?_
 refine qX ?_;intros
 refine WrT.call (oA hi) rfl _ (by simp only [List.length_append,aS,aW];omega) (by decide) rfl rfl ?_
 refine qX ?_;intros
 rw [f]
 refine WrT.call (rF l.length) rfl _ (by simp only [List.length_append,aS,aW];omega) (by decide) rfl rfl ?_
 rw [m]
 have i:(p++jE kd++bZ nm++gJ lo++gJ hi++beN 4 l.length).length=p.length+(1+((bZ nm).length+(8+(8+4)))):=by
  simp only [List.length_append,aS,cY,aW];omega
 have b:p++(jE kd++(bZ nm++(gJ lo++(gJ hi++cU wC l))))=p++jE kd++bZ nm++gJ lo++gJ hi++beN 4 l.length++(l.map wC).flatten:=by
  unfold cU;simp only [List.append_assoc]
 rw [b]
 clear b
 change iY _ _ (wrC 4 (p++jE kd++bZ nm++gJ lo++gJ hi++beN 4 l.length)) λh=>iY h _ (wrB (p++jE kd++bZ nm++gJ lo++gJ hi++beN 4 l.length)) _
 generalize p++jE kd++bZ nm++gJ lo++gJ hi++beN 4 l.length=q at *
 refine qX ?_;intros
 rw [f]
 refine aD hty (λj:Nat=>([(0, .ptr 3 0),(28, .d (.sl 5 (l.map cnR))),(29, .d (.int .i64 l.length)),(30, .d (.int .i64 j))],[(3,wrC 4 (q++((l.take j).map wC).flatten)),(4,wrB (q++((l.take j).map wC).flatten))])) (λj=>j<=l.length) (λj=>l.length - j) 0 (by omega) ⟨qB,by rw [List.take_zero,List.map_nil,List.flatten_nil,List.append_nil];exact⟨rfl,rfl,trivial⟩⟩ ?_
 intro j hj
 refine qX ?_;intros
 refine aA (λo=> ?_) (λo=> ?_)
 ·have a:j < l.length:=by omega
  have e:(l.map cnR)[((j:Nat):Int).toNat]? =some (cnR l[j]):=bA a
  have hx:=n l[j] (List.getElem_mem a)
  rw [aJ]at e hx
  have g:=fF (w:=wC) a
  have k:=qH (w:=wC) l (j+1)
  rw [g,List.length_append]at k
  refine qZ ?_;intros
  refine WrT.call hx rfl _ (by rw [List.length_append,i];omega) (by decide) rfl rfl ?_
  refine qX ?_;intros
  refine⟨j+1,qO,qO, ?_⟩
  dsimp only
  rw [g,<-List.append_assoc]
  exact⟨qB,qB⟩
 ·have a:j=l.length:=by omega
  subst a
  rw [List.take_length]
  refine qX ?_;intros
  exact rfl
theorem fY (o:Bool):(wB o).length=1:=by unfold wB;exact aS _
theorem aQt (x:Ax):1<=(wA x).length:=by unfold wA;rw [List.length_append,aS];omega
theorem mR {p a b:List UInt8}:p++(a++b)=p++a++b:=(List.append_assoc ..).symm
theorem aGn (l:List Ax):WrT 21 [.d (.sl 16 (l.map axR))] (wAs l):=by
 intro p hp
 unfold wAs at hp |-
 rw [fJ]at hp
 have hn:=iT (Nat.le_refl 1) aQt l
 have t:uN (l.length:Int)=l.length:=aCq (by omega)
 have i:(l.map axR).length=l.length:=List.length_map ..
 refine aG false [] hty Tryz.func21 rfl (kp [0,1,5,6,11,12,13,14,18]) 100 (by simp [Tryz.f21]) ?_
 refine qX ?_;intros
 rw [i]
 refine WrT.call (rF l.length) rfl p (by rw [aW];omega) (by decide) rfl rfl ?_
 rw [t]
 have hqq:(p++beN 4 l.length).length=p.length+4:=by rw [List.length_append,aW]
 have g:p++cU wA l=p++beN 4 l.length++(l.map wA).flatten:=by unfold cU;rw [mR]
 rw [g]
 clear g
 generalize p++beN 4 l.length=q at *
 refine qX ?_;intros
 rw [i]
 refine aD hty (λj:Nat=>([(0, .ptr 3 0),(11, .d (.sl 16 (l.map axR))),(12, .d (.int .i64 l.length)),(13, .d (.int .i64 j))],[(3,wrC 4 (q++((l.take j).map wA).flatten)),(4,wrB (q++((l.take j).map wA).flatten))])) (λj=>j<=l.length) (λj=>l.length - j) 0 (by omega) ⟨qB,by rw [List.take_zero,List.map_nil,List.flatten_nil,List.append_nil];exact⟨rfl,rfl,trivial⟩⟩ ?_
 intro j hj
 refine qX ?_;intros
 refine aA (λu=> ?_) (λu=> ?_)
 ·have f:j < l.length:=by omega
  have hrow:(l.map axR)[((j:Nat):Int).toNat]? =some (axR l[j]):=bA f
  have h:=fF (w:=wA) f
  have n:=qH (w:=wA) l (j+1)
  rw [h,List.length_append]at n
  have m:(wA l[j]).length=1+(1+((wC l[j].left).length+((wC l[j].right).length+((cU bZ l[j].roles).length+((bZ l[j].role).length+((bZ l[j].a).length+(bZ l[j].b).length)))))):=by
   unfold wA;simp only [List.length_append,aS,fY]
  have e:=aCm l[j].left
  have c:=aCm l[j].right
  rw [aJ]at e c
  generalize l[j]=x at *
  obtain⟨kd,op,le,ri,rs,s,r,o⟩:=x
  dsimp only at m e c
  refine qZ ?_;intros
  cases op
  ·have k:WrT 45 [.d (.int .i64 0)] (wB false):=tT 0
   refine qX ?_;intros
   refine WrT.call (tT kd) rfl _ (by simp only [List.length_append,aS];omega) (by decide) rfl rfl ?_
   refine qX ?_;intros
   refine WrT.call k rfl _ (by simp only [List.length_append,aS,fY];omega) (by decide) rfl rfl ?_
   refine qX ?_;intros
   refine WrT.call e rfl _ (by simp only [List.length_append,aS,fY];omega) (by decide) rfl rfl ?_
   refine qX ?_;intros
   refine WrT.call c rfl _ (by simp only [List.length_append,aS,fY];omega) (by decide) rfl rfl ?_
   refine qX ?_;intros
   refine WrT.call (aLg rs) rfl _ (by simp only [List.length_append,aS,fY];omega) (by decide) rfl rfl ?_
   refine qX ?_;intros
   refine WrT.call (lK s) rfl _ (by simp only [List.length_append,aS,fY];omega) (by decide) rfl rfl ?_
   refine qX ?_;intros
   refine WrT.call (lK r) rfl _ (by simp only [List.length_append,aS,fY];omega) (by decide) rfl rfl ?_
   refine qX ?_;intros
   refine WrT.call (lK o) rfl _ (by simp only [List.length_append,aS,fY];omega) (by decide) rfl rfl ?_
   refine qX ?_;intros
   refine⟨j+1,qO,qO, ?_⟩
   dsimp only
   rw [h]
   unfold wA
   simp only [mR]
   exact⟨qB,qB⟩
  ·have k:WrT 45 [.d (.int .i64 1)] (wB true):=tT 1
   refine qX ?_;intros
   refine WrT.call (tT kd) rfl _ (by simp only [List.length_append,aS];omega) (by decide) rfl rfl ?_
   refine qX ?_;intros
   refine WrT.call k rfl _ (by simp only [List.length_append,aS,fY];omega) (by decide) rfl rfl ?_
   refine qX ?_;intros
   refine WrT.call e rfl _ (by simp only [List.length_append,aS,fY];omega) (by decide) rfl rfl ?_
   refine qX ?_;intros
   refine WrT.call c rfl _ (by simp only [List.length_append,aS,fY];omega) (by decide) rfl rfl ?_
   refine qX ?_;intros
   refine WrT.call (aLg rs) rfl _ (by simp only [List.length_append,aS,fY];omega) (by decide) rfl rfl ?_
   refine qX ?_;intros
   refine WrT.call (lK s) rfl _ (by simp only [List.length_append,aS,fY];omega) (by decide) rfl rfl ?_
   refine qX ?_;intros
   refine WrT.call (lK r) rfl _ (by simp only [List.length_append,aS,fY];omega) (by decide) rfl rfl ?_
   refine qX ?_;intros
   refine WrT.call (lK o) rfl _ (by simp only [List.length_append,aS,fY];omega) (by decide) rfl rfl ?_
   refine qX ?_;intros
   refine⟨j+1,qO,qO, ?_⟩
   dsimp only
   rw [h]
   unfold wA
   simp only [mR]
   exact⟨qB,qB⟩
 ·have f:j=l.length:=by omega
  subst f
  rw [List.take_length]
  refine qX ?_;intros
  exact rfl
theorem aQl (c:Cm):WrT 40 [.d (.agg (cmR c))] (wCm c):=by
 intro p hp
 unfold wCm at hp |-
 obtain⟨no,l,U,m⟩:=c
 obtain⟨L,hx⟩:=U
 dsimp only at hp |-
 have s:=tU ⟨L,hx⟩
 have A:(wJ ⟨L,hx⟩).length=32:=hx
 generalize hD:wJ ⟨L,hx⟩=D at *
 obtain⟨y0,S,W,y3,T,Q,V,y7,Z,Y,i,B,E,t,J,F,C,y,M,N,K,O,n,I,o,u,G,k,x,r,v,g,rfl⟩:=aFv hx
 clear hD
 simp only [List.length_append,cY,fJ,A]at hp
 have hn:=iT (w:=gJ) (Nat.le_refl 1) (λz=>by rw [cY];omega) l
 have P:uN (l.length:Int)=l.length:=aCq (by omega)
 have e:(l.map bB8).length=l.length:=List.length_map ..
 refine aG false [] hty Tryz.func40 rfl (kp [0,1,3,5,16,17,18,19]) 100 (by simp [Tryz.f40]) ?_
 refine qX ?_;intros
 refine WrT.call (oA no) rfl p (by rw [aW];omega) (by decide) rfl rfl ?_
 refine qX ?_;intros
 rw [e]
 refine WrT.call (rF l.length) rfl _ (by simp only [List.length_append,aW];omega) (by decide) rfl rfl ?_
 rw [P]
 have hqq:(p++gJ no++beN 4 l.length).length=p.length+(8+4):=by simp only [List.length_append,cY,aW]
 have b:p++(gJ no++(cU gJ l++(D++bZ m)))=p++gJ no++beN 4 l.length++(l.map gJ).flatten++D++bZ m:=by unfold cU;simp only [mR]
 rw [b]
 clear b
 change iY _ _ (wrC 4 (p++gJ no++beN 4 l.length)) λh=>iY h _ (wrB (p++gJ no++beN 4 l.length)) _
 generalize p++gJ no++beN 4 l.length=q at *
 refine qX ?_;intros
 rw [e]
 refine aD hty (λj:Nat=>([(0, .ptr 3 0),(3, .ptr 103 0),(16, .d (.sl 1 (l.map bB8))),(17, .d (.int .i64 l.length)),(18, .d (.int .i64 j))],[(3,wrC 4 (q++((l.take j).map gJ).flatten)),(4,wrB (q++((l.take j).map gJ).flatten)),(103, .cells 58 ((cmR ⟨no,l,⟨[y0,S,W,y3,T,Q,V,y7,Z,Y,i,B,E,t,J,F,C,y,M,N,K,O,n,I,o,u,G,k,x,r,v,g],rfl⟩,m⟩).map .d))])) (λj=>j<=l.length) (λj=>l.length - j) 0 (by omega) ⟨qB,by rw [List.take_zero,List.map_nil,List.flatten_nil,List.append_nil];exact⟨rfl,rfl,rfl,trivial⟩⟩ ?_
 intro j hj
 refine qX ?_;intros
 refine aA (λR=> ?_) (λR=> ?_)
 ·have a:j < l.length:=by omega
  have hrow:(l.map bB8)[((j:Nat):Int).toNat]? =some (bB8 l[j]):=bA a
  have f:=fF (w:=gJ) a
  have H:=qH (w:=gJ) l (j+1)
  rw [f,List.length_append,cY]at H
  refine qZ ?_;intros
  refine WrT.call (oA l[j]) rfl _ (by rw [List.length_append,aW];omega) (by decide) rfl rfl ?_
  refine qX ?_;intros
  refine⟨j+1,qO,qO, ?_⟩
  dsimp only
  rw [f,<-List.append_assoc]
  exact⟨qB,qB⟩
 ·have a:j=l.length:=by omega
  subst a
  rw [List.take_length]
  refine qX ?_;intros
  refine WrT.call s rfl _ (by rw [List.length_append];omega) (by decide) rfl rfl ?_
  refine qX ?_;intros
  refine WrT.call (lK m) rfl _ (by simp only [List.length_append];omega) (by decide) rfl rfl ?_
  refine qX ?_;intros
  exact rfl
theorem aGp (a:Al):WrT 41 [.d (.agg (alR a))] (wAl a):=by
 intro p hp
 unfold wAl at hp |-
 obtain⟨j,d1,l,k,n,ps,m⟩:=a
 obtain⟨g,b⟩:=d1
 obtain⟨c,hz⟩:=k
 dsimp only at hp |-
 have f:=tU ⟨g,b⟩
 have i:(wJ ⟨g,b⟩).length=32:=b
 generalize hD:wJ ⟨g,b⟩=D at *
 obtain⟨y0,y1,y2,y3,y4,y5,y6,y7,y8,y9,y10,y11,y12,y13,y14,y15,y16,y17,y18,y19,y20,y21,y22,y23,y24,y25,y26,y27,y28,y29,y30,y31,rfl⟩:=aFv b
 clear hD
 have e:=tU ⟨c,hz⟩
 have h:(wJ ⟨c,hz⟩).length=32:=hz
 generalize hE:wJ ⟨c,hz⟩=E at *
 obtain⟨z0,z1,z2,z3,z4,z5,z6,z7,z8,z9,z10,z11,z12,z13,z14,z15,z16,z17,z18,z19,z20,z21,z22,z23,z24,z25,z26,z27,z28,z29,z30,z31,rfl⟩:=aFv hz
 clear hE
 simp only [List.length_append,cY,i,h]at hp
 refine aG false [] hty Tryz.func41 rfl (kp [0,1,3]) 100 (by simp [Tryz.f41]) ?_
 refine qX ?_;intros
 refine WrT.call (lK j) rfl p (by omega) (by decide) rfl rfl ?_
 refine qX ?_;intros
 refine WrT.call f rfl _ (by simp only [List.length_append];omega) (by decide) rfl rfl ?_
 refine qX ?_;intros
 refine WrT.call (aGn l) rfl _ (by simp only [List.length_append];omega) (by decide) rfl rfl ?_
 refine qX ?_;intros
 refine WrT.call e rfl _ (by simp only [List.length_append];omega) (by decide) rfl rfl ?_
 refine qX ?_;intros
 refine WrT.call (oA n) rfl _ (by simp only [List.length_append,aW];omega) (by decide) rfl rfl ?_
 refine qX ?_;intros
 refine WrT.call (aCl ps) rfl _ (by simp only [List.length_append,aW];omega) (by decide) rfl rfl ?_
 refine qX ?_;intros
 refine WrT.call (aCl m) rfl _ (by simp only [List.length_append,aW];omega) (by decide) rfl rfl ?_
 unfold gJ
 simp only [mR]
 refine qX ?_;intros
 exact rfl
end
section
def aBy {α:Type}(c:α->α->Int) (a b d:α):Prop:=
 (c a b < 0->c b d < 0->c a d < 0)/\(c a b=0->c a d=c b d)/\(c b d=0->c a b=c a d)
structure LCk {α:Type} (c:α->α->Int):Prop where
 rng: ∀a b,c a b= -1\/c a b=0\/c a b=1
 anti: ∀a b,c b a= - c a b
 t3: ∀a b d,aBy c a b d
def lex (x y:Int):Int:=if x≠0 then x else y
theorem LCk.lex {α:Type}{c1 c2:α->α->Int}(h1:LCk c1) (h2:LCk c2):LCk (λa b=>lex (c1 a b) (c2 a b)):=by
 refine⟨λa b=> ?_,λa b=> ?_,λa b d=> ?_⟩
 ·have:=h1.rng a b
  have:=h2.rng a b
  unfold Proofs.YtbobcfjlbcgchaaGreatDoor.lex
  split<;>omega
 ·have:=h1.anti a b
  have:=h2.anti a b
  unfold Proofs.YtbobcfjlbcgchaaGreatDoor.lex
  split<;>split<;>omega
 ·have a1:=h1.t3 a b d
  have a2:=h1.t3 b d a
  have a3:=h1.t3 d a b
  have b1:=h2.t3 a b d
  have r1:=h1.rng a b
  have r2:=h1.rng b d
  have r3:=h1.rng a d
  have n1:=h1.anti a b
  have n2:=h1.anti b d
  have n3:=h1.anti a d
  unfold aBy at *
  unfold Proofs.YtbobcfjlbcgchaaGreatDoor.lex
  dsimp only
  refine⟨?_, ?_, ?_⟩<;>(split<;>split<;>split<;>omega)
theorem LCk.of {α β:Type}{c:β->β->Int}(h:LCk c) (k:α->β):LCk (λa b=>c (k a) (k b)):=
 ⟨λa b=>h.rng _ _,λa b=>h.anti _ _,λa b d=>h.t3 _ _ _⟩
theorem LCk.int:LCk nP:=by
 refine⟨λa b=> ?_,λa b=> ?_,λa b d=> ?_⟩
 ·unfold nP;split<;>(try split)<;>simp
 ·unfold nP;split<;>split<;>(try split)<;>omega
 ·unfold aBy nP
  refine⟨?_, ?_, ?_⟩<;>(split<;>(try split)<;>split<;>(try split)<;>(try split)<;>(try split)<;>omega)
theorem vQ {a b:Int}:nP a b=0↔a=b:=by
 unfold nP;split<;>(try split)<;>omega
theorem LCk.str:LCk hJ:=by
 refine⟨rY,aIz,λa b d=>⟨aE6 a b d,λh=> ?_,λh=> ?_⟩⟩
 ·rw [(eT a b).1 h]
 ·rw [(eT b d).1 h]
theorem lE (x:Int) (l:List Int):orF (x::l)=lex x (orF l):=rfl
theorem LCk.zero {α:Type}:LCk (λ_ _:α=>(0:Int)):=⟨λ_ _=>by simp,λ_ _=>by simp,λ_ _ _=>by simp [aBy]⟩
theorem gU:LCk vE:=by
 have h:=(LCk.int.of (λc:Cn=>(aM c:Int))).lex ((LCk.int.of Cn.kind).lex ((LCk.str.of Cn.name).lex ((LCk.int.of Cn.lo).lex ((LCk.int.of Cn.hi).lex LCk.zero))))
 exact h
theorem fL {x y:Int}:lex x y=0↔x=0/\y=0:=by unfold lex;split<;>omega
theorem aPq {a b:Cn}(h:vE a b=0):a.kind=b.kind/\a.name=b.name/\a.lo=b.lo/\a.hi=b.hi:=by
 unfold vE at h
 simp only [lE,fL,vQ,eT]at h
 exact⟨h.2.1,h.2.2.1,h.2.2.2.1,h.2.2.2.2.1⟩
theorem nL (a b:Cn):iG a b=lex (vE a b) (iO a.parts b.parts):=by rw [aL2];rfl
mutual
theorem vR: ∀(a b:Cn),iG a b= -1\/iG a b=0\/iG a b=1
 | .mk k n lo hi ps,b=>by
  have h1:=gU.rng (.mk k n lo hi ps) b
  have h2:=aNd ps b.parts
  rw [nL,show (Cn.mk k n lo hi ps).parts=ps from rfl]
  unfold lex;split<;>omega
theorem aNd: ∀(l m:List Cn),iO l m= -1\/iO l m=0\/iO l m=1
 | [],[]=>by simp [iO]
 | [],_::_=>by simp [iO]
 |_::_,[]=>by simp [iO]
 |a::l,b::m=>by
  have h1:=vR a b
  have h2:=aNd l m
  rw [iO];split<;>omega
end
mutual
theorem eF: ∀(a b:Cn),iG b a= - iG a b
 | .mk k n lo hi ps,b=>by
  have c:=gU.anti (.mk k n lo hi ps) b
  have d:=aIy ps b.parts
  rw [nL,nL,c]
  show lex _ (iO b.parts ps)= - lex _ (iO ps b.parts)
  rw [d]
  unfold lex;split<;>split<;>omega
theorem aIy: ∀(l m:List Cn),iO m l= - iO l m
 | [],[]=>by simp [iO]
 | [],_::_=>by simp [iO]
 |_::_,[]=>by simp [iO]
 |a::l,b::m=>by
  have c:=eF a b
  have d:=aIy l m
  rw [iO,iO,c,d];split<;>split<;>omega
end
mutual
theorem qR: ∀(a b d:Cn),aBy iG a b d
 | .mk k n lo hi ps,b,d=>by
  have a1:=gU.t3 (.mk k n lo hi ps) b d
  have a2:=gU.t3 b d (.mk k n lo hi ps)
  have a3:=gU.t3 d (.mk k n lo hi ps) b
  have n1:=gU.anti (.mk k n lo hi ps) b
  have n2:=gU.anti b d
  have n3:=gU.anti (.mk k n lo hi ps) d
  have r1:=gU.rng (.mk k n lo hi ps) b
  have r2:=gU.rng b d
  have r3:=gU.rng (.mk k n lo hi ps) d
  have b1:=aUb ps b.parts d.parts
  unfold aBy at *
  rw [nL,nL,nL]
  rw [show (Cn.mk k n lo hi ps).parts=ps from rfl]
  generalize vE (.mk k n lo hi ps) b=x1 at *
  generalize vE (.mk k n lo hi ps) d=x2 at *
  generalize vE b d=x3 at *
  generalize vE b (.mk k n lo hi ps)=x4 at *
  generalize vE d (.mk k n lo hi ps)=x5 at *
  generalize vE d b=x6 at *
  generalize iO ps b.parts=y1 at *
  generalize iO ps d.parts=y2 at *
  generalize iO b.parts d.parts=y3 at *
  unfold lex
  refine⟨?_, ?_, ?_⟩<;>(split<;>split<;>split<;>omega)
theorem aUb: ∀(l m n:List Cn),aBy iO l m n
 | [],m,n=>by
  cases m<;>cases n<;>simp [aBy,iO]
 |a::l,[],n=>by
  cases n<;>simp [aBy,iO]
 |a::l,b::m,[]=>by
  simp only [aBy,iO]
  refine⟨by omega,λh=> ?_,λh=>by omega⟩
  first|rfl|trivial|(simp_all)
 |a::l,b::m,d::n=>by
  have a1:=qR a b d
  have b1:=aUb l m n
  have r1:=vR a b
  have r2:=vR b d
  have r3:=vR a d
  have n2:=eF b d
  unfold aBy at *
  rw [iO,iO,iO]
  generalize iG a b=x1 at *
  generalize iG a d=x2 at *
  generalize iG b d=x3 at *
  generalize iO l m=y1 at *
  generalize iO l n=y2 at *
  generalize iO m n=y3 at *
  refine⟨?_, ?_, ?_⟩<;>(split<;>split<;>split<;>omega)
end
theorem aUc:LCk iG:=⟨vR,eF,qR⟩
mutual
theorem aNf: ∀(a b:Cn),iG a b=0->a=b
 | .mk k n lo hi ps, .mk k' n' lo' hi' ps',h=>by
  rw [nL,fL]at h
  obtain⟨e,f⟩:=h
  obtain⟨e1,e2,c,d⟩:=aPq e
  have g:=aNe ps ps' f
  simp only [Cn.kind,Cn.name,Cn.lo,Cn.hi]at e1 e2 c d
  rw [e1,e2,c,d,g]
theorem aNe: ∀(l m:List Cn),iO l m=0->l=m
 | [],[],_=>rfl
 | [],_::_,h=>by simp [iO]at h
 |_::_,[],h=>by simp [iO]at h
 |a::l,b::m,h=>by
  rw [iO]at h
  have h:lex (iG a b) (iO l m)=0:=h
  rw [fL]at h
  rw [aNf a b h.1,aNe l m h.2]
end
theorem qS (a:Cn):iG a a=0:=by have:=eF a a;omega
theorem qP {a b:Cn}:iG a b=0↔a=b:=⟨aNf a b,λh=>h ▸ qS a⟩
def yY (c:Cn):List Cn->List Cn
 | []=>[c]
 |d::r=>if iG c d < 0 then c::d::r else if iG c d=0 then d::r else d::yY c r
def nR:List Cn->List Cn
 | []=>[]
 |c::r=>yY c (nR r)
abbrev aLd (l:List Cn):Prop:=l.Pairwise (λa b=>iG a b < 0)
theorem yU {c x:Cn}: ∀{l:List Cn},x∈yY c l↔x=c\/x∈l
 | []=>by simp [yY]
 |d::r=>by
  rw [yY]
  split
  ·simp
  ·split
   ·rename_i h
    have:=qP.1 h
    subst this
    simp
   ·simp only [List.mem_cons,yU (l:=r)]
    constructor
    ·rintro(h|h|h)<;>simp [h]
    ·rintro(h|h|h)<;>simp [h]
theorem dX {x:Cn}: ∀{l:List Cn},x∈nR l↔x∈l
 | []=>by simp [nR]
 |c::r=>by rw [nR,yU,dX,List.mem_cons]
theorem aEs {c:Cn}: ∀{l:List Cn},aLd l->aLd (yY c l)
 | [],_=>by simp [yY,aLd]
 |d::r,h=>by
  rw [yY]
  have b:=List.pairwise_cons.1 h
  split
  ·rename_i a
   refine List.pairwise_cons.2 ⟨λx hx=> ?_,h⟩
   rcases List.mem_cons.1 hx with rfl|hx
   ·exact a
   ·exact(qR c d x).1 a (b.1 x hx)
  ·split
   ·exact h
   ·rename_i h2 h3
    refine List.pairwise_cons.2 ⟨λx hx=> ?_,aEs b.2⟩
    rcases yU.1 hx with rfl|hx
    ·have:=eF x d;omega
    ·exact b.1 x hx
theorem uF: ∀(l:List Cn),aLd (nR l)
 | []=> .nil
 |c::r=>aEs (uF r)
theorem aRj {l:List Cn}(h:aLd l):l.Nodup:=h.imp λ{a b} h e=>by rw [e,qS]at h;omega
theorem wN: ∀{l m:List Cn},aLd l->aLd m->(∀x,x∈l↔x∈m)->l=m
 | [],[],_,_,_=>rfl
 | [],b::m,_,_,h=>by have:=(h b).2 (by simp);simp at this
 |a::l,[],_,_,h=>by have:=(h a).1 (by simp);simp at this
 |a::l,b::m,h1,h2,h=>by
  have d:=List.pairwise_cons.1 h1
  have g:=List.pairwise_cons.1 h2
  have c:a=b:=by
   rcases List.mem_cons.1 ((h a).1 (by simp))with e|e
   ·exact e
   ·rcases List.mem_cons.1 ((h b).2 (by simp))with f|f
    ·exact f.symm
    ·have q1:=d.1 b f
     have q2:=g.1 a e
     have:=eF a b
     omega
  subst c
  rw [wN d.2 g.2 λx=> ?_]
  have hx:=h x
  simp only [List.mem_cons]at hx
  have d1: ∀x∈l,x≠a:= λx hx e=>by have:=d.1 x hx;rw [e,qS]at this;omega
  have j: ∀x∈m,x≠a:= λx hx e=>by have:=g.1 x hx;rw [e,qS]at this;omega
  constructor
  ·intro hl
   rcases hx.1 (.inr hl)with e|e
   ·exact absurd e (d1 x hl)
   ·exact e
  ·intro i
   rcases hx.2 (.inr i)with e|e
   ·exact absurd e (j x i)
   ·exact e
theorem aJu {l m:List Cn}(h1:aLd m) (h: ∀x,x∈m↔x∈l):m=nR l:=wN h1 (uF l) λx=>by rw [dX,h]
theorem aOe {l m:List Cn}(h: ∀x,x∈l↔x∈m):nR l=nR m:=wN (uF l) (uF m) λx=>by rw [dX,dX,h]
theorem aRw {l:List Cn}(h:aLd l):nR l=l:=(aJu h λ_=>Iff.rfl).symm
def aJg {α:Type}(eq:α->α->Bool):α->List α->List α
 |_,[]=>[]
 |p,b::r=>if eq b p then aJg eq b r else b::aJg eq b r
def aIq {α:Type}(eq:α->α->Bool):List α->List α
 | []=>[]
 |a::r=>a::aJg eq a r
def aDw (a b:Cn):Bool:=decide (iG a b=0)
theorem aIo: ∀(p:Cn) (l:List Cn),(p::l).Pairwise (λa b=>¬ iG b a < 0)->aLd (p::aJg aDw p l)/\ ∀x,x∈p::aJg aDw p l↔x∈p::l
 |p,[],_=>⟨by simp [aJg,aLd],λx=>by simp [aJg]⟩
 |p,b::r,h=>by
  have f:=List.pairwise_cons.1 h
  obtain⟨e,g⟩:=aIo b r f.2
  rw [aJg]
  by_cases d:iG b p=0
  ·have hb:b=p:=qP.1 d
   subst hb
   rw [if_pos (by simp [aDw,d])]
   exact⟨e,λx=>by rw [g];simp⟩
  ·rw [if_neg (by simp [aDw,d])]
   have c:iG p b < 0:=by
    have:=f.1 b (by simp)
    have:=eF p b
    omega
   refine⟨List.pairwise_cons.2 ⟨λx hx=> ?_,e⟩,λx=> ?_⟩
   ·rcases List.mem_cons.1 hx with rfl|hx
    ·exact c
    ·exact(qR p b x).1 c ((List.pairwise_cons.1 e).1 x hx)
   ·rw [List.mem_cons,g,List.mem_cons (a:=x) (b:=p)]
theorem aL0 {l l':List Cn}(hp:l'.Perm l) (hs:l'.Pairwise (λa b=>¬ iG b a < 0)):aIq aDw l'=nR l:=by
 cases l' with
 |nil=>
  have:=hp.symm.eq_nil
  subst this
  rfl
 |cons a r=>
  obtain⟨c,d⟩:=aIo a r hs
  exact aJu c λx=>(d x).trans hp.mem_iff
def c0:Cn:= .mk 0 [] 0 0 []
def aQb:Cn:= .mk 1 [] 0 0 []
def bS (c:Cn):List Cn:=if c.kind=1 then []else if c.kind=5 then c.parts else [c]
def eV (s:List Cn):Cn×Int:=match s.find? (λt=>decide (t.kind=2))with
 |some t=>(t,0)
 |none=>if s.length=0 then (aQb,0)else if s.length=1 then (s.headD c0,0)else if 8 < s.length then (c0,2)else (.mk 5 [] 0 0 s,0)
def bEw (l:List Cn):Cn×Int:=eV (nR l)
def kI (l:List (Cn×Int)):Cn×Int:=match l.find? (λr=>decide (r.2≠0))with
 |some r=>(c0,r.2)
 |none=>bEw (l.flatMap λr=>bS r.1)
def uG (n:List UInt8) (l:List (Cn×Int)):Cn×Int:=match l with
 | []=>(c0,0)
 |r::_=>if r.2≠0\/r.1.kind=2 then r else (.mk 6 n 0 0 [r.1],0)
mutual
def aI:Cn->Cn×Int
 | .mk k n lo hi ps=>if k=6 then uG n (aBz ps)else if k=5 then kI (aBz ps)else (.mk k n lo hi ps,0)
def aBz:List Cn->List (Cn×Int)
 | []=>[]
 |c::r=>aI c::aBz r
end
theorem tZ: ∀l,aBz l=l.map aI
 | []=>rfl
 |c::r=>by rw [aBz,tZ r];rfl
theorem eX (c:Cn):aI c=if c.kind=6 then uG c.name (c.parts.map aI)else if c.kind=5 then kI (c.parts.map aI)else (c,0):=by
 cases c;rw [aI,tZ];rfl
def iA (l:List Cn):Nat:=(aX l).length
theorem kZ:iA []=0:=rfl
theorem bP (c:Cn) (l:List Cn):iA (c::l)=aM c+iA l:=by simp [iA,aX,aM]
theorem nA (l m:List Cn):iA (l++m)=iA l+iA m:=by simp [iA,eM]
theorem cP (c:Cn):aM c=iA c.parts+1:=uH c
theorem mZ {c:Cn}{l:List Cn}(h:c∈l):aM c<=iA l:=aDi h
theorem aEq (c:Cn): ∀l,iA (yY c l)<=aM c+iA l
 | []=>by rw [yY,bP,kZ];omega
 |d::r=>by
  have:=aEq c r
  rw [yY]
  split
  ·rw [bP,bP];omega
  ·split
   ·rw [bP];omega
   ·rw [bP,bP];omega
theorem aLp: ∀l,iA (nR l)<=iA l
 | []=>by simp [nR]
 |c::r=>by
  have:=aLp r
  have:=aEq c (nR r)
  rw [nR,bP];omega
theorem aEy:aM c0=1:=rfl
theorem aVm:aM aQb=1:=rfl
theorem aO5 (c:Cn):iA (bS c)<=aM c:=by
 unfold bS
 split
 ·rw [kZ];omega
 ·split
  ·have:=cP c;omega
  ·rw [bP,kZ];omega
theorem aQ0 (s:List Cn):aM (eV s).1<=iA s+1:=by
 unfold eV
 split
 ·rename_i t h
  have:=mZ (List.mem_of_find?_eq_some h)
  show aM t<=_
  omega
 ·split
  ·show aM aQb<=_;rw [aVm];omega
  ·split
   ·rename_i h0 a
    match s,a with
    | [x],_=>show aM x<=_;rw [bP];omega
   ·split
    ·show aM c0<=_;rw [aEy];omega
    ·show aM (.mk 5 [] 0 0 s)<=_
     rw [cP];exact Nat.le_refl _
theorem zP: ∀(l:List (Cn×Int)),iA (l.flatMap λr=>bS r.1)<=iA (l.map (·.1))
 | []=>by simp
 |r::l=>by
  have:=zP l
  have:=aO5 r.1
  rw [List.flatMap_cons,List.map_cons,nA,bP];omega
theorem aPa (l:List (Cn×Int)):aM (kI l).1<=iA (l.map (·.1))+1:=by
 unfold kI
 split
 ·show aM c0<=_;rw [aEy];omega
 ·have h1:=aQ0 (nR (l.flatMap λr=>bS r.1))
  have h2:=aLp (l.flatMap λr=>bS r.1)
  have h3:=zP l
  show aM (eV (nR (l.flatMap λr=>bS r.1))).1<=_
  omega
theorem aOb (n:List UInt8) (l:List (Cn×Int)):aM (uG n l).1<=iA (l.map (·.1))+1:=by
 unfold uG
 split
 ·show aM c0<=_;rw [aEy];omega
 ·rename_i r l
  rw [List.map_cons,bP]
  split
  ·omega
  ·show aM (.mk 6 n 0 0 [r.1])<=_
   rw [cP]
   show iA [r.1]+1<=_
   rw [bP,kZ];omega
mutual
theorem hZ: ∀c,aM (aI c).1<=aM c
 | .mk k n lo hi ps=>by
  have:=wM ps
  have h1:aM (.mk k n lo hi ps)=iA ps+1:=cP _
  rw [aI]
  split
  ·have:=aOb n (aBz ps);omega
  ·split
   ·have:=aPa (aBz ps);omega
   ·exact Nat.le_refl _
theorem wM: ∀l,iA ((aBz l).map (·.1))<=iA l
 | []=>by simp [aBz]
 |c::r=>by
  have:=hZ c
  have:=wM r
  rw [aBz,List.map_cons,bP,bP];omega
end
end
end Go.Proofs.YtbobcfjlbcgchaaGreatDoor
