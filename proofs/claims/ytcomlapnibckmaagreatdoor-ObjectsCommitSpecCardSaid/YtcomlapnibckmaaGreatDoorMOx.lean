/-
  Objects: the writer writes axioms, commits, queries and alignments.
  Conditions: none.
-/
import Derived.Test.YtcomlapnibckmaaGreatDoorMSyd
import Derived.Test.YtcomlapnibckmaaGreatDoorMOt
set_option linter.unnecessarySimpa false
set_option linter.unusedSectionVars false
set_option linter.unusedSimpArgs false
set_option linter.unusedVariables false
set_option maxHeartbeats 16000000
namespace Go.Proofs.YtcomlapnibckmaaGreatDoor
open Go.Proofs Go.RowKit
set_option maxRecDepth 10000
attribute [local irreducible] aL aG Tri aD YVC cP bB
theorem dQ (o:Bool):(wB o).length=1:=by unfold wB;exact aT _
theorem aDu (x:Ax):1<=(wA x).length:=by unfold wA;rw [List.length_append,aT];omega
theorem fK {p a b:List UInt8}:p++(a++b)=p++a++b:=(List.append_assoc ..).symm
theorem rO (l:List Ax):WrT 69 [.d (.sl 16 (l.map axR))] (wAs l):=by
 intro p hp
 unfold wAs at hp |-
 rw [dO]at hp
 have hn:=iL (Nat.le_refl 1) aDu l
 have hu:uN (l.length:Int)=l.length:=oS (by omega)
 have hlr:(l.map axR).length=l.length:=List.length_map ..
 refine aF false [] hty Tryz.func69 rfl (kp [0,1,5,6,11,12,13,14,18]) 100 (by simp [Tryz.f69]) ?_
 ((conv=>whnf);repeat ((first|(intro hq;try simp only [lnS]at hq)|refine sI ?_|refine .intro _ (.intro rfl ?_));(conv=>whnf)))
 rw [hlr]
 refine WrT.call (iQ l.length) rfl p (by rw [aQ];omega) (by decide) rfl rfl ?_
 rw [hu]
 have hqq:(p++beN 4 l.length).length=p.length+4:=by rw [List.length_append,aQ]
 have hfin:p++cV wA l=p++beN 4 l.length++(l.map wA).flatten:=by unfold cV;rw [fK]
 rw [hfin]
 clear hfin
 generalize p++beN 4 l.length=q at *
 ((conv=>whnf);repeat ((first|(intro hq;try simp only [lnS]at hq)|refine sI ?_|refine .intro _ (.intro rfl ?_));(conv=>whnf)))
 rw [hlr]
 refine aR hty (λj:Nat=>([(0, .ptr 3 0),(11, .d (.sl 16 (l.map axR))),(12, .d (.int .i64 l.length)),(13, .d (.int .i64 j))],[(3,wrC 4 (q++((l.take j).map wA).flatten)),(4,wrB (q++((l.take j).map wA).flatten))])) (λj=>j<=l.length) (λj=>l.length - j) 0 (by omega) ⟨by repeat' (first|exact trivial|exact rfl|refine And.intro ?_ ?_),by rw [List.take_zero,List.map_nil,List.flatten_nil,List.append_nil];exact⟨rfl,rfl,trivial⟩⟩ ?_
 intro j hj
 ((conv=>whnf);repeat ((first|(intro hq;try simp only [lnS]at hq)|refine sI ?_|refine .intro _ (.intro rfl ?_));(conv=>whnf)))
 refine aB (λh1=> ?_) (λh1=> ?_)
 ·have hjl:j < l.length:=by omega
  have hrow:(l.map axR)[((j:Nat):Int).toNat]? =some (axR l[j]):=cC hjl
  have hnx:=dV (w:=wA) hjl
  have hle:=lI (w:=wA) l (j+1)
  rw [hnx,List.length_append]at hle
  have hla:(wA l[j]).length=1+(1+((wC l[j].left).length+((wC l[j].right).length+((cV dJ l[j].roles).length+((dJ l[j].role).length+((dJ l[j].a).length+(dJ l[j].b).length)))))):=by
   unfold wA;simp only [List.length_append,aT,dQ]
  have hle':=oQ l[j].left
  have hri':=oQ l[j].right
  rw [bL]at hle' hri'
  generalize l[j]=x at *
  obtain⟨kd,op,le,ri,rs,s1,s2,s3⟩:=x
  dsimp only at hla hle' hri'
  ((conv=>whnf);repeat ((first|(refine⟨_,hrow, ?_⟩)|(intro hq;try simp only [lnS]at hq)|refine sI ?_|refine .intro _ (.intro rfl ?_));(conv=>whnf)))
  cases op
  ·have hB:WrT 89 [.d (.int .i64 0)] (wB false):=jZ 0
   ((conv=>whnf);repeat ((first|(intro hq;try simp only [lnS]at hq)|refine sI ?_|refine .intro _ (.intro rfl ?_));(conv=>whnf)))
   refine WrT.call (jZ kd) rfl _ (by simp only [List.length_append,aT];omega) (by decide) rfl rfl ?_
   ((conv=>whnf);repeat ((first|(intro hq;try simp only [lnS]at hq)|refine sI ?_|refine .intro _ (.intro rfl ?_));(conv=>whnf)))
   refine WrT.call hB rfl _ (by simp only [List.length_append,aT,dQ];omega) (by decide) rfl rfl ?_
   ((conv=>whnf);repeat ((first|(intro hq;try simp only [lnS]at hq)|refine sI ?_|refine .intro _ (.intro rfl ?_));(conv=>whnf)))
   refine WrT.call hle' rfl _ (by simp only [List.length_append,aT,dQ];omega) (by decide) rfl rfl ?_
   ((conv=>whnf);repeat ((first|(intro hq;try simp only [lnS]at hq)|refine sI ?_|refine .intro _ (.intro rfl ?_));(conv=>whnf)))
   refine WrT.call hri' rfl _ (by simp only [List.length_append,aT,dQ];omega) (by decide) rfl rfl ?_
   ((conv=>whnf);repeat ((first|(intro hq;try simp only [lnS]at hq)|refine sI ?_|refine .intro _ (.intro rfl ?_));(conv=>whnf)))
   refine WrT.call (uJ rs) rfl _ (by simp only [List.length_append,aT,dQ];omega) (by decide) rfl rfl ?_
   ((conv=>whnf);repeat ((first|(intro hq;try simp only [lnS]at hq)|refine sI ?_|refine .intro _ (.intro rfl ?_));(conv=>whnf)))
   refine WrT.call (eK s1) rfl _ (by simp only [List.length_append,aT,dQ];omega) (by decide) rfl rfl ?_
   ((conv=>whnf);repeat ((first|(intro hq;try simp only [lnS]at hq)|refine sI ?_|refine .intro _ (.intro rfl ?_));(conv=>whnf)))
   refine WrT.call (eK s2) rfl _ (by simp only [List.length_append,aT,dQ];omega) (by decide) rfl rfl ?_
   ((conv=>whnf);repeat ((first|(intro hq;try simp only [lnS]at hq)|refine sI ?_|refine .intro _ (.intro rfl ?_));(conv=>whnf)))
   refine WrT.call (eK s3) rfl _ (by simp only [List.length_append,aT,dQ];omega) (by decide) rfl rfl ?_
   ((conv=>whnf);repeat ((first|(intro hq;try simp only [lnS]at hq)|refine sI ?_|refine .intro _ (.intro rfl ?_));(conv=>whnf)))
   refine⟨j+1,by dsimp only;omega,by dsimp only;omega, ?_⟩
   dsimp only
   rw [hnx]
   unfold wA
   simp only [fK]
   exact⟨by repeat' (first|exact trivial|exact rfl|refine And.intro ?_ ?_),by repeat' (first|exact trivial|exact rfl|refine And.intro ?_ ?_)⟩
  ·have hB:WrT 89 [.d (.int .i64 1)] (wB true):=jZ 1
   ((conv=>whnf);repeat ((first|(intro hq;try simp only [lnS]at hq)|refine sI ?_|refine .intro _ (.intro rfl ?_));(conv=>whnf)))
   refine WrT.call (jZ kd) rfl _ (by simp only [List.length_append,aT];omega) (by decide) rfl rfl ?_
   ((conv=>whnf);repeat ((first|(intro hq;try simp only [lnS]at hq)|refine sI ?_|refine .intro _ (.intro rfl ?_));(conv=>whnf)))
   refine WrT.call hB rfl _ (by simp only [List.length_append,aT,dQ];omega) (by decide) rfl rfl ?_
   ((conv=>whnf);repeat ((first|(intro hq;try simp only [lnS]at hq)|refine sI ?_|refine .intro _ (.intro rfl ?_));(conv=>whnf)))
   refine WrT.call hle' rfl _ (by simp only [List.length_append,aT,dQ];omega) (by decide) rfl rfl ?_
   ((conv=>whnf);repeat ((first|(intro hq;try simp only [lnS]at hq)|refine sI ?_|refine .intro _ (.intro rfl ?_));(conv=>whnf)))
   refine WrT.call hri' rfl _ (by simp only [List.length_append,aT,dQ];omega) (by decide) rfl rfl ?_
   ((conv=>whnf);repeat ((first|(intro hq;try simp only [lnS]at hq)|refine sI ?_|refine .intro _ (.intro rfl ?_));(conv=>whnf)))
   refine WrT.call (uJ rs) rfl _ (by simp only [List.length_append,aT,dQ];omega) (by decide) rfl rfl ?_
   ((conv=>whnf);repeat ((first|(intro hq;try simp only [lnS]at hq)|refine sI ?_|refine .intro _ (.intro rfl ?_));(conv=>whnf)))
   refine WrT.call (eK s1) rfl _ (by simp only [List.length_append,aT,dQ];omega) (by decide) rfl rfl ?_
   ((conv=>whnf);repeat ((first|(intro hq;try simp only [lnS]at hq)|refine sI ?_|refine .intro _ (.intro rfl ?_));(conv=>whnf)))
   refine WrT.call (eK s2) rfl _ (by simp only [List.length_append,aT,dQ];omega) (by decide) rfl rfl ?_
   ((conv=>whnf);repeat ((first|(intro hq;try simp only [lnS]at hq)|refine sI ?_|refine .intro _ (.intro rfl ?_));(conv=>whnf)))
   refine WrT.call (eK s3) rfl _ (by simp only [List.length_append,aT,dQ];omega) (by decide) rfl rfl ?_
   ((conv=>whnf);repeat ((first|(intro hq;try simp only [lnS]at hq)|refine sI ?_|refine .intro _ (.intro rfl ?_));(conv=>whnf)))
   refine⟨j+1,by dsimp only;omega,by dsimp only;omega, ?_⟩
   dsimp only
   rw [hnx]
   unfold wA
   simp only [fK]
   exact⟨by repeat' (first|exact trivial|exact rfl|refine And.intro ?_ ?_),by repeat' (first|exact trivial|exact rfl|refine And.intro ?_ ?_)⟩
 ·have hjl:j=l.length:=by omega
  subst hjl
  rw [List.take_length]
  ((conv=>whnf);repeat ((first|(intro hq;try simp only [lnS]at hq)|refine sI ?_|refine .intro _ (.intro rfl ?_));(conv=>whnf)))
  exact rfl
theorem yE (c:Cm):WrT 55 [.d (.agg (cmR c))] (wCm c):=by
 intro p hp
 unfold wCm at hp |-
 obtain⟨no,l,dg,m⟩:=c
 obtain⟨xl,hx⟩:=dg
 dsimp only at hp |-
 have hwd:=kA ⟨xl,hx⟩
 have hld:(jY ⟨xl,hx⟩).length=32:=hx
 generalize hD:jY ⟨xl,hx⟩=D at *
 obtain⟨y0,y1,y2,y3,y4,y5,y6,y7,y8,y9,y10,y11,y12,y13,y14,y15,y16,y17,y18,y19,y20,y21,y22,y23,y24,y25,y26,y27,y28,y29,y30,y31,rfl⟩:=eQ hx
 clear hD
 simp only [List.length_append,bS,dO,hld]at hp
 have hn:=iL (w:=cQ) (Nat.le_refl 1) (λz=>by rw [bS];omega) l
 have hu:uN (l.length:Int)=l.length:=oS (by omega)
 have hlr:(l.map eE).length=l.length:=List.length_map ..
 refine aF false [] hty Tryz.func55 rfl (kp [0,1,3,5,16,17,18,19]) 100 (by simp [Tryz.f55]) ?_
 ((conv=>whnf);repeat ((first|(intro hq;try simp only [lnS]at hq)|refine sI ?_|refine .intro _ (.intro rfl ?_));(conv=>whnf)))
 refine WrT.call (gG no) rfl p (by rw [aQ];omega) (by decide) rfl rfl ?_
 ((conv=>whnf);repeat ((first|(intro hq;try simp only [lnS]at hq)|refine sI ?_|refine .intro _ (.intro rfl ?_));(conv=>whnf)))
 rw [hlr]
 refine WrT.call (iQ l.length) rfl _ (by simp only [List.length_append,aQ];omega) (by decide) rfl rfl ?_
 rw [hu]
 have hqq:(p++cQ no++beN 4 l.length).length=p.length+(8+4):=by simp only [List.length_append,bS,aQ]
 have hfin:p++(cQ no++(cV cQ l++(D++dJ m)))=p++cQ no++beN 4 l.length++(l.map cQ).flatten++D++dJ m:=by unfold cV;simp only [fK]
 rw [hfin]
 clear hfin
 change dL _ _ (wrC 4 (p++cQ no++beN 4 l.length)) λh=>dL h _ (wrB (p++cQ no++beN 4 l.length)) _
 generalize p++cQ no++beN 4 l.length=q at *
 ((conv=>whnf);repeat ((first|(intro hq;try simp only [lnS]at hq)|refine sI ?_|refine .intro _ (.intro rfl ?_));(conv=>whnf)))
 rw [hlr]
 refine aR hty (λj:Nat=>([(0, .ptr 3 0),(3, .ptr 103 0),(16, .d (.sl 1 (l.map eE))),(17, .d (.int .i64 l.length)),(18, .d (.int .i64 j))],[(3,wrC 4 (q++((l.take j).map cQ).flatten)),(4,wrB (q++((l.take j).map cQ).flatten)),(103, .cells 41 ((cmR ⟨no,l,⟨[y0,y1,y2,y3,y4,y5,y6,y7,y8,y9,y10,y11,y12,y13,y14,y15,y16,y17,y18,y19,y20,y21,y22,y23,y24,y25,y26,y27,y28,y29,y30,y31],rfl⟩,m⟩).map .d))])) (λj=>j<=l.length) (λj=>l.length - j) 0 (by omega) ⟨by repeat' (first|exact trivial|exact rfl|refine And.intro ?_ ?_),by rw [List.take_zero,List.map_nil,List.flatten_nil,List.append_nil];exact⟨rfl,rfl,rfl,trivial⟩⟩ ?_
 intro j hj
 ((conv=>whnf);repeat ((first|(intro hq;try simp only [lnS]at hq)|refine sI ?_|refine .intro _ (.intro rfl ?_));(conv=>whnf)))
 refine aB (λh1=> ?_) (λh1=> ?_)
 ·have hjl:j < l.length:=by omega
  have hrow:(l.map eE)[((j:Nat):Int).toNat]? =some (eE l[j]):=cC hjl
  have hnx:=dV (w:=cQ) hjl
  have hle:=lI (w:=cQ) l (j+1)
  rw [hnx,List.length_append,bS]at hle
  ((conv=>whnf);repeat ((first|(refine⟨_,hrow, ?_⟩)|(intro hq;try simp only [lnS]at hq)|refine sI ?_|refine .intro _ (.intro rfl ?_));(conv=>whnf)))
  refine WrT.call (gG l[j]) rfl _ (by rw [List.length_append,aQ];omega) (by decide) rfl rfl ?_
  ((conv=>whnf);repeat ((first|(intro hq;try simp only [lnS]at hq)|refine sI ?_|refine .intro _ (.intro rfl ?_));(conv=>whnf)))
  refine⟨j+1,by dsimp only;omega,by dsimp only;omega, ?_⟩
  dsimp only
  rw [hnx,<-List.append_assoc]
  exact⟨by repeat' (first|exact trivial|exact rfl|refine And.intro ?_ ?_),by repeat' (first|exact trivial|exact rfl|refine And.intro ?_ ?_)⟩
 ·have hjl:j=l.length:=by omega
  subst hjl
  rw [List.take_length]
  ((conv=>whnf);repeat ((first|(intro hq;try simp only [lnS]at hq)|refine sI ?_|refine .intro _ (.intro rfl ?_));(conv=>whnf)))
  refine WrT.call hwd rfl _ (by rw [List.length_append];omega) (by decide) rfl rfl ?_
  ((conv=>whnf);repeat ((first|(intro hq;try simp only [lnS]at hq)|refine sI ?_|refine .intro _ (.intro rfl ?_));(conv=>whnf)))
  refine WrT.call (eK m) rfl _ (by simp only [List.length_append];omega) (by decide) rfl rfl ?_
  ((conv=>whnf);repeat ((first|(intro hq;try simp only [lnS]at hq)|refine sI ?_|refine .intro _ (.intro rfl ?_));(conv=>whnf)))
  exact rfl
theorem rP (a:Al):WrT 60 [.d (.agg (alR a))] (wAl a):=by
 intro p hp
 unfold wAl at hp |-
 obtain⟨nm,d1,ax,d2,ix,ps,pt⟩:=a
 obtain⟨yl,hy⟩:=d1
 obtain⟨zl,hz⟩:=d2
 dsimp only at hp |-
 have hw1:=kA ⟨yl,hy⟩
 have hl1:(jY ⟨yl,hy⟩).length=32:=hy
 generalize hD:jY ⟨yl,hy⟩=D at *
 obtain⟨y0,y1,y2,y3,y4,y5,y6,y7,y8,y9,y10,y11,y12,y13,y14,y15,y16,y17,y18,y19,y20,y21,y22,y23,y24,y25,y26,y27,y28,y29,y30,y31,rfl⟩:=eQ hy
 clear hD
 have hw2:=kA ⟨zl,hz⟩
 have hl2:(jY ⟨zl,hz⟩).length=32:=hz
 generalize hE:jY ⟨zl,hz⟩=E at *
 obtain⟨z0,z1,z2,z3,z4,z5,z6,z7,z8,z9,z10,z11,z12,z13,z14,z15,z16,z17,z18,z19,z20,z21,z22,z23,z24,z25,z26,z27,z28,z29,z30,z31,rfl⟩:=eQ hz
 clear hE
 simp only [List.length_append,bS,hl1,hl2]at hp
 refine aF false [] hty Tryz.func60 rfl (kp [0,1,3]) 100 (by simp [Tryz.f60]) ?_
 ((conv=>whnf);repeat ((first|(intro hq;try simp only [lnS]at hq)|refine sI ?_|refine .intro _ (.intro rfl ?_));(conv=>whnf)))
 refine WrT.call (eK nm) rfl p (by omega) (by decide) rfl rfl ?_
 ((conv=>whnf);repeat ((first|(intro hq;try simp only [lnS]at hq)|refine sI ?_|refine .intro _ (.intro rfl ?_));(conv=>whnf)))
 refine WrT.call hw1 rfl _ (by simp only [List.length_append];omega) (by decide) rfl rfl ?_
 ((conv=>whnf);repeat ((first|(intro hq;try simp only [lnS]at hq)|refine sI ?_|refine .intro _ (.intro rfl ?_));(conv=>whnf)))
 refine WrT.call (rO ax) rfl _ (by simp only [List.length_append];omega) (by decide) rfl rfl ?_
 ((conv=>whnf);repeat ((first|(intro hq;try simp only [lnS]at hq)|refine sI ?_|refine .intro _ (.intro rfl ?_));(conv=>whnf)))
 refine WrT.call hw2 rfl _ (by simp only [List.length_append];omega) (by decide) rfl rfl ?_
 ((conv=>whnf);repeat ((first|(intro hq;try simp only [lnS]at hq)|refine sI ?_|refine .intro _ (.intro rfl ?_));(conv=>whnf)))
 refine WrT.call (gG ix) rfl _ (by simp only [List.length_append,aQ];omega) (by decide) rfl rfl ?_
 ((conv=>whnf);repeat ((first|(intro hq;try simp only [lnS]at hq)|refine sI ?_|refine .intro _ (.intro rfl ?_));(conv=>whnf)))
 refine WrT.call (oP ps) rfl _ (by simp only [List.length_append,aQ];omega) (by decide) rfl rfl ?_
 ((conv=>whnf);repeat ((first|(intro hq;try simp only [lnS]at hq)|refine sI ?_|refine .intro _ (.intro rfl ?_));(conv=>whnf)))
 refine WrT.call (oP pt) rfl _ (by simp only [List.length_append,aQ];omega) (by decide) rfl rfl ?_
 unfold cQ
 simp only [fK]
 ((conv=>whnf);repeat ((first|(intro hq;try simp only [lnS]at hq)|refine sI ?_|refine .intro _ (.intro rfl ?_));(conv=>whnf)))
 exact rfl
end Go.Proofs.YtcomlapnibckmaaGreatDoor
