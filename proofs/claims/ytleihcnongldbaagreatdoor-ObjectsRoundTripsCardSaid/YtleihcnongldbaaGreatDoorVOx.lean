/-
  Objects: the writer writes axioms, commits, queries and alignments.
  Conditions: none.
-/
import Derived.Test.YtleihcnongldbaaGreatDoorVSyd
import Derived.Test.YtleihcnongldbaaGreatDoorVOu
set_option linter.unnecessarySimpa false
set_option linter.unusedSectionVars false
set_option linter.unusedSimpArgs false
set_option linter.unusedVariables false
set_option maxHeartbeats 16000000
namespace Go.Proofs.YtleihcnongldbaaGreatDoor
open Go.Proofs Go.RowKit
set_option maxRecDepth 10000
attribute [local irreducible] aO aH Tri aG YVC cL bB
theorem fQ (o:Bool):(wB o).length=1:=by unfold wB;exact aR _
theorem aK7 (x:Ax):1<=(wA x).length:=by unfold wA;rw [List.length_append,aR];omega
theorem fD {p a b:List UInt8}:p++(a++b)=p++a++b:=(List.append_assoc ..).symm
theorem yL (l:List Ax):WrT 54 [.d (.sl 16 (l.map axR))] (wAs l):=by
 intro p hp
 unfold wAs at hp |-
 rw [dA]at hp
 have hn:=gE (Nat.le_refl 1) aK7 l
 have hu:uN (l.length:Int)=l.length:=pU (by omega)
 have hlr:(l.map axR).length=l.length:=List.length_map ..
 refine aI false [] hty Tryz.func54 rfl (kp [0,1,5,6,11,12,13,14,18]) 100 (by simp [Tryz.f54]) ?_
 ((conv=>whnf);repeat ((first|(intro hq;try simp only [lnS]at hq)|refine sI ?_|refine .intro _ (.intro rfl ?_));(conv=>whnf)))
 rw [hlr]
 refine WrT.call (gM l.length) rfl p (by rw [aT];omega) (by decide) rfl rfl ?_
 rw [hu]
 have hqq:(p++beN 4 l.length).length=p.length+4:=by rw [List.length_append,aT]
 have hfin:p++bO wA l=p++beN 4 l.length++(l.map wA).flatten:=by unfold bO;rw [fD]
 rw [hfin]
 clear hfin
 generalize p++beN 4 l.length=q at *
 ((conv=>whnf);repeat ((first|(intro hq;try simp only [lnS]at hq)|refine sI ?_|refine .intro _ (.intro rfl ?_));(conv=>whnf)))
 rw [hlr]
 refine aL hty (λj:Nat=>([(0, .ptr 3 0),(11, .d (.sl 16 (l.map axR))),(12, .d (.int .i64 l.length)),(13, .d (.int .i64 j))],[(3,wrC 4 (q++((l.take j).map wA).flatten)),(4,wrB (q++((l.take j).map wA).flatten))])) (λj=>j<=l.length) (λj=>l.length - j) 0 (by omega) ⟨by repeat' (first|exact trivial|exact rfl|refine And.intro ?_ ?_),by rw [List.take_zero,List.map_nil,List.flatten_nil,List.append_nil];exact⟨rfl,rfl,trivial⟩⟩ ?_
 intro j hj
 ((conv=>whnf);repeat ((first|(intro hq;try simp only [lnS]at hq)|refine sI ?_|refine .intro _ (.intro rfl ?_));(conv=>whnf)))
 refine aB (λh1=> ?_) (λh1=> ?_)
 ·have hjl:j < l.length:=by omega
  have hrow:(l.map axR)[((j:Nat):Int).toNat]? =some (axR l[j]):=aZ hjl
  have hnx:=gD (w:=wA) hjl
  have hle:=nF (w:=wA) l (j+1)
  rw [hnx,List.length_append]at hle
  have hla:(wA l[j]).length=1+(1+((wC l[j].left).length+((wC l[j].right).length+((bO dO l[j].roles).length+((dO l[j].role).length+((dO l[j].a).length+(dO l[j].b).length)))))):=by
   unfold wA;simp only [List.length_append,aR,fQ]
  have hle':=uM l[j].left
  have hri':=uM l[j].right
  rw [bG]at hle' hri'
  generalize l[j]=x at *
  obtain⟨kd,op,le,ri,rs,s1,s2,s3⟩:=x
  dsimp only at hla hle' hri'
  ((conv=>whnf);repeat ((first|(refine⟨_,hrow, ?_⟩)|(intro hq;try simp only [lnS]at hq)|refine sI ?_|refine .intro _ (.intro rfl ?_));(conv=>whnf)))
  cases op
  ·have hB:WrT 69 [.d (.int .i64 0)] (wB false):=lW 0
   ((conv=>whnf);repeat ((first|(intro hq;try simp only [lnS]at hq)|refine sI ?_|refine .intro _ (.intro rfl ?_));(conv=>whnf)))
   refine WrT.call (lW kd) rfl _ (by simp only [List.length_append,aR];omega) (by decide) rfl rfl ?_
   ((conv=>whnf);repeat ((first|(intro hq;try simp only [lnS]at hq)|refine sI ?_|refine .intro _ (.intro rfl ?_));(conv=>whnf)))
   refine WrT.call hB rfl _ (by simp only [List.length_append,aR,fQ];omega) (by decide) rfl rfl ?_
   ((conv=>whnf);repeat ((first|(intro hq;try simp only [lnS]at hq)|refine sI ?_|refine .intro _ (.intro rfl ?_));(conv=>whnf)))
   refine WrT.call hle' rfl _ (by simp only [List.length_append,aR,fQ];omega) (by decide) rfl rfl ?_
   ((conv=>whnf);repeat ((first|(intro hq;try simp only [lnS]at hq)|refine sI ?_|refine .intro _ (.intro rfl ?_));(conv=>whnf)))
   refine WrT.call hri' rfl _ (by simp only [List.length_append,aR,fQ];omega) (by decide) rfl rfl ?_
   ((conv=>whnf);repeat ((first|(intro hq;try simp only [lnS]at hq)|refine sI ?_|refine .intro _ (.intro rfl ?_));(conv=>whnf)))
   refine WrT.call (vW rs) rfl _ (by simp only [List.length_append,aR,fQ];omega) (by decide) rfl rfl ?_
   ((conv=>whnf);repeat ((first|(intro hq;try simp only [lnS]at hq)|refine sI ?_|refine .intro _ (.intro rfl ?_));(conv=>whnf)))
   refine WrT.call (eJ s1) rfl _ (by simp only [List.length_append,aR,fQ];omega) (by decide) rfl rfl ?_
   ((conv=>whnf);repeat ((first|(intro hq;try simp only [lnS]at hq)|refine sI ?_|refine .intro _ (.intro rfl ?_));(conv=>whnf)))
   refine WrT.call (eJ s2) rfl _ (by simp only [List.length_append,aR,fQ];omega) (by decide) rfl rfl ?_
   ((conv=>whnf);repeat ((first|(intro hq;try simp only [lnS]at hq)|refine sI ?_|refine .intro _ (.intro rfl ?_));(conv=>whnf)))
   refine WrT.call (eJ s3) rfl _ (by simp only [List.length_append,aR,fQ];omega) (by decide) rfl rfl ?_
   ((conv=>whnf);repeat ((first|(intro hq;try simp only [lnS]at hq)|refine sI ?_|refine .intro _ (.intro rfl ?_));(conv=>whnf)))
   refine⟨j+1,by dsimp only;omega,by dsimp only;omega, ?_⟩
   dsimp only
   rw [hnx]
   unfold wA
   simp only [fD]
   exact⟨by repeat' (first|exact trivial|exact rfl|refine And.intro ?_ ?_),by repeat' (first|exact trivial|exact rfl|refine And.intro ?_ ?_)⟩
  ·have hB:WrT 69 [.d (.int .i64 1)] (wB true):=lW 1
   ((conv=>whnf);repeat ((first|(intro hq;try simp only [lnS]at hq)|refine sI ?_|refine .intro _ (.intro rfl ?_));(conv=>whnf)))
   refine WrT.call (lW kd) rfl _ (by simp only [List.length_append,aR];omega) (by decide) rfl rfl ?_
   ((conv=>whnf);repeat ((first|(intro hq;try simp only [lnS]at hq)|refine sI ?_|refine .intro _ (.intro rfl ?_));(conv=>whnf)))
   refine WrT.call hB rfl _ (by simp only [List.length_append,aR,fQ];omega) (by decide) rfl rfl ?_
   ((conv=>whnf);repeat ((first|(intro hq;try simp only [lnS]at hq)|refine sI ?_|refine .intro _ (.intro rfl ?_));(conv=>whnf)))
   refine WrT.call hle' rfl _ (by simp only [List.length_append,aR,fQ];omega) (by decide) rfl rfl ?_
   ((conv=>whnf);repeat ((first|(intro hq;try simp only [lnS]at hq)|refine sI ?_|refine .intro _ (.intro rfl ?_));(conv=>whnf)))
   refine WrT.call hri' rfl _ (by simp only [List.length_append,aR,fQ];omega) (by decide) rfl rfl ?_
   ((conv=>whnf);repeat ((first|(intro hq;try simp only [lnS]at hq)|refine sI ?_|refine .intro _ (.intro rfl ?_));(conv=>whnf)))
   refine WrT.call (vW rs) rfl _ (by simp only [List.length_append,aR,fQ];omega) (by decide) rfl rfl ?_
   ((conv=>whnf);repeat ((first|(intro hq;try simp only [lnS]at hq)|refine sI ?_|refine .intro _ (.intro rfl ?_));(conv=>whnf)))
   refine WrT.call (eJ s1) rfl _ (by simp only [List.length_append,aR,fQ];omega) (by decide) rfl rfl ?_
   ((conv=>whnf);repeat ((first|(intro hq;try simp only [lnS]at hq)|refine sI ?_|refine .intro _ (.intro rfl ?_));(conv=>whnf)))
   refine WrT.call (eJ s2) rfl _ (by simp only [List.length_append,aR,fQ];omega) (by decide) rfl rfl ?_
   ((conv=>whnf);repeat ((first|(intro hq;try simp only [lnS]at hq)|refine sI ?_|refine .intro _ (.intro rfl ?_));(conv=>whnf)))
   refine WrT.call (eJ s3) rfl _ (by simp only [List.length_append,aR,fQ];omega) (by decide) rfl rfl ?_
   ((conv=>whnf);repeat ((first|(intro hq;try simp only [lnS]at hq)|refine sI ?_|refine .intro _ (.intro rfl ?_));(conv=>whnf)))
   refine⟨j+1,by dsimp only;omega,by dsimp only;omega, ?_⟩
   dsimp only
   rw [hnx]
   unfold wA
   simp only [fD]
   exact⟨by repeat' (first|exact trivial|exact rfl|refine And.intro ?_ ?_),by repeat' (first|exact trivial|exact rfl|refine And.intro ?_ ?_)⟩
 ·have hjl:j=l.length:=by omega
  subst hjl
  rw [List.take_length]
  ((conv=>whnf);repeat ((first|(intro hq;try simp only [lnS]at hq)|refine sI ?_|refine .intro _ (.intro rfl ?_));(conv=>whnf)))
  exact rfl
theorem aDw (c:Cm):WrT 55 [.d (.agg (cmR c))] (wCm c):=by
 intro p hp
 unfold wCm at hp |-
 obtain⟨no,l,dg,m⟩:=c
 obtain⟨xl,hx⟩:=dg
 dsimp only at hp |-
 have hwd:=nJ ⟨xl,hx⟩
 have hld:(mX ⟨xl,hx⟩).length=32:=hx
 generalize hD:mX ⟨xl,hx⟩=D at *
 obtain⟨y0,y1,y2,y3,y4,y5,y6,y7,y8,y9,y10,y11,y12,y13,y14,y15,y16,y17,y18,y19,y20,y21,y22,y23,y24,y25,y26,y27,y28,y29,y30,y31,rfl⟩:=fM hx
 clear hD
 simp only [List.length_append,cQ,dA,hld]at hp
 have hn:=gE (w:=gN) (Nat.le_refl 1) (λz=>by rw [cQ];omega) l
 have hu:uN (l.length:Int)=l.length:=pU (by omega)
 have hlr:(l.map xR).length=l.length:=List.length_map ..
 refine aI false [] hty Tryz.func55 rfl (kp [0,1,3,5,16,17,18,19]) 100 (by simp [Tryz.f55]) ?_
 ((conv=>whnf);repeat ((first|(intro hq;try simp only [lnS]at hq)|refine sI ?_|refine .intro _ (.intro rfl ?_));(conv=>whnf)))
 refine WrT.call (fP no) rfl p (by rw [aT];omega) (by decide) rfl rfl ?_
 ((conv=>whnf);repeat ((first|(intro hq;try simp only [lnS]at hq)|refine sI ?_|refine .intro _ (.intro rfl ?_));(conv=>whnf)))
 rw [hlr]
 refine WrT.call (gM l.length) rfl _ (by simp only [List.length_append,aT];omega) (by decide) rfl rfl ?_
 rw [hu]
 have hqq:(p++gN no++beN 4 l.length).length=p.length+(8+4):=by simp only [List.length_append,cQ,aT]
 have hfin:p++(gN no++(bO gN l++(D++dO m)))=p++gN no++beN 4 l.length++(l.map gN).flatten++D++dO m:=by unfold bO;simp only [fD]
 rw [hfin]
 clear hfin
 change eH _ _ (wrC 4 (p++gN no++beN 4 l.length)) λh=>eH h _ (wrB (p++gN no++beN 4 l.length)) _
 generalize p++gN no++beN 4 l.length=q at *
 ((conv=>whnf);repeat ((first|(intro hq;try simp only [lnS]at hq)|refine sI ?_|refine .intro _ (.intro rfl ?_));(conv=>whnf)))
 rw [hlr]
 refine aL hty (λj:Nat=>([(0, .ptr 3 0),(3, .ptr 103 0),(16, .d (.sl 1 (l.map xR))),(17, .d (.int .i64 l.length)),(18, .d (.int .i64 j))],[(3,wrC 4 (q++((l.take j).map gN).flatten)),(4,wrB (q++((l.take j).map gN).flatten)),(103, .cells 53 ((cmR ⟨no,l,⟨[y0,y1,y2,y3,y4,y5,y6,y7,y8,y9,y10,y11,y12,y13,y14,y15,y16,y17,y18,y19,y20,y21,y22,y23,y24,y25,y26,y27,y28,y29,y30,y31],rfl⟩,m⟩).map .d))])) (λj=>j<=l.length) (λj=>l.length - j) 0 (by omega) ⟨by repeat' (first|exact trivial|exact rfl|refine And.intro ?_ ?_),by rw [List.take_zero,List.map_nil,List.flatten_nil,List.append_nil];exact⟨rfl,rfl,rfl,trivial⟩⟩ ?_
 intro j hj
 ((conv=>whnf);repeat ((first|(intro hq;try simp only [lnS]at hq)|refine sI ?_|refine .intro _ (.intro rfl ?_));(conv=>whnf)))
 refine aB (λh1=> ?_) (λh1=> ?_)
 ·have hjl:j < l.length:=by omega
  have hrow:(l.map xR)[((j:Nat):Int).toNat]? =some (xR l[j]):=aZ hjl
  have hnx:=gD (w:=gN) hjl
  have hle:=nF (w:=gN) l (j+1)
  rw [hnx,List.length_append,cQ]at hle
  ((conv=>whnf);repeat ((first|(refine⟨_,hrow, ?_⟩)|(intro hq;try simp only [lnS]at hq)|refine sI ?_|refine .intro _ (.intro rfl ?_));(conv=>whnf)))
  refine WrT.call (fP l[j]) rfl _ (by rw [List.length_append,aT];omega) (by decide) rfl rfl ?_
  ((conv=>whnf);repeat ((first|(intro hq;try simp only [lnS]at hq)|refine sI ?_|refine .intro _ (.intro rfl ?_));(conv=>whnf)))
  refine⟨j+1,by dsimp only;omega,by dsimp only;omega, ?_⟩
  dsimp only
  rw [hnx,<-List.append_assoc]
  exact⟨by repeat' (first|exact trivial|exact rfl|refine And.intro ?_ ?_),by repeat' (first|exact trivial|exact rfl|refine And.intro ?_ ?_)⟩
 ·have hjl:j=l.length:=by omega
  subst hjl
  rw [List.take_length]
  ((conv=>whnf);repeat ((first|(intro hq;try simp only [lnS]at hq)|refine sI ?_|refine .intro _ (.intro rfl ?_));(conv=>whnf)))
  refine WrT.call hwd rfl _ (by rw [List.length_append];omega) (by decide) rfl rfl ?_
  ((conv=>whnf);repeat ((first|(intro hq;try simp only [lnS]at hq)|refine sI ?_|refine .intro _ (.intro rfl ?_));(conv=>whnf)))
  refine WrT.call (eJ m) rfl _ (by simp only [List.length_append];omega) (by decide) rfl rfl ?_
  ((conv=>whnf);repeat ((first|(intro hq;try simp only [lnS]at hq)|refine sI ?_|refine .intro _ (.intro rfl ?_));(conv=>whnf)))
  exact rfl
theorem aGr (a:At):1<=(wAt a).length:=by unfold wAt;rw [List.length_append,aR];omega
theorem aGp (p:List At):1<=(bO wAt p).length:=by rw [dA];omega
theorem aGm (y:Qy):WrT 29 [.d (.agg (qyR y))] (wQy y):=by
 intro p hp
 unfold wQy at hp |-
 obtain⟨tl,l⟩:=y
 dsimp only at hp |-
 simp only [List.length_append,dA (bO wAt)]at hp
 have hn:=gE (w:=bO wAt) (Nat.le_refl 1) aGp l
 have hu:uN (l.length:Int)=l.length:=pU (by omega)
 have hlr:(l.map bI).length=l.length:=List.length_map ..
 refine aI false [] hty Tryz.func29 rfl (kp [0,1,3,5,7,18,19,20,21,30,31,32,33]) 100 (by simp [Tryz.f29]) ?_
 ((conv=>whnf);repeat ((first|(intro hq;try simp only [lnS]at hq)|refine sI ?_|refine .intro _ (.intro rfl ?_));(conv=>whnf)))
 refine WrT.call (vW tl) rfl p (by omega) (by decide) rfl rfl ?_
 ((conv=>whnf);repeat ((first|(intro hq;try simp only [lnS]at hq)|refine sI ?_|refine .intro _ (.intro rfl ?_));(conv=>whnf)))
 rw [hlr]
 refine WrT.call (gM l.length) rfl _ (by simp only [List.length_append,aT];omega) (by decide) rfl rfl ?_
 rw [hu]
 have hqq:(p++bO dO tl++beN 4 l.length).length=p.length+((bO dO tl).length+4):=by simp only [List.length_append,aT];omega
 have hfin:p++(bO dO tl++bO (bO wAt) l)=p++bO dO tl++beN 4 l.length++(l.map (bO wAt)).flatten:=by
  rw [show bO (bO wAt) l=beN 4 l.length++(l.map (bO wAt)).flatten from rfl];simp only [fD]
 rw [hfin]
 clear hfin
 change eH _ _ (wrC 4 (p++bO dO tl++beN 4 l.length)) λh=>eH h _ (wrB (p++bO dO tl++beN 4 l.length)) _
 generalize p++bO dO tl++beN 4 l.length=q at *
 ((conv=>whnf);repeat ((first|(intro hq;try simp only [lnS]at hq)|refine sI ?_|refine .intro _ (.intro rfl ?_));(conv=>whnf)))
 rw [hlr]
 refine aL hty (λj:Nat=>([(0, .ptr 3 0),(18, .d (.sl 1 (l.map bI))),(19, .d (.int .i64 l.length)),(20, .d (.int .i64 j))],[(3,wrC 4 (q++((l.take j).map (bO wAt)).flatten)),(4,wrB (q++((l.take j).map (bO wAt)).flatten))])) (λj=>j<=l.length) (λj=>l.length - j) 0 (by omega) ⟨by repeat' (first|exact trivial|exact rfl|refine And.intro ?_ ?_),by rw [List.take_zero,List.map_nil,List.flatten_nil,List.append_nil];exact⟨rfl,rfl,trivial⟩⟩ ?_
 intro j hj
 ((conv=>whnf);repeat ((first|(intro hq;try simp only [lnS]at hq)|refine sI ?_|refine .intro _ (.intro rfl ?_));(conv=>whnf)))
 refine aB (λh1=> ?_) (λh1=> ?_)
 ·have hjl:j < l.length:=by omega
  have hrow:(l.map bI)[((j:Nat):Int).toNat]? =some (bI l[j]):=aZ hjl
  have hnx:=gD (w:=bO wAt) hjl
  have hle:=nF (w:=bO wAt) l (j+1)
  rw [hnx,List.length_append,dA]at hle
  generalize l[j]=m at *
  have hnm:=gE (w:=wAt) (Nat.le_refl 1) aGr m
  have hum:uN (m.length:Int)=m.length:=pU (by omega)
  have hmr:(m.map atR).length=m.length:=List.length_map ..
  generalize ((l.take j).map (bO wAt)).flatten=u at *
  ((conv=>whnf);repeat ((first|(refine⟨_,hrow, ?_⟩)|(intro hq;try simp only [lnS]at hq)|refine sI ?_|refine .intro _ (.intro rfl ?_));(conv=>whnf)))
  rw [hmr]
  refine WrT.call (gM m.length) rfl _ (by simp only [List.length_append,aT];omega) (by decide) rfl rfl ?_
  rw [hum]
  have hvv:(q++u++beN 4 m.length).length=q.length+(u.length+4):=by simp only [List.length_append,aT];omega
  have hfin:q++(u++bO wAt m)=q++u++beN 4 m.length++(m.map wAt).flatten:=by unfold bO;simp only [fD]
  rw [<-hnx]at hfin
  change eH _ _ (wrC 4 (q++u++beN 4 m.length)) λh=>eH h _ (wrB (q++u++beN 4 m.length)) _
  generalize q++u++beN 4 m.length=v at *
  ((conv=>whnf);repeat ((first|(intro hq;try simp only [lnS]at hq)|refine sI ?_|refine .intro _ (.intro rfl ?_));(conv=>whnf)))
  rw [hmr]
  refine aL hty (λk:Nat=>([(0, .ptr 3 0),(18, .d (.sl 1 (l.map bI))),(19, .d (.int .i64 l.length)),(20, .d (.int .i64 j)),(30, .d (.sl 6 (m.map atR))),(31, .d (.int .i64 m.length)),(32, .d (.int .i64 k))],[(3,wrC 4 (v++((m.take k).map wAt).flatten)),(4,wrB (v++((m.take k).map wAt).flatten))])) (λk=>k<=m.length) (λk=>m.length - k) 0 (by omega) ⟨by repeat' (first|exact trivial|exact rfl|refine And.intro ?_ ?_),by rw [List.take_zero,List.map_nil,List.flatten_nil,List.append_nil];exact⟨rfl,rfl,trivial⟩⟩ ?_
  intro k hk
  ((conv=>whnf);repeat ((first|(intro hq;try simp only [lnS]at hq)|refine sI ?_|refine .intro _ (.intro rfl ?_));(conv=>whnf)))
  refine aB (λh2=> ?_) (λh2=> ?_)
  ·have hkl:k < m.length:=by omega
   have hrow2:(m.map atR)[((k:Nat):Int).toNat]? =some (atR m[k]):=aZ hkl
   have hnx2:=gD (w:=wAt) hkl
   have hle2:=nF (w:=wAt) m (k+1)
   rw [hnx2,List.length_append]at hle2
   have hla:(wAt m[k]).length=1+((dO m[k].name).length+((dO m[k].x).length+((dO m[k].y).length+(8+8)))):=by
    unfold wAt;simp only [List.length_append,aR,cQ]
   generalize m[k]=x at *
   obtain⟨kd,s1,s2,s3,lo,hi⟩:=x
   dsimp only at hla
   ((conv=>whnf);repeat ((first|(refine⟨_,hrow2, ?_⟩)|(intro hq;try simp only [lnS]at hq)|refine sI ?_|refine .intro _ (.intro rfl ?_));(conv=>whnf)))
   refine WrT.call (lW kd) rfl _ (by simp only [List.length_append,aR];omega) (by decide) rfl rfl ?_
   ((conv=>whnf);repeat ((first|(intro hq;try simp only [lnS]at hq)|refine sI ?_|refine .intro _ (.intro rfl ?_));(conv=>whnf)))
   refine WrT.call (eJ s1) rfl _ (by simp only [List.length_append,aR];omega) (by decide) rfl rfl ?_
   ((conv=>whnf);repeat ((first|(intro hq;try simp only [lnS]at hq)|refine sI ?_|refine .intro _ (.intro rfl ?_));(conv=>whnf)))
   refine WrT.call (eJ s2) rfl _ (by simp only [List.length_append,aR];omega) (by decide) rfl rfl ?_
   ((conv=>whnf);repeat ((first|(intro hq;try simp only [lnS]at hq)|refine sI ?_|refine .intro _ (.intro rfl ?_));(conv=>whnf)))
   refine WrT.call (eJ s3) rfl _ (by simp only [List.length_append,aR];omega) (by decide) rfl rfl ?_
   ((conv=>whnf);repeat ((first|(intro hq;try simp only [lnS]at hq)|refine sI ?_|refine .intro _ (.intro rfl ?_));(conv=>whnf)))
   refine WrT.call (fP lo) rfl _ (by simp only [List.length_append,aR,aT];omega) (by decide) rfl rfl ?_
   ((conv=>whnf);repeat ((first|(intro hq;try simp only [lnS]at hq)|refine sI ?_|refine .intro _ (.intro rfl ?_));(conv=>whnf)))
   refine WrT.call (fP hi) rfl _ (by simp only [List.length_append,aR,aT];omega) (by decide) rfl rfl ?_
   ((conv=>whnf);repeat ((first|(intro hq;try simp only [lnS]at hq)|refine sI ?_|refine .intro _ (.intro rfl ?_));(conv=>whnf)))
   refine⟨k+1,by dsimp only;omega,by dsimp only;omega, ?_⟩
   dsimp only
   rw [hnx2]
   unfold wAt gN
   simp only [fD]
   exact⟨by repeat' (first|exact trivial|exact rfl|refine And.intro ?_ ?_),by repeat' (first|exact trivial|exact rfl|refine And.intro ?_ ?_)⟩
  ·have hkl:k=m.length:=by omega
   subst hkl
   rw [List.take_length]
   ((conv=>whnf);repeat ((first|(intro hq;try simp only [lnS]at hq)|refine sI ?_|refine .intro _ (.intro rfl ?_));(conv=>whnf)))
   refine⟨j+1,by dsimp only;omega,by dsimp only;omega, ?_⟩
   dsimp only
   rw [hfin]
   exact⟨by repeat' (first|exact trivial|exact rfl|refine And.intro ?_ ?_),by repeat' (first|exact trivial|exact rfl|refine And.intro ?_ ?_)⟩
 ·have hjl:j=l.length:=by omega
  subst hjl
  rw [List.take_length]
  ((conv=>whnf);repeat ((first|(intro hq;try simp only [lnS]at hq)|refine sI ?_|refine .intro _ (.intro rfl ?_));(conv=>whnf)))
  exact rfl
theorem yM (a:Al):WrT 44 [.d (.agg (alR a))] (wAl a):=by
 intro p hp
 unfold wAl at hp |-
 obtain⟨nm,d1,ax,d2,ix,ps,pt⟩:=a
 obtain⟨yl,hy⟩:=d1
 obtain⟨zl,hz⟩:=d2
 dsimp only at hp |-
 have hw1:=nJ ⟨yl,hy⟩
 have hl1:(mX ⟨yl,hy⟩).length=32:=hy
 generalize hD:mX ⟨yl,hy⟩=D at *
 obtain⟨y0,y1,y2,y3,y4,y5,y6,y7,y8,y9,y10,y11,y12,y13,y14,y15,y16,y17,y18,y19,y20,y21,y22,y23,y24,y25,y26,y27,y28,y29,y30,y31,rfl⟩:=fM hy
 clear hD
 have hw2:=nJ ⟨zl,hz⟩
 have hl2:(mX ⟨zl,hz⟩).length=32:=hz
 generalize hE:mX ⟨zl,hz⟩=E at *
 obtain⟨z0,z1,z2,z3,z4,z5,z6,z7,z8,z9,z10,z11,z12,z13,z14,z15,z16,z17,z18,z19,z20,z21,z22,z23,z24,z25,z26,z27,z28,z29,z30,z31,rfl⟩:=fM hz
 clear hE
 simp only [List.length_append,cQ,hl1,hl2]at hp
 refine aI false [] hty Tryz.func44 rfl (kp [0,1,3]) 100 (by simp [Tryz.f44]) ?_
 ((conv=>whnf);repeat ((first|(intro hq;try simp only [lnS]at hq)|refine sI ?_|refine .intro _ (.intro rfl ?_));(conv=>whnf)))
 refine WrT.call (eJ nm) rfl p (by omega) (by decide) rfl rfl ?_
 ((conv=>whnf);repeat ((first|(intro hq;try simp only [lnS]at hq)|refine sI ?_|refine .intro _ (.intro rfl ?_));(conv=>whnf)))
 refine WrT.call hw1 rfl _ (by simp only [List.length_append];omega) (by decide) rfl rfl ?_
 ((conv=>whnf);repeat ((first|(intro hq;try simp only [lnS]at hq)|refine sI ?_|refine .intro _ (.intro rfl ?_));(conv=>whnf)))
 refine WrT.call (yL ax) rfl _ (by simp only [List.length_append];omega) (by decide) rfl rfl ?_
 ((conv=>whnf);repeat ((first|(intro hq;try simp only [lnS]at hq)|refine sI ?_|refine .intro _ (.intro rfl ?_));(conv=>whnf)))
 refine WrT.call hw2 rfl _ (by simp only [List.length_append];omega) (by decide) rfl rfl ?_
 ((conv=>whnf);repeat ((first|(intro hq;try simp only [lnS]at hq)|refine sI ?_|refine .intro _ (.intro rfl ?_));(conv=>whnf)))
 refine WrT.call (fP ix) rfl _ (by simp only [List.length_append,aT];omega) (by decide) rfl rfl ?_
 ((conv=>whnf);repeat ((first|(intro hq;try simp only [lnS]at hq)|refine sI ?_|refine .intro _ (.intro rfl ?_));(conv=>whnf)))
 refine WrT.call (uL ps) rfl _ (by simp only [List.length_append,aT];omega) (by decide) rfl rfl ?_
 ((conv=>whnf);repeat ((first|(intro hq;try simp only [lnS]at hq)|refine sI ?_|refine .intro _ (.intro rfl ?_));(conv=>whnf)))
 refine WrT.call (uL pt) rfl _ (by simp only [List.length_append,aT];omega) (by decide) rfl rfl ?_
 unfold gN
 simp only [fD]
 ((conv=>whnf);repeat ((first|(intro hq;try simp only [lnS]at hq)|refine sI ?_|refine .intro _ (.intro rfl ?_));(conv=>whnf)))
 exact rfl
end Go.Proofs.YtleihcnongldbaaGreatDoor
