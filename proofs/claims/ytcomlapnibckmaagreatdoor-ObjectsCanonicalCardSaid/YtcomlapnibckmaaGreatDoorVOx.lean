/-
  Objects: the writer writes axioms, commits, queries and alignments.
  Conditions: none.
-/
import Derived.Test.YtcomlapnibckmaaGreatDoorVSyd
import Derived.Test.YtcomlapnibckmaaGreatDoorVOt
set_option linter.unnecessarySimpa false
set_option linter.unusedSectionVars false
set_option linter.unusedSimpArgs false
set_option linter.unusedVariables false
set_option maxHeartbeats 16000000
namespace Go.Proofs.YtcomlapnibckmaaGreatDoor
open Go.Proofs Go.RowKit
set_option maxRecDepth 10000
attribute [local irreducible] aN aH Tri aF YVC cM bB
theorem eT (o:Bool):(wB o).length=1:=by unfold wB;exact aP _
theorem aEw (x:Ax):1<=(wA x).length:=by unfold wA;rw [List.length_append,aP];omega
theorem dZ {p a b:List UInt8}:p++(a++b)=p++a++b:=(List.append_assoc ..).symm
theorem tH (l:List Ax):WrT 69 [.d (.sl 16 (l.map axR))] (wAs l):=by
 intro p hp
 unfold wAs at hp |-
 rw [cR]at hp
 have hn:=fG (Nat.le_refl 1) aEw l
 have hu:uN (l.length:Int)=l.length:=mS (by omega)
 have hlr:(l.map axR).length=l.length:=List.length_map ..
 refine aI false [] hty Tryz.func69 rfl (kp [0,1,5,6,11,12,13,14,18]) 100 (by simp [Tryz.f69]) ?_
 ((conv=>whnf);repeat ((first|(intro hq;try simp only [lnS]at hq)|refine sI ?_|refine .intro _ (.intro rfl ?_));(conv=>whnf)))
 rw [hlr]
 refine WrT.call (fN l.length) rfl p (by rw [aT];omega) (by decide) rfl rfl ?_
 rw [hu]
 have hqq:(p++beN 4 l.length).length=p.length+4:=by rw [List.length_append,aT]
 have hfin:p++bP wA l=p++beN 4 l.length++(l.map wA).flatten:=by unfold bP;rw [dZ]
 rw [hfin]
 clear hfin
 generalize p++beN 4 l.length=q at *
 ((conv=>whnf);repeat ((first|(intro hq;try simp only [lnS]at hq)|refine sI ?_|refine .intro _ (.intro rfl ?_));(conv=>whnf)))
 rw [hlr]
 refine aQ hty (λj:Nat=>([(0, .ptr 3 0),(11, .d (.sl 16 (l.map axR))),(12, .d (.int .i64 l.length)),(13, .d (.int .i64 j))],[(3,wrC 4 (q++((l.take j).map wA).flatten)),(4,wrB (q++((l.take j).map wA).flatten))])) (λj=>j<=l.length) (λj=>l.length - j) 0 (by omega) ⟨by repeat' (first|exact trivial|exact rfl|refine And.intro ?_ ?_),by rw [List.take_zero,List.map_nil,List.flatten_nil,List.append_nil];exact⟨rfl,rfl,trivial⟩⟩ ?_
 intro j hj
 ((conv=>whnf);repeat ((first|(intro hq;try simp only [lnS]at hq)|refine sI ?_|refine .intro _ (.intro rfl ?_));(conv=>whnf)))
 refine aB (λh1=> ?_) (λh1=> ?_)
 ·have hjl:j < l.length:=by omega
  have hrow:(l.map axR)[((j:Nat):Int).toNat]? =some (axR l[j]):=bH hjl
  have hnx:=fF (w:=wA) hjl
  have hle:=lB (w:=wA) l (j+1)
  rw [hnx,List.length_append]at hle
  have hla:(wA l[j]).length=1+(1+((wC l[j].left).length+((wC l[j].right).length+((bP dO l[j].roles).length+((dO l[j].role).length+((dO l[j].a).length+(dO l[j].b).length)))))):=by
   unfold wA;simp only [List.length_append,aP,eT]
  have hle':=qC l[j].left
  have hri':=qC l[j].right
  rw [bO]at hle' hri'
  generalize l[j]=x at *
  obtain⟨kd,op,le,ri,rs,s1,s2,s3⟩:=x
  dsimp only at hla hle' hri'
  ((conv=>whnf);repeat ((first|(refine⟨_,hrow, ?_⟩)|(intro hq;try simp only [lnS]at hq)|refine sI ?_|refine .intro _ (.intro rfl ?_));(conv=>whnf)))
  cases op
  ·have hB:WrT 89 [.d (.int .i64 0)] (wB false):=iQ 0
   ((conv=>whnf);repeat ((first|(intro hq;try simp only [lnS]at hq)|refine sI ?_|refine .intro _ (.intro rfl ?_));(conv=>whnf)))
   refine WrT.call (iQ kd) rfl _ (by simp only [List.length_append,aP];omega) (by decide) rfl rfl ?_
   ((conv=>whnf);repeat ((first|(intro hq;try simp only [lnS]at hq)|refine sI ?_|refine .intro _ (.intro rfl ?_));(conv=>whnf)))
   refine WrT.call hB rfl _ (by simp only [List.length_append,aP,eT];omega) (by decide) rfl rfl ?_
   ((conv=>whnf);repeat ((first|(intro hq;try simp only [lnS]at hq)|refine sI ?_|refine .intro _ (.intro rfl ?_));(conv=>whnf)))
   refine WrT.call hle' rfl _ (by simp only [List.length_append,aP,eT];omega) (by decide) rfl rfl ?_
   ((conv=>whnf);repeat ((first|(intro hq;try simp only [lnS]at hq)|refine sI ?_|refine .intro _ (.intro rfl ?_));(conv=>whnf)))
   refine WrT.call hri' rfl _ (by simp only [List.length_append,aP,eT];omega) (by decide) rfl rfl ?_
   ((conv=>whnf);repeat ((first|(intro hq;try simp only [lnS]at hq)|refine sI ?_|refine .intro _ (.intro rfl ?_));(conv=>whnf)))
   refine WrT.call (rI rs) rfl _ (by simp only [List.length_append,aP,eT];omega) (by decide) rfl rfl ?_
   ((conv=>whnf);repeat ((first|(intro hq;try simp only [lnS]at hq)|refine sI ?_|refine .intro _ (.intro rfl ?_));(conv=>whnf)))
   refine WrT.call (dN s1) rfl _ (by simp only [List.length_append,aP,eT];omega) (by decide) rfl rfl ?_
   ((conv=>whnf);repeat ((first|(intro hq;try simp only [lnS]at hq)|refine sI ?_|refine .intro _ (.intro rfl ?_));(conv=>whnf)))
   refine WrT.call (dN s2) rfl _ (by simp only [List.length_append,aP,eT];omega) (by decide) rfl rfl ?_
   ((conv=>whnf);repeat ((first|(intro hq;try simp only [lnS]at hq)|refine sI ?_|refine .intro _ (.intro rfl ?_));(conv=>whnf)))
   refine WrT.call (dN s3) rfl _ (by simp only [List.length_append,aP,eT];omega) (by decide) rfl rfl ?_
   ((conv=>whnf);repeat ((first|(intro hq;try simp only [lnS]at hq)|refine sI ?_|refine .intro _ (.intro rfl ?_));(conv=>whnf)))
   refine⟨j+1,by dsimp only;omega,by dsimp only;omega, ?_⟩
   dsimp only
   rw [hnx]
   unfold wA
   simp only [dZ]
   exact⟨by repeat' (first|exact trivial|exact rfl|refine And.intro ?_ ?_),by repeat' (first|exact trivial|exact rfl|refine And.intro ?_ ?_)⟩
  ·have hB:WrT 89 [.d (.int .i64 1)] (wB true):=iQ 1
   ((conv=>whnf);repeat ((first|(intro hq;try simp only [lnS]at hq)|refine sI ?_|refine .intro _ (.intro rfl ?_));(conv=>whnf)))
   refine WrT.call (iQ kd) rfl _ (by simp only [List.length_append,aP];omega) (by decide) rfl rfl ?_
   ((conv=>whnf);repeat ((first|(intro hq;try simp only [lnS]at hq)|refine sI ?_|refine .intro _ (.intro rfl ?_));(conv=>whnf)))
   refine WrT.call hB rfl _ (by simp only [List.length_append,aP,eT];omega) (by decide) rfl rfl ?_
   ((conv=>whnf);repeat ((first|(intro hq;try simp only [lnS]at hq)|refine sI ?_|refine .intro _ (.intro rfl ?_));(conv=>whnf)))
   refine WrT.call hle' rfl _ (by simp only [List.length_append,aP,eT];omega) (by decide) rfl rfl ?_
   ((conv=>whnf);repeat ((first|(intro hq;try simp only [lnS]at hq)|refine sI ?_|refine .intro _ (.intro rfl ?_));(conv=>whnf)))
   refine WrT.call hri' rfl _ (by simp only [List.length_append,aP,eT];omega) (by decide) rfl rfl ?_
   ((conv=>whnf);repeat ((first|(intro hq;try simp only [lnS]at hq)|refine sI ?_|refine .intro _ (.intro rfl ?_));(conv=>whnf)))
   refine WrT.call (rI rs) rfl _ (by simp only [List.length_append,aP,eT];omega) (by decide) rfl rfl ?_
   ((conv=>whnf);repeat ((first|(intro hq;try simp only [lnS]at hq)|refine sI ?_|refine .intro _ (.intro rfl ?_));(conv=>whnf)))
   refine WrT.call (dN s1) rfl _ (by simp only [List.length_append,aP,eT];omega) (by decide) rfl rfl ?_
   ((conv=>whnf);repeat ((first|(intro hq;try simp only [lnS]at hq)|refine sI ?_|refine .intro _ (.intro rfl ?_));(conv=>whnf)))
   refine WrT.call (dN s2) rfl _ (by simp only [List.length_append,aP,eT];omega) (by decide) rfl rfl ?_
   ((conv=>whnf);repeat ((first|(intro hq;try simp only [lnS]at hq)|refine sI ?_|refine .intro _ (.intro rfl ?_));(conv=>whnf)))
   refine WrT.call (dN s3) rfl _ (by simp only [List.length_append,aP,eT];omega) (by decide) rfl rfl ?_
   ((conv=>whnf);repeat ((first|(intro hq;try simp only [lnS]at hq)|refine sI ?_|refine .intro _ (.intro rfl ?_));(conv=>whnf)))
   refine⟨j+1,by dsimp only;omega,by dsimp only;omega, ?_⟩
   dsimp only
   rw [hnx]
   unfold wA
   simp only [dZ]
   exact⟨by repeat' (first|exact trivial|exact rfl|refine And.intro ?_ ?_),by repeat' (first|exact trivial|exact rfl|refine And.intro ?_ ?_)⟩
 ·have hjl:j=l.length:=by omega
  subst hjl
  rw [List.take_length]
  ((conv=>whnf);repeat ((first|(intro hq;try simp only [lnS]at hq)|refine sI ?_|refine .intro _ (.intro rfl ?_));(conv=>whnf)))
  exact rfl
theorem aA3 (c:Cm):WrT 55 [.d (.agg (cmR c))] (wCm c):=by
 intro p hp
 unfold wCm at hp |-
 obtain⟨no,l,dg,m⟩:=c
 obtain⟨xl,hx⟩:=dg
 dsimp only at hp |-
 have hwd:=lG ⟨xl,hx⟩
 have hld:(mJ ⟨xl,hx⟩).length=32:=hx
 generalize hD:mJ ⟨xl,hx⟩=D at *
 obtain⟨y0,y1,y2,y3,y4,y5,y6,y7,y8,y9,y10,y11,y12,y13,y14,y15,y16,y17,y18,y19,y20,y21,y22,y23,y24,y25,y26,y27,y28,y29,y30,y31,rfl⟩:=fK hx
 clear hD
 simp only [List.length_append,cK,cR,hld]at hp
 have hn:=fG (w:=gD) (Nat.le_refl 1) (λz=>by rw [cK];omega) l
 have hu:uN (l.length:Int)=l.length:=mS (by omega)
 have hlr:(l.map aA0).length=l.length:=List.length_map ..
 refine aI false [] hty Tryz.func55 rfl (kp [0,1,3,5,16,17,18,19]) 100 (by simp [Tryz.f55]) ?_
 ((conv=>whnf);repeat ((first|(intro hq;try simp only [lnS]at hq)|refine sI ?_|refine .intro _ (.intro rfl ?_));(conv=>whnf)))
 refine WrT.call (eP no) rfl p (by rw [aT];omega) (by decide) rfl rfl ?_
 ((conv=>whnf);repeat ((first|(intro hq;try simp only [lnS]at hq)|refine sI ?_|refine .intro _ (.intro rfl ?_));(conv=>whnf)))
 rw [hlr]
 refine WrT.call (fN l.length) rfl _ (by simp only [List.length_append,aT];omega) (by decide) rfl rfl ?_
 rw [hu]
 have hqq:(p++gD no++beN 4 l.length).length=p.length+(8+4):=by simp only [List.length_append,cK,aT]
 have hfin:p++(gD no++(bP gD l++(D++dO m)))=p++gD no++beN 4 l.length++(l.map gD).flatten++D++dO m:=by unfold bP;simp only [dZ]
 rw [hfin]
 clear hfin
 change dK _ _ (wrC 4 (p++gD no++beN 4 l.length)) λh=>dK h _ (wrB (p++gD no++beN 4 l.length)) _
 generalize p++gD no++beN 4 l.length=q at *
 ((conv=>whnf);repeat ((first|(intro hq;try simp only [lnS]at hq)|refine sI ?_|refine .intro _ (.intro rfl ?_));(conv=>whnf)))
 rw [hlr]
 refine aQ hty (λj:Nat=>([(0, .ptr 3 0),(3, .ptr 103 0),(16, .d (.sl 1 (l.map aA0))),(17, .d (.int .i64 l.length)),(18, .d (.int .i64 j))],[(3,wrC 4 (q++((l.take j).map gD).flatten)),(4,wrB (q++((l.take j).map gD).flatten)),(103, .cells 41 ((cmR ⟨no,l,⟨[y0,y1,y2,y3,y4,y5,y6,y7,y8,y9,y10,y11,y12,y13,y14,y15,y16,y17,y18,y19,y20,y21,y22,y23,y24,y25,y26,y27,y28,y29,y30,y31],rfl⟩,m⟩).map .d))])) (λj=>j<=l.length) (λj=>l.length - j) 0 (by omega) ⟨by repeat' (first|exact trivial|exact rfl|refine And.intro ?_ ?_),by rw [List.take_zero,List.map_nil,List.flatten_nil,List.append_nil];exact⟨rfl,rfl,rfl,trivial⟩⟩ ?_
 intro j hj
 ((conv=>whnf);repeat ((first|(intro hq;try simp only [lnS]at hq)|refine sI ?_|refine .intro _ (.intro rfl ?_));(conv=>whnf)))
 refine aB (λh1=> ?_) (λh1=> ?_)
 ·have hjl:j < l.length:=by omega
  have hrow:(l.map aA0)[((j:Nat):Int).toNat]? =some (aA0 l[j]):=bH hjl
  have hnx:=fF (w:=gD) hjl
  have hle:=lB (w:=gD) l (j+1)
  rw [hnx,List.length_append,cK]at hle
  ((conv=>whnf);repeat ((first|(refine⟨_,hrow, ?_⟩)|(intro hq;try simp only [lnS]at hq)|refine sI ?_|refine .intro _ (.intro rfl ?_));(conv=>whnf)))
  refine WrT.call (eP l[j]) rfl _ (by rw [List.length_append,aT];omega) (by decide) rfl rfl ?_
  ((conv=>whnf);repeat ((first|(intro hq;try simp only [lnS]at hq)|refine sI ?_|refine .intro _ (.intro rfl ?_));(conv=>whnf)))
  refine⟨j+1,by dsimp only;omega,by dsimp only;omega, ?_⟩
  dsimp only
  rw [hnx,<-List.append_assoc]
  exact⟨by repeat' (first|exact trivial|exact rfl|refine And.intro ?_ ?_),by repeat' (first|exact trivial|exact rfl|refine And.intro ?_ ?_)⟩
 ·have hjl:j=l.length:=by omega
  subst hjl
  rw [List.take_length]
  ((conv=>whnf);repeat ((first|(intro hq;try simp only [lnS]at hq)|refine sI ?_|refine .intro _ (.intro rfl ?_));(conv=>whnf)))
  refine WrT.call hwd rfl _ (by rw [List.length_append];omega) (by decide) rfl rfl ?_
  ((conv=>whnf);repeat ((first|(intro hq;try simp only [lnS]at hq)|refine sI ?_|refine .intro _ (.intro rfl ?_));(conv=>whnf)))
  refine WrT.call (dN m) rfl _ (by simp only [List.length_append];omega) (by decide) rfl rfl ?_
  ((conv=>whnf);repeat ((first|(intro hq;try simp only [lnS]at hq)|refine sI ?_|refine .intro _ (.intro rfl ?_));(conv=>whnf)))
  exact rfl
theorem aCf (a:At):1<=(wAt a).length:=by unfold wAt;rw [List.length_append,aP];omega
theorem aCe (p:List At):1<=(bP wAt p).length:=by rw [cR];omega
theorem aCb (y:Qy):WrT 41 [.d (.agg (qyR y))] (wQy y):=by
 intro p hp
 unfold wQy at hp |-
 obtain⟨tl,l⟩:=y
 dsimp only at hp |-
 simp only [List.length_append,cR (bP wAt)]at hp
 have hn:=fG (w:=bP wAt) (Nat.le_refl 1) aCe l
 have hu:uN (l.length:Int)=l.length:=mS (by omega)
 have hlr:(l.map bK).length=l.length:=List.length_map ..
 refine aI false [] hty Tryz.func41 rfl (kp [0,1,3,5,7,18,19,20,21,30,31,32,33]) 100 (by simp [Tryz.f41]) ?_
 ((conv=>whnf);repeat ((first|(intro hq;try simp only [lnS]at hq)|refine sI ?_|refine .intro _ (.intro rfl ?_));(conv=>whnf)))
 refine WrT.call (rI tl) rfl p (by omega) (by decide) rfl rfl ?_
 ((conv=>whnf);repeat ((first|(intro hq;try simp only [lnS]at hq)|refine sI ?_|refine .intro _ (.intro rfl ?_));(conv=>whnf)))
 rw [hlr]
 refine WrT.call (fN l.length) rfl _ (by simp only [List.length_append,aT];omega) (by decide) rfl rfl ?_
 rw [hu]
 have hqq:(p++bP dO tl++beN 4 l.length).length=p.length+((bP dO tl).length+4):=by simp only [List.length_append,aT];omega
 have hfin:p++(bP dO tl++bP (bP wAt) l)=p++bP dO tl++beN 4 l.length++(l.map (bP wAt)).flatten:=by
  rw [show bP (bP wAt) l=beN 4 l.length++(l.map (bP wAt)).flatten from rfl];simp only [dZ]
 rw [hfin]
 clear hfin
 change dK _ _ (wrC 4 (p++bP dO tl++beN 4 l.length)) λh=>dK h _ (wrB (p++bP dO tl++beN 4 l.length)) _
 generalize p++bP dO tl++beN 4 l.length=q at *
 ((conv=>whnf);repeat ((first|(intro hq;try simp only [lnS]at hq)|refine sI ?_|refine .intro _ (.intro rfl ?_));(conv=>whnf)))
 rw [hlr]
 refine aQ hty (λj:Nat=>([(0, .ptr 3 0),(18, .d (.sl 1 (l.map bK))),(19, .d (.int .i64 l.length)),(20, .d (.int .i64 j))],[(3,wrC 4 (q++((l.take j).map (bP wAt)).flatten)),(4,wrB (q++((l.take j).map (bP wAt)).flatten))])) (λj=>j<=l.length) (λj=>l.length - j) 0 (by omega) ⟨by repeat' (first|exact trivial|exact rfl|refine And.intro ?_ ?_),by rw [List.take_zero,List.map_nil,List.flatten_nil,List.append_nil];exact⟨rfl,rfl,trivial⟩⟩ ?_
 intro j hj
 ((conv=>whnf);repeat ((first|(intro hq;try simp only [lnS]at hq)|refine sI ?_|refine .intro _ (.intro rfl ?_));(conv=>whnf)))
 refine aB (λh1=> ?_) (λh1=> ?_)
 ·have hjl:j < l.length:=by omega
  have hrow:(l.map bK)[((j:Nat):Int).toNat]? =some (bK l[j]):=bH hjl
  have hnx:=fF (w:=bP wAt) hjl
  have hle:=lB (w:=bP wAt) l (j+1)
  rw [hnx,List.length_append,cR]at hle
  generalize l[j]=m at *
  have hnm:=fG (w:=wAt) (Nat.le_refl 1) aCf m
  have hum:uN (m.length:Int)=m.length:=mS (by omega)
  have hmr:(m.map atR).length=m.length:=List.length_map ..
  generalize ((l.take j).map (bP wAt)).flatten=u at *
  ((conv=>whnf);repeat ((first|(refine⟨_,hrow, ?_⟩)|(intro hq;try simp only [lnS]at hq)|refine sI ?_|refine .intro _ (.intro rfl ?_));(conv=>whnf)))
  rw [hmr]
  refine WrT.call (fN m.length) rfl _ (by simp only [List.length_append,aT];omega) (by decide) rfl rfl ?_
  rw [hum]
  have hvv:(q++u++beN 4 m.length).length=q.length+(u.length+4):=by simp only [List.length_append,aT];omega
  have hfin:q++(u++bP wAt m)=q++u++beN 4 m.length++(m.map wAt).flatten:=by unfold bP;simp only [dZ]
  rw [<-hnx]at hfin
  change dK _ _ (wrC 4 (q++u++beN 4 m.length)) λh=>dK h _ (wrB (q++u++beN 4 m.length)) _
  generalize q++u++beN 4 m.length=v at *
  ((conv=>whnf);repeat ((first|(intro hq;try simp only [lnS]at hq)|refine sI ?_|refine .intro _ (.intro rfl ?_));(conv=>whnf)))
  rw [hmr]
  refine aQ hty (λk:Nat=>([(0, .ptr 3 0),(18, .d (.sl 1 (l.map bK))),(19, .d (.int .i64 l.length)),(20, .d (.int .i64 j)),(30, .d (.sl 6 (m.map atR))),(31, .d (.int .i64 m.length)),(32, .d (.int .i64 k))],[(3,wrC 4 (v++((m.take k).map wAt).flatten)),(4,wrB (v++((m.take k).map wAt).flatten))])) (λk=>k<=m.length) (λk=>m.length - k) 0 (by omega) ⟨by repeat' (first|exact trivial|exact rfl|refine And.intro ?_ ?_),by rw [List.take_zero,List.map_nil,List.flatten_nil,List.append_nil];exact⟨rfl,rfl,trivial⟩⟩ ?_
  intro k hk
  ((conv=>whnf);repeat ((first|(intro hq;try simp only [lnS]at hq)|refine sI ?_|refine .intro _ (.intro rfl ?_));(conv=>whnf)))
  refine aB (λh2=> ?_) (λh2=> ?_)
  ·have hkl:k < m.length:=by omega
   have hrow2:(m.map atR)[((k:Nat):Int).toNat]? =some (atR m[k]):=bH hkl
   have hnx2:=fF (w:=wAt) hkl
   have hle2:=lB (w:=wAt) m (k+1)
   rw [hnx2,List.length_append]at hle2
   have hla:(wAt m[k]).length=1+((dO m[k].name).length+((dO m[k].x).length+((dO m[k].y).length+(8+8)))):=by
    unfold wAt;simp only [List.length_append,aP,cK]
   generalize m[k]=x at *
   obtain⟨kd,s1,s2,s3,lo,hi⟩:=x
   dsimp only at hla
   ((conv=>whnf);repeat ((first|(refine⟨_,hrow2, ?_⟩)|(intro hq;try simp only [lnS]at hq)|refine sI ?_|refine .intro _ (.intro rfl ?_));(conv=>whnf)))
   refine WrT.call (iQ kd) rfl _ (by simp only [List.length_append,aP];omega) (by decide) rfl rfl ?_
   ((conv=>whnf);repeat ((first|(intro hq;try simp only [lnS]at hq)|refine sI ?_|refine .intro _ (.intro rfl ?_));(conv=>whnf)))
   refine WrT.call (dN s1) rfl _ (by simp only [List.length_append,aP];omega) (by decide) rfl rfl ?_
   ((conv=>whnf);repeat ((first|(intro hq;try simp only [lnS]at hq)|refine sI ?_|refine .intro _ (.intro rfl ?_));(conv=>whnf)))
   refine WrT.call (dN s2) rfl _ (by simp only [List.length_append,aP];omega) (by decide) rfl rfl ?_
   ((conv=>whnf);repeat ((first|(intro hq;try simp only [lnS]at hq)|refine sI ?_|refine .intro _ (.intro rfl ?_));(conv=>whnf)))
   refine WrT.call (dN s3) rfl _ (by simp only [List.length_append,aP];omega) (by decide) rfl rfl ?_
   ((conv=>whnf);repeat ((first|(intro hq;try simp only [lnS]at hq)|refine sI ?_|refine .intro _ (.intro rfl ?_));(conv=>whnf)))
   refine WrT.call (eP lo) rfl _ (by simp only [List.length_append,aP,aT];omega) (by decide) rfl rfl ?_
   ((conv=>whnf);repeat ((first|(intro hq;try simp only [lnS]at hq)|refine sI ?_|refine .intro _ (.intro rfl ?_));(conv=>whnf)))
   refine WrT.call (eP hi) rfl _ (by simp only [List.length_append,aP,aT];omega) (by decide) rfl rfl ?_
   ((conv=>whnf);repeat ((first|(intro hq;try simp only [lnS]at hq)|refine sI ?_|refine .intro _ (.intro rfl ?_));(conv=>whnf)))
   refine⟨k+1,by dsimp only;omega,by dsimp only;omega, ?_⟩
   dsimp only
   rw [hnx2]
   unfold wAt gD
   simp only [dZ]
   exact⟨by repeat' (first|exact trivial|exact rfl|refine And.intro ?_ ?_),by repeat' (first|exact trivial|exact rfl|refine And.intro ?_ ?_)⟩
  ·have hkl:k=m.length:=by omega
   subst hkl
   rw [List.take_length]
   ((conv=>whnf);repeat ((first|(intro hq;try simp only [lnS]at hq)|refine sI ?_|refine .intro _ (.intro rfl ?_));(conv=>whnf)))
   refine⟨j+1,by dsimp only;omega,by dsimp only;omega, ?_⟩
   dsimp only
   rw [hfin]
   exact⟨by repeat' (first|exact trivial|exact rfl|refine And.intro ?_ ?_),by repeat' (first|exact trivial|exact rfl|refine And.intro ?_ ?_)⟩
 ·have hjl:j=l.length:=by omega
  subst hjl
  rw [List.take_length]
  ((conv=>whnf);repeat ((first|(intro hq;try simp only [lnS]at hq)|refine sI ?_|refine .intro _ (.intro rfl ?_));(conv=>whnf)))
  exact rfl
theorem tK (a:Al):WrT 60 [.d (.agg (alR a))] (wAl a):=by
 intro p hp
 unfold wAl at hp |-
 obtain⟨nm,d1,ax,d2,ix,ps,pt⟩:=a
 obtain⟨yl,hy⟩:=d1
 obtain⟨zl,hz⟩:=d2
 dsimp only at hp |-
 have hw1:=lG ⟨yl,hy⟩
 have hl1:(mJ ⟨yl,hy⟩).length=32:=hy
 generalize hD:mJ ⟨yl,hy⟩=D at *
 obtain⟨y0,y1,y2,y3,y4,y5,y6,y7,y8,y9,y10,y11,y12,y13,y14,y15,y16,y17,y18,y19,y20,y21,y22,y23,y24,y25,y26,y27,y28,y29,y30,y31,rfl⟩:=fK hy
 clear hD
 have hw2:=lG ⟨zl,hz⟩
 have hl2:(mJ ⟨zl,hz⟩).length=32:=hz
 generalize hE:mJ ⟨zl,hz⟩=E at *
 obtain⟨z0,z1,z2,z3,z4,z5,z6,z7,z8,z9,z10,z11,z12,z13,z14,z15,z16,z17,z18,z19,z20,z21,z22,z23,z24,z25,z26,z27,z28,z29,z30,z31,rfl⟩:=fK hz
 clear hE
 simp only [List.length_append,cK,hl1,hl2]at hp
 refine aI false [] hty Tryz.func60 rfl (kp [0,1,3]) 100 (by simp [Tryz.f60]) ?_
 ((conv=>whnf);repeat ((first|(intro hq;try simp only [lnS]at hq)|refine sI ?_|refine .intro _ (.intro rfl ?_));(conv=>whnf)))
 refine WrT.call (dN nm) rfl p (by omega) (by decide) rfl rfl ?_
 ((conv=>whnf);repeat ((first|(intro hq;try simp only [lnS]at hq)|refine sI ?_|refine .intro _ (.intro rfl ?_));(conv=>whnf)))
 refine WrT.call hw1 rfl _ (by simp only [List.length_append];omega) (by decide) rfl rfl ?_
 ((conv=>whnf);repeat ((first|(intro hq;try simp only [lnS]at hq)|refine sI ?_|refine .intro _ (.intro rfl ?_));(conv=>whnf)))
 refine WrT.call (tH ax) rfl _ (by simp only [List.length_append];omega) (by decide) rfl rfl ?_
 ((conv=>whnf);repeat ((first|(intro hq;try simp only [lnS]at hq)|refine sI ?_|refine .intro _ (.intro rfl ?_));(conv=>whnf)))
 refine WrT.call hw2 rfl _ (by simp only [List.length_append];omega) (by decide) rfl rfl ?_
 ((conv=>whnf);repeat ((first|(intro hq;try simp only [lnS]at hq)|refine sI ?_|refine .intro _ (.intro rfl ?_));(conv=>whnf)))
 refine WrT.call (eP ix) rfl _ (by simp only [List.length_append,aT];omega) (by decide) rfl rfl ?_
 ((conv=>whnf);repeat ((first|(intro hq;try simp only [lnS]at hq)|refine sI ?_|refine .intro _ (.intro rfl ?_));(conv=>whnf)))
 refine WrT.call (qB ps) rfl _ (by simp only [List.length_append,aT];omega) (by decide) rfl rfl ?_
 ((conv=>whnf);repeat ((first|(intro hq;try simp only [lnS]at hq)|refine sI ?_|refine .intro _ (.intro rfl ?_));(conv=>whnf)))
 refine WrT.call (qB pt) rfl _ (by simp only [List.length_append,aT];omega) (by decide) rfl rfl ?_
 unfold gD
 simp only [dZ]
 ((conv=>whnf);repeat ((first|(intro hq;try simp only [lnS]at hq)|refine sI ?_|refine .intro _ (.intro rfl ?_));(conv=>whnf)))
 exact rfl
end Go.Proofs.YtcomlapnibckmaaGreatDoor
