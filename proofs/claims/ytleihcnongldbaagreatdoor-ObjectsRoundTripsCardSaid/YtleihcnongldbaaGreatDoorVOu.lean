/-
  Objects: the reader reads axioms, queries and alignments. Objects: the types that come in. Objects: queries and alignments that come in. Readers that do not stop: a flag says that something was wrong; plain. Objects: a writer's contract, over its own two objects alone; how it is used.
  Conditions: none.
-/
import Derived.Test.YtleihcnongldbaaGreatDoorVOs
import Derived.Test.YtleihcnongldbaaGreatDoorVSyi
import Derived.Test.YtleihcnongldbaaGreatDoorVOl
import Derived.Test.YtleihcnongldbaaGreatDoorVOn
import Derived.Test.YtleihcnongldbaaGreatDoorVSw
set_option linter.unnecessarySimpa false
set_option linter.unusedSectionVars false
set_option linter.unusedSimpArgs false
set_option linter.unusedVariables false
set_option maxHeartbeats 16000000
namespace Go.Proofs.YtleihcnongldbaaGreatDoor
open Go.Proofs Go.RowKit
set_option maxRecDepth 10000
attribute [local irreducible] aO aH Tri aG YVC cL bB
theorem aLm:RdT 96 [] (rA 9) (λx=> .d (.agg (axR x))):=by
 intro bs hb
 refine aI false [] hty Tryz.func96 rfl (kp [0,2]) 100 (by simp [Tryz.f96]) ?_
 ((conv=>whnf);repeat ((first|(intro hq;try simp only [lnS]at hq)|refine sI ?_|refine .intro _ (.intro rfl ?_));(conv=>whnf)))
 refine RdT.call xK rfl (λ_=>rfl) bs hb rfl (λkd b1 e1=> ?_) (λe1 b=>⟨aN e1,b,rfl⟩)
 have q1:=cO gU e1
 ((conv=>whnf);repeat ((first|(intro hq;try simp only [lnS]at hq)|refine sI ?_|refine .intro _ (.intro rfl ?_));(conv=>whnf)))
 refine RdT.call xK rfl (λ_=>rfl) b1 (by omega) rfl (λop b2 e2=> ?_) (λe2 b=>⟨bC e1 (aN (dF e2)),b,rfl⟩)
 have q2:=cO gU e2
 have e2:rB b1=some (decide (op=1),b2):=bH e2
 ((conv=>whnf);repeat ((first|(intro hq;try simp only [lnS]at hq)|refine sI ?_|refine .intro _ (.intro rfl ?_));(conv=>whnf)))
 refine RdT.call (tN 9 0 rfl) rfl (λ_=>rfl) b2 (by omega) rfl (λle b3 e3=> ?_) (λe3 b=>⟨bC e1 (bC e2 (aN e3)),b,rfl⟩)
 have q3:=cO (vO 9) e3
 rw [bG le]
 ((conv=>whnf);repeat ((first|(intro hq;try simp only [lnS]at hq)|refine sI ?_|refine .intro _ (.intro rfl ?_));(conv=>whnf)))
 refine RdT.call (tN 9 0 rfl) rfl (λ_=>rfl) b3 (by omega) rfl (λri b4 e4=> ?_) (λe4 b=>⟨bC e1 (bC e2 (bC e3 (aN e4))),b,rfl⟩)
 have q4:=cO (vO 9) e4
 rw [bG ri]
 ((conv=>whnf);repeat ((first|(intro hq;try simp only [lnS]at hq)|refine sI ?_|refine .intro _ (.intro rfl ?_));(conv=>whnf)))
 refine RdT.call zF rfl (λ_=>rfl) b4 (by omega) rfl (λrs b5 e5=> ?_) (λe5 b=>⟨bC e1 (bC e2 (bC e3 (bC e4 (aN e5)))),b,rfl⟩)
 have q5:=cO (fA cC) e5
 ((conv=>whnf);repeat ((first|(intro hq;try simp only [lnS]at hq)|refine sI ?_|refine .intro _ (.intro rfl ?_));(conv=>whnf)))
 refine RdT.call mS rfl (λ_=>rfl) b5 (by omega) rfl (λs1 b6 e6=> ?_) (λe6 b=>⟨bC e1 (bC e2 (bC e3 (bC e4 (bC e5 (aN e6))))),b,rfl⟩)
 have q6:=cO cC e6
 ((conv=>whnf);repeat ((first|(intro hq;try simp only [lnS]at hq)|refine sI ?_|refine .intro _ (.intro rfl ?_));(conv=>whnf)))
 refine RdT.call mS rfl (λ_=>rfl) b6 (by omega) rfl (λs2 b7 e7=> ?_) (λe7 b=>⟨bC e1 (bC e2 (bC e3 (bC e4 (bC e5 (bC e6 (aN e7)))))),b,rfl⟩)
 have q7:=cO cC e7
 ((conv=>whnf);repeat ((first|(intro hq;try simp only [lnS]at hq)|refine sI ?_|refine .intro _ (.intro rfl ?_));(conv=>whnf)))
 refine RdT.call mS rfl (λ_=>rfl) b7 (by omega) rfl (λs3 b8 e8=> ?_) (λe8 b=>⟨bC e1 (bC e2 (bC e3 (bC e4 (bC e5 (bC e6 (bC e7 (dF e8))))))),b,rfl⟩)
 ((conv=>whnf);repeat ((first|(intro hq;try simp only [lnS]at hq)|refine sI ?_|refine .intro _ (.intro rfl ?_));(conv=>whnf)))
 exact⟨⟨kd,_,le,ri,rs,s1,s2,s3⟩,b8,eY e1 (eY e2 (eY e3 (eY e4 (eY e5 (eY e6 (eY e7 (bH e8))))))),rfl,rfl⟩
theorem aIr (x:Ax):axR x=[.int .i64 x.kind, .bool x.isopen, .int .i64 x.left.kind, .str x.left.name, .int .i64 x.left.lo, .int .i64 x.left.hi, .sl 5 (x.left.parts.map cnR), .int .i64 x.right.kind, .str x.right.name, .int .i64 x.right.lo, .int .i64 x.right.hi, .sl 5 (x.right.parts.map cnR), .sl 1 (x.roles.map cE), .str x.role, .str x.a, .str x.b]:=rfl
theorem aI3:RdT 95 [.fn 96 [] []] (dG (rA 9)) (λl=> .d (.sl 16 (l.map axR))):=by
 intro bs hb
 refine aH.says ?_
 refine aI false [] hty Tryz.func95 rfl (kp [0,1,4,5,9]) 100 (by simp [Tryz.f95]) ?_
 ((conv=>whnf);repeat ((first|(intro hq;try simp only [lnS]at hq)|refine sI ?_|refine .intro _ (.intro rfl ?_));(conv=>whnf)))
 refine RdT.call (eK 4 (by decide)) rfl (λ_=>rfl) bs hb rfl (λN c0 e1=> ?_) (λe1 b=>⟨aN e1,b,rfl⟩)
 have hbind:dG (rA 9) bs=mF (rA 9) N c0:=aK e1
 have hc0:=cO (eD 4) e1
 have hN:=iP e1
 clear e1
 ((conv=>whnf);repeat ((first|(intro hq;try simp only [lnS]at hq)|refine sI ?_|refine .intro _ (.intro rfl ?_));(conv=>whnf)))
 refine aO.own 4 104 116 16 rfl (cI (by with_unfolding_all exact rfl)) ?_
 refine aL hty (λy:List Ax×List UInt8=>([(0, .ptr 3 0),(1, .fn 96 [] []),(4, .osl 104 16 (y.1.map axR)),(5, .d (.int .u64 ((N - y.1.length:Nat):Int)))],[(104, .own 116 16 (y.1.map axR).length),(3,rdO y.2)])) (λy=>mF (rA 9) y.1.length c0=some y/\y.1.length<=N/\y.2.length+y.1.length<=c0.length) (λy=>N - y.1.length) ([],c0) ⟨rfl,Nat.zero_le _,Nat.le_refl _⟩ ⟨by repeat' (first|exact trivial|exact rfl|refine And.intro ?_ ?_),by repeat' (first|exact trivial|exact rfl|refine And.intro ?_ ?_)⟩ ?_
 rintro⟨l,c⟩ ⟨h1,h2,h3⟩
 dsimp only at h1 h2 h3
 have hml:(l.map axR).length=l.length:=List.length_map ..
 have hb63:(l.map axR).length+1<=9223372036854775807:=by rw [hml];omega
 have hb48:((l.map axR).length+1)* 200<=140737488355328:=by rw [hml];omega
 ((conv=>whnf);repeat ((first|(intro hq;try simp only [lnS]at hq)|refine sI ?_|refine .intro _ (.intro rfl ?_));(conv=>whnf)))
 refine aB (λh4=> ?_) (λh4=> ?_)
 ·have hlt:l.length < N:=by dsimp only at h4;omega
  have hw:=aAr hlt hN
  refine RdT.call (e:= λx=>SV.d (.agg (axR x))) aLm rfl (λ_=>rfl) c (by omega) rfl (λx d e2=> ?_) (λe2 b=>⟨hbind.trans (fU h1 e2 hlt),b,rfl⟩)
  have hd:=cO (lQ (aJh 9) (Nat.le_refl _)) e2
  rw [aIr]
  ((conv=>whnf);repeat ((first|(refine And.intro hb63 ?_)|(refine And.intro hb48 ?_)|(intro hq;try simp only [lnS]at hq)|refine sI ?_|refine .intro _ (.intro rfl ?_));(conv=>whnf)))
  rw [hw]
  refine⟨(l++[_],d),⟨fV h1 e2,by rw [List.length_append];exact hlt,by dsimp only;rw [List.length_append,List.length_singleton];omega⟩,by dsimp only;rw [List.length_append,List.length_singleton];omega, ?_⟩
  dsimp only
  rw [List.map_append,List.length_append,List.length_append]
  exact⟨by repeat' (first|exact trivial|exact rfl|refine And.intro ?_ ?_),by repeat' (first|exact trivial|exact rfl|refine And.intro ?_ ?_)⟩
 ·have hlN:l.length=N:=by dsimp only at h4;omega
  subst hlN
  ((conv=>whnf);repeat ((first|(intro hq;try simp only [lnS]at hq)|refine sI ?_|refine .intro _ (.intro rfl ?_));(conv=>whnf)))
  exact⟨_,eG.osl,l,c,hbind.trans h1,rfl,rfl⟩
theorem aC4:RdT 57 [] (rAs 9) (λl=> .d (.sl 16 (l.map axR))):=by
 intro bs hb
 refine aI false [] hty Tryz.func57 rfl (kp [0,2]) 100 (by simp [Tryz.f57]) ?_
 ((conv=>whnf);repeat ((first|(intro hq;try simp only [lnS]at hq)|refine sI ?_|refine .intro _ (.intro rfl ?_));(conv=>whnf)))
 refine RdT.call aI3 rfl (λ_=>rfl) bs hb rfl (λl b1 e1=> ?_) (λe1 b=>⟨e1,b,rfl⟩)
 ((conv=>whnf);repeat ((first|(intro hq;try simp only [lnS]at hq)|refine sI ?_|refine .intro _ (.intro rfl ?_));(conv=>whnf)))
 exact⟨l,b1,e1,rfl,rfl⟩
def atR (a:At):List D:=[.int .i64 a.kind, .str a.name, .str a.x, .str a.y, .int .i64 a.lo, .int .i64 a.hi]
def bI (p:List At):List D:=[.sl 6 (p.map atR)]
theorem aNf:RdT 130 [] rAt (λa=> .d (.agg (atR a))):=by
 intro bs hb
 refine aI false [] hty Tryz.func130 rfl (kp [0,2]) 100 (by simp [Tryz.f130]) ?_
 ((conv=>whnf);repeat ((first|(intro hq;try simp only [lnS]at hq)|refine sI ?_|refine .intro _ (.intro rfl ?_));(conv=>whnf)))
 refine RdT.call xK rfl (λ_=>rfl) bs hb rfl (λkd b1 e1=> ?_) (λe1 b=>⟨aN e1,b,rfl⟩)
 have q1:=cO gU e1
 ((conv=>whnf);repeat ((first|(intro hq;try simp only [lnS]at hq)|refine sI ?_|refine .intro _ (.intro rfl ?_));(conv=>whnf)))
 refine RdT.call mS rfl (λ_=>rfl) b1 (by omega) rfl (λs1 b2 e2=> ?_) (λe2 b=>⟨bC e1 (aN e2),b,rfl⟩)
 have q2:=cO cC e2
 ((conv=>whnf);repeat ((first|(intro hq;try simp only [lnS]at hq)|refine sI ?_|refine .intro _ (.intro rfl ?_));(conv=>whnf)))
 refine RdT.call mS rfl (λ_=>rfl) b2 (by omega) rfl (λs2 b3 e3=> ?_) (λe3 b=>⟨bC e1 (bC e2 (aN e3)),b,rfl⟩)
 have q3:=cO cC e3
 ((conv=>whnf);repeat ((first|(intro hq;try simp only [lnS]at hq)|refine sI ?_|refine .intro _ (.intro rfl ?_));(conv=>whnf)))
 refine RdT.call mS rfl (λ_=>rfl) b3 (by omega) rfl (λs3 b4 e4=> ?_) (λe4 b=>⟨bC e1 (bC e2 (bC e3 (aN e4))),b,rfl⟩)
 have q4:=cO cC e4
 ((conv=>whnf);repeat ((first|(intro hq;try simp only [lnS]at hq)|refine sI ?_|refine .intro _ (.intro rfl ?_));(conv=>whnf)))
 refine RdT.call iU rfl (λ_=>rfl) b4 (by omega) rfl (λlo b5 e5=> ?_) (λe5 b=>⟨bC e1 (bC e2 (bC e3 (bC e4 (aN e5)))),b,rfl⟩)
 have q5:=cO eE e5
 ((conv=>whnf);repeat ((first|(intro hq;try simp only [lnS]at hq)|refine sI ?_|refine .intro _ (.intro rfl ?_));(conv=>whnf)))
 refine RdT.call iU rfl (λ_=>rfl) b5 (by omega) rfl (λhi b6 e6=> ?_) (λe6 b=>⟨bC e1 (bC e2 (bC e3 (bC e4 (bC e5 (dF e6))))),b,rfl⟩)
 ((conv=>whnf);repeat ((first|(intro hq;try simp only [lnS]at hq)|refine sI ?_|refine .intro _ (.intro rfl ?_));(conv=>whnf)))
 exact⟨⟨kd,s1,s2,s3,lo,hi⟩,b6,eY e1 (eY e2 (eY e3 (eY e4 (eY e5 (bH e6))))),rfl,rfl⟩
theorem aI4:RdT 129 [.fn 130 [] []] (dG rAt) (λl=> .d (.sl 6 (l.map atR))):=by
 intro bs hb
 refine aH.says ?_
 refine aI false [] hty Tryz.func129 rfl (kp [0,1,4,5,9]) 100 (by simp [Tryz.f129]) ?_
 ((conv=>whnf);repeat ((first|(intro hq;try simp only [lnS]at hq)|refine sI ?_|refine .intro _ (.intro rfl ?_));(conv=>whnf)))
 refine RdT.call (eK 4 (by decide)) rfl (λ_=>rfl) bs hb rfl (λN c0 e1=> ?_) (λe1 b=>⟨aN e1,b,rfl⟩)
 have hbind:dG rAt bs=mF rAt N c0:=aK e1
 have hc0:=cO (eD 4) e1
 have hN:=iP e1
 clear e1
 ((conv=>whnf);repeat ((first|(intro hq;try simp only [lnS]at hq)|refine sI ?_|refine .intro _ (.intro rfl ?_));(conv=>whnf)))
 refine aO.own 4 104 70 6 rfl (cI (by with_unfolding_all exact rfl)) ?_
 refine aL hty (λy:List At×List UInt8=>([(0, .ptr 3 0),(1, .fn 130 [] []),(4, .osl 104 6 (y.1.map atR)),(5, .d (.int .u64 ((N - y.1.length:Nat):Int)))],[(104, .own 70 6 (y.1.map atR).length),(3,rdO y.2)])) (λy=>mF rAt y.1.length c0=some y/\y.1.length<=N/\y.2.length+y.1.length<=c0.length) (λy=>N - y.1.length) ([],c0) ⟨rfl,Nat.zero_le _,Nat.le_refl _⟩ ⟨by repeat' (first|exact trivial|exact rfl|refine And.intro ?_ ?_),by repeat' (first|exact trivial|exact rfl|refine And.intro ?_ ?_)⟩ ?_
 rintro⟨l,c⟩ ⟨h1,h2,h3⟩
 dsimp only at h1 h2 h3
 have hml:(l.map atR).length=l.length:=List.length_map ..
 have hb63:(l.map atR).length+1<=9223372036854775807:=by rw [hml];omega
 have hb48:((l.map atR).length+1)* 72<=140737488355328:=by rw [hml];omega
 ((conv=>whnf);repeat ((first|(intro hq;try simp only [lnS]at hq)|refine sI ?_|refine .intro _ (.intro rfl ?_));(conv=>whnf)))
 refine aB (λh4=> ?_) (λh4=> ?_)
 ·have hlt:l.length < N:=by dsimp only at h4;omega
  have hw:=aAr hlt hN
  refine RdT.call (e:= λx=>SV.d (.agg (atR x))) aNf rfl (λ_=>rfl) c (by omega) rfl (λx d e2=> ?_) (λe2 b=>⟨hbind.trans (fU h1 e2 hlt),b,rfl⟩)
  have hd:=cO aFp e2
  ((conv=>whnf);repeat ((first|(refine And.intro hb63 ?_)|(refine And.intro hb48 ?_)|(intro hq;try simp only [lnS]at hq)|refine sI ?_|refine .intro _ (.intro rfl ?_));(conv=>whnf)))
  rw [hw]
  refine⟨(l++[_],d),⟨fV h1 e2,by rw [List.length_append];exact hlt,by dsimp only;rw [List.length_append,List.length_singleton];omega⟩,by dsimp only;rw [List.length_append,List.length_singleton];omega, ?_⟩
  dsimp only
  rw [List.map_append,List.length_append,List.length_append]
  exact⟨by repeat' (first|exact trivial|exact rfl|refine And.intro ?_ ?_),by repeat' (first|exact trivial|exact rfl|refine And.intro ?_ ?_)⟩
 ·have hlN:l.length=N:=by dsimp only at h4;omega
  subst hlN
  ((conv=>whnf);repeat ((first|(intro hq;try simp only [lnS]at hq)|refine sI ?_|refine .intro _ (.intro rfl ?_));(conv=>whnf)))
  exact⟨_,eG.osl,l,c,hbind.trans h1,rfl,rfl⟩
theorem aMn:RdT 82 [] (dG rAt) (λp=> .d (.agg (bI p))):=by
 intro bs hb
 refine aI false [] hty Tryz.func82 rfl (kp [0,2]) 100 (by simp [Tryz.f82]) ?_
 ((conv=>whnf);repeat ((first|(intro hq;try simp only [lnS]at hq)|refine sI ?_|refine .intro _ (.intro rfl ?_));(conv=>whnf)))
 refine RdT.call aI4 rfl (λ_=>rfl) bs hb rfl (λl b1 e1=> ?_) (λe1 b=>⟨e1,b,rfl⟩)
 ((conv=>whnf);repeat ((first|(intro hq;try simp only [lnS]at hq)|refine sI ?_|refine .intro _ (.intro rfl ?_));(conv=>whnf)))
 exact⟨l,b1,e1,rfl,rfl⟩
theorem aD6:RdT 81 [.fn 82 [] []] (dG (dG rAt)) (λl=> .d (.sl 1 (l.map bI))):=by
 intro bs hb
 refine aH.says ?_
 refine aI false [] hty Tryz.func81 rfl (kp [0,1,4,5,9]) 100 (by simp [Tryz.f81]) ?_
 ((conv=>whnf);repeat ((first|(intro hq;try simp only [lnS]at hq)|refine sI ?_|refine .intro _ (.intro rfl ?_));(conv=>whnf)))
 refine RdT.call (eK 4 (by decide)) rfl (λ_=>rfl) bs hb rfl (λN c0 e1=> ?_) (λe1 b=>⟨aN e1,b,rfl⟩)
 have hbind:dG (dG rAt) bs=mF (dG rAt) N c0:=aK e1
 have hc0:=cO (eD 4) e1
 have hN:=iP e1
 clear e1
 ((conv=>whnf);repeat ((first|(intro hq;try simp only [lnS]at hq)|refine sI ?_|refine .intro _ (.intro rfl ?_));(conv=>whnf)))
 refine aO.own 4 104 68 1 rfl (cI (by with_unfolding_all exact rfl)) ?_
 refine aL hty (λy:List (List At)×List UInt8=>([(0, .ptr 3 0),(1, .fn 82 [] []),(4, .osl 104 1 (y.1.map bI)),(5, .d (.int .u64 ((N - y.1.length:Nat):Int)))],[(104, .own 68 1 (y.1.map bI).length),(3,rdO y.2)])) (λy=>mF (dG rAt) y.1.length c0=some y/\y.1.length<=N/\y.2.length+y.1.length<=c0.length) (λy=>N - y.1.length) ([],c0) ⟨rfl,Nat.zero_le _,Nat.le_refl _⟩ ⟨by repeat' (first|exact trivial|exact rfl|refine And.intro ?_ ?_),by repeat' (first|exact trivial|exact rfl|refine And.intro ?_ ?_)⟩ ?_
 rintro⟨l,c⟩ ⟨h1,h2,h3⟩
 dsimp only at h1 h2 h3
 have hml:(l.map bI).length=l.length:=List.length_map ..
 have hb63:(l.map bI).length+1<=9223372036854775807:=by rw [hml];omega
 have hb48:((l.map bI).length+1)* 24<=140737488355328:=by rw [hml];omega
 ((conv=>whnf);repeat ((first|(intro hq;try simp only [lnS]at hq)|refine sI ?_|refine .intro _ (.intro rfl ?_));(conv=>whnf)))
 refine aB (λh4=> ?_) (λh4=> ?_)
 ·have hlt:l.length < N:=by dsimp only at h4;omega
  have hw:=aAr hlt hN
  refine RdT.call (e:= λx=>SV.d (.agg (bI x))) aMn rfl (λ_=>rfl) c (by omega) rfl (λx d e2=> ?_) (λe2 b=>⟨hbind.trans (fU h1 e2 hlt),b,rfl⟩)
  have hd:=cO (fA aFp) e2
  ((conv=>whnf);repeat ((first|(refine And.intro hb63 ?_)|(refine And.intro hb48 ?_)|(intro hq;try simp only [lnS]at hq)|refine sI ?_|refine .intro _ (.intro rfl ?_));(conv=>whnf)))
  rw [hw]
  refine⟨(l++[_],d),⟨fV h1 e2,by rw [List.length_append];exact hlt,by dsimp only;rw [List.length_append,List.length_singleton];omega⟩,by dsimp only;rw [List.length_append,List.length_singleton];omega, ?_⟩
  dsimp only
  rw [List.map_append,List.length_append,List.length_append]
  exact⟨by repeat' (first|exact trivial|exact rfl|refine And.intro ?_ ?_),by repeat' (first|exact trivial|exact rfl|refine And.intro ?_ ?_)⟩
 ·have hlN:l.length=N:=by dsimp only at h4;omega
  subst hlN
  ((conv=>whnf);repeat ((first|(intro hq;try simp only [lnS]at hq)|refine sI ?_|refine .intro _ (.intro rfl ?_));(conv=>whnf)))
  exact⟨_,eG.osl,l,c,hbind.trans h1,rfl,rfl⟩
def qyR (q:Qy):List D:=[.sl 1 (q.told.map cE), .sl 1 (q.parts.map bI)]
theorem aKw:RdT 36 [] rQy (λq=> .d (.agg (qyR q))):=by
 intro bs hb
 refine aI false [] hty Tryz.func36 rfl (kp [0,2]) 100 (by simp [Tryz.f36]) ?_
 ((conv=>whnf);repeat ((first|(intro hq;try simp only [lnS]at hq)|refine sI ?_|refine .intro _ (.intro rfl ?_));(conv=>whnf)))
 refine RdT.call zF rfl (λ_=>rfl) bs hb rfl (λl b1 e1=> ?_) (λe1 b=>⟨aN e1,b,rfl⟩)
 have q1:=cO (fA cC) e1
 ((conv=>whnf);repeat ((first|(intro hq;try simp only [lnS]at hq)|refine sI ?_|refine .intro _ (.intro rfl ?_));(conv=>whnf)))
 refine RdT.call aD6 rfl (λ_=>rfl) b1 (by omega) rfl (λp b2 e2=> ?_) (λe2 b=>⟨bC e1 (dF e2),b,rfl⟩)
 ((conv=>whnf);repeat ((first|(intro hq;try simp only [lnS]at hq)|refine sI ?_|refine .intro _ (.intro rfl ?_));(conv=>whnf)))
 exact⟨⟨l,p⟩,b2,eY e1 (bH e2),rfl,rfl⟩
def alR (a:Al):List D:=[.str a.name]++lS a.base++[.sl 16 (a.axioms.map axR)]++lS a.pub++[.int .i64 a.index, .sl 32 (a.parts.map lS), .sl 32 (a.path.map lS)]
theorem aB4:RdT 49 [] (rAl 9) (λa=> .d (.agg (alR a))):=by
 intro bs hb
 refine aI false [] hty Tryz.func49 rfl (kp [0,2]) 100 (by simp [Tryz.f49]) ?_
 ((conv=>whnf);repeat ((first|(intro hq;try simp only [lnS]at hq)|refine sI ?_|refine .intro _ (.intro rfl ?_));(conv=>whnf)))
 refine RdT.call mS rfl (λ_=>rfl) bs hb rfl (λs b1 e1=> ?_) (λe1 b=>⟨aN e1,b,rfl⟩)
 have q1:=cO cC e1
 ((conv=>whnf);repeat ((first|(intro hq;try simp only [lnS]at hq)|refine sI ?_|refine .intro _ (.intro rfl ?_));(conv=>whnf)))
 refine RdT.call rE rfl (λ_=>rfl) b1 (by omega) rfl (λd1 b2 e2=> ?_) (λe2 b=>⟨bC e1 (aN e2),b,rfl⟩)
 have q2:=cO oT e2
 obtain⟨xl,hx⟩:=d1
 obtain⟨y0,y1,y2,y3,y4,y5,y6,y7,y8,y9,y10,y11,y12,y13,y14,y15,y16,y17,y18,y19,y20,y21,y22,y23,y24,y25,y26,y27,y28,y29,y30,y31,rfl⟩:=fM hx
 ((conv=>whnf);repeat ((first|(intro hq;try simp only [lnS]at hq)|refine sI ?_|refine .intro _ (.intro rfl ?_));(conv=>whnf)))
 refine RdT.call aC4 rfl (λ_=>rfl) b2 (by omega) rfl (λax b3 e3=> ?_) (λe3 b=>⟨bC e1 (bC e2 (aN e3)),b,rfl⟩)
 have q3:=cO (fA (aJh 9)) e3
 ((conv=>whnf);repeat ((first|(intro hq;try simp only [lnS]at hq)|refine sI ?_|refine .intro _ (.intro rfl ?_));(conv=>whnf)))
 refine RdT.call rE rfl (λ_=>rfl) b3 (by omega) rfl (λd2 b4 e4=> ?_) (λe4 b=>⟨bC e1 (bC e2 (bC e3 (aN e4))),b,rfl⟩)
 have q4:=cO oT e4
 obtain⟨zl,hz⟩:=d2
 obtain⟨z0,z1,z2,z3,z4,z5,z6,z7,z8,z9,z10,z11,z12,z13,z14,z15,z16,z17,z18,z19,z20,z21,z22,z23,z24,z25,z26,z27,z28,z29,z30,z31,rfl⟩:=fM hz
 ((conv=>whnf);repeat ((first|(intro hq;try simp only [lnS]at hq)|refine sI ?_|refine .intro _ (.intro rfl ?_));(conv=>whnf)))
 refine RdT.call iU rfl (λ_=>rfl) b4 (by omega) rfl (λix b5 e5=> ?_) (λe5 b=>⟨bC e1 (bC e2 (bC e3 (bC e4 (aN e5)))),b,rfl⟩)
 have q5:=cO eE e5
 ((conv=>whnf);repeat ((first|(intro hq;try simp only [lnS]at hq)|refine sI ?_|refine .intro _ (.intro rfl ?_));(conv=>whnf)))
 refine RdT.call zG rfl (λ_=>rfl) b5 (by omega) rfl (λps b6 e6=> ?_) (λe6 b=>⟨bC e1 (bC e2 (bC e3 (bC e4 (bC e5 (aN e6))))),b,rfl⟩)
 have q6:=cO (fA oT) e6
 ((conv=>whnf);repeat ((first|(intro hq;try simp only [lnS]at hq)|refine sI ?_|refine .intro _ (.intro rfl ?_));(conv=>whnf)))
 refine RdT.call zG rfl (λ_=>rfl) b6 (by omega) rfl (λpt b7 e7=> ?_) (λe7 b=>⟨bC e1 (bC e2 (bC e3 (bC e4 (bC e5 (bC e6 (dF e7)))))),b,rfl⟩)
 ((conv=>whnf);repeat ((first|(intro hq;try simp only [lnS]at hq)|refine sI ?_|refine .intro _ (.intro rfl ?_));(conv=>whnf)))
 exact⟨⟨s,_,ax,_,ix,ps,pt⟩,b7,eY e1 (eY e2 (eY e3 (eY e4 (eY e5 (eY e6 (bH e7)))))),rfl,rfl⟩
end Go.Proofs.YtleihcnongldbaaGreatDoor
namespace Go.Proofs.YtleihcnongldbaaGreatDoor
open Go.Proofs Go.RowKit
set_option maxRecDepth 100000
theorem aOa:Tryz.prog.underlying 51=some (.slice 3):=by kernel_rfl
theorem aIy:Tryz.prog.underlying 26=some (.slice 5):=by kernel_rfl
theorem aM9:Tryz.prog.underlying 5=some (.int .u8):=by kernel_rfl
theorem aPz:Tryz.prog.underlying 38=some (.array 32 5):=by kernel_rfl
theorem aEd:qN Tryz.prog 53=some [3,51,38,9]:=by kernel_rfl
theorem aQ5:Tryz.prog.cellsOf 3=1:=by kernel_rfl
theorem aP3:Tryz.prog.cellsOf 5=1:=by kernel_rfl
def TX:List TypeId:=53::38::51::26::5::TT
theorem aGa {n:Nat}{ds:List D}(h:TyD Tryz.prog n 26 ds): ∃b:List UInt8,pB Tryz.prog 26 ds= .d (.sl 1 (b.map aV)):=by
 obtain⟨m,rfl,rows,rfl,hn,hr⟩:=dQ aIy h
 obtain⟨b,rfl⟩:=nB (f:=aV) (λr hr=>by obtain⟨c,rfl⟩:=aJ0 aM9 hr;exact⟨c,rfl⟩) rows hr
 exact⟨b,by simp only [pB,aIy,aP3]⟩
theorem rF {n:Nat}{ds:List D}(h:TyD Tryz.prog n 38 ds): ∃d:Dig,ds=lS d:=by
 obtain⟨m,rfl,h1⟩:=aEf aPz h
 obtain⟨f,rfl⟩:=aEe (λa ha=>aJ0 aM9 ha) 32 ds h1
 exact⟨⟨(List.range 32).map f,by simp⟩,by unfold lS;rw [List.map_map];rfl⟩
theorem aFu {n:Nat}{ds:List D}(h:TyD Tryz.prog n 51 ds): ∃w:List Int,ds=[.sl 1 (w.map xR)]:=by
 obtain⟨m,rfl,rows,rfl,hn,hr⟩:=dQ aOa h
 obtain⟨w,rfl⟩:=nB (f:=xR) (λr hr=>by obtain⟨z,rfl,_⟩:=fR u3 hr;exact⟨z,rfl⟩) rows hr
 exact⟨w,by rw [aQ5]⟩
theorem aDr {n:Nat}{ds:List D}(h:TyD Tryz.prog n 53 ds): ∃c:Cm,pB Tryz.prog 53 ds= .d (.agg (cmR c)):=by
 rw [wG aEd]
 obtain⟨m,rfl,a1,b1,rfl,h1,a2,b2,rfl,h2,a3,b3,rfl,h3,a4,b4,rfl,h4,rfl⟩:=dK aEd h
 obtain⟨z,rfl,_⟩:=fR u3 h1
 obtain⟨w,rfl⟩:=aFu h2
 obtain⟨d,rfl⟩:=rF h3
 obtain⟨s,rfl,_⟩:=cR u9 h4
 exact⟨⟨z,w,d,s⟩,by unfold cmR;simp⟩
end Go.Proofs.YtleihcnongldbaaGreatDoor
namespace Go.Proofs.YtleihcnongldbaaGreatDoor
open Go.Proofs Go.RowKit
set_option maxRecDepth 100000
theorem aIx:qN Tryz.prog 25=some [22,23]:=by kernel_rfl
theorem aO8:qN Tryz.prog 68=some [66]:=by kernel_rfl
theorem aOc:qN Tryz.prog 70=some [3,9,9,9,3,3]:=by kernel_rfl
theorem aM8:Tryz.prog.underlying 23=some (.slice 68):=by kernel_rfl
theorem aMb:Tryz.prog.underlying 66=some (.slice 70):=by kernel_rfl
theorem aIz:qN Tryz.prog 44=some [9,38,39,38,42]:=by kernel_rfl
theorem aPy:qN Tryz.prog 42=some [3,40,40]:=by kernel_rfl
theorem aOb:Tryz.prog.underlying 40=some (.slice 38):=by kernel_rfl
theorem aP2:Tryz.prog.cellsOf 68=1:=by kernel_rfl
theorem aP4:Tryz.prog.cellsOf 70=6:=by kernel_rfl
theorem aQ6:Tryz.prog.cellsOf 38=32:=by kernel_rfl
def TYY:List TypeId:=25::68::70::23::66::44::42::40::TX
theorem clY:Cl Tryz.prog (· ∈TYY):=aP1 (by kernel_rfl)
theorem aFv {n:Nat}{ds:List D}(h:TyD Tryz.prog n 70 ds): ∃a:At,ds=atR a:=by
 obtain⟨m,rfl,a1,b1,rfl,h1,a2,b2,rfl,h2,a3,b3,rfl,h3,a4,b4,rfl,h4,a5,b5,rfl,h5,a6,b6,rfl,h6,rfl⟩:=dK aOc h
 obtain⟨k,rfl,_⟩:=fR u3 h1
 obtain⟨s1,rfl,_⟩:=cR u9 h2
 obtain⟨s2,rfl,_⟩:=cR u9 h3
 obtain⟨s3,rfl,_⟩:=cR u9 h4
 obtain⟨lo,rfl,_⟩:=fR u3 h5
 obtain⟨hi,rfl,_⟩:=fR u3 h6
 exact⟨⟨k,s1,s2,s3,lo,hi⟩,rfl⟩
theorem aFt {n:Nat}{ds:List D}(h:TyD Tryz.prog n 68 ds): ∃p:List At,ds=bI p:=by
 obtain⟨m,rfl,a1,b1,rfl,h1,rfl⟩:=dK aO8 h
 obtain⟨m,rfl,rows,rfl,hn,hr⟩:=dQ aMb h1
 obtain⟨p,rfl⟩:=nB (f:=atR) (λr hr=>aFv hr) rows hr
 exact⟨p,by rw [aP4];rfl⟩
theorem aG9 {n:Nat}{ds:List D}(h:TyD Tryz.prog n 25 ds): ∃q:Qy,pB Tryz.prog 25 ds= .d (.agg (qyR q)):=by
 rw [wG aIx]
 obtain⟨m,rfl,a1,b1,rfl,h1,a2,b2,rfl,h2,rfl⟩:=dK aIx h
 obtain⟨told,rfl,_,_⟩:=qH h1
 obtain⟨m,rfl,rows,rfl,hn,hr⟩:=dQ aM8 h2
 obtain⟨ps,rfl⟩:=nB (f:=bI) (λr hr=>aFt hr) rows hr
 exact⟨⟨told,ps⟩,by rw [aP2];rfl⟩
theorem zT {n:Nat}{ds:List D}(h:TyD Tryz.prog n 40 ds): ∃l:List Dig,ds=[.sl 32 (l.map lS)]:=by
 obtain⟨m,rfl,rows,rfl,hn,hr⟩:=dQ aOb h
 obtain⟨l,rfl⟩:=nB (f:=lS) (λr hr=>rF hr) rows hr
 exact⟨l,by rw [aQ6]⟩
theorem aIg {n:Nat}{ds:List D}(h:TyD Tryz.prog n 39 ds): ∃l:List Ax,ds=[.sl 16 (l.map axR)]/\ ∀x∈l,SzAx x:=by
 obtain⟨m,rfl,rows,rfl,hn,hr⟩:=dQ aAa h
 obtain⟨l,rfl,hl⟩:=qV (f:=axR) (Q:=SzAx) (λr hr=>aNe hr) rows hr
 exact⟨l,by rw [aJm],hl⟩
theorem aNi {n:Nat}{ds:List D}(h:TyD Tryz.prog n 44 ds): ∃a:Al,pB Tryz.prog 44 ds= .d (.agg (alR a))/\(∀x∈a.axioms,SzAx x)/\InI a.index:=by
 rw [wG aIz]
 obtain⟨m,rfl,a1,b1,rfl,h1,a2,b2,rfl,h2,a3,b3,rfl,h3,a4,b4,rfl,h4,a5,b5,rfl,h5,rfl⟩:=dK aIz h
 obtain⟨s,rfl,_⟩:=cR u9 h1
 obtain⟨d1,rfl⟩:=rF h2
 obtain⟨l,rfl,hl⟩:=aIg h3
 obtain⟨d2,rfl⟩:=rF h4
 obtain⟨m,rfl,a6,b6,rfl,h6,a7,b7,rfl,h7,a8,b8,rfl,h8,rfl⟩:=dK aPy h5
 obtain⟨z,rfl,hz⟩:=fR u3 h6
 obtain⟨p,rfl⟩:=zT h7
 obtain⟨q,rfl⟩:=zT h8
 exact⟨⟨s,d1,l,d2,z,p,q⟩,by unfold alR;simp,hl,hz⟩
theorem aP8 {n:Nat}{ds:List D}(h:TyD Tryz.prog n 3 ds): ∃z,pB Tryz.prog 3 ds= .d (.int .i64 z):=by
 obtain⟨z,rfl,_⟩:=fR u3 h
 exact⟨z,by simp only [pB,u3]⟩
end Go.Proofs.YtleihcnongldbaaGreatDoor
namespace Go.Proofs.YtleihcnongldbaaGreatDoor
open Go.Proofs
abbrev RS:=List UInt8×Bool
abbrev Tr (α:Type):=RS->α×RS
section
variable {α β:Type}
def aPj (t:Tr α) (f:α->β):Tr β:= λs=>(f (t s).1,(t s).2)
def aKh (t:Tr α) (f:α->Tr β):Tr β:= λs=>f (t s).1 (t s).2
structure Sim (t:Tr α) (r:Rd α):Prop where
 bad: ∀b,(t (b,true)).2.2=true
 ok: ∀b x c,r b=some (x,c)->t (b,false)=(x,(c,false))
 no: ∀b,r b=none->(t (b,false)).2.2=true
theorem Sim.map {t:Tr α}{r:Rd α}(h:Sim t r) (f:α->β):Sim (aPj t f) (nW r f):=by
 refine⟨λb=>h.bad b,λb x c e=> ?_,λb e=> ?_⟩
 ·obtain⟨y,h1,rfl⟩:=nV e
  unfold aPj;rw [h.ok b y c h1]
 ·refine h.no b ?_
  unfold nW at e
  exact Option.map_eq_none_iff.1 e
theorem Sim.bind {t:Tr α}{r:Rd α}{f:α->Tr β}{g:α->Rd β}(h:Sim t r) (k: ∀x,Sim (f x) (g x)):Sim (aKh t f) (bZ r g):=by
 have kb: ∀x (s:RS),s.2=true->(f x s).2.2=true:=by
  rintro x ⟨b,d⟩ hs
  have hs:d=true:=hs
  subst hs
  exact(k x).bad b
 refine⟨λb=>kb _ _ (h.bad b),λb x c e=> ?_,λb e=> ?_⟩
 ·obtain⟨y,d,h1,h2⟩:=fW e
  unfold aKh;rw [h.ok b y d h1]
  exact(k y).ok d x c h2
 ·cases h1:r b with
  |none=>exact kb _ _ (h.no b h1)
  |some p=>
   obtain⟨y,d⟩:=p
   rw [aK h1]at e
   unfold aKh;rw [h.ok b y d h1]
   exact(k y).no d e
end
end Go.Proofs.YtleihcnongldbaaGreatDoor
namespace Go.Proofs.YtleihcnongldbaaGreatDoor
open Go.Proofs Go.RowKit
set_option maxRecDepth 10000
attribute [local irreducible] aO aH Tri aG YVC cL bB
theorem aOr {i j:Nat}{h1 hp:Hp}{x y o u o' u':HObj}(hij:i≠j) (hx:aQ hp i=some x) (hy:aQ hp j=some y) (ho:aQ h1 3=some o) (hu:aQ h1 4=some u) (hs:o.sim/\u.sim) (hr:¬ o.Rd/\¬ u.Rd) (hi:(∀k∈o.ids,k∈[3,4])/\ ∀k∈u.ids,k∈[3,4])
  (he:o.ren (λk=>if k=3 then i else j)=o') (he':u.ren (λk=>if k=3 then i else j)=u'):Left (λk=>if k=3 then i else j) [3,4] h1 hp (gI (gI hp i o') j u'):=by
 have hy':aQ (gI hp i o') j=some y:=by rw [bD o' hx,if_neg (Ne.symm hij)];exact hy
 refine⟨λk hk=> ?_,λk z hz=> ?_⟩
 ·have hk:k=3\/k=4:=by simpa using hk
  rcases hk with rfl|rfl
  ·refine⟨o,ho,hs.1,hr.1,hi.1, ?_⟩
   show aQ (gI (gI hp i o') j u') i=_
   rw [bD u' hy',if_neg hij,bD o' hx,if_pos rfl,he]
  ·refine⟨u,hu,hs.2,hr.2,hi.2, ?_⟩
   show aQ (gI (gI hp i o') j u') j=_
   rw [bD u' hy',if_pos rfl,he']
 ·rw [bD u' hy']at hz
  split at hz
  ·rename_i e;exact .inl ⟨4,by simp,by rw [e];rfl⟩
  ·rw [bD o' hx]at hz
   split at hz
   ·rename_i e;exact .inl ⟨3,by simp,by rw [e];rfl⟩
   ·exact .inr hz
theorem aNj {i j:Nat}{hp:Hp}{x y o u:HObj}(hij:i≠j) (hx:aQ hp i=some x) (hy:aQ hp j=some y) (he:o.ren (λk=>if k=3 then i else j)=x) (he':u.ren (λk=>if k=3 then i else j)=y) (hs:o.sim/\u.sim):Among (λk=>if k=3 then i else j) [3,4] [(3,o),(4,u)] hp:=by
 have key: ∀k z,aQ [(3,o),(4,u)] k=some z->k=3/\z=o\/k=4/\z=u:=by
  intro k z h
  simp only [aQ]at h
  split at h
  ·rename_i e;injection h with h;exact .inl ⟨e.symm,h.symm⟩
  ·split at h
   ·rename_i e;injection h with h;exact .inr ⟨e.symm,h.symm⟩
   ·cases h
 refine⟨λk z h=> ?_,λk z k' z' h h' e=> ?_,λk hk=> ?_,λk z h=> ?_⟩
 ·rcases key k z h with⟨rfl,rfl⟩|⟨rfl,rfl⟩
  ·exact⟨by rw [he];exact hx,hs.1⟩
  ·exact⟨by rw [he'];exact hy,hs.2⟩
 ·rcases key k z h with⟨rfl,rfl⟩|⟨rfl,rfl⟩<;>rcases key k' z' h' with⟨rfl,rfl⟩|⟨rfl,rfl⟩
  ·rfl
  ·exact absurd e hij
  ·exact absurd e (Ne.symm hij)
  ·rfl
 ·have hk:k=3\/k=4:=by simpa using hk
  rcases hk with rfl|rfl
  ·exact⟨o,by simp [aQ]⟩
  ·exact⟨u,by simp [aQ]⟩
 ·rcases key k z h with⟨rfl,rfl⟩|⟨rfl,rfl⟩
  ·exact .inl (by simp)
  ·exact .inl (by simp)
abbrev wrC (j:Nat) (p:List UInt8):HObj:= .cells 73 [.osl j 1 (p.map aV)]
abbrev wrB (p:List UInt8):HObj:= .own 5 1 (p.map aV).length
abbrev aQ0:Pin:=⟨[3,4],λ_ _=>False,[]⟩
def WrT (f:FuncId) (ex:List SV) (out:List UInt8):Prop:= ∀p:List UInt8,p.length+out.length<=100000000000000->
 aH Tryz.prog aQ0 [] [(3,wrC 4 p),(4,wrB p)] f (.ptr 3 0::ex) (λs h=>s= .tup []/\aQ h 3=some (wrC 4 (p++out))/\aQ h 4=some (wrB (p++out)))
theorem WrT.call {f:FuncId}{ex:List SV}{out:List UInt8}(h:WrT f ex out) (hx:SV.idsL ex=[]) {pin:Pin}{fr:Fr}{hp:Hp}{i j:Nat}{K:SV->Hp->Prop}(p:List UInt8) (hb:p.length+out.length<=100000000000000) (hij:i≠j) (hg:aQ hp i=some (wrC j p)) (hg':aQ hp j=some (wrB p))
  (hok:eH hp i (wrC j (p++out)) λh=>eH h j (wrB (p++out)) (K (.tup []))):aH Tryz.prog pin fr hp f (.ptr i 0::ex) K:=by
 have hs: ∀(p:List UInt8),(wrC 4 p).sim:= λp s hs=>by simp at hs;subst hs;trivial
 have hi: ∀(p:List UInt8),∀k∈(wrC 4 p).ids,k∈[3,4]:= λp k hk=>by simp [HObj.ids,SV.idsL,SV.ids]at hk;simp [hk]
 refine nI (λk=>if k=3 then i else j) [3,4] [(3,wrC 4 p),(4,wrB p)] (h p hb) (aNj hij hg hg' rfl rfl ⟨hs p,trivial⟩) (λk hk=>hk) (by rw [List.map_cons,wT hx];rfl) ?_ ?_ ?_
 ·intro s hs
  rcases List.mem_cons.1 hs with rfl|hs
  ·trivial
  ·exact wR hx s hs
 ·rintro s h1 ⟨rfl,e2,e3⟩
  have hnone: ∀k∈SV.ids (SV.tup []),k∈[3,4]:=by
   intro k hk
   cases hk
  refine⟨rfl,hnone,_,aOr hij hg hg' e2 e3 ⟨hs _,trivial⟩ ⟨λh=>h,λh=>h⟩ ⟨hi _,λk hk=>by cases hk⟩ rfl rfl, ?_⟩
  rw [cU,cU]at hok
  exact hok
 ·exact λh1 h2=>h2.elim
end Go.Proofs.YtleihcnongldbaaGreatDoor
