/-
  Objects: the reader reads axioms, queries and alignments. Objects: the types that come in. Objects: queries and alignments that come in. Words of 32 bits: what the operations of ints of that kind are on them; plain. The hash of bytes, plainly: padding, blocks, the bytes of the state. The hash: rotations. The hash: a block.
  Conditions: none.
-/
import Derived.Test.YtbobcfjlbcgchaaGreatDoorVOs
import Derived.Test.YtbobcfjlbcgchaaGreatDoorVOb
import Derived.Test.YtbobcfjlbcgchaaGreatDoorVSf
import Derived.Test.YtbobcfjlbcgchaaGreatDoorVSna
import Derived.Test.YtbobcfjlbcgchaaGreatDoorVAk
import Derived.Test.YtbobcfjlbcgchaaGreatDoorVA1
set_option linter.unnecessarySimpa false
set_option linter.unusedSectionVars false
set_option linter.unusedSimpArgs false
set_option linter.unusedVariables false
set_option maxHeartbeats 32000000
namespace Go.Proofs.YtbobcfjlbcgchaaGreatDoor
open Go.Proofs Go.RowKit
set_option maxRecDepth 10000
attribute [local irreducible] aJ aF Tri aG YVC bS aQ
theorem aTx:RdT 55 [] (rA 9) (λx=> .d (.agg (axR x))):=by
 intro bs hb
 refine aI false [] hty Tryz.func55 rfl (kp [0,2]) 100 (by simp [Tryz.f55]) ?_
 ((conv=>whnf);repeat ((first|(intro hq;try simp only [lnS]at hq)|refine sI ?_|refine .intro _ (.intro rfl ?_));(conv=>whnf)))
 refine RdT.call aB8 rfl (λ_=>rfl) bs hb rfl (λkd b1 e1=> ?_) (λe1 b=>⟨aW e1,b,rfl⟩)
 have q1:=fP jA e1
 ((conv=>whnf);repeat ((first|(intro hq;try simp only [lnS]at hq)|refine sI ?_|refine .intro _ (.intro rfl ?_));(conv=>whnf)))
 refine RdT.call aB8 rfl (λ_=>rfl) b1 (by omega) rfl (λop b2 e2=> ?_) (λe2 b=>⟨cI e1 (aW (gD e2)),b,rfl⟩)
 have q2:=fP jA e2
 have e2:rB b1=some (decide (op=1),b2):=gC e2
 ((conv=>whnf);repeat ((first|(intro hq;try simp only [lnS]at hq)|refine sI ?_|refine .intro _ (.intro rfl ?_));(conv=>whnf)))
 refine RdT.call (xQ 9 0 rfl) rfl (λ_=>rfl) b2 (by omega) rfl (λle b3 e3=> ?_) (λe3 b=>⟨cI e1 (cI e2 (aW e3)),b,rfl⟩)
 have q3:=fP (aA4 9) e3
 rw [aT le]
 ((conv=>whnf);repeat ((first|(intro hq;try simp only [lnS]at hq)|refine sI ?_|refine .intro _ (.intro rfl ?_));(conv=>whnf)))
 refine RdT.call (xQ 9 0 rfl) rfl (λ_=>rfl) b3 (by omega) rfl (λri b4 e4=> ?_) (λe4 b=>⟨cI e1 (cI e2 (cI e3 (aW e4))),b,rfl⟩)
 have q4:=fP (aA4 9) e4
 rw [aT ri]
 ((conv=>whnf);repeat ((first|(intro hq;try simp only [lnS]at hq)|refine sI ?_|refine .intro _ (.intro rfl ?_));(conv=>whnf)))
 refine RdT.call aD2 rfl (λ_=>rfl) b4 (by omega) rfl (λrs b5 e5=> ?_) (λe5 b=>⟨cI e1 (cI e2 (cI e3 (cI e4 (aW e5)))),b,rfl⟩)
 have q5:=fP (mQ cZ) e5
 ((conv=>whnf);repeat ((first|(intro hq;try simp only [lnS]at hq)|refine sI ?_|refine .intro _ (.intro rfl ?_));(conv=>whnf)))
 refine RdT.call tB rfl (λ_=>rfl) b5 (by omega) rfl (λs1 b6 e6=> ?_) (λe6 b=>⟨cI e1 (cI e2 (cI e3 (cI e4 (cI e5 (aW e6))))),b,rfl⟩)
 have q6:=fP cZ e6
 ((conv=>whnf);repeat ((first|(intro hq;try simp only [lnS]at hq)|refine sI ?_|refine .intro _ (.intro rfl ?_));(conv=>whnf)))
 refine RdT.call tB rfl (λ_=>rfl) b6 (by omega) rfl (λs2 b7 e7=> ?_) (λe7 b=>⟨cI e1 (cI e2 (cI e3 (cI e4 (cI e5 (cI e6 (aW e7)))))),b,rfl⟩)
 have q7:=fP cZ e7
 ((conv=>whnf);repeat ((first|(intro hq;try simp only [lnS]at hq)|refine sI ?_|refine .intro _ (.intro rfl ?_));(conv=>whnf)))
 refine RdT.call tB rfl (λ_=>rfl) b7 (by omega) rfl (λs3 b8 e8=> ?_) (λe8 b=>⟨cI e1 (cI e2 (cI e3 (cI e4 (cI e5 (cI e6 (cI e7 (gD e8))))))),b,rfl⟩)
 ((conv=>whnf);repeat ((first|(intro hq;try simp only [lnS]at hq)|refine sI ?_|refine .intro _ (.intro rfl ?_));(conv=>whnf)))
 exact⟨⟨kd,_,le,ri,rs,s1,s2,s3⟩,b8,mC e1 (mC e2 (mC e3 (mC e4 (mC e5 (mC e6 (mC e7 (gC e8))))))),rfl,rfl⟩
theorem aR4 (x:Ax):axR x=[.int .i64 x.kind, .bool x.isopen, .int .i64 x.left.kind, .str x.left.name, .int .i64 x.left.lo, .int .i64 x.left.hi, .sl 5 (x.left.parts.map cnR), .int .i64 x.right.kind, .str x.right.name, .int .i64 x.right.lo, .int .i64 x.right.hi, .sl 5 (x.right.parts.map cnR), .sl 1 (x.roles.map eO), .str x.role, .str x.a, .str x.b]:=rfl
theorem aQh:RdT 54 [.fn 55 [] []] (iJ (rA 9)) (λl=> .d (.sl 16 (l.map axR))):=by
 intro bs hb
 refine aF.says ?_
 refine aI false [] hty Tryz.func54 rfl (kp [0,1,4,5,9]) 100 (by simp [Tryz.f54]) ?_
 ((conv=>whnf);repeat ((first|(intro hq;try simp only [lnS]at hq)|refine sI ?_|refine .intro _ (.intro rfl ?_));(conv=>whnf)))
 refine RdT.call (jL 4 (by decide)) rfl (λ_=>rfl) bs hb rfl (λN c0 e1=> ?_) (λe1 b=>⟨aW e1,b,rfl⟩)
 have hbind:iJ (rA 9) bs=sH (rA 9) N c0:=cY e1
 have hc0:=fP (gW 4) e1
 have hN:=qL e1
 clear e1
 ((conv=>whnf);repeat ((first|(intro hq;try simp only [lnS]at hq)|refine sI ?_|refine .intro _ (.intro rfl ?_));(conv=>whnf)))
 refine aJ.own 4 104 48 16 rfl (bY (by with_unfolding_all exact rfl)) ?_
 refine aK hty (λy:List Ax×List UInt8=>([(0, .ptr 3 0),(1, .fn 55 [] []),(4, .osl 104 16 (y.1.map axR)),(5, .d (.int .u64 ((N - y.1.length:Nat):Int)))],[(104, .own 48 16 (y.1.map axR).length),(3,rdO y.2)])) (λy=>sH (rA 9) y.1.length c0=some y/\y.1.length<=N/\y.2.length+y.1.length<=c0.length) (λy=>N - y.1.length) ([],c0) ⟨rfl,Nat.zero_le _,Nat.le_refl _⟩ ⟨by repeat' (first|exact trivial|exact rfl|refine And.intro ?_ ?_),by repeat' (first|exact trivial|exact rfl|refine And.intro ?_ ?_)⟩ ?_
 rintro⟨l,c⟩ ⟨h1,h2,h3⟩
 dsimp only at h1 h2 h3
 have hml:(l.map axR).length=l.length:=List.length_map ..
 have hb63:(l.map axR).length+1<=9223372036854775807:=by rw [hml];omega
 have hb48:((l.map axR).length+1)* 200<=140737488355328:=by rw [hml];omega
 ((conv=>whnf);repeat ((first|(intro hq;try simp only [lnS]at hq)|refine sI ?_|refine .intro _ (.intro rfl ?_));(conv=>whnf)))
 refine aA (λh4=> ?_) (λh4=> ?_)
 ·have hlt:l.length < N:=by dsimp only at h4;omega
  have hw:=aN5 hlt hN
  refine RdT.call (e:= λx=>SV.d (.agg (axR x))) aTx rfl (λ_=>rfl) c (by omega) rfl (λx d e2=> ?_) (λe2 b=>⟨hbind.trans (mA h1 e2 hlt),b,rfl⟩)
  have hd:=fP (mR (aVn 9) (Nat.le_refl _)) e2
  rw [aR4]
  ((conv=>whnf);repeat ((first|(refine And.intro hb63 ?_)|(refine And.intro hb48 ?_)|(intro hq;try simp only [lnS]at hq)|refine sI ?_|refine .intro _ (.intro rfl ?_));(conv=>whnf)))
  rw [hw]
  refine⟨(l++[_],d),⟨mB h1 e2,by rw [List.length_append];exact hlt,by dsimp only;rw [List.length_append,List.length_singleton];omega⟩,by dsimp only;rw [List.length_append,List.length_singleton];omega, ?_⟩
  dsimp only
  rw [List.map_append,List.length_append,List.length_append]
  exact⟨by repeat' (first|exact trivial|exact rfl|refine And.intro ?_ ?_),by repeat' (first|exact trivial|exact rfl|refine And.intro ?_ ?_)⟩
 ·have hlN:l.length=N:=by dsimp only at h4;omega
  subst hlN
  ((conv=>whnf);repeat ((first|(intro hq;try simp only [lnS]at hq)|refine sI ?_|refine .intro _ (.intro rfl ?_));(conv=>whnf)))
  exact⟨_,gR.osl,l,c,hbind.trans h1,rfl,rfl⟩
theorem aR3:RdT 25 [] (rAs 9) (λl=> .d (.sl 16 (l.map axR))):=by
 intro bs hb
 refine aI false [] hty Tryz.func25 rfl (kp [0,2]) 100 (by simp [Tryz.f25]) ?_
 ((conv=>whnf);repeat ((first|(intro hq;try simp only [lnS]at hq)|refine sI ?_|refine .intro _ (.intro rfl ?_));(conv=>whnf)))
 refine RdT.call aQh rfl (λ_=>rfl) bs hb rfl (λl b1 e1=> ?_) (λe1 b=>⟨e1,b,rfl⟩)
 ((conv=>whnf);repeat ((first|(intro hq;try simp only [lnS]at hq)|refine sI ?_|refine .intro _ (.intro rfl ?_));(conv=>whnf)))
 exact⟨l,b1,e1,rfl,rfl⟩
def atR (a:At):List D:=[.int .i64 a.kind, .str a.name, .str a.x, .str a.y, .int .i64 a.lo, .int .i64 a.hi]
def aB5 (p:List At):List D:=[.sl 6 (p.map atR)]
theorem aVz:RdT 136 [] rAt (λa=> .d (.agg (atR a))):=by
 intro bs hb
 refine aI false [] hty Tryz.func136 rfl (kp [0,2]) 100 (by simp [Tryz.f136]) ?_
 ((conv=>whnf);repeat ((first|(intro hq;try simp only [lnS]at hq)|refine sI ?_|refine .intro _ (.intro rfl ?_));(conv=>whnf)))
 refine RdT.call aB8 rfl (λ_=>rfl) bs hb rfl (λkd b1 e1=> ?_) (λe1 b=>⟨aW e1,b,rfl⟩)
 have q1:=fP jA e1
 ((conv=>whnf);repeat ((first|(intro hq;try simp only [lnS]at hq)|refine sI ?_|refine .intro _ (.intro rfl ?_));(conv=>whnf)))
 refine RdT.call tB rfl (λ_=>rfl) b1 (by omega) rfl (λs1 b2 e2=> ?_) (λe2 b=>⟨cI e1 (aW e2),b,rfl⟩)
 have q2:=fP cZ e2
 ((conv=>whnf);repeat ((first|(intro hq;try simp only [lnS]at hq)|refine sI ?_|refine .intro _ (.intro rfl ?_));(conv=>whnf)))
 refine RdT.call tB rfl (λ_=>rfl) b2 (by omega) rfl (λs2 b3 e3=> ?_) (λe3 b=>⟨cI e1 (cI e2 (aW e3)),b,rfl⟩)
 have q3:=fP cZ e3
 ((conv=>whnf);repeat ((first|(intro hq;try simp only [lnS]at hq)|refine sI ?_|refine .intro _ (.intro rfl ?_));(conv=>whnf)))
 refine RdT.call tB rfl (λ_=>rfl) b3 (by omega) rfl (λs3 b4 e4=> ?_) (λe4 b=>⟨cI e1 (cI e2 (cI e3 (aW e4))),b,rfl⟩)
 have q4:=fP cZ e4
 ((conv=>whnf);repeat ((first|(intro hq;try simp only [lnS]at hq)|refine sI ?_|refine .intro _ (.intro rfl ?_));(conv=>whnf)))
 refine RdT.call uK rfl (λ_=>rfl) b4 (by omega) rfl (λlo b5 e5=> ?_) (λe5 b=>⟨cI e1 (cI e2 (cI e3 (cI e4 (aW e5)))),b,rfl⟩)
 have q5:=fP kU e5
 ((conv=>whnf);repeat ((first|(intro hq;try simp only [lnS]at hq)|refine sI ?_|refine .intro _ (.intro rfl ?_));(conv=>whnf)))
 refine RdT.call uK rfl (λ_=>rfl) b5 (by omega) rfl (λhi b6 e6=> ?_) (λe6 b=>⟨cI e1 (cI e2 (cI e3 (cI e4 (cI e5 (gD e6))))),b,rfl⟩)
 ((conv=>whnf);repeat ((first|(intro hq;try simp only [lnS]at hq)|refine sI ?_|refine .intro _ (.intro rfl ?_));(conv=>whnf)))
 exact⟨⟨kd,s1,s2,s3,lo,hi⟩,b6,mC e1 (mC e2 (mC e3 (mC e4 (mC e5 (gC e6))))),rfl,rfl⟩
theorem aQi:RdT 135 [.fn 136 [] []] (iJ rAt) (λl=> .d (.sl 6 (l.map atR))):=by
 intro bs hb
 refine aF.says ?_
 refine aI false [] hty Tryz.func135 rfl (kp [0,1,4,5,9]) 100 (by simp [Tryz.f135]) ?_
 ((conv=>whnf);repeat ((first|(intro hq;try simp only [lnS]at hq)|refine sI ?_|refine .intro _ (.intro rfl ?_));(conv=>whnf)))
 refine RdT.call (jL 4 (by decide)) rfl (λ_=>rfl) bs hb rfl (λN c0 e1=> ?_) (λe1 b=>⟨aW e1,b,rfl⟩)
 have hbind:iJ rAt bs=sH rAt N c0:=cY e1
 have hc0:=fP (gW 4) e1
 have hN:=qL e1
 clear e1
 ((conv=>whnf);repeat ((first|(intro hq;try simp only [lnS]at hq)|refine sI ?_|refine .intro _ (.intro rfl ?_));(conv=>whnf)))
 refine aJ.own 4 104 188 6 rfl (bY (by with_unfolding_all exact rfl)) ?_
 refine aK hty (λy:List At×List UInt8=>([(0, .ptr 3 0),(1, .fn 136 [] []),(4, .osl 104 6 (y.1.map atR)),(5, .d (.int .u64 ((N - y.1.length:Nat):Int)))],[(104, .own 188 6 (y.1.map atR).length),(3,rdO y.2)])) (λy=>sH rAt y.1.length c0=some y/\y.1.length<=N/\y.2.length+y.1.length<=c0.length) (λy=>N - y.1.length) ([],c0) ⟨rfl,Nat.zero_le _,Nat.le_refl _⟩ ⟨by repeat' (first|exact trivial|exact rfl|refine And.intro ?_ ?_),by repeat' (first|exact trivial|exact rfl|refine And.intro ?_ ?_)⟩ ?_
 rintro⟨l,c⟩ ⟨h1,h2,h3⟩
 dsimp only at h1 h2 h3
 have hml:(l.map atR).length=l.length:=List.length_map ..
 have hb63:(l.map atR).length+1<=9223372036854775807:=by rw [hml];omega
 have hb48:((l.map atR).length+1)* 72<=140737488355328:=by rw [hml];omega
 ((conv=>whnf);repeat ((first|(intro hq;try simp only [lnS]at hq)|refine sI ?_|refine .intro _ (.intro rfl ?_));(conv=>whnf)))
 refine aA (λh4=> ?_) (λh4=> ?_)
 ·have hlt:l.length < N:=by dsimp only at h4;omega
  have hw:=aN5 hlt hN
  refine RdT.call (e:= λx=>SV.d (.agg (atR x))) aVz rfl (λ_=>rfl) c (by omega) rfl (λx d e2=> ?_) (λe2 b=>⟨hbind.trans (mA h1 e2 hlt),b,rfl⟩)
  have hd:=fP aNt e2
  ((conv=>whnf);repeat ((first|(refine And.intro hb63 ?_)|(refine And.intro hb48 ?_)|(intro hq;try simp only [lnS]at hq)|refine sI ?_|refine .intro _ (.intro rfl ?_));(conv=>whnf)))
  rw [hw]
  refine⟨(l++[_],d),⟨mB h1 e2,by rw [List.length_append];exact hlt,by dsimp only;rw [List.length_append,List.length_singleton];omega⟩,by dsimp only;rw [List.length_append,List.length_singleton];omega, ?_⟩
  dsimp only
  rw [List.map_append,List.length_append,List.length_append]
  exact⟨by repeat' (first|exact trivial|exact rfl|refine And.intro ?_ ?_),by repeat' (first|exact trivial|exact rfl|refine And.intro ?_ ?_)⟩
 ·have hlN:l.length=N:=by dsimp only at h4;omega
  subst hlN
  ((conv=>whnf);repeat ((first|(intro hq;try simp only [lnS]at hq)|refine sI ?_|refine .intro _ (.intro rfl ?_));(conv=>whnf)))
  exact⟨_,gR.osl,l,c,hbind.trans h1,rfl,rfl⟩
theorem aV0:RdT 80 [] (iJ rAt) (λp=> .d (.agg (aB5 p))):=by
 intro bs hb
 refine aI false [] hty Tryz.func80 rfl (kp [0,2]) 100 (by simp [Tryz.f80]) ?_
 ((conv=>whnf);repeat ((first|(intro hq;try simp only [lnS]at hq)|refine sI ?_|refine .intro _ (.intro rfl ?_));(conv=>whnf)))
 refine RdT.call aQi rfl (λ_=>rfl) bs hb rfl (λl b1 e1=> ?_) (λe1 b=>⟨e1,b,rfl⟩)
 ((conv=>whnf);repeat ((first|(intro hq;try simp only [lnS]at hq)|refine sI ?_|refine .intro _ (.intro rfl ?_));(conv=>whnf)))
 exact⟨l,b1,e1,rfl,rfl⟩
theorem aJj:RdT 79 [.fn 80 [] []] (iJ (iJ rAt)) (λl=> .d (.sl 1 (l.map aB5))):=by
 intro bs hb
 refine aF.says ?_
 refine aI false [] hty Tryz.func79 rfl (kp [0,1,4,5,9]) 100 (by simp [Tryz.f79]) ?_
 ((conv=>whnf);repeat ((first|(intro hq;try simp only [lnS]at hq)|refine sI ?_|refine .intro _ (.intro rfl ?_));(conv=>whnf)))
 refine RdT.call (jL 4 (by decide)) rfl (λ_=>rfl) bs hb rfl (λN c0 e1=> ?_) (λe1 b=>⟨aW e1,b,rfl⟩)
 have hbind:iJ (iJ rAt) bs=sH (iJ rAt) N c0:=cY e1
 have hc0:=fP (gW 4) e1
 have hN:=qL e1
 clear e1
 ((conv=>whnf);repeat ((first|(intro hq;try simp only [lnS]at hq)|refine sI ?_|refine .intro _ (.intro rfl ?_));(conv=>whnf)))
 refine aJ.own 4 104 136 1 rfl (bY (by with_unfolding_all exact rfl)) ?_
 refine aK hty (λy:List (List At)×List UInt8=>([(0, .ptr 3 0),(1, .fn 80 [] []),(4, .osl 104 1 (y.1.map aB5)),(5, .d (.int .u64 ((N - y.1.length:Nat):Int)))],[(104, .own 136 1 (y.1.map aB5).length),(3,rdO y.2)])) (λy=>sH (iJ rAt) y.1.length c0=some y/\y.1.length<=N/\y.2.length+y.1.length<=c0.length) (λy=>N - y.1.length) ([],c0) ⟨rfl,Nat.zero_le _,Nat.le_refl _⟩ ⟨by repeat' (first|exact trivial|exact rfl|refine And.intro ?_ ?_),by repeat' (first|exact trivial|exact rfl|refine And.intro ?_ ?_)⟩ ?_
 rintro⟨l,c⟩ ⟨h1,h2,h3⟩
 dsimp only at h1 h2 h3
 have hml:(l.map aB5).length=l.length:=List.length_map ..
 have hb63:(l.map aB5).length+1<=9223372036854775807:=by rw [hml];omega
 have hb48:((l.map aB5).length+1)* 24<=140737488355328:=by rw [hml];omega
 ((conv=>whnf);repeat ((first|(intro hq;try simp only [lnS]at hq)|refine sI ?_|refine .intro _ (.intro rfl ?_));(conv=>whnf)))
 refine aA (λh4=> ?_) (λh4=> ?_)
 ·have hlt:l.length < N:=by dsimp only at h4;omega
  have hw:=aN5 hlt hN
  refine RdT.call (e:= λx=>SV.d (.agg (aB5 x))) aV0 rfl (λ_=>rfl) c (by omega) rfl (λx d e2=> ?_) (λe2 b=>⟨hbind.trans (mA h1 e2 hlt),b,rfl⟩)
  have hd:=fP (mQ aNt) e2
  ((conv=>whnf);repeat ((first|(refine And.intro hb63 ?_)|(refine And.intro hb48 ?_)|(intro hq;try simp only [lnS]at hq)|refine sI ?_|refine .intro _ (.intro rfl ?_));(conv=>whnf)))
  rw [hw]
  refine⟨(l++[_],d),⟨mB h1 e2,by rw [List.length_append];exact hlt,by dsimp only;rw [List.length_append,List.length_singleton];omega⟩,by dsimp only;rw [List.length_append,List.length_singleton];omega, ?_⟩
  dsimp only
  rw [List.map_append,List.length_append,List.length_append]
  exact⟨by repeat' (first|exact trivial|exact rfl|refine And.intro ?_ ?_),by repeat' (first|exact trivial|exact rfl|refine And.intro ?_ ?_)⟩
 ·have hlN:l.length=N:=by dsimp only at h4;omega
  subst hlN
  ((conv=>whnf);repeat ((first|(intro hq;try simp only [lnS]at hq)|refine sI ?_|refine .intro _ (.intro rfl ?_));(conv=>whnf)))
  exact⟨_,gR.osl,l,c,hbind.trans h1,rfl,rfl⟩
def qyR (q:Qy):List D:=[.sl 1 (q.told.map eO), .sl 1 (q.parts.map aB5)]
theorem aSy:RdT 38 [] rQy (λq=> .d (.agg (qyR q))):=by
 intro bs hb
 refine aI false [] hty Tryz.func38 rfl (kp [0,2]) 100 (by simp [Tryz.f38]) ?_
 ((conv=>whnf);repeat ((first|(intro hq;try simp only [lnS]at hq)|refine sI ?_|refine .intro _ (.intro rfl ?_));(conv=>whnf)))
 refine RdT.call aD2 rfl (λ_=>rfl) bs hb rfl (λl b1 e1=> ?_) (λe1 b=>⟨aW e1,b,rfl⟩)
 have q1:=fP (mQ cZ) e1
 ((conv=>whnf);repeat ((first|(intro hq;try simp only [lnS]at hq)|refine sI ?_|refine .intro _ (.intro rfl ?_));(conv=>whnf)))
 refine RdT.call aJj rfl (λ_=>rfl) b1 (by omega) rfl (λp b2 e2=> ?_) (λe2 b=>⟨cI e1 (gD e2),b,rfl⟩)
 ((conv=>whnf);repeat ((first|(intro hq;try simp only [lnS]at hq)|refine sI ?_|refine .intro _ (.intro rfl ?_));(conv=>whnf)))
 exact⟨⟨l,p⟩,b2,mC e1 (gC e2),rfl,rfl⟩
def alR (a:Al):List D:=[.str a.name]++tX a.base++[.sl 16 (a.axioms.map axR)]++tX a.pub++[.int .i64 a.index, .sl 32 (a.parts.map tX), .sl 32 (a.path.map tX)]
end Go.Proofs.YtbobcfjlbcgchaaGreatDoor
namespace Go.Proofs.YtbobcfjlbcgchaaGreatDoor
open Go.Proofs Go.RowKit
set_option maxRecDepth 100000
def TX:List TypeId:=58::32::56::23::5::TT
end Go.Proofs.YtbobcfjlbcgchaaGreatDoor
namespace Go.Proofs.YtbobcfjlbcgchaaGreatDoor
open Go.Proofs Go.RowKit
set_option maxRecDepth 100000
def TYY:List TypeId:=52::136::188::50::134::64::62::60::TX
theorem clY:Cl Tryz.prog (· ∈TYY):=aXq (by kernel_rfl)
theorem aXv {n:Nat}{ds:List D}(h:TyD Tryz.prog n 3 ds): ∃z,aFw Tryz.prog 3 ds= .d (.int .i64 z):=by
 obtain⟨z,rfl,_⟩:=vG u3 h
 exact⟨z,by simp only [aFw,u3]⟩
end Go.Proofs.YtbobcfjlbcgchaaGreatDoor
namespace Go.Proofs.YtbobcfjlbcgchaaGreatDoor
open Go.Proofs
abbrev wI (x:UInt32):Int:=(x.toNat:Int)
theorem yU (n:Nat):IntKind.u32.wrap (n:Int)=wI (UInt32.ofNat n):=by
 unfold wI
 rw [UInt32.toNat_ofNat']
 rfl
theorem vC (x y:UInt32):IntKind.u32.wrap (wI x+wI y)=wI (x+y):=by
 rw [show wI x+wI y=((x.toNat+y.toNat:Nat):Int)by unfold wI;omega,yU]
 unfold wI
 rw [UInt32.toNat_add,UInt32.toNat_ofNat']
theorem rS (x:UInt32):BitVec.ofInt 32 (wI x)=x.toBitVec:=by
 unfold wI
 rw [BitVec.ofInt_natCast]
 exact BitVec.ofNat_toNat ..
theorem aKv (b:BitVec 32):IntKind.u32.wrap (b.toNat:Int)=wI (UInt32.ofBitVec b):=by
 have h:=b.isLt
 unfold wI
 show (((b.toNat:Nat):Int) % 4294967296)=_
 rw [show (UInt32.ofBitVec b).toNat=b.toNat from rfl]
 omega
theorem aKw (x y:UInt32):bits .and .u32 (wI x) (wI y)=wI (x &&& y):=by
 show IntKind.u32.wrap ((BitVec.ofInt 32 (wI x) &&& BitVec.ofInt 32 (wI y)).toNat:Int)=_
 rw [rS,rS,aKv];rfl
theorem aW8 (x y:UInt32):bits .or .u32 (wI x) (wI y)=wI (x ||| y):=by
 show IntKind.u32.wrap ((BitVec.ofInt 32 (wI x) ||| BitVec.ofInt 32 (wI y)).toNat:Int)=_
 rw [rS,rS,aKv];rfl
theorem tT (x y:UInt32):bits .xor .u32 (wI x) (wI y)=wI (x ^^^ y):=by
 show IntKind.u32.wrap ((BitVec.ofInt 32 (wI x) ^^^ BitVec.ofInt 32 (wI y)).toNat:Int)=_
 rw [rS,rS,aKv];rfl
theorem aWo (x:UInt32):bits .xor .u32 (if IntKind.u32.signed then -1 else IntKind.u32.max) (wI x)=wI (x ^^^ 4294967295):=by
 show bits .xor .u32 (wI 4294967295) (wI x)=_
 rw [tT,UInt32.xor_comm]
theorem aUm (x:UInt32) (n:Nat) (h:n < 32):(wI x).fdiv (2 ^ n)=wI (x >>>UInt32.ofNat n):=by
 unfold wI
 rw [UInt32.toNat_shiftRight,UInt32.toNat_ofNat',Nat.mod_eq_of_lt (a:=n) (by omega),Nat.mod_eq_of_lt (a:=n) h,Nat.shiftRight_eq_div_pow,Int.fdiv_eq_ediv_of_nonneg _ (Int.pow_nonneg (by decide)),Int.natCast_ediv,Int.natCast_pow]
 rfl
theorem aUn (x:UInt32) (n:Nat) (h:n < 32):IntKind.u32.wrap (wI x * 2 ^ n)=wI (x <<< UInt32.ofNat n):=by
 rw [show wI x * 2 ^ n=((x.toNat * 2 ^ n:Nat):Int)by unfold wI;rw [Int.natCast_mul,Int.natCast_pow];rfl,yU]
 unfold wI
 rw [UInt32.toNat_shiftLeft,UInt32.toNat_ofNat',UInt32.toNat_ofNat',Nat.mod_eq_of_lt (a:=n) (b:=2 ^ 32) (by omega),Nat.mod_eq_of_lt (a:=n) h,Nat.shiftLeft_eq]
def sG (n:Nat) (x:UInt32):UInt32:=(x >>>UInt32.ofNat n) ||| (x <<< UInt32.ofNat (32 - n))
theorem aM9 (n:Nat) (x:UInt32):(x <<< UInt32.ofNat (32 - n)) ||| (x >>>UInt32.ofNat n)=sG n x:=by
 unfold sG
 exact UInt32.or_comm _ _
def sg0 (x:UInt32):UInt32:=sG 7 x ^^^ sG 18 x ^^^ (x >>>3)
def sg1 (x:UInt32):UInt32:=sG 17 x ^^^ sG 19 x ^^^ (x >>>10)
def aOq (ws:List UInt32):UInt32:=ws.getD (ws.length - 16) 0+sg0 (ws.getD (ws.length - 15) 0)+ws.getD (ws.length - 7) 0+sg1 (ws.getD (ws.length - 2) 0)
def tU:Nat->List UInt32->List UInt32
 | 0,ws=>ws
 |n+1,ws=>tU n (ws++[aOq ws])
theorem yV: ∀(n:Nat) (ws:List UInt32),tU (n+1) ws=tU n ws++[aOq (tU n ws)]
 | 0,ws=>rfl
 |n+1,ws=>by
  show tU (n+1) (ws++[aOq ws])=_
  rw [yV n];rfl
theorem vD: ∀(n:Nat) (ws:List UInt32),(tU n ws).length=ws.length+n
 | 0,ws=>rfl
 |n+1,ws=>by
  show (tU n (ws++[aOq ws])).length=_
  rw [vD n,List.length_append,List.length_singleton];omega
def be4 (a b c d:UInt8):UInt32:=(UInt32.ofNat a.toNat <<< 24) ||| (UInt32.ofNat b.toNat <<< 16) ||| (UInt32.ofNat c.toNat <<< 8) ||| UInt32.ofNat d.toNat
def pV (b:List UInt8) (n:Nat):List UInt32:=(List.range n).map λi=>be4 (b.getD (4 * i) 0) (b.getD (4 * i+1) 0) (b.getD (4 * i+2) 0) (b.getD (4 * i+3) 0)
theorem aI9 (b:List UInt8) (n:Nat):pV b (n+1)=pV b n++[be4 (b.getD (4 * n) 0) (b.getD (4 * n+1) 0) (b.getD (4 * n+2) 0) (b.getD (4 * n+3) 0)]:=by
 unfold pV
 rw [List.range_succ,List.map_append];rfl
theorem aC3 (b:List UInt8) (n:Nat):(pV b n).length=n:=by unfold pV;simp
structure S8 where
 a:UInt32
 b:UInt32
 c:UInt32
 d:UInt32
 e:UInt32
 f:UInt32
 g:UInt32
 h:UInt32
def aSo (k w:UInt32) (s:S8):UInt32:=s.h+(sG 6 s.e ^^^ sG 11 s.e ^^^ sG 25 s.e)+((s.e &&& s.f) ^^^ ((s.e ^^^ 4294967295) &&& s.g))+k+w
def aUy (s:S8):UInt32:=(sG 2 s.a ^^^ sG 13 s.a ^^^ sG 22 s.a)+((s.a &&& s.b) ^^^ (s.a &&& s.c) ^^^ (s.b &&& s.c))
def rnd (k w:UInt32) (s:S8):S8:=⟨aSo k w s+aUy s,s.a,s.b,s.c,s.d+aSo k w s,s.e,s.f,s.g⟩
def aSn (ks ws:List UInt32):Nat->S8->S8
 | 0,s=>s
 |n+1,s=>rnd (ks.getD n 0) (ws.getD n 0) (aSn ks ws n s)
def S8.add (x y:S8):S8:=⟨x.a+y.a,x.b+y.b,x.c+y.c,x.d+y.d,x.e+y.e,x.f+y.f,x.g+y.g,x.h+y.h⟩
def aAw : List UInt32 := [0x428a2f98, 0x71374491, 0xb5c0fbcf, 0xe9b5dba5, 0x3956c25b, 0x59f111f1, 0x923f82a4, 0xab1c5ed5,
 0xd807aa98,0x12835b01,0x243185be,0x550c7dc3,0x72be5d74,0x80deb1fe,0x9bdc06a7,0xc19bf174,
 0xe49b69c1,0xefbe4786,0x0fc19dc6,0x240ca1cc,0x2de92c6f,0x4a7484aa,0x5cb0a9dc,0x76f988da,
 0x983e5152,0xa831c66d,0xb00327c8,0xbf597fc7,0xc6e00bf3,0xd5a79147,0x06ca6351,0x14292967,
 0x27b70a85,0x2e1b2138,0x4d2c6dfc,0x53380d13,0x650a7354,0x766a0abb,0x81c2c92e,0x92722c85,
 0xa2bfe8a1,0xa81a664b,0xc24b8b70,0xc76c51a3,0xd192e819,0xd6990624,0xf40e3585,0x106aa070,
 0x19a4c116,0x1e376c08,0x2748774c,0x34b0bcb5,0x391c0cb3,0x4ed8aa4a,0x5b9cca4f,0x682e6ff3,
 0x748f82ee,0x78a5636f,0x84c87814,0x8cc70208,0x90befffa,0xa4506ceb,0xbef9a3f7,0xc67178f2]
theorem aGf:aAw.length=64:=rfl
def aE0 (s:S8) (b:List UInt8):S8:=s.add (aSn aAw (tU 48 (pV b 16)) 64 s)
def aUv:S8:=⟨0x6a09e667,0xbb67ae85,0x3c6ef372,0xa54ff53a,0x510e527f,0x9b05688c,0x1f83d9ab,0x5be0cd19⟩
def kY:Nat->S8->List UInt8->S8
 | 0,s,_=>s
 |n+1,s,b=>kY n (aE0 s (b.take 64)) (b.drop 64)
theorem tR: ∀(n:Nat) (s:S8) (b:List UInt8),kY (n+1) s b=aE0 (kY n s b) ((b.drop (64 * n)).take 64)
 | 0,s,b=>by simp [kY]
 |n+1,s,b=>by
  show kY (n+1) (aE0 s (b.take 64)) (b.drop 64)=_
  rw [tR n,List.drop_drop,show 64+64 * n=64 * (n+1)by omega];rfl
end Go.Proofs.YtbobcfjlbcgchaaGreatDoor
namespace Go.Proofs.YtbobcfjlbcgchaaGreatDoor
open Go.Proofs
def aPs (n:Nat):Nat:=(119 - n % 64) % 64
def aJ3 (b:List UInt8):List UInt8:=b++[128]++List.replicate (aPs b.length) 0++beN 8 (8 * b.length)
theorem aF5 (n:Nat):aPs n < 64:=Nat.mod_lt _ (by decide)
theorem aGu (b:List UInt8):(aJ3 b).length=b.length+1+aPs b.length+8:=by
 unfold aJ3
 simp only [List.length_append,List.length_replicate,bH,List.length_singleton]
theorem aPu (b:List UInt8):(aJ3 b).length=64 * ((aJ3 b).length / 64):=by
 have h:=aGu b
 unfold aPs at h
 omega
def aWv (b:List UInt8):S8:=kY ((aJ3 b).length / 64) aUv (aJ3 b)
def by4 (x:UInt32):List UInt8:=[(x >>>24).toUInt8,(x >>>16).toUInt8,(x >>>8).toUInt8,x.toUInt8]
def aRd (s:S8):List UInt8:=by4 s.a++by4 s.b++by4 s.c++by4 s.d++by4 s.e++by4 s.f++by4 s.g++by4 s.h
def aE9 (b:List UInt8):Dig:=⟨aRd (aWv b),rfl⟩
def aRb (tag b:List UInt8):Dig:=aE9 ((aE9 tag).1++b)
theorem aUo (x:UInt32):IntKind.u8.wrap (wI x)=((x.toUInt8.toNat:Nat):Int):=by
 unfold wI
 show (((x.toNat:Nat):Int) % 256)=_
 rw [UInt32.toNat_toUInt8]
 omega
end Go.Proofs.YtbobcfjlbcgchaaGreatDoor
namespace Go.Proofs.YtbobcfjlbcgchaaGreatDoor
open Go.Proofs Go.RowKit
set_option maxRecDepth 10000
attribute [local irreducible] aJ aF Tri aG YVC bS aQ
abbrev wD (x:UInt32):D:= .int .u32 (wI x)
theorem aWz: ∀n:Nat,1<=n->n<=31->bits .and .u64 (IntKind.u64.wrap (0 - (n:Int))) 31=((32 - n:Nat):Int):=by
 have h: ∀n:Fin 32,1<=n.1->bits .and .u64 (IntKind.u64.wrap (0 - (n.1:Int))) 31=((32 - n.1:Nat):Int):=by decide+kernel
 exact λn h1 h2=>h ⟨n,by omega⟩ h1
theorem aMa (x:UInt32) (n:Nat) (h1:1<=n) (h2:n<=31):Tri Tryz.prog 181 [.d (wD x), .d (.int .i64 (0 - (n:Int)))] [] (λr=>r= .d (wD (sG n x))):=by
 have hs:=aWz n h1 h2
 refine aP hty Tryz.func181 rfl (kp [0,1,4,5]) [] _ _ _ (by simp [Tryz.f181]) (by simp) ?_
 ((conv=>whnf);repeat ((first|(intro hq;try simp only [lnS]at hq)|refine sI ?_|refine .intro _ (.intro rfl ?_));(conv=>whnf)))
 rw [hs]
 have hm:IntKind.u64.wrap (32 - ((32 - n:Nat):Int))=(n:Int):=by
  rw [show (32:Int) - ((32 - n:Nat):Int)=((n:Nat):Int)by omega,sX _ (by omega)]
 rw [hm]
 refine And.intro (Int.natCast_nonneg _) ?_
 ((conv=>whnf);repeat ((first|(intro hq;try simp only [lnS]at hq)|refine sI ?_|refine .intro _ (.intro rfl ?_));(conv=>whnf)))
 refine congrArg (λz=>SV.d (.int .u32 z)) ?_
 have e1:min (((32 - n:Nat):Int)).toNat IntKind.u32.bits=32 - n:=by
  rw [Int.toNat_natCast]
  show min (32 - n) 32=_
  omega
 have e2:min ((n:Nat):Int).toNat IntKind.u32.bits=n:=by
  rw [Int.toNat_natCast]
  show min n 32=_
  omega
 rw [e1,e2,aUn _ _ (by omega),aUm _ _ (by omega),aW8,aM9]
theorem eK (x:UInt32) (n:Nat) (h1:1<=n) (h2:n<=31):Tri Tryz.prog 133 [.d (wD x), .d (.int .i64 (n:Int))] [] (λr=>r= .d (wD (sG n x))):=by
 have c:=aMa x n h1 h2
 refine aP hty Tryz.func133 rfl (kp [0,1,4]) [] _ _ _ (by simp [Tryz.f133]) (by simp) ?_
 ((conv=>whnf);repeat' ((first|(intro hq;(try simp only [lnS]at hq);(try rewrite [List.length_map]))|refine sJ ?_|refine .intro _ (.intro rfl ?_)|refine exL (k:= ?_)|(refine aD [] c trivial (λr hs=> ?_);subst hs)|refine dwR ?_|((first|refine aA ?_ ?_|refine aC ?_ ?_)<;>intro hb<;>(first|exact ddX hb|try simp only [lnS]at hb))|(refine aB ?_ ?_<;>intro hb<;>try exact dsX hb))<;>(conv=>whnf)))
 rfl
end Go.Proofs.YtbobcfjlbcgchaaGreatDoor
namespace Go.Proofs.YtbobcfjlbcgchaaGreatDoor
open Go.Proofs Go.RowKit
set_option maxRecDepth 10000
attribute [local irreducible] aJ aF Tri aG YVC bS aQ
def s8R (s:S8):List D:=[wD s.a,wD s.b,wD s.c,wD s.d,wD s.e,wD s.f,wD s.g,wD s.h]
def aNb (x:UInt32):List D:=[wD x]
def KG:Hp:=[(92, .glob 1 1 (aAw.map aNb))]
def uW (x:UInt32):SV:= .d (wD x)
def dY (ws:List UInt32):List SV:=ws.map uW++List.replicate (64 - ws.length) (.d (.int .u32 0))
theorem rU {ws:List UInt32}(h:ws.length<=64):(dY ws).length=64:=by unfold dY;rw [List.length_append,List.length_map,List.length_replicate];omega
theorem lM {ws:List UInt32}{i:Nat}(h:i < ws.length):(dY ws)[i]? =some (uW (ws.getD i 0)):=by
 unfold dY
 rw [List.getElem?_append_left (by rw [List.length_map];exact h),List.getElem?_map,List.getElem?_eq_getElem h,List.getD_eq_getElem?_getD,List.getElem?_eq_getElem h]
 rfl
theorem yW {ws:List UInt32}(h:ws.length < 64) (x:UInt32):(dY ws).set ws.length (uW x)=dY (ws++[x]):=by
 unfold dY
 have e:64 - ws.length=(64 - (ws++[x]).length)+1:=by rw [List.length_append,List.length_singleton];omega
 rw [e,List.replicate_succ,List.set_append_right _ _ (by rw [List.length_map];omega),List.length_map,Nat.sub_self,List.map_append,List.append_assoc]
 rfl
theorem uT {b:List UInt8}{i k:Nat}(hb:b.length=64) (hi:i < 16) (hk:k < 4):(List.drop ((4:Int)* (i:Int)).toNat (List.take ((4:Int)* (i:Int)+4).toNat (b.map bE)))[k]? =some (bE (b.getD (4 * i+k) 0)):=by
 rw [show ((4:Int)* (i:Int)).toNat=4 * i by omega,show ((4:Int)* (i:Int)+4).toNat=4 * i+4 by omega,List.getElem?_drop,List.getElem?_take,if_pos (by omega),List.getElem?_map,List.getElem?_eq_getElem (by omega),List.getD_eq_getElem?_getD,List.getElem?_eq_getElem (by omega)]
 rfl
abbrev aCc (z:Int) (n:Int):Int:=IntKind.u32.wrap (z * 2 ^ min n.toNat IntKind.u32.bits)
abbrev aEq (z:Int) (n:Int):Int:=z.fdiv (2 ^ min n.toNat IntKind.u32.bits)
theorem aWx (x:UInt32) (n:Nat) (h:n < 32):aCc (wI x) (n:Int)=wI (x <<< UInt32.ofNat n):=by
 have e:min ((n:Nat):Int).toNat IntKind.u32.bits=n:=by
  rw [Int.toNat_natCast]
  show min n 32=_
  omega
 unfold aCc
 rw [e,aUn _ _ h]
theorem aWw (x:UInt32) (n:Nat) (h:n < 32):aEq (wI x) (n:Int)=wI (x >>>UInt32.ofNat n):=by
 have e:min ((n:Nat):Int).toNat IntKind.u32.bits=n:=by
  rw [Int.toNat_natCast]
  show min n 32=_
  omega
 unfold aEq
 rw [e,aUm _ _ h]
abbrev aX3 (a b c d:UInt8):Int:=bits .or .u32 (bits .or .u32 (bits .or .u32 (aCc (IntKind.u32.wrap (a.toNat:Int)) 24) (aCc (IntKind.u32.wrap (b.toNat:Int)) 16)) (aCc (IntKind.u32.wrap (c.toNat:Int)) 8)) (IntKind.u32.wrap (d.toNat:Int))
theorem aSw (a b c d:UInt8):aX3 a b c d=wI (be4 a b c d):=by
 have h24: ∀x,aCc (wI x) 24=wI (x <<< 24):= λx=>aWx x 24 (by decide)
 have h16: ∀x,aCc (wI x) 16=wI (x <<< 16):= λx=>aWx x 16 (by decide)
 have h8: ∀x,aCc (wI x) 8=wI (x <<< 8):= λx=>aWx x 8 (by decide)
 unfold aX3
 rw [yU,yU,yU,yU,h24,h16,h8,aW8,aW8,aW8]
 rfl
abbrev aSt (p q x:UInt32) (n:Int):Int:=bits .xor .u32 (bits .xor .u32 (wI p) (wI q)) (aEq (wI x) n)
abbrev aX2 (w16 x1 w7 x2:UInt32):Int:=IntKind.u32.wrap (IntKind.u32.wrap (IntKind.u32.wrap (wI w16+aSt (sG 7 x1) (sG 18 x1) x1 3)+wI w7)+aSt (sG 17 x2) (sG 19 x2) x2 10)
theorem aSv (w16 x1 w7 x2:UInt32):aX2 w16 x1 w7 x2=wI (w16+sg0 x1+w7+sg1 x2):=by
 have h3: ∀x,aEq (wI x) 3=wI (x >>>3):= λx=>aWw x 3 (by decide)
 have h10: ∀x,aEq (wI x) 10=wI (x >>>10):= λx=>aWw x 10 (by decide)
 unfold aX2 aSt
 rw [h3,h10,tT,tT,tT,tT,vC,vC,vC]
 rfl
theorem aNk {id:Nat}{pin:Pin}{fr:Fr}{a:Nat}{t:TypeId}{cs:List SV}{r:Hp}(h:eN id pin fr ((a, .cells t [])::r)) (hc:SV.idsL cs=[]):eN id pin fr ((a, .cells t cs)::r):=by
 refine⟨h.1,h.2.1, ?_⟩
 have e:fG ((a, .cells t cs)::r)=fG ((a, .cells t [])::r):=by
  show (a::SV.idsL cs)++_=(a::SV.idsL [])++_
  rw [hc];rfl
 rw [e]
 exact h.2.2
theorem aIc (ws:List UInt32):SV.idsL (dY ws)=[]:=by
 have h: ∀l:List D,SV.idsL (l.map SV.d)=[]:= λl=>by
  induction l with
  |nil=>rfl
  |cons x r ih=>exact ih
 unfold dY
 have e:ws.map uW++List.replicate (64 - ws.length) (SV.d (.int .u32 0))=(ws.map wD++List.replicate (64 - ws.length) (D.int .u32 0)).map SV.d:=by
  rw [List.map_append,List.map_map,List.map_replicate];rfl
 rw [e,h]
abbrev aPk (k w a b c d e f g h:UInt32):Int:=IntKind.u32.wrap (IntKind.u32.wrap (IntKind.u32.wrap (IntKind.u32.wrap (wI h+bits .xor .u32 (bits .xor .u32 (wI (sG 6 e)) (wI (sG 11 e))) (wI (sG 25 e)))+bits .xor .u32 (bits .and .u32 (wI e) (wI f)) (bits .and .u32 (bits .xor .u32 (if IntKind.u32.signed then -1 else IntKind.u32.max) (wI e)) (wI g)))+wI k)+wI w)
abbrev aSs (a b c:UInt32):Int:=IntKind.u32.wrap (bits .xor .u32 (bits .xor .u32 (wI (sG 2 a)) (wI (sG 13 a))) (wI (sG 22 a))+bits .xor .u32 (bits .xor .u32 (bits .and .u32 (wI a) (wI b)) (bits .and .u32 (wI a) (wI c))) (bits .and .u32 (wI b) (wI c)))
theorem aPj (k w a b c d e f g h:UInt32):aPk k w a b c d e f g h=wI (aSo k w ⟨a,b,c,d,e,f,g,h⟩):=by
 unfold aPk
 rw [aWo,aKw,aKw,tT,tT,tT,vC,vC,vC,vC]
 rfl
theorem aPi (a b c d e f g h:UInt32):aSs a b c=wI (aUy ⟨a,b,c,d,e,f,g,h⟩):=by
 unfold aSs
 rw [aKw,aKw,aKw,tT,tT,tT,tT,vC]
 rfl
def aY7 (k w a b c d e f g h:UInt32):List SV:=[.d (.int .u32 (IntKind.u32.wrap (aPk k w a b c d e f g h+aSs a b c))),uW a,uW b,uW c, .d (.int .u32 (IntKind.u32.wrap (wI d+aPk k w a b c d e f g h))),uW e,uW f,uW g]
theorem aSu (k w a b c d e f g h:UInt32):(s8R (rnd k w ⟨a,b,c,d,e,f,g,h⟩)).map SV.d=aY7 k w a b c d e f g h:=by
 unfold aY7
 rw [aPj,aPi a b c d e f g h,vC,vC]
 rfl
def g8 (s:S8) (i:Nat):UInt32:=[s.a,s.b,s.c,s.d,s.e,s.f,s.g,s.h].getD i 0
def aOi (s t:S8) (i:Nat):List SV:=(((s8R (s.add t)).take i)++(s8R s).drop i).map SV.d
theorem lt8 {i:Nat}(h:i < 8):i=0\/i=1\/i=2\/i=3\/i=4\/i=5\/i=6\/i=7:=by omega
theorem aSf (s t:S8) {i:Nat}(h:i < 8):(aOi s t i)[i]? =some (uW (g8 s i)):=by
 rcases lt8 h with rfl|rfl|rfl|rfl|rfl|rfl|rfl|rfl<;>rfl
theorem aUx (s:S8) {i:Nat}(h:i < 8):((s8R s).map SV.d)[i]? =some (uW (g8 s i)):=by
 rcases lt8 h with rfl|rfl|rfl|rfl|rfl|rfl|rfl|rfl<;>rfl
theorem aP5 (s t:S8) {i:Nat}(h:i < 8):(aOi s t i).set i (.d (.int .u32 (IntKind.u32.wrap (wI (g8 s i)+wI (g8 t i)))))=aOi s t (i+1):=by
 rw [vC]
 rcases lt8 h with rfl|rfl|rfl|rfl|rfl|rfl|rfl|rfl<;>rfl
theorem aP6 (s t:S8) {i:Nat}(h:i < 8):(aOi s t i).length=8:=by
 rcases lt8 h with rfl|rfl|rfl|rfl|rfl|rfl|rfl|rfl<;>rfl
theorem aP7 (s t:S8):aOi s t 8=(s8R (s.add t)).map SV.d:=rfl
theorem aQc (s:S8) (b:List UInt8) (hb:b.length=64):Tri Tryz.prog 75 [.d (.agg (s8R s)), .d (.sl 1 (b.map bE))] KG (λr=>r= .d (.agg (s8R (aE0 s b)))):=by
 have hbl:(b.map bE).length=b.length:=List.length_map ..
 obtain⟨sa,sb,sc,sd,se,sf,sg,sh⟩:=s
 refine aH false [] hty Tryz.func75 rfl (kp [0,1,2,4,5,6,7,8,9,10,11,12,13,14,15,16,17,18,19,20,21,22,23,24,25,60,103,104,181,182]) [] _ _ _ (by simp [Tryz.f75]) (by decide) ?_
 ((conv=>whnf);repeat ((first|(intro hq;try simp only [lnS]at hq)|refine sI ?_|refine .intro _ (.intro rfl ?_));(conv=>whnf)))
 refine aK hty (λi:Nat=>([(1, .d (.sl 1 (b.map bE))),(2, .ptr 2 0),(4, .ptr 4 0),(5, .ptr 5 0),(24, .d (.int .i64 i))],[(5, .cells 183 (dY (pV b i))),(4, .cells 127 ((List.replicate 8 (D.int .u32 0)).map .d)),(2, .cells 127 ((s8R ⟨sa,sb,sc,sd,se,sf,sg,sh⟩).map .d)),(92, .glob 1 1 (aAw.map aNb))])) (λi=>i<=16) (λi=>16 - i) 0 (by omega) ⟨by repeat' (first|exact trivial|exact rfl|refine And.intro ?_ ?_),by repeat' (first|exact trivial|exact rfl|refine And.intro ?_ ?_)⟩ ?_
 intro i hi
 ((conv=>whnf);repeat ((first|(intro hq;try simp only [lnS]at hq)|refine sI ?_|refine .intro _ (.intro rfl ?_));(conv=>whnf)))
 refine aA (λh1=> ?_) (λh1=> ?_)
 ·have hil:i < 16:=by omega
  have g0:=uT (k:=0) hb hil (by decide)
  have g1:=uT (k:=1) hb hil (by decide)
  have g2:=uT (k:=2) hb hil (by decide)
  have g3:=uT (k:=3) hb hil (by decide)
  have hwl:=aC3 b i
  have hset:= λx=>yW (ws:=pV b i) (by omega) x
  have hlen:=rU (ws:=pV b i) (by omega)
  have hsucc:=aI9 b i
  have hoff:0+((i:Nat):Int).toNat * 1 < (dY (pV b i)).length:=by rw [hlen,Int.toNat_natCast];omega
  ((conv=>whnf);repeat ((first|(intro hq;try simp only [lnS]at hq)|refine sI ?_|refine .intro _ (.intro rfl ?_));(conv=>whnf)))
  refine gV hty 24 (by kernel_rfl) (by kernel_rfl) ?_
  ((conv=>whnf);repeat ((first|(refine⟨_,g0, ?_⟩)|(refine⟨_,g1, ?_⟩)|(refine⟨_,g2, ?_⟩)|(refine⟨_,g3, ?_⟩)|(refine And.intro hoff ?_)|(intro hq;try simp only [lnS]at hq)|refine sI ?_|refine .intro _ (.intro rfl ?_));(conv=>whnf)))
  have hcell:(dY (pV b i)).set (0+((i:Nat):Int).toNat * 1) (.d (.int .u32 (aX3 (b.getD (4 * i+0) 0) (b.getD (4 * i+1) 0) (b.getD (4 * i+2) 0) (b.getD (4 * i+3) 0))))=dY (pV b (i+1)):=by
   have h:=hset (be4 (b.getD (4 * i) 0) (b.getD (4 * i+1) 0) (b.getD (4 * i+2) 0) (b.getD (4 * i+3) 0))
   rw [<-hsucc,hwl]at h
   rw [aSw,show 0+((i:Nat):Int).toNat * 1=i by simp]
   exact h
  refine⟨i+1,by dsimp only;omega,by dsimp only;omega, ?_⟩
  dsimp only
  rw [<-hcell]
  exact⟨by repeat' (first|exact trivial|exact rfl|refine And.intro ?_ ?_),by repeat' (first|exact trivial|exact rfl|refine And.intro ?_ ?_)⟩
 have hi16:i=16:=by omega
 subst hi16
 clear h1 hi
 have hW:=aC3 b 16
 generalize hWd:pV b 16=W at *
 clear hb hbl
 ((conv=>whnf);repeat ((first|(intro hq;try simp only [lnS]at hq)|refine sI ?_|refine .intro _ (.intro rfl ?_));(conv=>whnf)))
 have hgl:=vD
 refine aK hty (λi:Nat=>([(1, .d (.sl 1 (b.map bE))),(2, .ptr 2 0),(4, .ptr 4 0),(5, .ptr 5 0),(8, .d (.int .i64 ((i+16:Nat):Int)))],[(5, .cells 183 (dY (tU i W))),(4, .cells 127 ((List.replicate 8 (D.int .u32 0)).map .d)),(2, .cells 127 ((s8R ⟨sa,sb,sc,sd,se,sf,sg,sh⟩).map .d)),(92, .glob 1 1 (aAw.map aNb))])) (λi=>i<=48) (λi=>48 - i) 0 (by omega) ⟨by repeat' (first|exact trivial|exact rfl|refine And.intro ?_ ?_),by repeat' (first|exact trivial|exact rfl|refine And.intro ?_ ?_)⟩ ?_
 intro i hi
 have hlenG:=vD i W
 have hsn:=yV i W
 rw [hW]at hlenG
 generalize hGd:tU i W=G at *
 ((conv=>whnf);repeat ((first|(intro hq;try simp only [lnS]at hq)|refine sI ?_|refine .intro _ (.intro rfl ?_));(conv=>whnf)))
 refine aA (λh1=> ?_) (λh1=> ?_)
 ·have hil:i < 48:=by omega
  have hlen:=rU (ws:=G) (by omega)
  have hset:= λx=>yW (ws:=G) (by omega) x
  have a15:(dY G)[0+(((i+16:Nat):Int) - 15).toNat * 1]? =some (uW (G.getD (G.length - 15) 0)):=by
   rw [show 0+(((i+16:Nat):Int) - 15).toNat * 1=G.length - 15 by omega]
   exact lM (by omega)
  have a2:(dY G)[0+(((i+16:Nat):Int) - 2).toNat * 1]? =some (uW (G.getD (G.length - 2) 0)):=by
   rw [show 0+(((i+16:Nat):Int) - 2).toNat * 1=G.length - 2 by omega]
   exact lM (by omega)
  have a16:(dY G)[0+(((i+16:Nat):Int) - 16).toNat * 1]? =some (uW (G.getD (G.length - 16) 0)):=by
   rw [show 0+(((i+16:Nat):Int) - 16).toNat * 1=G.length - 16 by omega]
   exact lM (by omega)
  have a7:(dY G)[0+(((i+16:Nat):Int) - 7).toNat * 1]? =some (uW (G.getD (G.length - 7) 0)):=by
   rw [show 0+(((i+16:Nat):Int) - 7).toNat * 1=G.length - 7 by omega]
   exact lM (by omega)
  have hoff:0+((i+16:Nat):Int).toNat * 1 < (dY G).length:=by rw [hlen,Int.toNat_natCast];omega
  have r1:=eK (G.getD (G.length - 15) 0) 7 (by decide) (by decide)
  have r2:=eK (G.getD (G.length - 15) 0) 18 (by decide) (by decide)
  have r3:=eK (G.getD (G.length - 2) 0) 17 (by decide) (by decide)
  have r4:=eK (G.getD (G.length - 2) 0) 19 (by decide) (by decide)
  ((conv=>whnf);repeat' ((first|(intro hq;(try simp only [lnS]at hq);(try rewrite [List.length_map]))|refine sJ ?_|refine .intro _ (.intro rfl ?_)|refine exL (k:= ?_)|(refine gV (id:=14) hty 15 (by kernel_rfl) (by kernel_rfl) ?_)|(refine⟨_,a15, ?_⟩)|(refine⟨_,a2, ?_⟩)|(refine⟨_,a16, ?_⟩)|(refine⟨_,a7, ?_⟩)|(refine And.intro hoff ?_)|(refine aD [] r1 trivial (λr hs=> ?_);subst hs)|(refine aD [] r2 trivial (λr hs=> ?_);subst hs)|(refine aD [] r3 trivial (λr hs=> ?_);subst hs)|(refine aD [] r4 trivial (λr hs=> ?_);subst hs)|refine dwR ?_|((first|refine aA ?_ ?_|refine aC ?_ ?_)<;>intro hb<;>(first|exact ddX hb|try simp only [lnS]at hb))|(refine aB ?_ ?_<;>intro hb<;>try exact dsX hb))<;>(conv=>whnf)))
  have hcell:(dY G).set (0+((i+16:Nat):Int).toNat * 1) (.d (.int .u32 (aX2 (G.getD (G.length - 16) 0) (G.getD (G.length - 15) 0) (G.getD (G.length - 7) 0) (G.getD (G.length - 2) 0))))=dY (tU (i+1) W):=by
   rw [hsn,aSv,<-hset]
   rw [show 0+((i+16:Nat):Int).toNat * 1=G.length by rw [Int.toNat_natCast];omega]
   rfl
  refine⟨i+1,by dsimp only;omega,by dsimp only;omega, ?_⟩
  dsimp only
  rw [<-hcell]
  exact⟨by repeat' (first|exact trivial|exact rfl|refine And.intro ?_ ?_),by repeat' (first|exact trivial|exact rfl|refine And.intro ?_ ?_)⟩
 have hG:G.length=64:=by omega
 have hi48:i=48:=by omega
 subst hi48
 clear hsn hgl
 have hids:=aIc G
 have hlen:=rU (ws:=G) (by omega)
 ((conv=>whnf);repeat ((first|(refine And.intro (aNk (bY (by with_unfolding_all exact rfl)) hids) ?_)|(intro hq;try simp only [lnS]at hq)|refine sI ?_|refine .intro _ (.intro rfl ?_));(conv=>whnf)))
 clear hi h1 hlenG
 refine aK hty (λi:Nat=>([(2, .ptr 2 0),(4, .ptr 4 0),(5, .ptr 5 0),(13, .ptr 13 0),(103, .d (.int .i64 i))],[(13, .cells 127 ((s8R (aSn aAw G i ⟨sa,sb,sc,sd,se,sf,sg,sh⟩)).map .d)),(5, .cells 183 (dY G)),(4, .cells 127 ((List.replicate 8 (D.int .u32 0)).map .d)),(2, .cells 127 ((s8R ⟨sa,sb,sc,sd,se,sf,sg,sh⟩).map .d)),(92, .glob 1 1 (aAw.map aNb))])) (λi=>i<=64) (λi=>64 - i) 0 (by omega) ⟨by repeat' (first|exact trivial|exact rfl|refine And.intro ?_ ?_),by repeat' (first|exact trivial|exact rfl|refine And.intro ?_ ?_)⟩ ?_
 intro i hi
 have hsn:aSn aAw G (i+1) ⟨sa,sb,sc,sd,se,sf,sg,sh⟩=rnd (aAw.getD i 0) (G.getD i 0) (aSn aAw G i ⟨sa,sb,sc,sd,se,sf,sg,sh⟩):=rfl
 generalize hSd:aSn aAw G i ⟨sa,sb,sc,sd,se,sf,sg,sh⟩=S at *
 obtain⟨ta,tb,tc,td,te,tf,tg,th⟩:=S
 ((conv=>whnf);repeat ((first|(intro hq;try simp only [lnS]at hq)|refine sI ?_|refine .intro _ (.intro rfl ?_));(conv=>whnf)))
 refine aA (λh1=> ?_) (λh1=> ?_)
 ·have hil:i < 64:=by omega
  have ai:(dY G)[0+(i:Int).toNat * 1]? =some (uW (G.getD i 0)):=by
   rw [show 0+(i:Int).toNat * 1=i by simp]
   exact lM (by omega)
  have hrow:(aAw.map aNb)[(i:Int).toNat]? =some (aNb (aAw.getD i 0)):=by
   rw [Int.toNat_natCast,List.getElem?_map,List.getElem?_eq_getElem (by rw [aGf];exact hil),List.getD_eq_getElem?_getD,List.getElem?_eq_getElem (by rw [aGf];exact hil)]
   rfl
  have r6:=eK te 6 (by decide) (by decide)
  have r11:=eK te 11 (by decide) (by decide)
  have r25:=eK te 25 (by decide) (by decide)
  have r2:=eK ta 2 (by decide) (by decide)
  have r13:=eK ta 13 (by decide) (by decide)
  have r22:=eK ta 22 (by decide) (by decide)
  ((conv=>whnf);repeat' ((first|(intro hq;(try simp only [lnS]at hq);(try rewrite [List.length_map]))|refine sJ ?_|refine .intro _ (.intro rfl ?_)|refine exL (k:= ?_)|(refine gV (id:=22) hty 14 (by kernel_rfl) (by kernel_rfl) ?_)|(refine cR (id:=92) hty rfl rfl rfl rfl rfl rfl rfl (by omega) (by omega) ?_)|(refine⟨_,hrow, ?_⟩)|(refine⟨_,ai, ?_⟩)|(refine aD [] r6 trivial (λr hs=> ?_);subst hs)|(refine aD [] r11 trivial (λr hs=> ?_);subst hs)|(refine aD [] r25 trivial (λr hs=> ?_);subst hs)|(refine aD [] r2 trivial (λr hs=> ?_);subst hs)|(refine aD [] r13 trivial (λr hs=> ?_);subst hs)|(refine aD [] r22 trivial (λr hs=> ?_);subst hs)|(refine⟨.d (wD (sG 6 te)),_,[],rfl,trivial,r6, ?_⟩)|(refine⟨.d (wD (sG 11 te)),_,[],rfl,trivial,r11, ?_⟩)|(refine⟨.d (wD (sG 25 te)),_,[],rfl,trivial,r25, ?_⟩)|refine dwR ?_|((first|refine aA ?_ ?_|refine aC ?_ ?_)<;>intro hb<;>(first|exact ddX hb|try simp only [lnS]at hb))|(refine aB ?_ ?_<;>intro hb<;>try exact dsX hb))<;>(conv=>whnf)))
  refine⟨i+1,by dsimp only;omega,by dsimp only;omega, ?_⟩
  dsimp only
  rw [hsn,aSu]
  exact⟨by repeat' (first|exact trivial|exact rfl|refine And.intro ?_ ?_),by repeat' (first|exact trivial|exact rfl|refine And.intro ?_ ?_)⟩
 have hi64:i=64:=by omega
 subst hi64
 clear h1 hi hsn
 generalize hS:(S8.mk ta tb tc td te tf tg th)=S at *
 generalize hT:(S8.mk sa sb sc sd se sf sg sh)=T at *
 ((conv=>whnf);repeat ((first|(intro hq;try simp only [lnS]at hq)|refine sI ?_|refine .intro _ (.intro rfl ?_));(conv=>whnf)))
 refine aK hty (λi:Nat=>([(2, .ptr 2 0),(4, .ptr 4 0),(13, .ptr 13 0),(181, .d (.int .i64 i))],[(2, .cells 127 (aOi T S i)),(13, .cells 127 ((s8R S).map .d)),(4, .cells 127 ((List.replicate 8 (D.int .u32 0)).map .d)),(92, .glob 1 1 (aAw.map aNb))])) (λi=>i<=8) (λi=>8 - i) 0 (by omega) ⟨by repeat' (first|exact trivial|exact rfl|refine And.intro ?_ ?_),by repeat' (first|exact trivial|exact rfl|refine And.intro ?_ ?_)⟩ ?_
 intro i hi
 ((conv=>whnf);repeat ((first|(intro hq;try simp only [lnS]at hq)|refine sI ?_|refine .intro _ (.intro rfl ?_));(conv=>whnf)))
 refine aA (λh1=> ?_) (λh1=> ?_)
 ·have hil:i < 8:=by omega
  have e0:0+(i:Int).toNat * 1=i:=by simp
  have c1:(aOi T S i)[0+(i:Int).toNat * 1]? =some (uW (g8 T i)):=by rw [e0];exact aSf T S hil
  have c2:((s8R S).map SV.d)[0+(i:Int).toNat * 1]? =some (uW (g8 S i)):=by rw [e0];exact aUx S hil
  have hoff:0+(i:Int).toNat * 1 < (aOi T S i).length:=by rw [aP6 T S hil,e0];exact hil
  ((conv=>whnf);repeat' ((first|(intro hq;(try simp only [lnS]at hq);(try rewrite [List.length_map]))|refine sJ ?_|refine .intro _ (.intro rfl ?_)|refine exL (k:= ?_)|(refine gV (id:=27) hty 8 (by kernel_rfl) (by kernel_rfl) ?_)|(refine⟨_,c1, ?_⟩)|(refine⟨_,c2, ?_⟩)|(refine And.intro hoff ?_)|refine dwR ?_|((first|refine aA ?_ ?_|refine aC ?_ ?_)<;>intro hb<;>(first|exact ddX hb|try simp only [lnS]at hb))|(refine aB ?_ ?_<;>intro hb<;>try exact dsX hb))<;>(conv=>whnf)))
  have hcell:(aOi T S i).set (0+(i:Int).toNat * 1) (.d (.int .u32 (IntKind.u32.wrap (wI (g8 T i)+wI (g8 S i)))))=aOi T S (i+1):=by
   rw [e0]
   exact aP5 T S hil
  refine⟨i+1,by dsimp only;omega,by dsimp only;omega, ?_⟩
  dsimp only
  rw [<-hcell]
  exact⟨by repeat' (first|exact trivial|exact rfl|refine And.intro ?_ ?_),by repeat' (first|exact trivial|exact rfl|refine And.intro ?_ ?_)⟩
 have hi8:i=8:=by omega
 subst hi8
 rw [aP7]
 ((conv=>whnf);repeat ((first|(intro hq;try simp only [lnS]at hq)|refine sI ?_|refine .intro _ (.intro rfl ?_));(conv=>whnf)))
 show SV.d (D.agg (s8R (T.add S)))=_
 rw [show aE0 T b=T.add (aSn aAw (tU 48 (pV b 16)) 64 T)from rfl,hWd,hGd,hSd]
end Go.Proofs.YtbobcfjlbcgchaaGreatDoor
