/-
  Queries: the numbers of parts and atoms; the told variables.
  Conditions: none.
-/
import Derived.Test.YtleihcnongldbaaGreatDoorWQqd
import Derived.Test.YtleihcnongldbaaGreatDoorWQqa
set_option linter.unnecessarySimpa false
set_option linter.unusedSectionVars false
set_option linter.unusedSimpArgs false
set_option linter.unusedVariables false
set_option maxHeartbeats 16000000
namespace Go.Proofs.YtleihcnongldbaaGreatDoor
open Go.Proofs Go.RowKit
set_option maxRecDepth 10000
attribute [local irreducible] aN aJ Tri aI YVC cP bE
theorem yS (q:Qy):Tri Tryz.prog 62 [.d (.agg (qyR q))] [] (λr=>r= .d (.int .i64 (kE q))):=by
 obtain⟨told,parts⟩:=q
 show Tri Tryz.prog 62 [.d (.agg [.sl 1 (told.map bL), .sl 1 (parts.map aU)])] [] _
 have hlt:(told.map bL).length=told.length:=List.length_map ..
 have hlp:(parts.map aU).length=parts.length:=List.length_map ..
 by_cases h1:parts.length < 1\/4 < parts.length\/3 < told.length
 ·rw [show kE ⟨told,parts⟩=210 from if_pos h1]
  refine aE false [1,4] hty Tryz.func62 rfl (kp [0,1,2,4,20,22,23,24,25,37]) [] _ _ _ (by simp [Tryz.f62]) (by simp) ?_
  ((conv=>whnf);repeat' ((first|(intro hq;(try simp only [lnS]at hq);(try rewrite [List.length_map]))|refine sJ ?_|refine .intro _ (.intro rfl ?_)|refine exL (k:= ?_)|refine dwR ?_|((first|refine aB ?_ ?_|refine aC ?_ ?_)<;>intro hb<;>(first|exact ddX hb|try simp only [lnS]at hb))|(refine aA ?_ ?_<;>intro hb<;>try exact dsX hb))<;>(conv=>whnf)))
  all_goals first|rfl|(exfalso;omega)
 rw [show kE ⟨told,parts⟩=if parts.any (λp=>decide (p.length < 1) || decide (12 < p.length))then 210 else 0 from if_neg h1]
 refine aE false [1,4] hty Tryz.func62 rfl (kp [0,1,2,4,20,22,23,24,25,37]) [] _ _ _ (by simp [Tryz.f62]) (by simp) ?_
 ((conv=>whnf);repeat' ((first|(intro hq;(try simp only [lnS]at hq);(try rewrite [List.length_map]))|refine sJ ?_|refine .intro _ (.intro rfl ?_)|refine exL (k:= ?_)|refine dwR ?_|((first|refine aB ?_ ?_|refine aC ?_ ?_)<;>intro hb<;>(first|exact ddX hb|try simp only [lnS]at hb))|(refine aA ?_ ?_<;>intro hb<;>try exact dsX hb))<;>(conv=>whnf)))
 refine aH hty (λj:Nat=>([(22, .d (.sl 1 (parts.map aU))),(23, .d (.int .i64 parts.length)),(24, .d (.int .i64 j))],[])) (λj=>j<=parts.length/\(parts.take j).any (λp=>decide (p.length < 1) || decide (12 < p.length))=false) (λj=>parts.length - j) 0 ⟨by omega,rfl⟩ ⟨by repeat' (first|exact trivial|exact rfl|(rw [List.length_map];exact rfl)|refine And.intro ?_ ?_),trivial⟩ ?_
 rintro j ⟨hj,hn⟩
 ((conv=>whnf);repeat ((first|(intro hq;try simp only [lnS]at hq)|refine sI ?_|refine .intro _ (.intro rfl ?_));(conv=>whnf)))
 refine aB (λh2=> ?_) (λh2=> ?_)
 ·have hjl:j < parts.length:=by omega
  have hrow:(parts.map aU)[(j:Int).toNat]? =some (aU parts[j]):=aS hjl
  have hhit:=mP (F:= λp:List At=>decide (p.length < 1) || decide (12 < p.length)) hjl
  have hsuc:=gY (F:= λp:List At=>decide (p.length < 1) || decide (12 < p.length)) hjl hn
  generalize parts[j]=x at hrow hhit hsuc
  rw [show aU x=[.sl 6 (x.map atR)]from rfl]at hrow
  have hlx:(x.map atR).length=x.length:=List.length_map ..
  ((conv=>whnf);repeat' ((first|(intro hq;(try simp only [lnS]at hq);(try rewrite [List.length_map]))|refine sJ ?_|refine .intro _ (.intro rfl ?_)|refine exL (k:= ?_)|(refine⟨_,hrow, ?_⟩)|refine dwR ?_|((first|refine aB ?_ ?_|refine aC ?_ ?_)<;>intro hb<;>(first|exact ddX hb|try simp only [lnS]at hb))|(refine aA ?_ ?_<;>intro hb<;>try exact dsX hb))<;>(conv=>whnf)))
  ·rw [if_pos (hhit (by rw [Bool.or_eq_true,decide_eq_true_eq,decide_eq_true_eq];omega))];rfl
  ·rw [if_pos (hhit (by rw [Bool.or_eq_true,decide_eq_true_eq,decide_eq_true_eq];omega))];rfl
  ·refine⟨j+1,⟨by omega,hsuc (by rw [Bool.or_eq_false_iff,decide_eq_false_iff_not,decide_eq_false_iff_not];omega)⟩,by dsimp only;omega,by repeat' (first|exact trivial|exact rfl|refine And.intro ?_ ?_),trivial⟩
 ·have hjl:j=parts.length:=by omega
  subst hjl
  rw [List.take_length]at hn
  ((conv=>whnf);repeat' ((first|(intro hq;(try simp only [lnS]at hq);(try rewrite [List.length_map]))|refine sJ ?_|refine .intro _ (.intro rfl ?_)|refine exL (k:= ?_)|refine dwR ?_|((first|refine aB ?_ ?_|refine aC ?_ ?_)<;>intro hb<;>(first|exact ddX hb|try simp only [lnS]at hb))|(refine aA ?_ ?_<;>intro hb<;>try exact dsX hb))<;>(conv=>whnf)))
  rw [if_neg (by rw [hn];decide)];rfl
theorem zK (q:Qy) (hp: ∀p∈q.parts,p.length<=100000):Tri Tryz.prog 64 [.d (.agg (qyR q))] [] (λr=>r= .d (.int .i64 (wS q.told q.parts))):=by
 obtain⟨told,parts⟩:=q
 dsimp only at hp |-
 rw [aFl]
 show Tri Tryz.prog 64 [.d (.agg [.sl 1 (told.map bL), .sl 1 (parts.map aU)])] [] _
 have hlt:(told.map bL).length=told.length:=List.length_map ..
 have hlp:(parts.map aU).length=parts.length:=List.length_map ..
 refine aE false [1,8] hty Tryz.func64 rfl (kp [0,1,2,4,5,6,8,10,11,12,13,18,21,22,23,24,33,35,36,37,38,45]) [] _ _ _ (by simp [Tryz.f64]) (by simp) ?_
 ((conv=>whnf);repeat' ((first|(intro hq;(try simp only [lnS]at hq);(try rewrite [List.length_map]))|refine sJ ?_|refine .intro _ (.intro rfl ?_)|refine exL (k:= ?_)|refine dwR ?_|((first|refine aB ?_ ?_|refine aC ?_ ?_)<;>intro hb<;>(first|exact ddX hb|try simp only [lnS]at hb))|(refine aA ?_ ?_<;>intro hb<;>try exact dsX hb))<;>(conv=>whnf)))
 refine aH hty (λj:Nat=>([(1, .ea 2 [[.sl 1 (told.map bL), .sl 1 (parts.map aU)]] 0 0),(10, .d (.sl 1 (told.map bL))),(11, .d (.int .i64 told.length)),(12, .d (.int .i64 j))],[])) (λj=>j<=told.length/\(told.take j).any (λt=> !qK t)=false) (λj=>told.length - j) 0 ⟨by omega,rfl⟩ ⟨by repeat' (first|exact trivial|exact rfl|(rw [List.length_map];exact rfl)|refine And.intro ?_ ?_),trivial⟩ ?_
 rintro j ⟨hj,hn⟩
 ((conv=>whnf);repeat ((first|(intro hq;try simp only [lnS]at hq)|refine sI ?_|refine .intro _ (.intro rfl ?_));(conv=>whnf)))
 refine aB (λh2=> ?_) (λh2=> ?_)
 ·have hjl:j < told.length:=by omega
  have hrow:(told.map bL)[(j:Int).toNat]? =some (bL told[j]):=aS hjl
  have hhit:=mP (F:= λt:List UInt8=> !qK t) hjl
  have hsuc:=gY (F:= λt:List UInt8=> !qK t) hjl hn
  generalize told[j]=x at hrow hhit hsuc
  ((conv=>whnf);repeat' ((first|(intro hq;(try simp only [lnS]at hq);(try rewrite [List.length_map]))|refine sJ ?_|refine .intro _ (.intro rfl ?_)|refine exL (k:= ?_)|(refine⟨_,hrow, ?_⟩)|(refine aD [] (oE x) trivial (λr hs=> ?_);subst hs)|refine dwR ?_|((first|refine aB ?_ ?_|refine aC ?_ ?_)<;>intro hb<;>(first|exact ddX hb|try simp only [lnS]at hb))|(refine aA ?_ ?_<;>intro hb<;>try exact dsX hb))<;>(conv=>whnf)))
  ·rw [if_pos (hhit hb)];rfl
  ·refine⟨j+1,⟨by omega,hsuc hb⟩,by dsimp only;omega,by repeat' (first|exact trivial|exact rfl|refine And.intro ?_ ?_),trivial⟩
 have hjl:j=told.length:=by omega
 subst hjl
 rw [List.take_length]at hn
 rw [if_neg (by rw [hn];decide)]
 clear hn h2
 ((conv=>whnf);repeat' ((first|(intro hq;(try simp only [lnS]at hq);(try rewrite [List.length_map]))|refine sJ ?_|refine .intro _ (.intro rfl ?_)|refine exL (k:= ?_)|refine dwR ?_|((first|refine aB ?_ ?_|refine aC ?_ ?_)<;>intro hb<;>(first|exact ddX hb|try simp only [lnS]at hb))|(refine aA ?_ ?_<;>intro hb<;>try exact dsX hb))<;>(conv=>whnf)))
 refine aH hty (λj:Nat=>([(1, .ea 2 [[.sl 1 (told.map bL), .sl 1 (parts.map aU)]] 0 0),(21, .d (.sl 1 (told.map bL))),(22, .d (.int .i64 told.length)),(23, .d (.int .i64 j))],[])) (λj=>j<=told.length/\(List.range j).any (aIe told parts)=false) (λj=>told.length - j) 0 ⟨by omega,rfl⟩ ⟨by repeat' (first|exact trivial|exact rfl|(rw [List.length_map];exact rfl)|refine And.intro ?_ ?_),trivial⟩ ?_
 rintro j ⟨hj,hn⟩
 ((conv=>whnf);repeat ((first|(intro hq;try simp only [lnS]at hq)|refine sI ?_|refine .intro _ (.intro rfl ?_));(conv=>whnf)))
 refine aB (λh2=> ?_) (λh2=> ?_)
 ·have hjl:j < told.length:=by omega
  have hrow:(told.map bL)[(j:Int).toNat]? =some (bL told[j]):=aS hjl
  have hhit:=rV (F:=aIe told parts) hjl
  have hsuc:=qG (F:=aIe told parts) hn
  have hbad:aIe told parts j=(decide (told[j]∈told.take j) || parts.any (λp=> !decide (told[j]∈dB p))):=by
   unfold aIe
   rw [show told.getD j []=told[j]by rw [List.getD_eq_getElem?_getD,List.getElem?_eq_getElem hjl];rfl,List.contains_eq_mem]
   simp only [List.contains_eq_mem]
  have hc:=mN (told.take j) told[j]
  generalize told[j]=x at hrow hbad hc
  rw [List.map_take]at hc
  rw [hbad]at hhit hsuc
  ((conv=>whnf);repeat ((first|(refine⟨_,hrow, ?_⟩)|(intro hq;try simp only [lnS]at hq)|refine sI ?_|refine .intro _ (.intro rfl ?_));(conv=>whnf)))
  refine aD [] hc trivial (λr hs=> ?_)
  subst hs
  ((conv=>whnf);repeat ((first|(intro hq;try simp only [lnS]at hq)|refine sI ?_|refine .intro _ (.intro rfl ?_));(conv=>whnf)))
  refine aB (λh3=> ?_) (λh3=> ?_)
  ·((conv=>whnf);repeat' ((first|(intro hq;(try simp only [lnS]at hq);(try rewrite [List.length_map]))|refine sJ ?_|refine .intro _ (.intro rfl ?_)|refine exL (k:= ?_)|refine dwR ?_|((first|refine aB ?_ ?_|refine aC ?_ ?_)<;>intro hb<;>(first|exact ddX hb|try simp only [lnS]at hb))|(refine aA ?_ ?_<;>intro hb<;>try exact dsX hb))<;>(conv=>whnf)))
   rw [if_pos (hhit (by rw [decide_eq_true h3];rfl))];rfl
  rw [decide_eq_false h3,Bool.false_or]at hhit hsuc
  ((conv=>whnf);repeat ((first|(intro hq;try simp only [lnS]at hq)|refine sI ?_|refine .intro _ (.intro rfl ?_));(conv=>whnf)))
  refine aH hty (λi:Nat=>([(1, .ea 2 [[.sl 1 (told.map bL), .sl 1 (parts.map aU)]] 0 0),(6, .d (.str x)),(21, .d (.sl 1 (told.map bL))),(22, .d (.int .i64 told.length)),(23, .d (.int .i64 j)),(35, .d (.sl 1 (parts.map aU))),(36, .d (.int .i64 parts.length)),(37, .d (.int .i64 i))],[])) (λi=>i<=parts.length/\(parts.take i).any (λp=> !decide (x∈dB p))=false) (λi=>parts.length - i) 0 ⟨by omega,rfl⟩ ⟨by repeat' (first|exact trivial|exact rfl|(rw [List.length_map];exact rfl)|refine And.intro ?_ ?_),trivial⟩ ?_
  rintro i ⟨hi,hm⟩
  ((conv=>whnf);repeat ((first|(intro hq;try simp only [lnS]at hq)|refine sI ?_|refine .intro _ (.intro rfl ?_));(conv=>whnf)))
  refine aB (λh4=> ?_) (λh4=> ?_)
  ·have hil:i < parts.length:=by omega
   have hrow2:(parts.map aU)[(i:Int).toNat]? =some (aU parts[i]):=aS hil
   have hhit2:=mP (F:= λp:List At=> !decide (x∈dB p)) hil
   have hsuc2:=gY (F:= λp:List At=> !decide (x∈dB p)) hil hm
   have hv:=pZ parts[i] (hp _ (List.getElem_mem hil))
   have hc2:=mN (aAv parts[i]) x
   have hmem:=(wN parts[i]).2 x
   generalize parts[i]=y at hrow2 hhit2 hsuc2 hv hc2 hmem
   rw [show decide (x∈aAv y)=decide (x∈dB y)from decide_eq_decide.2 hmem]at hc2
   generalize (aAv y).map bL=vy at hv hc2
   rw [show aU y=[.sl 6 (y.map atR)]from rfl]at hrow2 hv
   ((conv=>whnf);repeat' ((first|(intro hq;(try simp only [lnS]at hq);(try rewrite [List.length_map]))|refine sJ ?_|refine .intro _ (.intro rfl ?_)|refine exL (k:= ?_)|(refine⟨_,hrow2, ?_⟩)|(refine aD [] hv trivial (λr hs=> ?_);subst hs)|(refine aD [] hc2 trivial (λr hs=> ?_);subst hs)|refine dwR ?_|((first|refine aB ?_ ?_|refine aC ?_ ?_)<;>intro hb<;>(first|exact ddX hb|try simp only [lnS]at hb))|(refine aA ?_ ?_<;>intro hb<;>try exact dsX hb))<;>(conv=>whnf)))
   ·rw [if_pos (hhit (hhit2 (by rw [decide_eq_false hb];rfl)))];rfl
   ·exact⟨i+1,⟨by omega,hsuc2 (by rw [decide_eq_true hb];rfl)⟩,by dsimp only;omega,by repeat' (first|exact trivial|exact rfl|refine And.intro ?_ ?_),trivial⟩
  ·have hil:i=parts.length:=by omega
   subst hil
   rw [List.take_length]at hm
   ((conv=>whnf);repeat' ((first|(intro hq;(try simp only [lnS]at hq);(try rewrite [List.length_map]))|refine sJ ?_|refine .intro _ (.intro rfl ?_)|refine exL (k:= ?_)|refine dwR ?_|((first|refine aB ?_ ?_|refine aC ?_ ?_)<;>intro hb<;>(first|exact ddX hb|try simp only [lnS]at hb))|(refine aA ?_ ?_<;>intro hb<;>try exact dsX hb))<;>(conv=>whnf)))
   exact⟨j+1,⟨by omega,hsuc hm⟩,by dsimp only;omega,by repeat' (first|exact trivial|exact rfl|refine And.intro ?_ ?_),trivial⟩
 ·have hjl:j=told.length:=by omega
  subst hjl
  rw [if_neg (by rw [hn];decide)]
  ((conv=>whnf);repeat' ((first|(intro hq;(try simp only [lnS]at hq);(try rewrite [List.length_map]))|refine sJ ?_|refine .intro _ (.intro rfl ?_)|refine exL (k:= ?_)|refine dwR ?_|((first|refine aB ?_ ?_|refine aC ?_ ?_)<;>intro hb<;>(first|exact ddX hb|try simp only [lnS]at hb))|(refine aA ?_ ?_<;>intro hb<;>try exact dsX hb))<;>(conv=>whnf)))
  rfl
end Go.Proofs.YtleihcnongldbaaGreatDoor
