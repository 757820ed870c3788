/-
  Queries: the roles of a query where there are no axioms; Check.
  Conditions: none.
-/
import Derived.Test.YtdjfkmkdkclahaaGreatDoorVQqg
set_option linter.unnecessarySimpa false
set_option linter.unusedSectionVars false
set_option linter.unusedSimpArgs false
set_option linter.unusedVariables false
set_option maxHeartbeats 16000000
namespace Go.Proofs.YtdjfkmkdkclahaaGreatDoor
open Go.Proofs Go.RowKit
set_option maxRecDepth 10000
attribute [local irreducible] aL aH Tri aI YVC bP aS
theorem zC (told:List (List UInt8)) (d:D) (t:List UInt8):Tri Tryz.prog 101 [.d (.str t), .ea 2 [[.sl 1 (told.map aV),d]] 0 0] [] (λr=>r= .d (.bool (bE t && !decide (t∈told)))):=by
 have hc:=jH told t
 refine aF hty Tryz.func101 rfl (kp [0,1,3]) [] _ _ _ (by simp [Tryz.f101]) (by simp) ?_
 ((conv=>whnf);repeat' ((first|(intro hq;(try simp only [lnS]at hq);(try rewrite [List.length_map]))|refine sJ ?_|refine .intro _ (.intro rfl ?_)|refine exL (k:= ?_)|(refine aA [] (eC t) trivial (λr hs=> ?_);subst hs)|(refine aA [] hc trivial (λr hs=> ?_);subst hs)|refine dwR ?_|((first|refine aC ?_ ?_|refine aD ?_ ?_)<;>intro hb<;>(first|exact ddX hb|try simp only [lnS]at hb))|(refine aB ?_ ?_<;>intro hb<;>try exact dsX hb))<;>(conv=>whnf)))
 ·refine aN ?_
  rw [show bE t=true from decide_eq_true hb,Bool.true_and]
 ·refine aN ?_
  rw [show bE t=false from decide_eq_false hb,Bool.false_and]
theorem aGu (q:Qy) (hn: ∀p∈q.parts,∀a∈p,cT a.name=true):Tri Tryz.prog 63 [.d (.agg (qyR q)), .d .nil] [] (λr=>r= .d (.int .i64 0)):=by
 obtain⟨told,parts⟩:=q
 dsimp only at hn
 show Tri Tryz.prog 63 [.d (.agg [.sl 1 (told.map aV), .sl 1 (parts.map aK)]), .d .nil] [] _
 have hlp:(parts.map aK).length=parts.length:=List.length_map ..
 refine aG false [2,8,10] hty Tryz.func63 rfl (kp [0,1,2,4,6,8,10,11,12,13,14,15,16,17,23,27,28,29,30,34,35,36,37,57,66,69]) [] _ _ _ (by simp [Tryz.f63]) (by simp) ?_
 ((conv=>whnf);repeat ((first|(intro hq;try simp only [lnS]at hq)|refine sI ?_|refine .intro _ (.intro rfl ?_));(conv=>whnf)))
 refine dI hty 2 ?_
 ((conv=>whnf);repeat ((first|(intro hq;try simp only [lnS]at hq)|refine sI ?_|refine .intro _ (.intro rfl ?_));(conv=>whnf)))
 refine aJ hty (λj:Nat=>([(1, .d .nil),(2, .ea 2 [[.sl 1 (told.map aV), .sl 1 (parts.map aK)]] 0 0),(27, .d (.sl 1 (parts.map aK))),(28, .d (.int .i64 parts.length)),(29, .d (.int .i64 j))],[])) (λj=>j<=parts.length) (λj=>parts.length - j) 0 (by omega) ⟨by repeat' (first|exact trivial|exact rfl|(rw [List.length_map];exact rfl)|refine And.intro ?_ ?_),trivial⟩ ?_
 rintro j hj
 ((conv=>whnf);repeat ((first|(intro hq;try simp only [lnS]at hq)|refine sI ?_|refine .intro _ (.intro rfl ?_));(conv=>whnf)))
 refine aC (λh2=> ?_) (λh2=> ?_)
 ·have hjl:j < parts.length:=by omega
  have hrow:(parts.map aK)[(j:Int).toNat]? =some (aK parts[j]):=aO hjl
  have hnx:=hn _ (List.getElem_mem hjl)
  generalize parts[j]=x at hrow hnx
  rw [show aK x=[.sl 6 (x.map atR)]from rfl]at hrow
  have hlx:(x.map atR).length=x.length:=List.length_map ..
  ((conv=>whnf);repeat ((first|(refine⟨_,hrow, ?_⟩)|(intro hq;try simp only [lnS]at hq)|refine sI ?_|refine .intro _ (.intro rfl ?_));(conv=>whnf)))
  refine aJ hty (λi:Nat=>([(1, .d .nil),(2, .ea 2 [[.sl 1 (told.map aV), .sl 1 (parts.map aK)]] 0 0),(27, .d (.sl 1 (parts.map aK))),(28, .d (.int .i64 parts.length)),(29, .d (.int .i64 j)),(34, .d (.sl 6 (x.map atR))),(35, .d (.int .i64 x.length)),(36, .d (.int .i64 i))],[])) (λi=>i<=x.length) (λi=>x.length - i) 0 (by omega) ⟨by repeat' (first|exact trivial|exact rfl|(rw [List.length_map];exact rfl)|refine And.intro ?_ ?_),trivial⟩ ?_
  rintro i hi
  ((conv=>whnf);repeat ((first|(intro hq;try simp only [lnS]at hq)|refine sI ?_|refine .intro _ (.intro rfl ?_));(conv=>whnf)))
  refine aC (λh4=> ?_) (λh4=> ?_)
  ·have hil:i < x.length:=by omega
   have hrow2:(x.map atR)[(i:Int).toNat]? =some (atR x[i]):=aO hil
   have hny:=hnx _ (List.getElem_mem hil)
   generalize x[i]=y at hrow2 hny
   obtain⟨kd,nm,xx,yy,lo,hi'⟩:=y
   rw [show atR ⟨kd,nm,xx,yy,lo,hi'⟩=[.int .i64 kd, .str nm, .str xx, .str yy, .int .i64 lo, .int .i64 hi']from rfl]at hrow2
   dsimp only at hny
   have hs:=aRr nm hny
   have h1:=zC told (.sl 1 (parts.map aK)) xx
   have h3:=zC told (.sl 1 (parts.map aK)) yy
   ((conv=>whnf);repeat' ((first|(intro hq;(try simp only [lnS]at hq);(try rewrite [List.length_map]))|refine sJ ?_|refine .intro _ (.intro rfl ?_)|refine exL (k:= ?_)|(refine⟨_,hrow2, ?_⟩)|(refine aA [] hs trivial (λr hs=> ?_);subst hs)|(refine aA [] h1 trivial (λr hs=> ?_);subst hs)|(refine aA [] h3 trivial (λr hs=> ?_);subst hs)|refine dwR ?_|((first|refine aC ?_ ?_|refine aD ?_ ?_)<;>intro hb<;>(first|exact ddX hb|try simp only [lnS]at hb))|(refine aB ?_ ?_<;>intro hb<;>try exact dsX hb))<;>(conv=>whnf)))
   all_goals exact⟨i+1,by omega,by dsimp only;omega,by repeat' (first|exact trivial|exact rfl|refine And.intro ?_ ?_),trivial⟩
  ·((conv=>whnf);repeat' ((first|(intro hq;(try simp only [lnS]at hq);(try rewrite [List.length_map]))|refine sJ ?_|refine .intro _ (.intro rfl ?_)|refine exL (k:= ?_)|refine dwR ?_|((first|refine aC ?_ ?_|refine aD ?_ ?_)<;>intro hb<;>(first|exact ddX hb|try simp only [lnS]at hb))|(refine aB ?_ ?_<;>intro hb<;>try exact dsX hb))<;>(conv=>whnf)))
   exact⟨j+1,by omega,by dsimp only;omega,by repeat' (first|exact trivial|exact rfl|refine And.intro ?_ ?_),trivial⟩
 ·((conv=>whnf);repeat' ((first|(intro hq;(try simp only [lnS]at hq);(try rewrite [List.length_map]))|refine sJ ?_|refine .intro _ (.intro rfl ?_)|refine exL (k:= ?_)|refine dwR ?_|((first|refine aC ?_ ?_|refine aD ?_ ?_)<;>intro hb<;>(first|exact ddX hb|try simp only [lnS]at hb))|(refine aB ?_ ?_<;>intro hb<;>try exact dsX hb))<;>(conv=>whnf)))
  rfl
theorem aIk {a:At}(h:atE a=0):cT a.name=true:=by
 unfold atE at h
 split at h
 ·simp at h
 ·split at h
  ·simp at h
  ·split at h
   ·simp at h
   ·split at h
    ·simp at h
    ·rename_i h4
     cases hi:aDk a.name
     ·exact absurd hi h4
     ·unfold aDk at hi
      rw [Bool.and_eq_true]at hi
      exact hi.1
theorem xL (q:Qy):Tri Tryz.prog 29 [.d (.agg (qyR q)), .d .nil] [] (λr=>r= .d (.int .i64 (qE q))):=by
 rw [aOr]
 have hshape:=zY q
 have htold:=aAz q
 have hroles:=aGu q
 have hsh:iE q=0-> ∀p∈q.parts,p.length<=100000:=by
  intro h p hp
  unfold iE at h
  split at h
  ·simp at h
  ·split at h
   ·simp at h
   ·rename_i h1 h2
    have h3:(q.parts.any λp=>decide (p.length < 1) || decide (12 < p.length))=false:=by simpa using h2
    have h4:=List.any_eq_false.1 h3 p hp
    simp at h4
    omega
 generalize iE q=se at *
 obtain⟨told,parts⟩:=q
 dsimp only at *
 show Tri Tryz.prog 29 [.d (.agg [.sl 1 (told.map aV), .sl 1 (parts.map aK)]), .d .nil] [] _
 rw [show qyR ⟨told,parts⟩=[.sl 1 (told.map aV), .sl 1 (parts.map aK)]from rfl]at hshape htold hroles
 have hlp:(parts.map aK).length=parts.length:=List.length_map ..
 refine aG false [2,6,8,10] hty Tryz.func29 rfl (kp [0,1,2,4,6,8,10,14,17,18,19,20,24,25,26,27,33,40,43,44,45,46,52]) [] _ _ _ (by simp [Tryz.f29]) (by simp) ?_
 ((conv=>whnf);repeat ((first|(refine aA [] hshape trivial (λr hs=> ?_);subst hs)|(intro hq;try simp only [lnS]at hq)|refine sI ?_|refine .intro _ (.intro rfl ?_));(conv=>whnf)))
 refine aD (λq1=> ?_) (λq1=> ?_)
 ·rw [if_pos q1]
  ((conv=>whnf);repeat' ((first|(intro hq;(try simp only [lnS]at hq);(try rewrite [List.length_map]))|refine sJ ?_|refine .intro _ (.intro rfl ?_)|refine exL (k:= ?_)|refine dwR ?_|((first|refine aC ?_ ?_|refine aD ?_ ?_)<;>intro hb<;>(first|exact ddX hb|try simp only [lnS]at hb))|(refine aB ?_ ?_<;>intro hb<;>try exact dsX hb))<;>(conv=>whnf)))
  rfl
 have q1:se=0:=by simpa using q1
 have hpl:=hsh q1
 have htold:=htold hpl
 rw [if_neg (by simpa using q1)]
 clear hshape hsh
 ((conv=>whnf);repeat ((first|(intro hq;try simp only [lnS]at hq)|refine sI ?_|refine .intro _ (.intro rfl ?_));(conv=>whnf)))
 refine aJ hty (λj:Nat=>([(1, .d .nil),(2, .ea 2 [[.sl 1 (told.map aV), .sl 1 (parts.map aK)]] 0 0),(17, .d (.sl 1 (parts.map aK))),(18, .d (.int .i64 parts.length)),(19, .d (.int .i64 j))],[])) (λj=>j<=parts.length/\cE parts.flatten=cE (parts.drop j).flatten) (λj=>parts.length - j) 0 ⟨by omega,rfl⟩ ⟨by repeat' (first|exact trivial|exact rfl|(rw [List.length_map];exact rfl)|refine And.intro ?_ ?_),trivial⟩ ?_
 rintro j ⟨hj,hf⟩
 ((conv=>whnf);repeat ((first|(intro hq;try simp only [lnS]at hq)|refine sI ?_|refine .intro _ (.intro rfl ?_));(conv=>whnf)))
 refine aC (λh2=> ?_) (λh2=> ?_)
 ·have hjl:j < parts.length:=by omega
  have hrow:(parts.map aK)[(j:Int).toNat]? =some (aK parts[j]):=aO hjl
  rw [List.drop_eq_getElem_cons hjl,List.flatten_cons]at hf
  generalize parts[j]=x at hrow hf
  rw [show aK x=[.sl 6 (x.map atR)]from rfl]at hrow
  have hlx:(x.map atR).length=x.length:=List.length_map ..
  ((conv=>whnf);repeat ((first|(refine⟨_,hrow, ?_⟩)|(intro hq;try simp only [lnS]at hq)|refine sI ?_|refine .intro _ (.intro rfl ?_));(conv=>whnf)))
  refine aJ hty (λi:Nat=>([(1, .d .nil),(2, .ea 2 [[.sl 1 (told.map aV), .sl 1 (parts.map aK)]] 0 0),(17, .d (.sl 1 (parts.map aK))),(18, .d (.int .i64 parts.length)),(19, .d (.int .i64 j)),(24, .d (.sl 6 (x.map atR))),(25, .d (.int .i64 x.length)),(26, .d (.int .i64 i))],[])) (λi=>i<=x.length/\cE parts.flatten=cE (x.drop i++(parts.drop (j+1)).flatten)) (λi=>x.length - i) 0 ⟨by omega,hf⟩ ⟨by repeat' (first|exact trivial|exact rfl|(rw [List.length_map];exact rfl)|refine And.intro ?_ ?_),trivial⟩ ?_
  rintro i ⟨hi,hg⟩
  ((conv=>whnf);repeat ((first|(intro hq;try simp only [lnS]at hq)|refine sI ?_|refine .intro _ (.intro rfl ?_));(conv=>whnf)))
  refine aC (λh4=> ?_) (λh4=> ?_)
  ·have hil:i < x.length:=by omega
   have hrow2:(x.map atR)[(i:Int).toNat]? =some (atR x[i]):=aO hil
   rw [List.drop_eq_getElem_cons hil,List.cons_append,cE]at hg
   generalize x[i]=y at hrow2 hg
   have ha:=aB0 y
   generalize atE y=ae at ha hg
   obtain⟨kd,nm,xx,yy,lo,hi'⟩:=y
   rw [show atR ⟨kd,nm,xx,yy,lo,hi'⟩=[.int .i64 kd, .str nm, .str xx, .str yy, .int .i64 lo, .int .i64 hi']from rfl]at hrow2 ha
   ((conv=>whnf);repeat' ((first|(intro hq;(try simp only [lnS]at hq);(try rewrite [List.length_map]))|refine sJ ?_|refine .intro _ (.intro rfl ?_)|refine exL (k:= ?_)|(refine⟨_,hrow2, ?_⟩)|(refine aA [] ha trivial (λr hs=> ?_);subst hs)|refine dwR ?_|((first|refine aC ?_ ?_|refine aD ?_ ?_)<;>intro hb<;>(first|exact ddX hb|try simp only [lnS]at hb))|(refine aB ?_ ?_<;>intro hb<;>try exact dsX hb))<;>(conv=>whnf)))
   ·rw [hg,if_pos hb,if_pos hb];rfl
   ·exact⟨i+1,⟨by omega,by rw [hg,if_neg (by simpa using hb)]⟩,by dsimp only;omega,by repeat' (first|exact trivial|exact rfl|refine And.intro ?_ ?_),trivial⟩
  ·have hil:i=x.length:=by omega
   subst hil
   rw [List.drop_length,List.nil_append]at hg
   ((conv=>whnf);repeat' ((first|(intro hq;(try simp only [lnS]at hq);(try rewrite [List.length_map]))|refine sJ ?_|refine .intro _ (.intro rfl ?_)|refine exL (k:= ?_)|refine dwR ?_|((first|refine aC ?_ ?_|refine aD ?_ ?_)<;>intro hb<;>(first|exact ddX hb|try simp only [lnS]at hb))|(refine aB ?_ ?_<;>intro hb<;>try exact dsX hb))<;>(conv=>whnf)))
   exact⟨j+1,⟨by omega,hg⟩,by dsimp only;omega,by repeat' (first|exact trivial|exact rfl|refine And.intro ?_ ?_),trivial⟩
 have hjl:j=parts.length:=by omega
 subst hjl
 rw [List.drop_length]at hf
 have hf:cE parts.flatten=0:=hf
 have hroles:=hroles λp hp a ha=>aIk ((cV _).1 hf a (List.mem_flatten.2 ⟨p,hp,ha⟩))
 rw [if_neg (by simpa using hf)]
 generalize sN told parts=te at *
 ((conv=>whnf);repeat ((first|(refine aA [] htold trivial (λr hs=> ?_);subst hs)|(intro hq;try simp only [lnS]at hq)|refine sI ?_|refine .intro _ (.intro rfl ?_));(conv=>whnf)))
 refine aD (λq2=> ?_) (λq2=> ?_)
 ·rw [if_pos q2]
  ((conv=>whnf);repeat' ((first|(intro hq;(try simp only [lnS]at hq);(try rewrite [List.length_map]))|refine sJ ?_|refine .intro _ (.intro rfl ?_)|refine exL (k:= ?_)|refine dwR ?_|((first|refine aC ?_ ?_|refine aD ?_ ?_)<;>intro hb<;>(first|exact ddX hb|try simp only [lnS]at hb))|(refine aB ?_ ?_<;>intro hb<;>try exact dsX hb))<;>(conv=>whnf)))
  rfl
 have q2:te=0:=by simpa using q2
 rw [if_neg (by simpa using q2)]
 clear hf hj h2 htold
 ((conv=>whnf);repeat ((first|(intro hq;try simp only [lnS]at hq)|refine sI ?_|refine .intro _ (.intro rfl ?_));(conv=>whnf)))
 refine aJ hty (λj:Nat=>([(1, .d .nil),(2, .ea 2 [[.sl 1 (told.map aV), .sl 1 (parts.map aK)]] 0 0),(43, .d (.sl 1 (parts.map aK))),(44, .d (.int .i64 parts.length)),(45, .d (.int .i64 j))],[])) (λj=>j<=parts.length/\(parts.take j).any (λp=>decide (8 < (cD p).eraseDups.length))=false) (λj=>parts.length - j) 0 ⟨by omega,rfl⟩ ⟨by repeat' (first|exact trivial|exact rfl|(rw [List.length_map];exact rfl)|refine And.intro ?_ ?_),trivial⟩ ?_
 rintro j ⟨hj,hm⟩
 ((conv=>whnf);repeat ((first|(intro hq;try simp only [lnS]at hq)|refine sI ?_|refine .intro _ (.intro rfl ?_));(conv=>whnf)))
 refine aC (λh4=> ?_) (λh4=> ?_)
 ·have hil:j < parts.length:=by omega
  have hrow2:(parts.map aK)[(j:Int).toNat]? =some (aK parts[j]):=aO hil
  have hhit2:=jL (F:= λp:List At=>decide (8 < (cD p).eraseDups.length)) hil
  have hsuc2:=fL (F:= λp:List At=>decide (8 < (cD p).eraseDups.length)) hil hm
  have hv:=gT parts[j] (hpl _ (List.getElem_mem hil))
  have hvl:=aDu parts[j]
  generalize parts[j]=y at hrow2 hhit2 hsuc2 hv hvl
  rw [<-hvl]at hhit2 hsuc2
  generalize cG y=vy at hv hvl hhit2 hsuc2
  rw [show aK y=[.sl 6 (y.map atR)]from rfl]at hrow2 hv
  have hlv:(vy.map aV).length=vy.length:=List.length_map ..
  ((conv=>whnf);repeat' ((first|(intro hq;(try simp only [lnS]at hq);(try rewrite [List.length_map]))|refine sJ ?_|refine .intro _ (.intro rfl ?_)|refine exL (k:= ?_)|(refine⟨_,hrow2, ?_⟩)|(refine aA [] hv trivial (λr hs=> ?_);subst hs)|refine dwR ?_|((first|refine aC ?_ ?_|refine aD ?_ ?_)<;>intro hb<;>(first|exact ddX hb|try simp only [lnS]at hb))|(refine aB ?_ ?_<;>intro hb<;>try exact dsX hb))<;>(conv=>whnf)))
  ·rw [if_pos (hhit2 (by rw [decide_eq_true_eq];omega))];rfl
  ·exact⟨j+1,⟨by omega,hsuc2 (by rw [decide_eq_false_iff_not];omega)⟩,by dsimp only;omega,by repeat' (first|exact trivial|exact rfl|refine And.intro ?_ ?_),trivial⟩
 ·have hil:j=parts.length:=by omega
  subst hil
  rw [List.take_length]at hm
  rw [if_neg (by rw [hm];decide)]
  ((conv=>whnf);repeat' ((first|(intro hq;(try simp only [lnS]at hq);(try rewrite [List.length_map]))|refine sJ ?_|refine .intro _ (.intro rfl ?_)|refine exL (k:= ?_)|(refine aA [] hroles trivial (λr hs=> ?_);subst hs)|refine dwR ?_|((first|refine aC ?_ ?_|refine aD ?_ ?_)<;>intro hb<;>(first|exact ddX hb|try simp only [lnS]at hb))|(refine aB ?_ ?_<;>intro hb<;>try exact dsX hb))<;>(conv=>whnf)))
  rfl
end Go.Proofs.YtdjfkmkdkclahaaGreatDoor
