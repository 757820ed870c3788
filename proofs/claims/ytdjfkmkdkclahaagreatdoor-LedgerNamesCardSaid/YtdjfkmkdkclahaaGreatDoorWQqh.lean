/-
  Queries: the roles of a query where there are no axioms; Check.
  Conditions: none.
-/
import Derived.Test.YtdjfkmkdkclahaaGreatDoorWQqg
set_option linter.unnecessarySimpa false
set_option linter.unusedSectionVars false
set_option linter.unusedSimpArgs false
set_option linter.unusedVariables false
set_option maxHeartbeats 16000000
namespace Go.Proofs.YtdjfkmkdkclahaaGreatDoor
open Go.Proofs Go.RowKit
set_option maxRecDepth 10000
attribute [local irreducible] aH aF Tri aD YVC bO aP
theorem rB (told:List (List UInt8)) (d:D) (t:List UInt8):Tri Tryz.prog 101 [.d (.str t), .ea 2 [[.sl 1 (told.map aT),d]] 0 0] [] (λr=>r= .d (.bool (aS t && !decide (t∈told)))):=by
 have hc:=iA told t
 refine qG [] hty Tryz.func101 [0,1,3] ?_
 ((conv=>whnf);repeat' ((first|(intro hq;(try simp only [lnS]at hq);(try rewrite [List.length_map]))|refine sJ ?_|refine qE_ ?_|refine exL (k:=?_)| refine qT (dT t) ?_|refine qT hc ?_|refine dwR ?_|((first|refine aB ?_ ?_|refine aC ?_ ?_)<;>intro hb<;>(first|exact ddX hb|try simp only [lnS]at hb))|(refine aA ?_ ?_<;>intro hb<;>try exact dsX hb))<;>(conv=>whnf)))
 ·refine aJ ?_
  rw [show aS t=true from decide_eq_true hb,Bool.true_and]
 ·refine aJ ?_
  rw [show aS t=false from decide_eq_false hb,Bool.false_and]
theorem aAs (q:Qy) (hn: ∀p∈q.parts,∀a∈p,cQ a.name=true):Tri Tryz.prog 63 [.d (.agg (qyR q)), .d .nil] [] (λr=>r= .d (.int .i64 0)):=by
 obtain⟨told,parts⟩:=q
 dsimp only at hn
 show Tri Tryz.prog 63 [.d (.agg [.sl 1 (told.map aT), .sl 1 (parts.map aI)]), .d .nil] [] _
 have hlp:(parts.map aI).length=parts.length:=List.length_map ..
 refine qG [2,8,10] hty Tryz.func63 [0,1,2,4,6,8,10,11,12,13,14,15,16,17,23,27,28,29,30,34,35,36,37,57,66,69] ?_
 ((conv=>whnf);repeat ((first |(intro hq;try simp only [lnS]at hq)|refine sI ?_|refine qE_ ?_);conv=>whnf))
 refine dC hty 2 ?_
 ((conv=>whnf);repeat ((first |(intro hq;try simp only [lnS]at hq)|refine sI ?_|refine qE_ ?_);conv=>whnf))
 refine aG hty (λj:Nat=>([(1, .d .nil),(2, .ea 2 [[.sl 1 (told.map aT), .sl 1 (parts.map aI)]] 0 0),(27, .d (.sl 1 (parts.map aI))),(28, .d (.int .i64 parts.length)),(29, .d (.int .i64 j))],[])) (λj=>j<=parts.length) (λj=>parts.length - j) 0 (by omega) ⟨by repeat' (first|exact trivial|exact rfl|(rw [List.length_map];exact rfl)|refine And.intro ?_ ?_),trivial⟩ ?_
 rintro j hj
 ((conv=>whnf);repeat ((first |(intro hq;try simp only [lnS]at hq)|refine sI ?_|refine qE_ ?_);conv=>whnf))
 refine aB (λh2=> ?_) (λh2=> ?_)
 ·have hjl:j < parts.length:=by omega
  have hrow:(parts.map aI)[(j:Int).toNat]? =some (aI parts[j]):=aK hjl
  have hnx:=hn _ (List.getElem_mem hjl)
  generalize parts[j]=x at hrow hnx
  rw [show aI x=[.sl 6 (x.map atR)]from rfl]at hrow
  have hlx:(x.map atR).length=x.length:=List.length_map ..
  ((conv=>whnf);repeat ((first|(refine⟨_,hrow, ?_⟩) |(intro hq;try simp only [lnS]at hq)|refine sI ?_|refine qE_ ?_);conv=>whnf))
  refine aG hty (λi:Nat=>([(1, .d .nil),(2, .ea 2 [[.sl 1 (told.map aT), .sl 1 (parts.map aI)]] 0 0),(27, .d (.sl 1 (parts.map aI))),(28, .d (.int .i64 parts.length)),(29, .d (.int .i64 j)),(34, .d (.sl 6 (x.map atR))),(35, .d (.int .i64 x.length)),(36, .d (.int .i64 i))],[])) (λi=>i<=x.length) (λi=>x.length - i) 0 (by omega) ⟨by repeat' (first|exact trivial|exact rfl|(rw [List.length_map];exact rfl)|refine And.intro ?_ ?_),trivial⟩ ?_
  rintro i hi
  ((conv=>whnf);repeat ((first |(intro hq;try simp only [lnS]at hq)|refine sI ?_|refine qE_ ?_);conv=>whnf))
  refine aB (λh4=> ?_) (λh4=> ?_)
  ·have hil:i < x.length:=by omega
   have hrow2:(x.map atR)[(i:Int).toNat]? =some (atR x[i]):=aK hil
   have hny:=hnx _ (List.getElem_mem hil)
   generalize x[i]=y at hrow2 hny
   obtain⟨kd,nm,xx,yy,lo,hi'⟩:=y
   rw [show atR ⟨kd,nm,xx,yy,lo,hi'⟩=[.int .i64 kd, .str nm, .str xx, .str yy, .int .i64 lo, .int .i64 hi']from rfl]at hrow2
   dsimp only at hny
   have hs:=aL0 nm hny
   have h1:=rB told (.sl 1 (parts.map aI)) xx
   have h3:=rB told (.sl 1 (parts.map aI)) yy
   ((conv=>whnf);repeat' ((first|(intro hq;(try simp only [lnS]at hq);(try rewrite [List.length_map]))|refine sJ ?_|refine qE_ ?_|refine exL (k:=?_)| (refine⟨_,hrow2, ?_⟩)|refine qT hs ?_|refine qT h1 ?_|refine qT h3 ?_|refine dwR ?_|((first|refine aB ?_ ?_|refine aC ?_ ?_)<;>intro hb<;>(first|exact ddX hb|try simp only [lnS]at hb))|(refine aA ?_ ?_<;>intro hb<;>try exact dsX hb))<;>(conv=>whnf)))
   all_goals exact⟨i+1,by omega,qO,qB,trivial⟩
  ·((conv=>whnf);repeat' ((first|(intro hq;(try simp only [lnS]at hq);(try rewrite [List.length_map]))|refine sJ ?_|refine qE_ ?_|refine exL (k:=?_)|refine dwR ?_|((first|refine aB ?_ ?_|refine aC ?_ ?_)<;>intro hb<;>(first|exact ddX hb|try simp only [lnS]at hb))|(refine aA ?_ ?_<;>intro hb<;>try exact dsX hb))<;>(conv=>whnf)))
   exact⟨j+1,by omega,qO,qB,trivial⟩
 ·((conv=>whnf);repeat' ((first|(intro hq;(try simp only [lnS]at hq);(try rewrite [List.length_map]))|refine sJ ?_|refine qE_ ?_|refine exL (k:=?_)|refine dwR ?_|((first|refine aB ?_ ?_|refine aC ?_ ?_)<;>intro hb<;>(first|exact ddX hb|try simp only [lnS]at hb))|(refine aA ?_ ?_<;>intro hb<;>try exact dsX hb))<;>(conv=>whnf)))
  rfl
theorem aCe {a:At}(h:atE a=0):cQ a.name=true:=by
 unfold atE at h
 split at h
 ·simp at h
 ·split at h
  ·simp at h
  ·split at h
   ·simp at h
   ·split at h
    ·simp at h
    ·rename_i h4
     cases hi:wK a.name
     ·exact absurd hi h4
     ·unfold wK at hi
      rw [Bool.and_eq_true]at hi
      exact hi.1
theorem pF (q:Qy):Tri Tryz.prog 29 [.d (.agg (qyR q)), .d .nil] [] (λr=>r= .d (.int .i64 (qE q))):=by
 rw [aIa]
 have hshape:=rT q
 have htold:=tC q
 have hroles:=aAs q
 have hsh:gK q=0-> ∀p∈q.parts,p.length<=100000:=by
  intro h p hp
  unfold gK at h
  split at h
  ·simp at h
  ·split at h
   ·simp at h
   ·rename_i h1 h2
    have h3:(q.parts.any λp=>decide (p.length < 1) || decide (12 < p.length))=false:=by simpa using h2
    have h4:=List.any_eq_false.1 h3 p hp
    simp at h4
    omega
 generalize gK q=se at *
 obtain⟨told,parts⟩:=q
 dsimp only at *
 show Tri Tryz.prog 29 [.d (.agg [.sl 1 (told.map aT), .sl 1 (parts.map aI)]), .d .nil] [] _
 rw [show qyR ⟨told,parts⟩=[.sl 1 (told.map aT), .sl 1 (parts.map aI)]from rfl]at hshape htold hroles
 have hlp:(parts.map aI).length=parts.length:=List.length_map ..
 refine qG [2,6,8,10] hty Tryz.func29 [0,1,2,4,6,8,10,14,17,18,19,20,24,25,26,27,33,40,43,44,45,46,52] ?_
 ((conv=>whnf);repeat ((first|refine qT hshape ?_ |(intro hq;try simp only [lnS]at hq)|refine sI ?_|refine qE_ ?_);conv=>whnf))
 refine aC (λq1=> ?_) (λq1=> ?_)
 ·rw [if_pos q1]
  ((conv=>whnf);repeat' ((first|(intro hq;(try simp only [lnS]at hq);(try rewrite [List.length_map]))|refine sJ ?_|refine qE_ ?_|refine exL (k:=?_)|refine dwR ?_|((first|refine aB ?_ ?_|refine aC ?_ ?_)<;>intro hb<;>(first|exact ddX hb|try simp only [lnS]at hb))|(refine aA ?_ ?_<;>intro hb<;>try exact dsX hb))<;>(conv=>whnf)))
  rfl
 have q1:se=0:=by simpa using q1
 have hpl:=hsh q1
 have htold:=htold hpl
 rw [if_neg (by simpa using q1)]
 clear hshape hsh
 ((conv=>whnf);repeat ((first |(intro hq;try simp only [lnS]at hq)|refine sI ?_|refine qE_ ?_);conv=>whnf))
 refine aG hty (λj:Nat=>([(1, .d .nil),(2, .ea 2 [[.sl 1 (told.map aT), .sl 1 (parts.map aI)]] 0 0),(17, .d (.sl 1 (parts.map aI))),(18, .d (.int .i64 parts.length)),(19, .d (.int .i64 j))],[])) (λj=>j<=parts.length/\bS parts.flatten=bS (parts.drop j).flatten) (λj=>parts.length - j) 0 ⟨by omega,rfl⟩ ⟨by repeat' (first|exact trivial|exact rfl|(rw [List.length_map];exact rfl)|refine And.intro ?_ ?_),trivial⟩ ?_
 rintro j ⟨hj,hf⟩
 ((conv=>whnf);repeat ((first |(intro hq;try simp only [lnS]at hq)|refine sI ?_|refine qE_ ?_);conv=>whnf))
 refine aB (λh2=> ?_) (λh2=> ?_)
 ·have hjl:j < parts.length:=by omega
  have hrow:(parts.map aI)[(j:Int).toNat]? =some (aI parts[j]):=aK hjl
  rw [List.drop_eq_getElem_cons hjl,List.flatten_cons]at hf
  generalize parts[j]=x at hrow hf
  rw [show aI x=[.sl 6 (x.map atR)]from rfl]at hrow
  have hlx:(x.map atR).length=x.length:=List.length_map ..
  ((conv=>whnf);repeat ((first|(refine⟨_,hrow, ?_⟩) |(intro hq;try simp only [lnS]at hq)|refine sI ?_|refine qE_ ?_);conv=>whnf))
  refine aG hty (λi:Nat=>([(1, .d .nil),(2, .ea 2 [[.sl 1 (told.map aT), .sl 1 (parts.map aI)]] 0 0),(17, .d (.sl 1 (parts.map aI))),(18, .d (.int .i64 parts.length)),(19, .d (.int .i64 j)),(24, .d (.sl 6 (x.map atR))),(25, .d (.int .i64 x.length)),(26, .d (.int .i64 i))],[])) (λi=>i<=x.length/\bS parts.flatten=bS (x.drop i++(parts.drop (j+1)).flatten)) (λi=>x.length - i) 0 ⟨by omega,hf⟩ ⟨by repeat' (first|exact trivial|exact rfl|(rw [List.length_map];exact rfl)|refine And.intro ?_ ?_),trivial⟩ ?_
  rintro i ⟨hi,hg⟩
  ((conv=>whnf);repeat ((first |(intro hq;try simp only [lnS]at hq)|refine sI ?_|refine qE_ ?_);conv=>whnf))
  refine aB (λh4=> ?_) (λh4=> ?_)
  ·have hil:i < x.length:=by omega
   have hrow2:(x.map atR)[(i:Int).toNat]? =some (atR x[i]):=aK hil
   rw [List.drop_eq_getElem_cons hil,List.cons_append,bS]at hg
   generalize x[i]=y at hrow2 hg
   have ha:=tD y
   generalize atE y=ae at ha hg
   obtain⟨kd,nm,xx,yy,lo,hi'⟩:=y
   rw [show atR ⟨kd,nm,xx,yy,lo,hi'⟩=[.int .i64 kd, .str nm, .str xx, .str yy, .int .i64 lo, .int .i64 hi']from rfl]at hrow2 ha
   ((conv=>whnf);repeat' ((first|(intro hq;(try simp only [lnS]at hq);(try rewrite [List.length_map]))|refine sJ ?_|refine qE_ ?_|refine exL (k:=?_)| (refine⟨_,hrow2, ?_⟩)|refine qT ha ?_|refine dwR ?_|((first|refine aB ?_ ?_|refine aC ?_ ?_)<;>intro hb<;>(first|exact ddX hb|try simp only [lnS]at hb))|(refine aA ?_ ?_<;>intro hb<;>try exact dsX hb))<;>(conv=>whnf)))
   ·rw [hg,if_pos hb,if_pos hb];rfl
   ·exact⟨i+1,⟨by omega,by rw [hg,if_neg (by simpa using hb)]⟩,qO,qB,trivial⟩
  ·have hil:i=x.length:=by omega
   subst hil
   rw [List.drop_length,List.nil_append]at hg
   ((conv=>whnf);repeat' ((first|(intro hq;(try simp only [lnS]at hq);(try rewrite [List.length_map]))|refine sJ ?_|refine qE_ ?_|refine exL (k:=?_)|refine dwR ?_|((first|refine aB ?_ ?_|refine aC ?_ ?_)<;>intro hb<;>(first|exact ddX hb|try simp only [lnS]at hb))|(refine aA ?_ ?_<;>intro hb<;>try exact dsX hb))<;>(conv=>whnf)))
   exact⟨j+1,⟨by omega,hg⟩,qO,qB,trivial⟩
 have hjl:j=parts.length:=by omega
 subst hjl
 rw [List.drop_length]at hf
 have hf:bS parts.flatten=0:=hf
 have hroles:=hroles λp hp a ha=>aCe ((eF _).1 hf a (List.mem_flatten.2 ⟨p,hp,ha⟩))
 rw [if_neg (by simpa using hf)]
 generalize oQ told parts=te at *
 ((conv=>whnf);repeat ((first|refine qT htold ?_ |(intro hq;try simp only [lnS]at hq)|refine sI ?_|refine qE_ ?_);conv=>whnf))
 refine aC (λq2=> ?_) (λq2=> ?_)
 ·rw [if_pos q2]
  ((conv=>whnf);repeat' ((first|(intro hq;(try simp only [lnS]at hq);(try rewrite [List.length_map]))|refine sJ ?_|refine qE_ ?_|refine exL (k:=?_)|refine dwR ?_|((first|refine aB ?_ ?_|refine aC ?_ ?_)<;>intro hb<;>(first|exact ddX hb|try simp only [lnS]at hb))|(refine aA ?_ ?_<;>intro hb<;>try exact dsX hb))<;>(conv=>whnf)))
  rfl
 have q2:te=0:=by simpa using q2
 rw [if_neg (by simpa using q2)]
 clear hf hj h2 htold
 ((conv=>whnf);repeat ((first |(intro hq;try simp only [lnS]at hq)|refine sI ?_|refine qE_ ?_);conv=>whnf))
 refine aG hty (λj:Nat=>([(1, .d .nil),(2, .ea 2 [[.sl 1 (told.map aT), .sl 1 (parts.map aI)]] 0 0),(43, .d (.sl 1 (parts.map aI))),(44, .d (.int .i64 parts.length)),(45, .d (.int .i64 j))],[])) (λj=>j<=parts.length/\(parts.take j).any (λp=>decide (8 < (bQ p).eraseDups.length))=false) (λj=>parts.length - j) 0 ⟨by omega,rfl⟩ ⟨by repeat' (first|exact trivial|exact rfl|(rw [List.length_map];exact rfl)|refine And.intro ?_ ?_),trivial⟩ ?_
 rintro j ⟨hj,hm⟩
 ((conv=>whnf);repeat ((first |(intro hq;try simp only [lnS]at hq)|refine sI ?_|refine qE_ ?_);conv=>whnf))
 refine aB (λh4=> ?_) (λh4=> ?_)
 ·have hil:j < parts.length:=by omega
  have hrow2:(parts.map aI)[(j:Int).toNat]? =some (aI parts[j]):=aK hil
  have hhit2:=iE (F:= λp:List At=>decide (8 < (bQ p).eraseDups.length)) hil
  have hsuc2:=fE (F:= λp:List At=>decide (8 < (bQ p).eraseDups.length)) hil hm
  have hv:=eG parts[j] (hpl _ (List.getElem_mem hil))
  have hvl:=wS parts[j]
  generalize parts[j]=y at hrow2 hhit2 hsuc2 hv hvl
  rw [<-hvl]at hhit2 hsuc2
  generalize aQ y=vy at hv hvl hhit2 hsuc2
  rw [show aI y=[.sl 6 (y.map atR)]from rfl]at hrow2 hv
  have hlv:(vy.map aT).length=vy.length:=List.length_map ..
  ((conv=>whnf);repeat' ((first|(intro hq;(try simp only [lnS]at hq);(try rewrite [List.length_map]))|refine sJ ?_|refine qE_ ?_|refine exL (k:=?_)| (refine⟨_,hrow2, ?_⟩)|refine qT hv ?_|refine dwR ?_|((first|refine aB ?_ ?_|refine aC ?_ ?_)<;>intro hb<;>(first|exact ddX hb|try simp only [lnS]at hb))|(refine aA ?_ ?_<;>intro hb<;>try exact dsX hb))<;>(conv=>whnf)))
  ·rw [if_pos (hhit2 (by rw [decide_eq_true_eq];omega))];rfl
  ·exact⟨j+1,⟨by omega,hsuc2 (by rw [decide_eq_false_iff_not];omega)⟩,qO,qB,trivial⟩
 ·have hil:j=parts.length:=by omega
  subst hil
  rw [List.take_length]at hm
  rw [if_neg (by rw [hm];decide)]
  ((conv=>whnf);repeat' ((first|(intro hq;(try simp only [lnS]at hq);(try rewrite [List.length_map]))|refine sJ ?_|refine qE_ ?_|refine exL (k:=?_)| refine qT hroles ?_|refine dwR ?_|((first|refine aB ?_ ?_|refine aC ?_ ?_)<;>intro hb<;>(first|exact ddX hb|try simp only [lnS]at hb))|(refine aA ?_ ?_<;>intro hb<;>try exact dsX hb))<;>(conv=>whnf)))
  rfl
end Go.Proofs.YtdjfkmkdkclahaaGreatDoor
