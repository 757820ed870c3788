/-
  The reference's queries: Check where there are no axioms.
  Conditions: none.
-/
import Derived.Test.YtleihcnongldbaaGreatDoorWVo
import Derived.Test.YtleihcnongldbaaGreatDoorWQqh
set_option linter.unnecessarySimpa false
set_option linter.unusedSectionVars false
set_option linter.unusedSimpArgs false
set_option linter.unusedVariables false
set_option maxHeartbeats 32000000
namespace Go.Proofs.YtleihcnongldbaaGreatDoor
open Go.Proofs Go.RowKit
set_option maxRecDepth 10000
attribute [local irreducible] aN aJ Tri aI YVC cP bE
theorem aIx:Tri Tryz.prog 123 [.d .nil] [] (λr=>r= .d (.int .i64 0)):=by
 refine aF hty Tryz.func123 rfl (kp [0,2,3,4,8,17]) [] _ _ _ (by simp [Tryz.f123]) (by simp) ?_
 ((conv=>whnf);repeat' ((first|(intro hq;(try simp only [lnS]at hq);(try rewrite [List.length_map]))|refine sJ ?_|refine .intro _ (.intro rfl ?_)|refine exL (k:= ?_)|(refine eO hty 2 ?_)|refine dwR ?_|((first|refine aB ?_ ?_|refine aC ?_ ?_)<;>intro hb<;>(first|exact ddX hb|try simp only [lnS]at hb))|(refine aA ?_ ?_<;>intro hb<;>try exact dsX hb))<;>(conv=>whnf)))
 rfl
theorem aM3 (s:List UInt8) (hn:dM s=true):Tri Tryz.prog 76 [.d .nil, .d (.str s)] [] (λr=>r= .tup [.d (.bool true), .d (.int .i64 0)]):=by
 have hc:=nO s
 rw [if_pos hn]at hc
 refine aF hty Tryz.func76 rfl (kp [0,1,4,5,6,7,11,15,19,46]) [] _ _ _ (by simp [Tryz.f76]) (by simp) ?_
 ((conv=>whnf);repeat' ((first|(intro hq;(try simp only [lnS]at hq);(try rewrite [List.length_map]))|refine sJ ?_|refine .intro _ (.intro rfl ?_)|refine exL (k:= ?_)|(refine aD [] aIx trivial (λr hs=> ?_);subst hs)|(refine aD [] hc trivial (λr hs=> ?_);subst hs)|(refine eO hty 2 ?_)|refine dwR ?_|((first|refine aB ?_ ?_|refine aC ?_ ?_)<;>intro hb<;>(first|exact ddX hb|try simp only [lnS]at hb))|(refine aA ?_ ?_<;>intro hb<;>try exact dsX hb))<;>(conv=>whnf)))
 rfl
theorem aE8 (q:Qy):Tri Tryz.prog 30 [.d (.agg (qyR q)), .d .nil] [] (λr=>r= .d (.int .i64 (qE q))):=by
 have hform:=aH0 q
 have hok:qE q=0-> ∀p∈q.parts,∀a∈p,dM a.name=true:=by
  intro h p hp a ha
  rw [aMz]at h
  split at h
  ·exact absurd h (by assumption)
  ·split at h
   ·exact absurd h (by assumption)
   ·rename_i h2
    exact aGj ((eY _).1 (Decidable.not_not.1 h2) a (List.mem_flatten.2 ⟨p,hp,ha⟩))
 generalize qE q=e at *
 obtain⟨told,parts⟩:=q
 dsimp only at hok
 rw [show qyR ⟨told,parts⟩=[.sl 1 (told.map bL), .sl 1 (parts.map aU)]from rfl]at *
 have hlp:(parts.map aU).length=parts.length:=List.length_map ..
 refine aE false [2,10] hty Tryz.func30 rfl (kp [0,1,2,4,5,6,7,8,9,10,11,12,17,22,31,37,48,62,88,97]) [] _ _ _ (by simp [Tryz.f30]) (by simp) ?_
 ((conv=>whnf);repeat ((first|(refine aD [] hform trivial (λr hs=> ?_);subst hs)|(intro hq;try simp only [lnS]at hq)|refine sI ?_|refine .intro _ (.intro rfl ?_));(conv=>whnf)))
 refine aC (λh1=> ?_) (λh1=> ?_)
 ·((conv=>whnf);repeat ((first|(intro hq;try simp only [lnS]at hq)|refine sI ?_|refine .intro _ (.intro rfl ?_));(conv=>whnf)))
  rfl
 have h1:e=0:=by simpa using h1
 subst h1
 have hok:=hok rfl
 clear hform
 ((conv=>whnf);repeat ((first|(intro hq;try simp only [lnS]at hq)|refine sI ?_|refine .intro _ (.intro rfl ?_));(conv=>whnf)))
 refine eO hty 2 ?_
 ((conv=>whnf);repeat ((first|(intro hq;try simp only [lnS]at hq)|refine sI ?_|refine .intro _ (.intro rfl ?_));(conv=>whnf)))
 refine aH hty (λj:Nat=>([(1, .d .nil),(2, .ea 2 [[.sl 1 (told.map bL), .sl 1 (parts.map aU)]] 0 0),(8, .d (.int .i64 j))],[])) (λj=>j<=parts.length) (λj=>parts.length - j) 0 (by omega) ⟨by repeat' (first|exact trivial|exact rfl|refine And.intro ?_ ?_),by repeat' (first|exact trivial|exact rfl|refine And.intro ?_ ?_)⟩ ?_
 rintro j hj
 ((conv=>whnf);repeat ((first|(intro hq;try simp only [lnS]at hq)|refine sI ?_|refine .intro _ (.intro rfl ?_));(conv=>whnf)))
 rw [hlp]
 refine aB (λh2=> ?_) (λh2=> ?_)
 ·have hjl:j < parts.length:=by omega
  have hrow:(parts.map aU)[(j:Int).toNat]? =some (aU parts[j]):=aS hjl
  have hnx:=hok _ (List.getElem_mem hjl)
  generalize parts[j]=x at hrow hnx
  rw [show aU x=[.sl 6 (x.map atR)]from rfl]at hrow
  have hlx:(x.map atR).length=x.length:=List.length_map ..
  ((conv=>whnf);repeat ((first|(intro hq;try simp only [lnS]at hq)|refine sI ?_|refine .intro _ (.intro rfl ?_));(conv=>whnf)))
  refine aH hty (λi:Nat=>([(1, .d .nil),(2, .ea 2 [[.sl 1 (told.map bL), .sl 1 (parts.map aU)]] 0 0),(8, .d (.int .i64 j)),(9, .d (.int .i64 i))],[])) (λi=>i<=x.length) (λi=>x.length - i) 0 (by omega) ⟨by repeat' (first|exact trivial|exact rfl|refine And.intro ?_ ?_),by repeat' (first|exact trivial|exact rfl|refine And.intro ?_ ?_)⟩ ?_
  rintro i hi
  ((conv=>whnf);repeat ((first|(refine⟨_,hrow, ?_⟩)|(intro hq;try simp only [lnS]at hq)|refine sI ?_|refine .intro _ (.intro rfl ?_));(conv=>whnf)))
  rw [hlx]
  refine aB (λh4=> ?_) (λh4=> ?_)
  ·have hil:i < x.length:=by omega
   have hrow2:(x.map atR)[(i:Int).toNat]? =some (atR x[i]):=aS hil
   have hny:=hnx _ (List.getElem_mem hil)
   generalize x[i]=y at hrow2 hny
   obtain⟨kd,nm,xx,yy,lo,hi'⟩:=y
   rw [show atR ⟨kd,nm,xx,yy,lo,hi'⟩=[.int .i64 kd, .str nm, .str xx, .str yy, .int .i64 lo, .int .i64 hi']from rfl]at hrow2
   dsimp only at hny
   have hs:=aM3 nm hny
   have c1:=gC xx
   have c2:=gC yy
   have c3:=rL told xx
   have c4:=rL told yy
   ((conv=>whnf);repeat' ((first|(intro hq;(try simp only [lnS]at hq);(try rewrite [List.length_map]))|refine sJ ?_|refine .intro _ (.intro rfl ?_)|refine exL (k:= ?_)|(refine⟨_,hrow, ?_⟩)|(refine⟨_,hrow2, ?_⟩)|(refine aD [] hs trivial (λr hs=> ?_);subst hs)|(refine aD [] c1 trivial (λr hs=> ?_);subst hs)|(refine aD [] c2 trivial (λr hs=> ?_);subst hs)|(refine aD [] c3 trivial (λr hs=> ?_);subst hs)|(refine aD [] c4 trivial (λr hs=> ?_);subst hs)|refine dwR ?_|((first|refine aB ?_ ?_|refine aC ?_ ?_)<;>intro hb<;>(first|exact ddX hb|try simp only [lnS]at hb))|(refine aA ?_ ?_<;>intro hb<;>try exact dsX hb))<;>(conv=>whnf)))
   all_goals exact⟨i+1,by omega,by dsimp only;omega,⟨by repeat' (first|exact trivial|exact rfl|refine And.intro ?_ ?_),by repeat' (first|exact trivial|exact rfl|refine And.intro ?_ ?_)⟩⟩
  ·have hil:i=x.length:=by omega
   subst hil
   ((conv=>whnf);repeat ((first|(intro hq;try simp only [lnS]at hq)|refine sI ?_|refine .intro _ (.intro rfl ?_));(conv=>whnf)))
   exact⟨j+1,by omega,by dsimp only;omega,⟨by repeat' (first|exact trivial|exact rfl|refine And.intro ?_ ?_),by repeat' (first|exact trivial|exact rfl|refine And.intro ?_ ?_)⟩⟩
 ·((conv=>whnf);repeat' ((first|(intro hq;(try simp only [lnS]at hq);(try rewrite [List.length_map]))|refine sJ ?_|refine .intro _ (.intro rfl ?_)|refine exL (k:= ?_)|refine dwR ?_|((first|refine aB ?_ ?_|refine aC ?_ ?_)<;>intro hb<;>(first|exact ddX hb|try simp only [lnS]at hb))|(refine aA ?_ ?_<;>intro hb<;>try exact dsX hb))<;>(conv=>whnf)))
  rfl
end Go.Proofs.YtleihcnongldbaaGreatDoor
