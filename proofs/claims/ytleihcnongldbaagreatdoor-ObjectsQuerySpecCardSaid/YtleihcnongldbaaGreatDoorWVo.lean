/-
  The reference's queries: form.
  Conditions: none.
-/
import Derived.Test.YtleihcnongldbaaGreatDoorWVn
set_option linter.unnecessarySimpa false
set_option linter.unusedSectionVars false
set_option linter.unusedSimpArgs false
set_option linter.unusedVariables false
set_option maxHeartbeats 32000000
namespace Go.Proofs.YtleihcnongldbaaGreatDoor
open Go.Proofs Go.RowKit
set_option maxRecDepth 10000
attribute [local irreducible] aN aJ Tri aI YVC cP bE
theorem aH0 (q:Qy):Tri Tryz.prog 72 [.d (.agg (qyR q))] [] (λr=>r= .d (.int .i64 (qE q))):=by
 rw [aMz]
 obtain⟨told,parts⟩:=q
 dsimp only
 show Tri Tryz.prog 72 [.d (.agg [.sl 1 (told.map bL), .sl 1 (parts.map aU)])] [] _
 have hlt:(told.map bL).length=told.length:=List.length_map ..
 have hlp:(parts.map aU).length=parts.length:=List.length_map ..
 by_cases h1:parts.length < 1\/4 < parts.length\/3 < told.length
 ·rw [show kE ⟨told,parts⟩=210 from if_pos h1,if_pos (by decide)]
  refine aE false [1] hty Tryz.func72 rfl (kp [0,1,2,3,4,5,6,7,8,9,10,26,31,51,56,67,81,87,96,101,113,118,132,137,147]) [] _ _ _ (by simp [Tryz.f72]) (by simp) ?_
  ((conv=>whnf);repeat' ((first|(intro hq;(try simp only [lnS]at hq);(try rewrite [List.length_map]))|refine sJ ?_|refine .intro _ (.intro rfl ?_)|refine exL (k:= ?_)|refine dwR ?_|((first|refine aB ?_ ?_|refine aC ?_ ?_)<;>intro hb<;>(first|exact ddX hb|try simp only [lnS]at hb))|(refine aA ?_ ?_<;>intro hb<;>try exact dsX hb))<;>(conv=>whnf)))
  all_goals first|rfl|(exfalso;omega)
 rw [show kE ⟨told,parts⟩=if parts.any (λp=>decide (p.length < 1) || decide (12 < p.length))then 210 else 0 from if_neg h1]
 refine aE false [1] hty Tryz.func72 rfl (kp [0,1,2,3,4,5,6,7,8,9,10,26,31,51,56,67,81,87,96,101,113,118,132,137,147]) [] _ _ _ (by simp [Tryz.f72]) (by simp) ?_
 ((conv=>whnf);repeat ((first|(intro hq;try simp only [lnS]at hq)|refine sI ?_|refine .intro _ (.intro rfl ?_));(conv=>whnf)))
 rw [hlp]
 refine aB (λh=>absurd h (by omega)) (λ_=> ?_)
 ((conv=>whnf);repeat ((first|(intro hq;try simp only [lnS]at hq)|refine sI ?_|refine .intro _ (.intro rfl ?_));(conv=>whnf)))
 rw [hlp]
 refine aB (λh=>absurd h (by omega)) (λ_=> ?_)
 ((conv=>whnf);repeat ((first|(intro hq;try simp only [lnS]at hq)|refine sI ?_|refine .intro _ (.intro rfl ?_));(conv=>whnf)))
 rw [hlt]
 refine aB (λh=>absurd h (by omega)) (λ_=> ?_)
 ((conv=>whnf);repeat ((first|(intro hq;try simp only [lnS]at hq)|refine sI ?_|refine .intro _ (.intro rfl ?_));(conv=>whnf)))
 refine aH hty (λj:Nat=>([(1, .ea 2 [[.sl 1 (told.map bL), .sl 1 (parts.map aU)]] 0 0),(3, .d (.int .i64 j))],[])) (λj=>j<=parts.length/\(parts.take j).any (λp=>decide (p.length < 1) || decide (12 < p.length))=false) (λj=>parts.length - j) 0 ⟨by omega,rfl⟩ ⟨by repeat' (first|exact trivial|exact rfl|refine And.intro ?_ ?_),by repeat' (first|exact trivial|exact rfl|refine And.intro ?_ ?_)⟩ ?_
 rintro j ⟨hj,hn⟩
 ((conv=>whnf);repeat ((first|(intro hq;try simp only [lnS]at hq)|refine sI ?_|refine .intro _ (.intro rfl ?_));(conv=>whnf)))
 rw [hlp]
 refine aB (λh2=> ?_) (λh2=> ?_)
 ·have hjl:j < parts.length:=by omega
  have hrow:(parts.map aU)[(j:Int).toNat]? =some (aU parts[j]):=aS hjl
  have hhit:=mP (F:= λp:List At=>decide (p.length < 1) || decide (12 < p.length)) hjl
  have hsuc:=gY (F:= λp:List At=>decide (p.length < 1) || decide (12 < p.length)) hjl hn
  generalize parts[j]=x at hrow hhit hsuc
  rw [show aU x=[.sl 6 (x.map atR)]from rfl]at hrow
  have hlx:(x.map atR).length=x.length:=List.length_map ..
  ((conv=>whnf);repeat' ((first|(intro hq;(try simp only [lnS]at hq);(try rewrite [List.length_map]))|refine sJ ?_|refine .intro _ (.intro rfl ?_)|refine exL (k:= ?_)|(refine⟨_,hrow, ?_⟩)|refine dwR ?_|((first|refine aB ?_ ?_|refine aC ?_ ?_)<;>intro hb<;>(first|exact ddX hb|try simp only [lnS]at hb))|(refine aA ?_ ?_<;>intro hb<;>try exact dsX hb))<;>(conv=>whnf)))
  ·rw [hhit (by rw [Bool.or_eq_true,decide_eq_true_eq,decide_eq_true_eq];omega)];rfl
  ·rw [hhit (by rw [Bool.or_eq_true,decide_eq_true_eq,decide_eq_true_eq];omega)];rfl
  ·exact⟨j+1,⟨by omega,hsuc (by rw [Bool.or_eq_false_iff,decide_eq_false_iff_not,decide_eq_false_iff_not];omega)⟩,by dsimp only;omega,⟨by repeat' (first|exact trivial|exact rfl|refine And.intro ?_ ?_),by repeat' (first|exact trivial|exact rfl|refine And.intro ?_ ?_)⟩⟩
 have hjl:j=parts.length:=by omega
 subst hjl
 rw [List.take_length]at hn
 have hpl: ∀p∈parts,p.length<=12:=by
  intro p hp
  have:=List.any_eq_false.1 hn p hp
  simp at this
  omega
 rw [hn,if_neg (by decide)]
 clear hn h2 hj
 ((conv=>whnf);repeat ((first|(intro hq;try simp only [lnS]at hq)|refine sI ?_|refine .intro _ (.intro rfl ?_));(conv=>whnf)))
 refine aH hty (λj:Nat=>([(1, .ea 2 [[.sl 1 (told.map bL), .sl 1 (parts.map aU)]] 0 0),(4, .d (.int .i64 j))],[])) (λj=>j<=parts.length/\dF parts.flatten=dF (parts.drop j).flatten) (λj=>parts.length - j) 0 ⟨by omega,rfl⟩ ⟨by repeat' (first|exact trivial|exact rfl|refine And.intro ?_ ?_),by repeat' (first|exact trivial|exact rfl|refine And.intro ?_ ?_)⟩ ?_
 rintro j ⟨hj,hf⟩
 ((conv=>whnf);repeat ((first|(intro hq;try simp only [lnS]at hq)|refine sI ?_|refine .intro _ (.intro rfl ?_));(conv=>whnf)))
 rw [hlp]
 refine aB (λh2=> ?_) (λh2=> ?_)
 ·have hjl:j < parts.length:=by omega
  have hrow:(parts.map aU)[(j:Int).toNat]? =some (aU parts[j]):=aS hjl
  rw [List.drop_eq_getElem_cons hjl,List.flatten_cons]at hf
  generalize parts[j]=x at hrow hf
  rw [show aU x=[.sl 6 (x.map atR)]from rfl]at hrow
  have hlx:(x.map atR).length=x.length:=List.length_map ..
  ((conv=>whnf);repeat ((first|(intro hq;try simp only [lnS]at hq)|refine sI ?_|refine .intro _ (.intro rfl ?_));(conv=>whnf)))
  refine aH hty (λi:Nat=>([(1, .ea 2 [[.sl 1 (told.map bL), .sl 1 (parts.map aU)]] 0 0),(4, .d (.int .i64 j)),(5, .d (.int .i64 i))],[])) (λi=>i<=x.length/\dF parts.flatten=dF (x.drop i++(parts.drop (j+1)).flatten)) (λi=>x.length - i) 0 ⟨by omega,hf⟩ ⟨by repeat' (first|exact trivial|exact rfl|refine And.intro ?_ ?_),by repeat' (first|exact trivial|exact rfl|refine And.intro ?_ ?_)⟩ ?_
  rintro i ⟨hi,hg⟩
  ((conv=>whnf);repeat ((first|(refine⟨_,hrow, ?_⟩)|(intro hq;try simp only [lnS]at hq)|refine sI ?_|refine .intro _ (.intro rfl ?_));(conv=>whnf)))
  rw [hlx]
  refine aB (λh4=> ?_) (λh4=> ?_)
  ·have hil:i < x.length:=by omega
   have hrow2:(x.map atR)[(i:Int).toNat]? =some (atR x[i]):=aS hil
   rw [List.drop_eq_getElem_cons hil,List.cons_append,dF]at hg
   generalize x[i]=y at hrow2 hg
   have ha:=aH1 y
   generalize atE y=ae at ha hg
   obtain⟨kd,nm,xx,yy,lo,hi'⟩:=y
   rw [show atR ⟨kd,nm,xx,yy,lo,hi'⟩=[.int .i64 kd, .str nm, .str xx, .str yy, .int .i64 lo, .int .i64 hi']from rfl]at hrow2 ha
   ((conv=>whnf);repeat' ((first|(intro hq;(try simp only [lnS]at hq);(try rewrite [List.length_map]))|refine sJ ?_|refine .intro _ (.intro rfl ?_)|refine exL (k:= ?_)|(refine⟨_,hrow, ?_⟩)|(refine⟨_,hrow2, ?_⟩)|(refine aD [] ha trivial (λr hs=> ?_);subst hs)|refine dwR ?_|((first|refine aB ?_ ?_|refine aC ?_ ?_)<;>intro hb<;>(first|exact ddX hb|try simp only [lnS]at hb))|(refine aA ?_ ?_<;>intro hb<;>try exact dsX hb))<;>(conv=>whnf)))
   ·rw [hg,if_pos hb,if_pos hb];rfl
   ·exact⟨i+1,⟨by omega,by rw [hg,if_neg (by simpa using hb)]⟩,by dsimp only;omega,⟨by repeat' (first|exact trivial|exact rfl|refine And.intro ?_ ?_),by repeat' (first|exact trivial|exact rfl|refine And.intro ?_ ?_)⟩⟩
  ·have hil:i=x.length:=by omega
   subst hil
   rw [List.drop_length,List.nil_append]at hg
   ((conv=>whnf);repeat ((first|(intro hq;try simp only [lnS]at hq)|refine sI ?_|refine .intro _ (.intro rfl ?_));(conv=>whnf)))
   exact⟨j+1,⟨by omega,hg⟩,by dsimp only;omega,⟨by repeat' (first|exact trivial|exact rfl|refine And.intro ?_ ?_),by repeat' (first|exact trivial|exact rfl|refine And.intro ?_ ?_)⟩⟩
 have hjl:j=parts.length:=by omega
 subst hjl
 rw [List.drop_length]at hf
 have hf:dF parts.flatten=0:=hf
 have hat: ∀p∈parts,∀a∈p,atE a=0:= λp hp a ha=>(eY _).1 hf a (List.mem_flatten.2 ⟨p,hp,ha⟩)
 rw [if_neg (by simpa using hf)]
 clear hf hj h2
 rw [aFl]
 ((conv=>whnf);repeat ((first|(intro hq;try simp only [lnS]at hq)|refine sI ?_|refine .intro _ (.intro rfl ?_));(conv=>whnf)))
 refine aH hty (λj:Nat=>([(1, .ea 2 [[.sl 1 (told.map bL), .sl 1 (parts.map aU)]] 0 0),(7, .d (.int .i64 j))],[])) (λj=>j<=told.length/\(told.take j).any (λt=> !qK t)=false) (λj=>told.length - j) 0 ⟨by omega,rfl⟩ ⟨by repeat' (first|exact trivial|exact rfl|refine And.intro ?_ ?_),by repeat' (first|exact trivial|exact rfl|refine And.intro ?_ ?_)⟩ ?_
 rintro j ⟨hj,hn⟩
 ((conv=>whnf);repeat ((first|(intro hq;try simp only [lnS]at hq)|refine sI ?_|refine .intro _ (.intro rfl ?_));(conv=>whnf)))
 rw [hlt]
 refine aB (λh2=> ?_) (λh2=> ?_)
 ·have hjl:j < told.length:=by omega
  have hrow:(told.map bL)[(j:Int).toNat]? =some (bL told[j]):=aS hjl
  have hhit:=mP (F:= λt:List UInt8=> !qK t) hjl
  have hsuc:=gY (F:= λt:List UInt8=> !qK t) hjl hn
  generalize told[j]=x at hrow hhit hsuc
  ((conv=>whnf);repeat' ((first|(intro hq;(try simp only [lnS]at hq);(try rewrite [List.length_map]))|refine sJ ?_|refine .intro _ (.intro rfl ?_)|refine exL (k:= ?_)|(refine⟨_,hrow, ?_⟩)|(refine aD [] (gC x) trivial (λr hs=> ?_);subst hs)|refine dwR ?_|((first|refine aB ?_ ?_|refine aC ?_ ?_)<;>intro hb<;>(first|exact ddX hb|try simp only [lnS]at hb))|(refine aA ?_ ?_<;>intro hb<;>try exact dsX hb))<;>(conv=>whnf)))
  ·rw [if_pos (hhit hb),if_pos (by decide)];rfl
  ·exact⟨j+1,⟨by omega,hsuc hb⟩,by dsimp only;omega,⟨by repeat' (first|exact trivial|exact rfl|refine And.intro ?_ ?_),by repeat' (first|exact trivial|exact rfl|refine And.intro ?_ ?_)⟩⟩
 have hjl:j=told.length:=by omega
 subst hjl
 rw [List.take_length]at hn
 have hvar: ∀t∈told,qK t=true:= λt ht=>by
  have:=List.any_eq_false.1 hn t ht
  simpa using this
 rw [if_neg (show ¬ (told.any (λt=> !qK t)=true)by rw [hn];decide)]
 clear hn h2 hj
 ((conv=>whnf);repeat ((first|(intro hq;try simp only [lnS]at hq)|refine sI ?_|refine .intro _ (.intro rfl ?_));(conv=>whnf)))
 refine aH hty (λj:Nat=>([(1, .ea 2 [[.sl 1 (told.map bL), .sl 1 (parts.map aU)]] 0 0),(8, .d (.int .i64 j))],[])) (λj=>j<=told.length/\(List.range j).any (aIe told parts)=false) (λj=>told.length - j) 0 ⟨by omega,rfl⟩ ⟨by repeat' (first|exact trivial|exact rfl|refine And.intro ?_ ?_),by repeat' (first|exact trivial|exact rfl|refine And.intro ?_ ?_)⟩ ?_
 rintro j ⟨hj,hn⟩
 ((conv=>whnf);repeat ((first|(intro hq;try simp only [lnS]at hq)|refine sI ?_|refine .intro _ (.intro rfl ?_));(conv=>whnf)))
 rw [hlt]
 refine aB (λh2=> ?_) (λh2=> ?_)
 ·have hjl:j < told.length:=by omega
  have hrow:(told.map bL)[(j:Int).toNat]? =some (bL told[j]):=aS hjl
  have hhit:=rV (F:=aIe told parts) hjl
  have hsuc:=qG (F:=aIe told parts) hn
  have hbad:aIe told parts j=(decide (told[j]∈told.take j) || parts.any (λp=> !decide (told[j]∈dB p))):=by
   unfold aIe
   rw [show told.getD j []=told[j]by rw [List.getD_eq_getElem?_getD,List.getElem?_eq_getElem hjl];rfl,List.contains_eq_mem]
   simp only [List.contains_eq_mem]
  have hv:=hvar told[j] (List.getElem_mem hjl)
  have hc:=rL (told.take j) told[j]
  generalize told[j]=x at hrow hbad hc hv
  rw [show aLs (told.take j)= .sl 1 ((told.take j).map bL)from rfl,List.map_take]at hc
  rw [hbad]at hhit hsuc
  (refine bI (id:=25) hty (.first 0 (.first 1 (.first 2 (.first 3 (.first 4 (.first 5 (.first 6 (.first 7 (.first 8 (.alt 9 .done .stop)))))))))) (by kernel_rfl) (by kernel_rfl) ?_)
  ((conv=>whnf);repeat' ((first|(intro hq;(try simp only [lnS]at hq);(try rewrite [List.length_map]))|refine sJ ?_|refine .intro _ (.intro rfl ?_)|refine exL (k:= ?_)|(refine⟨_,hrow, ?_⟩)|(refine aD [] hc trivial (λr hs=> ?_);subst hs)|exact trivial|(refine And.intro ?_ ?_)|refine dwR ?_|((first|refine aB ?_ ?_|refine aC ?_ ?_)<;>intro hb<;>(first|exact ddX hb|try simp only [lnS]at hb))|(refine aA ?_ ?_<;>intro hb<;>try exact dsX hb))<;>(conv=>whnf)))
  ·rw [if_pos (hhit (by rw [decide_eq_true hb];rfl)),if_pos (by decide)];rfl
  ·rw [decide_eq_false hb,Bool.false_or]at hhit hsuc
   refine aH hty (λi:Nat=>([(1, .ea 2 [[.sl 1 (told.map bL), .sl 1 (parts.map aU)]] 0 0),(8, .d (.int .i64 j)),(9, .d (.int .i64 i))],[])) (λi=>i<=parts.length/\(parts.take i).any (λp=> !decide (x∈dB p))=false) (λi=>parts.length - i) 0 ⟨by omega,rfl⟩ ⟨by repeat' (first|exact trivial|exact rfl|refine And.intro ?_ ?_),by repeat' (first|exact trivial|exact rfl|refine And.intro ?_ ?_)⟩ ?_
   rintro i ⟨hi,hm⟩
   ((conv=>whnf);repeat ((first|(intro hq;try simp only [lnS]at hq)|refine sI ?_|refine .intro _ (.intro rfl ?_));(conv=>whnf)))
   rw [hlp]
   refine aB (λh4=> ?_) (λh4=> ?_)
   ·have hil:i < parts.length:=by omega
    have hrow2:(parts.map aU)[(i:Int).toNat]? =some (aU parts[i]):=aS hil
    have hhit2:=mP (F:= λp:List At=> !decide (x∈dB p)) hil
    have hsuc2:=gY (F:= λp:List At=> !decide (x∈dB p)) hil hm
    have hoc:=aCo parts[i] x
    rw [aSp (hat _ (List.getElem_mem hil)) hv]at hoc
    generalize parts[i]=y at hrow2 hhit2 hsuc2 hoc
    rw [show aU y=[.sl 6 (y.map atR)]from rfl]at hrow2 hoc
    (refine bI (id:=30) hty (.first 0 (.first 1 (.first 2 (.first 3 (.first 4 (.first 5 (.first 6 (.first 7 (.first 8 (.first 9 (.alt 10 (.first 11 .done) .stop))))))))))) (by kernel_rfl) (by kernel_rfl) ?_)
    ((conv=>whnf);repeat' ((first|(intro hq;(try simp only [lnS]at hq);(try rewrite [List.length_map]))|refine sJ ?_|refine .intro _ (.intro rfl ?_)|refine exL (k:= ?_)|(refine⟨_,hrow2, ?_⟩)|(refine⟨_,hrow, ?_⟩)|(refine aD [] hoc trivial (λr hs=> ?_);subst hs)|exact trivial|(refine And.intro ?_ ?_)|refine dwR ?_|((first|refine aB ?_ ?_|refine aC ?_ ?_)<;>intro hb<;>(first|exact ddX hb|try simp only [lnS]at hb))|(refine aA ?_ ?_<;>intro hb<;>try exact dsX hb))<;>(conv=>whnf)))
    ·rw [if_pos (hhit (hhit2 (by rw [decide_eq_false hb];rfl))),if_pos (by decide)];rfl
    ·exact⟨i+1,⟨by omega,hsuc2 (by rw [decide_eq_true hb];rfl)⟩,by dsimp only;omega,⟨by repeat' (first|exact trivial|exact rfl|refine And.intro ?_ ?_),by repeat' (first|exact trivial|exact rfl|refine And.intro ?_ ?_)⟩⟩
   ·have hil:i=parts.length:=by omega
    subst hil
    rw [List.take_length]at hm
    ((conv=>whnf);repeat ((first|(intro hq;try simp only [lnS]at hq)|refine sI ?_|refine .intro _ (.intro rfl ?_));(conv=>whnf)))
    exact⟨j+1,⟨by omega,hsuc hm⟩,by dsimp only;omega,⟨by repeat' (first|exact trivial|exact rfl|refine And.intro ?_ ?_),by repeat' (first|exact trivial|exact rfl|refine And.intro ?_ ?_)⟩⟩
 have hjl:j=told.length:=by omega
 subst hjl
 rw [if_neg (show ¬ ((List.range told.length).any (aIe told parts)=true)by rw [hn];decide),if_neg (by decide)]
 clear hn h2 hj
 ((conv=>whnf);repeat ((first|(intro hq;try simp only [lnS]at hq)|refine sI ?_|refine .intro _ (.intro rfl ?_));(conv=>whnf)))
 refine aH hty (λj:Nat=>([(1, .ea 2 [[.sl 1 (told.map bL), .sl 1 (parts.map aU)]] 0 0),(10, .d (.int .i64 j))],[])) (λj=>j<=parts.length/\(parts.take j).any (λp=>decide (8 < (dB p).eraseDups.length))=false) (λj=>parts.length - j) 0 ⟨by omega,rfl⟩ ⟨by repeat' (first|exact trivial|exact rfl|refine And.intro ?_ ?_),by repeat' (first|exact trivial|exact rfl|refine And.intro ?_ ?_)⟩ ?_
 rintro j ⟨hj,hm⟩
 ((conv=>whnf);repeat ((first|(intro hq;try simp only [lnS]at hq)|refine sI ?_|refine .intro _ (.intro rfl ?_));(conv=>whnf)))
 rw [hlp]
 refine aB (λh4=> ?_) (λh4=> ?_)
 ·have hil:j < parts.length:=by omega
  have hrow2:(parts.map aU)[(j:Int).toNat]? =some (aU parts[j]):=aS hil
  have hhit2:=mP (F:= λp:List At=>decide (8 < (dB p).eraseDups.length)) hil
  have hsuc2:=gY (F:= λp:List At=>decide (8 < (dB p).eraseDups.length)) hil hm
  have hv:=wP parts[j] (by have:=hpl _ (List.getElem_mem hil);omega)
  have hvl:=aGy parts[j]
  generalize parts[j]=y at hrow2 hhit2 hsuc2 hv hvl
  rw [<-hvl]at hhit2 hsuc2
  generalize fF [] y=vy at hv hvl hhit2 hsuc2
  rw [show aU y=[.sl 6 (y.map atR)]from rfl]at hrow2 hv
  have hlv:(vy.map bL).length=vy.length:=List.length_map ..
  ((conv=>whnf);repeat' ((first|(intro hq;(try simp only [lnS]at hq);(try rewrite [List.length_map]))|refine sJ ?_|refine .intro _ (.intro rfl ?_)|refine exL (k:= ?_)|(refine⟨_,hrow2, ?_⟩)|(refine aD [] hv trivial (λr hs=> ?_);subst hs)|refine dwR ?_|((first|refine aB ?_ ?_|refine aC ?_ ?_)<;>intro hb<;>(first|exact ddX hb|try simp only [lnS]at hb))|(refine aA ?_ ?_<;>intro hb<;>try exact dsX hb))<;>(conv=>whnf)))
  ·rw [if_pos (hhit2 (by rw [decide_eq_true_eq];omega))];rfl
  ·exact⟨j+1,⟨by omega,hsuc2 (by rw [decide_eq_false_iff_not];omega)⟩,by dsimp only;omega,⟨by repeat' (first|exact trivial|exact rfl|refine And.intro ?_ ?_),by repeat' (first|exact trivial|exact rfl|refine And.intro ?_ ?_)⟩⟩
 ·have hil:j=parts.length:=by omega
  subst hil
  rw [List.take_length]at hm
  rw [if_neg (by rw [hm];decide)]
  ((conv=>whnf);repeat ((first|(intro hq;try simp only [lnS]at hq)|refine sI ?_|refine .intro _ (.intro rfl ?_));(conv=>whnf)))
  rfl
end Go.Proofs.YtleihcnongldbaaGreatDoor
