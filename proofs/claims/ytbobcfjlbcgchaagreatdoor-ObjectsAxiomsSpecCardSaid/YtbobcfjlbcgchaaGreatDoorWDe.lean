/-
  Terms: the reference's CheckAxiom.
  Conditions: none.
-/
import Derived.Test.YtbobcfjlbcgchaaGreatDoorWDd
import Derived.Test.YtbobcfjlbcgchaaGreatDoorWOf
set_option linter.unnecessarySimpa false
set_option linter.unusedSectionVars false
set_option linter.unusedSimpArgs false
set_option linter.unusedVariables false
set_option maxHeartbeats 16000000
namespace Go.Proofs.YtbobcfjlbcgchaaGreatDoor
section
attribute [local irreducible] aK aF Tri aH YVC cG aT
set_option maxRecDepth 10000
theorem aX7 {x:Ax}(h:x.kind < 1\/9 < x.kind):aZ x=22:=by
 unfold aZ bI
 rw [if_pos h,if_pos rfl]
theorem aUk {x:Ax}(h:1<=x.kind/\x.kind<=9) {u:Use}(hu:cC x.kind=u):aZ x=if bH u x=false then 22 else vU u x:=by
 have a:bI x=bH u x:=by unfold bI;rw [if_neg (by omega),hu]
 unfold aZ
 rw [a,hu]
theorem aAb (x:Ax) (hk:x.kind < 1\/9 < x.kind):Tri Tryz.prog 49 [.d (.agg (axR x))] [] (λr=>r= .d (.int .i64 (aZ x))):=by
 have f:=xO x.kind
 rw [aR1 hk]at f
 rw [aX7 hk]
 refine qG [1] hty Tryz.func49 [0,1,2,3,4,5,6,7,8,9,10,11,12,92,99,104,113,129,130,135,137,142,164] ?_
 ((conv=>whnf);repeat' ((first|(intro a;(try simp only [lnS]at a);(try rewrite [List.length_map]))|refine sJ ?_|refine qE_ ?_|refine exL (k:=?_)| refine qT f ?_|refine dwR ?_|((first|refine aA ?_ ?_|refine aC ?_ ?_)<;>intro hb<;>(first|exact ddX hb|try simp only [lnS]at hb))|(refine aB ?_ ?_<;>intro hb<;>try exact dsX hb))<;>(conv=>whnf)))
 all_goals first|rfl|(exfalso;omega)
theorem aR2 {k:Int}(h:1<=k/\k<=9):(cC k=⟨true,true,false,false,false,0,0⟩/\1<=k/\k<=3)\/(cC k=⟨false,true,true,false,false,0,0⟩/\k=4)\/(cC k=⟨false,false,true,false,false,1,1⟩/\k=5)\/(cC k=⟨false,false,true,false,false,2,4⟩/\k=6)\/
  (cC k=⟨false,false,true,false,false,0,0⟩/\k=7)\/(cC k=⟨false,true,false,true,false,0,0⟩/\k=8)\/(cC k=⟨false,false,true,true,true,0,0⟩/\k=9):=by
 have a:k=1\/k=2\/k=3\/k=4\/k=5\/k=6\/k=7\/k=8\/k=9:=by omega
 rcases a with rfl|rfl|rfl|rfl|rfl|rfl|rfl|rfl|rfl
 ·exact .inl ⟨rfl,by decide⟩
 ·exact .inl ⟨rfl,by decide⟩
 ·exact .inl ⟨rfl,by decide⟩
 ·exact .inr (.inl ⟨rfl,rfl⟩)
 ·exact .inr (.inr (.inl ⟨rfl,rfl⟩))
 ·exact .inr (.inr (.inr (.inl ⟨rfl,rfl⟩)))
 ·exact .inr (.inr (.inr (.inr (.inl ⟨rfl,rfl⟩))))
 ·exact .inr (.inr (.inr (.inr (.inr (.inl ⟨rfl,rfl⟩)))))
 ·exact .inr (.inr (.inr (.inr (.inr (.inr ⟨rfl,rfl⟩)))))
theorem aC5 (x:Ax) (hin:1<=x.kind/\x.kind<=9) (h1:aM x.left<=1000000) (h2:aM x.right<=1000000):Tri Tryz.prog 49 [.d (.agg (axR x))] [] (λr=>r= .d (.int .i64 (aZ x))):=by
 have f:=xO x.kind
 have C:=aR2 hin
 have B:=aUk hin rfl
 rw [B]
 clear B
 generalize cC x.kind=u at *
 have e1:=aAa x.left
 have e2:=aAa x.right
 have v:=kC x.role
 have t:=oS x.a
 have p:=oS x.b
 have g:=lD x.left h1
 have e:=lD x.right h2
 have n:= λh=>aDc x.left ((eH _).1 h).2.2
 have i:= λh=>aDc x.right ((eH _).1 h).2.2
 rw [aJ]at e1 e2 g e
 simp only [aJ]at n i
 unfold bH vU pZ aJ4
 generalize dQ x.left=z1 at *
 generalize dQ x.right=z2 at *
 generalize bC x.left=E1 at *
 generalize bC x.right=E2 at *
 generalize bX x.left=B1 at *
 generalize bX x.right=B2 at *
 generalize cA x.role=P0 at *
 generalize fU x.a=Q1 at *
 generalize fU x.b=Q2 at *
 rcases C with⟨rfl,w⟩|⟨rfl,w⟩|⟨rfl,w⟩|⟨rfl,w⟩|⟨rfl,w⟩|⟨rfl,w⟩|⟨rfl,w⟩
 all_goals (
  refine qG [1] hty Tryz.func49 [0,1,2,3,4,5,6,7,8,9,10,11,12,92,99,104,113,129,130,135,137,142,164] ?_
  ((conv=>whnf);repeat' ((first|(intro q;(try simp only [lnS]at q);(try rewrite [List.length_map]))|refine sJ ?_|refine qE_ ?_|refine exL (k:=?_)| refine qT f ?_|refine qT e1 ?_|refine qT e2 ?_|refine qT v ?_|refine qT t ?_|refine qT p ?_|refine qT g ?_|refine qT e ?_|refine qT (n (by omega)) ?_|refine qT (i (by omega)) ?_|refine dwR ?_|((first|refine aA ?_ ?_|refine aC ?_ ?_)<;>intro hb<;>(first|exact ddX hb|try simp only [lnS]at hb))|(refine aB ?_ ?_<;>intro hb<;>try exact dsX hb))<;>(conv=>whnf)))
  all_goals try (refine cM (Eq.symm ?_);clear f e1 e2 v t p g e n i;simp [*];done)
  all_goals try (refine cM (Eq.symm ?_);clear f e1 e2 v t p g e n i;simp_all;done)
  all_goals try (refine cM (Eq.symm ?_);clear f e1 e2 v t p g e n i;simp_all;omega)
  all_goals try (refine cM (Eq.symm ?_);clear f e1 e2 v t p g e n i;generalize x.roles.length=m at *;simp_all;omega)
  clear f e1 e2 v
  refine aD hty (λj:Nat=>([(1, .ea 16 [axR x] 0 0),(3, .d (.bool _)),(4, .d (.bool _)),(5, .d (.bool _)),(6, .d (.bool _)),(7, .d (.bool _)),(10, .d (.int .i64 j))],[])) (λj=>j<=x.roles.length/\x.roles.all cA=(x.roles.drop j).all cA) (λj=>x.roles.length - j) 0 ⟨by omega,rfl⟩ ⟨by repeat' (first|exact trivial|exact rfl|exact⟨rfl,rfl⟩|refine And.intro ?_ ?_),trivial⟩ ?_
  rintro j ⟨hj,o⟩
  ((conv=>whnf);repeat ((first |(intro q;try simp only [lnS]at q)|refine sI ?_|refine qE_ ?_);conv=>whnf))
  refine aA (λz=> ?_) (λz=> ?_)
  ·have c:j < x.roles.length:=by simp only [List.length_map]at z;omega
   have l:(x.roles.map bJ)[(j:Int).toNat]? =some (bJ x.roles[j]):=bA c
   have y:=kC x.roles[j]
   rw [List.drop_eq_getElem_cons c,List.all_cons]at o
   generalize x.roles[j]=s at l y o
   generalize cA s=b at y o
   ((conv=>whnf);repeat' ((first|(intro q;(try simp only [lnS]at q);(try rewrite [List.length_map]))|refine sJ ?_|refine qE_ ?_|refine exL (k:=?_)| (refine⟨_,l, ?_⟩)|refine qT y ?_|refine dwR ?_|((first|refine aA ?_ ?_|refine aC ?_ ?_)<;>intro hb<;>(first|exact ddX hb|try simp only [lnS]at hb))|(refine aB ?_ ?_<;>intro hb<;>try exact dsX hb))<;>(conv=>whnf)))
   ·refine cM (Eq.symm ?_)
    rw [o]
    simp_all
   ·refine⟨j+1,⟨by omega, ?_⟩,qO,qB,trivial⟩
    rw [o]
    simp_all
  ·have c:j=x.roles.length:=by simp only [List.length_map]at z;omega
   subst c
   rw [List.drop_length,List.all_nil]at o
   rw [o]
   clear o
   ((conv=>whnf);repeat' ((first|(intro q;(try simp only [lnS]at q);(try rewrite [List.length_map]))|refine sJ ?_|refine qE_ ?_|refine exL (k:=?_)| refine qT t ?_|refine qT p ?_|refine qT g ?_|refine qT e ?_|refine qT (n (by omega)) ?_|refine qT (i (by omega)) ?_|refine dwR ?_|((first|refine aA ?_ ?_|refine aC ?_ ?_)<;>intro hb<;>(first|exact ddX hb|try simp only [lnS]at hb))|(refine aB ?_ ?_<;>intro hb<;>try exact dsX hb))<;>(conv=>whnf)))
   all_goals clear t p g e n i
   all_goals first
    |(refine cM (Eq.symm ?_);simp_all;done)
    |(exfalso;simp_all;done)
    |(refine cM (Eq.symm ?_);rcases(show x.kind=1\/x.kind=2\/x.kind=3 by omega)with A|A|A<;>simp_all;done)
    |(exfalso;omega))
theorem jA (x:Ax) (h1:aM x.left<=1000000) (h2:aM x.right<=1000000):Tri Tryz.prog 49 [.d (.agg (axR x))] [] (λr=>r= .d (.int .i64 (aZ x))):=by
 by_cases h:1<=x.kind/\x.kind<=9
 ·exact aC5 x h h1 h2
 ·exact aAb x (by omega)
end
end Go.Proofs.YtbobcfjlbcgchaaGreatDoor
