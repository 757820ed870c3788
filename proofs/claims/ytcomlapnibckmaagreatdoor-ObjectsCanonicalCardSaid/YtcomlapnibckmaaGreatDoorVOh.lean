/-
  Objects: the law's examples. Arrays held against one another: are they not equal? ObjectsCommitSpec, walked. What encoding a query answers, and that both readers read it again; plain.
  Conditions: none.
-/
import Derived.Test.YtcomlapnibckmaaGreatDoorVPn
import Derived.Test.YtcomlapnibckmaaGreatDoorVA1
import Derived.Test.YtcomlapnibckmaaGreatDoorVOf
set_option linter.unnecessarySimpa false
set_option linter.unusedSectionVars false
set_option linter.unusedSimpArgs false
set_option linter.unusedVariables false
set_option maxHeartbeats 16000000
namespace Go.Proofs.YtcomlapnibckmaaGreatDoor
open Go.Proofs Go.RowKit
set_option maxRecDepth 10000
attribute [local irreducible] aN aH Tri aF YVC cM bB
def cmX:Cm:=⟨258,[],aDq,[]⟩
def alX:Al:=⟨[120],aDq,[],aDq,0,[],[]⟩
theorem wO:tF []=([0,0,0,0],0):=by kernel_rfl
theorem aGg:rJ cmX=([0,0,0,0,0,0,1,2]++List.replicate 40 0,0):=by kernel_rfl
theorem aGh:uX alX=([0,0,0,1,120]++List.replicate 84 0,0):=by kernel_rfl
theorem aI3:rAs 9 [0,0,0,0]=some ([],[]):=by kernel_rfl
theorem aI2:rAs 9 [0,0,0,0,0]=some ([],[0]):=by kernel_rfl
theorem aGo:rQy [0,0,0,0,0,0,0,0]=some (⟨[],[]⟩,[]):=by kernel_rfl
theorem aFt:eE (rAs 9) tF [] 280 [0,0,0,0]=([],0):=aBu wO aI3
theorem aFs:eE (rAs 9) tF [] 280 [0,0,0,0,0]=([],280):=aDt aI2 (List.cons_ne_nil _ _)
def aJ0:Qy->List UInt8×Int:= λ_=>([],210)
theorem aFr:eE rQy aJ0 qy0 280 [0,0,0,0,0,0,0,0]=(qy0,280):=by
 rw [iN aGo,if_neg]
 rintro⟨_,h⟩
 injection h with _ h
 exact absurd h (by decide)
theorem qN:Tri Tryz.prog 10 [] NG (λr=>r= .d (.bool true)):=by
 have c1:Tri Tryz.prog 29 [.d .nil] NG _:=Tri.args (dX []) ⟨dJ.nil,trivial⟩
 rw [wO]at c1
 have c2: ∀id,Tri Tryz.prog 30 [.osl id 1 (([0,0,0,0]:List UInt8).map bC)] NG (λr=>r= .tup [.d (.sl 16 []), .d (.int .i64 0)]):= λid=>
  (Tri.args (xs:=[.osl id 1 (([0,0,0,0]:List UInt8).map bC)]) (eX tF [0,0,0,0] (by decide) λx _ _=>dX x) ⟨dJ.osl,trivial⟩).mono (by rw [aFt];rintro r ⟨x,rfl,rfl⟩;rfl)
 have c3: ∀id,Tri Tryz.prog 30 [.osl id 1 (([0,0,0,0,0]:List UInt8).map bC)] NG (λr=>r= .tup [.d (.sl 16 []), .d (.int .i64 280)]):= λid=>
  (Tri.args (xs:=[.osl id 1 (([0,0,0,0,0]:List UInt8).map bC)]) (eX tF [0,0,0,0,0] (by decide) λx _ _=>dX x) ⟨dJ.osl,trivial⟩).mono (by rw [aFs];rintro r ⟨x,rfl,rfl⟩;rfl)
 have c4:Tri Tryz.prog 15 [.d (.sl 1 (([0,0,0,0,0,0,0,0]:List UInt8).map bC))] NG (λr=>r= .tup [.d (.agg (qyR qy0)), .d (.int .i64 280)]):=
  (kG aJ0 [0, 0, 0, 0, 0, 0, 0, 0] (by decide) (λx c e => by
   rw [aGo]at e
   injection e with e
   injection e with e _
   subst e
   exact uB)).mono (by rw [aFr];rintro r ⟨x,rfl,rfl⟩;rfl)
 have c5:Tri Tryz.prog 18 [.d (.agg ([.int .i64 258, .nil]++nO aDq++[.str []]))] [] _:=Tri.args (iH cmX) ⟨dJ.wkd (by repeat' (first|exact trivial|exact rfl|refine And.intro ?_ ?_)),trivial⟩
 rw [aGg]at c5
 have c6:Tri Tryz.prog 24 [.d (.agg ([.str [120]]++nO aDq++[.nil]++nO aDq++[.int .i64 0, .nil, .nil]))] NG _:=Tri.args (fC alX) ⟨dJ.wkd (by repeat' (first|exact trivial|exact rfl|refine And.intro ?_ ?_)),trivial⟩
 rw [aGh]at c6
 refine aG false [] hty Tryz.func10 rfl (kp [0,1,2,3,4,6,8,9,10,11,12]) [] _ _ _ (by simp [Tryz.f10]) (by decide) ?_
 ((conv=>whnf);repeat ((first|(intro hq;try simp only [lnS]at hq)|refine sI ?_|refine .intro _ (.intro rfl ?_));(conv=>whnf)))
 refine aD NG c1 ⟨rfl,rfl,trivial⟩ (λr hs=> ?_)
 subst hs
 ((conv=>whnf);repeat ((first|(intro hq;try simp only [lnS]at hq)|refine sI ?_|refine .intro _ (.intro rfl ?_));(conv=>whnf)))
 refine aD NG (c2 _) ⟨rfl,rfl,trivial⟩ (λr hs=> ?_)
 subst hs
 ((conv=>whnf);repeat ((first|(intro hq;try simp only [lnS]at hq)|refine sI ?_|refine .intro _ (.intro rfl ?_));(conv=>whnf)))
 refine aD NG (c3 _) ⟨rfl,rfl,trivial⟩ (λr hs=> ?_)
 subst hs
 ((conv=>whnf);repeat ((first|(intro hq;try simp only [lnS]at hq)|refine sI ?_|refine .intro _ (.intro rfl ?_));(conv=>whnf)))
 refine aH.frozA (rows:=([0,0,0,0,0,0,0,0]:List UInt8).map bC) NG rfl rfl ⟨rfl,rfl,trivial⟩ rfl ?_
 refine aD NG c4 ⟨rfl,rfl,trivial⟩ (λr hs=> ?_)
 subst hs
 ((conv=>whnf);repeat ((first|(intro hq;try simp only [lnS]at hq)|refine sI ?_|refine .intro _ (.intro rfl ?_));(conv=>whnf)))
 refine aD [] c5 trivial (λr hs=> ?_)
 subst hs
 ((conv=>whnf);repeat ((first|(intro hq;try simp only [lnS]at hq)|refine sI ?_|refine .intro _ (.intro rfl ?_));(conv=>whnf)))
 refine aD NG c6 ⟨rfl,rfl,trivial⟩ (λr hs=> ?_)
 subst hs
 ((conv=>whnf);repeat ((first|(intro hq;try simp only [lnS]at hq)|refine sI ?_|refine .intro _ (.intro rfl ?_));(conv=>whnf)))
 rfl
end Go.Proofs.YtcomlapnibckmaaGreatDoor
namespace Go.Proofs.YtcomlapnibckmaaGreatDoor
open Go.RowKit
section
variable {P:Program}
end
end Go.Proofs.YtcomlapnibckmaaGreatDoor
namespace Go.Proofs.YtcomlapnibckmaaGreatDoor
open Go.Proofs Go.RowKit
set_option maxRecDepth 10000
attribute [local irreducible] aN aH Tri aF YVC cM bB aEp
theorem aBq (bs:List UInt8):Tri Tryz.prog 11 [.d (.sl 1 (bs.map bC)), .d .nil] [] (λr=>r= .d (.bool (decide (bs.length<=6000)))):=by
 have hbl:=jZ bs
 have hf:Tri Tryz.prog 40 [.d .nil, .d (.int .i64 12)] [] (λr=>r= .d (.bool true)):=
  (Tri.args (xs:=[.d .nil, .d (.int .i64 12)]) (pR [] 12 (by simp)) ⟨dJ.nil,⟨.refl _,trivial⟩⟩).mono (λr h=>by rw [h];rfl)
 refine aG false [] hty Tryz.func11 rfl (kp [0,1,4]) [] _ _ _ (by simp [Tryz.f11]) (by simp) ?_
 ((conv=>whnf);repeat ((first|(intro hq;try simp only [lnS]at hq)|refine sI ?_|refine .intro _ (.intro rfl ?_));(conv=>whnf)))
 rw [hbl]
 by_cases h:bs.length<=6000
 ·rw [decide_eq_true h]
  ((conv=>whnf);repeat' ((first|(intro hq;(try simp only [lnS]at hq);(try rewrite [List.length_map]))|refine sJ ?_|refine .intro _ (.intro rfl ?_)|refine exL (k:= ?_)|(refine aD [] hf trivial (λr hs=> ?_);subst hs)|refine dwR ?_|((first|refine aB ?_ ?_|refine aC ?_ ?_)<;>intro hb<;>(first|exact ddX hb|try simp only [lnS]at hb))|(refine aA ?_ ?_<;>intro hb<;>try exact dsX hb))<;>(conv=>whnf)))
  all_goals rfl
 ·rw [decide_eq_false h]
  ((conv=>whnf);repeat' ((first|(intro hq;(try simp only [lnS]at hq);(try rewrite [List.length_map]))|refine sJ ?_|refine .intro _ (.intro rfl ?_)|refine exL (k:= ?_)|(refine aD [] hf trivial (λr hs=> ?_);subst hs)|refine dwR ?_|((first|refine aB ?_ ?_|refine aC ?_ ?_)<;>intro hb<;>(first|exact ddX hb|try simp only [lnS]at hb))|(refine aA ?_ ?_<;>intro hb<;>try exact dsX hb))<;>(conv=>whnf)))
  all_goals rfl
end Go.Proofs.YtcomlapnibckmaaGreatDoor
namespace Go.Proofs.YtcomlapnibckmaaGreatDoor
open Go.Proofs
def uZ (s:List UInt8):Bool:=decide (2<=s.length) && (decide (s.length<=17) && (decide (s.head?=some 63) && ((s.drop 1).headD 0 |>vU) && (s.drop 2).all cZ))
def zP (s:List UInt8):Bool:=eF s && !decide (s.head?=some 95)
def lI (s:List UInt8):Bool:=uZ s || zP s
def atE (a:At):Int:=
 if a.kind < 1\/3 < a.kind then 210
 else if (a.kind≠2/\a.y≠[])\/(a.kind≠3/\(a.lo≠0\/a.hi≠0))then 210
 else if a.lo < -1099511627776\/a.hi < a.lo\/1099511627776 < a.hi then 210
 else if zP a.name=false then 20
 else if lI a.x=false then 20
 else if a.kind=2/\lI a.y=false then 20 else 0
def dB:List At->Int
 | []=>0
 |a::r=>if atE a≠0 then atE a else dB r
def bR (s:List UInt8):Bool:=decide (s.head?=some 63)
def dE (p:List At):List (List UInt8):=(p.flatMap λa=>[a.x,a.y]).filter bR
def rS (told:List (List UInt8)) (parts:List (List At)):Int:=
 if told.any (λt=> !uZ t)then 20
 else if (List.range told.length).any (λi=>(told.take i).contains (told.getD i []) || parts.any (λp=> !(dE p).contains (told.getD i [])))then 210 else 0
def qE (q:Qy):Int:=
 if q.parts.length < 1\/4 < q.parts.length\/3 < q.told.length then 210
 else if q.parts.any (λp=>decide (p.length < 1) || decide (12 < p.length))then 210
 else if dB q.parts.flatten≠0 then dB q.parts.flatten
 else if rS q.told q.parts≠0 then rS q.told q.parts
 else if q.parts.any (λp=>decide (8 < (dE p).eraseDups.length))then 210 else 0
def wN (q:Qy):List UInt8×Int:=if qE q=0 then (wQy q,0)else ([],qE q)
theorem wS {s:List UInt8}(h:uZ s=true):s.length<=17:=by
 unfold uZ at h
 simp only [Bool.and_eq_true,decide_eq_true_eq]at h
 exact h.2.1
theorem xN {s:List UInt8}(h:zP s=true):s.length<=24:=by
 unfold zP at h
 rw [Bool.and_eq_true]at h
 exact oG h.1
theorem tP {s:List UInt8}(h:lI s=true):s.length<=24:=by
 unfold lI at h
 rcases Bool.or_eq_true_iff.1 h with h|h
 ·have:=wS h;omega
 ·exact xN h
theorem lD: ∀(l:List At),dB l=0↔ ∀a∈l,atE a=0
 | []=>by simp [dB]
 |a::r=>by
  rw [dB]
  by_cases h:atE a≠0
  ·rw [if_pos h]
   exact⟨λe=>absurd e h,λe=>absurd (e a (List.mem_cons_self ..)) h⟩
  ·rw [if_neg h,lD r]
   have h:=Decidable.not_not.1 h
   refine⟨λe b hb=> ?_,λe b hb=>e b (List.mem_cons_of_mem _ hb)⟩
   rcases List.mem_cons.1 hb with hb|hb
   ·rw [hb];exact h
   ·exact e b hb
end Go.Proofs.YtcomlapnibckmaaGreatDoor
