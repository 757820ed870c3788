/-
  Bases: the reference's Same at one list of axioms; few and same of the law of renamings. Rename: lists of the law's own; the chapter's examples. Rename: the laws of axioms with other names, plainly. Rename: the names of renamings. RenameTwice, walked.
  Conditions: none.
-/
import Derived.Test.YtfhoddcminbffaaGreatDoorVDb
import Derived.Test.YtfhoddcminbffaaGreatDoorVBt
import Derived.Test.YtfhoddcminbffaaGreatDoorVBq
import Derived.Test.YtfhoddcminbffaaGreatDoorVTcr
import Derived.Test.YtfhoddcminbffaaGreatDoorVSyd
import Derived.Test.YtfhoddcminbffaaGreatDoorVRu
set_option linter.unnecessarySimpa false
set_option linter.unusedSectionVars false
set_option linter.unusedSimpArgs false
set_option linter.unusedVariables false
set_option maxHeartbeats 16000000
namespace Go.Proofs.YtfhoddcminbffaaGreatDoor
open Go.Proofs
set_option maxRecDepth 10000
attribute [local irreducible] aV aM Tri aI YVC dQ bN
structure Sm6 (x:Ax):Prop where
 l:aQ x.left<=1000000
 r:aQ x.right<=1000000
 n:x.roles.length<=1000000
theorem aKj {x:Ax}(h:bK x=0):Sm6 x:=by
 obtain⟨h1,h2,h3⟩:=kY h
 exact⟨by omega,by omega,by omega⟩
theorem aAe (x:Ax) (h:Sm6 x):Tri Tryz.prog 60 [.d (.agg (axR x)), .d (.agg (axR x))] [] (λr=>r= .d (.bool true)):=by
 have c:=mJ x x h.l h.r h.n h.l h.r h.n
 rw [show aDb x x=0 from aDa.2 rfl]at c
 refine aH false [2,3] hty Tryz.func60 rfl (kp [0,1,2,3,4]) [] _ _ _ (by simp [Tryz.f60]) (by simp) ?_
 ((conv=>whnf);repeat' ((first|(intro hq;(try simp only [lnS]at hq);(try rewrite [List.length_map]))|refine sJ ?_|refine .intro _ (.intro rfl ?_)|refine exL (k:= ?_)|(refine aG [] c trivial (λr hs=> ?_);subst hs)|refine dwR ?_|((first|refine aD ?_ ?_|refine aF ?_ ?_)<;>intro hb<;>(first|exact ddX hb|try simp only [lnS]at hb))|(refine aC ?_ ?_<;>intro hb<;>try exact dsX hb))<;>(conv=>whnf)))
 all_goals first
  |rfl
  |(refine bA ?_;simp)
  |(exfalso;simp_all;done)
theorem yM (l:List Ax) (h: ∀x∈l,Sm6 x):Tri Tryz.prog 56 [.d (.sl 16 (l.map axR)), .d (.sl 16 (l.map axR))] [] (λr=>r= .d (.bool true)):=by
 refine aH false [] hty Tryz.func56 rfl (kp [0,1,4,5,10,14,26]) [] _ _ _ (by simp [Tryz.f56]) (by simp) ?_
 ((conv=>whnf);repeat ((first|(intro hq;try simp only [lnS]at hq)|refine sI ?_|refine .intro _ (.intro rfl ?_));(conv=>whnf)))
 refine aF (λh1=> ?_) (λh1=> ?_)
 ·exact absurd rfl h1
 ((conv=>whnf);repeat ((first|(intro hq;try simp only [lnS]at hq)|refine sI ?_|refine .intro _ (.intro rfl ?_));(conv=>whnf)))
 refine aK hty (λj:Nat=>([(0, .d (.sl 16 (l.map axR))),(1, .d (.sl 16 (l.map axR))),(5, .d (.int .i64 j))],[])) (λj=>j<=l.length) (λj=>l.length - j) 0 (by omega) ⟨by repeat' (first|exact trivial|exact rfl|refine And.intro ?_ ?_),trivial⟩ ?_
 rintro j hj
 ((conv=>whnf);repeat ((first|(intro hq;try simp only [lnS]at hq)|refine sI ?_|refine .intro _ (.intro rfl ?_));(conv=>whnf)))
 refine aD (λh2=> ?_) (λh2=> ?_)
 ·have hjl:j < l.length:=by have h2:(j:Int) < ((l.map axR).length:Nat):=h2;rw [List.length_map]at h2;omega
  have hrow:(l.map axR)[(j:Int).toNat]? =some (axR l[j]):=aS hjl
  have c:=aAe l[j] (h _ (List.getElem_mem hjl))
  generalize l[j]=x at hrow c
  ((conv=>whnf);repeat' ((first|(intro hq;(try simp only [lnS]at hq);(try rewrite [List.length_map]))|refine sJ ?_|refine .intro _ (.intro rfl ?_)|refine exL (k:= ?_)|(refine⟨_,hrow, ?_⟩)|(refine⟨.d (.bool _),_,[],rfl,trivial,c, ?_⟩)|refine dwR ?_|((first|refine aD ?_ ?_|refine aF ?_ ?_)<;>intro hb<;>(first|exact ddX hb|try simp only [lnS]at hb))|(refine aC ?_ ?_<;>intro hb<;>try exact dsX hb))<;>(conv=>whnf)))
  exact⟨j+1,by dsimp only;omega,by dsimp only;omega,⟨by repeat' (first|exact trivial|exact rfl|refine And.intro ?_ ?_),by repeat' (first|exact trivial|exact rfl|refine And.intro ?_ ?_)⟩⟩
 ·((conv=>whnf);repeat' ((first|(intro hq;(try simp only [lnS]at hq);(try rewrite [List.length_map]))|refine sJ ?_|refine .intro _ (.intro rfl ?_)|refine exL (k:= ?_)|refine dwR ?_|((first|refine aD ?_ ?_|refine aF ?_ ?_)<;>intro hb<;>(first|exact ddX hb|try simp only [lnS]at hb))|(refine aC ?_ ?_<;>intro hb<;>try exact dsX hb))<;>(conv=>whnf)))
  rfl
theorem aDe (l:List Ax) (h: ∀x∈l,Sm6 x):Tri Tryz.prog 21 [.d (.agg [.sl 16 (l.map axR)]), .d (.agg [.sl 16 (l.map axR)])] [] (λr=>r= .d (.bool true)):=by
 have c:=yM l h
 refine aH false [2,3] hty Tryz.func21 rfl (kp [0,1,2,3,4]) [] _ _ _ (by simp [Tryz.f21]) (by simp) ?_
 ((conv=>whnf);repeat' ((first|(intro hq;(try simp only [lnS]at hq);(try rewrite [List.length_map]))|refine sJ ?_|refine .intro _ (.intro rfl ?_)|refine exL (k:= ?_)|(refine aG [] c trivial (λr hs=> ?_);subst hs)|refine dwR ?_|((first|refine aD ?_ ?_|refine aF ?_ ?_)<;>intro hb<;>(first|exact ddX hb|try simp only [lnS]at hb))|(refine aC ?_ ?_<;>intro hb<;>try exact dsX hb))<;>(conv=>whnf)))
 rfl
theorem aCr (l:List Ax) (h: ∀x∈l,Sm6 x):Tri Tryz.prog 11 [.d (.sl 16 (l.map axR)), .d (.sl 16 (l.map axR))] [] (λr=>r= .d (.bool true)):=by
 have c:=aDe l h
 refine aH false [] hty Tryz.func11 rfl (kp [0,1,4]) [] _ _ _ (by simp [Tryz.f11]) (by simp) ?_
 ((conv=>whnf);repeat' ((first|(intro hq;(try simp only [lnS]at hq);(try rewrite [List.length_map]))|refine sJ ?_|refine .intro _ (.intro rfl ?_)|refine exL (k:= ?_)|(refine aG [] c trivial (λr hs=> ?_);subst hs)|refine dwR ?_|((first|refine aD ?_ ?_|refine aF ?_ ?_)<;>intro hb<;>(first|exact ddX hb|try simp only [lnS]at hb))|(refine aC ?_ ?_<;>intro hb<;>try exact dsX hb))<;>(conv=>whnf)))
 rfl
def aFl (n k:Nat):Bool:=decide (n<=20) && decide (k<=20)
theorem aF8 (rows:List (List D)) (rows2:List (List D)):Tri Tryz.prog 8 [.d (.sl 3 rows), .d (.sl 16 rows2)] [] (λr=>r= .d (.bool (aFl rows.length rows2.length))):=by
 unfold aFl
 refine aH false [] hty Tryz.func8 rfl (kp [0,1,4]) [] _ _ _ (by simp [Tryz.f8]) (by simp) ?_
 ((conv=>whnf);repeat' ((first|(intro hq;(try simp only [lnS]at hq);(try rewrite [List.length_map]))|refine sJ ?_|refine .intro _ (.intro rfl ?_)|refine exL (k:= ?_)|refine dwR ?_|((first|refine aD ?_ ?_|refine aF ?_ ?_)<;>intro hb<;>(first|exact ddX hb|try simp only [lnS]at hb))|(refine aC ?_ ?_<;>intro hb<;>try exact dsX hb))<;>(conv=>whnf)))
 all_goals refine bA (Eq.symm ?_)
 ·have h9:rows.length<=20:=by omega
  rw [decide_eq_true h9,Bool.true_and,decide_eq_decide]
  omega
 ·have h9:¬ rows.length<=20:=by omega
  rw [decide_eq_false h9]
  rfl
end Go.Proofs.YtfhoddcminbffaaGreatDoor
namespace Go.Proofs.YtfhoddcminbffaaGreatDoor
open Go.Proofs
set_option maxRecDepth 10000
attribute [local irreducible] aV aM Tri aI YVC dQ bN
theorem vR (a b:List UInt8):Tri Tryz.prog 38 [.d (.sl 1 [[.str a],[.str b]])] [] (λr=>r= .d (rnL [⟨1,a,b⟩])):=by
 refine aH false [] hty Tryz.func38 rfl (kp [0,2,3,8]) [] _ _ _ (by simp [Tryz.f38]) (by simp) ?_
 ((conv=>whnf);repeat ((first|(intro hq;try simp only [lnS]at hq)|refine sI ?_|refine .intro _ (.intro rfl ?_));(conv=>whnf)))
 refine aV.own 2 120 68 3 rfl (dV (by with_unfolding_all exact rfl)) ?_
 refine aKg hty 2 ?_
 ((conv=>whnf);repeat' ((first|exact trivial|refine sC ?_ ?_|(refine fD (id:=4) hty (.first 0 (.first 1 (.first 2 (.first 3 (.first 4 (.first 5 (.first 6 (.first 7 (.first 8 (.first 9 (.first 10 (.alt 11 (.alt 12 (.first 13 .done) .stop) .stop)))))))))))) (by kernel_rfl) (by kernel_rfl) ?_)|(intro hq;(try simp only [lnS]at hq);(try rewrite [List.length_map]))|refine sJ ?_|refine .intro _ (.intro rfl ?_)|refine exL (k:= ?_)|refine dwR ?_|((first|refine aD ?_ ?_|refine aF ?_ ?_)<;>intro hb<;>(first|exact ddX hb|try simp only [lnS]at hb))|(refine aC ?_ ?_<;>intro hb<;>try exact dsX hb))<;>(conv=>whnf)))
 rfl
theorem pN (a b c d:List UInt8):Tri Tryz.prog 38 [.d (.sl 1 [[.str a],[.str b],[.str c],[.str d]])] [] (λr=>r= .d (rnL [⟨1,a,b⟩,⟨1,c,d⟩])):=by
 refine aH false [] hty Tryz.func38 rfl (kp [0,2,3,8]) [] _ _ _ (by simp [Tryz.f38]) (by simp) ?_
 ((conv=>whnf);repeat ((first|(intro hq;try simp only [lnS]at hq)|refine sI ?_|refine .intro _ (.intro rfl ?_));(conv=>whnf)))
 refine aV.own 2 120 68 3 rfl (dV (by with_unfolding_all exact rfl)) ?_
 refine aK hty (λj:Nat=>([(0, .d (.sl 1 [[.str a],[.str b],[.str c],[.str d]])),(2, .osl 120 3 ((([⟨1,a,b⟩,⟨1,c,d⟩]:List Rn).take j).map rnR)),(3, .d (.int .i64 ((2 * j:Nat):Int)))],[(120, .own 68 3 ((([⟨1,a,b⟩,⟨1,c,d⟩]:List Rn).take j).map rnR).length)])) (λj=>j<=2) (λj=>2 - j) 0 (by omega) ⟨by repeat' (first|exact trivial|exact rfl|refine And.intro ?_ ?_),by repeat' (first|exact trivial|exact rfl|refine And.intro ?_ ?_)⟩ ?_
 intro j hj
 have hj3:j=0\/j=1\/j=2:=by omega
 rcases hj3 with rfl|rfl|rfl
 ·((conv=>whnf);repeat' ((first|exact trivial|refine sC ?_ ?_|(refine fD (id:=4) hty (.first 0 (.first 1 (.first 2 (.first 3 (.first 4 (.first 5 (.first 6 (.first 7 (.first 8 (.first 9 (.first 10 (.alt 11 (.alt 12 (.first 13 .done) .stop) .stop)))))))))))) (by kernel_rfl) (by kernel_rfl) ?_)|(intro hq;(try simp only [lnS]at hq);(try rewrite [List.length_map]))|refine sJ ?_|refine .intro _ (.intro rfl ?_)|refine exL (k:= ?_)|refine dwR ?_|((first|refine aD ?_ ?_|refine aF ?_ ?_)<;>intro hb<;>(first|exact ddX hb|try simp only [lnS]at hb))|(refine aC ?_ ?_<;>intro hb<;>try exact dsX hb))<;>(conv=>whnf)))
  exact⟨1,by decide,by decide,⟨by repeat' (first|exact trivial|exact rfl|refine And.intro ?_ ?_),by repeat' (first|exact trivial|exact rfl|refine And.intro ?_ ?_)⟩⟩
 ·((conv=>whnf);repeat' ((first|exact trivial|refine sC ?_ ?_|(refine fD (id:=4) hty (.first 0 (.first 1 (.first 2 (.first 3 (.first 4 (.first 5 (.first 6 (.first 7 (.first 8 (.first 9 (.first 10 (.alt 11 (.alt 12 (.first 13 .done) .stop) .stop)))))))))))) (by kernel_rfl) (by kernel_rfl) ?_)|(intro hq;(try simp only [lnS]at hq);(try rewrite [List.length_map]))|refine sJ ?_|refine .intro _ (.intro rfl ?_)|refine exL (k:= ?_)|refine dwR ?_|((first|refine aD ?_ ?_|refine aF ?_ ?_)<;>intro hb<;>(first|exact ddX hb|try simp only [lnS]at hb))|(refine aC ?_ ?_<;>intro hb<;>try exact dsX hb))<;>(conv=>whnf)))
  exact⟨2,by decide,by decide,⟨by repeat' (first|exact trivial|exact rfl|refine And.intro ?_ ?_),by repeat' (first|exact trivial|exact rfl|refine And.intro ?_ ?_)⟩⟩
 ·((conv=>whnf);repeat' ((first|(intro hq;(try simp only [lnS]at hq);(try rewrite [List.length_map]))|refine sJ ?_|refine .intro _ (.intro rfl ?_)|refine exL (k:= ?_)|refine dwR ?_|((first|refine aD ?_ ?_|refine aF ?_ ?_)<;>intro hb<;>(first|exact ddX hb|try simp only [lnS]at hb))|(refine aC ?_ ?_<;>intro hb<;>try exact dsX hb))<;>(conv=>whnf)))
  rfl
def rAB:List Rn:=[⟨1,[65],[66]⟩]
def aKm:List Rn:=[⟨1,[65],[66]⟩,⟨1,[66],[65]⟩]
def rBC:List Rn:=[⟨1,[66],[67]⟩]
def aJf:List Rn:=[⟨1,[65],[67]⟩,⟨1,[66],[65]⟩]
def aMe:Ax:=⟨8,false,c0, .mk 3 [65] 0 0 [],[],[],[65],[]⟩
def aMd:Ax:=⟨8,false,c0, .mk 3 [66] 0 0 [],[],[],[65],[]⟩
theorem aMa:sW aKm rBC=(aJf,0):=by kernel_rfl
theorem aM9:sW rAB rBC=([],330):=by kernel_rfl
theorem aN0:lW rAB [aMe]=([aMd],0):=by kernel_rfl
theorem aMz:cD [⟨1,[65],[65]⟩]=330:=by kernel_rfl
theorem aMy:cD [⟨1,[65],[66]⟩,⟨1,[65],[67]⟩]=330:=by kernel_rfl
theorem aMx:cD [⟨1,[65],[67]⟩,⟨1,[66],[67]⟩]=330:=by kernel_rfl
theorem Tri.oslN2 {P:Program}{f:FuncId}{s0:SV}{id z:Nat}{rows rows':List (List D)}{hp:Hp}{post:SV->Prop}(h:Tri P f [s0, .d (.sl z rows')] hp post) (hw:aGh rows rows'):Tri P f [s0, .osl id z rows] hp post:=by
 unfold Tri at h |-
 intro w ρ vs a b c
 refine h w ρ vs a ⟨b.1,λj s v hs hv=> ?_⟩ c
 match j,hs with
 | 0,hs=>exact b.2 0 s v hs hv
 | 1,hs=>
  injection hs with hs;subst hs
  exact .d _ _ (aGb (b.2 1 _ v rfl hv).osl_inv.1 _ (by simpa [WkD]using hw))
def aMc:List D:=[.int .i64 8, .bool false, .int .i64 0, .str [], .int .i64 0, .int .i64 0, .nil, .int .i64 3, .str [65], .int .i64 0, .int .i64 0, .nil, .nil, .str [], .str [65], .str []]
theorem aC4:Tri Tryz.prog 7 [] NG (λr=>r= .d (.bool true)):=by
 have o1:= λ(id:Nat)=>Tri.osl (id:=id) (pN [65] [66] [66] [65])
 have o2:= λ(id:Nat)=>Tri.osl (id:=id) (vR [66] [67])
 have o3:= λ(id:Nat)=>Tri.osl (id:=id) (vR [65] [66])
 have o4:= λ(id:Nat)=>Tri.osl (id:=id) (vR [65] [65])
 have o5:= λ(id:Nat)=>Tri.osl (id:=id) (pN [65] [66] [65] [67])
 have o6:= λ(id:Nat)=>Tri.osl (id:=id) (pN [65] [67] [66] [67])
 have o7:= λ(id:Nat)=>Tri.osl (id:=id) (pN [65] [67] [66] [65])
 have k1:=lG aKm rBC
 have k2:=lG rAB rBC
 rw [aMa]at k1
 rw [aM9]at k2
 have k3:=mG rAB [aMe] (by decide)
 rw [aN0]at k3
 have c1:=cV [⟨1,[65],[65]⟩]
 have c2:=cV [⟨1,[65],[66]⟩,⟨1,[65],[67]⟩]
 have c3:=cV [⟨1,[65],[67]⟩,⟨1,[66],[67]⟩]
 rw [aMz]at c1
 rw [aMy]at c2
 rw [aMx]at c3
 have s1:=zI aJf
 refine aH false [5] hty Tryz.func7 rfl (kp [0,1,2,4,5,6,7,8]) [] _ _ _ (by simp [Tryz.f7]) (by decide) ?_
 ((conv=>whnf);repeat ((first|(intro hq;try simp only [lnS]at hq)|refine sI ?_|refine .intro _ (.intro rfl ?_));(conv=>whnf)))
 refine aG [] (o1 _) trivial (λr hs=> ?_)
 subst hs
 ((conv=>whnf);repeat ((first|(intro hq;try simp only [lnS]at hq)|refine sI ?_|refine .intro _ (.intro rfl ?_));(conv=>whnf)))
 refine aG [] (o2 _) trivial (λr hs=> ?_)
 subst hs
 ((conv=>whnf);repeat ((first|(intro hq;try simp only [lnS]at hq)|refine sI ?_|refine .intro _ (.intro rfl ?_));(conv=>whnf)))
 refine aG [] k1 trivial (λr hs=> ?_)
 subst hs
 ((conv=>whnf);repeat ((first|(intro hq;try simp only [lnS]at hq)|refine sI ?_|refine .intro _ (.intro rfl ?_));(conv=>whnf)))
 refine aG [] (o3 _) trivial (λr hs=> ?_)
 subst hs
 ((conv=>whnf);repeat ((first|(intro hq;try simp only [lnS]at hq)|refine sI ?_|refine .intro _ (.intro rfl ?_));(conv=>whnf)))
 refine aG [] (o2 _) trivial (λr hs=> ?_)
 subst hs
 ((conv=>whnf);repeat ((first|(intro hq;try simp only [lnS]at hq)|refine sI ?_|refine .intro _ (.intro rfl ?_));(conv=>whnf)))
 refine aG [] k2 trivial (λr hs=> ?_)
 subst hs
 ((conv=>whnf);repeat ((first|(intro hq;try simp only [lnS]at hq)|refine sI ?_|refine .intro _ (.intro rfl ?_));(conv=>whnf)))
 refine aV.mid [(0, .d (.bool false)),(1, .d (rnL aJf)),(2, .d (.int .i64 0)),(4, .d (.int .i64 330)),(6, .d (.sl 16 [axR aMd])),(7, .d (.int .i64 0))] NG ?_ ?_
 ·have k4:Tri Tryz.prog 9 [.d (rnL rAB), .d (.sl 16 [axR aMe])] NG (λr=>r= .tup [.d (.sl 16 [axR aMd]), .d (.int .i64 0)]):=k3
  have k5:= λ(id:Nat)=>Tri.oslN2 (id:=id) (rows:=[aMc]) k4 (by repeat' (first|exact trivial|exact rfl|refine And.intro ?_ ?_))
  (refine fD (id:=4) hty (.first 2 (.alt 0 (.alt 1 (.alt 3 (.alt 4 (.first 5 (.first 6 (.first 7 (.first 8 (.first 9 .done))))) .stop) .stop) (.alt 3 (.alt 1 (.alt 4 (.first 5 (.first 6 (.first 7 (.first 8 (.first 9 .done))))) .stop) .stop) .stop)) (.alt 3 (.alt 0 (.alt 1 (.alt 4 (.first 5 (.first 6 (.first 7 (.first 8 (.first 9 .done))))) .stop) .stop) .stop) .stop))) (by kernel_rfl) (by kernel_rfl) ?_)
  ((conv=>whnf);repeat' ((first|exact trivial|refine sC ?_ ?_|refine eqN rfl ?_|refine leN rfl ?_|refine ltN rfl ?_|(refine aG [] (o3 _) trivial (λr hs=> ?_);subst hs)|(refine aG NG (k5 _) (by exact⟨rfl,rfl,trivial⟩) (λr hs=> ?_);subst hs)|refine sJ ?_|(refine Exists.intro _ (And.intro rfl ?_)))<;>(conv=>whnf)))
  all_goals exact⟨by repeat' (first|exact trivial|exact rfl|refine And.intro ?_ ?_),by repeat' (first|exact trivial|exact rfl|refine And.intro ?_ ?_)⟩
 ((conv=>whnf);repeat ((first|(intro hq;try simp only [lnS]at hq)|refine sI ?_|refine .intro _ (.intro rfl ?_));(conv=>whnf)))
 refine aG [] (o4 _) trivial (λr hs=> ?_)
 subst hs
 ((conv=>whnf);repeat ((first|(intro hq;try simp only [lnS]at hq)|refine sI ?_|refine .intro _ (.intro rfl ?_));(conv=>whnf)))
 refine aG [] c1 trivial (λr hs=> ?_)
 subst hs
 ((conv=>whnf);repeat ((first|(intro hq;try simp only [lnS]at hq)|refine sI ?_|refine .intro _ (.intro rfl ?_));(conv=>whnf)))
 refine aG [] (o5 _) trivial (λr hs=> ?_)
 subst hs
 ((conv=>whnf);repeat ((first|(intro hq;try simp only [lnS]at hq)|refine sI ?_|refine .intro _ (.intro rfl ?_));(conv=>whnf)))
 refine aG [] c2 trivial (λr hs=> ?_)
 subst hs
 ((conv=>whnf);repeat ((first|(intro hq;try simp only [lnS]at hq)|refine sI ?_|refine .intro _ (.intro rfl ?_));(conv=>whnf)))
 refine aG [] (o6 _) trivial (λr hs=> ?_)
 subst hs
 ((conv=>whnf);repeat ((first|(intro hq;try simp only [lnS]at hq)|refine sI ?_|refine .intro _ (.intro rfl ?_));(conv=>whnf)))
 refine aG [] c3 trivial (λr hs=> ?_)
 subst hs
 ((conv=>whnf);repeat ((first|(intro hq;try simp only [lnS]at hq)|refine sI ?_|refine .intro _ (.intro rfl ?_));(conv=>whnf)))
 refine aG [] (o7 _) trivial (λr hs=> ?_)
 subst hs
 ((conv=>whnf);repeat ((first|(intro hq;try simp only [lnS]at hq)|refine sI ?_|refine .intro _ (.intro rfl ?_));(conv=>whnf)))
 refine aG [] s1 trivial (λr hs=> ?_)
 subst hs
 ((conv=>whnf);repeat ((first|(intro hq;try simp only [lnS]at hq)|refine sI ?_|refine .intro _ (.intro rfl ?_));(conv=>whnf)))
 rfl
end Go.Proofs.YtfhoddcminbffaaGreatDoor
namespace Go.Proofs.YtfhoddcminbffaaGreatDoor
open Go.Proofs
theorem aA6 {xs:List Ax}{f:Ax->Ax}(h: ∀x∈xs,(bO (f x)).2=0):gU (xs.map λx=>(bO (f x)).1)=0:=by
 rw [iO]
 intro y hy
 obtain⟨x,hx,rfl⟩:=List.mem_map.1 hy
 exact(aDg (h x hx)).2.1
theorem aDf {l:List Rn}{xs:List Ax}(h:(lW l xs).2=0):gU xs=0/\gU (lW l xs).1=0:=by
 obtain⟨g,e,t,e1⟩:=aJz h
 rw [e1]
 exact⟨(iO xs).2 e,aA6 (f:= λx=>gE (aO l) x) t⟩
end Go.Proofs.YtfhoddcminbffaaGreatDoor
namespace Go.Proofs.YtfhoddcminbffaaGreatDoor
open Go.Proofs
set_option maxRecDepth 10000
attribute [local irreducible] aV aM Tri aI YVC dQ bN
def tU (l:List Rn):List (List UInt8):=l.flatMap λr=>[r.old,r.new]
theorem aF2 {l:List Rn}{j:Nat}(h:j < l.length):tU (l.take (j+1))=tU (l.take j)++[l[j].old,l[j].new]:=by
 unfold tU
 rw [List.take_succ_eq_append_getElem h,List.flatMap_append];rfl
theorem aAw (l:List Rn):(tU l).length=2 * l.length:=by
 induction l with
 |nil=>rfl
 |cons a r ih=>
  unfold tU at *
  rw [List.flatMap_cons,List.length_append,ih,List.length_cons,List.length_cons,List.length_cons,List.length_nil];omega
end Go.Proofs.YtfhoddcminbffaaGreatDoor
namespace Go.Proofs.YtfhoddcminbffaaGreatDoor
open Go.Proofs
set_option maxRecDepth 10000
attribute [local irreducible] aV aM Tri aI YVC dQ bN
theorem aL6 {l:List Rn}{xs:List Ax}: ∀x∈(lW l xs).1,Sm6 x:=by
 intro x hx
 by_cases e:(lW l xs).2=0
 ·exact aKj ((iO _).1 (aDf e).2 x hx)
 ·rw [aIi e]at hx;simp at hx
end Go.Proofs.YtfhoddcminbffaaGreatDoor
