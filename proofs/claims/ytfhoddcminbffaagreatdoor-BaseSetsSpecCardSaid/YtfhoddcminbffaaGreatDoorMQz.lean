/-
  Base: slices.Concat of axioms.
  Conditions: none.
-/
import Derived.Test.YtfhoddcminbffaaGreatDoorMJla
import Derived.Test.YtfhoddcminbffaaGreatDoorMLzp
import Derived.Test.YtfhoddcminbffaaGreatDoorMSyg
set_option linter.unnecessarySimpa false
set_option linter.unusedSectionVars false
set_option linter.unusedSimpArgs false
set_option linter.unusedVariables false
set_option maxHeartbeats 8000000
namespace Go.Proofs.YtfhoddcminbffaaGreatDoor
open Go.Proofs
set_option maxRecDepth 10000
attribute [local irreducible] aM aJ Tri aH YVC dI bI
theorem aQ0:Tryz.growAx_ren.f 4=116:=rfl
theorem aPz:Tryz.growAx_ren.t 25=48:=rfl
theorem aG6 (n:Nat) (hn:n<=1000000) {pin:List Nat}{fr:Fr}{hp:Hp}{K:SV->Hp->Prop}(hfr:fX 70 pin fr hp) (hk: ∀cap,K (.mw 70 16 0) ((70, .mrow 48 16 cap [])::hp)):
  aJ Tryz.prog pin fr hp 116 [.d .nil, .d (.int .i64 n)] K:=by
 have h0:ty 48=some ⟨.struct [(3,0),(4,1),(46,2),(46,7),(32,12),(9,13),(9,14),(9,15)],16,216,[.int .i64 0, .bool false, .int .i64 0, .str [], .int .i64 0, .int .i64 0, .nil, .int .i64 0, .str [], .int .i64 0, .int .i64 0, .nil, .nil, .str [], .str [], .str []]⟩:=rfl
 obtain⟨dd,i,zv,hT⟩:=aP (hty _ _ h0)
 have L:=Tryz.growAx
 rw [<-aQ0]
 rw [<-aPz]at hT hk
 exact aJ.growNil L hT (by decide) 70 n (by show n * 216<=140737488355328;omega) (by omega) hfr hk
def aU0 (l:List Ax):List D:=[.sl 16 (l.map axR)]
def aUj (ls:List (List Ax)):D:= .sl 1 (ls.map aU0)
theorem zC {ls:List (List Ax)}{j:Nat}(h:j < ls.length):(ls.take (j+1)).flatten=(ls.take j).flatten++ls[j]:=by
 rw [List.take_succ_eq_append_getElem h,List.flatten_append];simp
theorem aHr (ls:List (List Ax)) (j:Nat):(ls.take j).flatten.length<=ls.flatten.length:=by
 conv=>rhs;rw [<-List.take_append_drop j ls,List.flatten_append,List.length_append]
 omega
theorem aBn (ls:List (List Ax)) (h:ls.flatten.length<=1000000) (hl:ls.length<=1000000):Tri Tryz.prog 70 [.d (aUj ls)] [] (λr=>r= .d ((.sl 16 (ls.flatten.map axR)))):=by
 refine aF false [] hty Tryz.func70 rfl (kp [0,2,3,5,6,8,9,10,11,12,20,25,26,27,28]) [] _ _ _ (by simp [Tryz.f70]) (by simp) ?_
 ((conv=>whnf);repeat ((first|(intro hq;try simp only [lnS]at hq)|refine sI ?_|refine .intro _ (.intro rfl ?_));(conv=>whnf)))
 refine aG hty (λj:Nat=>([(0, .d (aUj ls)),(3, .d (.int .i64 (ls.take j).flatten.length)),(9, .d (aUj ls)),(10, .d (.int .i64 ls.length)),(11, .d (.int .i64 j))],[])) (λj=>j<=ls.length) (λj=>ls.length - j) 0 (by omega) ⟨by repeat' (first|exact trivial|exact rfl|(rw [List.length_map];exact rfl)|refine And.intro ?_ ?_),trivial⟩ ?_
 rintro j hj
 ((conv=>whnf);repeat ((first|(intro hq;try simp only [lnS]at hq)|refine sI ?_|refine .intro _ (.intro rfl ?_));(conv=>whnf)))
 refine aB (λh1=> ?_) (λh1=> ?_)
 ·have hjl:j < ls.length:=by omega
  have hrow:(ls.map aU0)[(j:Int).toNat]? =some (aU0 ls[j]):=bC hjl
  have hft:=zC hjl
  have hfl:=aHr ls (j+1)
  generalize ls[j]=x at hrow hft
  have hcast:(((ls.take (j+1)).flatten.length:Nat):Int)=((ls.take j).flatten.length:Nat)+(x.length:Nat):=by
   rw [hft,List.length_append];omega
  ((conv=>whnf);repeat' ((first|(intro hq;(try simp only [lnS]at hq);(try rewrite [List.length_map]))|refine sJ ?_|refine .intro _ (.intro rfl ?_)|refine exL (k:= ?_)|(refine⟨_,hrow, ?_⟩)|refine dwR ?_|((first|refine aB ?_ ?_|refine aC ?_ ?_)<;>intro hb<;>(first|exact ddX hb|try simp only [lnS]at hb))|(refine aA ?_ ?_<;>intro hb<;>try exact dsX hb))<;>(conv=>whnf)))
  refine⟨j+1,by dsimp only;omega,by dsimp only;omega,⟨?_,trivial⟩⟩
  dsimp only
  rw [hcast]
  repeat' (first|exact trivial|exact rfl|refine And.intro ?_ ?_)
 have hjl:j=ls.length:=by omega
 subst hjl
 rw [List.take_length]
 ((conv=>whnf);repeat ((first|(intro hq;try simp only [lnS]at hq)|refine sI ?_|refine .intro _ (.intro rfl ?_));(conv=>whnf)))
 refine aG6 _ h (bW (by with_unfolding_all exact rfl)) (λcap=> ?_)
 ((conv=>whnf);repeat ((first|(intro hq;try simp only [lnS]at hq)|refine sI ?_|refine .intro _ (.intro rfl ?_));(conv=>whnf)))
 refine aG hty (λy:Nat×Nat=>([(6, .mw 70 16 (ls.take y.1).flatten.length),(25, .d (aUj ls)),(26, .d (.int .i64 ls.length)),(27, .d (.int .i64 y.1))],[(70, .mrow 48 16 y.2 ((ls.take y.1).flatten.map axR))])) (λy=>y.1<=ls.length) (λy=>ls.length - y.1) (0,cap) (by dsimp only;omega) ⟨by repeat' (first|exact trivial|exact rfl|(rw [List.length_map];exact rfl)|refine And.intro ?_ ?_),⟨rfl,trivial⟩⟩ ?_
 rintro⟨j,cap⟩ hj
 dsimp only at hj
 ((conv=>whnf);repeat ((first|(intro hq;try simp only [lnS]at hq)|refine sI ?_|refine .intro _ (.intro rfl ?_));(conv=>whnf)))
 refine aB (λh1=> ?_) (λh1=> ?_)
 ·have hjl:j < ls.length:=by dsimp only at h1;omega
  have hrow:(ls.map aU0)[(j:Int).toNat]? =some (aU0 ls[j]):=bC hjl
  have hft:=zC hjl
  have hfl:=aHr ls (j+1)
  generalize ls[j]=x at hrow hft
  rw [hft,List.length_append]at hfl
  ((conv=>whnf);repeat' ((first|(intro hq;(try simp only [lnS]at hq);(try rewrite [List.length_map]))|refine sJ ?_|refine .intro _ (.intro rfl ?_)|refine exL (k:= ?_)|(refine⟨_,hrow, ?_⟩)|refine dwR ?_|((first|refine aB ?_ ?_|refine aC ?_ ?_)<;>intro hb<;>(first|exact ddX hb|try simp only [lnS]at hb))|(refine aA ?_ ?_<;>intro hb<;>try exact dsX hb))<;>(conv=>whnf)))
  refine⟨(List.length_map ..).symm,by simp only [List.length_map];omega, ?_,λcap' hc=> ?_⟩
  ·show (((ls.take j).flatten.map axR).length+(x.map axR).length)* 216<=140737488355328
   simp only [List.length_map];omega
  ·((conv=>whnf);repeat ((first|(intro hq;try simp only [lnS]at hq)|refine sI ?_|refine .intro _ (.intro rfl ?_));(conv=>whnf)))
   refine⟨(j+1,cap'),by dsimp only;omega,by dsimp only;omega, ?_, ?_⟩
   ·repeat' (first|exact trivial|exact rfl|exact aUa (by(try dsimp only);rw [hft];simp only [List.length_append,List.length_map])|refine And.intro ?_ ?_)
   ·dsimp only
    rw [hft,List.map_append]
    repeat' (first|exact trivial|exact rfl|refine And.intro ?_ ?_)
 ·have hjl:j=ls.length:=by dsimp only at h1;omega
  subst hjl
  rw [List.take_length]
  ((conv=>whnf);repeat' ((first|(intro hq;(try simp only [lnS]at hq);(try rewrite [List.length_map]))|refine sJ ?_|refine .intro _ (.intro rfl ?_)|refine exL (k:= ?_)|refine dwR ?_|((first|refine aB ?_ ?_|refine aC ?_ ?_)<;>intro hb<;>(first|exact ddX hb|try simp only [lnS]at hb))|(refine aA ?_ ?_<;>intro hb<;>try exact dsX hb))<;>(conv=>whnf)))
  refine⟨(List.length_map ..).symm, ?_⟩
  ((conv=>whnf);repeat ((first|(intro hq;try simp only [lnS]at hq)|refine sI ?_|refine .intro _ (.intro rfl ?_));(conv=>whnf)))
  rfl
end Go.Proofs.YtfhoddcminbffaaGreatDoor
