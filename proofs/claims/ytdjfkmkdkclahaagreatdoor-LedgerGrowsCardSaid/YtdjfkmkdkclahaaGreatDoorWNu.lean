/-
  Ledgers, the laws: fewParts; ledgers only grow.
  Conditions: none.
-/
import Derived.Test.YtdjfkmkdkclahaaGreatDoorWNt
import Derived.Test.YtdjfkmkdkclahaaGreatDoorWQqh
set_option linter.unnecessarySimpa false
set_option linter.unusedSectionVars false
set_option linter.unusedSimpArgs false
set_option linter.unusedVariables false
set_option maxHeartbeats 16000000
namespace Go.Proofs.YtdjfkmkdkclahaaGreatDoor
open Go.Proofs Go.RowKit
set_option maxRecDepth 10000
attribute [local irreducible] aJ aG Tri aF YVC cA aU
def aEw (l:List (List At)):Bool:=l.all (λp=>decide (p.length<=6)) && decide ((l.length:Int)<=8)
theorem vT (l:List (List At)):Tri Tryz.prog 28 [.d (.sl 1 (l.map aQ))] [] (λr=>r= .d (.bool (aEw l))):=by
 have hl:(l.map aQ).length=l.length:=List.length_map ..
 refine aH false [4] hty Tryz.func28 rfl (kp [0,2,4,5,6,7,8,14]) [] _ _ _ (by simp [Tryz.f28]) (by simp) ?_
 ((conv=>whnf);repeat ((first|(intro hq;try simp only [lnS]at hq)|refine sI ?_|refine .intro _ (.intro rfl ?_));(conv=>whnf)))
 refine aP hty (λj:Nat=>([(0, .d (.sl 1 (l.map aQ))),(5, .d (.sl 1 (l.map aQ))),(6, .d (.int .i64 l.length)),(7, .d (.int .i64 j))],[])) (λj=>j<=l.length/\ ∀p∈l.take j,p.length<=6) (λj=>l.length - j) 0 ⟨Nat.zero_le _,λp hp=>by simp at hp⟩ ⟨by repeat' (first|exact trivial|exact rfl|(rw [List.length_map];exact rfl)|refine And.intro ?_ ?_),trivial⟩ ?_
 rintro j ⟨hj,hn⟩
 ((conv=>whnf);repeat ((first|(intro hq;try simp only [lnS]at hq)|refine sI ?_|refine .intro _ (.intro rfl ?_));(conv=>whnf)))
 refine aC (λh1=> ?_) (λh1=> ?_)
 ·have hjl:j < l.length:=by omega
  have hrow:(l.map aQ)[((j:Nat):Int).toNat]? =some (aQ l[j]):=aT hjl
  have hpl:(l[j].map atR).length=l[j].length:=List.length_map ..
  have hm:l[j]∈l:=List.getElem_mem hjl
  have hts:l.take (j+1)=l.take j++[l[j]]:=List.take_succ_eq_append_getElem hjl
  rw [show aQ l[j]=[.sl 6 (l[j].map atR)]from rfl]at hrow
  ((conv=>whnf);repeat' ((first|(intro hq;(try simp only [lnS]at hq);(try rewrite [List.length_map]))|refine sJ ?_|refine .intro _ (.intro rfl ?_)|refine exL (k:= ?_)|(refine⟨_,hrow, ?_⟩)|refine dwR ?_|((first|refine aC ?_ ?_|refine aD ?_ ?_)<;>intro hb<;>(first|exact ddX hb|try simp only [lnS]at hb))|(refine aB ?_ ?_<;>intro hb<;>try exact dsX hb))<;>(conv=>whnf)))
  ·refine aM ?_
   unfold aEw
   cases h:l.all (λp=>decide (p.length<=6))
   ·rfl
   ·have h2:=List.all_eq_true.1 h _ hm
    simp only [decide_eq_true_eq]at h2
    omega
  ·refine⟨j+1,⟨by omega,λp hp=> ?_⟩,by dsimp only;omega,by repeat' (first|exact trivial|exact rfl|refine And.intro ?_ ?_),trivial⟩
   rw [hts,List.mem_append,List.mem_singleton]at hp
   rcases hp with hp|rfl
   ·exact hn p hp
   ·omega
 ·have hjl:j=l.length:=by omega
  subst hjl
  rw [List.take_length]at hn
  ((conv=>whnf);repeat ((first|(intro hq;try simp only [lnS]at hq)|refine sI ?_|refine .intro _ (.intro rfl ?_));(conv=>whnf)))
  rw [hl]
  refine aM ?_
  unfold aEw
  rw [List.all_eq_true.2 λp hp=>by simpa using hn p hp,Bool.true_and]
theorem aA4 (ps:List (List At)):Tri Tryz.prog 6 [.d (.sl 1 (ps.map aQ))] [] (λr=>r= .d (.bool true)):=by
 have hpl:(ps.map aQ).length=ps.length:=List.length_map ..
 have c0:=vT ps
 have n1:=lZ [97,110,110] 3
 rw [show aJv [97,110,110] 3=(⟨[97,110,110],3,[]⟩,0)from by kernel_rfl]at n1
 rw [show lgR (⟨[97,110,110],3,[]⟩:Lg)=[.str [97,110,110], .int .i64 3, .sl 2 []]from rfl]at n1
 have h0:lgE ⟨[97,110,110],3,[]⟩=0:=by kernel_rfl
 refine aH false [6,7] hty Tryz.func6 rfl (kp [0,2,3,4,6,7,8,9,10,11,13,15,18,24,25,26,27,28,39,54,87,121]) [] _ _ _ (by simp [Tryz.f6]) (by simp) ?_
 cases hfw:aEw ps with
 |false=>
  rw [hfw]at c0
  ((conv=>whnf);repeat ((first|(refine aA [] dN trivial (λr hs=> ?_);subst hs)|(refine aA [] c0 trivial (λr hs=> ?_);subst hs)|(intro hq;try simp only [lnS]at hq)|refine sI ?_|refine .intro _ (.intro rfl ?_));(conv=>whnf)))
  rfl
 |true=>
 rw [hfw]at c0
 have h8:ps.length<=8:=by
  unfold aEw at hfw
  rw [Bool.and_eq_true,decide_eq_true_eq]at hfw
  omega
 ((conv=>whnf);repeat ((first|(refine aA [] dN trivial (λr hs=> ?_);subst hs)|(refine aA [] c0 trivial (λr hs=> ?_);subst hs)|(refine aA [] n1 trivial (λr hs=> ?_);subst hs)|(intro hq;try simp only [lnS]at hq)|refine sI ?_|refine .intro _ (.intro rfl ?_));(conv=>whnf)))
 refine aP hty (λy:Nat×Lg=>([(3, .ptr 3 0),(25, .d (.sl 1 (ps.map aQ))),(26, .d (.int .i64 ps.length)),(27, .d (.int .i64 y.1))],[(3, .cells 24 [.d (.str y.2.reader), .d (.int .i64 y.2.version), .d (.sl 2 (y.2.entries.map bV))])])) (λy=>y.1<=ps.length/\lgE y.2=0/\y.2.entries.length<=y.1) (λy=>ps.length - y.1) (0,⟨[97,110,110],3,[]⟩) ⟨Nat.zero_le _,h0,Nat.le_refl _⟩ ⟨by repeat' (first|exact trivial|exact rfl|(rw [List.length_map];exact rfl)|refine And.intro ?_ ?_),by repeat' (first|exact trivial|exact rfl|refine And.intro ?_ ?_)⟩ ?_
 rintro⟨j,L⟩ ⟨hj,hL,hLl⟩
 dsimp only at hj hL hLl
 ((conv=>whnf);repeat ((first|(intro hq;try simp only [lnS]at hq)|refine sI ?_|refine .intro _ (.intro rfl ?_));(conv=>whnf)))
 refine aC (λh1=> ?_) (λh1=> ?_)
 ·have hjl:j < ps.length:=by dsimp only at h1;omega
  have hrow:(ps.map aQ)[((j:Nat):Int).toNat]? =some (aQ ps[j]):=aT hjl
  generalize ps[j]=p at *
  have a1:=qZ L p
  have k1:=jS ⟨[],[p]⟩
  have f2:=nF L p
  rw [show aQ p=[.sl 6 (p.map atR)]from rfl]at hrow a1 f2
  rw [show qyR ⟨[],[p]⟩=[.sl 1 [], .sl 1 [[.sl 6 (p.map atR)]]]from rfl,show qE ⟨[],[p]⟩=ptE p from rfl]at k1
  obtain⟨x,no,e,hA⟩: ∃x no e,aFp L p=(x,no,e):=⟨_,_,_,rfl⟩
  rw [hA]at a1
  dsimp only at a1
  rw [show lgR L=[.str L.reader, .int .i64 L.version, .sl 2 (L.entries.map bV)]from rfl]at a1 f2
  by_cases he:e=0
  ·subst he
   obtain⟨hp,ok⟩:=aKk hL hA
   have f1:=nF x p
   rw [ok.fnd]at f1
   have k2:=qY x
   rw [ok.ok]at k2
   have b1:=iH L x
   rw [ok.bef]at b1
   have b2:=iH x L
   have l1:=uA x
   have hk:=ok.known
   have hnew:=ok.new
   have hlen:=ok.len
   generalize sZ L p=fr2 at *
   obtain⟨fn,fb⟩:=fr2
   dsimp only at f1 f2 hk hnew
   rw [show aQ p=[.sl 6 (p.map atR)]from rfl]at f1
   rw [show lgR L=[.str L.reader, .int .i64 L.version, .sl 2 (L.entries.map bV)]from rfl]at b1 b2
   rw [show lgR x=[.str x.reader, .int .i64 x.version, .sl 2 (x.entries.map bV)]from rfl]at a1 f1 k2 b1 b2 l1
   ((conv=>whnf);repeat ((first|(refine⟨_,hrow, ?_⟩)|(refine aA [] a1 trivial (λr hs=> ?_);subst hs)|(refine aA [] f1 trivial (λr hs=> ?_);subst hs)|(intro hq;try simp only [lnS]at hq)|refine sI ?_|refine .intro _ (.intro rfl ?_));(conv=>whnf)))
   have hleft:aEh x=1024 - (x.entries.length:Int):=by unfold aEh;omega
   rw [hleft]at l1
   have hxl:(x.entries.map bV).length=x.entries.length:=List.length_map ..
   have hLm:(L.entries.map bV).length=L.entries.length:=List.length_map ..
   refine dwR ?_
   ((conv=>whnf);repeat ((first|(refine⟨.d (.int .i64 _),_,[],rfl,trivial,k2, ?_⟩)|(refine⟨.d (.bool _),_,[],rfl,trivial,b1, ?_⟩)|(refine⟨.d (.int .i64 _),_,[],rfl,trivial,l1, ?_⟩)|(intro hq;try simp only [lnS]at hq)|refine sI ?_|refine .intro _ (.intro rfl ?_));(conv=>whnf)))
   rw [decide_eq_true (rfl:no=no)]
   ((conv=>whnf);repeat ((first|(refine⟨.d (.int .i64 _),_,[],rfl,trivial,k2, ?_⟩)|(refine⟨.d (.bool _),_,[],rfl,trivial,b1, ?_⟩)|(refine⟨.d (.int .i64 _),_,[],rfl,trivial,l1, ?_⟩)|(intro hq;try simp only [lnS]at hq)|refine sI ?_|refine .intro _ (.intro rfl ?_));(conv=>whnf)))
   rw [hxl,decide_eq_true (p:=(1024:Int) - (x.entries.length:Int)+(x.entries.length:Int)=1024) (by omega)]
   ((conv=>whnf);repeat ((first|(refine aA [] f2 trivial (λr hs=> ?_);subst hs)|(intro hq;try simp only [lnS]at hq)|refine sI ?_|refine .intro _ (.intro rfl ?_));(conv=>whnf)))
   have hfb:decide ((((x.entries.map bV).length:Nat):Int)=((L.entries.map bV).length:Nat))=fb:=by
    rw [hk,hxl,hLm]
    rw [decide_eq_decide]
    omega
   dsimp only
   rw [hfb]
   cases fb with
   |true=>
    ((conv=>whnf);repeat ((first|(intro hq;try simp only [lnS]at hq)|refine sI ?_|refine .intro _ (.intro rfl ?_));(conv=>whnf)))
    exact⟨(j+1,x),⟨by dsimp only;omega,ok.ok,by dsimp only;omega⟩,by dsimp only;omega,by repeat' (first|exact trivial|exact rfl|refine And.intro ?_ ?_),by repeat' (first|exact trivial|exact rfl|refine And.intro ?_ ?_)⟩
   |false=>
    obtain⟨hx1,hx2⟩:=hnew rfl
    rw [hx2]at b2
    ((conv=>whnf);repeat ((first|(refine aA [] b2 trivial (λr hs=> ?_);subst hs)|(intro hq;try simp only [lnS]at hq)|refine sI ?_|refine .intro _ (.intro rfl ?_));(conv=>whnf)))
    rw [hxl,hLm,decide_eq_true (p:=((x.entries.length:Nat):Int)=(L.entries.length:Int)+1) (by omega)]
    ((conv=>whnf);repeat ((first|(refine aA [] b2 trivial (λr hs=> ?_);subst hs)|(intro hq;try simp only [lnS]at hq)|refine sI ?_|refine .intro _ (.intro rfl ?_));(conv=>whnf)))
    exact⟨(j+1,x),⟨by dsimp only;omega,ok.ok,by dsimp only;omega⟩,by dsimp only;omega,by repeat' (first|exact trivial|exact rfl|refine And.intro ?_ ?_),by repeat' (first|exact trivial|exact rfl|refine And.intro ?_ ?_)⟩
  ·obtain⟨rfl,rfl,hp,rfl⟩:=aKl hL (by omega) hA he
   rw [show lgR lg0=[.str [], .int .i64 0, .sl 2 []]from rfl]at a1
   ((conv=>whnf);repeat ((first|(refine⟨_,hrow, ?_⟩)|(refine aA [] a1 trivial (λr hs=> ?_);subst hs)|(intro hq;try simp only [lnS]at hq)|refine sI ?_|refine .intro _ (.intro rfl ?_));(conv=>whnf)))
   rw [decide_eq_false he]
   ((conv=>whnf);repeat ((first|(refine aA [] (Tri.args (xs:=_) k1 ⟨cJ.cells ⟨cJ.nil,cJ.osl,trivial⟩, .refl _,trivial⟩) trivial (λr hs=> ?_);subst hs)|(intro hq;try simp only [lnS]at hq)|refine sI ?_|refine .intro _ (.intro rfl ?_));(conv=>whnf)))
   rw [decide_eq_false he]
   ((conv=>whnf);repeat ((first|(intro hq;try simp only [lnS]at hq)|refine sI ?_|refine .intro _ (.intro rfl ?_));(conv=>whnf)))
   exact⟨(j+1,L),⟨by dsimp only;omega,hL,by dsimp only;omega⟩,by dsimp only;omega,by repeat' (first|exact trivial|exact rfl|refine And.intro ?_ ?_),by repeat' (first|exact trivial|exact rfl|refine And.intro ?_ ?_)⟩
 ·((conv=>whnf);repeat ((first|(intro hq;try simp only [lnS]at hq)|refine sI ?_|refine .intro _ (.intro rfl ?_));(conv=>whnf)))
  rfl
end Go.Proofs.YtdjfkmkdkclahaaGreatDoor
