/-
  Terms: the reference's TidyAxiom, as a plain function. Terms: the reference's TidyAxiom. Layer 6: check, and what is exempt. Layer 6: the maps of steps. Layer 6: the maps of the steps of axioms. The library's stable sort at rows that may be written: insertion, swaps, rotation. The library's stable sort at rows that may be written: merging in place.
  Conditions: none.
-/
import Derived.Test.YtfhoddcminbffaaGreatDoorMDd
import Derived.Test.YtfhoddcminbffaaGreatDoorMQb
import Derived.Test.YtfhoddcminbffaaGreatDoorMDe
import Derived.Test.YtfhoddcminbffaaGreatDoorMPh
import Derived.Test.YtfhoddcminbffaaGreatDoorMQp
import Derived.Test.YtfhoddcminbffaaGreatDoorMBt
import Derived.Test.YtfhoddcminbffaaGreatDoorMSng
import Derived.Test.YtfhoddcminbffaaGreatDoorMSna
set_option linter.unnecessarySimpa false
set_option linter.unusedSectionVars false
set_option linter.unusedSimpArgs false
set_option linter.unusedVariables false
set_option maxHeartbeats 32000000
namespace Go.Proofs.YtfhoddcminbffaaGreatDoor
open Go.Proofs
set_option maxRecDepth 10000
attribute [local irreducible] aM aJ Tri aH YVC dI bI
theorem lI {c:Cn}(h:bH c=0):c.kind≠0:=by
 have h1:=(dU h).2.2 c (by rw [fS];simp)
 unfold bM at h1
 split at h1
 ·simp at h1
 ·omega
def iA (c:Cn):Cn×Int:=if c.kind≠0 then aI c else (c0,0)
theorem aGl {b:Bool}{c:Cn}(h:(b || eZ c)=true) (h0:b=true->bH c=0):bK b c=iA c:=by
 unfold bK iA
 cases b
 ·have e:c=c0:=aBg (by simpa using h)
  subst e
  simp [c0,Cn.kind]
 ·rw [if_pos rfl,if_pos (lI (h0 rfl))]
theorem aLa {x:Ax}(h:bB x=0):aS x=if (iA x.left).2≠0 then (a0,(iA x.left).2)
  else if (iA x.right).2≠0 then (a0,(iA x.right).2)
  else if (x.kind=2\/x.kind=3)/\0 < gJ (iA x.left).1 (iA x.right).1 then ({ x with left:=(iA x.right).1,right:=(iA x.left).1 },0)
  else ({ x with left:=(iA x.left).1,right:=(iA x.right).1 },0):=by
 obtain⟨_,hs,hn,hl,hr,_⟩:=(eX x).1 h
 unfold bA at hs
 simp only [Bool.and_eq_true]at hs
 have e1:=aGl hs.1 hl
 have e2:=aGl hs.2.1 hr
 unfold aS
 rw [if_neg (by omega)]
 unfold nW
 rw [e1,e2]
theorem aP1 {x:Ax}(h:bB x=0):(x.left.kind≠0->aN x.left<=64/\Okn x.left)/\(x.right.kind≠0->aN x.right<=64/\Okn x.right):=by
 obtain⟨_,hs,hn,hl,hr,_⟩:=(eX x).1 h
 unfold bA at hs
 simp only [Bool.and_eq_true]at hs
 have key: ∀{b:Bool} {c:Cn},(b || eZ c)=true->(b=true->bH c=0)->c.kind≠0->aN c<=64/\Okn c:=by
  intro b c h1 h2 hk
  cases b
  ·have e:c=c0:=aBg (by simpa using h1)
   rw [e]at hk
   exact absurd rfl hk
  ·have:=(dN c).1 (h2 rfl)
   exact⟨this.2.1,this.2.2⟩
 exact⟨key hs.1 hl,key hs.2.1 hr⟩
end Go.Proofs.YtfhoddcminbffaaGreatDoor
namespace Go.Proofs.YtfhoddcminbffaaGreatDoor
open Go.Proofs
set_option maxRecDepth 10000
attribute [local irreducible] aM aJ Tri aH YVC dI bI
theorem wkA (x : Ax) (p q : D) (hp : WkD p (cnl x.left.parts)) (hq : WkD q (cnl x.right.parts)) : PairA x 0 (.tup [.d (.agg [.int .i64 x.kind, .bool x.isopen, .int .i64 x.left.kind, .str x.left.name, .int .i64 x.left.lo, .int .i64 x.left.hi, p,
  .int .i64 x.right.kind, .str x.right.name, .int .i64 x.right.lo, .int .i64 x.right.hi,q,aOx x.roles, .str x.role, .str x.a, .str x.b]), .d (.int .i64 0)]):=by
 refine⟨_,rfl, .inr ?_⟩
 exact⟨rfl,rfl,rfl,rfl,rfl,rfl,hp,rfl,rfl,rfl,rfl,hq,lM _,rfl,rfl,rfl,trivial⟩
theorem xZ (c:Cn):aN (iA c).1<=aN c:=by
 unfold iA
 split
 ·exact gC c
 ·have:=cR c
  rw [aAm];omega
theorem yI {c:Cn}(hk:c.kind≠0) (h:aN c<=64/\Okn c):Tri Tryz.prog 91 [.d (.agg (cnR c))] [] (λr=>r= .tup [.d (.agg (cnR (iA c).1)), .d (.int .i64 (iA c).2)]):=by
 have:=aJ7 c (by omega) h.2
 unfold iA
 rw [if_pos hk]
 exact this
theorem iT (x:Ax) (h1:aN x.left<=1000000) (h2:aN x.right<=1000000):Tri Tryz.prog 45 [.d (.agg (axR x))] [] (λr=>r= .tup [.d (.agg (axR (aS x).1)), .d (.int .i64 (aS x).2)]):=by
 refine Tri.pairA ?_
 have hc:=lO x h1 h2
 refine aF false [1] hty Tryz.func45 rfl (kp [0,1,2,3,4,5,9,32,41,47,56,74]) [] _ _ _ (by simp [Tryz.f45]) (by simp) ?_
 ((conv=>whnf);repeat ((first|(refine aD [] hc trivial (λr hs=> ?_);subst hs)|(intro hq;try simp only [lnS]at hq)|refine sI ?_|refine .intro _ (.intro rfl ?_));(conv=>whnf)))
 refine aC (λh3=> ?_) (λh3=> ?_)
 ·have e:aS x=(a0,bB x):=by unfold aS;rw [if_pos h3]
  rw [e]
  ((conv=>whnf);repeat' ((first|(intro hq;(try simp only [lnS]at hq);(try rewrite [List.length_map]))|refine sJ ?_|refine .intro _ (.intro rfl ?_)|refine exL (k:= ?_)|refine dwR ?_|((first|refine aB ?_ ?_|refine aC ?_ ?_)<;>intro hb<;>(first|exact ddX hb|try simp only [lnS]at hb))|(refine aA ?_ ?_<;>intro hb<;>try exact dsX hb))<;>(conv=>whnf)))
  exact aBw _
 ·have h3:bB x=0:=by simpa using h3
  obtain⟨b1,b2,b3⟩:=fK h3
  obtain⟨o1,o2⟩:=aP1 h3
  have hL:= λh=>yI h (o1 h)
  have hR:= λh=>yI h (o2 h)
  have z1:x.left.kind=0->iA x.left=(c0,0):= λh=>by unfold iA;rw [if_neg (by omega)]
  have z2:x.right.kind=0->iA x.right=(c0,0):= λh=>by unfold iA;rw [if_neg (by omega)]
  have hk2:(x.kind=2\/x.kind=3)->x.left.kind≠0/\x.right.kind≠0:=by
   intro h
   have h0:=(wQ h3).2
   have hu:(bX x.kind).left=true/\(bX x.kind).right=true:=by
    rcases h with h|h<;>rw [h]<;>exact⟨rfl,rfl⟩
   exact⟨lI (h0.1 hu.1),lI (h0.2 hu.2)⟩
  have s1:=xZ x.left
  have s2:=xZ x.right
  have hcmp:=iI (iA x.left).1 (iA x.right).1 (by omega) (by omega)
  have hT:=aLa h3
  obtain⟨L,e,hLe⟩: ∃L e,iA x.left=(L,e):=⟨_,_,rfl⟩
  obtain⟨R,f,hRe⟩: ∃R f,iA x.right=(R,f):=⟨_,_,rfl⟩
  rw [hLe]at hL z1 hcmp hT
  rw [hRe]at hR z2 hcmp hT
  dsimp only at hL hR hcmp hT
  rw [hT]
  rw [aL,aL]at hcmp
  rw [aL,aL L]at hL
  rw [aL,aL R]at hR
  have hrl:(x.roles.map bN).length=x.roles.length:=List.length_map ..
  clear hT hLe hRe s1 s2 o1 o2 hc
  generalize aS x=T at *
  have hb63:(x.roles.map bN).length<=9223372036854775807:=by rw [hrl];omega
  have hb48:(x.roles.map bN).length * 16<=140737488355328:=by rw [hrl];omega
  ((conv=>whnf);repeat ((first|(refine And.intro hb63 ?_)|(refine And.intro hb48 ?_)|(intro hq;try simp only [lnS]at hq)|refine sI ?_|refine .intro _ (.intro rfl ?_));(conv=>whnf)))
  refine aC (λh4=> ?_) (λh4=> ?_)
  ·((conv=>whnf);repeat ((first|(refine aD [] (hL h4) trivial (λr hs=> ?_);subst hs)|(intro hq;try simp only [lnS]at hq)|refine sI ?_|refine .intro _ (.intro rfl ?_));(conv=>whnf)))
   refine aC (λh5=> ?_) (λh5=> ?_)
   ·rw [if_pos h5]
    ((conv=>whnf);repeat' ((first|(intro hq;(try simp only [lnS]at hq);(try rewrite [List.length_map]))|refine sJ ?_|refine .intro _ (.intro rfl ?_)|refine exL (k:= ?_)|refine dwR ?_|((first|refine aB ?_ ?_|refine aC ?_ ?_)<;>intro hb<;>(first|exact ddX hb|try simp only [lnS]at hb))|(refine aA ?_ ?_<;>intro hb<;>try exact dsX hb))<;>(conv=>whnf)))
    exact aBw _
   ·have h5:e=0:=by simpa using h5
    rw [if_neg (by omega)]
    ((conv=>whnf);repeat ((first|(intro hq;try simp only [lnS]at hq)|refine sI ?_|refine .intro _ (.intro rfl ?_));(conv=>whnf)))
    refine aC (λh6=> ?_) (λh6=> ?_)
    ·((conv=>whnf);repeat ((first|(refine aD [] (hR h6) trivial (λr hs=> ?_);subst hs)|(intro hq;try simp only [lnS]at hq)|refine sI ?_|refine .intro _ (.intro rfl ?_));(conv=>whnf)))
     refine aC (λh7=> ?_) (λh7=> ?_)
     ·rw [if_pos h7]
      ((conv=>whnf);repeat' ((first|(intro hq;(try simp only [lnS]at hq);(try rewrite [List.length_map]))|refine sJ ?_|refine .intro _ (.intro rfl ?_)|refine exL (k:= ?_)|refine dwR ?_|((first|refine aB ?_ ?_|refine aC ?_ ?_)<;>intro hb<;>(first|exact ddX hb|try simp only [lnS]at hb))|(refine aA ?_ ?_<;>intro hb<;>try exact dsX hb))<;>(conv=>whnf)))
      exact aBw _
     ·have h7:f=0:=by simpa using h7
      rw [if_neg (by omega)]
      ((conv=>whnf);repeat' ((first|(intro hq;(try simp only [lnS]at hq);(try rewrite [List.length_map]))|refine sJ ?_|refine .intro _ (.intro rfl ?_)|refine exL (k:= ?_)|(refine aD [] hcmp trivial (λr hs=> ?_);subst hs)|refine dwR ?_|((first|refine aB ?_ ?_|refine aC ?_ ?_)<;>intro hb<;>(first|exact ddX hb|try simp only [lnS]at hb))|(refine aA ?_ ?_<;>intro hb<;>try exact dsX hb))<;>(conv=>whnf)))
      all_goals first
       |(rw [if_pos ⟨by omega,by assumption⟩];exact aEs { x with left:=R,right:=L } 0)
       |(rw [if_neg (by omega)];exact aEs { x with left:=L,right:=R } 0)
    ·have h6:x.right.kind=0:=by simpa using h6
     have e2:=z2 h6
     injection e2 with e3 e4
     subst e3
     subst e4
     have hn2:¬ x.kind=2:= λh=>(hk2 (.inl h)).2 h6
     have hn3:¬ x.kind=3:= λh=>(hk2 (.inr h)).2 h6
     rw [if_neg (by omega),if_neg (by omega)]
     ((conv=>whnf);repeat' ((first|(intro hq;(try simp only [lnS]at hq);(try rewrite [List.length_map]))|refine sJ ?_|refine .intro _ (.intro rfl ?_)|refine exL (k:= ?_)|refine dwR ?_|((first|refine aB ?_ ?_|refine aC ?_ ?_)<;>intro hb<;>(first|exact ddX hb|try simp only [lnS]at hb))|(refine aA ?_ ?_<;>intro hb<;>try exact dsX hb))<;>(conv=>whnf)))
     exact wkA { x with left:=L,right:=c0 } _ _ (lM _) rfl
  ·have h4:x.left.kind=0:=by simpa using h4
   have e2:=z1 h4
   injection e2 with e3 e4
   subst e3
   subst e4
   have hn2:¬ x.kind=2:= λh=>(hk2 (.inl h)).1 h4
   have hn3:¬ x.kind=3:= λh=>(hk2 (.inr h)).1 h4
   rw [if_neg (by omega)]
   ((conv=>whnf);repeat ((first|(intro hq;try simp only [lnS]at hq)|refine sI ?_|refine .intro _ (.intro rfl ?_));(conv=>whnf)))
   refine aC (λh6=> ?_) (λh6=> ?_)
   ·((conv=>whnf);repeat ((first|(refine aD [] (hR h6) trivial (λr hs=> ?_);subst hs)|(intro hq;try simp only [lnS]at hq)|refine sI ?_|refine .intro _ (.intro rfl ?_));(conv=>whnf)))
    refine aC (λh7=> ?_) (λh7=> ?_)
    ·rw [if_pos h7]
     ((conv=>whnf);repeat' ((first|(intro hq;(try simp only [lnS]at hq);(try rewrite [List.length_map]))|refine sJ ?_|refine .intro _ (.intro rfl ?_)|refine exL (k:= ?_)|refine dwR ?_|((first|refine aB ?_ ?_|refine aC ?_ ?_)<;>intro hb<;>(first|exact ddX hb|try simp only [lnS]at hb))|(refine aA ?_ ?_<;>intro hb<;>try exact dsX hb))<;>(conv=>whnf)))
     exact aBw _
    ·have h7:f=0:=by simpa using h7
     rw [if_neg (by omega),if_neg (by omega)]
     ((conv=>whnf);repeat' ((first|(intro hq;(try simp only [lnS]at hq);(try rewrite [List.length_map]))|refine sJ ?_|refine .intro _ (.intro rfl ?_)|refine exL (k:= ?_)|refine dwR ?_|((first|refine aB ?_ ?_|refine aC ?_ ?_)<;>intro hb<;>(first|exact ddX hb|try simp only [lnS]at hb))|(refine aA ?_ ?_<;>intro hb<;>try exact dsX hb))<;>(conv=>whnf)))
     exact wkA { x with left:=c0,right:=R } _ _ rfl (lM _)
   ·have h6:x.right.kind=0:=by simpa using h6
    have e2:=z2 h6
    injection e2 with e3 e4
    subst e3
    subst e4
    rw [if_neg (by omega),if_neg (by omega)]
    ((conv=>whnf);repeat' ((first|(intro hq;(try simp only [lnS]at hq);(try rewrite [List.length_map]))|refine sJ ?_|refine .intro _ (.intro rfl ?_)|refine exL (k:= ?_)|refine dwR ?_|((first|refine aB ?_ ?_|refine aC ?_ ?_)<;>intro hb<;>(first|exact ddX hb|try simp only [lnS]at hb))|(refine aA ?_ ?_<;>intro hb<;>try exact dsX hb))<;>(conv=>whnf)))
    exact wkA { x with left:=c0,right:=c0 } _ _ rfl rfl
end Go.Proofs.YtfhoddcminbffaaGreatDoor
namespace Go.Proofs.YtfhoddcminbffaaGreatDoor
open Go.Proofs
set_option maxRecDepth 10000
attribute [local irreducible] aM aJ Tri aH YVC dI bI
theorem aC5 (l:List Ax):Tri Tryz.prog 103 [.d (.sl 16 (l.map axR))] NG (λr=>r= .d (.int .i64 (iE l))):=by
 refine Tri.len 0 rfl λhlen=> ?_
 rw [List.length_map]at hlen
 refine aF false [4] hty Tryz.func103 rfl (kp [0,2,4,5,6,7,8,9,15]) [] _ _ _ (by simp [Tryz.f103]) (by decide) ?_
 ((conv=>whnf);repeat ((first|(intro hq;try simp only [lnS]at hq)|refine sI ?_|refine .intro _ (.intro rfl ?_));(conv=>whnf)))
 refine aG hty (λj:Nat=>([(2, .d (.int .i64 0)),(6, .d (.sl 16 (l.map axR))),(7, .d (.int .i64 l.length)),(8, .d (.int .i64 j))],NG)) (λj=>j<=l.length/\ ∀x∈l.take j,bB x=0) (λj=>l.length - j) 0 ⟨by omega,by simp⟩ ⟨by repeat' (first|exact trivial|exact rfl|(rw [List.length_map];exact rfl)|refine And.intro ?_ ?_),⟨rfl,rfl,trivial⟩⟩ ?_
 rintro j ⟨hj,hz⟩
 ((conv=>whnf);repeat ((first|(intro hq;try simp only [lnS]at hq)|refine sI ?_|refine .intro _ (.intro rfl ?_));(conv=>whnf)))
 refine aB (λh1=> ?_) (λh1=> ?_)
 ·have hjl:j < l.length:=by omega
  have hrow:=bR hjl
  have hc:=mZ l[j]
  have herr:=rJ hjl hz
  have hz2:bB l[j]=0-> ∀x∈l.take (j+1),bB x=0:= λh2 x hx=>by
   rw [List.take_succ_eq_append_getElem hjl]at hx
   rcases List.mem_append.1 hx with hx|hx
   ·exact hz x hx
   ·simp at hx;subst hx;exact h2
  generalize bB l[j]=e at *
  generalize l[j]=x at *
  ((conv=>whnf);repeat ((first|(refine⟨_,hrow, ?_⟩)|(refine aD NG hc ⟨rfl,rfl,trivial⟩ (λr hs=> ?_);subst hs)|(intro hq;try simp only [lnS]at hq)|refine sI ?_|refine .intro _ (.intro rfl ?_));(conv=>whnf)))
  refine aC (λh2=> ?_) (λh2=> ?_)
  ·rw [herr h2]
   ((conv=>whnf);repeat' ((first|(intro hq;(try simp only [lnS]at hq);(try rewrite [List.length_map]))|refine sJ ?_|refine .intro _ (.intro rfl ?_)|refine exL (k:= ?_)|refine dwR ?_|((first|refine aB ?_ ?_|refine aC ?_ ?_)<;>intro hb<;>(first|exact ddX hb|try simp only [lnS]at hb))|(refine aA ?_ ?_<;>intro hb<;>try exact dsX hb))<;>(conv=>whnf)))
   rfl
  ·((conv=>whnf);repeat' ((first|(intro hq;(try simp only [lnS]at hq);(try rewrite [List.length_map]))|refine sJ ?_|refine .intro _ (.intro rfl ?_)|refine exL (k:= ?_)|refine dwR ?_|((first|refine aB ?_ ?_|refine aC ?_ ?_)<;>intro hb<;>(first|exact ddX hb|try simp only [lnS]at hb))|(refine aA ?_ ?_<;>intro hb<;>try exact dsX hb))<;>(conv=>whnf)))
   exact⟨j+1,⟨by omega,hz2 (by simpa using h2)⟩,by dsimp only;omega,⟨by repeat' (first|exact trivial|exact rfl|refine And.intro ?_ ?_),⟨rfl,rfl,trivial⟩⟩⟩
 ·have hjl:j=l.length:=by omega
  subst hjl
  rw [List.take_length]at hz
  rw [mR hz]
  ((conv=>whnf);repeat' ((first|(intro hq;(try simp only [lnS]at hq);(try rewrite [List.length_map]))|refine sJ ?_|refine .intro _ (.intro rfl ?_)|refine exL (k:= ?_)|refine dwR ?_|((first|refine aB ?_ ?_|refine aC ?_ ?_)<;>intro hb<;>(first|exact ddX hb|try simp only [lnS]at hb))|(refine aA ?_ ?_<;>intro hb<;>try exact dsX hb))<;>(conv=>whnf)))
  rfl
theorem yX (x:Ax) {j:Nat}(h:j < x.roles.length):(x.roles.take (j+1)).countP (λr=>decide (r=x.role))=(x.roles.take j).countP (λr=>decide (r=x.role))+(if x.roles[j]=x.role then 1 else 0):=by
 rw [List.take_succ_eq_append_getElem h,List.countP_append,List.countP_singleton]
 simp
theorem dO {l:List (List UInt8)}{i:Nat}(h:i < l.length):(l.map bN)[((i:Nat):Int).toNat]? =some (bN l[i]):=by
 rw [Int.toNat_natCast,List.getElem?_map,List.getElem?_eq_getElem h];rfl
theorem lZ {x:Ax}{i:Nat}(h:i < x.roles.length):aOc x i=x.roles[i]:=by
 rw [aOc,List.getElem?_eq_getElem h];rfl
theorem aFy (x:Ax) (i:Nat) (hi:i < x.roles.length) (hl:x.roles.length<=1000000):Tri Tryz.prog 151 [.d (.agg (axR x)), .d (.int .i64 i)] [] (λr=>r= .d (.bool (eM x i))):=by
 have hrow:=dO hi
 have hr:=lZ hi
 have hx: ∀c:Nat,vH x=c-> ∀b,eM x i=b->eM x i=b:= λ_ _ _ h=>h
 refine aF false [2] hty Tryz.func151 rfl (kp [0,1,2,4,5,6,8,16,21,22,23,24,30]) [] _ _ _ (by simp [Tryz.f151]) (by simp) ?_
 ((conv=>whnf);repeat ((first|(intro hq;try simp only [lnS]at hq)|refine sI ?_|refine .intro _ (.intro rfl ?_));(conv=>whnf)))
 refine dwR ?_
 ((conv=>whnf);repeat ((first|(refine⟨_,hrow, ?_⟩)|(intro hq;try simp only [lnS]at hq)|refine sI ?_|refine .intro _ (.intro rfl ?_));(conv=>whnf)))
 refine aC (λh1=> ?_) (λh1=> ?_)
 ·have hv:eM x i=false:=by unfold eM;rw [hr];simp [h1]
  rw [hv]
  ((conv=>whnf);repeat' ((first|(intro hq;(try simp only [lnS]at hq);(try rewrite [List.length_map]))|refine sJ ?_|refine .intro _ (.intro rfl ?_)|refine exL (k:= ?_)|refine dwR ?_|((first|refine aB ?_ ?_|refine aC ?_ ?_)<;>intro hb<;>(first|exact ddX hb|try simp only [lnS]at hb))|(refine aA ?_ ?_<;>intro hb<;>try exact dsX hb))<;>(conv=>whnf)))
  rfl
 ·have h1:x.roles[i]=x.role:=by simpa using h1
  ((conv=>whnf);repeat ((first|(intro hq;try simp only [lnS]at hq)|refine sI ?_|refine .intro _ (.intro rfl ?_));(conv=>whnf)))
  refine aG hty (λj:Nat=>([(1, .d (.int .i64 i)),(2, .ea 16 [axR x] 0 0),(5, .d (.int .i64 x.roles.length)),(6, .d (.int .i64 ((x.roles.take j).countP λr=>decide (r=x.role):Nat))),(21, .d (.sl 1 (x.roles.map bN))),(22, .d (.int .i64 x.roles.length)),(23, .d (.int .i64 j))],[])) (λj=>j<=x.roles.length) (λj=>x.roles.length - j) 0 (by omega) ⟨by repeat' (first|exact trivial|exact rfl|(rw [List.length_map];exact rfl)|refine And.intro ?_ ?_),trivial⟩ ?_
  rintro j hj
  ((conv=>whnf);repeat ((first|(intro hq;try simp only [lnS]at hq)|refine sI ?_|refine .intro _ (.intro rfl ?_));(conv=>whnf)))
  refine aB (λh2=> ?_) (λh2=> ?_)
  ·have hjl:j < x.roles.length:=by omega
   have hrow2:=dO hjl
   have hm:=yX x hjl
   have hcl:=List.countP_le_length (p:= λr=>decide (r=x.role)) (l:=x.roles.take j)
   rw [List.length_take]at hcl
   generalize (x.roles.take j).countP (λr=>decide (r=x.role))=c at *
   ((conv=>whnf);repeat ((first|(refine⟨_,hrow2, ?_⟩)|(intro hq;try simp only [lnS]at hq)|refine sI ?_|refine .intro _ (.intro rfl ?_));(conv=>whnf)))
   refine aB (λh3=> ?_) (λh3=> ?_)
   ·rw [if_pos h3]at hm
    ((conv=>whnf);repeat' ((first|(intro hq;(try simp only [lnS]at hq);(try rewrite [List.length_map]))|refine sJ ?_|refine .intro _ (.intro rfl ?_)|refine exL (k:= ?_)|refine dwR ?_|((first|refine aB ?_ ?_|refine aC ?_ ?_)<;>intro hb<;>(first|exact ddX hb|try simp only [lnS]at hb))|(refine aA ?_ ?_<;>intro hb<;>try exact dsX hb))<;>(conv=>whnf)))
    refine⟨j+1,by omega,by dsimp only;omega,⟨?_,trivial⟩⟩
    dsimp only
    rw [hm]
    exact by repeat' (first|exact trivial|exact rfl|refine And.intro ?_ ?_)
   ·rw [if_neg h3]at hm
    ((conv=>whnf);repeat' ((first|(intro hq;(try simp only [lnS]at hq);(try rewrite [List.length_map]))|refine sJ ?_|refine .intro _ (.intro rfl ?_)|refine exL (k:= ?_)|refine dwR ?_|((first|refine aB ?_ ?_|refine aC ?_ ?_)<;>intro hb<;>(first|exact ddX hb|try simp only [lnS]at hb))|(refine aA ?_ ?_<;>intro hb<;>try exact dsX hb))<;>(conv=>whnf)))
    refine⟨j+1,by omega,by dsimp only;omega,⟨?_,trivial⟩⟩
    dsimp only
    rw [hm]
    exact by repeat' (first|exact trivial|exact rfl|refine And.intro ?_ ?_)
  ·have hjl:j=x.roles.length:=by omega
   subst hjl
   rw [List.take_length]
   have hm:x.roles.countP (λr=>decide (r=x.role))=vH x:=rfl
   rw [hm]
   have hcl:=List.countP_le_length (p:= λr=>decide (r=x.role)) (l:=x.roles)
   rw [hm]at hcl
   have hv:eM x i=((decide (vH x=1) && (decide (i=0) || decide (i+1=x.roles.length))) || (decide (vH x=2) && decide (x.roles.length=2))):=by
    unfold eM;rw [hr,h1];simp
   rw [hv]
   generalize vH x=c at *
   clear hx hv
   ((conv=>whnf);repeat' ((first|(intro hq;(try simp only [lnS]at hq);(try rewrite [List.length_map]))|refine sJ ?_|refine .intro _ (.intro rfl ?_)|refine exL (k:= ?_)|refine dwR ?_|((first|refine aB ?_ ?_|refine aC ?_ ?_)<;>intro hb<;>(first|exact ddX hb|try simp only [lnS]at hb))|(refine aA ?_ ?_<;>intro hb<;>try exact dsX hb))<;>(conv=>whnf)))
   all_goals (refine aX ?_;rw [Bool.eq_iff_iff];simp only [Bool.or_eq_true,Bool.and_eq_true,decide_eq_true_eq,Bool.false_eq_true,true_iff,false_iff];omega)
end Go.Proofs.YtfhoddcminbffaaGreatDoor
namespace Go.Proofs.YtfhoddcminbffaaGreatDoor
open Go.Proofs
set_option maxRecDepth 10000
attribute [local irreducible] aM aJ Tri aH YVC dI bI
def stH (M:List (Str×Inn)) (g:List Nat×Nat) (hp0:Hp):Hp:=(23, .cells 123 [.xv 33 nQ])::(33, .ext (xM aC2 (kX 0 M) g.1 g.2))::(hpO 0 M++hp0)
structure FarH (hp0:Hp):Prop where
 lo: ∀k∈gG hp0,80<=k/\k < 100
 s:kE hp0 hp0
theorem aEo {M:List (Str×Inn)}{g:List Nat×Nat}{hp0:Hp}(F:FarH hp0):kE (stH M g hp0) (stH M g hp0):=by
 refine pC λp hp=> ?_
 unfold stH at hp |-
 rcases List.mem_cons.1 hp with rfl|hp
 ·exact fE
 ·rcases List.mem_cons.1 hp with rfl|hp
  ·exact aO fE (show 23≠33 by decide)
  ·rcases List.mem_append.1 hp with hp|hp
   ·obtain⟨i,q,h1,rfl⟩:=aBd 0 M p hp
    exact aO (aO (vR 0 M i q hp0 h1) (by omega)) (by omega)
   ·have h1:=F.lo p.1 (mO hp)
    refine aO (aO ?_ (by omega)) (by omega)
    rw [aFu 0 M p.1 hp0 (.inl (by omega))]
    exact pB F.s p hp
theorem aAi (M:List (Str×Inn)) (g:List Nat×Nat) (hp0:Hp) (F:FarH hp0) (k:Nat) (hk:k∈gG (stH M g hp0)):k=23\/k=33\/(80<=k/\k < 100)\/(1000<=k/\k < 1000+M.length):=by
 unfold stH at hk
 rw [bS,bS,aHh]at hk
 simp only [List.mem_append,List.mem_cons]at hk
 rcases hk with(h|h)|(h|h)|h|h
 ·exact .inl h
 ·have:k∈([33]:List Nat):=h
  simp at this;exact .inr (.inl this)
 ·exact .inr (.inl h)
 ·have h:k∈aOe (kX 0 M):=h
  have:=aG0 0 M k h
  omega
 ·have:=aNd 0 M k h;omega
 ·have:=F.lo k h;omega
theorem aCl {k:Str}{x:Inn}: ∀{M:List (Str×Inn)},xI k M=none->xI k (M++[(k,x)])=some M.length
 | [],_=>by simp [xI]
 |(k',y)::r,h=>by
  rw [xI]at h
  split at h
  ·cases h
  ·rename_i e
   rw [Option.map_eq_none_iff]at h
   rw [List.cons_append,xI,if_neg e,aCl h];rfl
theorem aHz {k:Str}{x y:Inn}: ∀(n:Nat) (M:List (Str×Inn)),kX n (M++[(k,x)])=kX n (M++[(k,y)])
 |_,[]=>rfl
 |n,(k',z)::r=>by rw [List.cons_append,List.cons_append,kX,kX,aHz (n+1) r]
theorem vE (s:Str): ∀l:List (Str×Bool),mL (aBu l) s=(mL l s).map λb=>SV.d (.bool b)
 | []=>rfl
 |(k,b)::r=>by
  show mL ((k,SV.d (.bool b))::aBu r) s=_
  rw [mL,mL,vE s r]
  split<;>rfl
theorem aCs (s:Str) (v:Bool): ∀l:List (Str×Bool),vB (aBu l) s (.d (.bool v))=aBu (vB l s v)
 | []=>rfl
 |(k,b)::r=>by
  show vB ((k,SV.d (.bool b))::aBu r) s _=_
  rw [vB,vB,aCs s v r]
  split<;>rfl
theorem aCx (o:Option Bool):rA false (o.map λb=>SV.d (.bool b)) (.d (.bool false))= .d (.bool (o.getD false)):=by cases o<;>rfl
theorem aRl {M:List (Str×Inn)}{r:Str}{x:Inn}{g:List Nat×Nat}{hp0:Hp}(F:FarH hp0):kE (stH (M++[(r,x)]) g hp0) ((1000+(0+M.length),inO x)::(23, .cells 123 [.xv 33 nQ])::(33, .ext (xM aC2 (kX 0 (M++[(r,x)])) g.1 g.2))::(hpO 0 M++hp0)):=by
 refine pC λp hp=> ?_
 unfold stH at hp
 rcases List.mem_cons.1 hp with rfl|hp
 ·exact aO fE (show 1000+(0+M.length)≠23 by omega)
 ·rcases List.mem_cons.1 hp with rfl|hp
  ·exact aO (aO fE (show 23≠33 by decide)) (show 1000+(0+M.length)≠33 by omega)
  ·rcases List.mem_append.1 hp with hp|hp
   ·rw [aHi]at hp
    rcases List.mem_append.1 hp with hp|hp
    ·obtain⟨i,q,h1,rfl⟩:=aBd 0 M p hp
     have hi:=(List.getElem?_eq_some_iff.1 h1).1
     exact aO (aO (aO (vR 0 M i q hp0 h1) (show 33≠1000+(0+i)by omega)) (show 23≠1000+(0+i)by omega)) (show 1000+(0+M.length)≠1000+(0+i)by omega)
    ·simp only [List.mem_singleton]at hp
     subst hp
     exact fE
   ·have h1:=F.lo p.1 (mO hp)
    refine aO (aO (aO ?_ (by omega)) (by omega)) (by omega)
    rw [aFu 0 M p.1 hp0 (.inl (by omega))]
    exact pB F.s p hp
theorem aIb (M:List (Str×Inn)) (g:List Nat×Nat) (r s:Str) (t:Bool) (hp0:Hp) (F:FarH hp0) {pin:List Nat}{fr:Fr}{K:SV->Hp->Prop}(hp1: ∀k,1000<=k->k∉pin) (hf: ∀k,1000<=k->k∉fV fr)
  (hk: ∀M' g',(∀T,MInv T M->MInv (T++[(r,s,t)]) M')->K (dQ []) (stH M' g' hp0)):
  aJ Tryz.prog pin fr (stH M g hp0) 150 [.d (.str r), .d (.str s), .d (.bool t), .ptr 23 0] K:=by
 refine aJ.weak ?_
 refine bE false [] hty Tryz.func150 rfl (kp [0,1,2,3,10]) 40 (by simp [Tryz.f150]) ?_
 cases hpos:xI r M with
 |none=>
  have hm:=mK r 0 M
  rw [hpos]at hm
  have hm2:mL (kX 0 (M++[(r,(([],([],0)):Inn))])) r=some (.xv (1000+(0+M.length)) nQ):=by
   rw [mK,aCl hpos];rfl
  unfold stH
  ((conv=>whnf);repeat ((first|(intro hq;try simp only [lnS]at hq)|refine sI ?_|refine .intro _ (.intro rfl ?_));(conv=>whnf)))
  refine dK (id:=33) (ents:=kX 0 M) (k:=r) (bs:=g.1) (clock:=g.2) rfl rfl (dS rfl) rfl rfl rfl rfl ?_
  rw [hm]
  ((conv=>whnf);repeat ((first|(intro hq;try simp only [lnS]at hq)|refine sI ?_|refine .intro _ (.intro rfl ?_));(conv=>whnf)))
  refine zX rfl rfl true rfl (.inr ⟨rfl,rfl⟩) rfl ?_
  ((conv=>whnf);repeat ((first|(intro hq;try simp only [lnS]at hq)|refine sI ?_|refine .intro _ (.intro rfl ?_));(conv=>whnf)))
  refine aHc rfl rfl aC2 (1000+(0+M.length)) ⟨?_, ?_, ?_⟩ ?_
  ·rw [List.mem_append];exact λh=>h.elim (hp1 _ (by omega)) (hf _ (by omega))
  ·simp [bG,aT,SV.ids];omega
  ·intro h
   have:=aAi M g hp0 F _ h
   omega
  ((conv=>whnf);repeat ((first|(intro hq;try simp only [lnS]at hq)|refine sI ?_|refine .intro _ (.intro rfl ?_));(conv=>whnf)))
  refine nE (id:=33) (ents:=kX 0 M) (k:=r) (.inl rfl) rfl (dS rfl) rfl (aO (aO fE (by decide)) (by omega)) rfl rfl (λbs ck=> ?_)
  rw [uG (by omega),uG (by decide),aEq,aCr 0 M ([],([],0)) hpos]
  generalize hE:kX 0 (M++[(r,(([],([],0)):Inn))])=EE at *
  ((conv=>whnf);repeat ((first|(intro hq;try simp only [lnS]at hq)|refine sI ?_|refine .intro _ (.intro rfl ?_));(conv=>whnf)))
  rw [aO fE (by omega)]
  ((conv=>whnf);repeat ((first|(intro hq;try simp only [lnS]at hq)|refine sI ?_|refine .intro _ (.intro rfl ?_));(conv=>whnf)))
  refine dK (id:=33) (ents:=EE) (k:=r) (bs:=bs) (clock:=ck) rfl rfl (dS rfl) rfl rfl (aO (aO fE (by decide)) (by omega)) rfl ?_
  rw [hm2]
  ((conv=>whnf);repeat ((first|(intro hq;try simp only [lnS]at hq)|refine sI ?_|refine .intro _ (.intro rfl ?_));(conv=>whnf)))
  rw [aO fE (by omega)]
  ((conv=>whnf);repeat ((first|(intro hq;try simp only [lnS]at hq)|refine sI ?_|refine .intro _ (.intro rfl ?_));(conv=>whnf)))
  refine dK (id:=33) (ents:=EE) (k:=r) (bs:=bs) (clock:=ck) rfl rfl (dS rfl) rfl rfl (aO (aO fE (by decide)) (by omega)) rfl ?_
  rw [hm2]
  ((conv=>whnf);repeat ((first|(intro hq;try simp only [lnS]at hq)|refine sI ?_|refine .intro _ (.intro rfl ?_));(conv=>whnf)))
  refine dK (id:=1000+(0+M.length)) (ents:=[]) (k:=s) (bs:=[]) (clock:=0) rfl rfl (dS rfl) rfl rfl fE rfl ?_
  ((conv=>whnf);repeat ((first|(intro hq;try simp only [lnS]at hq)|refine sI ?_|refine .intro _ (.intro rfl ?_));(conv=>whnf)))
  refine nE (id:=1000+(0+M.length)) (ents:=[]) (k:=s) (.inl rfl) rfl (dS rfl) rfl fE rfl rfl (λbs2 ck2=> ?_)
  rw [aEq]
  ((conv=>whnf);repeat ((first|(intro hq;try simp only [lnS]at hq)|refine sI ?_|refine .intro _ (.intro rfl ?_));(conv=>whnf)))
  have hE2:EE=kX 0 (M++[(r,(([(s,t)],(bs2,ck2)):Inn))]):=by rw [<-hE];exact aHz 0 M
  subst hE2
  exact⟨_,aRl F,hk _ (bs,ck) (λT h=>h.new t (bs2,ck2) hpos)⟩
 |some i=>
  obtain⟨x,hi⟩:=uT hpos
  have hil:=(List.getElem?_eq_some_iff.1 hi).1
  have hm:=mK r 0 M
  rw [hpos]at hm
  have hgi:=vR 0 M i _ hp0 hi
  have hse:= λy=>aNc 0 M i r y hp0 hil
  have hes:= λy=>aHx 0 M i r x y hi
  have hl:=aCx (mL x.1 s)
  rw [<-vE]at hl
  have hadd: ∀v bs ck,v=((mL x.1 s).getD false || t)->HObj.ext (xM aC2 (vB (aBu x.1) s (.d (.bool v))) bs ck)=inO (aE6 x s t (bs,ck)):= λv bs ck h=>by
   rw [aCs,h];rfl
  generalize (mL x.1 s).getD false=old at *
  unfold stH
  ((conv=>whnf);repeat ((first|(intro hq;try simp only [lnS]at hq)|refine sI ?_|refine .intro _ (.intro rfl ?_));(conv=>whnf)))
  refine dK (id:=33) (ents:=kX 0 M) (k:=r) (bs:=g.1) (clock:=g.2) rfl rfl (dS rfl) rfl rfl rfl rfl ?_
  rw [hm]
  ((conv=>whnf);repeat ((first|(intro hq;try simp only [lnS]at hq)|refine sI ?_|refine .intro _ (.intro rfl ?_));(conv=>whnf)))
  refine zX rfl rfl false rfl (.inl ⟨_,rfl,rfl⟩) rfl ?_
  ((conv=>whnf);repeat ((first|(intro hq;try simp only [lnS]at hq)|refine sI ?_|refine .intro _ (.intro rfl ?_));(conv=>whnf)))
  refine dK (id:=33) (ents:=kX 0 M) (k:=r) (bs:=g.1) (clock:=g.2) rfl rfl (dS rfl) rfl rfl rfl rfl ?_
  rw [hm]
  ((conv=>whnf);repeat ((first|(intro hq;try simp only [lnS]at hq)|refine sI ?_|refine .intro _ (.intro rfl ?_));(conv=>whnf)))
  refine dK (id:=33) (ents:=kX 0 M) (k:=r) (bs:=g.1) (clock:=g.2) rfl rfl (dS rfl) rfl rfl rfl rfl ?_
  rw [hm]
  ((conv=>whnf);repeat ((first|(intro hq;try simp only [lnS]at hq)|refine sI ?_|refine .intro _ (.intro rfl ?_));(conv=>whnf)))
  refine dK (id:=1000+(0+i)) (ents:=aBu x.1) (k:=s) (bs:=x.2.1) (clock:=x.2.2) rfl rfl (dS rfl) rfl rfl (aO (aO hgi (by omega)) (by omega)) rfl ?_
  rw [show ofV (Value.bool false)=SV.d (.bool false)from rfl,hl]
  have fin: ∀v,v=(old || t)-> ∀bs ck,∃hp'',kE hp'' (hY ((23, .cells 123 [.xv 33 nQ])::(33, .ext (xM aC2 (kX 0 M) g.1 g.2))::(hpO 0 M++hp0)) (1000+(0+i)) (.ext (xM aC2 (vB (aBu x.1) s (.d (.bool v))) bs ck)))/\K (dQ []) hp'':=by
   intro v hv bs ck
   rw [hadd v bs ck hv,uG (by omega),uG (by omega),hse,<-hes (aE6 x s t (bs,ck))]
   exact⟨_,aEo F,hk _ g (λT h=>h.upd t (bs,ck) hi)⟩
  cases old
  ·((conv=>whnf);repeat ((first|(intro hq;try simp only [lnS]at hq)|refine sI ?_|refine .intro _ (.intro rfl ?_));(conv=>whnf)))
   refine nE (id:=1000+(0+i)) (ents:=aBu x.1) (k:=s) (.inl rfl) rfl (dS rfl) rfl (aO (aO hgi (by omega)) (by omega)) rfl rfl (λbs2 ck2=> ?_)
   ((conv=>whnf);repeat ((first|(intro hq;try simp only [lnS]at hq)|refine sI ?_|refine .intro _ (.intro rfl ?_));(conv=>whnf)))
   exact fin t (by simp) bs2 ck2
  ·((conv=>whnf);repeat ((first|(intro hq;try simp only [lnS]at hq)|refine sI ?_|refine .intro _ (.intro rfl ?_));(conv=>whnf)))
   refine nE (id:=1000+(0+i)) (ents:=aBu x.1) (k:=s) (.inl rfl) rfl (dS rfl) rfl (aO (aO hgi (by omega)) (by omega)) rfl rfl (λbs2 ck2=> ?_)
   ((conv=>whnf);repeat ((first|(intro hq;try simp only [lnS]at hq)|refine sI ?_|refine .intro _ (.intro rfl ?_));(conv=>whnf)))
   exact fin true (by simp) bs2 ck2
end Go.Proofs.YtfhoddcminbffaaGreatDoor
namespace Go.Proofs.YtfhoddcminbffaaGreatDoor
open Go.Proofs
set_option maxRecDepth 10000
attribute [local irreducible] aM aJ Tri aH YVC dI bI
def mpH (M:List (Str×Inn)) (g:List Nat×Nat) (hp0:Hp):Hp:=(33, .ext (xM aC2 (kX 0 M) g.1 g.2))::(hpO 0 M++hp0)
theorem aS3 {M:List (Str×Inn)}{g:List Nat×Nat}{hp0:Hp}(F:FarH hp0):kE (mpH M g hp0) (stH M g hp0):=(aEo F).2
theorem aUs {x:Ax}(h:bB x=0) (hk:x.kind=5):0 < x.roles.length:=by
 have h1:=((eX x).1 h).shaped
 rw [hk]at h1
 unfold bA at h1
 simp only [Bool.and_eq_true,decide_eq_true_eq]at h1
 have h2:=h1.2.2.2.2.2.1
 have e:(bX 5).least=1:=rfl
 omega
theorem aIr (l:List Ax) (hv: ∀x∈l,bB x=0) (hn:l.length<=1000000) (hp0:Hp) (F:FarH hp0) {pin:List Nat}{fr:Fr}{K:SV->Hp->Prop}(hp1: ∀k,1000<=k\/k=23\/k=33\/k=26->k∉pin) (hf: ∀k,1000<=k\/k=23\/k=33\/k=26->k∉fV fr)
  (hk: ∀M g,MInv (cQ l) M->K (.xv 33 nQ) (mpH M g hp0)):
  aJ Tryz.prog pin fr hp0 105 [.d (.sl 16 (l.map axR))] K:=by
 have hF: ∀k,k=23\/k=33->k∉gG hp0:= λk hk h=>by have:=F.lo k h;omega
 refine aJ.weak ?_
 refine bE false [6] hty Tryz.func105 rfl (kp [0,2,3,4,6,7,8,11,12,13,14,18,19,27,36,39,40,41,42,49]) 20 (by simp [Tryz.f105]) ?_
 ((conv=>whnf);repeat ((first|(intro hq;try simp only [lnS]at hq)|refine sI ?_|refine .intro _ (.intro rfl ?_));(conv=>whnf)))
 refine aHc rfl rfl aC2 33 ⟨?_, ?_,hF _ (.inr rfl)⟩ ?_
 ·rw [List.mem_append];exact λh=>h.elim (hp1 _ (.inr (.inr (.inl rfl)))) (hf _ (.inr (.inr (.inl rfl))))
 ·simp [bG,aT,SV.ids,dX,bV]
 ((conv=>whnf);repeat ((first|(refine And.intro (show fX 23 _ _ _ from⟨λh=>(List.mem_append.1 h).elim (hp1 _ (.inr (.inl rfl))) (hf _ (.inr (.inl rfl))),by simp [bG,aT,SV.ids,dX,bV],λh=>by rw [bS]at h;exact(List.mem_append.1 h).elim (λh=>by simp [HObj.ids,xM,aOe]at h) (hF _ (.inl rfl))⟩) ?_)|(intro hq;try simp only [lnS]at hq)|refine sI ?_|refine .intro _ (.intro rfl ?_));(conv=>whnf)))
 rw [List.length_map]
 refine dE hty (λy:Nat×List (Str×Inn)×(List Nat×Nat)=>([(3, .ptr 23 0),(4, .fn 150 [] [.ptr 23 0]),(11, .d (.sl 16 (l.map axR))),(12, .d (.int .i64 l.length)),(13, .d (.int .i64 y.1))],stH y.2.1 y.2.2 hp0)) (λy=>y.1<=l.length/\MInv (cQ (l.take y.1)) y.2.1) (λy=>l.length - y.1) (0,[],([],0)) ⟨by dsimp only;omega,MInv.nil⟩ (by repeat' (first|exact trivial|exact rfl|refine And.intro ?_ ?_)) rfl ?_
 rintro⟨j,M,g⟩ ⟨hj,hM⟩
 dsimp only at hj hM
 have hp1': ∀k,1000<=k->k∉pin++fV fr:= λk h=>by rw [List.mem_append];exact λq=>q.elim (hp1 k (.inl h)) (hf k (.inl h))
 ((conv=>whnf);repeat ((first|(intro hq;try simp only [lnS]at hq)|refine sI ?_|refine .intro _ (.intro rfl ?_));(conv=>whnf)))
 refine aB (λh1=> ?_) (λh1=> ?_)
 ·have hjl:j < l.length:=by dsimp only at h1;omega
  have hrow:=bR hjl
  have hst:=oH hjl
  have hok:=hv _ (List.getElem_mem hjl)
  have h4:=(fK hok).2.2
  have h5:=aUs hok
  generalize l[j]=x at *
  have fr26: ∀fr':Fr,26∉fV fr'->fX 26 (pin++fV fr) fr' (stH M g hp0):= λfr' h=>⟨λh=>(List.mem_append.1 h).elim (hp1 _ (by simp)) (hf _ (by simp)),h,λh=>by have:=aAi M g hp0 F _ h;omega⟩
  have nm26:26∉gG (stH M g hp0):= λh=>by have:=aAi M g hp0 F _ h;omega
  ((conv=>whnf);repeat ((first|(refine⟨_,hrow, ?_⟩)|(refine And.intro nm26 ?_)|(refine And.intro (fr26 _ (by simp [bG,aT,SV.ids,SV.idsL])) ?_)|(intro hq;try simp only [lnS]at hq)|refine sI ?_|refine .intro _ (.intro rfl ?_));(conv=>whnf)))
  refine aB (λh2=> ?_) (λh2=> ?_)
  ·have hl0:=h5 h2
   have hrow0:(x.roles.map bN)[(0:Int).toNat]? =some (bN x.roles[0]):=dO hl0
   have hr0:=lZ hl0
   ((conv=>whnf);repeat ((first|(intro hq;try simp only [lnS]at hq)|refine sI ?_|refine .intro _ (.intro rfl ?_));(conv=>whnf)))
   refine dwR ?_
   ((conv=>whnf);repeat ((first|(refine⟨_,hrow0, ?_⟩)|(intro hq;try simp only [lnS]at hq)|refine sI ?_|refine .intro _ (.intro rfl ?_));(conv=>whnf)))
   refine aC (λh3=> ?_) (λh3=> ?_)
   ·have hsa:dG x=[(x.roles[0],x.role,false)]:=by
     unfold dG
     rw [if_pos h2,hr0,if_neg h3]
    (conv=>whnf)
    (refine fG (id:=9) hty (.first 0 (.first 1 (.first 2 (.first 3 (.first 4 (.first 5 (.first 6 (.alt 7 .done .stop)))))))) (by kernel_rfl) (by kernel_rfl) ?_)
    ((conv=>whnf);repeat ((first|(refine⟨_,hrow0, ?_⟩)|(intro hq;try simp only [lnS]at hq)|refine sI ?_|refine .intro _ (.intro rfl ?_));(conv=>whnf)))
    refine And.intro ?_ (by exact trivial)
    ((conv=>whnf);repeat ((first|(intro hq;try simp only [lnS]at hq)|refine sI ?_|refine .intro _ (.intro rfl ?_));(conv=>whnf)))
    refine aIb M g x.roles[0] x.role false hp0 F hp1' (λk hk=>by simp [bG,aT,SV.ids,SV.idsL];omega) (λM' g' hM'=> ?_)
    ((conv=>whnf);repeat ((first|(intro hq;try simp only [lnS]at hq)|refine sI ?_|refine .intro _ (.intro rfl ?_));(conv=>whnf)))
    exact⟨(j+1,M',g'),⟨by omega,by dsimp only;rw [hst,hsa];exact hM' _ hM⟩,by dsimp only;omega,by repeat' (first|exact trivial|exact rfl|refine And.intro ?_ ?_),rfl⟩
   ·have hsa:dG x=[]:=by
     unfold dG
     rw [if_pos h2,hr0,if_pos h3]
    ((conv=>whnf);repeat' ((first|(intro hq;(try simp only [lnS]at hq);(try rewrite [List.length_map]))|refine sJ ?_|refine .intro _ (.intro rfl ?_)|refine exL (k:= ?_)|refine dwR ?_|((first|refine aB ?_ ?_|refine aC ?_ ?_)<;>intro hb<;>(first|exact ddX hb|try simp only [lnS]at hb))|(refine aA ?_ ?_<;>intro hb<;>try exact dsX hb))<;>(conv=>whnf)))
    rw [hsa,List.append_nil]at hst
    refine⟨(j+1,M,g),⟨by omega,by rw [hst];exact hM⟩,by dsimp only;omega,by repeat' (first|exact trivial|exact rfl|refine And.intro ?_ ?_),rfl⟩
  ·((conv=>whnf);repeat ((first|(intro hq;try simp only [lnS]at hq)|refine sI ?_|refine .intro _ (.intro rfl ?_));(conv=>whnf)))
   refine aB (λh3=> ?_) (λh3=> ?_)
   ·have hsa:dG x=iF x (List.range x.roles.length):=by
     unfold dG
     rw [if_neg h2,if_pos h3]
    ((conv=>whnf);repeat ((first|(intro hq;try simp only [lnS]at hq)|refine sI ?_|refine .intro _ (.intro rfl ?_));(conv=>whnf)))
    rw [List.length_map]
    refine dE hty (λy:Nat×List (Str×Inn)×(List Nat×Nat)=>([(3, .ptr 23 0),(4, .fn 150 [] [.ptr 23 0]),(6, .ea 16 [axR x] 0 0),(11, .d (.sl 16 (l.map axR))),(12, .d (.int .i64 l.length)),(13, .d (.int .i64 j)),(39, .d (.sl 1 (x.roles.map bN))),(40, .d (.int .i64 x.roles.length)),(41, .d (.int .i64 y.1))],stH y.2.1 y.2.2 hp0)) (λy=>y.1<=x.roles.length/\MInv (cQ (l.take j)++iF x (List.range y.1)) y.2.1) (λy=>x.roles.length - y.1) (0,M,g) ⟨by dsimp only;omega,by simpa [iF]using hM⟩ (by repeat' (first|exact trivial|exact rfl|refine And.intro ?_ ?_)) rfl ?_
    rintro⟨k,M2,g2⟩ ⟨hk2,hM2⟩
    dsimp only at hk2 hM2
    ((conv=>whnf);repeat ((first|(intro hq;try simp only [lnS]at hq)|refine sI ?_|refine .intro _ (.intro rfl ?_));(conv=>whnf)))
    refine aB (λh5=> ?_) (λh5=> ?_)
    ·have hkl:k < x.roles.length:=by dsimp only at h5;omega
     have hrow2:=dO hkl
     have hrk:=lZ hkl
     have hex:=aFy x k hkl (by omega)
     have hcs:=wK x k
     rw [hrk]at hcs
     generalize eM x k=b at *
     ((conv=>whnf);repeat ((first|(refine⟨_,hrow2, ?_⟩)|(refine aD [] hex trivial (λr hs=> ?_);subst hs)|(intro hq;try simp only [lnS]at hq)|refine sI ?_|refine .intro _ (.intro rfl ?_));(conv=>whnf)))
     cases b
     ·rw [if_neg (by decide)]at hcs
      ((conv=>whnf);repeat ((first|(intro hq;try simp only [lnS]at hq)|refine sI ?_|refine .intro _ (.intro rfl ?_));(conv=>whnf)))
      refine aIb M2 g2 x.roles[k] x.role true hp0 F hp1' (λk hk=>by simp [bG,aT,SV.ids,SV.idsL];omega) (λM' g' hM'=> ?_)
      ((conv=>whnf);repeat ((first|(intro hq;try simp only [lnS]at hq)|refine sI ?_|refine .intro _ (.intro rfl ?_));(conv=>whnf)))
      exact⟨(k+1,M',g'),⟨by dsimp only;omega,by dsimp only;rw [hcs,<-List.append_assoc];exact hM' _ hM2⟩,by dsimp only;omega,by repeat' (first|exact trivial|exact rfl|refine And.intro ?_ ?_),rfl⟩
     ·rw [if_pos rfl,List.append_nil]at hcs
      ((conv=>whnf);repeat' ((first|(intro hq;(try simp only [lnS]at hq);(try rewrite [List.length_map]))|refine sJ ?_|refine .intro _ (.intro rfl ?_)|refine exL (k:= ?_)|refine dwR ?_|((first|refine aB ?_ ?_|refine aC ?_ ?_)<;>intro hb<;>(first|exact ddX hb|try simp only [lnS]at hb))|(refine aA ?_ ?_<;>intro hb<;>try exact dsX hb))<;>(conv=>whnf)))
      exact⟨(k+1,M2,g2),⟨by dsimp only;omega,by dsimp only;rw [hcs];exact hM2⟩,by dsimp only;omega,by repeat' (first|exact trivial|exact rfl|refine And.intro ?_ ?_),rfl⟩
    ·have hkl:k=x.roles.length:=by dsimp only at h5;omega
     subst hkl
     rw [<-hsa,<-hst]at hM2
     ((conv=>whnf);repeat' ((first|(intro hq;(try simp only [lnS]at hq);(try rewrite [List.length_map]))|refine sJ ?_|refine .intro _ (.intro rfl ?_)|refine exL (k:= ?_)|refine dwR ?_|((first|refine aB ?_ ?_|refine aC ?_ ?_)<;>intro hb<;>(first|exact ddX hb|try simp only [lnS]at hb))|(refine aA ?_ ?_<;>intro hb<;>try exact dsX hb))<;>(conv=>whnf)))
     exact⟨(j+1,M2,g2),⟨by dsimp only;omega,hM2⟩,by dsimp only;omega,by repeat' (first|exact trivial|exact rfl|refine And.intro ?_ ?_),rfl⟩
   ·have hsa:dG x=[]:=by
     unfold dG
     rw [if_neg h2,if_neg h3]
    ((conv=>whnf);repeat' ((first|(intro hq;(try simp only [lnS]at hq);(try rewrite [List.length_map]))|refine sJ ?_|refine .intro _ (.intro rfl ?_)|refine exL (k:= ?_)|refine dwR ?_|((first|refine aB ?_ ?_|refine aC ?_ ?_)<;>intro hb<;>(first|exact ddX hb|try simp only [lnS]at hb))|(refine aA ?_ ?_<;>intro hb<;>try exact dsX hb))<;>(conv=>whnf)))
    rw [hsa,List.append_nil]at hst
    exact⟨(j+1,M,g),⟨by omega,by dsimp only;rw [hst];exact hM⟩,by dsimp only;omega,by repeat' (first|exact trivial|exact rfl|refine And.intro ?_ ?_),rfl⟩
 ·have hjl:j=l.length:=by dsimp only at h1;omega
  subst hjl
  rw [List.take_length]at hM
  ((conv=>whnf);repeat ((first|(intro hq;try simp only [lnS]at hq)|refine sI ?_|refine .intro _ (.intro rfl ?_));(conv=>whnf)))
  exact⟨_,aS3 F,hk M g hM⟩
end Go.Proofs.YtfhoddcminbffaaGreatDoor
namespace Go.Proofs.YtfhoddcminbffaaGreatDoor
open Go.Proofs
set_option maxRecDepth 10000
attribute [local irreducible] aM aJ Tri aH YVC dI bI
structure CmpG (g:FuncId) (cf:SAx->SAx->Int):Prop where
 call:dV Tryz.prog g=true
 ord:OrdC cf
 tri: ∀x y,Tri Tryz.prog g [.d (.agg (saR x)), .d (.agg (saR y))] [] (λr=>r= .d (.int .i64 (cf x y)))
theorem gQ {l:List SAx}{U:List SAx}{x:SAx}{W:List SAx}(h:l=U++x::W) {i:Nat}(hi:i=U.length):(l.map saR)[i]? =some (saR x):=by
 subst h;subst hi
 rw [List.getElem?_map,aTm];rfl
theorem aHb {l U V W:List SAx}{x y:SAx}{i j:Nat}(h:l=U++x::(V++y::W)) (hi:i=U.length) (hj:j=U.length+1+V.length):
  (((l.map saR).set i (saR y)).set j (saR x))=(U++y::(V++x::W)).map saR:=by
 subst h;subst hi;subst hj
 rw [<-List.map_set,<-List.map_set,aRf]
theorem aCw {l U V W:List SAx}{x y:SAx}{i j:Nat}(h:l=U++x::(V++y::W)) (hi:i=U.length) (hj:j=U.length+1+V.length):
  (((l.map saR).set j (saR x)).set i (saR y))=(U++y::(V++x::W)).map saR:=by
 subst h;subst hi;subst hj
 rw [<-List.map_set,<-List.map_set,aLf]
theorem fC {a b:Int}(h:a=b):Wk (.d (.int .i64 a)) (.d (.int .i64 b)):=by subst h;exact rfl
theorem uZ (l:List SAx):l=[]\/ ∃S v,l=S++[v]:=by
 rcases List.eq_nil_or_concat l with h|⟨S,v,h⟩
 ·exact .inl h
 ·exact .inr ⟨S,v,by rw [h,List.concat_eq_append]⟩
theorem aFa {S1 S2:List SAx}{x:SAx}{T:List SAx}(h:(S1++S2).Perm T):(S1++x::S2).Perm (T++[x]):=
 (List.perm_middle.trans (h.cons x)).trans (List.perm_append_singleton x T).symm
theorem aIt {cf:SAx->SAx->Int}(hO:OrdC cf) {S1 S2:List SAx}{x:SAx}(h:Srt cf (S1++S2)) (h2: ∀y∈S2,cf x y < 0) (h1: ∀u S,S1=S++[u]->¬ cf x u < 0):Srt cf (S1++x::S2):=by
 obtain⟨a1,a2,a3⟩:=Srt.app.1 h
 refine Srt.app.2 ⟨a1,List.pairwise_cons.2 ⟨λy hy=>hO.asym _ _ (h2 y hy),a2⟩,λu hu y hy=> ?_⟩
 have hux:¬ cf x u < 0:=by
  obtain⟨S,v,rfl⟩: ∃S v,S1=S++[v]:=by
   rcases uZ S1 with rfl|⟨S,v,rfl⟩
   ·simp at hu
   ·exact⟨S,v,rfl⟩
  have hv:=h1 v S rfl
  rcases List.mem_append.1 hu with hu|hu
  ·exact hO.tr _ _ _ ((Srt.app.1 a1).2.2 u hu v (by simp)) hv
  ·simp at hu;subst hu;exact hv
 rcases List.mem_cons.1 hy with rfl|hy
 ·exact hux
 ·exact a3 u hu y hy
theorem sL {g:FuncId}{cf:SAx->SAx->Int}(G:CmpG g cf) (Pr A Q:List SAx) {L:List SAx}(hL:L=Pr++(A++Q)) (hl:L.length<=1000000) {n:Nat}{a b:Int}(hn:n=L.length) (ha:a=(Pr.length:Nat)) (hb:b=(Pr.length+A.length:Nat)) (cap:Nat) (rest:Hp) {pin:List Nat}{fr:Fr}{K:SV->Hp->Prop}
  (fin: ∀S,S.Perm A->Srt cf S->K (dQ []) ((70, .mrow 48 16 cap ((Pr++(S++Q)).map saR))::rest)):
  aJ Tryz.prog pin fr ((70, .mrow 48 16 cap (L.map saR))::rest) 142 [.mw 70 16 n, .d (.int .i64 a), .d (.int .i64 b), .fn g [] []] K:=by
 subst hL;subst hn;subst ha;subst hb
 have hlen:(Pr++(A++Q)).length=Pr.length+(A.length+Q.length):=by rw [List.length_append,List.length_append]
 generalize hN:(Pr++(A++Q)).length=N at *
 refine dW hty Tryz.func142 rfl (kp [0,1,2,3,8,9,14,34]) 500 (by simp [Tryz.f142]) ?_
 ((conv=>whnf);repeat ((first|(intro hq;try simp only [lnS]at hq)|refine sI ?_|refine .intro _ (.intro rfl ?_));(conv=>whnf)))
 refine dE hty (λy:Nat×List SAx=>([(0, .mw 70 16 N),(1, .d (.int .i64 (Pr.length:Nat))),(2, .d (.int .i64 (Pr.length+A.length:Nat))),(3, .fn g [] []),(8, .d (.int .i64 (Pr.length+y.1:Nat)))],(70, .mrow 48 16 cap ((Pr++(y.2++(A.drop y.1++Q))).map saR))::rest)) (λy=>(1<=y.1/\y.1<=A.length+1)/\y.2.Perm (A.take y.1)/\Srt cf y.2) (λy=>A.length+1 - y.1) (1,A.take 1) ⟨by dsimp only;omega, .refl _, ?_⟩ (by repeat' (first|exact trivial|exact rfl|exact fC (by dsimp only;omega)|refine And.intro ?_ ?_)) ?_ ?_
 ·dsimp only
  cases A with
  |nil=>exact .nil
  |cons x r=>exact List.pairwise_cons.2 ⟨by simp, .nil⟩
 ·dsimp only
  rw [<-List.append_assoc (A.take 1),List.take_append_drop]
 rintro⟨k,S⟩ ⟨⟨hk1,hk2⟩,hp,hs⟩
 dsimp only at hk1 hk2 hp hs
 have hSl:S.length=min k A.length:=by rw [hp.length_eq,List.length_take]
 ((conv=>whnf);repeat ((first|(intro hq;try simp only [lnS]at hq)|refine sI ?_|refine .intro _ (.intro rfl ?_));(conv=>whnf)))
 refine aB (λh1=> ?_) (λh1=> ?_)
 ·have hkl:k < A.length:=by omega
  obtain⟨x,hx⟩: ∃x,x=A[k]:=⟨_,rfl⟩
  have hdr:A.drop k=x::A.drop (k+1):=by rw [hx];exact List.drop_eq_getElem_cons hkl
  have htk:A.take (k+1)=A.take k++[x]:=by rw [hx];exact List.take_succ_eq_append_getElem hkl
  have hSk:S.length=k:=by omega
  rw [hdr]
  ((conv=>whnf);repeat ((first|(intro hq;try simp only [lnS]at hq)|refine sI ?_|refine .intro _ (.intro rfl ?_));(conv=>whnf)))
  refine dE hty (λz:List SAx×List SAx=>([(0, .mw 70 16 N),(1, .d (.int .i64 (Pr.length:Nat))),(2, .d (.int .i64 (Pr.length+A.length:Nat))),(3, .fn g [] []),(8, .d (.int .i64 (Pr.length+k:Nat))),(9, .d (.int .i64 (Pr.length+z.1.length:Nat)))],(70, .mrow 48 16 cap (((Pr++z.1)++x::(z.2++(A.drop (k+1)++Q))).map saR))::rest)) (λz=>(z.1++z.2).Perm (A.take k)/\Srt cf (z.1++z.2)/\ ∀y∈z.2,cf x y < 0) (λz=>z.1.length) (S,[]) ⟨by simpa using hp,by simpa using hs,by simp⟩ (by repeat' (first|exact trivial|exact rfl|exact fC (by dsimp only;omega)|refine And.intro ?_ ?_)) ?_ ?_
  ·dsimp only
   rw [List.append_assoc Pr S]
   rfl
  rintro⟨S1,S2⟩ ⟨zp,zs,zx⟩
  dsimp only at zp zs zx
  have hzl:S1.length+S2.length=k:=by
   have:=zp.length_eq
   rw [List.length_append,List.length_take]at this
   omega
  have done:(∀u S,S1=S++[u]->¬ cf x u < 0)->(S1++x::S2).Perm (A.take (k+1))/\Srt cf (S1++x::S2):= λh=>⟨by rw [htk];exact aFa zp,aIt G.ord zs zx h⟩
  rcases uZ S1 with rfl|⟨S1',u,rfl⟩
  ·obtain⟨d1,d2⟩:=done (by intro u S e;simp at e)
   ((conv=>whnf);repeat' ((first|(intro hq;(try simp only [lnS]at hq);(try rewrite [List.length_map]))|refine sJ ?_|refine .intro _ (.intro rfl ?_)|refine exL (k:= ?_)|refine dwR ?_|((first|refine aB ?_ ?_|refine aC ?_ ?_)<;>intro hb<;>(first|exact ddX hb|try simp only [lnS]at hb))|(refine aA ?_ ?_<;>intro hb<;>try exact dsX hb))<;>(conv=>whnf)))
   refine⟨(k+1,x::S2),⟨by dsimp only;omega,d1,d2⟩,by dsimp only;omega,(by repeat' (first|exact trivial|exact rfl|exact fC (by dsimp only;omega)|refine And.intro ?_ ?_)), ?_⟩
   dsimp only
   rw [List.append_nil]
   rfl
  ·have hux:=G.tri x u
   obtain⟨J,hJ⟩: ∃J,J=Pr.length+(S1'++[u]).length:=⟨_,rfl⟩
   have hJ2:(S1'++[u]).length=S1'.length+1:=by simp
   have hl1:(Pr++(S1'++[u]))++x::(S2++(A.drop (k+1)++Q))=(Pr++S1')++u::([]++x::(S2++(A.drop (k+1)++Q))):=by simp
   have hl2:(Pr++S1').length=J - 1:=by rw [List.length_append];omega
   have hrx:(((Pr++(S1'++[u]))++x::(S2++(A.drop (k+1)++Q))).map saR)[((J:Nat):Int).toNat]? =some (saR x):=gQ rfl (by rw [Int.toNat_natCast,hJ];simp)
   have hru:(((Pr++(S1'++[u]))++x::(S2++(A.drop (k+1)++Q))).map saR)[(((J:Nat):Int) - 1).toNat]? =some (saR u):=gQ hl1 (by rw [hl2];omega)
   have hsw: ∀a b,a=((J:Nat):Int).toNat->b=(((J:Nat):Int) - 1).toNat->((((Pr++(S1'++[u]))++x::(S2++(A.drop (k+1)++Q))).map saR).set a (saR u)).set b (saR x)=((Pr++S1')++x::((u::S2)++(A.drop (k+1)++Q))).map saR:= λa b ha hb=>by
    have:=aCw (x:=u) (y:=x) (i:=b) (j:=a) hl1 (by rw [hl2];omega) (by rw [hl2];simp;omega)
    rw [this];rfl
   have hML:(((Pr++(S1'++[u]))++x::(S2++(A.drop (k+1)++Q))).map saR).length=N:=by
    have:(A.drop (k+1)).length=A.length - (k+1):=List.length_drop
    rw [hJ2]at hzl
    simp only [List.length_map,List.length_append,List.length_cons,List.length_nil]
    omega
   dsimp only
   rw [<-hJ]
   generalize hM:List.map saR ((Pr++(S1'++[u]))++x::(S2++(A.drop (k+1)++Q)))=M at hrx hru hsw hML |-
   generalize hc:cf x u=c at hux
   ((conv=>whnf);repeat ((first|(intro hq;try simp only [lnS]at hq)|refine sI ?_|refine .intro _ (.intro rfl ?_));(conv=>whnf)))
   refine dwR ?_
   ((conv=>whnf);repeat ((first|(intro hq;try simp only [lnS]at hq)|refine sI ?_|refine .intro _ (.intro rfl ?_));(conv=>whnf)))
   refine aB (λh2=> ?_) (λh2=> ?_)
   ·((conv=>whnf);repeat ((first|(refine And.intro hML.symm ?_)|(refine⟨_,hrx, ?_⟩)|(refine⟨_,hru, ?_⟩)|(refine⟨G.call, .d (.int .i64 _),_,[],rfl,trivial,hux, ?_⟩)|(intro hq;try simp only [lnS]at hq)|refine sI ?_|refine .intro _ (.intro rfl ?_));(conv=>whnf)))
    refine aB (λh3=> ?_) (λh3=> ?_)
    ·(conv=>whnf)
     refine fR hty [0,1,2,3,4,5,6,7,8,9,10,11,12,13,14,15,16,17] (by kernel_rfl) (by kernel_rfl) ?_
     have hru2:(M.set ((J:Nat):Int).toNat (saR u))[(((J:Nat):Int) - 1).toNat]? =some (saR u):=by
      rw [List.getElem?_set_ne (by omega)];exact hru
     ((conv=>whnf);repeat' ((first|(intro hq;(try simp only [lnS]at hq);(try rewrite [List.length_map]))|refine sJ ?_|refine .intro _ (.intro rfl ?_)|refine exL (k:= ?_)|(refine And.intro hML.symm ?_)|(refine And.intro ((List.length_set ..).trans hML).symm ?_)|(refine⟨_,hrx, ?_⟩)|(refine⟨_,hru, ?_⟩)|(refine⟨_,hru2, ?_⟩)|(refine And.intro (pT rfl) ?_)|refine dwR ?_|((first|refine aB ?_ ?_|refine aC ?_ ?_)<;>intro hb<;>(first|exact ddX hb|try simp only [lnS]at hb))|(refine aA ?_ ?_<;>intro hb<;>try exact dsX hb))<;>(conv=>whnf)))
     refine⟨(S1',u::S2),⟨?_, ?_, ?_⟩,by dsimp only;omega,(by repeat' (first|exact trivial|exact rfl|exact fC (by dsimp only;omega)|refine And.intro ?_ ?_)), ?_⟩
     ·have e:S1'++u::S2=S1'++[u]++S2:=by simp
      dsimp only;rw [e];exact zp
     ·have e:S1'++u::S2=S1'++[u]++S2:=by simp
      dsimp only;rw [e];exact zs
     ·intro y hy
      rcases List.mem_cons.1 hy with rfl|hy
      ·rw [hc];exact h3
      ·exact zx y hy
     ·have:=hsw _ _ rfl rfl
      show (70,HObj.mrow _ 16 cap ((M.set ((J:Nat):Int).toNat (saR u)).set (((J:Nat):Int) - 1).toNat (saR x)))::rest=_
      rw [this]
    ·obtain ⟨d1, d2⟩ := done (by
      intro v S e
      have:=List.append_inj' e rfl
      have h4:u=v:=by simpa using this.2
      subst h4
      rw [hc];exact h3)
     ((conv=>whnf);repeat' ((first|(intro hq;(try simp only [lnS]at hq);(try rewrite [List.length_map]))|refine sJ ?_|refine .intro _ (.intro rfl ?_)|refine exL (k:= ?_)|refine dwR ?_|((first|refine aB ?_ ?_|refine aC ?_ ?_)<;>intro hb<;>(first|exact ddX hb|try simp only [lnS]at hb))|(refine aA ?_ ?_<;>intro hb<;>try exact dsX hb))<;>(conv=>whnf)))
     refine⟨(k+1,S1'++[u]++x::S2),⟨by dsimp only;omega,d1,d2⟩,by dsimp only;omega,(by repeat' (first|exact trivial|exact rfl|exact fC (by dsimp only;omega)|refine And.intro ?_ ?_)), ?_⟩
     dsimp only
     rw [<-hM]
     congr 4
     simp
   ·exfalso;omega
 ·have hkl:A.length<=k:=by omega
  have hd:A.drop k=[]:=List.drop_eq_nil_of_le hkl
  rw [List.take_of_length_le hkl]at hp
  rw [hd]
  ((conv=>whnf);repeat' ((first|(intro hq;(try simp only [lnS]at hq);(try rewrite [List.length_map]))|refine sJ ?_|refine .intro _ (.intro rfl ?_)|refine exL (k:= ?_)|refine dwR ?_|((first|refine aB ?_ ?_|refine aC ?_ ?_)<;>intro hb<;>(first|exact ddX hb|try simp only [lnS]at hb))|(refine aA ?_ ?_<;>intro hb<;>try exact dsX hb))<;>(conv=>whnf)))
  exact fin S hp hs
theorem uC {g:FuncId}(Pr X M Y Q:List SAx) (hXY:Y.length=X.length) {L:List SAx}(hL:L=Pr++(X++(M++(Y++Q)))) (hl:L.length<=1000000) {n:Nat}{a b k:Int}(hn:n=L.length) (ha:a=(Pr.length:Nat)) (hb:b=(Pr.length+X.length+M.length:Nat)) (hk:k=(X.length:Nat)) (cap:Nat) (rest:Hp) {pin:List Nat}{fr:Fr}{K:SV->Hp->Prop}
  (fin:K (dQ []) ((70, .mrow 48 16 cap ((Pr++(Y++(M++(X++Q)))).map saR))::rest)):
  aJ Tryz.prog pin fr ((70, .mrow 48 16 cap (L.map saR))::rest) 192 [.mw 70 16 n, .d (.int .i64 a), .d (.int .i64 b), .d (.int .i64 k), .fn g [] []] K:=by
 subst hL;subst hn;subst ha;subst hb;subst hk
 have hlen:(Pr++(X++(M++(Y++Q)))).length=Pr.length+(X.length+(M.length+(X.length+Q.length))):=by simp only [List.length_append,hXY]
 generalize hN:(Pr++(X++(M++(Y++Q)))).length=N at *
 refine dW hty Tryz.func192 rfl (kp [0,1,2,3,10,13]) 500 (by simp [Tryz.f192]) ?_
 ((conv=>whnf);repeat ((first|(intro hq;try simp only [lnS]at hq)|refine sI ?_|refine .intro _ (.intro rfl ?_));(conv=>whnf)))
 refine dE hty (λi:Nat=>([(0, .mw 70 16 N),(1, .d (.int .i64 (Pr.length:Nat))),(2, .d (.int .i64 (Pr.length+X.length+M.length:Nat))),(3, .d (.int .i64 (X.length:Nat))),(10, .d (.int .i64 (i:Nat)))],(70, .mrow 48 16 cap (((Pr++Y.take i)++(X.drop i++((M++X.take i)++(Y.drop i++Q)))).map saR))::rest)) (λi=>i<=X.length) (λi=>X.length - i) 0 (Nat.zero_le _) (by repeat' (first|exact trivial|exact rfl|exact fC (by dsimp only;omega)|refine And.intro ?_ ?_)) (by simp) ?_
 intro i hi
 ((conv=>whnf);repeat ((first|(intro hq;try simp only [lnS]at hq)|refine sI ?_|refine .intro _ (.intro rfl ?_));(conv=>whnf)))
 refine aB (λh1=> ?_) (λh1=> ?_)
 ·have hiX:i < X.length:=by omega
  have hiY:i < Y.length:=by omega
  obtain⟨x,hx⟩: ∃x,x=X[i]:=⟨_,rfl⟩
  obtain⟨y,hy⟩: ∃y,y=Y[i]:=⟨_,rfl⟩
  have hdX:X.drop i=x::X.drop (i+1):=by rw [hx];exact List.drop_eq_getElem_cons hiX
  have hdY:Y.drop i=y::Y.drop (i+1):=by rw [hy];exact List.drop_eq_getElem_cons hiY
  have htX:X.take (i+1)=X.take i++[x]:=by rw [hx];exact List.take_succ_eq_append_getElem hiX
  have htY:Y.take (i+1)=Y.take i++[y]:=by rw [hy];exact List.take_succ_eq_append_getElem hiY
  have hl1:(Pr++Y.take i)++(X.drop i++((M++X.take i)++(Y.drop i++Q)))=(Pr++Y.take i)++x::((X.drop (i+1)++(M++X.take i))++y::(Y.drop (i+1)++Q)):=by rw [hdX,hdY];simp
  have hUl:(Pr++Y.take i).length=Pr.length+i:=by rw [List.length_append,List.length_take];omega
  have hVl:(X.drop (i+1)++(M++X.take i)).length=X.length+M.length - 1:=by simp only [List.length_append,List.length_take,List.length_drop];omega
  have hrx:(((Pr++Y.take i)++(X.drop i++((M++X.take i)++(Y.drop i++Q)))).map saR)[(((Pr.length:Nat):Int)+(i:Nat)).toNat]? =some (saR x):=gQ hl1 (by rw [hUl];omega)
  have hry:(((Pr++Y.take i)++(X.drop i++((M++X.take i)++(Y.drop i++Q)))).map saR)[(((Pr.length+X.length+M.length:Nat):Int)+(i:Nat)).toNat]? =some (saR y):=gQ (U:=(Pr++Y.take i)++x::(X.drop (i+1)++(M++X.take i))) (W:=Y.drop (i+1)++Q) (by rw [hl1];simp) (by rw [List.length_append,List.length_cons,hUl,hVl];omega)
  have hsw: ∀p q,p=(((Pr.length:Nat):Int)+(i:Nat)).toNat->q=(((Pr.length+X.length+M.length:Nat):Int)+(i:Nat)).toNat->((((Pr++Y.take i)++(X.drop i++((M++X.take i)++(Y.drop i++Q)))).map saR).set p (saR y)).set q (saR x)=((Pr++Y.take (i+1))++(X.drop (i+1)++((M++X.take (i+1))++(Y.drop (i+1)++Q)))).map saR:= λp q hp hq=>by
   rw [aHb (x:=x) (y:=y) (i:=p) (j:=q) hl1 (by rw [hUl];omega) (by rw [hUl,hVl];omega),htX,htY]
   simp
  have hML:(((Pr++Y.take i)++(X.drop i++((M++X.take i)++(Y.drop i++Q)))).map saR).length=N:=by
   rw [hl1]
   simp only [List.length_map,List.length_append,List.length_cons,List.length_take,List.length_drop]
   omega
  generalize List.map saR ((Pr++Y.take i)++(X.drop i++((M++X.take i)++(Y.drop i++Q))))=M0 at hrx hry hsw hML |-
  have hry2:(M0.set (((Pr.length:Nat):Int)+(i:Nat)).toNat (saR y))[(((Pr.length+X.length+M.length:Nat):Int)+(i:Nat)).toNat]? =some (saR y):=by
   rw [List.getElem?_set_ne (by omega)];exact hry
  (conv=>whnf)
  refine fR hty [0,1,2,3,4,5,6,7,8,9,10,11,12,13,14,15,16,17,18,19,20,21,22,23] (by kernel_rfl) (by kernel_rfl) ?_
  ((conv=>whnf);repeat' ((first|(intro hq;(try simp only [lnS]at hq);(try rewrite [List.length_map]))|refine sJ ?_|refine .intro _ (.intro rfl ?_)|refine exL (k:= ?_)|(refine And.intro hML.symm ?_)|(refine And.intro ((List.length_set ..).trans hML).symm ?_)|(refine⟨_,hrx, ?_⟩)|(refine⟨_,hry, ?_⟩)|(refine⟨_,hry2, ?_⟩)|(refine And.intro (pT rfl) ?_)|refine dwR ?_|((first|refine aB ?_ ?_|refine aC ?_ ?_)<;>intro hb<;>(first|exact ddX hb|try simp only [lnS]at hb))|(refine aA ?_ ?_<;>intro hb<;>try exact dsX hb))<;>(conv=>whnf)))
  refine⟨i+1,by dsimp only;omega,by dsimp only;omega,(by repeat' (first|exact trivial|exact rfl|exact fC (by dsimp only;omega)|refine And.intro ?_ ?_)), ?_⟩
  have:=hsw _ _ rfl rfl
  show (70,HObj.mrow _ 16 cap ((M0.set (((Pr.length:Nat):Int)+(i:Nat)).toNat (saR y)).set (((Pr.length+X.length+M.length:Nat):Int)+(i:Nat)).toNat (saR x)))::rest=_
  rw [this]
 ·have hie:i=X.length:=by omega
  subst hie
  rw [List.drop_length,List.take_length,<-hXY,List.drop_length,List.take_length]
  ((conv=>whnf);repeat' ((first|(intro hq;(try simp only [lnS]at hq);(try rewrite [List.length_map]))|refine sJ ?_|refine .intro _ (.intro rfl ?_)|refine exL (k:= ?_)|refine dwR ?_|((first|refine aB ?_ ?_|refine aC ?_ ?_)<;>intro hb<;>(first|exact ddX hb|try simp only [lnS]at hb))|(refine aA ?_ ?_<;>intro hb<;>try exact dsX hb))<;>(conv=>whnf)))
  have e:(Pr++Y)++([]++((M++X)++([]++Q)))=Pr++(Y++(M++(X++Q))):=by simp
  rw [e]
  exact fin
theorem aEy {g:FuncId}(Pr A B Q:List SAx) (hA:A≠[]) (hB:B≠[]) {L:List SAx}(hL:L=Pr++(A++(B++Q))) (hl:L.length<=1000000) {n:Nat}{a m b:Int}(hn:n=L.length) (ha:a=(Pr.length:Nat)) (hm:m=(Pr.length+A.length:Nat)) (hb:b=(Pr.length+A.length+B.length:Nat)) (cap:Nat) (rest:Hp) {pin:List Nat}{fr:Fr}{K:SV->Hp->Prop}
  (fin:K (dQ []) ((70, .mrow 48 16 cap ((Pr++(B++(A++Q))).map saR))::rest)):
  aJ Tryz.prog pin fr ((70, .mrow 48 16 cap (L.map saR))::rest) 176 [.mw 70 16 n, .d (.int .i64 a), .d (.int .i64 m), .d (.int .i64 b), .fn g [] []] K:=by
 subst hL;subst hn;subst ha;subst hb;subst hm
 have hlen:(Pr++(A++(B++Q))).length=Pr.length+(A.length+(B.length+Q.length)):=by simp only [List.length_append]
 generalize hN:(Pr++(A++(B++Q))).length=N at *
 have hA0:=List.length_pos_iff.2 hA
 have hB0:=List.length_pos_iff.2 hB
 refine dW hty Tryz.func176 rfl (kp [0,1,2,3,4,10,11,20,23]) 500 (by simp [Tryz.f176]) ?_
 ((conv=>whnf);repeat ((first|(intro hq;try simp only [lnS]at hq)|refine sI ?_|refine .intro _ (.intro rfl ?_));(conv=>whnf)))
 refine dE hty (λy:List SAx×List SAx×List SAx×List SAx=>([(0, .mw 70 16 N),(2, .d (.int .i64 (Pr.length+A.length:Nat))),(4, .fn g [] []),(10, .d (.int .i64 (y.2.1.length:Nat))),(11, .d (.int .i64 (y.2.2.1.length:Nat)))],(70, .mrow 48 16 cap ((y.1++(y.2.1++(y.2.2.1++y.2.2.2))).map saR))::rest))
  (λy=>(0 < y.2.1.length/\0 < y.2.2.1.length)/\y.1.length+y.2.1.length=Pr.length+A.length/\y.1++(y.2.2.1++(y.2.1++y.2.2.2))=Pr++(B++(A++Q))) (λy=>y.2.1.length+y.2.2.1.length) (Pr,A,B,Q) ⟨⟨hA0,hB0⟩,rfl,rfl⟩ (by repeat' (first|exact trivial|exact rfl|exact fC (by dsimp only;omega)|refine And.intro ?_ ?_)) rfl ?_
 rintro⟨P',U,V,Q'⟩ ⟨⟨hU0,hV0⟩,hm,ht⟩
 dsimp only at hU0 hV0 hm ht
 have hlen2:(P'++(U++(V++Q'))).length=N:=by
  have e1:=congrArg List.length ht
  simp only [List.length_append]at e1 |-
  omega
 ((conv=>whnf);repeat ((first|(intro hq;try simp only [lnS]at hq)|refine sI ?_|refine .intro _ (.intro rfl ?_));(conv=>whnf)))
 refine aC (λh1=> ?_) (λh1=> ?_)
 ·dsimp only at h1
  ((conv=>whnf);repeat ((first|(intro hq;try simp only [lnS]at hq)|refine sI ?_|refine .intro _ (.intro rfl ?_));(conv=>whnf)))
  refine aB (λh2=> ?_) (λh2=> ?_)<;>dsimp only at h2
  ·have hUV:V.length < U.length:=by omega
   have eU:U=U.take V.length++U.drop V.length:=(List.take_append_drop _ _).symm
   have l1:(U.take V.length).length=V.length:=by rw [List.length_take];omega
   have l2:(U.drop V.length).length=U.length - V.length:=List.length_drop
   generalize U.take V.length=U1 at eU l1
   generalize U.drop V.length=U2 at eU l2
   subst eU
   rw [List.length_append]at l2 hm hUV
   ((conv=>whnf);repeat ((first|(intro hq;try simp only [lnS]at hq)|refine sI ?_|refine .intro _ (.intro rfl ?_));(conv=>whnf)))
   refine uC P' U1 U2 V Q' l1.symm (by simp) (by rw [hlen2];omega) hlen2.symm (by(try dsimp only);rw [List.length_append];omega) (by(try dsimp only);omega) (by first|rfl|((try dsimp only);omega)) cap rest ?_
   ((conv=>whnf);repeat ((first|(intro hq;try simp only [lnS]at hq)|refine sI ?_|refine .intro _ (.intro rfl ?_));(conv=>whnf)))
   refine⟨(P'++V,U2,U1,Q'),⟨⟨by dsimp only;omega,by dsimp only;omega⟩,by dsimp only;rw [List.length_append];omega, ?_⟩,by dsimp only;rw [List.length_append];omega,(by repeat' (first|exact trivial|exact rfl|exact fC (by dsimp only;(try rw [List.length_append]);omega)|refine And.intro ?_ ?_)), ?_⟩
   ·dsimp only
    rw [<-ht];simp
   ·dsimp only
    simp
  ·have hUV:U.length < V.length:=by omega
   have eV:V=V.take (V.length - U.length)++V.drop (V.length - U.length):=(List.take_append_drop _ _).symm
   have l1:(V.take (V.length - U.length)).length=V.length - U.length:=by rw [List.length_take];omega
   have l2:(V.drop (V.length - U.length)).length=U.length:=by rw [List.length_drop];omega
   generalize hk:V.length - U.length=k at eV l1 l2
   generalize V.take k=V1 at eV l1
   generalize V.drop k=V2 at eV l2
   subst eV
   rw [List.length_append]at hUV hk
   ((conv=>whnf);repeat ((first|(intro hq;try simp only [lnS]at hq)|refine sI ?_|refine .intro _ (.intro rfl ?_));(conv=>whnf)))
   refine uC P' U V1 V2 Q' l2 (by simp) (by rw [hlen2];omega) hlen2.symm (by first|rfl|((try dsimp only);omega)) (by(try dsimp only);rw [List.length_append];omega) (by first|rfl|((try dsimp only);omega)) cap rest ?_
   ((conv=>whnf);repeat ((first|(intro hq;try simp only [lnS]at hq)|refine sI ?_|refine .intro _ (.intro rfl ?_));(conv=>whnf)))
   refine⟨(P',V2,V1,U++Q'),⟨⟨by dsimp only;omega,by dsimp only;omega⟩,by dsimp only;omega, ?_⟩,by dsimp only;rw [List.length_append];omega,(by repeat' (first|exact trivial|exact rfl|exact fC (by dsimp only;(try rw [List.length_append]);omega)|refine And.intro ?_ ?_)), ?_⟩
   ·dsimp only
    rw [<-ht];simp
   ·dsimp only
 ·dsimp only at h1
  have hUV:U.length=V.length:=by omega
  ((conv=>whnf);repeat ((first|(intro hq;try simp only [lnS]at hq)|refine sI ?_|refine .intro _ (.intro rfl ?_));(conv=>whnf)))
  refine uC P' U [] V Q' hUV.symm (by simp) (by rw [hlen2];omega) hlen2.symm (by first|rfl|((try dsimp only);omega)) (by(try dsimp only);rw [List.length_nil];omega) (by first|rfl|((try dsimp only);omega)) cap rest ?_
  ((conv=>whnf);repeat ((first|(intro hq;try simp only [lnS]at hq)|refine sI ?_|refine .intro _ (.intro rfl ?_));(conv=>whnf)))
  have e:P'++(V++([]++(U++Q')))=Pr++(B++(A++Q)):=by rw [<-ht];simp
  rw [e]
  exact fin
end Go.Proofs.YtfhoddcminbffaaGreatDoor
namespace Go.Proofs.YtfhoddcminbffaaGreatDoor
open Go.Proofs
set_option maxRecDepth 10000
attribute [local irreducible] aM aJ Tri aH YVC dI bI
theorem aW3 (i j:Nat):Int.fdiv (IntKind.u64.wrap ((i:Int)+(j:Int))) (2 ^ min (Int.toNat 1) IntKind.u64.bits)=((i+j) / 2:Nat)\/18446744073709551616<=i+j:=by
 by_cases h:i+j < 18446744073709551616
 ·left
  have e:IntKind.u64.wrap ((i:Int)+(j:Int))=((i+j:Nat):Int):=by
   rw [IntKind.wrap_u64];omega
  rw [e]
  show Int.fdiv ((i+j:Nat):Int) 2=_
  rw [Int.fdiv_eq_ediv_of_nonneg _ (by omega)]
  omega
 ·right;omega
theorem aD6 {i j:Nat}(h:i+j<=4000000):IntKind.i64.wrap (Int.fdiv (IntKind.u64.wrap ((i:Int)+(j:Int))) (2 ^ min (Int.toNat 1) IntKind.u64.bits))=(((i+j) / 2:Nat):Int):=by
 rw [(aW3 i j).resolve_right (by omega),IntKind.wrap_i64];omega
theorem aGq {Pr A R L:List SAx}(hL:L=Pr++(A++R)) {k:Nat}{x:SAx}(hx:A[k]? =some x) {i:Nat}(hi:i=Pr.length+k):(L.map saR)[i]? =some (saR x):=by
 subst hL;subst hi
 rw [List.getElem?_map,List.getElem?_append_right (by omega),show Pr.length+k - Pr.length=k by omega,List.getElem?_append_left (List.getElem?_eq_some_iff.1 hx).1,hx];rfl
theorem aJn {g:FuncId}{cf:SAx->SAx->Int}(G:CmpG g cf) (Pr:List SAx) (x:SAx) (B Q:List SAx) (hB:Srt cf B) {L:List SAx}(hL:L=Pr++(x::(B++Q))) (hl:L.length<=1000000) {n:Nat}{a m b:Int}(hn:n=L.length) (ha:a=(Pr.length:Nat)) (hm:m=(Pr.length+1:Nat)) (hb:b=(Pr.length+1+B.length:Nat)) (cap:Nat) (rest:Hp) {pin:List Nat}{fr:Fr}{K:SV->Hp->Prop}
  (fin: ∀S,S.Perm (x::B)->Srt cf S->K (dQ []) ((70, .mrow 48 16 cap ((Pr++(S++Q)).map saR))::rest)):
  aJ Tryz.prog pin fr ((70, .mrow 48 16 cap (L.map saR))::rest) 143 [.mw 70 16 n, .d (.int .i64 a), .d (.int .i64 m), .d (.int .i64 b), .fn g [] []] K:=by
 subst hn;subst ha;subst hb;subst hm
 have hlen:L.length=Pr.length+(1+(B.length+Q.length)):=by rw [hL];simp only [List.length_append,List.length_cons];omega
 have hrx:(L.map saR)[((Pr.length:Nat):Int).toNat]? =some (saR x):=gQ hL (by omega)
 have hMl:(L.map saR).length=L.length:=List.length_map ..
 have hrB: ∀(k:Nat) (y:SAx),B[k]? =some y-> ∀i:Nat,i=Pr.length+1+k->(L.map saR)[((i:Nat):Int).toNat]? =some (saR y):= λk y hy i hi=>
  aGq (Pr:=Pr++[x]) (A:=B) (R:=Q) (by rw [hL];simp) hy (by rw [Int.toNat_natCast,hi];simp)
 generalize hN:L.length=N at *
 refine dW hty Tryz.func143 rfl (kp [0,1,2,3,4,10,11,12,13,14,15,16,17,18,19,20,21,22,23,24,28,33,50,58,80,85,103,110,140,151,171,185,199,213]) 500 (by simp [Tryz.f143]) ?_
 ((conv=>whnf);repeat ((first|(intro hq;try simp only [lnS]at hq)|refine sI ?_|refine .intro _ (.intro rfl ?_));(conv=>whnf)))
 refine aB (λh1=> ?_) (λh1=> ?_)
 ·((conv=>whnf);repeat ((first|(intro hq;try simp only [lnS]at hq)|refine sI ?_|refine .intro _ (.intro rfl ?_));(conv=>whnf)))
  refine dE hty (λy:Nat×Nat=>([(0, .mw 70 16 N),(1, .d (.int .i64 (Pr.length:Nat))),(2, .d (.int .i64 (Pr.length+1:Nat))),(3, .d (.int .i64 (Pr.length+1+B.length:Nat))),(4, .fn g [] []),(10, .d (.int .i64 (y.1:Nat))),(11, .d (.int .i64 (y.2:Nat)))],(70, .mrow 48 16 cap (L.map saR))::rest))
   (λy => (Pr.length + 1 <= y.1 /\ y.1 <= y.2 /\ y.2 <= Pr.length + 1 + B.length) /\ (∀ z, Pr.length + 1 < y.1 -> B[y.1 - 1 - (Pr.length + 1)]? = some z -> cf z x < 0) /\ (∀ z, B[y.2 - (Pr.length + 1)]? = some z -> ¬ cf z x < 0)) (λy => y.2 - y.1) (Pr.length + 1, Pr.length + 1 + B.length) ⟨by dsimp only; omega, λz h => absurd h (by dsimp only; omega), λz h => by
    dsimp only at h
    rw [show Pr.length+1+B.length - (Pr.length+1)=B.length by omega,List.getElem?_eq_none (Nat.le_refl _)]at h
    cases h⟩ (by repeat' (first|exact trivial|exact rfl|exact fC (by(try dsimp only);omega)|refine And.intro ?_ ?_)) rfl ?_
  rintro⟨i,j⟩ ⟨⟨q1,q2,q3⟩,q4,q5⟩
  dsimp only at q1 q2 q3 q4 q5 |-
  have hh2:=aD6 (i:=i) (j:=j) (by omega)
  ((conv=>whnf);repeat ((first|(intro hq;try simp only [lnS]at hq)|refine sI ?_|refine .intro _ (.intro rfl ?_));(conv=>whnf)))
  refine aB (λhij=> ?_) (λhij=> ?_)
  ·obtain⟨h,hh⟩: ∃h,h=(i+j) / 2:=⟨_,rfl⟩
   have hb1:i<=h/\h < j:=by omega
   obtain⟨z,hz⟩: ∃z,B[h - (Pr.length+1)]? =some z:=⟨_,List.getElem?_eq_getElem (by omega)⟩
   have hrz:=hrB _ z hz h (by omega)
   have htr:=G.tri z x
   generalize hc:cf z x=c at htr
   ((conv=>whnf);repeat ((first|(intro hq;try simp only [lnS]at hq)|refine sI ?_|refine .intro _ (.intro rfl ?_));(conv=>whnf)))
   rw [hh2,<-hh]
   ((conv=>whnf);repeat ((first|(intro hq;try simp only [lnS]at hq)|refine sI ?_|refine .intro _ (.intro rfl ?_));(conv=>whnf)))
   refine dwR ?_
   ((conv=>whnf);repeat ((first|(refine And.intro hMl.symm ?_)|(refine⟨_,hrx, ?_⟩)|(refine⟨_,hrz, ?_⟩)|(refine⟨G.call, .d (.int .i64 _),_,[],rfl,trivial,htr, ?_⟩)|(intro hq;try simp only [lnS]at hq)|refine sI ?_|refine .intro _ (.intro rfl ?_));(conv=>whnf)))
   refine aB (λh3=> ?_) (λh3=> ?_)
   ·((conv=>whnf);repeat' ((first|(intro hq;(try simp only [lnS]at hq);(try rewrite [List.length_map]))|refine sJ ?_|refine .intro _ (.intro rfl ?_)|refine exL (k:= ?_)|refine dwR ?_|((first|refine aB ?_ ?_|refine aC ?_ ?_)<;>intro hb<;>(first|exact ddX hb|try simp only [lnS]at hb))|(refine aA ?_ ?_<;>intro hb<;>try exact dsX hb))<;>(conv=>whnf)))
    refine⟨(h+1,j),⟨by dsimp only;omega,λw _ hw=> ?_,q5⟩,by dsimp only;omega,(by repeat' (first|exact trivial|exact rfl|exact fC (by(try dsimp only);omega)|refine And.intro ?_ ?_)),rfl⟩
    dsimp only at hw
    rw [show h+1 - 1 - (Pr.length+1)=h - (Pr.length+1)by omega,hz]at hw
    injection hw with hw
    subst hw
    rw [hc];exact h3
   ·((conv=>whnf);repeat' ((first|(intro hq;(try simp only [lnS]at hq);(try rewrite [List.length_map]))|refine sJ ?_|refine .intro _ (.intro rfl ?_)|refine exL (k:= ?_)|refine dwR ?_|((first|refine aB ?_ ?_|refine aC ?_ ?_)<;>intro hb<;>(first|exact ddX hb|try simp only [lnS]at hb))|(refine aA ?_ ?_<;>intro hb<;>try exact dsX hb))<;>(conv=>whnf)))
    refine⟨(i,h),⟨by dsimp only;omega,q4,λw hw=> ?_⟩,by dsimp only;omega,(by repeat' (first|exact trivial|exact rfl|exact fC (by(try dsimp only);omega)|refine And.intro ?_ ?_)),rfl⟩
    dsimp only at hw
    rw [hz]at hw
    injection hw with hw
    subst hw
    rw [hc];exact h3
  ·obtain rfl:i=j:=by omega
   obtain⟨p,hp⟩: ∃p,p=i - (Pr.length+1):=⟨_,rfl⟩
   have hip:i=Pr.length+1+p:=by omega
   subst hip
   clear hp
   have hpl:p<=B.length:=by omega
   have hfin := fin (B.take p ++ x :: B.drop p) (List.perm_middle.trans (by rw [List.take_append_drop])) (by
    have hBB:Srt cf (B.take p++B.drop p):=by rw [List.take_append_drop];exact hB
    obtain⟨a1,a2,a3⟩:=Srt.app.1 hBB
    refine Srt.app.2 ⟨a1,List.pairwise_cons.2 ⟨λy hy=> ?_,a2⟩,λu hu y hy=> ?_⟩
    ·obtain⟨k,hk,e⟩:=oO hy
     obtain⟨z,hz⟩: ∃z,B[p]? =some z:=⟨_,List.getElem?_eq_getElem (by have:=(List.getElem?_eq_some_iff.1 e).1;omega)⟩
     exact G.ord.tr _ _ _ (q5 z (by rw [show Pr.length+1+p - (Pr.length+1)=p by omega];exact hz)) (hB.le_at G.ord hk hz e)
    ·have hux:¬ cf x u < 0:=by
      obtain⟨k,hk,e⟩:=oN hu
      obtain⟨z,hz⟩: ∃z,B[p - 1]? =some z:=⟨_,List.getElem?_eq_getElem (by omega)⟩
      exact G.ord.tr _ _ _ (hB.le_at G.ord (show k<=p - 1 by omega) e hz) (G.ord.asym _ _ (q4 z (by omega) (by rw [show Pr.length+1+p - 1 - (Pr.length+1)=p - 1 by omega];exact hz)))
     rcases List.mem_cons.1 hy with rfl|hy
     ·exact hux
     ·exact a3 u hu y hy)
   clear fin q4 q5 hrx hrB hh2
   ((conv=>whnf);repeat ((first|(intro hq;try simp only [lnS]at hq)|refine sI ?_|refine .intro _ (.intro rfl ?_));(conv=>whnf)))
   refine dE hty (λt:Nat=>([(0, .mw 70 16 N),(1, .d (.int .i64 (Pr.length:Nat))),(4, .fn g [] []),(10, .d (.int .i64 (Pr.length+1+p:Nat))),(13, .d (.int .i64 (Pr.length+t:Nat)))],(70, .mrow 48 16 cap (((Pr++B.take t)++x::(B.drop t++Q)).map saR))::rest)) (λt=>t<=p) (λt=>p - t) 0 (Nat.zero_le _) (by repeat' (first|exact trivial|exact rfl|exact fC (by(try dsimp only);omega)|refine And.intro ?_ ?_)) (by rw [hL];simp) ?_
   intro t ht
   dsimp only
   ((conv=>whnf);repeat ((first|(intro hq;try simp only [lnS]at hq)|refine sI ?_|refine .intro _ (.intro rfl ?_));(conv=>whnf)))
   refine aB (λh2=> ?_) (λh2=> ?_)
   ·have htB:t < B.length:=by omega
    obtain⟨y,hy⟩: ∃y,y=B[t]:=⟨_,rfl⟩
    have hdB:B.drop t=y::B.drop (t+1):=by rw [hy];exact List.drop_eq_getElem_cons htB
    have htk:B.take (t+1)=B.take t++[y]:=by rw [hy];exact List.take_succ_eq_append_getElem htB
    have hUl:(Pr++B.take t).length=Pr.length+t:=by rw [List.length_append,List.length_take];omega
    have hl1:(Pr++B.take t)++x::(B.drop t++Q)=(Pr++B.take t)++x::([]++y::(B.drop (t+1)++Q)):=by rw [hdB];rfl
    have r1:(((Pr++B.take t)++x::(B.drop t++Q)).map saR)[((Pr.length+t:Nat):Int).toNat]? =some (saR x):=gQ hl1 (by rw [hUl];omega)
    have r2:(((Pr++B.take t)++x::(B.drop t++Q)).map saR)[(((Pr.length+t:Nat):Int)+1).toNat]? =some (saR y):=gQ (U:=(Pr++B.take t)++[x]) (W:=B.drop (t+1)++Q) (by rw [hl1];simp) (by rw [List.length_append,hUl];simp;omega)
    have hsw: ∀p q,p=((Pr.length+t:Nat):Int).toNat->q=(((Pr.length+t:Nat):Int)+1).toNat->((((Pr++B.take t)++x::(B.drop t++Q)).map saR).set p (saR y)).set q (saR x)=((Pr++B.take (t+1))++x::(B.drop (t+1)++Q)).map saR:= λp q hp hq=>by
     rw [aHb (x:=x) (y:=y) (i:=p) (j:=q) hl1 (by rw [hUl];omega) (by rw [hUl];simp;omega),htk]
     simp
    have hML:(((Pr++B.take t)++x::(B.drop t++Q)).map saR).length=N:=by
     simp only [List.length_map,List.length_append,List.length_cons,List.length_take,List.length_drop]
     omega
    generalize List.map saR ((Pr++B.take t)++x::(B.drop t++Q))=M0 at r1 r2 hsw hML |-
    have r3:(M0.set ((Pr.length+t:Nat):Int).toNat (saR y))[(((Pr.length+t:Nat):Int)+1).toNat]? =some (saR y):=by
     rw [List.getElem?_set_ne (by omega)];exact r2
    (conv=>whnf)
    refine fR hty [0,1,2,3,4,5,6,7,8,9,10,11,12,13,14,15,16,17] (by kernel_rfl) (by kernel_rfl) ?_
    ((conv=>whnf);repeat' ((first|(intro hq;(try simp only [lnS]at hq);(try rewrite [List.length_map]))|refine sJ ?_|refine .intro _ (.intro rfl ?_)|refine exL (k:= ?_)|(refine And.intro hML.symm ?_)|(refine And.intro ((List.length_set ..).trans hML).symm ?_)|(refine⟨_,r1, ?_⟩)|(refine⟨_,r2, ?_⟩)|(refine⟨_,r3, ?_⟩)|(refine And.intro (pT rfl) ?_)|refine dwR ?_|((first|refine aB ?_ ?_|refine aC ?_ ?_)<;>intro hb<;>(first|exact ddX hb|try simp only [lnS]at hb))|(refine aA ?_ ?_<;>intro hb<;>try exact dsX hb))<;>(conv=>whnf)))
    refine⟨t+1,by dsimp only;omega,by dsimp only;omega,(by repeat' (first|exact trivial|exact rfl|exact fC (by(try dsimp only);omega)|refine And.intro ?_ ?_)), ?_⟩
    have:=hsw _ _ rfl rfl
    show (70,HObj.mrow _ 16 cap ((M0.set ((Pr.length+t:Nat):Int).toNat (saR y)).set (((Pr.length+t:Nat):Int)+1).toNat (saR x)))::rest=_
    rw [this]
   ·have hte:t=p:=by omega
    subst hte
    ((conv=>whnf);repeat' ((first|(intro hq;(try simp only [lnS]at hq);(try rewrite [List.length_map]))|refine sJ ?_|refine .intro _ (.intro rfl ?_)|refine exL (k:= ?_)|refine dwR ?_|((first|refine aB ?_ ?_|refine aC ?_ ?_)<;>intro hb<;>(first|exact ddX hb|try simp only [lnS]at hb))|(refine aA ?_ ?_<;>intro hb<;>try exact dsX hb))<;>(conv=>whnf)))
    have e:(Pr++B.take t)++x::(B.drop t++Q)=Pr++((B.take t++x::B.drop t)++Q):=by simp
    rw [e]
    exact hfin
 ·exfalso;omega
theorem aFi {g:FuncId}{cf:SAx->SAx->Int}(G:CmpG g cf) (Pr A:List SAx) (y:SAx) (Q:List SAx) (hA:Srt cf A) (hA1:A.length≠1) {L:List SAx}(hL:L=Pr++(A++(y::Q))) (hl:L.length<=1000000) {n:Nat}{a m b:Int}(hn:n=L.length) (ha:a=(Pr.length:Nat)) (hm:m=(Pr.length+A.length:Nat)) (hb:b=(Pr.length+A.length+1:Nat)) (cap:Nat) (rest:Hp) {pin:List Nat}{fr:Fr}{K:SV->Hp->Prop}
  (fin: ∀S,S.Perm (A++[y])->Srt cf S->K (dQ []) ((70, .mrow 48 16 cap ((Pr++(S++Q)).map saR))::rest)):
  aJ Tryz.prog pin fr ((70, .mrow 48 16 cap (L.map saR))::rest) 143 [.mw 70 16 n, .d (.int .i64 a), .d (.int .i64 m), .d (.int .i64 b), .fn g [] []] K:=by
 subst hn;subst ha;subst hb;subst hm
 have hlen:L.length=Pr.length+(A.length+(1+Q.length)):=by rw [hL];simp only [List.length_append,List.length_cons];omega
 have hry:(L.map saR)[((Pr.length+A.length:Nat):Int).toNat]? =some (saR y):=gQ (U:=Pr++A) (W:=Q) (by rw [hL];simp) (by rw [Int.toNat_natCast];simp)
 have hMl:(L.map saR).length=L.length:=List.length_map ..
 have hrA: ∀(k:Nat) (x:SAx),A[k]? =some x-> ∀i:Nat,i=Pr.length+k->(L.map saR)[((i:Nat):Int).toNat]? =some (saR x):= λk x hx i hi=>
  aGq (Pr:=Pr) (A:=A) (R:=y::Q) hL hx (by rw [Int.toNat_natCast,hi])
 generalize hN:L.length=N at *
 refine dW hty Tryz.func143 rfl (kp [0,1,2,3,4,10,11,12,13,14,15,16,17,18,19,20,21,22,23,24,28,33,50,58,80,85,103,110,140,151,171,185,199,213]) 500 (by simp [Tryz.f143]) ?_
 ((conv=>whnf);repeat ((first|(intro hq;try simp only [lnS]at hq)|refine sI ?_|refine .intro _ (.intro rfl ?_));(conv=>whnf)))
 refine aB (λh1=> ?_) (λh1=> ?_)
 ·exfalso;omega
 ((conv=>whnf);repeat ((first|(intro hq;try simp only [lnS]at hq)|refine sI ?_|refine .intro _ (.intro rfl ?_));(conv=>whnf)))
 refine aB (λh1=> ?_) (λh1=> ?_)
 ·((conv=>whnf);repeat ((first|(intro hq;try simp only [lnS]at hq)|refine sI ?_|refine .intro _ (.intro rfl ?_));(conv=>whnf)))
  refine dE hty (λz:Nat×Nat=>([(0, .mw 70 16 N),(1, .d (.int .i64 (Pr.length:Nat))),(2, .d (.int .i64 (Pr.length+A.length:Nat))),(3, .d (.int .i64 (Pr.length+A.length+1:Nat))),(4, .fn g [] []),(14, .d (.int .i64 (z.1:Nat))),(15, .d (.int .i64 (z.2:Nat)))],(70, .mrow 48 16 cap (L.map saR))::rest))
   (λz => (Pr.length <= z.1 /\ z.1 <= z.2 /\ z.2 <= Pr.length + A.length) /\ (∀ x, Pr.length < z.1 -> A[z.1 - 1 - Pr.length]? = some x -> ¬ cf y x < 0) /\ (∀ x, A[z.2 - Pr.length]? = some x -> cf y x < 0)) (λz => z.2 - z.1) (Pr.length, Pr.length + A.length) ⟨by dsimp only; omega, λz h => absurd h (by dsimp only; omega), λz h => by
    dsimp only at h
    rw [show Pr.length+A.length - Pr.length=A.length by omega,List.getElem?_eq_none (Nat.le_refl _)]at h
    cases h⟩ (by repeat' (first|exact trivial|exact rfl|exact fC (by(try dsimp only);omega)|refine And.intro ?_ ?_)) rfl ?_
  rintro⟨i,j⟩ ⟨⟨q1,q2,q3⟩,q4,q5⟩
  dsimp only at q1 q2 q3 q4 q5 |-
  have hh2:=aD6 (i:=i) (j:=j) (by omega)
  ((conv=>whnf);repeat ((first|(intro hq;try simp only [lnS]at hq)|refine sI ?_|refine .intro _ (.intro rfl ?_));(conv=>whnf)))
  refine aB (λhij=> ?_) (λhij=> ?_)
  ·obtain⟨h,hh⟩: ∃h,h=(i+j) / 2:=⟨_,rfl⟩
   have hb1:i<=h/\h < j:=by omega
   obtain⟨z,hz⟩: ∃z,A[h - Pr.length]? =some z:=⟨_,List.getElem?_eq_getElem (by omega)⟩
   have hrz:=hrA _ z hz h (by omega)
   have htr:=G.tri y z
   generalize hc:cf y z=c at htr
   ((conv=>whnf);repeat ((first|(intro hq;try simp only [lnS]at hq)|refine sI ?_|refine .intro _ (.intro rfl ?_));(conv=>whnf)))
   rw [hh2,<-hh]
   ((conv=>whnf);repeat ((first|(intro hq;try simp only [lnS]at hq)|refine sI ?_|refine .intro _ (.intro rfl ?_));(conv=>whnf)))
   refine dwR ?_
   ((conv=>whnf);repeat ((first|(refine And.intro hMl.symm ?_)|(refine⟨_,hry, ?_⟩)|(refine⟨_,hrz, ?_⟩)|(refine⟨G.call, .d (.int .i64 _),_,[],rfl,trivial,htr, ?_⟩)|(intro hq;try simp only [lnS]at hq)|refine sI ?_|refine .intro _ (.intro rfl ?_));(conv=>whnf)))
   refine aC (λh3=> ?_) (λh3=> ?_)
   ·((conv=>whnf);repeat' ((first|(intro hq;(try simp only [lnS]at hq);(try rewrite [List.length_map]))|refine sJ ?_|refine .intro _ (.intro rfl ?_)|refine exL (k:= ?_)|refine dwR ?_|((first|refine aB ?_ ?_|refine aC ?_ ?_)<;>intro hb<;>(first|exact ddX hb|try simp only [lnS]at hb))|(refine aA ?_ ?_<;>intro hb<;>try exact dsX hb))<;>(conv=>whnf)))
    refine⟨(h+1,j),⟨by dsimp only;omega,λw _ hw=> ?_,q5⟩,by dsimp only;omega,(by repeat' (first|exact trivial|exact rfl|exact fC (by(try dsimp only);omega)|refine And.intro ?_ ?_)),rfl⟩
    dsimp only at hw
    rw [show h+1 - 1 - Pr.length=h - Pr.length by omega,hz]at hw
    injection hw with hw
    subst hw
    rw [hc];exact h3
   ·((conv=>whnf);repeat' ((first|(intro hq;(try simp only [lnS]at hq);(try rewrite [List.length_map]))|refine sJ ?_|refine .intro _ (.intro rfl ?_)|refine exL (k:= ?_)|refine dwR ?_|((first|refine aB ?_ ?_|refine aC ?_ ?_)<;>intro hb<;>(first|exact ddX hb|try simp only [lnS]at hb))|(refine aA ?_ ?_<;>intro hb<;>try exact dsX hb))<;>(conv=>whnf)))
    refine⟨(i,h),⟨by dsimp only;omega,q4,λw hw=> ?_⟩,by dsimp only;omega,(by repeat' (first|exact trivial|exact rfl|exact fC (by(try dsimp only);omega)|refine And.intro ?_ ?_)),rfl⟩
    dsimp only at hw
    rw [hz]at hw
    injection hw with hw
    subst hw
    rw [hc];exact h3
  ·obtain rfl:i=j:=by omega
   obtain⟨p,hp⟩: ∃p,p=i - Pr.length:=⟨_,rfl⟩
   have hip:i=Pr.length+p:=by omega
   subst hip
   clear hp
   have hpl:p<=A.length:=by omega
   have hfin := fin (A.take p ++ y :: A.drop p) (by
    refine List.perm_middle.trans ?_
    rw [List.take_append_drop]
    exact(List.perm_append_singleton y A).symm) (by
    have hAA:Srt cf (A.take p++A.drop p):=by rw [List.take_append_drop];exact hA
    obtain⟨a1,a2,a3⟩:=Srt.app.1 hAA
    refine Srt.app.2 ⟨a1,List.pairwise_cons.2 ⟨λu hu=> ?_,a2⟩,λu hu w hw=> ?_⟩
    ·obtain⟨k,hk,e⟩:=oO hu
     obtain⟨z,hz⟩: ∃z,A[p]? =some z:=⟨_,List.getElem?_eq_getElem (by have:=(List.getElem?_eq_some_iff.1 e).1;omega)⟩
     exact G.ord.tr _ _ _ (G.ord.asym _ _ (q5 z (by rw [show Pr.length+p - Pr.length=p by omega];exact hz))) (hA.le_at G.ord hk hz e)
    ·have hux:¬ cf y u < 0:=by
      obtain⟨k,hk,e⟩:=oN hu
      obtain⟨z,hz⟩: ∃z,A[p - 1]? =some z:=⟨_,List.getElem?_eq_getElem (by omega)⟩
      exact G.ord.tr _ _ _ (hA.le_at G.ord (show k<=p - 1 by omega) e hz) (q4 z (by omega) (by rw [show Pr.length+p - 1 - Pr.length=p - 1 by omega];exact hz))
     rcases List.mem_cons.1 hw with rfl|hw
     ·exact hux
     ·exact a3 u hu w hw)
   clear fin q4 q5 hry hrA hh2
   ((conv=>whnf);repeat ((first|(intro hq;try simp only [lnS]at hq)|refine sI ?_|refine .intro _ (.intro rfl ?_));(conv=>whnf)))
   refine dE hty (λt:Nat=>([(0, .mw 70 16 N),(1, .d (.int .i64 (Pr.length:Nat))),(4, .fn g [] []),(14, .d (.int .i64 (Pr.length+p:Nat))),(17, .d (.int .i64 (Pr.length+t:Nat)))],(70, .mrow 48 16 cap (((Pr++A.take t)++y::(A.drop t++Q)).map saR))::rest)) (λt=>p<=t/\t<=A.length) (λt=>t) A.length ⟨hpl,Nat.le_refl _⟩ (by repeat' (first|exact trivial|exact rfl|exact fC (by(try dsimp only);omega)|refine And.intro ?_ ?_)) (by rw [hL,List.take_length,List.drop_length];simp) ?_
   rintro t ⟨ht,htA⟩
   dsimp only
   ((conv=>whnf);repeat ((first|(intro hq;try simp only [lnS]at hq)|refine sI ?_|refine .intro _ (.intro rfl ?_));(conv=>whnf)))
   refine aB (λh2=> ?_) (λh2=> ?_)
   ·have htB:t - 1 < A.length:=by omega
    obtain⟨t,rfl⟩: ∃t',t=t'+1:=⟨t - 1,by omega⟩
    rw [Nat.add_sub_cancel]at htB
    obtain⟨x,hx⟩: ∃x,x=A[t]:=⟨_,rfl⟩
    have hdB:A.drop t=x::A.drop (t+1):=by rw [hx];exact List.drop_eq_getElem_cons htB
    have htk:A.take (t+1)=A.take t++[x]:=by rw [hx];exact List.take_succ_eq_append_getElem htB
    have hUl:(Pr++A.take t).length=Pr.length+t:=by rw [List.length_append,List.length_take];omega
    have hl1:(Pr++A.take (t+1))++y::(A.drop (t+1)++Q)=(Pr++A.take t)++x::([]++y::(A.drop (t+1)++Q)):=by rw [htk];simp
    have r1:(((Pr++A.take (t+1))++y::(A.drop (t+1)++Q)).map saR)[((Pr.length+(t+1):Nat):Int).toNat]? =some (saR y):=gQ (U:=Pr++A.take (t+1)) (W:=A.drop (t+1)++Q) rfl (by rw [List.length_append,List.length_take];omega)
    have r2:(((Pr++A.take (t+1))++y::(A.drop (t+1)++Q)).map saR)[(((Pr.length+(t+1):Nat):Int) - 1).toNat]? =some (saR x):=gQ hl1 (by rw [hUl];omega)
    have hsw: ∀p q,p=((Pr.length+(t+1):Nat):Int).toNat->q=(((Pr.length+(t+1):Nat):Int) - 1).toNat->((((Pr++A.take (t+1))++y::(A.drop (t+1)++Q)).map saR).set p (saR x)).set q (saR y)=((Pr++A.take t)++y::(A.drop t++Q)).map saR:= λp q hp hq=>by
     rw [aCw (x:=x) (y:=y) (i:=q) (j:=p) hl1 (by rw [hUl];omega) (by rw [hUl];simp;omega),hdB]
     rfl
    have hML:(((Pr++A.take (t+1))++y::(A.drop (t+1)++Q)).map saR).length=N:=by
     simp only [List.length_map,List.length_append,List.length_cons,List.length_take,List.length_drop]
     omega
    generalize List.map saR ((Pr++A.take (t+1))++y::(A.drop (t+1)++Q))=M0 at r1 r2 hsw hML |-
    have r3:(M0.set ((Pr.length+(t+1):Nat):Int).toNat (saR x))[(((Pr.length+(t+1):Nat):Int) - 1).toNat]? =some (saR x):=by
     rw [List.getElem?_set_ne (by omega)];exact r2
    (conv=>whnf)
    refine fR hty [0,1,2,3,4,5,6,7,8,9,10,11,12,13,14,15,16,17] (by kernel_rfl) (by kernel_rfl) ?_
    ((conv=>whnf);repeat' ((first|(intro hq;(try simp only [lnS]at hq);(try rewrite [List.length_map]))|refine sJ ?_|refine .intro _ (.intro rfl ?_)|refine exL (k:= ?_)|(refine And.intro hML.symm ?_)|(refine And.intro ((List.length_set ..).trans hML).symm ?_)|(refine⟨_,r1, ?_⟩)|(refine⟨_,r2, ?_⟩)|(refine⟨_,r3, ?_⟩)|(refine And.intro (pT rfl) ?_)|refine dwR ?_|((first|refine aB ?_ ?_|refine aC ?_ ?_)<;>intro hb<;>(first|exact ddX hb|try simp only [lnS]at hb))|(refine aA ?_ ?_<;>intro hb<;>try exact dsX hb))<;>(conv=>whnf)))
    refine⟨t,by dsimp only;omega,by dsimp only;omega,(by repeat' (first|exact trivial|exact rfl|exact fC (by(try dsimp only);omega)|refine And.intro ?_ ?_)), ?_⟩
    have:=hsw _ _ rfl rfl
    show (70,HObj.mrow _ 16 cap ((M0.set ((Pr.length+(t+1):Nat):Int).toNat (saR x)).set (((Pr.length+(t+1):Nat):Int) - 1).toNat (saR y)))::rest=_
    rw [this]
   ·have hte:t=p:=by omega
    subst hte
    ((conv=>whnf);repeat' ((first|(intro hq;(try simp only [lnS]at hq);(try rewrite [List.length_map]))|refine sJ ?_|refine .intro _ (.intro rfl ?_)|refine exL (k:= ?_)|refine dwR ?_|((first|refine aB ?_ ?_|refine aC ?_ ?_)<;>intro hb<;>(first|exact ddX hb|try simp only [lnS]at hb))|(refine aA ?_ ?_<;>intro hb<;>try exact dsX hb))<;>(conv=>whnf)))
    have e:(Pr++A.take t)++y::(A.drop t++Q)=Pr++((A.take t++y::A.drop t)++Q):=by simp
    rw [e]
    exact hfin
 ·exfalso;omega
end Go.Proofs.YtfhoddcminbffaaGreatDoor
