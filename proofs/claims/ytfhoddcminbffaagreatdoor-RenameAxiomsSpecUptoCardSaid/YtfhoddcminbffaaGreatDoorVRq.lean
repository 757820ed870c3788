/-
  Terms: the reference's TidyAxiom, as a plain function. Terms: the reference's TidyAxiom. Rename: the reference's Less, Name and Check.
  Conditions: none.
-/
import Derived.Test.YtfhoddcminbffaaGreatDoorVDd
import Derived.Test.YtfhoddcminbffaaGreatDoorVBv
import Derived.Test.YtfhoddcminbffaaGreatDoorVDe
import Derived.Test.YtfhoddcminbffaaGreatDoorVRea
import Derived.Test.YtfhoddcminbffaaGreatDoorVRf
import Derived.Test.YtfhoddcminbffaaGreatDoorVDc
set_option linter.unnecessarySimpa false
set_option linter.unusedSectionVars false
set_option linter.unusedSimpArgs false
set_option linter.unusedVariables false
set_option maxHeartbeats 32000000
namespace Go.Proofs.YtfhoddcminbffaaGreatDoor
open Go.Proofs
set_option maxRecDepth 10000
attribute [local irreducible] aV aM Tri aI YVC dQ bN
theorem jF {c:Cn}(h:bI c=0):c.kind≠0:=by
 have h1:=(cX h).2.2 c (by rw [eN];simp)
 unfold bJ at h1
 split at h1
 ·simp at h1
 ·omega
def fU (c:Cn):Cn×Int:=if c.kind≠0 then aL c else (c0,0)
theorem aAn {b:Bool}{c:Cn}(h:(b || eF c)=true) (h0:b=true->bI c=0):fV b c=fU c:=by
 unfold fV fU
 cases b
 ·have e:c=c0:=aBd (by simpa using h)
  subst e
  simp [c0,Cn.kind]
 ·rw [if_pos rfl,if_pos (jF (h0 rfl))]
theorem aE5 {x:Ax}(h:bK x=0):bO x=if (fU x.left).2≠0 then (a0,(fU x.left).2)
  else if (fU x.right).2≠0 then (a0,(fU x.right).2)
  else if (x.kind=2\/x.kind=3)/\0 < fX (fU x.left).1 (fU x.right).1 then ({ x with left:=(fU x.right).1,right:=(fU x.left).1 },0)
  else ({ x with left:=(fU x.left).1,right:=(fU x.right).1 },0):=by
 obtain⟨_,hs,hn,hl,hr,_⟩:=(kX x).1 h
 unfold bG at hs
 simp only [Bool.and_eq_true]at hs
 have e1:=aAn hs.1 hl
 have e2:=aAn hs.2.1 hr
 unfold bO
 rw [if_neg (by omega)]
 unfold wN
 rw [e1,e2]
theorem aH4 {x:Ax}(h:bK x=0):(x.left.kind≠0->aQ x.left<=64/\Okn x.left)/\(x.right.kind≠0->aQ x.right<=64/\Okn x.right):=by
 obtain⟨_,hs,hn,hl,hr,_⟩:=(kX x).1 h
 unfold bG at hs
 simp only [Bool.and_eq_true]at hs
 have key: ∀{b:Bool} {c:Cn},(b || eF c)=true->(b=true->bI c=0)->c.kind≠0->aQ c<=64/\Okn c:=by
  intro b c h1 h2 hk
  cases b
  ·have e:c=c0:=aBd (by simpa using h1)
   rw [e]at hk
   exact absurd rfl hk
  ·have:=(fQ c).1 (h2 rfl)
   exact⟨this.2.1,this.2.2⟩
 exact⟨key hs.1 hl,key hs.2.1 hr⟩
end Go.Proofs.YtfhoddcminbffaaGreatDoor
namespace Go.Proofs.YtfhoddcminbffaaGreatDoor
open Go.Proofs
set_option maxRecDepth 10000
attribute [local irreducible] aV aM Tri aI YVC dQ bN
theorem wkA (x : Ax) (p q : D) (hp : WkD p (cnl x.left.parts)) (hq : WkD q (cnl x.right.parts)) : PairA x 0 (.tup [.d (.agg [.int .i64 x.kind, .bool x.isopen, .int .i64 x.left.kind, .str x.left.name, .int .i64 x.left.lo, .int .i64 x.left.hi, p,
  .int .i64 x.right.kind, .str x.right.name, .int .i64 x.right.lo, .int .i64 x.right.hi,q,aLt x.roles, .str x.role, .str x.a, .str x.b]), .d (.int .i64 0)]):=by
 refine⟨_,rfl, .inr ?_⟩
 exact⟨rfl,rfl,rfl,rfl,rfl,rfl,hp,rfl,rfl,rfl,rfl,hq,qA _,rfl,rfl,rfl,trivial⟩
theorem tF (c:Cn):aQ (fU c).1<=aQ c:=by
 unfold fU
 split
 ·exact fE c
 ·have:=bY c
  rw [vF];omega
theorem tN {c:Cn}(hk:c.kind≠0) (h:aQ c<=64/\Okn c):Tri Tryz.prog 91 [.d (.agg (cnR c))] [] (λr=>r= .tup [.d (.agg (cnR (fU c).1)), .d (.int .i64 (fU c).2)]):=by
 have:=aCa c (by omega) h.2
 unfold fU
 rw [if_pos hk]
 exact this
theorem qP (x:Ax) (h1:aQ x.left<=1000000) (h2:aQ x.right<=1000000):Tri Tryz.prog 45 [.d (.agg (axR x))] [] (λr=>r= .tup [.d (.agg (axR (bO x).1)), .d (.int .i64 (bO x).2)]):=by
 refine Tri.pairA ?_
 have hc:=jI x h1 h2
 refine aH false [1] hty Tryz.func45 rfl (kp [0,1,2,3,4,5,9,32,41,47,56,74]) [] _ _ _ (by simp [Tryz.f45]) (by simp) ?_
 ((conv=>whnf);repeat ((first|(refine aG [] hc trivial (λr hs=> ?_);subst hs)|(intro hq;try simp only [lnS]at hq)|refine sI ?_|refine .intro _ (.intro rfl ?_));(conv=>whnf)))
 refine aF (λh3=> ?_) (λh3=> ?_)
 ·have e:bO x=(a0,bK x):=by unfold bO;rw [if_pos h3]
  rw [e]
  ((conv=>whnf);repeat' ((first|(intro hq;(try simp only [lnS]at hq);(try rewrite [List.length_map]))|refine sJ ?_|refine .intro _ (.intro rfl ?_)|refine exL (k:= ?_)|refine dwR ?_|((first|refine aD ?_ ?_|refine aF ?_ ?_)<;>intro hb<;>(first|exact ddX hb|try simp only [lnS]at hb))|(refine aC ?_ ?_<;>intro hb<;>try exact dsX hb))<;>(conv=>whnf)))
  exact wI _
 ·have h3:bK x=0:=by simpa using h3
  obtain⟨b1,b2,b3⟩:=kY h3
  obtain⟨o1,o2⟩:=aH4 h3
  have hL:= λh=>tN h (o1 h)
  have hR:= λh=>tN h (o2 h)
  have z1:x.left.kind=0->fU x.left=(c0,0):= λh=>by unfold fU;rw [if_neg (by omega)]
  have z2:x.right.kind=0->fU x.right=(c0,0):= λh=>by unfold fU;rw [if_neg (by omega)]
  have hk2:(x.kind=2\/x.kind=3)->x.left.kind≠0/\x.right.kind≠0:=by
   intro h
   have h0:=(rX h3).2
   have hu:(cK x.kind).left=true/\(cK x.kind).right=true:=by
    rcases h with h|h<;>rw [h]<;>exact⟨rfl,rfl⟩
   exact⟨jF (h0.1 hu.1),jF (h0.2 hu.2)⟩
  have s1:=tF x.left
  have s2:=tF x.right
  have hcmp:=gD (fU x.left).1 (fU x.right).1 (by omega) (by omega)
  have hT:=aE5 h3
  obtain⟨L,e,hLe⟩: ∃L e,fU x.left=(L,e):=⟨_,_,rfl⟩
  obtain⟨R,f,hRe⟩: ∃R f,fU x.right=(R,f):=⟨_,_,rfl⟩
  rw [hLe]at hL z1 hcmp hT
  rw [hRe]at hR z2 hcmp hT
  dsimp only at hL hR hcmp hT
  rw [hT]
  rw [aJ,aJ]at hcmp
  rw [aJ,aJ L]at hL
  rw [aJ,aJ R]at hR
  have hrl:(x.roles.map dR).length=x.roles.length:=List.length_map ..
  clear hT hLe hRe s1 s2 o1 o2 hc
  generalize bO x=T at *
  have hb63:(x.roles.map dR).length<=9223372036854775807:=by rw [hrl];omega
  have hb48:(x.roles.map dR).length * 16<=140737488355328:=by rw [hrl];omega
  ((conv=>whnf);repeat ((first|(refine And.intro hb63 ?_)|(refine And.intro hb48 ?_)|(intro hq;try simp only [lnS]at hq)|refine sI ?_|refine .intro _ (.intro rfl ?_));(conv=>whnf)))
  refine aF (λh4=> ?_) (λh4=> ?_)
  ·((conv=>whnf);repeat ((first|(refine aG [] (hL h4) trivial (λr hs=> ?_);subst hs)|(intro hq;try simp only [lnS]at hq)|refine sI ?_|refine .intro _ (.intro rfl ?_));(conv=>whnf)))
   refine aF (λh5=> ?_) (λh5=> ?_)
   ·rw [if_pos h5]
    ((conv=>whnf);repeat' ((first|(intro hq;(try simp only [lnS]at hq);(try rewrite [List.length_map]))|refine sJ ?_|refine .intro _ (.intro rfl ?_)|refine exL (k:= ?_)|refine dwR ?_|((first|refine aD ?_ ?_|refine aF ?_ ?_)<;>intro hb<;>(first|exact ddX hb|try simp only [lnS]at hb))|(refine aC ?_ ?_<;>intro hb<;>try exact dsX hb))<;>(conv=>whnf)))
    exact wI _
   ·have h5:e=0:=by simpa using h5
    rw [if_neg (by omega)]
    ((conv=>whnf);repeat ((first|(intro hq;try simp only [lnS]at hq)|refine sI ?_|refine .intro _ (.intro rfl ?_));(conv=>whnf)))
    refine aF (λh6=> ?_) (λh6=> ?_)
    ·((conv=>whnf);repeat ((first|(refine aG [] (hR h6) trivial (λr hs=> ?_);subst hs)|(intro hq;try simp only [lnS]at hq)|refine sI ?_|refine .intro _ (.intro rfl ?_));(conv=>whnf)))
     refine aF (λh7=> ?_) (λh7=> ?_)
     ·rw [if_pos h7]
      ((conv=>whnf);repeat' ((first|(intro hq;(try simp only [lnS]at hq);(try rewrite [List.length_map]))|refine sJ ?_|refine .intro _ (.intro rfl ?_)|refine exL (k:= ?_)|refine dwR ?_|((first|refine aD ?_ ?_|refine aF ?_ ?_)<;>intro hb<;>(first|exact ddX hb|try simp only [lnS]at hb))|(refine aC ?_ ?_<;>intro hb<;>try exact dsX hb))<;>(conv=>whnf)))
      exact wI _
     ·have h7:f=0:=by simpa using h7
      rw [if_neg (by omega)]
      ((conv=>whnf);repeat' ((first|(intro hq;(try simp only [lnS]at hq);(try rewrite [List.length_map]))|refine sJ ?_|refine .intro _ (.intro rfl ?_)|refine exL (k:= ?_)|(refine aG [] hcmp trivial (λr hs=> ?_);subst hs)|refine dwR ?_|((first|refine aD ?_ ?_|refine aF ?_ ?_)<;>intro hb<;>(first|exact ddX hb|try simp only [lnS]at hb))|(refine aC ?_ ?_<;>intro hb<;>try exact dsX hb))<;>(conv=>whnf)))
      all_goals first
       |(rw [if_pos ⟨by omega,by assumption⟩];exact zC { x with left:=R,right:=L } 0)
       |(rw [if_neg (by omega)];exact zC { x with left:=L,right:=R } 0)
    ·have h6:x.right.kind=0:=by simpa using h6
     have e2:=z2 h6
     injection e2 with e3 e4
     subst e3
     subst e4
     have hn2:¬ x.kind=2:= λh=>(hk2 (.inl h)).2 h6
     have hn3:¬ x.kind=3:= λh=>(hk2 (.inr h)).2 h6
     rw [if_neg (by omega),if_neg (by omega)]
     ((conv=>whnf);repeat' ((first|(intro hq;(try simp only [lnS]at hq);(try rewrite [List.length_map]))|refine sJ ?_|refine .intro _ (.intro rfl ?_)|refine exL (k:= ?_)|refine dwR ?_|((first|refine aD ?_ ?_|refine aF ?_ ?_)<;>intro hb<;>(first|exact ddX hb|try simp only [lnS]at hb))|(refine aC ?_ ?_<;>intro hb<;>try exact dsX hb))<;>(conv=>whnf)))
     exact wkA { x with left:=L,right:=c0 } _ _ (qA _) rfl
  ·have h4:x.left.kind=0:=by simpa using h4
   have e2:=z1 h4
   injection e2 with e3 e4
   subst e3
   subst e4
   have hn2:¬ x.kind=2:= λh=>(hk2 (.inl h)).1 h4
   have hn3:¬ x.kind=3:= λh=>(hk2 (.inr h)).1 h4
   rw [if_neg (by omega)]
   ((conv=>whnf);repeat ((first|(intro hq;try simp only [lnS]at hq)|refine sI ?_|refine .intro _ (.intro rfl ?_));(conv=>whnf)))
   refine aF (λh6=> ?_) (λh6=> ?_)
   ·((conv=>whnf);repeat ((first|(refine aG [] (hR h6) trivial (λr hs=> ?_);subst hs)|(intro hq;try simp only [lnS]at hq)|refine sI ?_|refine .intro _ (.intro rfl ?_));(conv=>whnf)))
    refine aF (λh7=> ?_) (λh7=> ?_)
    ·rw [if_pos h7]
     ((conv=>whnf);repeat' ((first|(intro hq;(try simp only [lnS]at hq);(try rewrite [List.length_map]))|refine sJ ?_|refine .intro _ (.intro rfl ?_)|refine exL (k:= ?_)|refine dwR ?_|((first|refine aD ?_ ?_|refine aF ?_ ?_)<;>intro hb<;>(first|exact ddX hb|try simp only [lnS]at hb))|(refine aC ?_ ?_<;>intro hb<;>try exact dsX hb))<;>(conv=>whnf)))
     exact wI _
    ·have h7:f=0:=by simpa using h7
     rw [if_neg (by omega),if_neg (by omega)]
     ((conv=>whnf);repeat' ((first|(intro hq;(try simp only [lnS]at hq);(try rewrite [List.length_map]))|refine sJ ?_|refine .intro _ (.intro rfl ?_)|refine exL (k:= ?_)|refine dwR ?_|((first|refine aD ?_ ?_|refine aF ?_ ?_)<;>intro hb<;>(first|exact ddX hb|try simp only [lnS]at hb))|(refine aC ?_ ?_<;>intro hb<;>try exact dsX hb))<;>(conv=>whnf)))
     exact wkA { x with left:=c0,right:=R } _ _ rfl (qA _)
   ·have h6:x.right.kind=0:=by simpa using h6
    have e2:=z2 h6
    injection e2 with e3 e4
    subst e3
    subst e4
    rw [if_neg (by omega),if_neg (by omega)]
    ((conv=>whnf);repeat' ((first|(intro hq;(try simp only [lnS]at hq);(try rewrite [List.length_map]))|refine sJ ?_|refine .intro _ (.intro rfl ?_)|refine exL (k:= ?_)|refine dwR ?_|((first|refine aD ?_ ?_|refine aF ?_ ?_)<;>intro hb<;>(first|exact ddX hb|try simp only [lnS]at hb))|(refine aC ?_ ?_<;>intro hb<;>try exact dsX hb))<;>(conv=>whnf)))
    exact wkA { x with left:=c0,right:=c0 } _ _ rfl rfl
end Go.Proofs.YtfhoddcminbffaaGreatDoor
namespace Go.Proofs.YtfhoddcminbffaaGreatDoor
open Go.Proofs
set_option maxRecDepth 10000
attribute [local irreducible] aV aM Tri aI YVC dQ bN
theorem kQ (s:List UInt8):Tri Tryz.prog 49 [.d (.str s)] [] (λr=>r= .d (.bool (rnN s))):=by
 have c:=qR s
 unfold rnN
 cases s with
 |nil=>
  rw [show gZ []=false by kernel_rfl]
  refine aH false [] hty Tryz.func49 rfl (kp [0,2]) [] _ _ _ (by simp [Tryz.f49]) (by simp) ?_
  ((conv=>whnf);repeat' ((first|(intro hq;(try simp only [lnS]at hq);(try rewrite [List.length_map]))|refine sJ ?_|refine .intro _ (.intro rfl ?_)|refine exL (k:= ?_)|refine dwR ?_|((first|refine aD ?_ ?_|refine aF ?_ ?_)<;>intro hb<;>(first|exact ddX hb|try simp only [lnS]at hb))|(refine aC ?_ ?_<;>intro hb<;>try exact dsX hb))<;>(conv=>whnf)))
  all_goals first
   |rfl
   |(exfalso;simp_all;done)
 |cons a r=>
  rw [List.head?_cons]
  generalize gZ (a::r)=b at *
  refine aH false [] hty Tryz.func49 rfl (kp [0,2]) [] _ _ _ (by simp [Tryz.f49]) (by simp) ?_
  ((conv=>whnf);repeat' ((first|(intro hq;(try simp only [lnS]at hq);(try rewrite [List.length_map]))|refine sJ ?_|refine .intro _ (.intro rfl ?_)|refine exL (k:= ?_)|(refine aG [] c trivial (λr hs=> ?_);subst hs)|refine dwR ?_|((first|refine aD ?_ ?_|refine aF ?_ ?_)<;>intro hb<;>(first|exact ddX hb|try simp only [lnS]at hb))|(refine aC ?_ ?_<;>intro hb<;>try exact dsX hb))<;>(conv=>whnf)))
  ·have hb:¬ ((a.toNat:Nat):Int)=95:=hb
   refine bA ?_
   have h9:¬ a=95:= λe=>hb (by rw [e];rfl)
   cases b<;>simp [h9]
  ·have hb:((a.toNat:Nat):Int)=95:=hb
   refine bA ?_
   have h9:a=95:=UInt8.toNat_inj.1 (by have e:(95:UInt8).toNat=95:=rfl;omega)
   simp [h9]
theorem aIb (a b:Int):iV a b < 0↔a < b:=by
 unfold iV;split
 ·simp;assumption
 ·split<;>simp<;>omega
theorem aC5 (x y:Rn):Tri Tryz.prog 50 [.d (.agg (rnR x)), .d (.agg (rnR y))] [] (λr=>r= .d (.bool (decide (dT x y < 0)))):=by
 refine aH false [2,3] hty Tryz.func50 rfl (kp [0,1,2,3,4,9]) [] _ _ _ (by simp [Tryz.f50]) (by simp) ?_
 ((conv=>whnf);repeat' ((first|(intro hq;(try simp only [lnS]at hq);(try rewrite [List.length_map]))|refine sJ ?_|refine .intro _ (.intro rfl ?_)|refine exL (k:= ?_)|refine dwR ?_|((first|refine aD ?_ ?_|refine aF ?_ ?_)<;>intro hb<;>(first|exact ddX hb|try simp only [lnS]at hb))|(refine aC ?_ ?_<;>intro hb<;>try exact dsX hb))<;>(conv=>whnf)))
 ·refine bA (decide_eq_decide.2 ?_)
  unfold dT
  rw [eM,lex,if_pos (by rw [ne_eq,iQ];exact hb)]
  exact(aIb _ _).symm
 ·refine bA ?_
  rw [eG]
  refine decide_eq_decide.2 ?_
  unfold dT
  rw [eM,lex,if_neg (by rw [ne_eq,iQ];simpa using hb),eM,lex]
  split
  ·exact Iff.rfl
  ·rename_i h;rw [show orF []=0 from rfl];omega
theorem lK (l:List Rn) (k:Int) (s:List UInt8):Tri Tryz.prog 16 [.d (rnL l), .d (.int .i64 k), .d (.str s)] [] (λr=>r= .d (.str (aO l k s))):=by
 refine aH false [] hty Tryz.func16 rfl (kp [0,1,2,6,7,11,29]) [] _ _ _ (by simp [Tryz.f16]) (by simp) ?_
 ((conv=>whnf);repeat ((first|(intro hq;try simp only [lnS]at hq)|refine sI ?_|refine .intro _ (.intro rfl ?_));(conv=>whnf)))
 refine aK hty (λj:Nat=>([(0, .d (rnL l)),(1, .d (.int .i64 k)),(2, .d (.str s)),(7, .d (.int .i64 j))],[])) (λj=>j<=l.length/\aO l k s=aO (l.drop j) k s) (λj=>l.length - j) 0 ⟨by omega,rfl⟩ ⟨by repeat' (first|exact trivial|exact rfl|(rw [List.length_map];exact rfl)|refine And.intro ?_ ?_),trivial⟩ ?_
 rintro j ⟨hj,hn⟩
 ((conv=>whnf);repeat ((first|(intro hq;try simp only [lnS]at hq)|refine sI ?_|refine .intro _ (.intro rfl ?_));(conv=>whnf)))
 refine aD (λh1=> ?_) (λh1=> ?_)
 ·have hjl:j < l.length:=by have h1:(j:Int) < ((l.map rnR).length:Nat):=h1;rw [List.length_map]at h1;omega
  have hrow:(l.map rnR)[(j:Int).toNat]? =some (rnR l[j]):=aS hjl
  rw [List.drop_eq_getElem_cons hjl]at hn
  generalize l[j]=x at hrow hn
  ((conv=>whnf);repeat' ((first|(intro hq;(try simp only [lnS]at hq);(try rewrite [List.length_map]))|refine sJ ?_|refine .intro _ (.intro rfl ?_)|refine exL (k:= ?_)|(refine⟨_,hrow, ?_⟩)|refine dwR ?_|((first|refine aD ?_ ?_|refine aF ?_ ?_)<;>intro hb<;>(first|exact ddX hb|try simp only [lnS]at hb))|(refine aC ?_ ?_<;>intro hb<;>try exact dsX hb))<;>(conv=>whnf)))
  ·rw [hn,aO,List.find?_cons_of_pos (by simp_all)]
   rfl
  all_goals (
   refine⟨j+1,⟨by(try dsimp only);omega, ?_⟩,by(try dsimp only);omega,⟨by repeat' (first|exact trivial|exact rfl|refine And.intro ?_ ?_),by repeat' (first|exact trivial|exact rfl|refine And.intro ?_ ?_)⟩⟩
   rw [hn,aO,List.find?_cons_of_neg (by simp_all)]
   rfl)
 ·have hjl:j=l.length:=by have h1:¬ (j:Int) < ((l.map rnR).length:Nat):=h1;rw [List.length_map]at h1;omega
  subst hjl
  rw [List.drop_length]at hn
  ((conv=>whnf);repeat' ((first|(intro hq;(try simp only [lnS]at hq);(try rewrite [List.length_map]))|refine sJ ?_|refine .intro _ (.intro rfl ?_)|refine exL (k:= ?_)|refine dwR ?_|((first|refine aD ?_ ?_|refine aF ?_ ?_)<;>intro hb<;>(first|exact ddX hb|try simp only [lnS]at hb))|(refine aC ?_ ?_<;>intro hb<;>try exact dsX hb))<;>(conv=>whnf)))
  rw [hn]
  rfl
theorem aJh {α:Type}{R:α->α->Prop}(tr: ∀x y z,R x y->R y z->R x z) {l:List α}{j:Nat}(hj:j < l.length) (h:(l.take j).Pairwise R) (h2: ∀h0:0 < j,R (l[j - 1]'(by omega)) l[j]):(l.take (j+1)).Pairwise R:=by
 rw [List.take_succ_eq_append_getElem hj,List.pairwise_append]
 refine⟨h,by simp,λa ha b hb=> ?_⟩
 simp only [List.mem_singleton]at hb
 subst hb
 have h0:0 < j:=by
  rcases Nat.eq_zero_or_pos j with rfl|h0
  ·simp at ha
  ·exact h0
 have hl:=h2 h0
 obtain⟨i,hi,rfl⟩:=List.mem_iff_getElem.1 ha
 rw [List.length_take]at hi
 rw [List.getElem_take]
 by_cases e:i=j - 1
 ·subst e;exact hl
 ·have hp:=List.pairwise_iff_getElem.1 h i (j - 1) (by rw [List.length_take];omega) (by rw [List.length_take];omega) (by omega)
  rw [List.getElem_take,List.getElem_take]at hp
  exact tr _ _ _ hp hl
theorem oK (l:List Rn):Tri Tryz.prog 13 [.d (rnL l)] [] (λr=>r= .d (.int .i64 (cD l))):=by
 refine aH false [4] hty Tryz.func13 rfl (kp [0,2,3,4,5,6,9,13,46,58,62,67,93]) [] _ _ _ (by simp [Tryz.f13]) (by simp) ?_
 ((conv=>whnf);repeat ((first|(intro hq;try simp only [lnS]at hq)|refine sI ?_|refine .intro _ (.intro rfl ?_));(conv=>whnf)))
 refine aD (λh1=> ?_) (λh1=> ?_)
 ·have h1:1024 < (l.map rnR).length:=by omega
  rw [List.length_map]at h1
  rw [cD,if_pos h1]
  ((conv=>whnf);repeat' ((first|(intro hq;(try simp only [lnS]at hq);(try rewrite [List.length_map]))|refine sJ ?_|refine .intro _ (.intro rfl ?_)|refine exL (k:= ?_)|refine dwR ?_|((first|refine aD ?_ ?_|refine aF ?_ ?_)<;>intro hb<;>(first|exact ddX hb|try simp only [lnS]at hb))|(refine aC ?_ ?_<;>intro hb<;>try exact dsX hb))<;>(conv=>whnf)))
  rfl
 have hl:l.length<=1024:=by have h1:¬ 1024 < ((l.map rnR).length:Int):=h1;rw [List.length_map]at h1;omega
 have hbad:¬ Good l->SV.d (.int .i64 330)=SV.d (.int .i64 (cD l)):= λh=>by rw [aDc hl h]
 ((conv=>whnf);repeat ((first|(intro hq;try simp only [lnS]at hq)|refine sI ?_|refine .intro _ (.intro rfl ?_));(conv=>whnf)))
 refine aK hty (λj:Nat=>([(0, .d (rnL l)),(3, .d (.int .i64 j))],[])) (λj=>j<=l.length/\(∀r∈l.take j,rnV r=true)/\(l.take j).Pairwise λa b=>dT a b < 0) (λj=>l.length - j) 0 ⟨by omega,by simp,by simp⟩ ⟨by repeat' (first|exact trivial|exact rfl|refine And.intro ?_ ?_),by repeat' (first|exact trivial|exact rfl|refine And.intro ?_ ?_)⟩ ?_
 rintro j ⟨hj,iv,ip⟩
 ((conv=>whnf);repeat ((first|(intro hq;try simp only [lnS]at hq)|refine sI ?_|refine .intro _ (.intro rfl ?_));(conv=>whnf)))
 refine aD (λh2=> ?_) (λh2=> ?_)
 ·have hjl:j < l.length:=by have h2:(j:Int) < ((l.map rnR).length:Nat):=h2;rw [List.length_map]at h2;omega
  have hrow:(l.map rnR)[(j:Int).toNat]? =some (rnR l[j]):=aS hjl
  have hgv:Good l->rnV l[j]=true:= λg=>g.val _ (List.getElem_mem hjl)
  have hiv:rnV l[j]=true-> ∀r∈l.take (j+1),rnV r=true:= λh r hr=>by
   rw [List.take_succ_eq_append_getElem hjl]at hr
   rcases List.mem_append.1 hr with hr|hr
   ·exact iv r hr
   ·simp only [List.mem_singleton]at hr;rw [hr];exact h
  have hip:=aJh (R:= λa b=>dT a b < 0) (λa b d h1 h2=>rV h1 h2) hjl ip
  by_cases j0:j=0
  ·have hgs:Good l->True:= λ_=>trivial
   replace hip:= λ(_:True)=>hip (λh=>absurd j0 (by omega))
   generalize l[j]=x at *
   have n1:=kQ x.old
   have n2:=kQ x.new
   have hv:rnV x=(decide (1<=x.kind) && (decide (x.kind<=4) && (rnN x.old && (rnN x.new && !decide (x.old=x.new))))):=rfl
   generalize rnN x.old=b1 at *
   generalize rnN x.new=b2 at *
   have lt:=trivial
   ((conv=>whnf);repeat' ((first|(intro hq;(try simp only [lnS]at hq);(try rewrite [List.length_map]))|refine sJ ?_|refine .intro _ (.intro rfl ?_)|refine exL (k:= ?_)|(refine⟨_,hrow, ?_⟩)|(refine aG [] n1 trivial (λr hs=> ?_);subst hs)|(refine aG [] n2 trivial (λr hs=> ?_);subst hs)|refine dwR ?_|((first|refine aD ?_ ?_|refine aF ?_ ?_)<;>intro hb<;>(first|exact ddX hb|try simp only [lnS]at hb))|(refine aC ?_ ?_<;>intro hb<;>try exact dsX hb))<;>(conv=>whnf)))
   all_goals first
    | (refine hbad (λg => ?_)
       have g1:=hgv g
       have g2:=hgs g
       rw [hv]at g1
       clear hbad hgv hgs hiv hip lt n1 n2 hrow hv
       simp only [Bool.and_eq_true,decide_eq_true_eq,Bool.not_eq_true',decide_eq_false_iff_not]at g1
       first
         |omega
         |(simp_all;done)
         |(exact g1.2.2.2.2 (by assumption)))
    | (have g1 : rnV x = true := by
         rw [hv]
         clear hbad hgv hgs hiv hip lt n1 n2 hrow hv
         simp only [Bool.and_eq_true,decide_eq_true_eq,Bool.not_eq_true',decide_eq_false_iff_not]
         refine⟨by omega,by omega,by simp_all,by simp_all,by assumption⟩
       exact⟨j+1,⟨by(try dsimp only);omega,hiv g1,hip (by first|assumption|(exfalso;omega))⟩,by(try dsimp only);omega,⟨by repeat' (first|exact trivial|exact rfl|refine And.intro ?_ ?_),by repeat' (first|exact trivial|exact rfl|refine And.intro ?_ ?_)⟩⟩)
  ·have hjp:j - 1 < l.length:=by omega
   have hrow2:(l.map rnR)[((j:Int) - 1).toNat]? =some (rnR l[j - 1]):=by
    rw [show ((j:Int) - 1).toNat=j - 1 by omega,List.getElem?_map,List.getElem?_eq_getElem hjp];rfl
   have hgs:Good l->dT l[j - 1] l[j] < 0:= λg=>List.pairwise_iff_getElem.1 g.str (j - 1) j hjp hjl (by omega)
   replace hip:= λ(h:dT l[j - 1] l[j] < 0)=>hip (λ_=>h)
   have lt:=aC5 l[j - 1] l[j]
   generalize l[j - 1]=q at *
   generalize l[j]=x at *
   have n1:=kQ x.old
   have n2:=kQ x.new
   have hv:rnV x=(decide (1<=x.kind) && (decide (x.kind<=4) && (rnN x.old && (rnN x.new && !decide (x.old=x.new))))):=rfl
   generalize rnN x.old=b1 at *
   generalize rnN x.new=b2 at *
   generalize dT q x=c at *
   ((conv=>whnf);repeat' ((first|(intro hq;(try simp only [lnS]at hq);(try rewrite [List.length_map]))|refine sJ ?_|refine .intro _ (.intro rfl ?_)|refine exL (k:= ?_)|(refine⟨_,hrow, ?_⟩)|(refine aG [] n1 trivial (λr hs=> ?_);subst hs)|(refine aG [] n2 trivial (λr hs=> ?_);subst hs)|(refine⟨_,hrow2, ?_⟩)|(refine⟨.d (.bool _),_,[],rfl,trivial,lt, ?_⟩)|refine dwR ?_|((first|refine aD ?_ ?_|refine aF ?_ ?_)<;>intro hb<;>(first|exact ddX hb|try simp only [lnS]at hb))|(refine aC ?_ ?_<;>intro hb<;>try exact dsX hb))<;>(conv=>whnf)))
   all_goals first
    | (refine hbad (λg => ?_)
       have g1:=hgv g
       have g2:=hgs g
       rw [hv]at g1
       clear hbad hgv hgs hiv hip lt n1 n2 hrow hv
       simp only [Bool.and_eq_true,decide_eq_true_eq,Bool.not_eq_true',decide_eq_false_iff_not]at g1
       first
         |omega
         |(simp_all;done)
         |(exact g1.2.2.2.2 (by assumption)))
    | (have g1 : rnV x = true := by
         rw [hv]
         clear hbad hgv hgs hiv hip lt n1 n2 hrow hv
         simp only [Bool.and_eq_true,decide_eq_true_eq,Bool.not_eq_true',decide_eq_false_iff_not]
         refine⟨by omega,by omega,by simp_all,by simp_all,by assumption⟩
       exact⟨j+1,⟨by(try dsimp only);omega,hiv g1,hip (by first|assumption|(exfalso;omega))⟩,by(try dsimp only);omega,⟨by repeat' (first|exact trivial|exact rfl|refine And.intro ?_ ?_),by repeat' (first|exact trivial|exact rfl|refine And.intro ?_ ?_)⟩⟩)
 have hjl:j=l.length:=by have h2:¬ (j:Int) < ((l.map rnR).length:Nat):=h2;rw [List.length_map]at h2;omega
 subst hjl
 rw [List.take_length]at iv ip
 ((conv=>whnf);repeat ((first|(intro hq;try simp only [lnS]at hq)|refine sI ?_|refine .intro _ (.intro rfl ?_));(conv=>whnf)))
 refine aK hty (λj:Nat=>([(0, .d (rnL l)),(5, .d (.int .i64 j))],[])) (λj=>j<=l.length/\((l.take j).map jZ).Nodup) (λj=>l.length - j) 0 ⟨by omega,by simp⟩ ⟨by repeat' (first|exact trivial|exact rfl|refine And.intro ?_ ?_),by repeat' (first|exact trivial|exact rfl|refine And.intro ?_ ?_)⟩ ?_
 rintro j ⟨hj,ik⟩
 ((conv=>whnf);repeat ((first|(intro hq;try simp only [lnS]at hq)|refine sI ?_|refine .intro _ (.intro rfl ?_));(conv=>whnf)))
 refine aD (λh2=> ?_) (λh2=> ?_)
 ·have hjl:j < l.length:=by have h2:(j:Int) < ((l.map rnR).length:Nat):=h2;rw [List.length_map]at h2;omega
  have hrow:(l.map rnR)[(j:Int).toNat]? =some (rnR l[j]):=aS hjl
  have hik:(∀r∈l.take j,jZ r≠jZ l[j])->((l.take (j+1)).map jZ).Nodup:= λh=>by
   rw [List.take_succ_eq_append_getElem hjl,List.map_append,List.nodup_append]
   refine⟨ik,by simp,λa ha b hb=> ?_⟩
   obtain⟨r,hr,rfl⟩:=List.mem_map.1 ha
   simp only [List.map_cons,List.map_nil,List.mem_singleton]at hb
   rw [hb]
   exact h r hr
  have hgk: ∀k,(h:k < j)->jZ (l[k]'(by omega))=jZ l[j]->¬ Good l:= λk h e g=>by
   have:=List.pairwise_iff_getElem.1 g.nod k j (by rw [List.length_map];omega) (by rw [List.length_map];omega) h
   rw [List.getElem_map,List.getElem_map]at this
   exact this e
  ((conv=>whnf);repeat ((first|(intro hq;try simp only [lnS]at hq)|refine sI ?_|refine .intro _ (.intro rfl ?_));(conv=>whnf)))
  refine aK hty (λk:Nat=>([(0, .d (rnL l)),(5, .d (.int .i64 j)),(6, .d (.int .i64 k))],[])) (λk=>k<=j/\ ∀r∈l.take k,jZ r≠jZ l[j]) (λk=>j - k) 0 ⟨by omega,by simp⟩ ⟨by repeat' (first|exact trivial|exact rfl|refine And.intro ?_ ?_),by repeat' (first|exact trivial|exact rfl|refine And.intro ?_ ?_)⟩ ?_
  rintro k ⟨hk,ih⟩
  ((conv=>whnf);repeat ((first|(intro hq;try simp only [lnS]at hq)|refine sI ?_|refine .intro _ (.intro rfl ?_));(conv=>whnf)))
  refine aD (λh3=> ?_) (λh3=> ?_)
  ·have hkj:k < j:=by omega
   have hkl:k < l.length:=by omega
   have hrow2:(l.map rnR)[(k:Int).toNat]? =some (rnR l[k]):=aS hkl
   replace hgk:=hgk k hkj
   have hih:¬ jZ l[k]=jZ l[j]-> ∀r∈l.take (k+1),jZ r≠jZ l[j]:= λh r hr=>by
    rw [List.take_succ_eq_append_getElem hkl]at hr
    rcases List.mem_append.1 hr with hr|hr
    ·exact ih r hr
    ·simp only [List.mem_singleton]at hr;rw [hr];exact h
   generalize l[j]=x at *
   generalize l[k]=y at *
   ((conv=>whnf);repeat' ((first|(intro hq;(try simp only [lnS]at hq);(try rewrite [List.length_map]))|refine sJ ?_|refine .intro _ (.intro rfl ?_)|refine exL (k:= ?_)|(refine⟨_,hrow, ?_⟩)|(refine⟨_,hrow2, ?_⟩)|refine dwR ?_|((first|refine aD ?_ ?_|refine aF ?_ ?_)<;>intro hb<;>(first|exact ddX hb|try simp only [lnS]at hb))|(refine aC ?_ ?_<;>intro hb<;>try exact dsX hb))<;>(conv=>whnf)))
   all_goals first
    | (refine hbad (hgk ?_)
       unfold jZ
       rw [Prod.mk.injEq]
       exact⟨by simp_all,by simp_all⟩)
    | (refine ⟨k + 1, ⟨by (try dsimp only); omega, hih ?_⟩, by (try dsimp only); omega, ⟨by repeat' (first | exact trivial | exact rfl | refine And.intro ?_ ?_), by repeat' (first | exact trivial | exact rfl | refine And.intro ?_ ?_)⟩⟩
       unfold jZ
       rw [Prod.mk.injEq]
       intro h9
       simp_all)
  ·have hkj:k=j:=by omega
   subst hkj
   ((conv=>whnf);repeat' ((first|(intro hq;(try simp only [lnS]at hq);(try rewrite [List.length_map]))|refine sJ ?_|refine .intro _ (.intro rfl ?_)|refine exL (k:= ?_)|refine dwR ?_|((first|refine aD ?_ ?_|refine aF ?_ ?_)<;>intro hb<;>(first|exact ddX hb|try simp only [lnS]at hb))|(refine aC ?_ ?_<;>intro hb<;>try exact dsX hb))<;>(conv=>whnf)))
   exact⟨k+1,⟨by(try dsimp only);omega,hik ih⟩,by(try dsimp only);omega,⟨by repeat' (first|exact trivial|exact rfl|refine And.intro ?_ ?_),by repeat' (first|exact trivial|exact rfl|refine And.intro ?_ ?_)⟩⟩
 ·have hjl:j=l.length:=by have h2:¬ (j:Int) < ((l.map rnR).length:Nat):=h2;rw [List.length_map]at h2;omega
  subst hjl
  rw [List.take_length]at ik
  ((conv=>whnf);repeat' ((first|(intro hq;(try simp only [lnS]at hq);(try rewrite [List.length_map]))|refine sJ ?_|refine .intro _ (.intro rfl ?_)|refine exL (k:= ?_)|refine dwR ?_|((first|refine aD ?_ ?_|refine aF ?_ ?_)<;>intro hb<;>(first|exact ddX hb|try simp only [lnS]at hb))|(refine aC ?_ ?_<;>intro hb<;>try exact dsX hb))<;>(conv=>whnf)))
  rw [(aAd hl).2 ⟨iv,ip,ik⟩]
  rfl
end Go.Proofs.YtfhoddcminbffaaGreatDoor
