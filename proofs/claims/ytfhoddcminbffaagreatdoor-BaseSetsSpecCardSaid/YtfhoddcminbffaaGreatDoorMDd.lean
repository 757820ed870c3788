/-
  Base: alike, equal, role axioms, Find, Same, Open. Layer 7, reference: SameAxiom, SameAxioms, Same, Role, place. Layer 7, reference: inserting, plainly. Layer 7, reference: insert. A contract by a walk through the body whose own objects are numbered from a number. Terms: the reference's insert and conjunction. Terms: the reference's form. Terms: the reference's bare, Empty, fields, CheckAxiom.
  Conditions: none.
-/
import Derived.Test.YtfhoddcminbffaaGreatDoorMQb
import Derived.Test.YtfhoddcminbffaaGreatDoorMQp
import Derived.Test.YtfhoddcminbffaaGreatDoorMPh
import Derived.Test.YtfhoddcminbffaaGreatDoorMBp
import Derived.Test.YtfhoddcminbffaaGreatDoorMRt
import Derived.Test.YtfhoddcminbffaaGreatDoorMBt
set_option linter.unnecessarySimpa false
set_option linter.unusedSectionVars false
set_option linter.unusedSimpArgs false
set_option linter.unusedVariables false
set_option maxHeartbeats 16000000
namespace Go.Proofs.YtfhoddcminbffaaGreatDoor
open Go.Proofs
set_option maxRecDepth 10000
attribute [local irreducible] aM aJ Tri aH YVC dI bI
abbrev hZ (l:List Ax):D:= .agg [.sl 16 (l.map axR)]
theorem pG {x:Ax}(h:bB x=0):SmA x:=by
 obtain⟨h1,h2,h3⟩:=fK h
 exact⟨by omega,by omega,by omega⟩
theorem lC {x:Ax}(h:(aS x).2=0):SmA (aS x).1:=pG (cP (by rw [aEj h]))
theorem vI (x y:Ax) (hx:SmA x) (hy:SmA y):Tri Tryz.prog 54 [.d (.agg (axR x)), .d (.agg (axR y))] [] (λr=>r= .d (.bool (decide (aQ x y=0)))):=by
 have c:=eY x y hx.1 hx.2.1 hx.2.2 hy.1 hy.2.1 hy.2.2
 refine aF false [2,3] hty Tryz.func54 rfl (kp [0,1,2,3,4]) [] _ _ _ (by simp [Tryz.f54]) (by simp) ?_
 generalize aQ x y=v at *
 ((conv=>whnf);repeat' ((first|(intro hq;(try simp only [lnS]at hq);(try rewrite [List.length_map]))|refine sJ ?_|refine .intro _ (.intro rfl ?_)|refine exL (k:= ?_)|(refine aD [] c trivial (λr hs=> ?_);subst hs)|refine dwR ?_|((first|refine aB ?_ ?_|refine aC ?_ ?_)<;>intro hb<;>(first|exact ddX hb|try simp only [lnS]at hb))|(refine aA ?_ ?_<;>intro hb<;>try exact dsX hb))<;>(conv=>whnf)))
 rfl
theorem zL (x y:Ax) (hx:SmA x) (hy:SmA y):Tri Tryz.prog 57 [.d (.agg (axR x)), .d (.agg (axR y))] [] (λr=>r= .d (.bool (eqA x y))):=by
 have c:=vI x y hx hy
 have hv:eqA x y=(decide (x.isopen=y.isopen) && decide (aQ x y=0)):=rfl
 rw [hv]
 generalize decide (aQ x y=0)=v at *
 clear hv
 obtain⟨k,o,a1,a2,a3,a4,a5,a6⟩:=x
 obtain⟨k',o',b1,b2,b3,b4,b5,b6⟩:=y
 cases o<;>cases o'
 all_goals
  refine aF false [2,3] hty Tryz.func57 rfl (kp [0,1,2,3,4]) [] _ _ _ (by simp [Tryz.f57]) (by simp) ?_
  ((conv=>whnf);repeat' ((first|(intro hq;(try simp only [lnS]at hq);(try rewrite [List.length_map]))|refine sJ ?_|refine .intro _ (.intro rfl ?_)|refine exL (k:= ?_)|(refine aD [] c trivial (λr hs=> ?_);subst hs)|refine dwR ?_|((first|refine aB ?_ ?_|refine aC ?_ ?_)<;>intro hb<;>(first|exact ddX hb|try simp only [lnS]at hb))|(refine aA ?_ ?_<;>intro hb<;>try exact dsX hb))<;>(conv=>whnf)))
 all_goals rfl
theorem aFo (x:Ax):Tri Tryz.prog 58 [.d (.agg (axR x))] [] (λr=>r= .d (.bool (uJ x))):=by
 unfold uJ
 refine aF false [1] hty Tryz.func58 rfl (kp [0,1,2]) [] _ _ _ (by simp [Tryz.f58]) (by simp) ?_
 ((conv=>whnf);repeat' ((first|(intro hq;(try simp only [lnS]at hq);(try rewrite [List.length_map]))|refine sJ ?_|refine .intro _ (.intro rfl ?_)|refine exL (k:= ?_)|refine dwR ?_|((first|refine aB ?_ ?_|refine aC ?_ ?_)<;>intro hb<;>(first|exact ddX hb|try simp only [lnS]at hb))|(refine aA ?_ ?_<;>intro hb<;>try exact dsX hb))<;>(conv=>whnf)))
 all_goals (refine aX ?_;simp [*])
def xO (x:Ax) (l:List Ax):Option Nat:=l.findIdx? λy=>decide (aQ x y=0)
def oG (x:Ax) (l:List Ax):Int:=match xO x l with|some i=>(i:Int)|none=> -1
theorem aN9 {x:Ax}{l:List Ax}{j:Nat}(hj:j < l.length) (hz: ∀y∈l.take j,aQ x y≠0) (h:aQ x l[j]=0):xO x l=some j:=by
 unfold xO
 rw [List.findIdx?_eq_some_iff_getElem]
 refine⟨hj,by simpa using h,λi hi=> ?_⟩
 have:l[i]∈l.take j:=by
  rw [List.mem_take_iff_getElem]
  exact⟨i,by omega,rfl⟩
 simpa using hz _ this
theorem aHg {x:Ax}{l:List Ax}:xO x l=none↔ ∀y∈l,aQ x y≠0:=by
 unfold xO
 rw [List.findIdx?_eq_none_iff]
 simp
theorem aBc {x:Ax}{l:List Ax}{i:Nat}(h:xO x l=some i): ∃hi:i < l.length,aQ x l[i]=0:=by
 unfold xO at h
 rw [List.findIdx?_eq_some_iff_getElem]at h
 obtain⟨hi,h1,_⟩:=h
 exact⟨hi,by simpa using h1⟩
theorem aFs (x:Ax) (l:List Ax) (hx:SmA x) (hl: ∀y∈l,SmA y):Tri Tryz.prog 65 [.d (.sl 16 (l.map axR)), .fn 54 [.d (.agg (axR x))] []] [] (λr=>r= .d (.int .i64 (oG x l))):=by
 refine Tri.len 0 rfl λhlen=> ?_
 rw [List.length_map]at hlen
 refine aF false [] hty Tryz.func65 rfl (kp [0,1,4,5,7,8,9,16]) [] _ _ _ (by simp [Tryz.f65]) (by simp) ?_
 ((conv=>whnf);repeat ((first|(intro hq;try simp only [lnS]at hq)|refine sI ?_|refine .intro _ (.intro rfl ?_));(conv=>whnf)))
 refine aG hty (λj:Nat=>([(0, .d (.sl 16 (l.map axR))),(1, .fn 54 [.d (.agg (axR x))] []),(7, .d (.int .i64 l.length)),(8, .d (.int .i64 j))],[])) (λj=>j<=l.length/\ ∀y∈l.take j,aQ x y≠0) (λj=>l.length - j) 0 ⟨by omega,by simp⟩ ⟨by repeat' (first|exact trivial|exact rfl|(rw [List.length_map];exact rfl)|refine And.intro ?_ ?_),trivial⟩ ?_
 rintro j ⟨hj,hz⟩
 ((conv=>whnf);repeat ((first|(intro hq;try simp only [lnS]at hq)|refine sI ?_|refine .intro _ (.intro rfl ?_));(conv=>whnf)))
 refine aB (λh1=> ?_) (λh1=> ?_)
 ·have hjl:j < l.length:=by omega
  have hrow:=bR hjl
  have c:=vI x l[j] hx (hl _ (List.getElem_mem hjl))
  have hit:=aN9 hjl hz
  have hz2:aQ x l[j]≠0-> ∀y∈l.take (j+1),aQ x y≠0:= λh2 y hy=>by
   rw [List.take_succ_eq_append_getElem hjl]at hy
   rcases List.mem_append.1 hy with hy|hy
   ·exact hz y hy
   ·simp at hy;subst hy;exact h2
  ((conv=>whnf);repeat ((first|(refine⟨_,hrow, ?_⟩)|(refine aD [] c trivial (λr hs=> ?_);subst hs)|(intro hq;try simp only [lnS]at hq)|refine sI ?_|refine .intro _ (.intro rfl ?_));(conv=>whnf)))
  refine aB (λh2=> ?_) (λh2=> ?_)
  ·have hv:oG x l=(j:Int):=by unfold oG;rw [hit h2]
   rw [hv]
   ((conv=>whnf);repeat' ((first|(intro hq;(try simp only [lnS]at hq);(try rewrite [List.length_map]))|refine sJ ?_|refine .intro _ (.intro rfl ?_)|refine exL (k:= ?_)|refine dwR ?_|((first|refine aB ?_ ?_|refine aC ?_ ?_)<;>intro hb<;>(first|exact ddX hb|try simp only [lnS]at hb))|(refine aA ?_ ?_<;>intro hb<;>try exact dsX hb))<;>(conv=>whnf)))
   rfl
  ·((conv=>whnf);repeat' ((first|(intro hq;(try simp only [lnS]at hq);(try rewrite [List.length_map]))|refine sJ ?_|refine .intro _ (.intro rfl ?_)|refine exL (k:= ?_)|refine dwR ?_|((first|refine aB ?_ ?_|refine aC ?_ ?_)<;>intro hb<;>(first|exact ddX hb|try simp only [lnS]at hb))|(refine aA ?_ ?_<;>intro hb<;>try exact dsX hb))<;>(conv=>whnf)))
   exact⟨j+1,⟨by omega,hz2 h2⟩,by dsimp only;omega,⟨by repeat' (first|exact trivial|exact rfl|refine And.intro ?_ ?_),by repeat' (first|exact trivial|exact rfl|refine And.intro ?_ ?_)⟩⟩
 ·have hjl:j=l.length:=by omega
  subst hjl
  rw [List.take_length]at hz
  have hv:oG x l= -1:=by unfold oG;rw [aHg.2 hz]
  rw [hv]
  ((conv=>whnf);repeat' ((first|(intro hq;(try simp only [lnS]at hq);(try rewrite [List.length_map]))|refine sJ ?_|refine .intro _ (.intro rfl ?_)|refine exL (k:= ?_)|refine dwR ?_|((first|refine aB ?_ ?_|refine aC ?_ ?_)<;>intro hb<;>(first|exact ddX hb|try simp only [lnS]at hb))|(refine aA ?_ ?_<;>intro hb<;>try exact dsX hb))<;>(conv=>whnf)))
  rfl
def xP (l:List Ax) (a:Ax):Int×Bool:=if (aS a).2≠0 then (0,false)else match xO (aS a).1 l with|some i=>((i:Int),true)|none=>(0,false)
theorem aDe (l:List Ax) (a:Ax) (hl: ∀y∈l,SmA y):Tri Tryz.prog 26 [.d (hZ l), .d (.agg (axR a))] NG (λr=>r= .tup [.d (.int .i64 (xP l a).1), .d (.bool (xP l a).2)]):=by
 have ht:=jX a
 have hi:= λh=>aFs (aS a).1 l (lC h) hl
 have hv:xP l a=if (aS a).2≠0 then (0,false)else match xO (aS a).1 l with|some i=>((i:Int),true)|none=>(0,false):=rfl
 rw [hv]
 clear hv
 have hI:oG (aS a).1 l=match xO (aS a).1 l with|some i=>(i:Int)|none=> -1:=rfl
 generalize xO (aS a).1 l=I at *
 generalize oG (aS a).1 l=J at *
 generalize (aS a).1=x at *
 generalize (aS a).2=e at *
 refine aF false [2,3,6] hty Tryz.func26 rfl (kp [0,1,2,3,4,5,6,7,14,22]) [] _ _ _ (by simp [Tryz.f26]) (by decide) ?_
 ((conv=>whnf);repeat ((first|(refine aD NG ht ⟨rfl,rfl,trivial⟩ (λr hs=> ?_);subst hs)|(intro hq;try simp only [lnS]at hq)|refine sI ?_|refine .intro _ (.intro rfl ?_));(conv=>whnf)))
 refine aC (λh1=> ?_) (λh1=> ?_)
 ·rw [if_pos h1]
  ((conv=>whnf);repeat' ((first|(intro hq;(try simp only [lnS]at hq);(try rewrite [List.length_map]))|refine sJ ?_|refine .intro _ (.intro rfl ?_)|refine exL (k:= ?_)|refine dwR ?_|((first|refine aB ?_ ?_|refine aC ?_ ?_)<;>intro hb<;>(first|exact ddX hb|try simp only [lnS]at hb))|(refine aA ?_ ?_<;>intro hb<;>try exact dsX hb))<;>(conv=>whnf)))
  rfl
 ·have h0:e=0:=by simpa using h1
  have hi:=hi h0
  rw [if_neg (by simp [h0])]
  ((conv=>whnf);repeat ((first|(refine aD [] hi trivial (λr hs=> ?_);subst hs)|(intro hq;try simp only [lnS]at hq)|refine sI ?_|refine .intro _ (.intro rfl ?_));(conv=>whnf)))
  cases I with
  |none=>
   dsimp only at hI
   subst hI
   ((conv=>whnf);repeat' ((first|(intro hq;(try simp only [lnS]at hq);(try rewrite [List.length_map]))|refine sJ ?_|refine .intro _ (.intro rfl ?_)|refine exL (k:= ?_)|refine dwR ?_|((first|refine aB ?_ ?_|refine aC ?_ ?_)<;>intro hb<;>(first|exact ddX hb|try simp only [lnS]at hb))|(refine aA ?_ ?_<;>intro hb<;>try exact dsX hb))<;>(conv=>whnf)))
   rfl
  |some i=>
   dsimp only at hI
   subst hI
   ((conv=>whnf);repeat' ((first|(intro hq;(try simp only [lnS]at hq);(try rewrite [List.length_map]))|refine sJ ?_|refine .intro _ (.intro rfl ?_)|refine exL (k:= ?_)|refine dwR ?_|((first|refine aB ?_ ?_|refine aC ?_ ?_)<;>intro hb<;>(first|exact ddX hb|try simp only [lnS]at hb))|(refine aA ?_ ?_<;>intro hb<;>try exact dsX hb))<;>(conv=>whnf)))
   rfl
theorem aIz (x y:Ax) (hx:SmA x) (hy:SmA y):Tri Tryz.prog 68 [.d (.agg (axR x)), .d (.agg (axR y))] [] (λr=>r= .d (.bool (eqA x y))):=by
 have c:=zL x y hx hy
 refine aF false [2,3] hty Tryz.func68 rfl (kp [0,1,2,3,4]) [] _ _ _ (by simp [Tryz.f68]) (by simp) ?_
 ((conv=>whnf);repeat' ((first|(intro hq;(try simp only [lnS]at hq);(try rewrite [List.length_map]))|refine sJ ?_|refine .intro _ (.intro rfl ?_)|refine exL (k:= ?_)|(refine aD [] c trivial (λr hs=> ?_);subst hs)|refine dwR ?_|((first|refine aB ?_ ?_|refine aC ?_ ?_)<;>intro hb<;>(first|exact ddX hb|try simp only [lnS]at hb))|(refine aA ?_ ?_<;>intro hb<;>try exact dsX hb))<;>(conv=>whnf)))
 rfl
def eqL:List Ax->List Ax->Bool
 |x::l,y::m=>eqA x y && eqL l m
 | [],[]=>true
 |_,_=>false
theorem lH: ∀{l m:List Ax},eqL l m=true↔l=m
 | [],[]=>by simp [eqL]
 | [],_::_=>by simp [eqL]
 |_::_,[]=>by simp [eqL]
 |x::l,y::m=>by rw [eqL,Bool.and_eq_true,jC,lH];simp
theorem aHw {l m:List Ax}{j:Nat}(h1:j < l.length) (h2:l.length=m.length) (h:eqA l[j] (m[j]'(by omega))=false):eqL l m=false:=by
 rw [Bool.eq_false_iff]
 intro he
 have:=lH.1 he
 subst this
 rw [jC.2 rfl]at h
 cases h
theorem aFz (l m:List Ax) (hl: ∀y∈l,SmA y) (hm: ∀y∈m,SmA y):Tri Tryz.prog 67 [.d (.sl 16 (l.map axR)), .d (.sl 16 (m.map axR)), .fn 68 [] []] [] (λr=>r= .d (.bool (eqL l m))):=by
 refine Tri.len 0 rfl λhlen=> ?_
 rw [List.length_map]at hlen
 refine aF false [8,9] hty Tryz.func67 rfl (kp [0,1,2,6,7,8,9,14,15,16,17,18,30]) [] _ _ _ (by simp [Tryz.f67]) (by simp) ?_
 ((conv=>whnf);repeat ((first|(intro hq;try simp only [lnS]at hq)|refine sI ?_|refine .intro _ (.intro rfl ?_));(conv=>whnf)))
 refine aC (λh0=> ?_) (λh0=> ?_)
 ·have hv:eqL l m=false:=by
   rw [Bool.eq_false_iff]
   intro he
   have:=lH.1 he
   subst this
   exact h0 rfl
  rw [hv]
  ((conv=>whnf);repeat' ((first|(intro hq;(try simp only [lnS]at hq);(try rewrite [List.length_map]))|refine sJ ?_|refine .intro _ (.intro rfl ?_)|refine exL (k:= ?_)|refine dwR ?_|((first|refine aB ?_ ?_|refine aC ?_ ?_)<;>intro hb<;>(first|exact ddX hb|try simp only [lnS]at hb))|(refine aA ?_ ?_<;>intro hb<;>try exact dsX hb))<;>(conv=>whnf)))
  rfl
 ·have hlm:l.length=m.length:=by
   have h0:((l.map axR).length:Int)=((m.map axR).length:Nat):=by simpa using h0
   rw [List.length_map,List.length_map]at h0;omega
  clear h0
  ((conv=>whnf);repeat ((first|(intro hq;try simp only [lnS]at hq)|refine sI ?_|refine .intro _ (.intro rfl ?_));(conv=>whnf)))
  refine aG hty (λj:Nat=>([(0, .d (.sl 16 (l.map axR))),(1, .d (.sl 16 (m.map axR))),(2, .fn 68 [] []),(15, .d (.sl 16 (l.map axR))),(16, .d (.int .i64 l.length)),(17, .d (.int .i64 j))],[])) (λj=>j<=l.length/\l.take j=m.take j) (λj=>l.length - j) 0 ⟨by omega,by simp⟩ ⟨by repeat' (first|exact trivial|exact rfl|(rw [List.length_map];exact rfl)|refine And.intro ?_ ?_),trivial⟩ ?_
  rintro j ⟨hj,hz⟩
  ((conv=>whnf);repeat ((first|(intro hq;try simp only [lnS]at hq)|refine sI ?_|refine .intro _ (.intro rfl ?_));(conv=>whnf)))
  refine aB (λh1=> ?_) (λh1=> ?_)
  ·have hjl:j < l.length:=by omega
   have hjm:j < m.length:=by omega
   have hrow:=bR hjl
   have hrow2:=bR hjm
   have c:=aIz l[j] m[j] (hl _ (List.getElem_mem hjl)) (hm _ (List.getElem_mem hjm))
   have hbad:=aHw hjl hlm
   have hz2:eqA l[j] m[j]=true->l.take (j+1)=m.take (j+1):= λh2=>by
    rw [List.take_succ_eq_append_getElem hjl,List.take_succ_eq_append_getElem hjm,hz,jC.1 h2]
   generalize eqA l[j] m[j]=b at *
   generalize l[j]=x at *
   generalize m[j]=y at *
   ((conv=>whnf);repeat ((first|(refine⟨_,hrow, ?_⟩)|(refine⟨_,hrow2, ?_⟩)|(refine aD [] c trivial (λr hs=> ?_);subst hs)|(intro hq;try simp only [lnS]at hq)|refine sI ?_|refine .intro _ (.intro rfl ?_));(conv=>whnf)))
   cases b
   ·rw [hbad rfl]
    ((conv=>whnf);repeat' ((first|(intro hq;(try simp only [lnS]at hq);(try rewrite [List.length_map]))|refine sJ ?_|refine .intro _ (.intro rfl ?_)|refine exL (k:= ?_)|(refine⟨_,hrow, ?_⟩)|(refine⟨_,hrow2, ?_⟩)|(refine aD [] c trivial (λr hs=> ?_);subst hs)|refine dwR ?_|((first|refine aB ?_ ?_|refine aC ?_ ?_)<;>intro hb<;>(first|exact ddX hb|try simp only [lnS]at hb))|(refine aA ?_ ?_<;>intro hb<;>try exact dsX hb))<;>(conv=>whnf)))
    rfl
   ·((conv=>whnf);repeat' ((first|(intro hq;(try simp only [lnS]at hq);(try rewrite [List.length_map]))|refine sJ ?_|refine .intro _ (.intro rfl ?_)|refine exL (k:= ?_)|refine dwR ?_|((first|refine aB ?_ ?_|refine aC ?_ ?_)<;>intro hb<;>(first|exact ddX hb|try simp only [lnS]at hb))|(refine aA ?_ ?_<;>intro hb<;>try exact dsX hb))<;>(conv=>whnf)))
    exact⟨j+1,⟨by omega,hz2 rfl⟩,by dsimp only;omega,⟨by repeat' (first|exact trivial|exact rfl|refine And.intro ?_ ?_),by repeat' (first|exact trivial|exact rfl|refine And.intro ?_ ?_)⟩⟩
  ·have hjl:j=l.length:=by omega
   subst hjl
   rw [List.take_length,hlm,List.take_length]at hz
   rw [lH.2 hz]
   ((conv=>whnf);repeat' ((first|(intro hq;(try simp only [lnS]at hq);(try rewrite [List.length_map]))|refine sJ ?_|refine .intro _ (.intro rfl ?_)|refine exL (k:= ?_)|refine dwR ?_|((first|refine aB ?_ ?_|refine aC ?_ ?_)<;>intro hb<;>(first|exact ddX hb|try simp only [lnS]at hb))|(refine aA ?_ ?_<;>intro hb<;>try exact dsX hb))<;>(conv=>whnf)))
   rfl
theorem yC (l m:List Ax) (hl: ∀y∈l,SmA y) (hm: ∀y∈m,SmA y):Tri Tryz.prog 30 [.d (hZ l), .d (hZ m)] [] (λr=>r= .d (.bool (eqL l m))):=by
 have c:=aFz l m hl hm
 refine aF false [2,3] hty Tryz.func30 rfl (kp [0,1,2,3,4]) [] _ _ _ (by simp [Tryz.f30]) (by simp) ?_
 ((conv=>whnf);repeat' ((first|(intro hq;(try simp only [lnS]at hq);(try rewrite [List.length_map]))|refine sJ ?_|refine .intro _ (.intro rfl ?_)|refine exL (k:= ?_)|(refine aD [] c trivial (λr hs=> ?_);subst hs)|refine dwR ?_|((first|refine aB ?_ ?_|refine aC ?_ ?_)<;>intro hb<;>(first|exact ddX hb|try simp only [lnS]at hb))|(refine aA ?_ ?_<;>intro hb<;>try exact dsX hb))<;>(conv=>whnf)))
 rfl
def aBv (ls:List (List Ax)):Bool:=ls.all λl=>decide ((l.length:Int)<=14) && l.all wA
def lsR (ls:List (List Ax)):D:= .sl 1 (ls.map λl=>[.sl 16 (l.map axR)])
theorem wP (ls:List (List Ax)) (hl: ∀l∈ls,∀x∈l,SzAx x):Tri Tryz.prog 18 [.d (lsR ls)] [] (λr=>r= .d (.bool (aBv ls))):=by
 refine Tri.len 0 rfl λhlen=> ?_
 rw [List.length_map]at hlen
 refine aF false [] hty Tryz.func18 rfl (kp [0,2,4,5,6,7,8,13]) [] _ _ _ (by simp [Tryz.f18]) (by simp) ?_
 ((conv=>whnf);repeat ((first|(intro hq;try simp only [lnS]at hq)|refine sI ?_|refine .intro _ (.intro rfl ?_));(conv=>whnf)))
 refine aG hty (λj:Nat=>([(5, .d (lsR ls)),(6, .d (.int .i64 ls.length)),(7, .d (.int .i64 j))],[])) (λj=>j<=ls.length/\aBv (ls.take j)=true) (λj=>ls.length - j) 0 ⟨by omega,by simp [aBv]⟩ ⟨by repeat' (first|exact trivial|exact rfl|(rw [List.length_map];exact rfl)|refine And.intro ?_ ?_),trivial⟩ ?_
 rintro j ⟨hj,hz⟩
 ((conv=>whnf);repeat ((first|(intro hq;try simp only [lnS]at hq)|refine sI ?_|refine .intro _ (.intro rfl ?_));(conv=>whnf)))
 refine aB (λh1=> ?_) (λh1=> ?_)
 ·have hjl:j < ls.length:=by have h1:(j:Int) < ((ls.length:Nat):Int):=h1;omega
  have hrow:(ls.map λl=>[D.sl 16 (l.map axR)])[((j:Nat):Int).toNat]? =some [.sl 16 (ls[j].map axR)]:=by
   rw [Int.toNat_natCast,List.getElem?_map,List.getElem?_eq_getElem hjl];rfl
  have c:=xQ ls[j] 14 (hl _ (List.getElem_mem hjl))
  have hbad:(decide ((ls[j].length:Int)<=14) && ls[j].all wA)=false->aBv ls=false:= λh=>by
   rw [Bool.eq_false_iff]
   intro ht
   rw [List.all_eq_true.1 ht _ (List.getElem_mem hjl)]at h
   cases h
  have hz2:(decide ((ls[j].length:Int)<=14) && ls[j].all wA)=true->aBv (ls.take (j+1))=true:= λh2=>by
   unfold aBv at hz |-
   rw [List.take_succ_eq_append_getElem hjl,List.all_append,hz]
   simpa using h2
  generalize (decide ((ls[j].length:Int)<=14) && ls[j].all wA)=b at *
  ((conv=>whnf);repeat ((first|(refine⟨_,hrow, ?_⟩)|(refine aD [] c trivial (λr hs=> ?_);subst hs)|(intro hq;try simp only [lnS]at hq)|refine sI ?_|refine .intro _ (.intro rfl ?_));(conv=>whnf)))
  cases b
  ·rw [hbad rfl]
   ((conv=>whnf);repeat' ((first|(intro hq;(try simp only [lnS]at hq);(try rewrite [List.length_map]))|refine sJ ?_|refine .intro _ (.intro rfl ?_)|refine exL (k:= ?_)|(refine⟨_,hrow, ?_⟩)|(refine aD [] c trivial (λr hs=> ?_);subst hs)|refine dwR ?_|((first|refine aB ?_ ?_|refine aC ?_ ?_)<;>intro hb<;>(first|exact ddX hb|try simp only [lnS]at hb))|(refine aA ?_ ?_<;>intro hb<;>try exact dsX hb))<;>(conv=>whnf)))
   rfl
  ·((conv=>whnf);repeat' ((first|(intro hq;(try simp only [lnS]at hq);(try rewrite [List.length_map]))|refine sJ ?_|refine .intro _ (.intro rfl ?_)|refine exL (k:= ?_)|refine dwR ?_|((first|refine aB ?_ ?_|refine aC ?_ ?_)<;>intro hb<;>(first|exact ddX hb|try simp only [lnS]at hb))|(refine aA ?_ ?_<;>intro hb<;>try exact dsX hb))<;>(conv=>whnf)))
   exact⟨j+1,⟨by omega,hz2 rfl⟩,by dsimp only;omega,⟨by repeat' (first|exact trivial|exact rfl|refine And.intro ?_ ?_),by repeat' (first|exact trivial|exact rfl|refine And.intro ?_ ?_)⟩⟩
 ·have hjl:j=ls.length:=by have h1:¬ (j:Int) < ((ls.length:Nat):Int):=h1;omega
  subst hjl
  rw [List.take_length]at hz
  rw [hz]
  ((conv=>whnf);repeat' ((first|(intro hq;(try simp only [lnS]at hq);(try rewrite [List.length_map]))|refine sJ ?_|refine .intro _ (.intro rfl ?_)|refine exL (k:= ?_)|refine dwR ?_|((first|refine aB ?_ ?_|refine aC ?_ ?_)<;>intro hb<;>(first|exact ddX hb|try simp only [lnS]at hb))|(refine aA ?_ ?_<;>intro hb<;>try exact dsX hb))<;>(conv=>whnf)))
  rfl
def opL (l:List Ax):List Ax:=l.filter λx=>x.isopen
theorem aGx {l:List Ax}{j:Nat}(h:j < l.length):opL (l.take (j+1))=opL (l.take j)++(if l[j].isopen=true then [l[j]]else []):=by
 unfold opL
 rw [List.take_succ_eq_append_getElem h,List.filter_append,List.filter_cons,List.filter_nil]
theorem aMf (l:List Ax) (hn:l.length<=1000000):Tri Tryz.prog 28 [.d (hZ l)] [] (λr=>r= .d (hZ (opL l))):=by
 refine aF false [1,4] hty Tryz.func28 rfl (kp [0,1,2,4,6,7,8,9,13]) [] _ _ _ (by simp [Tryz.f28]) (by simp) ?_
 ((conv=>whnf);repeat ((first|(intro hq;try simp only [lnS]at hq)|refine sI ?_|refine .intro _ (.intro rfl ?_));(conv=>whnf)))
 refine aM.mownC 2 70 38 48 16 0 rfl rfl (bW (by with_unfolding_all exact rfl)) ?_
 refine aG hty (λy:Nat×Nat=>([(2, .ptr 2 0),(6, .d (.sl 16 (l.map axR))),(7, .d (.int .i64 l.length)),(8, .d (.int .i64 y.1))],[(70, .mrow 48 16 y.2 ((opL (l.take y.1)).map axR)),(2, .cells 38 [.mw 70 16 (opL (l.take y.1)).length])])) (λy=>y.1<=l.length) (λy=>l.length - y.1) (0,0) (by dsimp only;omega) ⟨by repeat' (first|exact trivial|exact rfl|(rw [List.length_map];exact rfl)|refine And.intro ?_ ?_),⟨rfl,rfl,trivial⟩⟩ ?_
 rintro⟨j,cap⟩ hj
 dsimp only at hj
 ((conv=>whnf);repeat ((first|(intro hq;try simp only [lnS]at hq)|refine sI ?_|refine .intro _ (.intro rfl ?_));(conv=>whnf)))
 refine aB (λh1=> ?_) (λh1=> ?_)
 ·have hjl:j < l.length:=by dsimp only at h1;omega
  have hrow:=bR hjl
  have hop:=aGx hjl
  have hol:(opL (l.take j)).length<=j:=by
   have:=List.length_filter_le (λx:Ax=>x.isopen) (l.take j)
   rw [List.length_take]at this
   unfold opL;omega
  generalize opL (l.take j)=L at *
  obtain⟨x,hx⟩: ∃x,x=l[j]:=⟨_,rfl⟩
  rw [<-hx]at hrow hop
  have hrl:(L.map axR).length=L.length:=List.length_map ..
  have hb63:(L.map axR).length+1<=9223372036854775807:=by rw [hrl];omega
  have hb48:((L.map axR).length+1)* 216<=140737488355328:=by rw [hrl];omega
  clear hx
  obtain⟨k,o,a1,a2,a3,a4,a5,a6⟩:=x
  cases o
  ·((conv=>whnf);repeat' ((first|(intro hq;(try simp only [lnS]at hq);(try rewrite [List.length_map]))|refine sJ ?_|refine .intro _ (.intro rfl ?_)|refine exL (k:= ?_)|(refine⟨_,hrow, ?_⟩)|refine dwR ?_|((first|refine aB ?_ ?_|refine aC ?_ ?_)<;>intro hb<;>(first|exact ddX hb|try simp only [lnS]at hb))|(refine aA ?_ ?_<;>intro hb<;>try exact dsX hb))<;>(conv=>whnf)))
   rw [show (if (Ax.mk k false a1 a2 a3 a4 a5 a6).isopen=true then [Ax.mk k false a1 a2 a3 a4 a5 a6]else [])=[]from rfl,List.append_nil]at hop
   refine⟨(j+1,cap),by dsimp only;omega,by dsimp only;omega,⟨by repeat' (first|exact trivial|exact rfl|refine And.intro ?_ ?_), ?_⟩⟩
   dsimp only
   rw [hop]
   exact⟨rfl,rfl,trivial⟩
  ·((conv=>whnf);repeat ((first|(refine⟨_,hrow, ?_⟩)|(refine And.intro hb63 ?_)|(refine And.intro hb48 ?_)|(refine And.intro hrl.symm ?_)|(intro hq;try simp only [lnS]at hq)|refine sI ?_|refine .intro _ (.intro rfl ?_));(conv=>whnf)))
   rw [show (if (Ax.mk k true a1 a2 a3 a4 a5 a6).isopen=true then [Ax.mk k true a1 a2 a3 a4 a5 a6]else [])=[Ax.mk k true a1 a2 a3 a4 a5 a6]from rfl]at hop
   rename_i cap'
   refine⟨(j+1,cap'),by dsimp only;omega,by dsimp only;omega,⟨by repeat' (first|exact trivial|exact rfl|refine And.intro ?_ ?_), ?_⟩⟩
   dsimp only
   rw [hop,List.map_append,List.length_append,<-hrl]
   exact⟨rfl,rfl,trivial⟩
 ·have hjl:j=l.length:=by dsimp only at h1;omega
  subst hjl
  rw [List.take_length]
  ((conv=>whnf);repeat' ((first|(intro hq;(try simp only [lnS]at hq);(try rewrite [List.length_map]))|refine sJ ?_|refine .intro _ (.intro rfl ?_)|refine exL (k:= ?_)|(refine And.intro (List.length_map ..).symm ?_)|refine dwR ?_|((first|refine aB ?_ ?_|refine aC ?_ ?_)<;>intro hb<;>(first|exact ddX hb|try simp only [lnS]at hb))|(refine aA ?_ ?_<;>intro hb<;>try exact dsX hb))<;>(conv=>whnf)))
  rfl
end Go.Proofs.YtfhoddcminbffaaGreatDoor
namespace Go.Proofs.YtfhoddcminbffaaGreatDoor
open Go.Proofs
set_option maxRecDepth 10000
attribute [local irreducible] aM aJ Tri aH YVC dI bI
theorem uP (x y:Ax) (hx:SmA x) (hy:SmA y):Tri Tryz.prog 60 [.d (.agg (axR x)), .d (.agg (axR y))] [] (λr=>r= .d (.bool (eqA x y))):=by
 have c:=eH x y hx.1 hx.2.1 hx.2.2 hy.1 hy.2.1 hy.2.2
 have hv:eqA x y=(decide (x.isopen=y.isopen) && decide (aQ x y=0)):=rfl
 rw [hv]
 generalize aQ x y=v at *
 clear hv
 obtain⟨k,o,a1,a2,a3,a4,a5,a6⟩:=x
 obtain⟨k',o',b1,b2,b3,b4,b5,b6⟩:=y
 cases o<;>cases o'
 all_goals
  refine aF false [2,3] hty Tryz.func60 rfl (kp [0,1,2,3,4]) [] _ _ _ (by simp [Tryz.f60]) (by simp) ?_
  ((conv=>whnf);repeat' ((first|(intro hq;(try simp only [lnS]at hq);(try rewrite [List.length_map]))|refine sJ ?_|refine .intro _ (.intro rfl ?_)|refine exL (k:= ?_)|(refine aD [] c trivial (λr hs=> ?_);subst hs)|refine dwR ?_|((first|refine aB ?_ ?_|refine aC ?_ ?_)<;>intro hb<;>(first|exact ddX hb|try simp only [lnS]at hb))|(refine aA ?_ ?_<;>intro hb<;>try exact dsX hb))<;>(conv=>whnf)))
 all_goals rfl
theorem aF3 (x:Ax):Tri Tryz.prog 62 [.d (.agg (axR x))] [] (λr=>r= .d (.bool (uJ x))):=by
 unfold uJ
 refine aF false [1] hty Tryz.func62 rfl (kp [0,1,2]) [] _ _ _ (by simp [Tryz.f62]) (by simp) ?_
 ((conv=>whnf);repeat' ((first|(intro hq;(try simp only [lnS]at hq);(try rewrite [List.length_map]))|refine sJ ?_|refine .intro _ (.intro rfl ?_)|refine exL (k:= ?_)|refine dwR ?_|((first|refine aB ?_ ?_|refine aC ?_ ?_)<;>intro hb<;>(first|exact ddX hb|try simp only [lnS]at hb))|(refine aA ?_ ?_<;>intro hb<;>try exact dsX hb))<;>(conv=>whnf)))
 all_goals (refine aX ?_;simp [*])
theorem aCe (l m:List Ax) (hl: ∀y∈l,SmA y) (hm: ∀y∈m,SmA y):Tri Tryz.prog 56 [.d (.sl 16 (l.map axR)), .d (.sl 16 (m.map axR))] [] (λr=>r= .d (.bool (eqL l m))):=by
 refine Tri.len 0 rfl λhlen=> ?_
 rw [List.length_map]at hlen
 have hrl:(l.map axR).length=l.length:=List.length_map ..
 refine aK hty Tryz.func56 rfl (kp [0,1,4,5,10,14,26]) [] _ _ _ (by simp [Tryz.f56]) (by simp) ?_
 ((conv=>whnf);repeat ((first|(intro hq;try simp only [lnS]at hq)|refine sI ?_|refine .intro _ (.intro rfl ?_));(conv=>whnf)))
 refine aC (λh0=> ?_) (λh0=> ?_)
 ·have hv:eqL l m=false:=by
   rw [Bool.eq_false_iff]
   intro he
   have:=lH.1 he
   subst this
   exact h0 rfl
  rw [hv]
  ((conv=>whnf);repeat' ((first|(intro hq;(try simp only [lnS]at hq);(try rewrite [List.length_map]))|refine sJ ?_|refine .intro _ (.intro rfl ?_)|refine exL (k:= ?_)|refine dwR ?_|((first|refine aB ?_ ?_|refine aC ?_ ?_)<;>intro hb<;>(first|exact ddX hb|try simp only [lnS]at hb))|(refine aA ?_ ?_<;>intro hb<;>try exact dsX hb))<;>(conv=>whnf)))
  rfl
 ·have hlm:l.length=m.length:=by
   have h0:((l.map axR).length:Int)=((m.map axR).length:Nat):=by simpa using h0
   rw [List.length_map,List.length_map]at h0;omega
  clear h0
  ((conv=>whnf);repeat ((first|(intro hq;try simp only [lnS]at hq)|refine sI ?_|refine .intro _ (.intro rfl ?_));(conv=>whnf)))
  refine aG hty (λj:Nat=>([(0, .d (.sl 16 (l.map axR))),(1, .d (.sl 16 (m.map axR))),(5, .d (.int .i64 j))],[])) (λj=>j<=l.length/\l.take j=m.take j) (λj=>l.length - j) 0 ⟨by omega,by simp⟩ ⟨by repeat' (first|exact trivial|exact rfl|refine And.intro ?_ ?_),by repeat' (first|exact trivial|exact rfl|refine And.intro ?_ ?_)⟩ ?_
  rintro j ⟨hj,hz⟩
  ((conv=>whnf);repeat ((first|(intro hq;try simp only [lnS]at hq)|refine sI ?_|refine .intro _ (.intro rfl ?_));(conv=>whnf)))
  refine aB (λh1=> ?_) (λh1=> ?_)
  ·have hjl:j < l.length:=by have h1:(j:Int) < ((l.map axR).length:Nat):=h1;rw [hrl]at h1;omega
   have hjm:j < m.length:=by omega
   have hrow:=bR hjl
   have hrow2:=bR hjm
   have c:=uP l[j] m[j] (hl _ (List.getElem_mem hjl)) (hm _ (List.getElem_mem hjm))
   have hbad:=aHw hjl hlm
   have hz2:eqA l[j] m[j]=true->l.take (j+1)=m.take (j+1):= λh2=>by
    rw [List.take_succ_eq_append_getElem hjl,List.take_succ_eq_append_getElem hjm,hz,jC.1 h2]
   generalize eqA l[j] m[j]=b at *
   generalize l[j]=x at *
   generalize m[j]=y at *
   refine dwR ?_
   ((conv=>whnf);repeat ((first|(refine⟨_,hrow, ?_⟩)|(refine⟨_,hrow2, ?_⟩)|(refine⟨.d (.bool _),_,[],rfl,trivial,c, ?_⟩)|(intro hq;try simp only [lnS]at hq)|refine sI ?_|refine .intro _ (.intro rfl ?_));(conv=>whnf)))
   cases b
   ·rw [hbad rfl]
    ((conv=>whnf);repeat' ((first|(intro hq;(try simp only [lnS]at hq);(try rewrite [List.length_map]))|refine sJ ?_|refine .intro _ (.intro rfl ?_)|refine exL (k:= ?_)|refine dwR ?_|((first|refine aB ?_ ?_|refine aC ?_ ?_)<;>intro hb<;>(first|exact ddX hb|try simp only [lnS]at hb))|(refine aA ?_ ?_<;>intro hb<;>try exact dsX hb))<;>(conv=>whnf)))
    rfl
   ·((conv=>whnf);repeat' ((first|(intro hq;(try simp only [lnS]at hq);(try rewrite [List.length_map]))|refine sJ ?_|refine .intro _ (.intro rfl ?_)|refine exL (k:= ?_)|refine dwR ?_|((first|refine aB ?_ ?_|refine aC ?_ ?_)<;>intro hb<;>(first|exact ddX hb|try simp only [lnS]at hb))|(refine aA ?_ ?_<;>intro hb<;>try exact dsX hb))<;>(conv=>whnf)))
    exact⟨j+1,⟨by omega,hz2 rfl⟩,by dsimp only;omega,⟨by repeat' (first|exact trivial|exact rfl|refine And.intro ?_ ?_),by repeat' (first|exact trivial|exact rfl|refine And.intro ?_ ?_)⟩⟩
  ·have hjl:j=l.length:=by have h1:¬ (j:Int) < ((l.map axR).length:Nat):=h1;rw [hrl]at h1;omega
   subst hjl
   rw [List.take_length,hlm,List.take_length]at hz
   rw [lH.2 hz]
   ((conv=>whnf);repeat' ((first|(intro hq;(try simp only [lnS]at hq);(try rewrite [List.length_map]))|refine sJ ?_|refine .intro _ (.intro rfl ?_)|refine exL (k:= ?_)|refine dwR ?_|((first|refine aB ?_ ?_|refine aC ?_ ?_)<;>intro hb<;>(first|exact ddX hb|try simp only [lnS]at hb))|(refine aA ?_ ?_<;>intro hb<;>try exact dsX hb))<;>(conv=>whnf)))
   rfl
theorem eJ (l m:List Ax) (hl: ∀y∈l,SmA y) (hm: ∀y∈m,SmA y):Tri Tryz.prog 21 [.d (hZ l), .d (hZ m)] [] (λr=>r= .d (.bool (eqL l m))):=by
 have c:=aCe l m hl hm
 refine aF false [2,3] hty Tryz.func21 rfl (kp [0,1,2,3,4]) [] _ _ _ (by simp [Tryz.f21]) (by simp) ?_
 ((conv=>whnf);repeat' ((first|(intro hq;(try simp only [lnS]at hq);(try rewrite [List.length_map]))|refine sJ ?_|refine .intro _ (.intro rfl ?_)|refine exL (k:= ?_)|(refine aD [] c trivial (λr hs=> ?_);subst hs)|(refine⟨.d (.bool _),_,[],rfl,trivial,c, ?_⟩)|refine dwR ?_|((first|refine aB ?_ ?_|refine aC ?_ ?_)<;>intro hb<;>(first|exact ddX hb|try simp only [lnS]at hb))|(refine aA ?_ ?_<;>intro hb<;>try exact dsX hb))<;>(conv=>whnf)))
 rfl
theorem mD (x:Ax) (l:List Ax) (hx:SmA x) (hl: ∀y∈l,SmA y):Tri Tryz.prog 66 [.d (.sl 16 (l.map axR)), .d (.agg (axR x))] [] (λr=>r= .d (.int .i64 (oG x l))):=by
 refine Tri.len 0 rfl λhlen=> ?_
 rw [List.length_map]at hlen
 have hrl:(l.map axR).length=l.length:=List.length_map ..
 refine aF false [3] hty Tryz.func66 rfl (kp [0,1,3,4,5,9,18]) [] _ _ _ (by simp [Tryz.f66]) (by simp) ?_
 ((conv=>whnf);repeat ((first|(intro hq;try simp only [lnS]at hq)|refine sI ?_|refine .intro _ (.intro rfl ?_));(conv=>whnf)))
 refine aG hty (λj:Nat=>([(0, .d (.sl 16 (l.map axR))),(3, .ea 16 [axR x] 0 0),(5, .d (.int .i64 j))],[])) (λj=>j<=l.length/\ ∀y∈l.take j,aQ x y≠0) (λj=>l.length - j) 0 ⟨by omega,by simp⟩ ⟨by repeat' (first|exact trivial|exact rfl|refine And.intro ?_ ?_),by repeat' (first|exact trivial|exact rfl|refine And.intro ?_ ?_)⟩ ?_
 rintro j ⟨hj,hz⟩
 ((conv=>whnf);repeat ((first|(intro hq;try simp only [lnS]at hq)|refine sI ?_|refine .intro _ (.intro rfl ?_));(conv=>whnf)))
 refine aB (λh1=> ?_) (λh1=> ?_)
 ·have hjl:j < l.length:=by have h1:(j:Int) < ((l.map axR).length:Nat):=h1;rw [hrl]at h1;omega
  have hrow:=bR hjl
  have hy:=hl _ (List.getElem_mem hjl)
  have c:=eH l[j] x hy.1 hy.2.1 hy.2.2 hx.1 hx.2.1 hx.2.2
  have ha:=gV.anti l[j] x
  have hit:=aN9 (x:=x) hjl hz
  have hz2:aQ x l[j]≠0-> ∀y∈l.take (j+1),aQ x y≠0:= λh2 y hy=>by
   rw [List.take_succ_eq_append_getElem hjl]at hy
   rcases List.mem_append.1 hy with hy|hy
   ·exact hz y hy
   ·simp only [List.mem_singleton]at hy;rw [hy];exact h2
  clear hy
  generalize aQ l[j] x=v at *
  generalize aQ x l[j]=u at *
  generalize l[j]=y at *
  refine dwR ?_
  ((conv=>whnf);repeat ((first|(refine⟨_,hrow, ?_⟩)|(refine⟨.d (.int .i64 _),_,[],rfl,trivial,c, ?_⟩)|(intro hq;try simp only [lnS]at hq)|refine sI ?_|refine .intro _ (.intro rfl ?_));(conv=>whnf)))
  refine aB (λh2=> ?_) (λh2=> ?_)
  ·have hv:oG x l=j:=by unfold oG;rw [hit (by omega)]
   rw [hv]
   ((conv=>whnf);repeat' ((first|(intro hq;(try simp only [lnS]at hq);(try rewrite [List.length_map]))|refine sJ ?_|refine .intro _ (.intro rfl ?_)|refine exL (k:= ?_)|refine dwR ?_|((first|refine aB ?_ ?_|refine aC ?_ ?_)<;>intro hb<;>(first|exact ddX hb|try simp only [lnS]at hb))|(refine aA ?_ ?_<;>intro hb<;>try exact dsX hb))<;>(conv=>whnf)))
   rfl
  ·((conv=>whnf);repeat' ((first|(intro hq;(try simp only [lnS]at hq);(try rewrite [List.length_map]))|refine sJ ?_|refine .intro _ (.intro rfl ?_)|refine exL (k:= ?_)|refine dwR ?_|((first|refine aB ?_ ?_|refine aC ?_ ?_)<;>intro hb<;>(first|exact ddX hb|try simp only [lnS]at hb))|(refine aA ?_ ?_<;>intro hb<;>try exact dsX hb))<;>(conv=>whnf)))
   exact⟨j+1,⟨by omega,hz2 (by omega)⟩,by dsimp only;omega,⟨by repeat' (first|exact trivial|exact rfl|refine And.intro ?_ ?_),by repeat' (first|exact trivial|exact rfl|refine And.intro ?_ ?_)⟩⟩
 ·have hjl:j=l.length:=by have h1:¬ (j:Int) < ((l.map axR).length:Nat):=h1;rw [hrl]at h1;omega
  subst hjl
  rw [List.take_length]at hz
  have hv:oG x l= -1:=by unfold oG;rw [aHg.2 hz]
  rw [hv]
  ((conv=>whnf);repeat' ((first|(intro hq;(try simp only [lnS]at hq);(try rewrite [List.length_map]))|refine sJ ?_|refine .intro _ (.intro rfl ?_)|refine exL (k:= ?_)|refine dwR ?_|((first|refine aB ?_ ?_|refine aC ?_ ?_)<;>intro hb<;>(first|exact ddX hb|try simp only [lnS]at hb))|(refine aA ?_ ?_<;>intro hb<;>try exact dsX hb))<;>(conv=>whnf)))
  rfl
end Go.Proofs.YtfhoddcminbffaaGreatDoor
namespace Go.Proofs.YtfhoddcminbffaaGreatDoor
open Go.Proofs
def wY:List Ax->Ax->List Ax
 | [],a=>[a]
 |y::r,a=>if aQ y a < 0 then y::wY r a else if aQ y a=0 then { a with isopen:=a.isopen || y.isopen }::r else a::y::r
theorem mQ (y a:Ax) (r:List Ax):wY (y::r) a=if aQ y a < 0 then y::wY r a else if aQ y a=0 then { a with isopen:=a.isopen || y.isopen }::r else a::y::r:=rfl
theorem aHf (a:Ax): ∀l:List Ax,(wY l a).length<=l.length+1
 | []=>by simp [wY]
 |y::r=>by
  have:=aHf a r
  rw [mQ]
  split
  ·simp only [List.length_cons];omega
  ·split
   ·simp only [List.length_cons];omega
   ·simp only [List.length_cons];omega
theorem aFq: ∀(l:List Ax) (x:Ax) (n:Nat),n<=l.length->(∀a∈l.take n,aQ a x < 0)->(∀h:n < l.length,¬ aQ l[n] x < 0)->
  wY l x=l.take n++(if h:n < l.length then (if aQ l[n] x=0 then { x with isopen:=x.isopen || l[n].isopen }::l.drop (n+1)else x::l.drop n)else [x])
 | [],x,n,hn,_,_=>by
  rw [dif_neg (by simp)];simp [wY]
 |a::r,x,0,_,_,h2=>by
  have h2:¬ aQ a x < 0:=h2 (by simp)
  rw [mQ,if_neg h2,dif_pos (by simp)]
  rfl
 |a::r,x,n+1,hn,h1,h2=>by
  have ih:=aFq r x n (by simpa using hn) (λb hb=>h1 b (by simp [hb])) (λh=>h2 (by simpa using h))
  rw [mQ,if_pos (h1 a (by simp)),ih]
  by_cases h:n < r.length
  ·rw [dif_pos h,dif_pos (by simpa using h)]
   rfl
  ·rw [dif_neg h,dif_neg (by simpa using h)]
   rfl
def opA (l:List Ax) (a:Ax):Ax:={ a with isopen:=a.isopen || l.any λy=>decide (aQ y a=0) && y.isopen }
theorem aTv {y z a:Ax}(h1:¬ aQ y a < 0) (h2:aQ y z < 0):aQ z a≠0:=by
 intro h
 have e:=bO.1 h
 have:aQ y z=aQ y a:=gZ rfl e
 omega
theorem aI8 {l:List Ax}{a:Ax}(h: ∀z∈l,aQ z a≠0):(l.any λy=>decide (aQ y a=0) && y.isopen)=false:=by
 rw [List.any_eq_false]
 intro z hz
 simp [h z hz]
theorem aB7 (a:Ax): ∀{l:List Ax},xA l-> ∀x,(x∈wY l a↔(x∈l/\aQ x a≠0)\/x=opA l a)
 | [],_,x=>by simp [wY,opA]
 |y::r,hs,x=>by
  obtain⟨hy,hr⟩:=List.pairwise_cons.1 hs
  have ih:=aB7 a hr x
  rw [mQ]
  split
  ·rename_i h1
   have e:opA (y::r) a=opA r a:=by
    unfold opA
    rw [List.any_cons,decide_eq_false (by omega),Bool.false_and,Bool.false_or]
   rw [List.mem_cons,ih,e,List.mem_cons]
   constructor
   ·rintro(rfl|h|h)
    ·exact .inl ⟨.inl rfl,by omega⟩
    ·exact .inl ⟨.inr h.1,h.2⟩
    ·exact .inr h
   ·rintro(⟨rfl|h,h'⟩|h)
    ·exact .inl rfl
    ·exact .inr (.inl ⟨h,h'⟩)
    ·exact .inr (.inr h)
  ·rename_i h1
   have hn: ∀z∈r,aQ z a≠0:= λz hz=>aTv h1 (hy z hz)
   split
   ·rename_i h2
    have e:opA (y::r) a={ a with isopen:=a.isopen || y.isopen }:=by
     unfold opA
     rw [List.any_cons,aI8 hn,decide_eq_true h2,Bool.true_and,Bool.or_false]
    rw [e,List.mem_cons,List.mem_cons]
    constructor
    ·rintro(h|h)
     ·exact .inr h
     ·exact .inl ⟨.inr h,hn x h⟩
    ·rintro(⟨rfl|h,h'⟩|h)
     ·exact absurd h2 h'
     ·exact .inr h
     ·exact .inl h
   ·rename_i h2
    have e:opA (y::r) a=a:=by
     unfold opA
     rw [List.any_cons,aI8 hn,decide_eq_false h2,Bool.false_and,Bool.or_false,Bool.or_false]
    rw [e,List.mem_cons,List.mem_cons]
    constructor
    ·rintro(h|rfl|h)
     ·exact .inr h
     ·exact .inl ⟨.inl rfl,h2⟩
     ·exact .inl ⟨.inr h,hn x h⟩
    ·rintro(⟨h,_⟩|h)
     ·exact .inr h
     ·exact .inl h
theorem aGi (a:Ax): ∀{l:List Ax},xA l->xA (wY l a)
 | [],_=>by simp [wY,xA]
 |y::r,hs=>by
  obtain⟨hy,hr⟩:=List.pairwise_cons.1 hs
  have ih:=aGi a hr
  rw [mQ]
  split
  ·rename_i h1
   refine List.pairwise_cons.2 ⟨λz hz=> ?_,ih⟩
   rcases(aB7 a hr z).1 hz with h|rfl
   ·exact hy z h.1
   ·exact h1
  ·rename_i h1
   split
   ·rename_i h2
    refine List.pairwise_cons.2 ⟨λz hz=> ?_,hr⟩
    have:=hy z hz
    rw [gZ (bO.1 h2) rfl]at this
    exact this
   ·rename_i h2
    refine List.pairwise_cons.2 ⟨λz hz=> ?_,hs⟩
    have h3:aQ a y < 0:=by have:=gV.anti a y;omega
    rcases List.mem_cons.1 hz with rfl|hz
    ·exact h3
    ·exact lL h3 (hy z hz)
theorem NewOf.ins {tl b:List Ax}(h:NewOf tl b) (a:Ax):NewOf (tl++[a]) (wY b a):=by
 have hm:=aB7 a h.str
 have ha: ∀y,aQ (opA b a) y=aQ a y:= λy=>rfl
 refine⟨aGi a h.str,λx hx=> ?_,λy hy=> ?_,λx hx=> ?_⟩
 ·rcases(hm x).1 hx with⟨h1,_⟩|rfl
  ·obtain⟨y,hy,e⟩:=h.mem x h1
   exact⟨y,List.mem_append_left _ hy,e⟩
  ·exact⟨a,by simp,by rw [ha,dA]⟩
 ·rcases List.mem_append.1 hy with hy|hy
  ·obtain⟨x,hx,e⟩:=h.all y hy
   by_cases h0:aQ x a=0
   ·refine⟨_,(hm _).2 (.inr rfl), ?_⟩
    rw [ha,bO,<-bO.1 h0]
    exact bO.1 e
   ·exact⟨x,(hm x).2 (.inl ⟨hx,h0⟩),e⟩
  ·simp only [List.mem_singleton]at hy
   subst hy
   exact⟨_,(hm _).2 (.inr rfl),by rw [ha,dA]⟩
 ·rcases(hm x).1 hx with⟨h1,h2⟩|rfl
  ·rw [h.opn x h1]
   constructor
   ·rintro⟨y,hy,e⟩;exact⟨y,List.mem_append_left _ hy,e⟩
   ·rintro⟨y,hy,e⟩
    rcases List.mem_append.1 hy with hy|hy
    ·exact⟨y,hy,e⟩
    ·simp only [List.mem_singleton]at hy
     subst hy
     exact absurd e.1 h2
  ·show (a.isopen || b.any λy=>decide (aQ y a=0) && y.isopen)=true↔_
   rw [Bool.or_eq_true,List.any_eq_true]
   constructor
   ·rintro(h1|⟨z,hz,h1⟩)
    ·exact⟨a,by simp,by rw [ha,dA],h1⟩
    ·rw [Bool.and_eq_true,decide_eq_true_eq]at h1
     obtain⟨y,hy,e,ho⟩:=(h.opn z hz).1 h1.2
     refine⟨y,List.mem_append_left _ hy, ?_,ho⟩
     rw [ha,bO,<-bO.1 h1.1]
     exact bO.1 e
   ·rintro⟨y,hy,e,ho⟩
    rcases List.mem_append.1 hy with hy|hy
    ·obtain⟨x,hx,e2⟩:=h.all y hy
     refine .inr ⟨x,hx, ?_⟩
     rw [Bool.and_eq_true,decide_eq_true_eq]
     rw [ha]at e
     refine⟨?_,(h.opn x hx).2 ⟨y,hy,e2,ho⟩⟩
     rw [bO,bO.1 e]
     exact bO.1 e2
    ·simp only [List.mem_singleton]at hy
     subst hy
     exact .inl ho
theorem aHq: ∀(todo done b:List Ax),NewOf done b->NewOf (done++todo) (todo.foldl wY b)
 | [],done,b,h=>by simpa using h
 |a::r,done,b,h=>by
  have:=aHq r (done++[a]) (wY b a) (h.ins a)
  rw [List.append_assoc]at this
  exact this
theorem aQ2 (tl:List Ax):tl.foldl wY []=aKr tl:=by
 have h0:NewOf [] []:=⟨.nil,by simp,by simp,by simp⟩
 exact(aHq tl [] [] h0).unique (aB4 tl)
theorem aD8: ∀(tl b:List Ax),(tl.foldl wY b).length<=b.length+tl.length
 | [],b=>by simp
 |a::r,b=>by
  have h1:=aD8 r (wY b a)
  have h2:=aHf a b
  rw [List.foldl_cons,List.length_cons];omega
end Go.Proofs.YtfhoddcminbffaaGreatDoor
namespace Go.Proofs.YtfhoddcminbffaaGreatDoor
open Go.Proofs
set_option maxRecDepth 10000
attribute [local irreducible] aM aJ Tri aH YVC dI bI
theorem aAt (l:List Ax) (a:Ax) (ha:SmA a) (hl: ∀y∈l,SmA y) (hn:l.length<=1000000):Tri Tryz.prog 55 [.d (.sl 16 (l.map axR)), .d (.agg (axR a))] [] (λr=>r= .d (.sl 16 ((wY l a).map axR))):=by
 have hta:(l.map axR).take l.length=l.map axR:=List.take_of_length_le (by simp)
 have hrl:(l.map axR).length=l.length:=List.length_map ..
 refine aK hty Tryz.func55 rfl (kp [0,1,3,4,5,6,19,39]) [] _ _ _ (by simp [Tryz.f55]) (by simp) ?_
 ((conv=>whnf);repeat ((first|(intro hq;try simp only [lnS]at hq)|refine sI ?_|refine .intro _ (.intro rfl ?_));(conv=>whnf)))
 refine aG hty (λj:Nat=>([(0, .d (.sl 16 (l.map axR))),(3, .ptr 3 0),(5, .d (.int .i64 j))],[(3, .cells 48 ((axR a).map .d))])) (λj=>j<=l.length/\ ∀y∈l.take j,aQ y a < 0) (λj=>l.length - j) 0 ⟨by omega,by simp⟩ ⟨by repeat' (first|exact trivial|exact rfl|refine And.intro ?_ ?_),by repeat' (first|exact trivial|exact rfl|refine And.intro ?_ ?_)⟩ ?_
 rintro j ⟨hj,ih⟩
 by_cases hjl:j < l.length
 ·have hrow:=bR hjl
  have hy:=hl _ (List.getElem_mem hjl)
  have c:=eH l[j] a hy.1 hy.2.1 hy.2.2 ha.1 ha.2.1 ha.2.2
  have hw:=aFq l a j hj ih
  rw [dif_pos hjl]at hw
  have hih:aQ l[j] a < 0-> ∀y∈l.take (j+1),aQ y a < 0:= λh y hy=>by
   rw [List.take_succ_eq_append_getElem hjl]at hy
   rcases List.mem_append.1 hy with hy|hy
   ·exact ih y hy
   ·simp only [List.mem_singleton]at hy;rw [hy];exact h
  replace hw:= λ(h:¬ aQ l[j] a < 0)=>hw (λ_=>h)
  clear hy
  generalize aQ l[j] a=v at *
  generalize l[j]=y at *
  ((conv=>whnf);repeat ((first|(intro hq;try simp only [lnS]at hq)|refine sI ?_|refine .intro _ (.intro rfl ?_));(conv=>whnf)))
  ((conv=>whnf);repeat' ((first|exact trivial|refine zZ ?_ ?_|((have h9:v=0:=by assumption);(refine fG (id:=8) hty (.first 0 (.first 4 (.first 5 (.first 6 (.alt 1 (.alt 2 (.alt 3 (.alt 7 (.first 8 .done) .stop) .stop) .stop) .stop))))) (by kernel_rfl) (by kernel_rfl) ?_))|((have h9:¬ v=0:=by assumption);(refine fG (id:=9) hty (.first 0 (.first 4 (.first 5 (.first 6 (.alt 1 (.alt 2 (.alt 3 (.alt 7 (.first 8 .done) .stop) .stop) .stop) .stop))))) (by kernel_rfl) (by kernel_rfl) ?_))|(refine And.intro (by simp only [List.length_replicate,List.length_drop,List.length_take,List.length_map,List.length_append,List.length_cons,List.length_nil];omega) ?_)|(refine⟨_,hrow, ?_⟩)|(refine⟨.d (.int .i64 _),_,[],rfl,trivial,c, ?_⟩)|(intro hq;(try simp only [lnS]at hq);(try rewrite [List.length_map]))|refine sJ ?_|refine .intro _ (.intro rfl ?_)|refine exL (k:= ?_)|refine dwR ?_|((first|refine aB ?_ ?_|refine aC ?_ ?_)<;>intro hb<;>(first|exact ddX hb|try simp only [lnS]at hb))|(refine aA ?_ ?_<;>intro hb<;>try exact dsX hb))<;>(conv=>whnf)))
  ·exact⟨j+1,⟨by omega,hih hb⟩,by dsimp only;omega,⟨by repeat' (first|exact trivial|exact rfl|refine And.intro ?_ ?_),by repeat' (first|exact trivial|exact rfl|refine And.intro ?_ ?_)⟩⟩
  all_goals first
   | (rw [hw (by assumption), if_pos (by assumption)]
      refine congrArg (λq=>SV.d (.sl 16 q)) ?_
      simp [List.map_append,List.map_take,List.map_drop,hta,axR, *]
      done)
   | (rw [hw (by assumption), if_neg (by assumption)]
      refine congrArg (λq=>SV.d (.sl 16 q)) ?_
      simp [List.map_append,List.map_take,List.map_drop,hta,axR]
      done)
 ·have hje:j=l.length:=by omega
  have hw:=aFq l a j hj ih (λh=>absurd h hjl)
  rw [dif_neg hjl]at hw
  subst hje
  refine dwR ?_
  ((conv=>whnf);repeat ((first|(intro hq;try simp only [lnS]at hq)|refine sI ?_|refine .intro _ (.intro rfl ?_));(conv=>whnf)))
  refine aB (λh1=> ?_) (λh1=> ?_)
  ·exact absurd (by have h1:((l.length:Nat):Int) < ((l.map axR).length:Nat):=h1;rw [hrl]at h1;omega) hjl
  ((conv=>whnf);repeat ((first|(intro hq;try simp only [lnS]at hq)|refine sI ?_|refine .intro _ (.intro rfl ?_));(conv=>whnf)))
  refine dwR ?_
  ((conv=>whnf);repeat ((first|(intro hq;try simp only [lnS]at hq)|refine sI ?_|refine .intro _ (.intro rfl ?_));(conv=>whnf)))
  refine aB (λh1=> ?_) (λh1=> ?_)
  ·exact absurd (by have h1:((l.length:Nat):Int) < ((l.map axR).length:Nat):=h1;rw [hrl]at h1;omega) hjl
  ((conv=>whnf);repeat ((first|(intro hq;try simp only [lnS]at hq)|refine sI ?_|refine .intro _ (.intro rfl ?_));(conv=>whnf)))
  ((conv=>whnf);repeat' ((first|exact trivial|refine zZ ?_ ?_|(refine fG (id:=9) hty (.first 0 (.first 4 (.first 5 (.first 6 (.alt 1 (.alt 2 (.alt 3 (.alt 7 (.first 8 .done) .stop) .stop) .stop) .stop))))) (by kernel_rfl) (by kernel_rfl) ?_)|(refine And.intro (by simp only [List.length_replicate,List.length_drop,List.length_take,List.length_map,List.length_append,List.length_cons,List.length_nil];omega) ?_)|(intro hq;(try simp only [lnS]at hq);(try rewrite [List.length_map]))|refine sJ ?_|refine .intro _ (.intro rfl ?_)|refine exL (k:= ?_)|refine dwR ?_|((first|refine aB ?_ ?_|refine aC ?_ ?_)<;>intro hb<;>(first|exact ddX hb|try simp only [lnS]at hb))|(refine aA ?_ ?_<;>intro hb<;>try exact dsX hb))<;>(conv=>whnf)))
  all_goals (
   rw [hw]
   refine congrArg (λq=>SV.d (.sl 16 q)) ?_
   simp [List.map_append,List.map_take,List.map_drop,hta,axR])
end Go.Proofs.YtfhoddcminbffaaGreatDoor
namespace Go.Proofs.YtfhoddcminbffaaGreatDoor
open Go.RowKit
section
variable {P:Program}
theorem aC0 (off:Nat) (zc:Bool) (frz:List Nat) {ti:TypeId->Option TI}(hti:fD P ti) {f:FuncId}{fn:Func}{c:Code}(hf:P.funcs[f]? =some fn) (hb:fn.body=some c) (keep:Nat->Bool) (pin:List Nat) (args:List SV) (hp:Hp) (post:SV->Prop)
  (hn:args.length<=fn.ntmps) (hnd:(hp.map (·.1)).Nodup) (hx:X ⟨P,ti,pin,fn.ntmps,keep,off,none,zc,frz⟩ c (dX 0 args) (roH hp) (aM1 ti fn.results.toList post)):Tri P f args hp post:=by
 intro w ρ vs hslt hargs hro
 refine kS (r:=none) (n:=0) |>.1 (callsIn_of_wp_marks hf hb trivial ?_)
 have hm:Mem ⟨w,ρ.S,λ_=>False,pin,ρ,none,[],0⟩ ρ (roH hp) w:=by
  have hat: ∀id o,aU (roH hp) id=some o->ρ.at id o=none:=by
   intro id o ho
   rcases tS hp id o hnd ho with⟨t,cs,rfl,_⟩|⟨g,z,rows,rfl,_⟩|⟨X,rfl,_⟩
   ·rfl
   ·rfl
   ·rfl
  refine⟨rfl,rfl, .refl _,Nat.le_refl _,λ_ _ _=>rfl,λ_ _ h=>h,λ_ _ h _ _=>h,hslt,λ_ _ _=>rfl, ?_, ?_, ?_,λid _=>ρ.moved_refl id, ?_,λb hb=>by cases hb⟩
  ·intro id o ho
   rcases tS hp id o hnd ho with⟨t,cs,rfl,h|h⟩|⟨g,z,rows,rfl,h⟩|⟨X,rfl,h|h⟩
   ·exact hro id _ h
   ·exact hro id _ h
   ·exact hro id _ h
   ·exact hro id _ h
   ·exact hro id _ h
  ·intro id o id' o' g h1 _ h3 _;rw [hat id o h1]at h3;cases h3
  ·intro id o g h1 h3;rw [hat id o h1]at h3;cases h3
  ·intro id x g _ _ _ id' o' h3 h4;rw [hat id' o' h3]at h4;cases h4
 have hfs:dY ρ w (dX 0 args) (vs++Array.replicate (fn.ntmps - vs.size) undef):=by
  intro t s ht
  obtain⟨_,h2⟩:=rF args 0 t s ht
  simp only [Nat.sub_zero]at h2
  have hlt:=(List.getElem?_eq_some_iff.1 h2).1
  have hlt':t < vs.size:=by rw [hargs.1];exact hlt
  refine⟨vs[t], ?_,hargs.2 t s _ h2 (Array.getElem?_eq_getElem hlt')⟩
  rw [Array.getElem?_append_left hlt',Array.getElem?_eq_getElem hlt']
 refine wpIn_mono (nC (C:=⟨P,ti,pin,fn.ntmps,keep,off,none,zc,frz⟩) hti c _ _ _ hx ⟨w,ρ.S,λ_=>False,pin,ρ,none,[],0⟩ _ w rfl rfl ⟨?_,rfl,ρ,hm,hfs⟩) ?_
 ·simp only [Array.size_append,Array.size_replicate]
  have:=hargs.1
  omega
 ·rintro e a' w' ⟨x,fr',hp',E',hE,hrel,hk,hnt,hdf,ρ',hm',hf'⟩
  obtain⟨own,o1,o2,o3,o4,o5⟩:=aAc hE rfl
  have fin:qX ti fr' hp' fn.results.toList (λl=>rW hp' l λl=>(dQ l).ids=[]/\post (dQ l))->LeavesInM (FW none) 0 P fn a'.tmps (λe w'=> ∃v S' s,e= .returned v/\post s/\Grew w w'/\(∀b i,ρ.S b i->S' b i)/\(∀b i,S' b i->ρ.S b i\/w.heap.size<=b)/\(∀b i,S' b i->b < w'.heap.size)/\Rep w' (ρ.withS S') s v) a'.defers .returning w':=by
   intro hk
   rw [hdf,o2]
   refine aAn own E' w' hm' ⟨_,o1,o5⟩ o4 o3 ?_
   rintro E'' w'' ⟨q1,q2,q3,q4,q5,q6⟩ hm'' hkp
   have hf'':dY ρ' w'' fr' a'.tmps:=hf'.mono hkp (λ_ _ x=>x) λi _=>ρ'.moved_refl i
   obtain⟨us,l,r1,r2,r3,r4⟩:=aM2 hti hm'' hf'' _ _ hk
   obtain⟨l',⟨k1,k2⟩,k3,k4⟩:=oZ hm'' l us _ r2 r3 r4
   have eW:E''.w=w:=q1.trans hE.w
   have eS:E''.S=ρ.S:=q2.trans hE.S
   have eB:E''.B= λ_=>False:=q3.trans hE.B
   refine⟨_,oJ r1,_,Sfz ρ' hp',dQ l',rfl,k2,⟨by rw [hm''.os,eW],by rw [hm''.tape,eW],by have:=hm''.output;rw [eW]at this;exact this,by have:=hm''.size;rw [eW]at this;exact this,λb hb=> ?_⟩,λb i hs=> .inl (hm''.sold b i (by rw [eS];exact hs)), ?_, ?_, ?_⟩
   ·have:=hm''.old b (by rw [eW];exact hb) (by rw [eB];exact λh=>h)
    rw [eW]at this;exact this
   ·rintro b i (hs|⟨id,e,z,cap,rows,ho,hb,_⟩)
    ·rcases Nat.lt_or_ge b w.heap.size with hlt|hge
     ·left
      have:=hm''.snew b i hs (by rw [eW];exact hlt) (by rw [eB];exact λh=>h)
      rw [eS]at this;exact this
     ·exact .inr hge
    ·rcases hm''.hb id _ b ho hb with hge|hB
     ·rw [eW]at hge;exact .inr hge
     ·rw [eB]at hB;exact hB.elim
   ·rintro b i (hs|⟨id,e,z,cap,rows,ho,hb,_⟩)
    ·exact hm''.slt b i hs
    ·exact hm''.blk_lt ho hb
   ·refine(uN (w:=w'') (ρ:=ρ'.withS (Sfz ρ' hp')) (l:=l') (by rw [k3];exact r2) k4).mono (λ_ _ _=>rfl) (λ_ _ h=>h) λid hid=> ?_
    rw [k1]at hid
    cases hid
  cases x<;>cases e<;>simp only [Ex.rel]at hrel<;>simp only [aM1]at hk
  ·exact fin hk
  ·exact hk.elim
  ·exact hk.elim
  ·exact fin hk
end
end Go.Proofs.YtfhoddcminbffaaGreatDoor
namespace Go.Proofs.YtfhoddcminbffaaGreatDoor
open Go.Proofs
set_option maxRecDepth 10000
attribute [local irreducible] aM aJ Tri aH YVC dI bI
def aHe (done:Bool) (c:Cn) (l:List Cn):List Cn:=if done then l else tR c l
theorem sG (l:List Cn) (c:Cn) (hc:aN c<=1000000) (hl: ∀d∈l,aN d<=1000000) (hn:l.length<=1000000):Tri Tryz.prog 172 [.d (.sl 5 (l.map cnR)), .d (.agg (cnR c))] [] (λr=>r= .d (.sl 5 ((tR c l).map cnR))):=by
 have hcr:=aL c
 rw [aL c]
 refine aF false [3] hty Tryz.func172 rfl (kp [0,1,3,4,5,6,7,8,13,23,29,42]) [] _ _ _ (by simp [Tryz.f172]) (by simp) ?_
 ((conv=>whnf);repeat ((first|(intro hq;try simp only [lnS]at hq)|refine sI ?_|refine .intro _ (.intro rfl ?_));(conv=>whnf)))
 refine aG hty (λy:Nat×Bool×List Cn=>([(0, .d (.sl 5 (l.map cnR))),(3, .ea 5 [[.int .i64 c.kind, .str c.name, .int .i64 c.lo, .int .i64 c.hi, .sl 5 (c.parts.map cnR)]] 0 0),(5, .osl 9 5 (y.2.2.map cnR)),(6, .d (.bool y.2.1)),(7, .d (.int .i64 y.1))],[(9, .own 46 5 (y.2.2.map cnR).length)])) (λy=>(y.1<=l.length/\y.2.2.length<=y.1+(if y.2.1 then 1 else 0))/\y.2.2++aHe y.2.1 c (l.drop y.1)=tR c l) (λy=>l.length - y.1) (0,false,[]) ⟨⟨by dsimp only;omega,by simp⟩,rfl⟩ ⟨by repeat' (first|exact trivial|exact rfl|refine And.intro ?_ ?_),by repeat' (first|exact trivial|exact rfl|refine And.intro ?_ ?_)⟩ ?_
 rintro⟨j,dn,out⟩ ⟨⟨hj,ho⟩,hinv⟩
 dsimp only at hj ho hinv
 ((conv=>whnf);repeat ((first|(intro hq;try simp only [lnS]at hq)|refine sI ?_|refine .intro _ (.intro rfl ?_));(conv=>whnf)))
 refine aB (λh1=> ?_) (λh1=> ?_)
 ·have hjl:j < l.length:=by have h1:(j:Int) < ((l.map cnR).length:Nat):=h1;rw [List.length_map]at h1;omega
  have hrow:(l.map cnR)[(j:Int).toNat]? =some (cnR l[j]):=bC hjl
  have hcmp:=iI c l[j] hc (hl _ (List.getElem_mem hjl))
  rw [List.drop_eq_getElem_cons hjl]at hinv
  generalize l[j]=d at hrow hcmp hinv
  have hdr:=aL d
  rw [aL,aL]at hcmp
  rw [aL]at hrow
  have hins:tR c (d::l.drop (j+1))=if gJ c d < 0 then c::d::l.drop (j+1)else if gJ c d=0 then d::l.drop (j+1)else d::tR c (l.drop (j+1)):=rfl
  generalize gJ c d=n at hcmp hins
  have ho2:out.length<=j+1:=by split at ho<;>omega
  ((conv=>whnf);repeat' ((first|(intro hq;(try simp only [lnS]at hq);(try rewrite [List.length_map]))|refine sJ ?_|refine .intro _ (.intro rfl ?_)|refine exL (k:= ?_)|(refine⟨_,hrow, ?_⟩)|(refine⟨.d (.int .i64 _),_,[],rfl,trivial,hcmp, ?_⟩)|(refine And.intro (by simp only [List.length_replicate,List.length_set,List.length_map,List.length_append,List.length_cons,List.length_nil];omega) ?_)|refine dwR ?_|((first|refine aB ?_ ?_|refine aC ?_ ?_)<;>intro hb<;>(first|exact ddX hb|try simp only [lnS]at hb))|(refine aA ?_ ?_<;>intro hb<;>try exact dsX hb))<;>(conv=>whnf)))
  ·rename_i hb0
   have hins2:aHe dn c (d::l.drop (j+1))=d::aHe true c (l.drop (j+1)):=by
    cases dn
    ·rw [aHe,if_neg (by decide),hins,if_neg hb,if_pos hb0];rfl
    ·rfl
   rw [hins2]at hinv
   refine⟨(j+1,true,out++[d]),⟨⟨by dsimp only;omega,by dsimp only;rw [List.length_append,List.length_singleton];first|omega|(simp at ho |-;omega)|(simp at ho |-;split at ho<;>omega)⟩,by dsimp only;rw [List.append_assoc];exact hinv⟩,by dsimp only;omega, ?_⟩
   dsimp only
   rw [List.map_append,List.map_singleton,hdr,List.length_append]
   exact⟨by repeat' (first|exact trivial|exact rfl|refine And.intro ?_ ?_),by repeat' (first|exact trivial|exact rfl|refine And.intro ?_ ?_)⟩
  ·rename_i hb0 hb1
   have hdn:dn=false:=by simpa using hb
   subst hdn
   have hins2:aHe false c (d::l.drop (j+1))=c::d::aHe true c (l.drop (j+1)):=by rw [aHe,if_neg (by decide),hins,if_pos hb1];rfl
   rw [hins2]at hinv
   refine⟨(j+1,true,out++[c]++[d]),⟨⟨by dsimp only;omega,by dsimp only;simp only [List.length_append,List.length_singleton]at *;simp at ho |-;omega⟩,by dsimp only;rw [List.append_assoc,List.append_assoc];exact hinv⟩,by dsimp only;omega, ?_⟩
   dsimp only
   rw [List.map_append,List.map_append,List.map_singleton,List.map_singleton,hdr,hcr]
   simp only [List.length_append]
   exact⟨by repeat' (first|exact trivial|exact rfl|refine And.intro ?_ ?_),by repeat' (first|exact trivial|exact rfl|refine And.intro ?_ ?_)⟩
  ·rename_i hb0 hb1
   have hdn:dn=true:=by simpa using hb
   subst hdn
   rw [show aHe true c (d::l.drop (j+1))=d::aHe true c (l.drop (j+1))from rfl]at hinv
   refine⟨(j+1,true,out++[d]),⟨⟨by dsimp only;omega,by dsimp only;rw [List.length_append,List.length_singleton];first|omega|(simp at ho |-;omega)|(simp at ho |-;split at ho<;>omega)⟩,by dsimp only;rw [List.append_assoc];exact hinv⟩,by dsimp only;omega, ?_⟩
   dsimp only
   rw [List.map_append,List.map_singleton,hdr,List.length_append]
   exact⟨by repeat' (first|exact trivial|exact rfl|refine And.intro ?_ ?_),by repeat' (first|exact trivial|exact rfl|refine And.intro ?_ ?_)⟩
  ·rename_i hb0
   have hins2:aHe dn c (d::l.drop (j+1))=d::aHe dn c (l.drop (j+1)):=by
    cases dn
    ·rw [aHe,if_neg (by decide),hins,if_neg hb,if_neg hb0];rfl
    ·rfl
   rw [hins2]at hinv
   refine⟨(j+1,dn,out++[d]),⟨⟨by dsimp only;omega,by dsimp only;rw [List.length_append,List.length_singleton];first|omega|(simp at ho |-;omega)|(simp at ho |-;split at ho<;>omega)⟩,by dsimp only;rw [List.append_assoc];exact hinv⟩,by dsimp only;omega, ?_⟩
   dsimp only
   rw [List.map_append,List.map_singleton,hdr,List.length_append]
   exact⟨by repeat' (first|exact trivial|exact rfl|refine And.intro ?_ ?_),by repeat' (first|exact trivial|exact rfl|refine And.intro ?_ ?_)⟩
 ·have hjl:j=l.length:=by have h1:¬ (j:Int) < ((l.map cnR).length:Nat):=h1;rw [List.length_map]at h1;omega
  have ho2:out.length<=j+1:=by split at ho<;>omega
  subst hjl
  rw [List.drop_length]at hinv
  ((conv=>whnf);repeat' ((first|(intro hq;(try simp only [lnS]at hq);(try rewrite [List.length_map]))|refine sJ ?_|refine .intro _ (.intro rfl ?_)|refine exL (k:= ?_)|(refine And.intro (by simp only [List.length_replicate,List.length_set,List.length_map,List.length_append,List.length_cons,List.length_nil];omega) ?_)|refine dwR ?_|((first|refine aB ?_ ?_|refine aC ?_ ?_)<;>intro hb<;>(first|exact ddX hb|try simp only [lnS]at hb))|(refine aA ?_ ?_<;>intro hb<;>try exact dsX hb))<;>(conv=>whnf)))
  ·have hdn:dn=false:=by simpa using hb
   subst hdn
   rw [<-hinv]
   refine congrArg (λq=>SV.d (.sl 5 q)) ?_
   simp [aHe,tR,hcr]
  ·have hdn:dn=true:=by simpa using hb
   subst hdn
   rw [<-hinv,show aHe true c []=[]from rfl,List.append_nil]
   rfl
def pF (c:Cn):List Cn:=if c.kind=5 then c.parts else [c]
def eI (s l:List Cn):List Cn:=l.foldl (λr t=>if t.kind=1 then r else tR t r) s
theorem uM (s l m:List Cn):eI s (l++m)=eI (eI s l) m:=List.foldl_append
theorem yG {s l:List Cn}{j:Nat}(h:j < l.length):eI s (l.take (j+1))=if l[j].kind=1 then eI s (l.take j)else tR l[j] (eI s (l.take j)):=by
 rw [List.take_succ_eq_append_getElem h,uM];rfl
theorem uL: ∀(l s:List Cn),aG8 s->aG8 (eI s l)
 | [],s,h=>h
 |c::r,s,h=>by
  show aG8 (eI (if c.kind=1 then s else tR c s) r)
  split
  ·exact uL r s h
  ·exact uL r _ (aAf h)
theorem aC6 {x:Cn}: ∀(l s:List Cn),x∈eI s l↔x∈s\/x∈l/\x.kind≠1
 | [],s=>by simp [eI]
 |c::r,s=>by
  have ih:=aC6 (x:=x) r (if c.kind=1 then s else tR c s)
  show x∈eI (if c.kind=1 then s else tR c s) r↔_
  rw [ih]
  split
  ·rename_i h1
   constructor
   ·rintro(h|⟨h,hk⟩)
    ·exact .inl h
    ·exact .inr ⟨by simp [h],hk⟩
   ·rintro(h|⟨h,hk⟩)
    ·exact .inl h
    ·rcases List.mem_cons.1 h with rfl|h
     ·exact absurd h1 hk
     ·exact .inr ⟨h,hk⟩
  ·rename_i h1
   rw [tO]
   constructor
   ·rintro((rfl|h)|⟨h,hk⟩)
    ·exact .inr ⟨by simp,h1⟩
    ·exact .inl h
    ·exact .inr ⟨by simp [h],hk⟩
   ·rintro(h|⟨h,hk⟩)
    ·exact .inl (.inr h)
    ·rcases List.mem_cons.1 h with rfl|h
     ·exact .inl (.inl rfl)
     ·exact .inr ⟨h,hk⟩
theorem mB: ∀(l s:List Cn),gM (eI s l)<=gM s+gM l
 | [],s=>by simp [eI]
 |c::r,s=>by
  have ih:=mB r (if c.kind=1 then s else tR c s)
  show gM (eI (if c.kind=1 then s else tR c s) r)<=_
  rw [bL]
  split at ih
  ·rename_i h1;rw [if_pos h1];omega
  ·rename_i h1;rw [if_neg h1]
   have:=aAd c s
   omega
theorem aTa (c:Cn):gM (pF c)<=aN c:=by
 unfold pF
 split
 ·have:=cR c;omega
 ·rw [bL,jI];omega
theorem aFd: ∀l:List Cn,gM (l.flatMap pF)<=gM l
 | []=>by simp
 |c::r=>by
  have h1:=aFd r
  have h2:=aTa c
  rw [List.flatMap_cons,kZ,bL];omega
theorem aJa (l:List Cn) (hl:gM l<=1000000):Tri Tryz.prog 137 [.d (.sl 5 (l.map cnR))] [] (PairW (eE (eI [] (l.flatMap pF))).1 (eE (eI [] (l.flatMap pF))).2):=by
 have hln:=iJ l
 refine aF false [] hty Tryz.func137 rfl (kp [0,2,3,4,5,6,7,8,13,26,35,43,53,61,68,72,78]) [] _ _ _ (by simp [Tryz.f137]) (by simp) ?_
 ((conv=>whnf);repeat ((first|(intro hq;try simp only [lnS]at hq)|refine sI ?_|refine .intro _ (.intro rfl ?_));(conv=>whnf)))
 refine aG hty (λj:Nat=>([(0, .d (.sl 5 (l.map cnR))),(2, .ptr 2 0),(4, .d (.sl 5 ((eI [] ((l.take j).flatMap pF)).map cnR))),(5, .d (.int .i64 j))],[(2, .cells 46 [.d (.int .i64 0), .d (.str []), .d (.int .i64 0), .d (.int .i64 0), .d .nil])])) (λj=>j<=l.length) (λj=>l.length - j) 0 (by omega) ⟨by repeat' (first|exact trivial|exact rfl|refine And.intro ?_ ?_),by repeat' (first|exact trivial|exact rfl|refine And.intro ?_ ?_)⟩ ?_
 rintro j hj
 ((conv=>whnf);repeat ((first|(intro hq;try simp only [lnS]at hq)|refine sI ?_|refine .intro _ (.intro rfl ?_));(conv=>whnf)))
 refine aB (λh1=> ?_) (λh1=> ?_)
 ·have hjl:j < l.length:=by have h1:(j:Int) < ((l.map cnR).length:Nat):=h1;rw [List.length_map]at h1;omega
  have hrow:(l.map cnR)[(j:Int).toNat]? =some (cnR l[j]):=bC hjl
  have hft:(l.take (j+1)).flatMap pF=(l.take j).flatMap pF++pF l[j]:=by rw [List.take_succ_eq_append_getElem hjl,List.flatMap_append];simp
  have hsm:=aFd (l.take (j+1))
  have hst:gM (l.take (j+1))<=gM l:=eC l (j+1)
  rw [hft,kZ]at hsm
  have hrs:=mB ((l.take j).flatMap pF) []
  rw [jI]at hrs
  generalize l[j]=x at *
  have hxr:=aL x
  rw [aL]at hrow
  generalize (l.take j).flatMap pF=done at *
  ((conv=>whnf);repeat ((first|(refine⟨_,hrow, ?_⟩)|(intro hq;try simp only [lnS]at hq)|refine sI ?_|refine .intro _ (.intro rfl ?_));(conv=>whnf)))
  refine aB (λh5=> ?_) (λh5=> ?_)
  ·have hp5:pF x=x.parts:=if_pos h5
   ((conv=>whnf);repeat ((first|(refine⟨_,hrow, ?_⟩)|(intro hq;try simp only [lnS]at hq)|refine sI ?_|refine .intro _ (.intro rfl ?_));(conv=>whnf)))
   refine aG hty (λk:Nat=>([(0, .d (.sl 5 (l.map cnR))),(2, .ptr 2 0),(4, .d (.sl 5 ((eI (eI [] done) ((pF x).take k)).map cnR))),(5, .d (.int .i64 j)),(6, .d (.sl 5 ((pF x).map cnR))),(7, .d (.int .i64 k))],[(2, .cells 46 [.d (.int .i64 0), .d (.str []), .d (.int .i64 0), .d (.int .i64 0), .d .nil])])) (λk=>k<=(pF x).length) (λk=>(pF x).length - k) 0 (by omega) ?_ ?_
   ·rw [hp5]
    try rw [List.map_singleton,hxr]
    exact⟨by repeat' (first|exact trivial|exact rfl|refine And.intro ?_ ?_),by repeat' (first|exact trivial|exact rfl|refine And.intro ?_ ?_)⟩
   rintro k hk
   generalize pF x=ps at *
   have hks:=mB (ps.take k) (eI [] done)
   have hkt:gM (ps.take k)<=gM ps:=eC ps k
   have hlr:=iJ (eI (eI [] done) (ps.take k))
   ((conv=>whnf);repeat ((first|(intro hq;try simp only [lnS]at hq)|refine sI ?_|refine .intro _ (.intro rfl ?_));(conv=>whnf)))
   refine aB (λh2=> ?_) (λh2=> ?_)
   ·have hkl:k < ps.length:=by have h2:(k:Int) < ((ps.map cnR).length:Nat):=h2;rw [List.length_map]at h2;omega
    have hrow2:(ps.map cnR)[(k:Int).toNat]? =some (cnR ps[k]):=bC hkl
    have hsn:=yG (s:=eI [] done) hkl
    have hsz:=nJ (List.getElem_mem hkl)
    have hin:=sG (eI (eI [] done) (ps.take k)) ps[k] (by omega) (λd hd=>by have:=nJ hd;omega) (by omega)
    generalize ps[k]=y at *
    have hyr:=aL y
    rw [aL]at hrow2 hin
    ((conv=>whnf);repeat ((first|(refine⟨_,hrow2, ?_⟩)|(intro hq;try simp only [lnS]at hq)|refine sI ?_|refine .intro _ (.intro rfl ?_));(conv=>whnf)))
    refine aC (λh3=> ?_) (λh3=> ?_)
    ·((conv=>whnf);repeat ((first|(refine⟨_,hrow2, ?_⟩)|(intro hq;try simp only [lnS]at hq)|refine sI ?_|refine .intro _ (.intro rfl ?_));(conv=>whnf)))
     refine aD [] hin trivial (λr hs=> ?_)
     subst hs
     ((conv=>whnf);repeat' ((first|(intro hq;(try simp only [lnS]at hq);(try rewrite [List.length_map]))|refine sJ ?_|refine .intro _ (.intro rfl ?_)|refine exL (k:= ?_)|refine dwR ?_|((first|refine aB ?_ ?_|refine aC ?_ ?_)<;>intro hb<;>(first|exact ddX hb|try simp only [lnS]at hb))|(refine aA ?_ ?_<;>intro hb<;>try exact dsX hb))<;>(conv=>whnf)))
     rw [if_neg h3]at hsn
     rw [<-hsn]
     exact⟨k+1,by omega,by dsimp only;omega,⟨by repeat' (first|exact trivial|exact rfl|refine And.intro ?_ ?_),by repeat' (first|exact trivial|exact rfl|refine And.intro ?_ ?_)⟩⟩
    ·((conv=>whnf);repeat' ((first|(intro hq;(try simp only [lnS]at hq);(try rewrite [List.length_map]))|refine sJ ?_|refine .intro _ (.intro rfl ?_)|refine exL (k:= ?_)|refine dwR ?_|((first|refine aB ?_ ?_|refine aC ?_ ?_)<;>intro hb<;>(first|exact ddX hb|try simp only [lnS]at hb))|(refine aA ?_ ?_<;>intro hb<;>try exact dsX hb))<;>(conv=>whnf)))
     rw [if_pos (by simpa using h3)]at hsn
     rw [<-hsn]
     exact⟨k+1,by omega,by dsimp only;omega,⟨by repeat' (first|exact trivial|exact rfl|refine And.intro ?_ ?_),by repeat' (first|exact trivial|exact rfl|refine And.intro ?_ ?_)⟩⟩
   ·have hkl:k=ps.length:=by have h2:¬ (k:Int) < ((ps.map cnR).length:Nat):=h2;rw [List.length_map]at h2;omega
    subst hkl
    rw [List.take_length,<-uM,<-hft]
    ((conv=>whnf);repeat' ((first|(intro hq;(try simp only [lnS]at hq);(try rewrite [List.length_map]))|refine sJ ?_|refine .intro _ (.intro rfl ?_)|refine exL (k:= ?_)|refine dwR ?_|((first|refine aB ?_ ?_|refine aC ?_ ?_)<;>intro hb<;>(first|exact ddX hb|try simp only [lnS]at hb))|(refine aA ?_ ?_<;>intro hb<;>try exact dsX hb))<;>(conv=>whnf)))
    exact⟨j+1,by omega,by dsimp only;omega,⟨by repeat' (first|exact trivial|exact rfl|refine And.intro ?_ ?_),by repeat' (first|exact trivial|exact rfl|refine And.intro ?_ ?_)⟩⟩
  ·have hp5:pF x=[x]:=if_neg h5
   ((conv=>whnf);repeat ((first|(refine⟨_,hrow, ?_⟩)|(intro hq;try simp only [lnS]at hq)|refine sI ?_|refine .intro _ (.intro rfl ?_));(conv=>whnf)))
   refine aG hty (λk:Nat=>([(0, .d (.sl 5 (l.map cnR))),(2, .ptr 2 0),(4, .d (.sl 5 ((eI (eI [] done) ((pF x).take k)).map cnR))),(5, .d (.int .i64 j)),(6, .d (.sl 5 ((pF x).map cnR))),(7, .d (.int .i64 k))],[(2, .cells 46 [.d (.int .i64 0), .d (.str []), .d (.int .i64 0), .d (.int .i64 0), .d .nil])])) (λk=>k<=(pF x).length) (λk=>(pF x).length - k) 0 (by omega) ?_ ?_
   ·rw [hp5]
    try rw [List.map_singleton,hxr]
    exact⟨by repeat' (first|exact trivial|exact rfl|refine And.intro ?_ ?_),by repeat' (first|exact trivial|exact rfl|refine And.intro ?_ ?_)⟩
   rintro k hk
   generalize pF x=ps at *
   have hks:=mB (ps.take k) (eI [] done)
   have hkt:gM (ps.take k)<=gM ps:=eC ps k
   have hlr:=iJ (eI (eI [] done) (ps.take k))
   ((conv=>whnf);repeat ((first|(intro hq;try simp only [lnS]at hq)|refine sI ?_|refine .intro _ (.intro rfl ?_));(conv=>whnf)))
   refine aB (λh2=> ?_) (λh2=> ?_)
   ·have hkl:k < ps.length:=by have h2:(k:Int) < ((ps.map cnR).length:Nat):=h2;rw [List.length_map]at h2;omega
    have hrow2:(ps.map cnR)[(k:Int).toNat]? =some (cnR ps[k]):=bC hkl
    have hsn:=yG (s:=eI [] done) hkl
    have hsz:=nJ (List.getElem_mem hkl)
    have hin:=sG (eI (eI [] done) (ps.take k)) ps[k] (by omega) (λd hd=>by have:=nJ hd;omega) (by omega)
    generalize ps[k]=y at *
    have hyr:=aL y
    rw [aL]at hrow2 hin
    ((conv=>whnf);repeat ((first|(refine⟨_,hrow2, ?_⟩)|(intro hq;try simp only [lnS]at hq)|refine sI ?_|refine .intro _ (.intro rfl ?_));(conv=>whnf)))
    refine aC (λh3=> ?_) (λh3=> ?_)
    ·((conv=>whnf);repeat ((first|(refine⟨_,hrow2, ?_⟩)|(intro hq;try simp only [lnS]at hq)|refine sI ?_|refine .intro _ (.intro rfl ?_));(conv=>whnf)))
     refine aD [] hin trivial (λr hs=> ?_)
     subst hs
     ((conv=>whnf);repeat' ((first|(intro hq;(try simp only [lnS]at hq);(try rewrite [List.length_map]))|refine sJ ?_|refine .intro _ (.intro rfl ?_)|refine exL (k:= ?_)|refine dwR ?_|((first|refine aB ?_ ?_|refine aC ?_ ?_)<;>intro hb<;>(first|exact ddX hb|try simp only [lnS]at hb))|(refine aA ?_ ?_<;>intro hb<;>try exact dsX hb))<;>(conv=>whnf)))
     rw [if_neg h3]at hsn
     rw [<-hsn]
     exact⟨k+1,by omega,by dsimp only;omega,⟨by repeat' (first|exact trivial|exact rfl|refine And.intro ?_ ?_),by repeat' (first|exact trivial|exact rfl|refine And.intro ?_ ?_)⟩⟩
    ·((conv=>whnf);repeat' ((first|(intro hq;(try simp only [lnS]at hq);(try rewrite [List.length_map]))|refine sJ ?_|refine .intro _ (.intro rfl ?_)|refine exL (k:= ?_)|refine dwR ?_|((first|refine aB ?_ ?_|refine aC ?_ ?_)<;>intro hb<;>(first|exact ddX hb|try simp only [lnS]at hb))|(refine aA ?_ ?_<;>intro hb<;>try exact dsX hb))<;>(conv=>whnf)))
     rw [if_pos (by simpa using h3)]at hsn
     rw [<-hsn]
     exact⟨k+1,by omega,by dsimp only;omega,⟨by repeat' (first|exact trivial|exact rfl|refine And.intro ?_ ?_),by repeat' (first|exact trivial|exact rfl|refine And.intro ?_ ?_)⟩⟩
   ·have hkl:k=ps.length:=by have h2:¬ (k:Int) < ((ps.map cnR).length:Nat):=h2;rw [List.length_map]at h2;omega
    subst hkl
    rw [List.take_length,<-uM,<-hft]
    ((conv=>whnf);repeat' ((first|(intro hq;(try simp only [lnS]at hq);(try rewrite [List.length_map]))|refine sJ ?_|refine .intro _ (.intro rfl ?_)|refine exL (k:= ?_)|refine dwR ?_|((first|refine aB ?_ ?_|refine aC ?_ ?_)<;>intro hb<;>(first|exact ddX hb|try simp only [lnS]at hb))|(refine aA ?_ ?_<;>intro hb<;>try exact dsX hb))<;>(conv=>whnf)))
    exact⟨j+1,by omega,by dsimp only;omega,⟨by repeat' (first|exact trivial|exact rfl|refine And.intro ?_ ?_),by repeat' (first|exact trivial|exact rfl|refine And.intro ?_ ?_)⟩⟩
 have hjl:j=l.length:=by have h1:¬ (j:Int) < ((l.map cnR).length:Nat):=h1;rw [List.length_map]at h1;omega
 subst hjl
 rw [List.take_length]
 have hrs:=mB (l.flatMap pF) []
 have hps:=aFd l
 rw [jI]at hrs
 have hsl:=iJ (eI [] (l.flatMap pF))
 generalize eI [] (l.flatMap pF)=s at *
 ((conv=>whnf);repeat ((first|(intro hq;try simp only [lnS]at hq)|refine sI ?_|refine .intro _ (.intro rfl ?_));(conv=>whnf)))
 refine aG hty (λi:Nat=>([(2, .ptr 2 0),(4, .d (.sl 5 (s.map cnR))),(8, .d (.int .i64 i))],[(2, .cells 46 [.d (.int .i64 0), .d (.str []), .d (.int .i64 0), .d (.int .i64 0), .d .nil])])) (λi=>i<=s.length/\(s.take i).find? (λt=>decide (t.kind=2))=none) (λi=>s.length - i) 0 ⟨by omega,rfl⟩ ⟨by repeat' (first|exact trivial|exact rfl|refine And.intro ?_ ?_),by repeat' (first|exact trivial|exact rfl|refine And.intro ?_ ?_)⟩ ?_
 rintro i ⟨hi,hin⟩
 ((conv=>whnf);repeat ((first|(intro hq;try simp only [lnS]at hq)|refine sI ?_|refine .intro _ (.intro rfl ?_));(conv=>whnf)))
 refine aB (λh2=> ?_) (λh2=> ?_)
 ·have hil:i < s.length:=by have h2:(i:Int) < ((s.map cnR).length:Nat):=h2;rw [List.length_map]at h2;omega
  have hrow:(s.map cnR)[(i:Int).toNat]? =some (cnR s[i]):=bC hil
  rw [aL]at hrow
  obtain⟨hf1,hf2⟩:=aDd hil hin
  ((conv=>whnf);repeat ((first|(refine⟨_,hrow, ?_⟩)|(intro hq;try simp only [lnS]at hq)|refine sI ?_|refine .intro _ (.intro rfl ?_));(conv=>whnf)))
  refine aB (λh3=> ?_) (λh3=> ?_)
  ·((conv=>whnf);repeat' ((first|(intro hq;(try simp only [lnS]at hq);(try rewrite [List.length_map]))|refine sJ ?_|refine .intro _ (.intro rfl ?_)|refine exL (k:= ?_)|(refine⟨_,hrow, ?_⟩)|refine dwR ?_|((first|refine aB ?_ ?_|refine aC ?_ ?_)<;>intro hb<;>(first|exact ddX hb|try simp only [lnS]at hb))|(refine aA ?_ ?_<;>intro hb<;>try exact dsX hb))<;>(conv=>whnf)))
   rw [zR (hf1 h3)]
   exact pI _ _
  ·((conv=>whnf);repeat' ((first|(intro hq;(try simp only [lnS]at hq);(try rewrite [List.length_map]))|refine sJ ?_|refine .intro _ (.intro rfl ?_)|refine exL (k:= ?_)|refine dwR ?_|((first|refine aB ?_ ?_|refine aC ?_ ?_)<;>intro hb<;>(first|exact ddX hb|try simp only [lnS]at hb))|(refine aA ?_ ?_<;>intro hb<;>try exact dsX hb))<;>(conv=>whnf)))
   exact⟨i+1,⟨by omega,hf2 h3⟩,by dsimp only;omega,⟨by repeat' (first|exact trivial|exact rfl|refine And.intro ?_ ?_),by repeat' (first|exact trivial|exact rfl|refine And.intro ?_ ?_)⟩⟩
 ·have hil:i=s.length:=by have h2:¬ (i:Int) < ((s.map cnR).length:Nat):=h2;rw [List.length_map]at h2;omega
  subst hil
  rw [List.take_length]at hin
  rw [zS hin]
  have hsm:(s.map cnR).length=s.length:=List.length_map ..
  ((conv=>whnf);repeat ((first|(intro hq;try simp only [lnS]at hq)|refine sI ?_|refine .intro _ (.intro rfl ?_));(conv=>whnf)))
  refine aB (λh3=> ?_) (λh3=> ?_)
  ·((conv=>whnf);repeat' ((first|(intro hq;(try simp only [lnS]at hq);(try rewrite [List.length_map]))|refine sJ ?_|refine .intro _ (.intro rfl ?_)|refine exL (k:= ?_)|refine dwR ?_|((first|refine aB ?_ ?_|refine aC ?_ ?_)<;>intro hb<;>(first|exact ddX hb|try simp only [lnS]at hb))|(refine aA ?_ ?_<;>intro hb<;>try exact dsX hb))<;>(conv=>whnf)))
   rw [if_pos (by omega)]
   exact aVm
  ·((conv=>whnf);repeat ((first|(intro hq;try simp only [lnS]at hq)|refine sI ?_|refine .intro _ (.intro rfl ?_));(conv=>whnf)))
   rw [if_neg (by omega)]
   refine aB (λh4=> ?_) (λh4=> ?_)
   ·have hl0:0 < s.length:=by omega
    have hrow:(s.map cnR)[(0:Int).toNat]? =some (cnR s[0]):=bC (i:=0) hl0
    have hhd:s.headD c0=s[0]:=by cases s with|nil=>simp at hl0|cons a r=>rfl
    rw [aL]at hrow
    ((conv=>whnf);repeat' ((first|(intro hq;(try simp only [lnS]at hq);(try rewrite [List.length_map]))|refine sJ ?_|refine .intro _ (.intro rfl ?_)|refine exL (k:= ?_)|(refine⟨_,hrow, ?_⟩)|refine dwR ?_|((first|refine aB ?_ ?_|refine aC ?_ ?_)<;>intro hb<;>(first|exact ddX hb|try simp only [lnS]at hb))|(refine aA ?_ ?_<;>intro hb<;>try exact dsX hb))<;>(conv=>whnf)))
    rw [if_pos (by omega),hhd]
    exact pI _ _
   ·((conv=>whnf);repeat ((first|(intro hq;try simp only [lnS]at hq)|refine sI ?_|refine .intro _ (.intro rfl ?_));(conv=>whnf)))
    rw [if_neg (by omega)]
    refine aB (λh5=> ?_) (λh5=> ?_)
    ·((conv=>whnf);repeat' ((first|(intro hq;(try simp only [lnS]at hq);(try rewrite [List.length_map]))|refine sJ ?_|refine .intro _ (.intro rfl ?_)|refine exL (k:= ?_)|refine dwR ?_|((first|refine aB ?_ ?_|refine aC ?_ ?_)<;>intro hb<;>(first|exact ddX hb|try simp only [lnS]at hb))|(refine aA ?_ ?_<;>intro hb<;>try exact dsX hb))<;>(conv=>whnf)))
     rw [if_pos (by omega)]
     exact aKu 2
    ·rw [if_neg (by omega)]
     ((conv=>whnf);repeat' ((first|(intro hq;(try simp only [lnS]at hq);(try rewrite [List.length_map]))|refine sJ ?_|refine .intro _ (.intro rfl ?_)|refine exL (k:= ?_)|refine dwR ?_|((first|refine aB ?_ ?_|refine aC ?_ ?_)<;>intro hb<;>(first|exact ddX hb|try simp only [lnS]at hb))|(refine aA ?_ ?_<;>intro hb<;>try exact dsX hb))<;>(conv=>whnf)))
     exact pI (.mk 5 [] 0 0 s) 0
end Go.Proofs.YtfhoddcminbffaaGreatDoor
namespace Go.Proofs.YtfhoddcminbffaaGreatDoor
open Go.Proofs
set_option maxRecDepth 10000
attribute [local irreducible] aM aJ Tri aH YVC dI bI
theorem aOq: ∀c:Cn,(aI c).2≠0->(aI c).1=c0:=by
 refine Cn.ind ?_
 intro c ih h
 rw [eF]at h |-
 split at h
 ·rename_i h6
  rw [if_pos h6]
  cases hp:c.parts with
  |nil=>rfl
  |cons p r=>
   rw [hp]at h
   have e:pE c.name ((p::r).map aI)=if (aI p).2≠0\/(aI p).1.kind=2 then aI p else (.mk 6 c.name 0 0 [(aI p).1],0):=rfl
   rw [e]at h |-
   split at h
   ·rename_i h1
    rw [if_pos h1]
    exact ih p (by rw [hp];simp) h
   ·exact absurd rfl h
 ·rename_i h6
  rw [if_neg h6]
  split at h
  ·rename_i h5
   rw [if_pos h5]
   by_cases hb: ∃p∈c.parts,(aI p).2≠0
   ·rw [aH9 hb]
   ·have hb: ∀p∈c.parts,(aI p).2=0:= λp hp=>Classical.byContradiction λh'=>hb ⟨p,hp,h'⟩
    rw [iY hb]at h |-
    unfold eE at h |-
    split at h
    ·exact absurd rfl h
    ·split at h
     ·exact absurd rfl h
     ·split at h
      ·exact absurd rfl h
      ·split at h
       ·rename_i hf h1 h2 h3
        rw [if_neg h1,if_neg h2,if_pos h3]
       ·exact absurd rfl h
  ·exact absurd rfl h
theorem mS {c:Cn}(h:bM c=0):(c.kind≠5->c.kind≠6->c.parts=[])/\(c.kind=6->c.parts.length=1):=by
 unfold bM at h
 split at h
 ·simp at h
 ·rename_i hk
  unfold iC at h
  split at h
  ·simp at h
  ·rename_i hn
   have hn1:¬ ((c.parts.length:Int) < (fH c.kind).least):= λe=>hn (.inl e)
   have hn2:¬ ((fH c.kind).most < c.parts.length):= λe=>hn (.inr (.inl e))
   refine⟨λh5 h6=> ?_,λh6=> ?_⟩
   ·have hk7:c.kind=1\/c.kind=2\/c.kind=3\/c.kind=4\/c.kind=7:=by omega
    have hm:(fH c.kind).most=0:=by rcases hk7 with e|e|e|e|e<;>rw [e]<;>rfl
    rw [hm]at hn2
    exact List.length_eq_zero_iff.1 (by omega)
   ·rw [h6]at hn1 hn2
    have e1:(fH 6).least=1:=rfl
    have e2:(fH 6).most=1:=rfl
    omega
theorem aQ1 {ps:List Cn}(h: ∀p∈ps,(aI p).2=0):eE (eI [] ((ps.map λp=>(aI p).1).flatMap pF))=iZ (ps.map aI):=by
 rw [iY h]
 congr 1
 refine aEr (uL _ _ .nil) λx=> ?_
 rw [aC6,dB,List.mem_flatMap]
 simp only [List.not_mem_nil,false_or]
 constructor
 ·rintro⟨⟨t,ht,hx⟩,hk⟩
  obtain⟨p,hp,rfl⟩:=List.mem_map.1 ht
  refine⟨p,hp, ?_⟩
  unfold pF at hx
  unfold bP
  split at hx
  ·rename_i h5
   rw [if_neg (by omega),if_pos h5];exact hx
  ·rename_i h5
   simp only [List.mem_singleton]at hx
   rw [hx]at hk
   rw [if_neg hk,if_neg h5,hx];simp
 ·rintro⟨p,hp,hx⟩
  have hf:=qB p (h p hp) x hx
  refine⟨⟨_,List.mem_map_of_mem hp, ?_⟩,hf.1⟩
  unfold bP at hx
  unfold pF
  split at hx
  ·simp at hx
  ·split at hx
   ·rename_i h5
    rw [if_pos h5];exact hx
   ·rename_i h5
    rw [if_neg h5];exact hx
theorem aHm: ∀ps:List Cn,gM (ps.map λp=>(aI p).1)<=gM ps
 | []=>by simp
 |c::r=>by
  have h1:=aHm r
  have h2:=gC c
  rw [List.map_cons,bL,bL];omega
theorem aV2 {c:Cn}(h:c.parts=[]):PairW c 0 (.tup [.d (.agg [.int .i64 c.kind, .str c.name, .int .i64 c.lo, .int .i64 c.hi, .nil]), .d (.int .i64 0)]):=by
 refine⟨_,rfl, .inr ?_⟩
 rw [aL,h]
 exact⟨rfl,rfl,rfl,rfl,rfl,trivial⟩
def wV (c:Cn):Prop:=Tri Tryz.prog 91 [.d (.agg (cnR c))] [] (λr=>r= .tup [.d (.agg (cnR (aI c).1)), .d (.int .i64 (aI c).2)])
theorem aHn {c:Cn}(hf:bM c=0) {j:Nat}(hjl:j < c.parts.length) (hz: ∀p∈c.parts.take j,(aI p).2=0) (h:(aI c.parts[j]).2≠0):aI c=(c0,(aI c.parts[j]).2):=by
 obtain⟨hp0,hp6⟩:=mS hf
 have hnone:((c.parts.take j).map aI).find? (λr=>decide (r.2≠0))=none:=List.find?_eq_none.2 λr hr=>by
  obtain⟨p,hp,rfl⟩:=List.mem_map.1 hr
  simp [hz p hp]
 rw [eF]
 by_cases h6:c.kind=6
 ·rw [if_pos h6]
  have hl1:=hp6 h6
  have hj0:j=0:=by omega
  subst hj0
  have e:c.parts.map aI=aI c.parts[0]::(c.parts.drop 1).map aI:=by
   rw [<-List.map_cons (f:=aI),<-List.drop_eq_getElem_cons hjl,List.drop_zero]
  rw [e,pE,if_pos (.inl h)]
  exact Prod.ext (aOq _ h) rfl
 ·rw [if_neg h6]
  by_cases h5:c.kind=5
  ·rw [if_pos h5]
   exact aCu hjl hnone h
  ·have:=hp0 h5 h6
   rw [this]at hjl
   simp at hjl
theorem aM8 (c:Cn) (hs:aN c<=1000000) (hf:bM c=0) (hk:c.kind=5) (ih: ∀p∈c.parts,wV p):wV c:=by
 unfold wV
 have hlp:=iJ c.parts
 have hsz:=cR c
 have hk5:c.kind=5:=hk
 refine Tri.pairW ?_
 rw [aL]
 refine aF false [1,6] hty Tryz.func91 rfl (kp [0,1,2,3,4,5,6,7,13,26,35,42,47]) [] _ _ _ (by simp [Tryz.f91]) (by simp) ?_
 ((conv=>whnf);repeat ((first|(intro hq;try simp only [lnS]at hq)|refine sI ?_|refine .intro _ (.intro rfl ?_));(conv=>whnf)))
 refine aG hty (λj:Nat=>([(1, .ea 5 [[.int .i64 c.kind, .str c.name, .int .i64 c.lo, .int .i64 c.hi, .sl 5 (c.parts.map cnR)]] 0 0),(2, .ptr 2 0),(4, .osl 8 5 (((c.parts.take j).map λp=>(aI p).1).map cnR)),(5, .d (.int .i64 j))],[(8, .own 46 5 (((c.parts.take j).map λp=>(aI p).1).map cnR).length),(2, .cells 46 [.d (.int .i64 0), .d (.str []), .d (.int .i64 0), .d (.int .i64 0), .d .nil])])) (λj=>j<=c.parts.length/\ ∀p∈c.parts.take j,(aI p).2=0) (λj=>c.parts.length - j) 0 ⟨by omega,by simp⟩ ⟨by repeat' (first|exact trivial|exact rfl|refine And.intro ?_ ?_),by repeat' (first|exact trivial|exact rfl|refine And.intro ?_ ?_)⟩ ?_
 rintro j ⟨hj,hz⟩
 ((conv=>whnf);repeat ((first|(intro hq;try simp only [lnS]at hq)|refine sI ?_|refine .intro _ (.intro rfl ?_));(conv=>whnf)))
 refine aB (λh1=> ?_) (λh1=> ?_)
 ·have hjl:j < c.parts.length:=by have h1:(j:Int) < ((c.parts.map cnR).length:Nat):=h1;rw [List.length_map]at h1;omega
  have hrow:(c.parts.map cnR)[(j:Int).toNat]? =some (cnR c.parts[j]):=bC hjl
  have hi:=ih c.parts[j] (List.getElem_mem hjl)
  unfold wV at hi
  have htk:((c.parts.take (j+1)).map λp=>(aI p).1)=((c.parts.take j).map λp=>(aI p).1)++[(aI c.parts[j]).1]:=by rw [List.take_succ_eq_append_getElem hjl,List.map_append];rfl
  have hz2:(aI c.parts[j]).2=0-> ∀p∈c.parts.take (j+1),(aI p).2=0:= λh p hp=>by
   rw [List.take_succ_eq_append_getElem hjl]at hp
   rcases List.mem_append.1 hp with hp|hp
   ·exact hz p hp
   ·simp only [List.mem_singleton]at hp;rw [hp];exact h
  have hbad:=aHn hf hjl hz
  have hll:((c.parts.take j).map λp=>(aI p).1).length=j:=by rw [List.length_map,List.length_take];omega
  clear ih hz hf hk
  generalize ((c.parts.take j).map λp=>(aI p).1)=L at *
  generalize c.parts[j]=x at *
  generalize aI c=R at *
  generalize (aI x).1=t at *
  generalize (aI x).2=e at *
  have htr:=aL t
  rw [aL]at hrow hi
  rw [aL t]at hi
  ((conv=>whnf);repeat ((first|(refine⟨_,hrow, ?_⟩)|(refine aD [] hi trivial (λr hs=> ?_);subst hs)|(intro hq;try simp only [lnS]at hq)|refine sI ?_|refine .intro _ (.intro rfl ?_));(conv=>whnf)))
  refine aC (λh2=> ?_) (λh2=> ?_)
  ·((conv=>whnf);repeat ((first|(intro hq;try simp only [lnS]at hq)|refine sI ?_|refine .intro _ (.intro rfl ?_));(conv=>whnf)))
   rw [hbad h2]
   exact aKu e
  ·have h2:e=0:=by simpa using h2
   ((conv=>whnf);repeat ((first|(refine And.intro (by simp only [List.length_replicate,List.length_set,List.length_map,List.length_append,List.length_cons,List.length_nil];omega) ?_)|(intro hq;try simp only [lnS]at hq)|refine sI ?_|refine .intro _ (.intro rfl ?_));(conv=>whnf)))
   refine⟨j+1,⟨by omega,hz2 h2⟩,by dsimp only;omega, ?_⟩
   dsimp only
   rw [htk,List.map_append,List.map_singleton,htr,List.length_append]
   exact⟨by repeat' (first|exact trivial|exact rfl|refine And.intro ?_ ?_),by repeat' (first|exact trivial|exact rfl|refine And.intro ?_ ?_)⟩
 have hjl:j=c.parts.length:=by have h1:¬ (j:Int) < ((c.parts.map cnR).length:Nat):=h1;rw [List.length_map]at h1;omega
 subst hjl
 rw [List.take_length]at hz |-
 have hcj:=(aJa (c.parts.map λp=>(aI p).1) (by have:=aHm c.parts;omega)).pairW
 rw [aQ1 hz]at hcj
 have hcj:=Tri.osl (id:=8) hcj
 rw [eF,if_neg (by omega),if_pos hk5]
 rw [aL (iZ (c.parts.map aI)).1]at hcj
 generalize iZ (c.parts.map aI)=M at *
 clear ih hz hf
 ((conv=>whnf);repeat ((first|(intro hq;try simp only [lnS]at hq)|refine sI ?_|refine .intro _ (.intro rfl ?_));(conv=>whnf)))
 refine aB (λh5=> ?_) (λh5=> ?_)
 ·((conv=>whnf);repeat ((first|(refine aD [] hcj trivial (λr hs=> ?_);subst hs)|(intro hq;try simp only [lnS]at hq)|refine sI ?_|refine .intro _ (.intro rfl ?_));(conv=>whnf)))
  exact pI _ _
 ·exact absurd hk5 h5
theorem aJ8 (c:Cn) (hs:aN c<=1000000) (hf:bM c=0) (hk:c.kind=6) (hps: ∀p∈c.parts,Okn p) (ih: ∀p∈c.parts,wV p):wV c:=by
 unfold wV
 have hlp:=iJ c.parts
 have hsz:=cR c
 have hk6:c.kind=6:=hk
 have hl1:=(mS hf).2 hk
 refine Tri.pairW ?_
 rw [aL]
 refine aF false [1,6] hty Tryz.func91 rfl (kp [0,1,2,3,4,5,6,7,13,26,35,42,47]) [] _ _ _ (by simp [Tryz.f91]) (by simp) ?_
 ((conv=>whnf);repeat ((first|(intro hq;try simp only [lnS]at hq)|refine sI ?_|refine .intro _ (.intro rfl ?_));(conv=>whnf)))
 refine aG hty (λj:Nat=>([(1, .ea 5 [[.int .i64 c.kind, .str c.name, .int .i64 c.lo, .int .i64 c.hi, .sl 5 (c.parts.map cnR)]] 0 0),(2, .ptr 2 0),(4, .osl 8 5 (((c.parts.take j).map λp=>(aI p).1).map cnR)),(5, .d (.int .i64 j))],[(8, .own 46 5 (((c.parts.take j).map λp=>(aI p).1).map cnR).length),(2, .cells 46 [.d (.int .i64 0), .d (.str []), .d (.int .i64 0), .d (.int .i64 0), .d .nil])])) (λj=>j<=c.parts.length/\ ∀p∈c.parts.take j,(aI p).2=0) (λj=>c.parts.length - j) 0 ⟨by omega,by simp⟩ ⟨by repeat' (first|exact trivial|exact rfl|refine And.intro ?_ ?_),by repeat' (first|exact trivial|exact rfl|refine And.intro ?_ ?_)⟩ ?_
 rintro j ⟨hj,hz⟩
 ((conv=>whnf);repeat ((first|(intro hq;try simp only [lnS]at hq)|refine sI ?_|refine .intro _ (.intro rfl ?_));(conv=>whnf)))
 refine aB (λh1=> ?_) (λh1=> ?_)
 ·have hjl:j < c.parts.length:=by have h1:(j:Int) < ((c.parts.map cnR).length:Nat):=h1;rw [List.length_map]at h1;omega
  have hrow:(c.parts.map cnR)[(j:Int).toNat]? =some (cnR c.parts[j]):=bC hjl
  have hi:=ih c.parts[j] (List.getElem_mem hjl)
  unfold wV at hi
  have htk:((c.parts.take (j+1)).map λp=>(aI p).1)=((c.parts.take j).map λp=>(aI p).1)++[(aI c.parts[j]).1]:=by rw [List.take_succ_eq_append_getElem hjl,List.map_append];rfl
  have hz2:(aI c.parts[j]).2=0-> ∀p∈c.parts.take (j+1),(aI p).2=0:= λh p hp=>by
   rw [List.take_succ_eq_append_getElem hjl]at hp
   rcases List.mem_append.1 hp with hp|hp
   ·exact hz p hp
   ·simp only [List.mem_singleton]at hp;rw [hp];exact h
  have hbad:=aHn hf hjl hz
  have hll:((c.parts.take j).map λp=>(aI p).1).length=j:=by rw [List.length_map,List.length_take];omega
  clear ih hz hf hk
  generalize ((c.parts.take j).map λp=>(aI p).1)=L at *
  generalize c.parts[j]=x at *
  generalize aI c=R at *
  generalize (aI x).1=t at *
  generalize (aI x).2=e at *
  have htr:=aL t
  rw [aL]at hrow hi
  rw [aL t]at hi
  ((conv=>whnf);repeat ((first|(refine⟨_,hrow, ?_⟩)|(refine aD [] hi trivial (λr hs=> ?_);subst hs)|(intro hq;try simp only [lnS]at hq)|refine sI ?_|refine .intro _ (.intro rfl ?_));(conv=>whnf)))
  refine aC (λh2=> ?_) (λh2=> ?_)
  ·((conv=>whnf);repeat ((first|(intro hq;try simp only [lnS]at hq)|refine sI ?_|refine .intro _ (.intro rfl ?_));(conv=>whnf)))
   rw [hbad h2]
   exact aKu e
  ·have h2:e=0:=by simpa using h2
   ((conv=>whnf);repeat ((first|(refine And.intro (by simp only [List.length_replicate,List.length_set,List.length_map,List.length_append,List.length_cons,List.length_nil];omega) ?_)|(intro hq;try simp only [lnS]at hq)|refine sI ?_|refine .intro _ (.intro rfl ?_));(conv=>whnf)))
   refine⟨j+1,⟨by omega,hz2 h2⟩,by dsimp only;omega, ?_⟩
   dsimp only
   rw [htk,List.map_append,List.map_singleton,htr,List.length_append]
   exact⟨by repeat' (first|exact trivial|exact rfl|refine And.intro ?_ ?_),by repeat' (first|exact trivial|exact rfl|refine And.intro ?_ ?_)⟩
 have hjl:j=c.parts.length:=by have h1:¬ (j:Int) < ((c.parts.map cnR).length:Nat):=h1;rw [List.length_map]at h1;omega
 subst hjl
 rw [List.take_length]at hz |-
 obtain⟨p,hp⟩:=List.length_eq_one_iff.1 hl1
 have hz0:=hz p (by rw [hp];simp)
 have e:pE c.name (c.parts.map aI)=if (aI p).2≠0\/(aI p).1.kind=2 then aI p else (.mk 6 c.name 0 0 [(aI p).1],0):=by rw [hp];rfl
 have hml:(c.parts.map λp=>(aI p).1).map cnR=[cnR (aI p).1]:=by rw [hp];rfl
 rw [eF,if_pos hk6,e,hml]
 have hzp:aI p=((aI p).1,0):=Prod.ext rfl hz0
 have hk7:(aI p).1.kind=2\/(aI p).1.kind=1\/(aI p).1.kind=3\/(aI p).1.kind=4\/(aI p).1.kind=5\/(aI p).1.kind=6\/(aI p).1.kind=7:=by
  have h1:=(fB _).1 (kC p (hps p (by rw [hp];simp)) hz0).ok
  have h2:=h1.1
  unfold bM at h2
  split at h2
  ·simp at h2
  ·omega
 generalize (aI p).1=t at *
 have htr:=aL t
 clear ih hz hf e hml
 rw [htr]
 have hl0:(0:Int).toNat < [[D.int .i64 t.kind, .str t.name, .int .i64 t.lo, .int .i64 t.hi, .sl 5 (t.parts.map cnR)]].length:=Nat.le.refl
 have hrow:[[D.int .i64 t.kind, .str t.name, .int .i64 t.lo, .int .i64 t.hi, .sl 5 (t.parts.map cnR)]][(0:Int).toNat]? =some [D.int .i64 t.kind, .str t.name, .int .i64 t.lo, .int .i64 t.hi, .sl 5 (t.parts.map cnR)]:=rfl
 have hrowsE:[[D.int .i64 t.kind, .str t.name, .int .i64 t.lo, .int .i64 t.hi, .sl 5 (t.parts.map cnR)]]=[t].map cnR:=by rw [List.map_singleton,htr]
 generalize [[D.int .i64 t.kind, .str t.name, .int .i64 t.lo, .int .i64 t.hi, .sl 5 (t.parts.map cnR)]]=rows at *
 ((conv=>whnf);repeat ((first|(intro hq;try simp only [lnS]at hq)|refine sI ?_|refine .intro _ (.intro rfl ?_));(conv=>whnf)))
 refine aB (λh5=> ?_) (λh5=> ?_)
 ·exact absurd (hk6.symm.trans h5) (by decide)
 ((conv=>whnf);repeat ((first|(intro hq;try simp only [lnS]at hq)|refine sI ?_|refine .intro _ (.intro rfl ?_));(conv=>whnf)))
 refine aB (λh6=> ?_) (λh6=> ?_)
 ·rcases hk7 with hk|hk
  ·rw [hk]at hrow
   rw [if_pos (.inr hk),hzp]
   ((conv=>whnf);repeat ((first|(refine And.intro hl0 ?_)|(refine⟨_,hrow, ?_⟩)|(intro hq;try simp only [lnS]at hq)|refine sI ?_|refine .intro _ (.intro rfl ?_));(conv=>whnf)))
   have h:=pI t 0
   rw [hk]at h
   exact h
  ·rw [if_neg (by rintro(h|h);exact h hz0;omega)]
   rcases hk with hk|hk|hk|hk|hk|hk
   all_goals
    rw [hk]at hrow
    ((conv=>whnf);repeat ((first|(refine And.intro hl0 ?_)|(refine⟨_,hrow, ?_⟩)|(intro hq;try simp only [lnS]at hq)|refine sI ?_|refine .intro _ (.intro rfl ?_));(conv=>whnf)))
    rw [hrowsE]
    exact pI (.mk 6 c.name 0 0 [t]) 0
 ·exact absurd hk6 h6
theorem aJ9 (c:Cn) (h5:c.kind≠5) (h6:c.kind≠6) (hp:c.parts=[]):wV c:=by
 unfold wV
 have hv:aI c=(c,0):=by rw [eF,if_neg h6,if_neg h5]
 rw [hv]
 refine Tri.pairW ?_
 rw [aL,hp,List.map_nil]
 refine aF false [1,6] hty Tryz.func91 rfl (kp [0,1,2,3,4,5,6,7,13,26,35,42,47]) [] _ _ _ (by simp [Tryz.f91]) (by simp) ?_
 ((conv=>whnf);repeat ((first|(intro hq;try simp only [lnS]at hq)|refine sI ?_|refine .intro _ (.intro rfl ?_));(conv=>whnf)))
 refine aG hty (λ_:Unit=>([(1, .ea 5 [[.int .i64 c.kind, .str c.name, .int .i64 c.lo, .int .i64 c.hi, .sl 5 []]] 0 0),(2, .ptr 2 0),(5, .d (.int .i64 0))],[(2, .cells 46 [.d (.int .i64 0), .d (.str []), .d (.int .i64 0), .d (.int .i64 0), .d .nil])])) (λ_=>True) (λ_=>0) () trivial ⟨by repeat' (first|exact trivial|exact rfl|refine And.intro ?_ ?_),by repeat' (first|exact trivial|exact rfl|refine And.intro ?_ ?_)⟩ ?_
 rintro _ _
 ((conv=>whnf);repeat ((first|(intro hq;try simp only [lnS]at hq)|refine sI ?_|refine .intro _ (.intro rfl ?_));(conv=>whnf)))
 refine aB (λhb=> ?_) (λhb=> ?_)
 ·exact absurd hb h5
 ((conv=>whnf);repeat ((first|(intro hq;try simp only [lnS]at hq)|refine sI ?_|refine .intro _ (.intro rfl ?_));(conv=>whnf)))
 refine aB (λhb=> ?_) (λhb=> ?_)
 ·exact absurd hb h6
 ((conv=>whnf);repeat ((first|(intro hq;try simp only [lnS]at hq)|refine sI ?_|refine .intro _ (.intro rfl ?_));(conv=>whnf)))
 exact aV2 hp
theorem aJ7: ∀(c:Cn) (_:aN c<=1000000) (_:Okn c),Tri Tryz.prog 91 [.d (.agg (cnR c))] [] (λr=>r= .tup [.d (.agg (cnR (aI c).1)), .d (.int .i64 (aI c).2)]):=by
 refine Cn.ind ?_
 intro c ih hs hok
 obtain⟨hf,hps⟩:=(fB c).1 hok
 have hih: ∀p∈c.parts,wV p:= λp hp=>ih p hp (by have:=eP hp;omega) (hps p hp)
 by_cases h5:c.kind=5
 ·exact aM8 c hs hf h5 hih
 ·by_cases h6:c.kind=6
  ·exact aJ8 c hs hf h6 hps hih
  ·exact aJ9 c h5 h6 ((mS hf).1 h5 h6)
end Go.Proofs.YtfhoddcminbffaaGreatDoor
namespace Go.Proofs.YtfhoddcminbffaaGreatDoor
open Go.Proofs
set_option maxRecDepth 10000
attribute [local irreducible] aM aJ Tri aH YVC dI bI
theorem aPd {c:Cn}(h:Okn c) (h5:c.kind≠5) (h6:c.kind≠6):c.parts=[]:=by
 have hf:=((fB c).1 h).1
 have hk:1<=c.kind/\c.kind<=7:=by
  unfold bM at hf
  split at hf
  ·exact absurd hf (by decide)
  ·omega
 rw [oQ]at hf
 have hs:iQ c=true:=by
  cases e:iQ c
  ·rw [e,if_pos rfl]at hf;exact absurd hf (by decide)
  ·rfl
 unfold iQ at hs
 have hl:c.parts.length=0:=by
  rw [if_neg h5,if_neg h6]at hs
  by_cases k1:c.kind=1\/c.kind=2
  ·rw [if_pos k1]at hs;simp only [Bool.and_eq_true,decide_eq_true_eq]at hs;omega
  ·rw [if_neg k1]at hs
   by_cases k2:c.kind=3\/c.kind=4
   ·rw [if_pos k2]at hs;simp only [Bool.and_eq_true,decide_eq_true_eq]at hs;omega
   ·rw [if_neg k2]at hs
    by_cases k3:c.kind=7
    ·rw [if_pos k3]at hs;simp only [Bool.and_eq_true,decide_eq_true_eq]at hs;omega
    ·omega
 exact List.eq_nil_of_length_eq_zero hl
theorem yL: ∀(c:Cn) (_:Okn c),Tri Tryz.prog 90 [.d (.agg (cnR c))] [] (λr=>r= .d (.bool (bU c))):=by
 refine Cn.ind ?_
 intro c ih hok
 have hp:=((fB c).1 hok).2
 have hB:bU c=if c.kind=4 then true else if c.kind=6 then false else nB c.parts:=by
  rw [jE]
  by_cases h4:c.kind=4
  ·rw [if_pos h4,if_pos h4]
  ·rw [if_neg h4,if_neg h4]
   by_cases h5:c.kind=5
   ·rw [if_pos h5,if_neg (by omega)]
   ·rw [if_neg h5]
    by_cases h6:c.kind=6
    ·rw [if_pos h6]
    ·rw [if_neg h6,aPd hok h5 h6];rfl
 rw [hB]
 clear hB hok
 rw [aL]
 refine aF false [1] hty Tryz.func90 rfl (kp [0,1,2,3,6,9,14,22]) [] _ _ _ (by simp [Tryz.f90]) (by simp) ?_
 ((conv=>whnf);repeat' ((first|(intro hq;(try simp only [lnS]at hq);(try rewrite [List.length_map]))|refine sJ ?_|refine .intro _ (.intro rfl ?_)|refine exL (k:= ?_)|refine dwR ?_|((first|refine aB ?_ ?_|refine aC ?_ ?_)<;>intro hb<;>(first|exact ddX hb|try simp only [lnS]at hb))|(refine aA ?_ ?_<;>intro hb<;>try exact dsX hb))<;>(conv=>whnf)))
 ·rw [if_pos (by assumption)];rfl
 ·rw [if_neg (by assumption),if_pos (by assumption)];rfl
 ·rw [if_neg (by assumption),if_neg (by assumption)]
  refine aG hty (λj:Nat=>([(1, .ea 5 [[.int .i64 c.kind, .str c.name, .int .i64 c.lo, .int .i64 c.hi, .sl 5 (c.parts.map cnR)]] 0 0),(2, .d (.bool false)),(3, .d (.int .i64 j))],[])) (λj=>j<=c.parts.length/\nB c.parts=nB (c.parts.drop j)) (λj=>c.parts.length - j) 0 ⟨by omega,rfl⟩ ⟨by repeat' (first|exact trivial|exact rfl|exact⟨rfl,rfl⟩|refine And.intro ?_ ?_),trivial⟩ ?_
  rintro j ⟨hj,hn⟩
  ((conv=>whnf);repeat ((first|(intro hq;try simp only [lnS]at hq)|refine sI ?_|refine .intro _ (.intro rfl ?_));(conv=>whnf)))
  refine aB (λh1=> ?_) (λh1=> ?_)
  ·have hjl:j < c.parts.length:=by simp only [List.length_map]at h1;omega
   have hrow':(c.parts.map cnR)[(j:Int).toNat]? =some (cnR c.parts[j]):=bC hjl
   have hi:=ih c.parts[j] (List.getElem_mem hjl) (hp _ (List.getElem_mem hjl))
   rw [List.drop_eq_getElem_cons hjl,nB]at hn
   generalize c.parts[j]=x at hrow' hi hn
   rw [aL]at hrow' hi
   generalize bU x=b at hi hn
   ((conv=>whnf);repeat' ((first|(intro hq;(try simp only [lnS]at hq);(try rewrite [List.length_map]))|refine sJ ?_|refine .intro _ (.intro rfl ?_)|refine exL (k:= ?_)|(refine⟨_,hrow', ?_⟩)|(refine aD [] hi trivial (λr hs=> ?_);subst hs)|refine dwR ?_|((first|refine aB ?_ ?_|refine aC ?_ ?_)<;>intro hb<;>(first|exact ddX hb|try simp only [lnS]at hb))|(refine aA ?_ ?_<;>intro hb<;>try exact dsX hb))<;>(conv=>whnf)))
   ·rw [if_pos (by assumption)]at hn
    exact aX hn.symm
   ·rw [if_neg (by rw [(by assumption:b=false)];decide)]at hn
    exact⟨j+1,⟨by omega,hn⟩,by dsimp only;omega,by repeat' (first|exact trivial|exact rfl|refine And.intro ?_ ?_),trivial⟩
  ·have hjl:j=c.parts.length:=by simp only [List.length_map]at h1;omega
   subst hjl
   rw [List.drop_length]at hn
   ((conv=>whnf);repeat' ((first|(intro hq;(try simp only [lnS]at hq);(try rewrite [List.length_map]))|refine sJ ?_|refine .intro _ (.intro rfl ?_)|refine exL (k:= ?_)|refine dwR ?_|((first|refine aB ?_ ?_|refine aC ?_ ?_)<;>intro hb<;>(first|exact ddX hb|try simp only [lnS]at hb))|(refine aA ?_ ?_<;>intro hb<;>try exact dsX hb))<;>(conv=>whnf)))
   exact aX hn.symm
theorem uR (c:Cn):Tri Tryz.prog 86 [.d (.agg (cnR c))] [] (λr=>r= .d (.bool (eZ c))):=by
 rw [aL]
 have hE:eZ c=(decide (c.kind=0) && (decide (c.name=[]) && (decide (c.lo=0) && (decide (c.hi=0) && decide (c.parts.length=0))))):=by
  unfold eZ
  congr 4
  simp [List.length_eq_zero_iff]
 rw [hE]
 clear hE
 refine aF false [1] hty Tryz.func86 rfl (kp [0,1,2]) [] _ _ _ (by simp [Tryz.f86]) (by simp) ?_
 ((conv=>whnf);repeat' ((first|(intro hq;(try simp only [lnS]at hq);(try rewrite [List.length_map]))|refine sJ ?_|refine .intro _ (.intro rfl ?_)|refine exL (k:= ?_)|refine dwR ?_|((first|refine aB ?_ ?_|refine aC ?_ ?_)<;>intro hb<;>(first|exact ddX hb|try simp only [lnS]at hb))|(refine aA ?_ ?_<;>intro hb<;>try exact dsX hb))<;>(conv=>whnf)))
 all_goals (refine aX (Eq.symm ?_);simp_all<;>first|omega|(rw [Bool.eq_iff_iff];simp<;>omega))
theorem aL3 {k:Int}(h:k < 1\/9 < k):bX k=⟨false,false,false,false,false,0,0⟩:=by
 unfold bX
 rcases h with h|h
 ·rw [show k.toNat=0 by omega];rfl
 ·rw [List.getD,List.getElem?_eq_none (show jF.length<=k.toNat by show 10<=k.toNat;omega)];rfl
def aVv (u:Use):SV:= .tup [.d (.bool u.left), .d (.bool u.right), .d (.bool u.role), .d (.bool u.a), .d (.bool u.b), .d (.int .i64 u.least), .d (.int .i64 u.most)]
theorem sH (k:Int):Tri Tryz.prog 85 [.d (.int .i64 k)] [] (λr=>r=aVv (bX k)):=by
 refine aF false [] hty Tryz.func85 rfl (kp [0,2,3,4,5,6,7,8,9,10,14,16,18,20,22,24]) [] _ _ _ (by simp [Tryz.f85]) (by simp) ?_
 ((conv=>whnf);repeat' ((first|(intro hq;(try simp only [lnS]at hq);(try rewrite [List.length_map]))|refine sJ ?_|refine .intro _ (.intro rfl ?_)|refine exL (k:= ?_)|refine dwR ?_|((first|refine aB ?_ ?_|refine aC ?_ ?_)<;>intro hb<;>(first|exact ddX hb|try simp only [lnS]at hb))|(refine aA ?_ ?_<;>intro hb<;>try exact dsX hb))<;>(conv=>whnf)))
 all_goals first
  |(subst_vars;rfl)
  |(rw [aL3 (by omega)];rfl)
end Go.Proofs.YtfhoddcminbffaaGreatDoor
