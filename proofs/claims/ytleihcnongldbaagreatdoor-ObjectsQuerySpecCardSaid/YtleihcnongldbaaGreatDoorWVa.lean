/-
  The reference's queries: variables, individuals, terms; the error of an atom.
  Conditions: none.
-/
import Derived.Test.YtleihcnongldbaaGreatDoorWQqa
import Derived.Test.YtleihcnongldbaaGreatDoorWG4
set_option linter.unnecessarySimpa false
set_option linter.unusedSectionVars false
set_option linter.unusedSimpArgs false
set_option linter.unusedVariables false
set_option maxHeartbeats 4000000
namespace Go.Proofs.YtleihcnongldbaaGreatDoor
open Go.Proofs Go.RowKit
set_option maxRecDepth 10000
attribute [local irreducible] aN aJ Tri aI YVC cP bE
theorem uE (c:UInt8):Tri Tryz.prog 121 [aI7 c] [] (λr=>r= .d (.bool (sK c))):=by
 refine aF hty Tryz.func121 rfl (kp [0,2]) [] _ _ _ (by simp [Tryz.f121]) (by simp) ?_
 ((conv=>whnf);repeat' ((first|(intro hq;(try simp only [lnS]at hq);(try rewrite [List.length_map]))|refine sJ ?_|refine .intro _ (.intro rfl ?_)|refine exL (k:= ?_)|refine dwR ?_|((first|refine aB ?_ ?_|refine aC ?_ ?_)<;>intro hb<;>(first|exact ddX hb|try simp only [lnS]at hb))|(refine aA ?_ ?_<;>intro hb<;>try exact dsX hb))<;>(conv=>whnf)))
 all_goals (refine aQ (Bool.eq_iff_iff.2 ?_);simp only [sK,Bool.or_eq_true,decide_eq_true_eq,true_iff,false_iff,Bool.false_eq_true];omega)
def aI2 (c:UInt8):Bool:=decide (48<=(c.toNat:Int)/\(c.toNat:Int)<=57)
theorem aE7 (c:UInt8):Tri Tryz.prog 122 [aI7 c] [] (λr=>r= .d (.bool (aI2 c))):=by
 refine aF hty Tryz.func122 rfl (kp [0,2]) [] _ _ _ (by simp [Tryz.f122]) (by simp) ?_
 ((conv=>whnf);repeat' ((first|(intro hq;(try simp only [lnS]at hq);(try rewrite [List.length_map]))|refine sJ ?_|refine .intro _ (.intro rfl ?_)|refine exL (k:= ?_)|refine dwR ?_|((first|refine aB ?_ ?_|refine aC ?_ ?_)<;>intro hb<;>(first|exact ddX hb|try simp only [lnS]at hb))|(refine aA ?_ ?_<;>intro hb<;>try exact dsX hb))<;>(conv=>whnf)))
 all_goals (refine aQ (Bool.eq_iff_iff.2 ?_);simp only [aI2,decide_eq_true_eq,true_iff,false_iff,Bool.false_eq_true];omega)
def qA (c:UInt8):Bool:=sK c || (aI2 c || decide ((c.toNat:Int)=95))
theorem aMe (c:UInt8):cZ c=qA c:=by
 unfold qA cZ aI2
 cases sK c
 ·rw [Bool.eq_iff_iff]
  simp only [Bool.or_eq_true,Bool.false_or,decide_eq_true_eq]
  omega
 ·simp
theorem aS3 {c:UInt8}(h1:(!sK c)=true) (h2:¬ (48<=(c.toNat:Int)/\(c.toNat:Int)<=57)) (h3:¬ (c.toNat:Int)=95):qA c=false:=by
 unfold qA aI2
 rw [show sK c=false by simpa using h1,decide_eq_false h2,decide_eq_false h3];rfl
theorem aPv {c:UInt8}(h1:(!sK c)=false):qA c=true:=by
 unfold qA
 rw [show sK c=true by simpa using h1];rfl
theorem aPu {c:UInt8}(h2:48<=(c.toNat:Int)/\(c.toNat:Int)<=57):qA c=true:=by
 unfold qA aI2
 rw [decide_eq_true h2];simp
theorem aPt {c:UInt8}(h3:(c.toNat:Int)=95):qA c=true:=by
 unfold qA
 rw [decide_eq_true h3];simp
theorem gC (s:List UInt8):Tri Tryz.prog 74 [.d (.str s)] [] (λr=>r= .d (.bool (qK s))):=by
 by_cases h2:¬ 2<=s.length
 ·have e:qK s=false:=by unfold qK;rw [decide_eq_false h2,Bool.false_and]
  rw [e]
  refine aF hty Tryz.func74 rfl (kp [0,2,3,22,26,46]) [] _ _ _ (by simp [Tryz.f74]) (by simp) ?_
  ((conv=>whnf);repeat' ((first|(intro hq;(try simp only [lnS]at hq);(try rewrite [List.length_map]))|refine sJ ?_|refine .intro _ (.intro rfl ?_)|refine exL (k:= ?_)|refine dwR ?_|((first|refine aB ?_ ?_|refine aC ?_ ?_)<;>intro hb<;>(first|exact ddX hb|try simp only [lnS]at hb))|(refine aA ?_ ?_<;>intro hb<;>try exact dsX hb))<;>(conv=>whnf)))
  all_goals first|rfl|(exfalso;omega)
 have h2:2<=s.length:=by omega
 have e:=aIr h2
 refine aF hty Tryz.func74 rfl (kp [0,2,3,22,26,46]) [] _ _ _ (by simp [Tryz.f74]) (by simp) ?_
 ((conv=>whnf);repeat' ((first|(intro hq;(try simp only [lnS]at hq);(try rewrite [List.length_map]))|refine sJ ?_|refine .intro _ (.intro rfl ?_)|refine exL (k:= ?_)|(refine⟨_,rR (by first|omega|(simp only [List.length_map];omega)), ?_⟩)|(refine aD [] (uE _) trivial (λs hs=> ?_);subst hs)|refine dwR ?_|((first|refine aB ?_ ?_|refine aC ?_ ?_)<;>intro hb<;>(first|exact ddX hb|try simp only [lnS]at hb))|(refine aA ?_ ?_<;>intro hb<;>try exact dsX hb))<;>(conv=>whnf)))
 ·refine aQ (Eq.symm ?_);rw [e,decide_eq_false (by omega),Bool.false_and]
 ·rename_i hb
  refine aQ (Eq.symm ?_);rw [e,decide_eq_false (p:=((s[0].toNat:Int)=63)) hb];simp
 ·rename_i hb
  have hb':sK s[1]=false:=by simpa using hb
  refine aQ (Eq.symm ?_);rw [e,hb'];simp
 rename_i h17 h63
 have hl':sK s[1]=true:=by simpa using hb
 have h63':((s[0].toNat:Int)=63):=h63
 have e':qK s=(s.drop 2).all cZ:=by rw [e,decide_eq_true (p:=s.length<=17) (by omega),decide_eq_true h63',hl'];simp
 rw [e']
 refine aH hty (λk:Nat=>([(0, .d (.str s)),(3, .d (.int .i64 k))],[])) (λk=>(2<=k/\k<=s.length)/\((s.drop 2).take (k - 2)).all cZ=true) (λk=>s.length - k) 2 (by simp;omega) ⟨by repeat' (first|exact trivial|exact rfl|refine And.intro ?_ ?_),by repeat' (first|exact trivial|exact rfl|refine And.intro ?_ ?_)⟩ ?_
 rintro k ⟨⟨hk0,hk⟩,hk2⟩
 ((conv=>whnf);repeat ((first|(intro hq;try simp only [lnS]at hq)|refine sI ?_|refine .intro _ (.intro rfl ?_));(conv=>whnf)))
 refine aB (λh1=> ?_) (λh1=> ?_)
 ·have hkl:k < s.length:=by omega
  have hst:= λh=>mM (k:=k) hk0 hkl h
  have hgo:= λh=>gX hk0 hkl hk2 h
  rw [aMe s[k]]at hst hgo
  ((conv=>whnf);repeat' ((first|(intro hq;(try simp only [lnS]at hq);(try rewrite [List.length_map]))|refine sJ ?_|refine .intro _ (.intro rfl ?_)|refine exL (k:= ?_)|(refine⟨_,rR (by first|omega|(simp only [List.length_map];omega)), ?_⟩)|(refine aD [] (uE _) trivial (λs hs=> ?_);subst hs)|(refine aD [] (aE7 _) trivial (λs hs=> ?_);subst hs)|refine dwR ?_|((first|refine aB ?_ ?_|refine aC ?_ ?_)<;>intro hb<;>(first|exact ddX hb|try simp only [lnS]at hb))|(refine aA ?_ ?_<;>intro hb<;>try exact dsX hb))<;>(conv=>whnf)))
  all_goals first
   |exact aQ (Eq.symm (hst (aS3 (c:=s[(k:Int).toNat]) (by assumption) (by assumption) (by assumption))))
   |exact⟨k+1,⟨⟨by omega,by omega⟩,hgo (by first|exact aPv (c:=s[(k:Int).toNat]) (by assumption)|exact aPu (c:=s[(k:Int).toNat]) (by assumption)|exact aPt (c:=s[(k:Int).toNat]) (by assumption))⟩,by dsimp only;omega,⟨by repeat' (first|exact trivial|exact rfl|refine And.intro ?_ ?_),by repeat' (first|exact trivial|exact rfl|refine And.intro ?_ ?_)⟩⟩
 ·have hkl:k=s.length:=by omega
  subst hkl
  rw [List.take_of_length_le (by rw [List.length_drop];omega)]at hk2
  rw [hk2]
  ((conv=>whnf);repeat' ((first|(intro hq;(try simp only [lnS]at hq);(try rewrite [List.length_map]))|refine sJ ?_|refine .intro _ (.intro rfl ?_)|refine exL (k:= ?_)|refine dwR ?_|((first|refine aB ?_ ?_|refine aC ?_ ?_)<;>intro hb<;>(first|exact ddX hb|try simp only [lnS]at hb))|(refine aA ?_ ?_<;>intro hb<;>try exact dsX hb))<;>(conv=>whnf)))
  rfl
theorem eV (s:List UInt8):Tri Tryz.prog 152 [.d (.str s)] [] (λr=>r= .d (.bool (aCe s))):=by
 have hc:=nO s
 have hn:s=[]->dM s=false:= λh=>by subst h;rfl
 have hi:aCe s=(dM s && !decide (s.head?=some 95)):=rfl
 cases hv:dM s
 ·rw [hv]at hc hi
  rw [hi]
  refine aF hty Tryz.func152 rfl (kp [0,2]) [] _ _ _ (by simp [Tryz.f152]) (by simp) ?_
  ((conv=>whnf);repeat' ((first|(intro hq;(try simp only [lnS]at hq);(try rewrite [List.length_map]))|refine sJ ?_|refine .intro _ (.intro rfl ?_)|refine exL (k:= ?_)|(refine⟨_,rR (by first|omega|(simp only [List.length_map];omega)), ?_⟩)|(refine aD [] hc trivial (λr hs=> ?_);subst hs)|refine dwR ?_|((first|refine aB ?_ ?_|refine aC ?_ ?_)<;>intro hb<;>(first|exact ddX hb|try simp only [lnS]at hb))|(refine aA ?_ ?_<;>intro hb<;>try exact dsX hb))<;>(conv=>whnf)))
  all_goals first|rfl|(refine aQ ?_;simp_all;done)
 ·rw [hv]at hc hi hn
  rw [hi]
  match s,hn with
  | [],hn=>exact absurd (hn rfl) (by decide)
  |c::r,hn=>
   have e:decide ((c::r).head?=some 95)=decide ((c.toNat:Int)=95):=by
    rw [decide_eq_decide,List.head?_cons]
    have h9:(95:UInt8).toNat=95:=by decide
    constructor
    ·intro e;injection e with e;rw [e];rfl
    ·intro e;exact congrArg some (UInt8.toNat_inj.1 (by omega))
   rw [e]
   refine aF hty Tryz.func152 rfl (kp [0,2]) [] _ _ _ (by simp [Tryz.f152]) (by simp) ?_
   ((conv=>whnf);repeat' ((first|(intro hq;(try simp only [lnS]at hq);(try rewrite [List.length_map]))|refine sJ ?_|refine .intro _ (.intro rfl ?_)|refine exL (k:= ?_)|(refine⟨_,rR (by first|omega|(simp only [List.length_map];omega)), ?_⟩)|(refine aD [] hc trivial (λr hs=> ?_);subst hs)|refine dwR ?_|((first|refine aB ?_ ?_|refine aC ?_ ?_)<;>intro hb<;>(first|exact ddX hb|try simp only [lnS]at hb))|(refine aA ?_ ?_<;>intro hb<;>try exact dsX hb))<;>(conv=>whnf)))
   all_goals first
    |(refine aQ ?_;rw [show decide ((c.toNat:Int)=95)=false from decide_eq_false hb];rfl)
    |(refine aQ ?_;rw [show decide ((c.toNat:Int)=95)=true from decide_eq_true hb];rfl)
theorem gZ (s:List UInt8):Tri Tryz.prog 154 [.d (.str s)] [] (λr=>r= .d (.bool (hU s))):=by
 refine aF hty Tryz.func154 rfl (kp [0,2]) [] _ _ _ (by simp [Tryz.f154]) (by simp) ?_
 ((conv=>whnf);repeat' ((first|(intro hq;(try simp only [lnS]at hq);(try rewrite [List.length_map]))|refine sJ ?_|refine .intro _ (.intro rfl ?_)|refine exL (k:= ?_)|(refine aD [] (gC _) trivial (λs hs=> ?_);subst hs)|(refine aD [] (eV _) trivial (λs hs=> ?_);subst hs)|refine dwR ?_|((first|refine aB ?_ ?_|refine aC ?_ ?_)<;>intro hb<;>(first|exact ddX hb|try simp only [lnS]at hb))|(refine aA ?_ ?_<;>intro hb<;>try exact dsX hb))<;>(conv=>whnf)))
 ·refine aQ ?_
  rw [hU,hb];rfl
 ·refine aQ ?_
  rw [hU,hb];rfl
theorem lS (a:At):Tri Tryz.prog 153 [.d (.agg (atR a))] [] (λr=>r= .d (.sl 1 ((if a.kind=2 then [a.x,a.y]else [a.x]).map bL))):=by
 refine aE false [1] hty Tryz.func153 rfl (kp [0,1,2,5]) [] _ _ _ (by simp [Tryz.f153]) (by simp) ?_
 ((conv=>whnf);repeat' ((first|(intro hq;(try simp only [lnS]at hq);(try rewrite [List.length_map]))|refine sJ ?_|refine .intro _ (.intro rfl ?_)|refine exL (k:= ?_)|refine dwR ?_|((first|refine aB ?_ ?_|refine aC ?_ ?_)<;>intro hb<;>(first|exact ddX hb|try simp only [lnS]at hb))|(refine aA ?_ ?_<;>intro hb<;>try exact dsX hb))<;>(conv=>whnf)))
 ·rw [if_pos hb];rfl
 ·rw [if_neg hb];rfl
theorem rL (l:List (List UInt8)) (s:List UInt8):Tri Tryz.prog 75 [.d (aLs l), .d (.str s)] [] (λr=>r= .d (.bool (decide (s∈l)))):=by
 refine aF hty Tryz.func75 rfl (kp [0,1,4,5,9,17]) [] _ _ _ (by simp [Tryz.f75]) (by simp) ?_
 ((conv=>whnf);repeat' ((first|(intro hq;(try simp only [lnS]at hq);(try rewrite [List.length_map]))|refine sJ ?_|refine .intro _ (.intro rfl ?_)|refine exL (k:= ?_)|refine dwR ?_|((first|refine aB ?_ ?_|refine aC ?_ ?_)<;>intro hb<;>(first|exact ddX hb|try simp only [lnS]at hb))|(refine aA ?_ ?_<;>intro hb<;>try exact dsX hb))<;>(conv=>whnf)))
 refine aH hty (λj:Nat=>([(0, .d (aLs l)),(1, .d (.str s)),(5, .d (.int .i64 j))],[])) (λj=>j<=l.length/\decide (s∈l)=decide (s∈l.drop j)) (λj=>l.length - j) 0 ⟨by omega,rfl⟩ ⟨by repeat' (first|exact trivial|exact rfl|refine And.intro ?_ ?_),by repeat' (first|exact trivial|exact rfl|refine And.intro ?_ ?_)⟩ ?_
 rintro j ⟨hj,hn⟩
 ((conv=>whnf);repeat ((first|(intro hq;try simp only [lnS]at hq)|refine sI ?_|refine .intro _ (.intro rfl ?_));(conv=>whnf)))
 refine aB (λh1=> ?_) (λh1=> ?_)
 ·have hjl:j < l.length:=by simp only [List.length_map]at h1;omega
  have hrow:(l.map bL)[(j:Int).toNat]? =some (bL l[j]):=aS hjl
  rw [List.drop_eq_getElem_cons hjl]at hn
  generalize l[j]=x at hrow hn
  ((conv=>whnf);repeat' ((first|(intro hq;(try simp only [lnS]at hq);(try rewrite [List.length_map]))|refine sJ ?_|refine .intro _ (.intro rfl ?_)|refine exL (k:= ?_)|(refine⟨_,hrow, ?_⟩)|refine dwR ?_|((first|refine aB ?_ ?_|refine aC ?_ ?_)<;>intro hb<;>(first|exact ddX hb|try simp only [lnS]at hb))|(refine aA ?_ ?_<;>intro hb<;>try exact dsX hb))<;>(conv=>whnf)))
  ·refine aQ (Eq.symm ?_)
   rw [hn];simp_all
  ·refine⟨j+1,⟨by omega, ?_⟩,by dsimp only;omega,by repeat' (first|exact trivial|exact rfl|refine And.intro ?_ ?_),trivial⟩
   rw [hn]
   simp_all [eq_comm]
 ·have hjl:j=l.length:=by simp only [List.length_map]at h1;omega
  subst hjl
  ((conv=>whnf);repeat' ((first|(intro hq;(try simp only [lnS]at hq);(try rewrite [List.length_map]))|refine sJ ?_|refine .intro _ (.intro rfl ?_)|refine exL (k:= ?_)|refine dwR ?_|((first|refine aB ?_ ?_|refine aC ?_ ?_)<;>intro hb<;>(first|exact ddX hb|try simp only [lnS]at hb))|(refine aA ?_ ?_<;>intro hb<;>try exact dsX hb))<;>(conv=>whnf)))
  refine aQ (Eq.symm ?_)
  rw [hn,List.drop_length];simp
end Go.Proofs.YtleihcnongldbaaGreatDoor
