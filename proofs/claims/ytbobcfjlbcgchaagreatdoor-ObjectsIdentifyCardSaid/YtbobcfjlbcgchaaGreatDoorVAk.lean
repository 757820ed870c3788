/-
  Terms: CheckAxiom. The order of strings, in plain Lean. Terms: the weight of an axiom, and the library's comparisons. Terms: the library's comparisons of numbers, strings and lists. Terms: the tree of a concept: grow. Statements whose order is open: a head of reads and calls in any order, then a tail that is forced. Terms: the order of concepts: compare and Compare. Terms: Compare. Terms: CompareAxiom. Terms: the reference's SameList, Same, SameAxiom. Terms: the reference's Same. Terms: the reference's SameAxiom. Terms: the reference's SameNames.
  Conditions: none.
-/
import Derived.Test.YtbobcfjlbcgchaaGreatDoorVA8
import Derived.Test.YtbobcfjlbcgchaaGreatDoorVSna
import Derived.Test.YtbobcfjlbcgchaaGreatDoorVSs
set_option linter.unnecessarySimpa false
set_option linter.unusedSectionVars false
set_option linter.unusedSimpArgs false
set_option linter.unusedVariables false
set_option maxHeartbeats 8000000
namespace Go.Proofs.YtbobcfjlbcgchaaGreatDoor
open Go.Proofs
set_option maxRecDepth 10000
attribute [local irreducible] aJ aF Tri aG YVC bS aQ
def aFu (x:Ax):Bool:=if x.kind=2 then (cC x.left || cC x.right)else if x.kind=1\/x.kind=4\/x.kind=8 then cC x.right else false
def xV (u:Use) (x:Ax):Int:=
 if oF u x=false then 20
 else if u.left=true/\bK x.left≠0 then bK x.left
 else if u.right=true/\bK x.right≠0 then bK x.right
 else if aFu x=true then 22 else 0
def bL (x:Ax):Int:=if bC x=false then 22 else xV (dB x.kind) x
theorem iO (x:Ax):Tri Tryz.prog 43 [.d (.agg (axR x))] NG (λr=>r= .d (.int .i64 (bL x))):=by
 have e1:=kE x.left
 have e2:=kE x.right
 have b1:=wS x.left
 have b2:=wS x.right
 rw [aT]at e1 e2 b1 b2
 refine aH false [1,3] hty Tryz.func43 rfl (kp [0,1,2,3,4,5,8,16,18,23,26,31,34,35,44,45,51]) [] _ _ _ (by simp [Tryz.f43]) (by decide) ?_
 ((conv=>whnf);repeat ((first|(intro hq;try simp only [lnS]at hq)|refine sI ?_|refine .intro _ (.intro rfl ?_));(conv=>whnf)))
 refine aD NG (aBi x) ⟨rfl,rfl,trivial⟩ (λr hs=> ?_)
 subst hs
 cases hs:bC x
 ·((conv=>whnf);repeat' ((first|(intro hq;(try simp only [lnS]at hq);(try rewrite [List.length_map]))|refine sJ ?_|refine .intro _ (.intro rfl ?_)|refine exL (k:= ?_)|refine dwR ?_|((first|refine aA ?_ ?_|refine aC ?_ ?_)<;>intro hb<;>(first|exact ddX hb|try simp only [lnS]at hb))|(refine aB ?_ ?_<;>intro hb<;>try exact dsX hb))<;>(conv=>whnf)))
  rw [bL,if_pos hs];rfl
 ·have hE:bL x=xV (dB x.kind) x:=by rw [bL,if_neg (by simp [hs])]
  have hk:1<=x.kind/\x.kind<=9:=by
   unfold bC at hs
   split at hs
   ·cases hs
   ·omega
  rw [hE]
  have hrow:=aL8 (k:=x.kind) hk
  generalize dB x.kind=u at hrow
  have hn:=aD8 x u
  clear hE
  ((conv=>whnf);repeat ((first|(refine cR (id:=91) hty rfl rfl rfl rfl rfl rfl rfl (by omega) (by omega) ?_)|(refine⟨_,hrow, ?_⟩)|(intro hq;try simp only [lnS]at hq)|refine sI ?_|refine .intro _ (.intro rfl ?_));(conv=>whnf)))
  refine aD [] hn trivial (λr hs=> ?_)
  subst hs
  cases hs2:oF u x
  ·((conv=>whnf);repeat' ((first|(intro hq;(try simp only [lnS]at hq);(try rewrite [List.length_map]))|refine sJ ?_|refine .intro _ (.intro rfl ?_)|refine exL (k:= ?_)|refine dwR ?_|((first|refine aA ?_ ?_|refine aC ?_ ?_)<;>intro hb<;>(first|exact ddX hb|try simp only [lnS]at hb))|(refine aB ?_ ?_<;>intro hb<;>try exact dsX hb))<;>(conv=>whnf)))
   rw [xV,if_pos hs2];rfl
  ·((conv=>whnf);repeat' ((first|(intro hq;(try simp only [lnS]at hq);(try rewrite [List.length_map]))|refine sJ ?_|refine .intro _ (.intro rfl ?_)|refine exL (k:= ?_)|(refine aD NG e1 ⟨rfl,rfl,trivial⟩ (λr hs=> ?_);subst hs)|(refine aD NG e2 ⟨rfl,rfl,trivial⟩ (λr hs=> ?_);subst hs)|(refine aD [] b1 trivial (λr hs=> ?_);subst hs)|(refine aD [] b2 trivial (λr hs=> ?_);subst hs)|refine dwR ?_|((first|refine aA ?_ ?_|refine aC ?_ ?_)<;>intro hb<;>(first|exact ddX hb|try simp only [lnS]at hb))|(refine aB ?_ ?_<;>intro hb<;>try exact dsX hb))<;>(conv=>whnf)))
   all_goals (refine eX (Eq.symm ?_);clear e1 e2 b1 b2 hrow hn;unfold xV aFu;simp_all)
   all_goals trace_state
end Go.Proofs.YtbobcfjlbcgchaaGreatDoor
namespace Go.Proofs.YtbobcfjlbcgchaaGreatDoor
def iP (a b:List UInt8):Int:=Lib.compareBytes a b
theorem sS: ∀(a b:List UInt8),iP a b= -1\/iP a b=0\/iP a b=1
 | [],[]=>by simp [iP,Lib.compareBytes]
 | [],_::_=>by simp [iP,Lib.compareBytes]
 |_::_,[]=>by simp [iP,Lib.compareBytes]
 |x::a,y::b=>by
  have:=sS a b
  unfold iP at this |-
  simp only [Lib.compareBytes]
  split
  ·exact .inl rfl
  ·split
   ·exact .inr (.inr rfl)
   ·exact this
theorem dZ: ∀(a b:List UInt8),iP a b=0↔a=b
 | [],[]=>by simp [iP,Lib.compareBytes]
 | [],_::_=>by simp [iP,Lib.compareBytes]
 |_::_,[]=>by simp [iP,Lib.compareBytes]
 |x::a,y::b=>by
  have ih:=dZ a b
  unfold iP at ih |-
  simp only [Lib.compareBytes,List.cons.injEq]
  split
  ·rename_i h
   constructor
   ·intro h;omega
   ·rintro⟨rfl,_⟩;exact absurd h (UInt8.lt_irrefl x)
  ·split
   ·rename_i h
    constructor
    ·intro h;omega
    ·rintro⟨rfl,_⟩;exact absurd h (UInt8.lt_irrefl x)
   ·rename_i h1 h2
    rw [ih]
    have:x=y:=UInt8.le_antisymm (UInt8.not_lt.1 h2) (UInt8.not_lt.1 h1)
    simp [this]
theorem aDy: ∀(a b:List UInt8),iP b a= - iP a b
 | [],[]=>by simp [iP,Lib.compareBytes]
 | [],_::_=>by simp [iP,Lib.compareBytes]
 |_::_,[]=>by simp [iP,Lib.compareBytes]
 |x::a,y::b=>by
  have ih:=aDy a b
  unfold iP at ih |-
  simp only [Lib.compareBytes]
  by_cases h1:x < y
  ·have h2:¬ y < x:= λh=>UInt8.lt_irrefl x (UInt8.lt_trans h1 h)
   simp [h1,h2]
  ·by_cases h2:y < x
   ·simp [h1,h2]
   ·simp [h1,h2,ih]
theorem aAb: ∀(a b c:List UInt8),iP a b < 0->iP b c < 0->iP a c < 0
 | [],[],c,h,_=>by simp [iP,Lib.compareBytes]at h
 | [],_::_,[],_,h=>by simp [iP,Lib.compareBytes]at h
 | [],_::_,_::_,_,_=>by simp [iP,Lib.compareBytes]
 |_::_,[],c,h,_=>by simp [iP,Lib.compareBytes]at h
 |_::_,_::_,[],_,h=>by simp [iP,Lib.compareBytes]at h
 |x::a,y::b,z::c,h1,h2=>by
  have ih:=aAb a b c
  unfold iP at ih h1 h2 |-
  simp only [Lib.compareBytes]at h1 h2 |-
  by_cases hxy:x < y
  ·by_cases hyz:y < z
   ·simp [UInt8.lt_trans hxy hyz]
   ·by_cases hzy:z < y
    ·simp [hyz,hzy]at h2
    ·have:y=z:=UInt8.le_antisymm (UInt8.not_lt.1 hzy) (UInt8.not_lt.1 hyz)
     subst this;simp [hxy]
  ·by_cases hyx:y < x
   ·simp [hxy,hyx]at h1
   ·have:x=y:=UInt8.le_antisymm (UInt8.not_lt.1 hyx) (UInt8.not_lt.1 hxy)
    subst this
    simp only [hxy,if_false]at h1
    by_cases hyz:x < z
    ·simp [hyz]
    ·by_cases hzy:z < x
     ·simp [hyz,hzy]at h2
     ·simp only [hyz,hzy,if_false]at h2 |-
      exact ih h1 h2
theorem bytesLess_eq: ∀(a b:List UInt8),Op.bytesLess a b=decide (iP a b < 0)
 | [],[]=>by simp [iP,Lib.compareBytes,Op.bytesLess]
 | [],_::_=>by simp [iP,Lib.compareBytes,Op.bytesLess]
 |_::_,[]=>by simp [iP,Lib.compareBytes,Op.bytesLess]
 |x::a,y::b=>by
  have ih:=bytesLess_eq a b
  unfold iP at ih |-
  simp only [Lib.compareBytes,Op.bytesLess]
  by_cases h1:x < y
  ·simp [h1]
  ·by_cases h2:y < x
   ·have:¬ x=y:= λe=>UInt8.lt_irrefl x (by rw [<-e]at h2;exact h2)
    simp [h1,h2,this]
   ·have:x=y:=UInt8.le_antisymm (UInt8.not_lt.1 h2) (UInt8.not_lt.1 h1)
    subst this
    simp [ih]
end Go.Proofs.YtbobcfjlbcgchaaGreatDoor
namespace Go.Proofs.YtbobcfjlbcgchaaGreatDoor
open Go.Proofs
set_option maxRecDepth 10000
attribute [local irreducible] aJ aF Tri aG YVC bS aQ
def cnX (c:Cn):List D:=[.int .i64 c.kind, .str c.name, .int .i64 c.lo, .int .i64 c.hi, .sl 5 (c.parts.map cnR)]
def aN8 (c:Cn):Int:=if c.kind≠0 then bB c else 0
def aUt (s:List UInt8):Int:=if s≠[]then 1 else 0
def aEj:List Cn->Int
 | []=>0
 |c::r=>aN8 c+aEj r
def aEi:List (List UInt8)->Int
 | []=>0
 |c::r=>aUt c+aEi r
def vB (x:Ax):Int:=aEj [x.left,x.right]+x.roles.length+aEi [x.role,x.a,x.b]
theorem aLn {l:List Cn}{j:Nat}(h:j < l.length):aEj (l.take (j+1))=aEj (l.take j)+aN8 l[j]:=by
 induction l generalizing j with
 |nil=>simp at h
 |cons c l ih=>
  cases j with
  |zero=>simp [aEj]
  |succ j=>
   have:=ih (j:=j) (by simpa using h)
   simp only [List.take_succ_cons,aEj,List.getElem_cons_succ,this];omega
theorem aLm {l:List (List UInt8)}{j:Nat}(h:j < l.length):aEi (l.take (j+1))=aEi (l.take j)+aUt l[j]:=by
 induction l generalizing j with
 |nil=>simp at h
 |cons c l ih=>
  cases j with
  |zero=>simp [aEi]
  |succ j=>
   have:=ih (j:=j) (by simpa using h)
   simp only [List.take_succ_cons,aEi,List.getElem_cons_succ,this];omega
theorem aG9: ∀(l:List Cn),(∀c∈l,bB c<=1000000)->0<=aEj l/\aEj l<=1000000 * l.length
 | [],_=>by simp [aEj]
 |c::r,h=>by
  have h1:=aG9 r λx hx=>h x (List.mem_cons_of_mem _ hx)
  have h2:=h c (List.mem_cons_self ..)
  simp only [aEj,aN8,List.length_cons]
  split<;>omega
theorem aG5: ∀(l:List (List UInt8)),0<=aEi l/\aEi l<=l.length
 | []=>by simp [aEi]
 |c::r=>by
  have h1:=aG5 r
  simp only [aEi,aUt,List.length_cons]
  split<;>omega
theorem vA (x:Ax) (h1:bB x.left<=1000000) (h2:bB x.right<=1000000) (h3:x.roles.length<=1000000):Tri Tryz.prog 71 [.d (.agg (axR x))] [] (λr=>r= .d (.int .i64 (vB x))):=by
 have hkb: ∀j,0<=aEj ([x.left,x.right].take j)/\aEj ([x.left,x.right].take j)<=2000000:=by
  intro j
  have := aG9 ([x.left, x.right].take j) (λc hc => by
   have:=List.mem_of_mem_take hc
   simp at this
   rcases this with rfl|rfl<;>assumption)
  have hl:([x.left,x.right].take j).length<=2:=by rw [List.length_take];simp;omega
  omega
 have hsz: ∀(j:Nat) (hj:j < [x.left,x.right].length),bB [x.left,x.right][j]<=1000000:=by
  intro j hj
  have hm:=List.getElem_mem hj
  simp only [List.mem_cons,List.not_mem_nil,or_false]at hm
  rcases hm with e|e<;>rw [e]<;>assumption
 refine aH false [1,4] hty Tryz.func71 rfl (kp [0,1,2,4,6,11,12,13,14,19,36,37,38,39,43]) [] _ _ _ (by simp [Tryz.f71]) (by simp) ?_
 ((conv=>whnf);repeat ((first|(intro hq;try simp only [lnS]at hq)|refine sI ?_|refine .intro _ (.intro rfl ?_));(conv=>whnf)))
 refine aK hty (λj:Nat=>([(1, .ea 16 [axR x] 0 0),(2, .d (.int .i64 (aEj ([x.left,x.right].take j)))),(11, .d (.sl 5 ([x.left,x.right].map cnX))),(12, .d (.int .i64 2)),(13, .d (.int .i64 j))],[])) (λj=>j<=2) (λj=>2 - j) 0 (by omega) ⟨by repeat' (first|exact trivial|exact rfl|exact⟨rfl,rfl⟩|refine And.intro ?_ ?_),trivial⟩ ?_
 ·intro j hj
  have hb0:=hkb j
  ((conv=>whnf);repeat ((first|(intro hq;try simp only [lnS]at hq)|refine sI ?_|refine .intro _ (.intro rfl ?_));(conv=>whnf)))
  refine aA (λh4=> ?_) (λh4=> ?_)
  ·have hjl:j < [x.left,x.right].length:=by simp;omega
   have hrow:([x.left,x.right].map cnX)[(j:Int).toNat]? =some (cnX [x.left,x.right][j]):=bV hjl
   have hs2:=hsz j hjl
   have hsp:=aLt _ hs2
   have htk:=aLn hjl
   generalize [x.left,x.right][j]=c at hrow hs2 hsp htk
   rw [aT]at hsp
   ((conv=>whnf);repeat' ((first|(intro hq;(try simp only [lnS]at hq);(try rewrite [List.length_map]))|refine sJ ?_|refine .intro _ (.intro rfl ?_)|refine exL (k:= ?_)|(refine⟨_,hrow, ?_⟩)|(refine aD [] hsp trivial (λr hs=> ?_);subst hs)|refine dwR ?_|((first|refine aA ?_ ?_|refine aC ?_ ?_)<;>intro hb<;>(first|exact ddX hb|try simp only [lnS]at hb))|(refine aB ?_ ?_<;>intro hb<;>try exact dsX hb))<;>(conv=>whnf)))
   ·refine⟨j+1,by dsimp only;omega,by dsimp only;omega,⟨?_,trivial⟩⟩
    dsimp only
    rw [htk,aN8,if_pos (by assumption)]
    repeat' (first|exact trivial|exact rfl|exact⟨rfl,rfl⟩|refine And.intro ?_ ?_)
   ·refine⟨j+1,by dsimp only;omega,by dsimp only;omega,⟨?_,trivial⟩⟩
    dsimp only
    rw [htk,aN8,if_neg (by simpa using (by assumption:c.kind=0)),Int.add_zero]
    repeat' (first|exact trivial|exact rfl|exact⟨rfl,rfl⟩|refine And.intro ?_ ?_)
  ·have hj2:j=2:=by omega
   subst hj2
   have ht:[x.left,x.right].take 2=[x.left,x.right]:=rfl
   rw [ht]at hb0 |-
   have hW:vB x=aEj [x.left,x.right]+x.roles.length+aEi [x.role,x.a,x.b]:=rfl
   rw [hW]
   generalize aEj [x.left,x.right]=m at hb0
   clear hW hkb hsz
   ((conv=>whnf);repeat ((first|(intro hq;try simp only [lnS]at hq)|refine sI ?_|refine .intro _ (.intro rfl ?_));(conv=>whnf)))
   have hsb: ∀j,0<=aEi ([x.role,x.a,x.b].take j)/\aEi ([x.role,x.a,x.b].take j)<=3:=by
    intro j
    have:=aG5 ([x.role,x.a,x.b].take j)
    have hl:([x.role,x.a,x.b].take j).length<=3:=by rw [List.length_take];simp;omega
    omega
   refine aK hty (λj:Nat=>([(2, .d (.int .i64 (m+x.roles.length+aEi ([x.role,x.a,x.b].take j)))),(36, .d (.sl 1 ([x.role,x.a,x.b].map eO))),(37, .d (.int .i64 3)),(38, .d (.int .i64 j))],[])) (λj=>j<=3) (λj=>3 - j) 0 (by omega) ⟨by repeat' (first|exact trivial|exact rfl|exact⟨rfl,rfl⟩|exact aRa (by simp [aEi])|refine And.intro ?_ ?_),trivial⟩ ?_
   intro j hj
   have hb1:=hsb j
   ((conv=>whnf);repeat ((first|(intro hq;try simp only [lnS]at hq)|refine sI ?_|refine .intro _ (.intro rfl ?_));(conv=>whnf)))
   refine aA (λh5=> ?_) (λh5=> ?_)
   ·have hjl:j < [x.role,x.a,x.b].length:=by simp;omega
    have hrow:([x.role,x.a,x.b].map eO)[(j:Int).toNat]? =some (eO [x.role,x.a,x.b][j]):=bV hjl
    have htk:=aLm hjl
    generalize [x.role,x.a,x.b][j]=c at hrow htk
    ((conv=>whnf);repeat' ((first|(intro hq;(try simp only [lnS]at hq);(try rewrite [List.length_map]))|refine sJ ?_|refine .intro _ (.intro rfl ?_)|refine exL (k:= ?_)|(refine⟨_,hrow, ?_⟩)|refine dwR ?_|((first|refine aA ?_ ?_|refine aC ?_ ?_)<;>intro hb<;>(first|exact ddX hb|try simp only [lnS]at hb))|(refine aB ?_ ?_<;>intro hb<;>try exact dsX hb))<;>(conv=>whnf)))
    ·refine⟨j+1,by dsimp only;omega,by dsimp only;omega,⟨?_,trivial⟩⟩
     dsimp only
     rw [htk,aUt,if_pos (by assumption)]
     repeat' (first|exact trivial|exact rfl|exact⟨rfl,rfl⟩|exact aRa (by omega)|refine And.intro ?_ ?_)
    ·refine⟨j+1,by dsimp only;omega,by dsimp only;omega,⟨?_,trivial⟩⟩
     dsimp only
     rw [htk,aUt,if_neg (by simpa using (by assumption:c=[])),Int.add_zero]
     repeat' (first|exact trivial|exact rfl|exact⟨rfl,rfl⟩|refine And.intro ?_ ?_)
   ·have hj3:j=3:=by omega
    subst hj3
    ((conv=>whnf);repeat' ((first|(intro hq;(try simp only [lnS]at hq);(try rewrite [List.length_map]))|refine sJ ?_|refine .intro _ (.intro rfl ?_)|refine exL (k:= ?_)|refine dwR ?_|((first|refine aA ?_ ?_|refine aC ?_ ?_)<;>intro hb<;>(first|exact ddX hb|try simp only [lnS]at hb))|(refine aB ?_ ?_<;>intro hb<;>try exact dsX hb))<;>(conv=>whnf)))
    rfl
end Go.Proofs.YtbobcfjlbcgchaaGreatDoor
namespace Go.Proofs.YtbobcfjlbcgchaaGreatDoor
open Go.Proofs
set_option maxRecDepth 10000
attribute [local irreducible] aJ aF Tri aG YVC bS aQ
def xR (a b:Int):Int:=if a < b then -1 else if b < a then 1 else 0
def orF:List Int->Int
 | []=>0
 |x::r=>if x≠0 then x else orF r
def aCt (n:Int):List D:=[.int .i64 n]
theorem aFf (a:Int):Tri Tryz.prog 129 [.d (.int .i64 a)] [] (λr=>r= .d (.bool false)):=by
 refine aP hty Tryz.func129 rfl (kp [0,2]) [] _ _ _ (by simp [Tryz.f129]) (by simp) ?_
 ((conv=>whnf);repeat' ((first|(intro hq;(try simp only [lnS]at hq);(try rewrite [List.length_map]))|refine sJ ?_|refine .intro _ (.intro rfl ?_)|refine exL (k:= ?_)|refine dwR ?_|((first|refine aA ?_ ?_|refine aC ?_ ?_)<;>intro hb<;>(first|exact ddX hb|try simp only [lnS]at hb))|(refine aB ?_ ?_<;>intro hb<;>try exact dsX hb))<;>(conv=>whnf)))
 all_goals first|rfl|(exact bQ (by simp))
theorem wQ (a:List UInt8):Tri Tryz.prog 179 [.d (.str a)] [] (λr=>r= .d (.bool false)):=by
 refine aP hty Tryz.func179 rfl (kp [0,2]) [] _ _ _ (by simp [Tryz.f179]) (by simp) ?_
 ((conv=>whnf);repeat' ((first|(intro hq;(try simp only [lnS]at hq);(try rewrite [List.length_map]))|refine sJ ?_|refine .intro _ (.intro rfl ?_)|refine exL (k:= ?_)|refine dwR ?_|((first|refine aA ?_ ?_|refine aC ?_ ?_)<;>intro hb<;>(first|exact ddX hb|try simp only [lnS]at hb))|(refine aB ?_ ?_<;>intro hb<;>try exact dsX hb))<;>(conv=>whnf)))
 all_goals first|rfl|(exact bQ (by simp))
theorem eF (a b:Int):Tri Tryz.prog 70 [.d (.int .i64 a), .d (.int .i64 b)] [] (λr=>r= .d (.int .i64 (xR a b))):=by
 refine aP hty Tryz.func70 rfl (kp [0,1,4,5,6,11,12,13,16,19]) [] _ _ _ (by simp [Tryz.f70]) (by simp) ?_
 ((conv=>whnf);repeat' ((first|(intro hq;(try simp only [lnS]at hq);(try rewrite [List.length_map]))|refine sJ ?_|refine .intro _ (.intro rfl ?_)|refine exL (k:= ?_)|(refine aD [] (aFf _) trivial (λr hs=> ?_);subst hs)|refine dwR ?_|((first|refine aA ?_ ?_|refine aC ?_ ?_)<;>intro hb<;>(first|exact ddX hb|try simp only [lnS]at hb))|(refine aB ?_ ?_<;>intro hb<;>try exact dsX hb))<;>(conv=>whnf)))
 all_goals (refine eX (Eq.symm ?_);unfold xR;simp_all<;>omega)
theorem aBp (a b:List UInt8):Tri Tryz.prog 131 [.d (.str a), .d (.str b)] [] (λr=>r= .d (.int .i64 (iP a b))):=by
 refine aP hty Tryz.func131 rfl (kp [0,1,4,5,6,11,12,13,16,19]) [] _ _ _ (by simp [Tryz.f131]) (by simp) ?_
 ((conv=>whnf);repeat' ((first|(intro hq;(try simp only [lnS]at hq);(try rewrite [List.length_map]))|refine sJ ?_|refine .intro _ (.intro rfl ?_)|refine exL (k:= ?_)|(refine aD [] (wQ _) trivial (λr hs=> ?_);subst hs)|refine dwR ?_|((first|refine aA ?_ ?_|refine aC ?_ ?_)<;>intro hb<;>(first|exact ddX hb|try simp only [lnS]at hb))|(refine aB ?_ ?_<;>intro hb<;>try exact dsX hb))<;>(conv=>whnf)))
 all_goals (
  refine eX (Eq.symm ?_)
  have hr:=sS a b
  have hz:=dZ a b)
 ·rw [bytesLess_eq,decide_eq_true_eq]at hb
  omega
 ·rename_i hb0
  rw [bytesLess_eq,decide_eq_false_iff_not]at hb0
  have:iP a b≠0:= λq=>by rw [hz.1 q]at hb;simp at hb
  omega
 ·rename_i hb0
  rw [bytesLess_eq,decide_eq_false_iff_not]at hb0
  rw [bytesLess_eq,decide_eq_false hb0]at hb
  exact hz.2 (by simpa using hb)
theorem aF6 (l:List Int):Tri Tryz.prog 69 [.d (.sl 1 (l.map aCt))] [] (λr=>r= .d (.int .i64 (orF l))):=by
 refine aP hty Tryz.func69 rfl (kp [0,2,3,5,6,7,8,9,14]) [] _ _ _ (by simp [Tryz.f69]) (by simp) ?_
 ((conv=>whnf);repeat ((first|(intro hq;try simp only [lnS]at hq)|refine sI ?_|refine .intro _ (.intro rfl ?_));(conv=>whnf)))
 refine aK hty (λj:Nat=>([(3, .d (.int .i64 0)),(6, .d (.sl 1 (l.map aCt))),(7, .d (.int .i64 l.length)),(8, .d (.int .i64 j))],[])) (λj=>j<=l.length/\orF l=orF (l.drop j)) (λj=>l.length - j) 0 ⟨by omega,rfl⟩ ⟨by repeat' (first|exact trivial|exact rfl|(rw [List.length_map];exact rfl)|refine And.intro ?_ ?_),trivial⟩ ?_
 rintro j ⟨hj,hn⟩
 ((conv=>whnf);repeat ((first|(intro hq;try simp only [lnS]at hq)|refine sI ?_|refine .intro _ (.intro rfl ?_));(conv=>whnf)))
 refine aA (λh1=> ?_) (λh1=> ?_)
 ·have hjl:j < l.length:=by omega
  have hrow:(l.map aCt)[(j:Int).toNat]? =some (aCt l[j]):=bV hjl
  rw [List.drop_eq_getElem_cons hjl,orF]at hn
  generalize l[j]=x at hrow hn
  ((conv=>whnf);repeat' ((first|(intro hq;(try simp only [lnS]at hq);(try rewrite [List.length_map]))|refine sJ ?_|refine .intro _ (.intro rfl ?_)|refine exL (k:= ?_)|(refine⟨_,hrow, ?_⟩)|refine dwR ?_|((first|refine aA ?_ ?_|refine aC ?_ ?_)<;>intro hb<;>(first|exact ddX hb|try simp only [lnS]at hb))|(refine aB ?_ ?_<;>intro hb<;>try exact dsX hb))<;>(conv=>whnf)))
  ·rw [if_pos (by assumption)]at hn
   exact eX hn.symm
  ·rw [if_neg (by simpa using (by assumption:x=0))]at hn
   exact⟨j+1,⟨by omega,hn⟩,by dsimp only;omega,by repeat' (first|exact trivial|exact rfl|refine And.intro ?_ ?_),trivial⟩
 ·have hjl:j=l.length:=by omega
  subst hjl
  rw [List.drop_length,orF]at hn
  ((conv=>whnf);repeat' ((first|(intro hq;(try simp only [lnS]at hq);(try rewrite [List.length_map]))|refine sJ ?_|refine .intro _ (.intro rfl ?_)|refine exL (k:= ?_)|refine dwR ?_|((first|refine aA ?_ ?_|refine aC ?_ ?_)<;>intro hb<;>(first|exact ddX hb|try simp only [lnS]at hb))|(refine aB ?_ ?_<;>intro hb<;>try exact dsX hb))<;>(conv=>whnf)))
  exact eX hn.symm
def dL:List (List UInt8)->List (List UInt8)->Int
 | [],[]=>0
 | [],_::_=> -1
 |_::_,[]=>1
 |a::l,b::m=>if iP a b≠0 then iP a b else dL l m
theorem yO (l m:List (List UInt8)):Tri Tryz.prog 72 [.d (aKk l), .d (aKk m)] [] (λr=>r= .d (.int .i64 (dL l m))):=by
 refine aP hty Tryz.func72 rfl (kp [0,1,4,5,6,7,8,9,10,11,12,19,28,35]) [] _ _ _ (by simp [Tryz.f72]) (by simp) ?_
 ((conv=>whnf);repeat ((first|(intro hq;try simp only [lnS]at hq)|refine sI ?_|refine .intro _ (.intro rfl ?_));(conv=>whnf)))
 refine aK hty (λj:Nat=>([(0, .d (aKk l)),(1, .d (aKk m)),(9, .d (aKk l)),(10, .d (.int .i64 l.length)),(11, .d (.int .i64 j))],[])) (λj=>j<=l.length/\j<=m.length/\dL l m=dL (l.drop j) (m.drop j)) (λj=>l.length - j) 0 ⟨by omega,by omega,rfl⟩ ⟨by repeat' (first|exact trivial|exact rfl|(rw [List.length_map];exact rfl)|refine And.intro ?_ ?_),trivial⟩ ?_
 rintro j ⟨hj,hjm,hn⟩
 ((conv=>whnf);repeat ((first|(intro hq;try simp only [lnS]at hq)|refine sI ?_|refine .intro _ (.intro rfl ?_));(conv=>whnf)))
 refine aA (λh1=> ?_) (λh1=> ?_)
 ·have hjl:j < l.length:=by omega
  have hrow:(l.map eO)[(j:Int).toNat]? =some (eO l[j]):=bV hjl
  rw [List.drop_eq_getElem_cons hjl]at hn
  generalize l[j]=x at hrow hn
  ((conv=>whnf);repeat ((first|(refine⟨_,hrow, ?_⟩)|(intro hq;try simp only [lnS]at hq)|refine sI ?_|refine .intro _ (.intro rfl ?_));(conv=>whnf)))
  refine aA (λh2=> ?_) (λh2=> ?_)
  ·have hm:m.drop j=[]:=List.drop_eq_nil_of_le (by simp only [List.length_map]at h2;omega)
   rw [hm,dL]at hn
   ((conv=>whnf);repeat' ((first|(intro hq;(try simp only [lnS]at hq);(try rewrite [List.length_map]))|refine sJ ?_|refine .intro _ (.intro rfl ?_)|refine exL (k:= ?_)|refine dwR ?_|((first|refine aA ?_ ?_|refine aC ?_ ?_)<;>intro hb<;>(first|exact ddX hb|try simp only [lnS]at hb))|(refine aB ?_ ?_<;>intro hb<;>try exact dsX hb))<;>(conv=>whnf)))
   exact eX hn.symm
  ·have hjm2:j < m.length:=by simp only [List.length_map]at h2;omega
   have hrow2:(m.map eO)[(j:Int).toNat]? =some (eO m[j]):=bV hjm2
   rw [List.drop_eq_getElem_cons hjm2,dL]at hn
   generalize m[j]=y at hrow2 hn
   ((conv=>whnf);repeat' ((first|(intro hq;(try simp only [lnS]at hq);(try rewrite [List.length_map]))|refine sJ ?_|refine .intro _ (.intro rfl ?_)|refine exL (k:= ?_)|(refine⟨_,hrow2, ?_⟩)|(refine aD [] (aBp x y) trivial (λr hs=> ?_);subst hs)|refine dwR ?_|((first|refine aA ?_ ?_|refine aC ?_ ?_)<;>intro hb<;>(first|exact ddX hb|try simp only [lnS]at hb))|(refine aB ?_ ?_<;>intro hb<;>try exact dsX hb))<;>(conv=>whnf)))
   ·rw [if_pos (by assumption)]at hn
    exact eX hn.symm
   ·rw [if_neg (by simpa using (by assumption:iP x y=0))]at hn
    exact⟨j+1,⟨by omega,by omega,hn⟩,by dsimp only;omega,by repeat' (first|exact trivial|exact rfl|refine And.intro ?_ ?_),trivial⟩
 ·have hjl:j=l.length:=by omega
  subst hjl
  rw [List.drop_length]at hn
  ((conv=>whnf);repeat' ((first|(intro hq;(try simp only [lnS]at hq);(try rewrite [List.length_map]))|refine sJ ?_|refine .intro _ (.intro rfl ?_)|refine exL (k:= ?_)|refine dwR ?_|((first|refine aA ?_ ?_|refine aC ?_ ?_)<;>intro hb<;>(first|exact ddX hb|try simp only [lnS]at hb))|(refine aB ?_ ?_<;>intro hb<;>try exact dsX hb))<;>(conv=>whnf)))
  ·have hjm2:l.length < m.length:=by simp_all
   rw [List.drop_eq_getElem_cons hjm2,dL]at hn
   exact eX hn.symm
  ·rename_i h9
   have hjm2:m.drop l.length=[]:=List.drop_eq_nil_of_le (by simp_all)
   rw [hjm2,dL]at hn
   exact eX hn.symm
end Go.Proofs.YtbobcfjlbcgchaaGreatDoor
namespace Go.Proofs.YtbobcfjlbcgchaaGreatDoor
open Go.Proofs
set_option maxRecDepth 10000
attribute [local irreducible] aJ aF Tri aG YVC bS aQ
mutual
def grR:Cn->List D
 | .mk k n lo hi ps=>[.int .i64 k, .str n, .int .i64 lo, .int .i64 hi, .sl 5 (aVp ps), .int .i64 (bB (.mk k n lo hi ps)), .sl 7 (aWh ps)]
def aWh:List Cn->List (List D)
 | []=>[]
 |c::r=>grR c::aWh r
end
theorem aHf: ∀l,aWh l=l.map grR
 | []=>rfl
 |c::r=>by rw [aWh,aHf r];rfl
def grX (c:Cn) (n:Int) (l:List Cn):List D:=[.int .i64 c.kind, .str c.name, .int .i64 c.lo, .int .i64 c.hi, .sl 5 (c.parts.map cnR), .int .i64 n, .sl 7 (l.map grR)]
theorem cW (c:Cn):grR c=grX c (bB c) c.parts:=by
 cases c;rw [grR,aBq,aHf];rfl
theorem wF {l:List Cn}{j:Nat}(h:j < l.length):(bM (l.take (j+1))).length=(bM (l.take j)).length+bB l[j]:=by
 rw [wE h,List.length_append];rfl
theorem oE (l:List Cn) (j:Nat):(bM (l.take j)).length<=(bM l).length:=by
 conv=>rhs;rw [<-List.take_append_drop j l,dN,List.length_append]
 omega
theorem sM: ∀(l:List Cn),l.length<=(bM l).length
 | []=>by simp
 |c::r=>by
  have h1:=sM r
  have h2:=aLu c
  rw [bB]at h2
  rw [bM,List.length_append,List.length_cons];omega
theorem aGd (c:Cn):bB c=(bM c.parts).length+1:=by rw [bB,eP];simp
theorem rG: ∀(c:Cn) (_:bB c<=1000000),Tri Tryz.prog 125 [.d (.agg (cnR c))] [] (λr=>r= .d (.agg (grR c))):=by
 refine Cn.ind ?_
 intro c ih hs
 have hsz:=aGd c
 rw [aT,cW]
 refine aH false [1,4,5] hty Tryz.func125 rfl (kp [0,1,2,4,5,9,10,11,12]) [] _ _ _ (by simp [Tryz.f125]) (by simp) ?_
 ((conv=>whnf);repeat ((first|(intro hq;try simp only [lnS]at hq)|refine sI ?_|refine .intro _ (.intro rfl ?_));(conv=>whnf)))
 refine aJ.mownC 2 120 176 176 7 6 rfl rfl (bY (by with_unfolding_all exact rfl)) ?_
 refine aK hty (λy:Nat×Nat=>([(2, .ptr 2 0),(9, .d (.sl 5 (c.parts.map cnR))),(10, .d (.int .i64 c.parts.length)),(11, .d (.int .i64 y.1))],[(120, .mrow 176 7 y.2 ((c.parts.take y.1).map grR)),(2, .cells 176 [.d (.int .i64 c.kind), .d (.str c.name), .d (.int .i64 c.lo), .d (.int .i64 c.hi), .d (.sl 5 (c.parts.map cnR)), .d (.int .i64 ((bM (c.parts.take y.1)).length+1:Nat)), .mw 120 7 y.1])])) (λy=>y.1<=c.parts.length) (λy=>c.parts.length - y.1) (0,0) (by dsimp only;omega) ⟨by repeat' (first|exact trivial|exact rfl|(rw [List.length_map];exact rfl)|refine And.intro ?_ ?_),by repeat' (first|exact trivial|exact rfl|refine And.intro ?_ ?_)⟩ ?_
 rintro⟨j,cap⟩ hj
 dsimp only at hj
 ((conv=>whnf);repeat ((first|(intro hq;try simp only [lnS]at hq)|refine sI ?_|refine .intro _ (.intro rfl ?_));(conv=>whnf)))
 refine aA (λh1=> ?_) (λh1=> ?_)
 ·have hjl:j < c.parts.length:=by dsimp only at h1;omega
  have hrow':(c.parts.map cnR)[(j:Int).toNat]? =some (cnR c.parts[j]):=bV hjl
  have hp:=sE (List.getElem_mem (l:=c.parts) hjl)
  have hi:=ih c.parts[j] (List.getElem_mem hjl) (by omega)
  have hnl:=wF hjl
  have hle:=oE c.parts (j+1)
  rw [aT]at hrow' hi
  rw [cW]at hi
  have hgr:=cW c.parts[j]
  ((conv=>whnf);repeat' ((first|(intro hq;(try simp only [lnS]at hq);(try rewrite [List.length_map]))|refine sJ ?_|refine .intro _ (.intro rfl ?_)|refine exL (k:= ?_)|(refine⟨_,hrow', ?_⟩)|(refine aD [] hi trivial (λr hs=> ?_);subst hs)|refine dwR ?_|((first|refine aA ?_ ?_|refine aC ?_ ?_)<;>intro hb<;>(first|exact ddX hb|try simp only [lnS]at hb))|(refine aB ?_ ?_<;>intro hb<;>try exact dsX hb))<;>(conv=>whnf)))
  have hpl:=sM c.parts
  have hlt:((c.parts.take j).map grR).length=j:=by rw [List.length_map,List.length_take];omega
  refine⟨?_,λcap' hc=> ?_⟩
  ·show (((c.parts.take j).map grR).length+1)* 96<=140737488355328
   rw [hlt];omega
  ·((conv=>whnf);repeat ((first|(intro hq;try simp only [lnS]at hq)|refine sI ?_|refine .intro _ (.intro rfl ?_));(conv=>whnf)))
   have hrows:(c.parts.take (j+1)).map grR=(c.parts.take j).map grR++[grX c.parts[j] (bB c.parts[j]) c.parts[j].parts]:=by
    rw [List.take_succ_eq_append_getElem hjl,List.map_append,List.map_cons,List.map_nil,hgr]
   have hcast:(((bM (c.parts.take (j+1))).length+1:Nat):Int)=(((bM (c.parts.take j)).length+1:Nat):Int)+(bB c.parts[j]:Nat):=by omega
   refine⟨(j+1,cap'),by dsimp only;omega,by dsimp only;omega,⟨by repeat' (first|exact trivial|exact rfl|refine And.intro ?_ ?_), ?_⟩⟩
   dsimp only
   rw [hrows,hcast]
   refine⟨rfl, ?_,trivial⟩
   have hmw:SV.mw 120 7 (j+1)=SV.mw 120 7 (((c.parts.take j).map grR).length+1):=by rw [hlt]
   rw [hmw]
   rfl
 ·have hjl:j=c.parts.length:=by dsimp only at h1;omega
  subst hjl
  rw [List.take_length,<-hsz]
  ((conv=>whnf);repeat' ((first|(intro hq;(try simp only [lnS]at hq);(try rewrite [List.length_map]))|refine sJ ?_|refine .intro _ (.intro rfl ?_)|refine exL (k:= ?_)|refine dwR ?_|((first|refine aA ?_ ?_|refine aC ?_ ?_)<;>intro hb<;>(first|exact ddX hb|try simp only [lnS]at hb))|(refine aB ?_ ?_<;>intro hb<;>try exact dsX hb))<;>(conv=>whnf)))
  refine⟨(List.length_map ..).symm, ?_⟩
  ((conv=>whnf);repeat ((first|(intro hq;try simp only [lnS]at hq)|refine sI ?_|refine .intro _ (.intro rfl ?_));(conv=>whnf)))
  rfl
mutual
def iT:Cn->Cn->Int
 | .mk k n lo hi ps,d=>
  if orF [xR (bB (.mk k n lo hi ps)) (bB d),xR k d.kind,iP n d.name,xR lo d.lo,xR hi d.hi]≠0 then orF [xR (bB (.mk k n lo hi ps)) (bB d),xR k d.kind,iP n d.name,xR lo d.lo,xR hi d.hi]
  else iS ps d.parts
def iS:List Cn->List Cn->Int
 | [],[]=>0
 | [],_::_=> -1
 |_::_,[]=>1
 |a::l,b::m=>if iT a b≠0 then iT a b else iS l m
end
def sN (c d:Cn):Int:=orF [xR (bB c) (bB d),xR c.kind d.kind,iP c.name d.name,xR c.lo d.lo,xR c.hi d.hi]
theorem aO3 (c d:Cn):iT c d=if sN c d≠0 then sN c d else iS c.parts d.parts:=by
 cases c;rw [iT];rfl
theorem tZ (f:FuncId) (hcall:dA Tryz.prog f=true) (l m:List Cn) (hf: ∀a∈l,∀b∈m,Tri Tryz.prog f [.d (.agg (grR a)), .d (.agg (grR b))] [] (λr=>r= .d (.int .i64 (iT a b)))):
  Tri Tryz.prog 177 [.d (.sl 7 (l.map grR)), .d (.sl 7 (m.map grR)), .fn f [] []] [] (λr=>r= .d (.int .i64 (iS l m))):=by
 refine aH false [8,9] hty Tryz.func177 rfl (kp [0,1,2,6,7,8,9,10,11,12,13,14,21,31,38]) [] _ _ _ (by simp [Tryz.f177]) (by simp) ?_
 ((conv=>whnf);repeat ((first|(intro hq;try simp only [lnS]at hq)|refine sI ?_|refine .intro _ (.intro rfl ?_));(conv=>whnf)))
 refine aK hty (λj:Nat=>([(0, .d (.sl 7 (l.map grR))),(1, .d (.sl 7 (m.map grR))),(2, .fn f [] []),(11, .d (.sl 7 (l.map grR))),(12, .d (.int .i64 l.length)),(13, .d (.int .i64 j))],[])) (λj=>j<=l.length/\j<=m.length/\iS l m=iS (l.drop j) (m.drop j)) (λj=>l.length - j) 0 ⟨by omega,by omega,rfl⟩ ⟨by repeat' (first|exact trivial|exact rfl|(rw [List.length_map];exact rfl)|refine And.intro ?_ ?_),trivial⟩ ?_
 rintro j ⟨hj,hjm,hn⟩
 ((conv=>whnf);repeat ((first|(intro hq;try simp only [lnS]at hq)|refine sI ?_|refine .intro _ (.intro rfl ?_));(conv=>whnf)))
 refine aA (λh1=> ?_) (λh1=> ?_)
 ·have hjl:j < l.length:=by omega
  have hrow:(l.map grR)[(j:Int).toNat]? =some (grR l[j]):=bV hjl
  rw [cW]at hrow
  rw [List.drop_eq_getElem_cons hjl]at hn
  ((conv=>whnf);repeat ((first|(refine⟨_,hrow, ?_⟩)|(intro hq;try simp only [lnS]at hq)|refine sI ?_|refine .intro _ (.intro rfl ?_));(conv=>whnf)))
  refine aA (λh2=> ?_) (λh2=> ?_)
  ·have hm:m.drop j=[]:=List.drop_eq_nil_of_le (by simp only [List.length_map]at h2;omega)
   rw [hm,iS]at hn
   ((conv=>whnf);repeat' ((first|(intro hq;(try simp only [lnS]at hq);(try rewrite [List.length_map]))|refine sJ ?_|refine .intro _ (.intro rfl ?_)|refine exL (k:= ?_)|refine dwR ?_|((first|refine aA ?_ ?_|refine aC ?_ ?_)<;>intro hb<;>(first|exact ddX hb|try simp only [lnS]at hb))|(refine aB ?_ ?_<;>intro hb<;>try exact dsX hb))<;>(conv=>whnf)))
   exact eX hn.symm
  ·have hjm2:j < m.length:=by simp only [List.length_map]at h2;omega
   have hrow2:(m.map grR)[(j:Int).toNat]? =some (grR m[j]):=bV hjm2
   rw [cW]at hrow2
   have hi:=hf l[j] (List.getElem_mem hjl) m[j] (List.getElem_mem hjm2)
   rw [cW,cW]at hi
   rw [List.drop_eq_getElem_cons hjm2,iS]at hn
   ((conv=>whnf);repeat' ((first|(intro hq;(try simp only [lnS]at hq);(try rewrite [List.length_map]))|refine sJ ?_|refine .intro _ (.intro rfl ?_)|refine exL (k:= ?_)|(refine⟨_,hrow2, ?_⟩)|(refine aD [] hi trivial (λr hs=> ?_);subst hs)|refine dwR ?_|((first|refine aA ?_ ?_|refine aC ?_ ?_)<;>intro hb<;>(first|exact ddX hb|try simp only [lnS]at hb))|(refine aB ?_ ?_<;>intro hb<;>try exact dsX hb))<;>(conv=>whnf)))
   ·rw [if_pos (by assumption)]at hn
    exact eX hn.symm
   ·rw [if_neg (by simpa using (by assumption:iT l[j] m[j]=0))]at hn
    exact⟨j+1,⟨by omega,by omega,hn⟩,by dsimp only;omega,by repeat' (first|exact trivial|exact rfl|refine And.intro ?_ ?_),trivial⟩
 ·have hjl:j=l.length:=by omega
  subst hjl
  rw [List.drop_length]at hn
  ((conv=>whnf);repeat' ((first|(intro hq;(try simp only [lnS]at hq);(try rewrite [List.length_map]))|refine sJ ?_|refine .intro _ (.intro rfl ?_)|refine exL (k:= ?_)|refine dwR ?_|((first|refine aA ?_ ?_|refine aC ?_ ?_)<;>intro hb<;>(first|exact ddX hb|try simp only [lnS]at hb))|(refine aB ?_ ?_<;>intro hb<;>try exact dsX hb))<;>(conv=>whnf)))
  ·have hjm2:l.length < m.length:=by simp_all
   rw [List.drop_eq_getElem_cons hjm2,iS]at hn
   exact eX hn.symm
  ·have hjm2:m.drop l.length=[]:=List.drop_eq_nil_of_le (by simp_all)
   rw [hjm2,iS]at hn
   exact eX hn.symm
end Go.Proofs.YtbobcfjlbcgchaaGreatDoor
namespace Go.Proofs.YtbobcfjlbcgchaaGreatDoor
open Go.RowKit
section
variable {P:Program}
theorem aI8 {ops:Array Oper}{Q:Exit->Act->World->Prop}: ∀(fuel:Nat) (listed:Array Bool) (a:Act) (w:World),wpAny P .any ops Q fuel listed a w->wpAny P .any ops Q (fuel+1) listed a w:=by
 intro fuel
 induction fuel with
 |zero=>intro listed a w h;exact⟨λ_=>h.2,λi hi=>(by rw [h.1]at hi;cases hi)⟩
 |succ fuel ih=>intro listed a w h;exact⟨h.1,λi hi=>wpOp_mono (λa w=>ih _ a w) (h.2 i hi)⟩
theorem yR {ops:Array Oper}{Q:Exit->Act->World->Prop}{fuel:Nat}{listed:Array Bool}{a:Act}{w:World}(h:wpAny P .any ops Q fuel listed a w): ∀k,wpAny P .any ops Q (k+fuel) listed a w
 | 0=>by rw [Nat.zero_add];exact h
 |k+1=>by rw [Nat.add_right_comm];exact aI8 _ _ _ _ (yR h k)
def aWd (l:List Oper) (m:Nat):Bool:=
 decide (m < l.length) &&
 (List.range l.length).all λi=>
  match l[i]? with
  |some o=>
   (o.after.all λe=> !Region.binds .any e || decide (e.on < i)) &&
   (if i < m then o.guard.isNone && (List.range (m + 1)).any λk => decide (i < k) && (match l[k]? with
     |some o'=>o'.after.any λe=>Region.binds .any e && e.on==i
     |none=>false)
  else i==m || o.after.any λe=>Region.binds .any e && decide (m<=e.on))
  |none=>false
theorem aCm {l:List Oper}{m:Nat}(h:aWd l m=true):m < l.length/\ ∀i o,l[i]? =some o->
  (∀e∈o.after,Region.binds .any e=true->e.on < i)/\
  (i < m->o.guard=none/\ ∃k o',i < k/\k<=m/\l[k]? =some o'/\ ∃e∈o'.after,Region.binds .any e=true/\e.on=i)/\
  (m < i-> ∃e∈o.after,Region.binds .any e=true/\m<=e.on):=by
 simp only [aWd,Bool.and_eq_true,decide_eq_true_eq,List.all_eq_true,List.mem_range]at h
 refine⟨h.1,λi o ho=> ?_⟩
 have hi:=h.2 i (List.getElem?_eq_some_iff.1 ho).1
 rw [ho]at hi
 simp only [Bool.and_eq_true]at hi
 obtain⟨h1,h2⟩:=hi
 refine⟨λe he hb=> ?_,λhim=> ?_,λhmi=> ?_⟩
 ·rw [Array.all_eq_true']at h1
  have:=h1 e he
  simpa [hb]using this
 ·rw [if_pos him]at h2
  simp only [Bool.and_eq_true,Option.isNone_iff_eq_none,List.any_eq_true,List.mem_range,decide_eq_true_eq]at h2
  obtain⟨hg,k,hk,hik,hx⟩:=h2
  refine⟨hg, ?_⟩
  split at hx
  ·rename_i o' ho'
   obtain⟨e,he,hb⟩:=Array.any_eq_true'.1 hx
   simp only [Bool.and_eq_true,beq_iff_eq]at hb
   exact⟨k,o',hik,by omega,ho',e,he,hb.1,hb.2⟩
  ·cases hx
 ·rw [if_neg (by omega)]at h2
  have:(i==m)=false:=by simp;omega
  rw [this,Bool.false_or]at h2
  obtain⟨e,he,hb⟩:=Array.any_eq_true'.1 h2
  simp only [Bool.and_eq_true,decide_eq_true_eq]at hb
  exact⟨e,he,hb.1,hb.2⟩
theorem rI {x:Array Bool}{m k:Nat}{d:Bool}(hx:x.size=m) (i:Nat):(x++Array.replicate k false).getD i d=if i < m then x.getD i d else if i < m+k then false else d:=by
 simp only [Array.getD_eq_getD_getElem?,Array.getElem?_append,hx]
 split
 ·rfl
 ·rw [Array.getElem?_replicate]
  split
  ·rw [if_pos (by omega)];rfl
  ·rw [if_neg (by omega)];rfl
theorem aT1 {l:List Oper}{m:Nat}{C:World->Prop}{Q:Act->Prop}{Q':Exit->Act->World->Prop}(hB:aWd l m=true)
  (ht: ∀a w,C w->Q a->wpAny P .any l.toArray Q' (l.length - m) (Array.replicate m true++Array.replicate (l.length - m) false) a w):
  ∀(f:Nat) (x:Array Bool) (a:Act) (w:World),C w->x.size=m->(∀(i:Nat) o,i < m->l[i]? =some o->x.getD i true=true-> ∀e∈o.after,Region.binds .any e=true->x.getD e.on false=true)->
   wpAnyQ P .any (l.take m).toArray C Q f x a->wpAny P .any l.toArray Q' (f+(l.length - m)) (x++Array.replicate (l.length - m) false) a w:=by
 obtain⟨hm,hs⟩:=aCm hB
 have take_lt: ∀i,i < m->(l.take m).toArray[i]? =l[i]? := λi hi=>by simp [List.getElem?_take,hi]
 have full: ∀x:Array Bool,x.size=m->Region.ready .any (l.take m).toArray x=[]->x=Array.replicate m true:=by
  intro x hx hr
  have all: ∀i,i < m->x.getD i true=true:=by
   intro i
   induction i using Nat.strongRecOn with
   |_ i ih=>
    intro him
    by_cases hc:x.getD i true=true
    ·exact hc
    ·exfalso
     have hc:x.getD i true=false:=by simpa using hc
     have hlt:i < l.length:=by omega
     have hmem : i ∈ Region.ready .any (l.take m).toArray x := mem_ready.2 ⟨hc, l[i], by rw [take_lt i him]; exact List.getElem?_eq_getElem hlt, λe he hb => by
      have hlt':=(hs i _ (List.getElem?_eq_getElem hlt)).1 e he hb
      have:=ih e.on hlt' (by omega)
      simp only [Array.getD_eq_getD_getElem?]at this |-
      rw [Array.getElem?_eq_getElem (by omega)]at this |-
      exact this⟩
     rw [hr]at hmem
     cases hmem
  apply Array.ext
  ·simp [hx]
  ·intro i h1 h2
   have:=all i (by omega)
   simp only [Array.getD_eq_getD_getElem?,Array.getElem?_eq_getElem h1,Option.getD_some]at this
   simpa using this
 intro f
 induction f with
 |zero=>
  intro x a w hw hx _ h
  rw [full x hx h.1,Nat.zero_add]
  exact ht a w hw h.2
 |succ f ih=>
  intro x a w hw hx hcl h
  by_cases hr:Region.ready .any (l.take m).toArray x=[]
  ·rw [full x hx hr]
   exact yR (ht a w hw (h.1 hr)) _
  ·have sub: ∀i∈Region.ready .any l.toArray (x++Array.replicate (l.length - m) false),i < m/\i∈Region.ready .any (l.take m).toArray x:=by
    intro i hi
    obtain⟨h1,o,ho,h2⟩:=mem_ready.1 hi
    have ho:l[i]? =some o:=by simpa using ho
    have hlt:=(List.getElem?_eq_some_iff.1 ho).1
    have hlow: ∀j,j < m->(x++Array.replicate (l.length - m) false).getD j false=true->x.getD j false=true:= λj hj h=>by rw [rI hx,if_pos hj]at h;exact h
    have hhigh: ∀j,m<=j->j < l.length->¬ (x++Array.replicate (l.length - m) false).getD j false=true:= λj hj hj' h=>by rw [rI hx,if_neg (by omega)]at h;split at h<;>cases h
    have him:i < m:=by
     by_cases him:i < m
     ·exact him
     ·exfalso
      by_cases hie:m < i
      ·obtain⟨e,he,hb,hme⟩:=(hs i o ho).2.2 hie
       exact hhigh e.on hme (by have:=(hs i o ho).1 e he hb;omega) (h2 e he hb)
      ·have:i=m:=by omega
       subst this
       -- every statement of the head is listed
       have all: ∀d j,j+d=i->0 < d->x.getD j true=true:=by
        intro d
        induction d using Nat.strongRecOn with
        |_ d ihd=>
         intro j hjd hd
         have hjl:j < l.length:=by omega
         obtain⟨_,k,o',hjk,hki,ho',e,he,hb,hej⟩:=(hs j _ (List.getElem?_eq_getElem hjl)).2.1 (by omega)
         have htrue:x.getD j false=true:=by
          by_cases hk:k=i
          ·subst hk
           rw [ho]at ho'
           injection ho' with ho';subst ho'
           have:=hlow e.on (by omega) (h2 e he hb)
           rwa [hej]at this
          ·have:=hcl k o' (by omega) ho' (ihd (i - k) (by omega) k (by omega) (by omega)) e he hb
           rwa [hej]at this
         simp only [Array.getD_eq_getD_getElem?]at htrue |-
         rw [Array.getElem?_eq_getElem (by omega)]at htrue |-
         exact htrue
       apply hr
       apply List.eq_nil_iff_forall_not_mem.2
       intro j hj
       obtain⟨g1,oj,hoj,_⟩:=mem_ready.1 hj
       have hjm:j < i:=by
        have:=(Array.getElem?_eq_some_iff.1 hoj).1
        simp at this
        omega
       rw [all (i - j) j (by omega) (by omega)]at g1
       cases g1
    refine⟨him,mem_ready.2 ⟨?_,o,by rw [take_lt i him];exact ho,λe he hb=> ?_⟩⟩
    ·rw [rI hx,if_pos him]at h1;exact h1
    ·exact hlow e.on (by have:=(hs i o ho).1 e he hb;omega) (h2 e he hb)
   have hne:Region.ready .any l.toArray (x++Array.replicate (l.length - m) false)≠[]:=by
    obtain⟨j,hj⟩:=List.exists_mem_of_ne_nil _ hr
    obtain⟨g1,oj,hoj,g2⟩:=mem_ready.1 hj
    have hjm:j < m:=by
     have:=(Array.getElem?_eq_some_iff.1 hoj).1
     simp at this
     omega
    have hmem : j ∈ Region.ready .any l.toArray (x ++ Array.replicate (l.length - m) false) := mem_ready.2 ⟨by rw [rI hx, if_pos hjm]; exact g1, oj, by rw [take_lt j hjm] at hoj; simpa using hoj, λe he hb => by
     have:=g2 e he hb
     have hem:e.on < m:=by
      rw [take_lt j hjm]at hoj
      have:=(hs j oj hoj).1 e he hb
      omega
     rw [rI hx,if_pos hem];exact this⟩
    intro h0
    rw [h0]at hmem
    cases hmem
   rw [Nat.add_right_comm]
   refine⟨λh0=>absurd h0 hne,λi hi=> ?_⟩
   obtain⟨him,hip⟩:=sub i hi
   have hlt:i < l.length:=by omega
   have ho:=List.getElem?_eq_getElem hlt
   have hq:=h.2 i hip
   have hg:=((hs i _ ho).2.1 him).1
   have hq':qOp P l.toArray C i (wpAnyQ P .any (l.take m).toArray C Q f (x.setIfInBounds i true)) a:=by
    unfold qOp at hq |-
    rw [take_lt i him]at hq
    have:l.toArray[i]? =l[i]? :=by simp
    rw [this]
    rw [ho]at hq |-
    simp only [Region.wanted,hg]at hq |-
    exact hq
   refine wpOp_of_qOp hw (λa' w' hw' hk=> ?_) hq'
   have hset:(x++Array.replicate (l.length - m) false).setIfInBounds i true=x.setIfInBounds i true++Array.replicate (l.length - m) false:=by
    rw [Array.setIfInBounds_append_left (by omega)]
   rw [hset]
   refine ih _ a' w' hw' (by simp [hx]) ?_ hk
   intro j o hj hoj hjt e he hb
   have hup: ∀k (d:Bool),x.getD k d=true->(x.setIfInBounds i true).getD k d=true:=by
    intro k d hk
    simp only [Array.getD_eq_getD_getElem?,Array.getElem?_setIfInBounds]at hk |-
    split
    ·split<;>simp_all
    ·exact hk
   by_cases hji:j=i
   ·subst hji
    obtain⟨_,o2,ho2,h2⟩:=mem_ready.1 hip
    rw [take_lt j him,hoj]at ho2
    injection ho2 with ho2;subst ho2
    exact hup _ _ (h2 e he hb)
   ·refine hup _ _ (hcl j o hj hoj ?_ e he hb)
    simp only [Array.getD_eq_getD_getElem?,Array.getElem?_setIfInBounds]at hjt |-
    rw [if_neg (λh=>hji h.symm)]at hjt
    exact hjt
def aWc (C:Cfg) (all:List Oper) (K:Fr->Prop):List Oper->Fr->Hp->Prop
 | [],fr,_=>K fr
 |o::r,fr,hp=>aPm C all o fr hp λfr'=>aWc C all K r fr' hp
theorem aPn {C:Cfg}(hti:dX C.P C.ti) {all:List Oper}{K:Fr->Prop}{E:Entry}{ρ:Env}{w:World}{hp:Hp}{df:List Deferred}(hm:Mem E ρ hp w): ∀(l:List Oper) (fr:Fr) (a:Act),aWc C all K l fr hp->a.tmps.size=C.nt->a.defers=df->dD ρ w fr a.tmps->
  wpQuiet C.P all.toArray (Grew w) (λa'=> ∃fr',K fr'/\a'.tmps.size=C.nt/\a'.defers=df/\dD ρ w fr' a'.tmps) l a:=by
 intro l
 induction l with
 |nil=>
  intro fr a h h1 h2 h3
  exact⟨fr,h,h1,h2,h3⟩
 |cons o r ih=>
  intro fr a h h1 h2 h3
  simp only [aWc,aPm]at h
  simp only [wpQuiet]
  obtain⟨fr0,h3,hh⟩:=eY h h3
  rcases hh with⟨hw,h⟩|⟨hw,h⟩
  ·simp only [hw,if_true]
   obtain⟨v,s,q1,q2,q3⟩:=aY8 hti h hm h3
   obtain⟨fr',p1,p2⟩:=fJ q3 h1 h3 q2
   exact⟨v,q1,ih fr' _ p1 (by rw [cE];exact h1) (by rw [put_defers];exact h2) p2⟩
  ·simp only [hw,Bool.false_eq_true,if_false]
   obtain⟨fr',p1,p2⟩:=fJ h h1 h3 (Rep.d _ undef (.lit undef))
   exact ih fr' _ p1 (by rw [cE];exact h1) (by rw [put_defers];exact h2) p2
theorem gV {C:Cfg}(hti:dX C.P C.ti) {id:Nat}{l:List Oper}{fr:Fr}{hp:Hp}{K:Ex->Fr->Hp->Prop}(m:Nat) (hm:C.P.follows .mixedOrders=true)
  (hB:(aWd l m && Region.lexB .any (l.take m).toArray && Region.noSelect l.toArray && aUb l.toArray (List.range' m (l.length - m)) (Array.replicate m true++Array.replicate (l.length - m) false) false && kQ l)=true)
  (h:aWc C (l.take m) (λfr'=>aA6 C l (K .normal) (List.range' m (l.length - m)) fr' hp) (l.take m) fr hp):aJ C (.region id l.toArray true) fr hp K:=by
 intro E a w hpin hrd ⟨h1,h2,ρ,h3,h4⟩
 simp only [Bool.and_eq_true]at hB
 obtain⟨⟨⟨⟨b1,b2⟩,b3⟩,b4⟩,hnd⟩:=hB
 simp only [Region.lexB,Bool.and_eq_true]at b2
 refine fC hm hnd kK.noOut ?_
 have hlt:=(aCm b1).1
 have hq:=aPn (C:=C) hti (all:=l.take m) h3 (l.take m) fr a h h1 rfl h4
 have hl:=wpAnyQ_lex (P:=C.P) (C:=Grew w) (md:= .any) b2.1 (l.take m) 0 (Array.replicate (l.take m).toArray.size false) a (by simp) (by simpa using b2.2) hq
 have hlen:(l.take m).length=m:=by simp;omega
 have hsz:(l.take m).toArray.size=m:=by simp;omega
 rw [hlen,hsz]at hl
 have := aT1 (P := C.P) (C := Grew w) (Q' := kK C E K) b1 (λa' w' hg hQ => by
  obtain⟨fr',k1,k2,k3,k4⟩:=hQ
  obtain⟨m1,m2⟩:=h3.grow_same hg
  have:=aA5 (C:=C) hti (E:=E) hpin b3 _ _ false fr' hp ρ a' _ b4 k1 m1 k2 (k3.trans h2) (m2 fr' _ k4)
  rw [List.length_range']at this
  exact rR _ _ _ _ _ (aS3 (Q':=kK C E K .normal) (λa w ⟨fr',hp',k1,k2⟩=>⟨.normal,fr',hp',E, .refl E,trivial,k1,k2⟩) _ _ _ _ _ this)) m (Array.replicate m false) a _ (Grew.drew w) (by simp) (λi o hi _ hx=>by simp [hi]at hx) hl
 have e1:m+(l.length - m)=l.toArray.size:=by simp;omega
 have e2:Array.replicate m false++Array.replicate (l.length - m) false=Array.replicate l.toArray.size false:=by rw [Array.replicate_append_replicate,e1]
 rw [e1,e2]at this
 exact this
end
end Go.Proofs.YtbobcfjlbcgchaaGreatDoor
namespace Go.Proofs.YtbobcfjlbcgchaaGreatDoor
open Go.Proofs
set_option maxRecDepth 10000
theorem Tri.osl {P:Program}{f:FuncId}{id z:Nat}{rows:List (List D)}{post:SV->Prop}(h:Tri P f [.d (.sl z rows)] [] post):Tri P f [.osl id z rows] [] post:=by
 unfold Tri at h |-
 intro w ρ vs a b c
 refine h w ρ vs a ⟨b.1,λj s v hs hv=> ?_⟩ (λid o ho=>by cases ho)
 match j,hs with
 | 0,hs=>
  injection hs with hs;subst hs
  exact .d _ _ (b.2 0 _ v rfl hv).osl_inv.1
attribute [local irreducible] aJ aF Tri aG YVC bS aQ
theorem mS: ∀(c d:Cn),Tri Tryz.prog 126 [.d (.agg (grR c)), .d (.agg (grR d))] [] (λr=>r= .d (.int .i64 (iT c d))):=by
 refine Cn.ind ?_
 intro c ih d
 have hL:=tZ 126 (by kernel_rfl) c.parts d.parts (λa ha b _=>ih a ha b)
 rw [cW,cW,aO3]
 refine aH false [2,3] hty Tryz.func126 rfl (kp [0,1,2,3,4,5,42]) [] _ _ _ (by simp [Tryz.f126]) (by simp) ?_
 ((conv=>whnf);repeat ((first|(intro hq;try simp only [lnS]at hq)|refine sI ?_|refine .intro _ (.intro rfl ?_));(conv=>whnf)))
 refine gV hty 33 (by kernel_rfl) (by kernel_rfl) ?_
 ((conv=>whnf);repeat ((first|(intro hq;try simp only [lnS]at hq)|refine sI ?_|refine .intro _ (.intro rfl ?_));(conv=>whnf)))
 refine⟨.d (.int .i64 _),_,[],rfl,trivial,eF _ _, ?_⟩
 ((conv=>whnf);repeat ((first|(intro hq;try simp only [lnS]at hq)|refine sI ?_|refine .intro _ (.intro rfl ?_));(conv=>whnf)))
 refine⟨.d (.int .i64 _),_,[],rfl,trivial,eF _ _, ?_⟩
 ((conv=>whnf);repeat ((first|(intro hq;try simp only [lnS]at hq)|refine sI ?_|refine .intro _ (.intro rfl ?_));(conv=>whnf)))
 refine⟨.d (.int .i64 _),_,[],rfl,trivial,lT _ _, ?_⟩
 ((conv=>whnf);repeat ((first|(intro hq;try simp only [lnS]at hq)|refine sI ?_|refine .intro _ (.intro rfl ?_));(conv=>whnf)))
 refine⟨.d (.int .i64 _),_,[],rfl,trivial,eF _ _, ?_⟩
 ((conv=>whnf);repeat ((first|(intro hq;try simp only [lnS]at hq)|refine sI ?_|refine .intro _ (.intro rfl ?_));(conv=>whnf)))
 refine⟨.d (.int .i64 _),_,[],rfl,trivial,eF _ _, ?_⟩
 ((conv=>whnf);repeat ((first|(intro hq;try simp only [lnS]at hq)|refine sI ?_|refine .intro _ (.intro rfl ?_));(conv=>whnf)))
 refine⟨[],(λr=>r= .d (.int .i64 (sN c d))),trivial,Tri.osl (aF6 [_,_,_,_,_]),λr hs=> ?_⟩
 subst hs
 ((conv=>whnf);repeat' ((first|(intro hq;(try simp only [lnS]at hq);(try rewrite [List.length_map]))|refine sJ ?_|refine .intro _ (.intro rfl ?_)|refine exL (k:= ?_)|(refine aD [] hL trivial (λr hs=> ?_);subst hs)|refine dwR ?_|((first|refine aA ?_ ?_|refine aC ?_ ?_)<;>intro hb<;>(first|exact ddX hb|try simp only [lnS]at hb))|(refine aB ?_ ?_<;>intro hb<;>try exact dsX hb))<;>(conv=>whnf)))
 ·exact eX (if_pos hb).symm
 ·exact eX (if_neg (λh=>h hb)).symm
end Go.Proofs.YtbobcfjlbcgchaaGreatDoor
namespace Go.Proofs.YtbobcfjlbcgchaaGreatDoor
open Go.Proofs
set_option maxRecDepth 10000
attribute [local irreducible] aJ aF Tri aG YVC bS aQ
theorem nB (c d:Cn) (hc:bB c<=1000000) (hd:bB d<=1000000):Tri Tryz.prog 67 [.d (.agg (cnR c)), .d (.agg (cnR d))] [] (λr=>r= .d (.int .i64 (iT c d))):=by
 have h1:=rG c hc
 have h2:=rG d hd
 rw [aT]at h1 h2 |-
 rw [aT d]
 rw [cW]at h1
 rw [cW]at h2
 have h3:=mS c d
 rw [cW,cW]at h3
 refine aH false [2,3] hty Tryz.func67 rfl (kp [0,1,2,3,4]) [] _ _ _ (by simp [Tryz.f67]) (by simp) ?_
 ((conv=>whnf);repeat' ((first|(intro hq;(try simp only [lnS]at hq);(try rewrite [List.length_map]))|refine sJ ?_|refine .intro _ (.intro rfl ?_)|refine exL (k:= ?_)|(refine aD [] h1 trivial (λr hs=> ?_);subst hs)|(refine aD [] h2 trivial (λr hs=> ?_);subst hs)|(refine aD [] h3 trivial (λr hs=> ?_);subst hs)|(refine aLf (id:=1) hty (.alt 0 (.alt 1 (.alt 2 (.alt 3 (.alt 4 (.first 5 .done) .stop) .stop) .stop) (.alt 2 (.alt 1 (.alt 3 (.alt 4 (.first 5 .done) .stop) .stop) .stop) .stop)) (.alt 2 (.alt 0 (.alt 1 (.alt 3 (.alt 4 (.first 5 .done) .stop) .stop) .stop) .stop) .stop)) (by kernel_rfl) (by kernel_rfl) ?_)|exact trivial|(refine And.intro ?_ ?_)|refine dwR ?_|((first|refine aA ?_ ?_|refine aC ?_ ?_)<;>intro hb<;>(first|exact ddX hb|try simp only [lnS]at hb))|(refine aB ?_ ?_<;>intro hb<;>try exact dsX hb))<;>(conv=>whnf)))
 all_goals rfl
end Go.Proofs.YtbobcfjlbcgchaaGreatDoor
namespace Go.Proofs.YtbobcfjlbcgchaaGreatDoor
open Go.Proofs
set_option maxRecDepth 10000
attribute [local irreducible] aJ aF Tri aG YVC bS aQ
def tS (x y:Ax):Int:=orF [xR (vB x) (vB y),xR x.kind y.kind]
def xX (x y:Ax):Int:=orF [dL x.roles y.roles,iP x.role y.role,iP x.a y.a,iP x.b y.b]
def cS (x y:Ax):Int:=
 if tS x y≠0 then tS x y
 else if iT x.left y.left≠0 then iT x.left y.left
 else if iT x.right y.right≠0 then iT x.right y.right
 else xX x y
theorem fQ (x y:Ax) (h1:bB x.left<=1000000) (h2:bB x.right<=1000000) (h3:x.roles.length<=1000000) (h4:bB y.left<=1000000) (h5:bB y.right<=1000000) (h6:y.roles.length<=1000000):
  Tri Tryz.prog 34 [.d (.agg (axR x)), .d (.agg (axR y))] [] (λr=>r= .d (.int .i64 (cS x y))):=by
 have hw1:=vA x h1 h2 h3
 have hw2:=vA y h4 h5 h6
 have hl:=nB x.left y.left h1 h4
 have hr:=nB x.right y.right h2 h5
 rw [aT,aT]at hl
 rw [aT,aT]at hr
 refine aH false [2,3] hty Tryz.func34 rfl (kp [0,1,2,3,4,18,25,32]) [] _ _ _ (by simp [Tryz.f34]) (by simp) ?_
 ((conv=>whnf);repeat ((first|(intro hq;try simp only [lnS]at hq)|refine sI ?_|refine .intro _ (.intro rfl ?_));(conv=>whnf)))
 refine gV hty 10 (by kernel_rfl) (by kernel_rfl) ?_
 ((conv=>whnf);repeat ((first|(intro hq;try simp only [lnS]at hq)|refine sI ?_|refine .intro _ (.intro rfl ?_));(conv=>whnf)))
 refine⟨.d (.int .i64 _),_,[],rfl,trivial,hw1, ?_⟩
 ((conv=>whnf);repeat ((first|(intro hq;try simp only [lnS]at hq)|refine sI ?_|refine .intro _ (.intro rfl ?_));(conv=>whnf)))
 refine⟨.d (.int .i64 _),_,[],rfl,trivial,hw2, ?_⟩
 ((conv=>whnf);repeat ((first|(intro hq;try simp only [lnS]at hq)|refine sI ?_|refine .intro _ (.intro rfl ?_));(conv=>whnf)))
 refine⟨.d (.int .i64 _),_,[],rfl,trivial,eF _ _, ?_⟩
 ((conv=>whnf);repeat ((first|(intro hq;try simp only [lnS]at hq)|refine sI ?_|refine .intro _ (.intro rfl ?_));(conv=>whnf)))
 refine⟨.d (.int .i64 _),_,[],rfl,trivial,eF _ _, ?_⟩
 ((conv=>whnf);repeat ((first|(intro hq;try simp only [lnS]at hq)|refine sI ?_|refine .intro _ (.intro rfl ?_));(conv=>whnf)))
 refine⟨[],(λr=>r= .d (.int .i64 (tS x y))),trivial,Tri.osl (aF6 [_,_]),λr hs=> ?_⟩
 subst hs
 ((conv=>whnf);repeat' ((first|(intro hq;(try simp only [lnS]at hq);(try rewrite [List.length_map]))|refine sJ ?_|refine .intro _ (.intro rfl ?_)|refine exL (k:= ?_)|(refine gV hty 20 (by kernel_rfl) (by kernel_rfl) ?_)|(refine aD [] hl trivial (λr hs=> ?_);subst hs)|(refine aD [] hr trivial (λr hs=> ?_);subst hs)|(refine⟨.d (.int .i64 _),_,[],rfl,trivial,yO _ _, ?_⟩)|(refine⟨.d (.int .i64 _),_,[],rfl,trivial,lT _ _, ?_⟩)|(refine⟨[],(λr=>r= .d (.int .i64 (xX x y))),trivial,Tri.osl (aF6 [_,_,_,_]),λr hs=> ?_⟩;subst hs)|refine dwR ?_|((first|refine aA ?_ ?_|refine aC ?_ ?_)<;>intro hb<;>(first|exact ddX hb|try simp only [lnS]at hb))|(refine aB ?_ ?_<;>intro hb<;>try exact dsX hb))<;>(conv=>whnf)))
 all_goals refine eX (Eq.symm ?_)
 all_goals unfold cS
 all_goals simp_all
end Go.Proofs.YtbobcfjlbcgchaaGreatDoor
namespace Go.Proofs.YtbobcfjlbcgchaaGreatDoor
open Go.Proofs
set_option maxRecDepth 10000
attribute [local irreducible] aJ aF Tri aG YVC bS aQ
end Go.Proofs.YtbobcfjlbcgchaaGreatDoor
namespace Go.Proofs.YtbobcfjlbcgchaaGreatDoor
open Go.Proofs
set_option maxRecDepth 10000
attribute [local irreducible] aJ aF Tri aG YVC bS aQ
end Go.Proofs.YtbobcfjlbcgchaaGreatDoor
namespace Go.Proofs.YtbobcfjlbcgchaaGreatDoor
open Go.Proofs
set_option maxRecDepth 10000
attribute [local irreducible] aJ aF Tri aG YVC bS aQ
end Go.Proofs.YtbobcfjlbcgchaaGreatDoor
namespace Go.Proofs.YtbobcfjlbcgchaaGreatDoor
open Go.Proofs
set_option maxRecDepth 10000
attribute [local irreducible] aJ aF Tri aG YVC bS aQ
structure Nm where
 a:List (List UInt8)
 b:List (List UInt8)
 c:List (List UInt8)
 d:List (List UInt8)
def nmR (x:Nm):List D:=[aKk x.a,aKk x.b,aKk x.c,aKk x.d]
end Go.Proofs.YtbobcfjlbcgchaaGreatDoor
