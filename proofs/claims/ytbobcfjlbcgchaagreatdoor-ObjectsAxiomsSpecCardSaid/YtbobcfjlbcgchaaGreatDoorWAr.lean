/-
  Terms: the reference's FewAxiom.
  Conditions: none.
-/
import Derived.Test.YtbobcfjlbcgchaaGreatDoorWA8
import Derived.Test.YtbobcfjlbcgchaaGreatDoorWSna
import Derived.Test.YtbobcfjlbcgchaaGreatDoorWSs
set_option linter.unnecessarySimpa false
set_option linter.unusedSectionVars false
set_option linter.unusedSimpArgs false
set_option linter.unusedVariables false
set_option maxHeartbeats 8000000
namespace Go.Proofs.YtbobcfjlbcgchaaGreatDoor
section
attribute [local irreducible] aK aF Tri aH YVC cG aT
set_option maxRecDepth 10000
def aJ4 (x:Ax):Bool:=if x.kind=2 then (bX x.left || bX x.right)else if x.kind=1\/x.kind=4\/x.kind=8 then bX x.right else false
def vU (u:Use) (x:Ax):Int:=
 if pZ u x=false then 20
 else if u.left=true/\bC x.left≠0 then bC x.left
 else if u.right=true/\bC x.right≠0 then bC x.right
 else if aJ4 x=true then 22 else 0
def aZ (x:Ax):Int:=if bI x=false then 22 else vU (cC x.kind) x
theorem kO (x:Ax):Tri Tryz.prog 43 [.d (.agg (axR x))] NG (λr=>r= .d (.int .i64 (aZ x))):=by
 have e1:=mN x.left
 have e2:=mN x.right
 have e:=aAw x.left
 have c:=aAw x.right
 rw [aJ]at e1 e2 e c
 refine qG [1,3] hty Tryz.func43 [0,1,2,3,4,5,8,16,18,23,26,31,34,35,44,45,51] ?_
 refine qX ?_;intros
 refine aL NG (aFy x) ⟨rfl,rfl,trivial⟩ (λr a=> ?_)
 subst a
 cases a:bI x
 ·(repeat' first|(refine qW ?_;intros)|((conv=>whnf);first|refine dwR ?_|((first|refine aA ?_ ?_|refine aC ?_ ?_)<;>intro hb<;>(first|exact ddX hb|try simp only [lnS]at hb))|(refine aB ?_ ?_<;>intro hb<;>try exact dsX hb)))
  rw [aZ,if_pos a];rfl
 ·have g:aZ x=vU (cC x.kind) x:=by rw [aZ,if_neg (by simp [a])]
  have h:1<=x.kind/\x.kind<=9:=by
   unfold bI at a
   split at a
   ·cases a
   ·omega
  rw [g]
  have b:=aR0 (k:=x.kind) h
  generalize cC x.kind=u at b
  have f:=aI6 x u
  clear g
  ((conv=>whnf);repeat ((first|(refine dE (id:=91) hty rfl rfl rfl rfl rfl rfl rfl (by omega) (by omega) ?_)|(refine⟨_,b, ?_⟩) |(intro i;try simp only [lnS]at i)|refine sI ?_|refine qE_ ?_);conv=>whnf))
  refine aL [] f trivial (λr a=> ?_)
  subst a
  cases hs2:pZ u x
  ·(repeat' first|(refine qW ?_;intros)|((conv=>whnf);first|refine dwR ?_|((first|refine aA ?_ ?_|refine aC ?_ ?_)<;>intro hb<;>(first|exact ddX hb|try simp only [lnS]at hb))|(refine aB ?_ ?_<;>intro hb<;>try exact dsX hb)))
   rw [vU,if_pos hs2];rfl
  ·(repeat' first|(refine qW ?_;intros)|((conv=>whnf);first|(refine aL NG e1 ⟨rfl,rfl,trivial⟩ (λr a=> ?_);subst a)|(refine aL NG e2 ⟨rfl,rfl,trivial⟩ (λr a=> ?_);subst a)|refine qT e ?_|refine qT c ?_|refine dwR ?_|((first|refine aA ?_ ?_|refine aC ?_ ?_)<;>intro hb<;>(first|exact ddX hb|try simp only [lnS]at hb))|(refine aB ?_ ?_<;>intro hb<;>try exact dsX hb)))
   all_goals (refine cM (Eq.symm ?_);clear e1 e2 e c b f;unfold vU aJ4;simp_all)
   all_goals trace_state
end
section
def hJ (a b:List UInt8):Int:=Lib.compareBytes a b
theorem rY: ∀(a b:List UInt8),hJ a b= -1\/hJ a b=0\/hJ a b=1
 | [],[]=>by simp [hJ,Lib.compareBytes]
 | [],_::_=>by simp [hJ,Lib.compareBytes]
 |_::_,[]=>by simp [hJ,Lib.compareBytes]
 |x::a,y::b=>by
  have:=rY a b
  unfold hJ at this |-
  simp only [Lib.compareBytes]
  split
  ·exact .inl rfl
  ·split
   ·exact .inr (.inr rfl)
   ·exact this
theorem eT: ∀(a b:List UInt8),hJ a b=0↔a=b
 | [],[]=>by simp [hJ,Lib.compareBytes]
 | [],_::_=>by simp [hJ,Lib.compareBytes]
 |_::_,[]=>by simp [hJ,Lib.compareBytes]
 |x::a,y::b=>by
  have c:=eT a b
  unfold hJ at c |-
  simp only [Lib.compareBytes,List.cons.injEq]
  split
  ·rename_i h
   constructor
   ·intro h;omega
   ·rintro⟨rfl,_⟩;exact absurd h (UInt8.lt_irrefl x)
  ·split
   ·rename_i h
    constructor
    ·intro h;omega
    ·rintro⟨rfl,_⟩;exact absurd h (UInt8.lt_irrefl x)
   ·rename_i d e
    rw [c]
    have:x=y:=UInt8.le_antisymm (UInt8.not_lt.1 e) (UInt8.not_lt.1 d)
    simp [this]
theorem aIz: ∀(a b:List UInt8),hJ b a= - hJ a b
 | [],[]=>by simp [hJ,Lib.compareBytes]
 | [],_::_=>by simp [hJ,Lib.compareBytes]
 |_::_,[]=>by simp [hJ,Lib.compareBytes]
 |x::a,y::b=>by
  have e:=aIz a b
  unfold hJ at e |-
  simp only [Lib.compareBytes]
  by_cases c:x < y
  ·have d:¬ y < x:= λh=>UInt8.lt_irrefl x (UInt8.lt_trans c h)
   simp [c,d]
  ·by_cases d:y < x
   ·simp [c,d]
   ·simp [c,d,e]
theorem aE6: ∀(a b c:List UInt8),hJ a b < 0->hJ b c < 0->hJ a c < 0
 | [],[],c,h,_=>by simp [hJ,Lib.compareBytes]at h
 | [],_::_,[],_,h=>by simp [hJ,Lib.compareBytes]at h
 | [],_::_,_::_,_,_=>by simp [hJ,Lib.compareBytes]
 |_::_,[],c,h,_=>by simp [hJ,Lib.compareBytes]at h
 |_::_,_::_,[],_,h=>by simp [hJ,Lib.compareBytes]at h
 |x::a,y::b,z::c,h1,h2=>by
  have i:=aE6 a b c
  unfold hJ at i h1 h2 |-
  simp only [Lib.compareBytes]at h1 h2 |-
  by_cases e:x < y
  ·by_cases d:y < z
   ·simp [UInt8.lt_trans e d]
   ·by_cases f:z < y
    ·simp [d,f]at h2
    ·have:y=z:=UInt8.le_antisymm (UInt8.not_lt.1 f) (UInt8.not_lt.1 d)
     subst this;simp [e]
  ·by_cases g:y < x
   ·simp [e,g]at h1
   ·have:x=y:=UInt8.le_antisymm (UInt8.not_lt.1 g) (UInt8.not_lt.1 e)
    subst this
    simp only [e,if_false]at h1
    by_cases d:x < z
    ·simp [d]
    ·by_cases f:z < x
     ·simp [d,f]at h2
     ·simp only [d,f,if_false]at h2 |-
      exact i h1 h2
theorem bytesLess_eq: ∀(a b:List UInt8),Op.bytesLess a b=decide (hJ a b < 0)
 | [],[]=>by simp [hJ,Lib.compareBytes,Op.bytesLess]
 | [],_::_=>by simp [hJ,Lib.compareBytes,Op.bytesLess]
 |_::_,[]=>by simp [hJ,Lib.compareBytes,Op.bytesLess]
 |x::a,y::b=>by
  have f:=bytesLess_eq a b
  unfold hJ at f |-
  simp only [Lib.compareBytes,Op.bytesLess]
  by_cases d:x < y
  ·simp [d]
  ·by_cases c:y < x
   ·have:¬ x=y:= λe=>UInt8.lt_irrefl x (by rw [<-e]at c;exact c)
    simp [d,c,this]
   ·have:x=y:=UInt8.le_antisymm (UInt8.not_lt.1 c) (UInt8.not_lt.1 d)
    subst this
    simp [f]
end
section
attribute [local irreducible] aK aF Tri aH YVC cG aT
set_option maxRecDepth 10000
def cnX (c:Cn):List D:=[.int .i64 c.kind, .str c.name, .int .i64 c.lo, .int .i64 c.hi, .sl 5 (c.parts.map cnR)]
def aFw (c:Cn):Int:=if c.kind≠0 then aM c else 0
def aRk (s:List UInt8):Int:=if s≠[]then 1 else 0
def aJe:List Cn->Int
 | []=>0
 |c::r=>aFw c+aJe r
def aJd:List (List UInt8)->Int
 | []=>0
 |c::r=>aRk c+aJd r
def gL (x:Ax):Int:=aJe [x.left,x.right]+x.roles.length+aJd [x.role,x.a,x.b]
theorem aRg {l:List Cn}{j:Nat}(h:j < l.length):aJe (l.take (j+1))=aJe (l.take j)+aFw l[j]:=by
 induction l generalizing j with
 |nil=>simp at h
 |cons c l ih=>
  cases j with
  |zero=>simp [aJe]
  |succ j=>
   have:=ih (j:=j) (by simpa using h)
   simp only [List.take_succ_cons,aJe,List.getElem_cons_succ,this];omega
theorem aRf {l:List (List UInt8)}{j:Nat}(h:j < l.length):aJd (l.take (j+1))=aJd (l.take j)+aRk l[j]:=by
 induction l generalizing j with
 |nil=>simp at h
 |cons c l ih=>
  cases j with
  |zero=>simp [aJd]
  |succ j=>
   have:=ih (j:=j) (by simpa using h)
   simp only [List.take_succ_cons,aJd,List.getElem_cons_succ,this];omega
theorem aLq: ∀(l:List Cn),(∀c∈l,aM c<=1000000)->0<=aJe l/\aJe l<=1000000 * l.length
 | [],_=>by simp [aJe]
 |c::r,h=>by
  have h1:=aLq r λx hx=>h x (List.mem_cons_of_mem _ hx)
  have h2:=h c (List.mem_cons_self ..)
  simp only [aJe,aFw,List.length_cons]
  split<;>omega
theorem aLo: ∀(l:List (List UInt8)),0<=aJd l/\aJd l<=l.length
 | []=>by simp [aJd]
 |c::r=>by
  have h1:=aLo r
  simp only [aJd,aRk,List.length_cons]
  split<;>omega
theorem zM (x:Ax) (h1:aM x.left<=1000000) (h2:aM x.right<=1000000) (h3:x.roles.length<=1000000):Tri Tryz.prog 71 [.d (.agg (axR x))] [] (λr=>r= .d (.int .i64 (gL x))):=by
 have n: ∀j,0<=aJe ([x.left,x.right].take j)/\aJe ([x.left,x.right].take j)<=2000000:=by
  intro j
  have := aLq ([x.left, x.right].take j) (λc w => by
   have:=List.mem_of_mem_take w
   simp at this
   rcases this with rfl|rfl<;>assumption)
  have hl:([x.left,x.right].take j).length<=2:=by rw [List.length_take];simp;omega
  omega
 have k: ∀(j:Nat) (p:j < [x.left,x.right].length),aM [x.left,x.right][j]<=1000000:=by
  intro j p
  have u:=List.getElem_mem p
  simp only [List.mem_cons,List.not_mem_nil,or_false]at u
  rcases u with e|e<;>rw [e]<;>assumption
 refine qG [1,4] hty Tryz.func71 [0,1,2,4,6,11,12,13,14,19,36,37,38,39,43] ?_
 refine qX ?_;intros
 refine aD hty (λj:Nat=>([(1, .ea 16 [axR x] 0 0),(2, .d (.int .i64 (aJe ([x.left,x.right].take j)))),(11, .d (.sl 5 ([x.left,x.right].map cnX))),(12, .d (.int .i64 2)),(13, .d (.int .i64 j))],[])) (λj=>j<=2) (λj=>2 - j) 0 (by omega) ⟨by repeat' (first|exact trivial|exact rfl|exact⟨rfl,rfl⟩|refine And.intro ?_ ?_),trivial⟩ ?_
 ·intro j p
  have i:=n j
  refine qX ?_;intros
  refine aA (λz=> ?_) (λz=> ?_)
  ·have g:j < [x.left,x.right].length:=by simp;omega
   have h:([x.left,x.right].map cnX)[(j:Int).toNat]? =some (cnX [x.left,x.right][j]):=bA g
   have o:=k j g
   have l:=aRo _ o
   have f:=aRg g
   generalize [x.left,x.right][j]=c at h o l f
   rw [aJ]at l
   (repeat' first|(refine qW ?_;intros)|((conv=>whnf);first|refine dwR ?_|((first|refine aA ?_ ?_|refine aC ?_ ?_)<;>intro hb<;>(first|exact ddX hb|try simp only [lnS]at hb))|(refine aB ?_ ?_<;>intro hb<;>try exact dsX hb)))
   ·refine⟨j+1,qO,qO,⟨?_,trivial⟩⟩
    dsimp only
    rw [f,aFw,if_pos (by assumption)]
    repeat' (first|exact trivial|exact rfl|exact⟨rfl,rfl⟩|refine And.intro ?_ ?_)
   ·refine⟨j+1,qO,qO,⟨?_,trivial⟩⟩
    dsimp only
    rw [f,aFw,if_neg (by simpa using (by assumption:c.kind=0)),Int.add_zero]
    repeat' (first|exact trivial|exact rfl|exact⟨rfl,rfl⟩|refine And.intro ?_ ?_)
  ·have s:j=2:=by omega
   subst s
   have A:[x.left,x.right].take 2=[x.left,x.right]:=rfl
   rw [A]at i |-
   have v:gL x=aJe [x.left,x.right]+x.roles.length+aJd [x.role,x.a,x.b]:=rfl
   rw [v]
   generalize aJe [x.left,x.right]=m at i
   clear v n k
   refine qX ?_;intros
   have q: ∀j,0<=aJd ([x.role,x.a,x.b].take j)/\aJd ([x.role,x.a,x.b].take j)<=3:=by
    intro j
    have:=aLo ([x.role,x.a,x.b].take j)
    have hl:([x.role,x.a,x.b].take j).length<=3:=by rw [List.length_take];simp;omega
    omega
   refine aD hty (λj:Nat=>([(2, .d (.int .i64 (m+x.roles.length+aJd ([x.role,x.a,x.b].take j)))),(36, .d (.sl 1 ([x.role,x.a,x.b].map bJ))),(37, .d (.int .i64 3)),(38, .d (.int .i64 j))],[])) (λj=>j<=3) (λj=>3 - j) 0 (by omega) ⟨by repeat' (first|exact trivial|exact rfl|exact⟨rfl,rfl⟩|exact aLj (by simp [aJd])|refine And.intro ?_ ?_),trivial⟩ ?_
   intro j p
   have hb1:=q j
   refine qX ?_;intros
   refine aA (λy=> ?_) (λy=> ?_)
   ·have g:j < [x.role,x.a,x.b].length:=by simp;omega
    have h:([x.role,x.a,x.b].map bJ)[(j:Int).toNat]? =some (bJ [x.role,x.a,x.b][j]):=bA g
    have f:=aRf g
    generalize [x.role,x.a,x.b][j]=c at h f
    (repeat' first|(refine qW ?_;intros)|((conv=>whnf);first|refine dwR ?_|((first|refine aA ?_ ?_|refine aC ?_ ?_)<;>intro hb<;>(first|exact ddX hb|try simp only [lnS]at hb))|(refine aB ?_ ?_<;>intro hb<;>try exact dsX hb)))
    ·refine⟨j+1,qO,qO,⟨?_,trivial⟩⟩
     dsimp only
     rw [f,aRk,if_pos (by assumption)]
     repeat' (first|exact trivial|exact rfl|exact⟨rfl,rfl⟩|exact aLj (by omega)|refine And.intro ?_ ?_)
    ·refine⟨j+1,qO,qO,⟨?_,trivial⟩⟩
     dsimp only
     rw [f,aRk,if_neg (by simpa using (by assumption:c=[])),Int.add_zero]
     repeat' (first|exact trivial|exact rfl|exact⟨rfl,rfl⟩|refine And.intro ?_ ?_)
   ·have t:j=3:=by omega
    subst t
    (repeat' first|(refine qW ?_;intros)|((conv=>whnf);first|refine dwR ?_|((first|refine aA ?_ ?_|refine aC ?_ ?_)<;>intro hb<;>(first|exact ddX hb|try simp only [lnS]at hb))|(refine aB ?_ ?_<;>intro hb<;>try exact dsX hb)))
    rfl
def nP (a b:Int):Int:=if a < b then -1 else if b < a then 1 else 0
def orF:List Int->Int
 | []=>0
 |x::r=>if x≠0 then x else orF r
def aHr (n:Int):List D:=[.int .i64 n]
theorem aKq (a:Int):Tri Tryz.prog 129 [.d (.int .i64 a)] [] (λr=>r= .d (.bool false)):=by
 refine qG [] hty Tryz.func129 [0,2] ?_
 (repeat' first|(refine qW ?_;intros)|((conv=>whnf);first|refine dwR ?_|((first|refine aA ?_ ?_|refine aC ?_ ?_)<;>intro hb<;>(first|exact ddX hb|try simp only [lnS]at hb))|(refine aB ?_ ?_<;>intro hb<;>try exact dsX hb)))
 all_goals first|rfl|(exact bG (by simp))
theorem aAu (a:List UInt8):Tri Tryz.prog 179 [.d (.str a)] [] (λr=>r= .d (.bool false)):=by
 refine qG [] hty Tryz.func179 [0,2] ?_
 (repeat' first|(refine qW ?_;intros)|((conv=>whnf);first|refine dwR ?_|((first|refine aA ?_ ?_|refine aC ?_ ?_)<;>intro hb<;>(first|exact ddX hb|try simp only [lnS]at hb))|(refine aB ?_ ?_<;>intro hb<;>try exact dsX hb)))
 all_goals first|rfl|(exact bG (by simp))
theorem fN (a b:Int):Tri Tryz.prog 70 [.d (.int .i64 a), .d (.int .i64 b)] [] (λr=>r= .d (.int .i64 (nP a b))):=by
 refine qG [] hty Tryz.func70 [0,1,4,5,6,11,12,13,16,19] ?_
 (repeat' first|(refine qW ?_;intros)|((conv=>whnf);first|refine qT (aKq _) ?_|refine dwR ?_|((first|refine aA ?_ ?_|refine aC ?_ ?_)<;>intro hb<;>(first|exact ddX hb|try simp only [lnS]at hb))|(refine aB ?_ ?_<;>intro hb<;>try exact dsX hb)))
 all_goals (refine cM (Eq.symm ?_);unfold nP;simp_all<;>omega)
theorem aG9 (a b:List UInt8):Tri Tryz.prog 131 [.d (.str a), .d (.str b)] [] (λr=>r= .d (.int .i64 (hJ a b))):=by
 refine qG [] hty Tryz.func131 [0,1,4,5,6,11,12,13,16,19] ?_
 (repeat' first|(refine qW ?_;intros)|((conv=>whnf);first|refine qT (aAu _) ?_|refine dwR ?_|((first|refine aA ?_ ?_|refine aC ?_ ?_)<;>intro hb<;>(first|exact ddX hb|try simp only [lnS]at hb))|(refine aB ?_ ?_<;>intro hb<;>try exact dsX hb)))
 all_goals (
  refine cM (Eq.symm ?_)
  have hr:=rY a b
  have hz:=eT a b)
 ·rw [bytesLess_eq,decide_eq_true_eq]at hb
  omega
 ·rename_i c
  rw [bytesLess_eq,decide_eq_false_iff_not]at c
  have:hJ a b≠0:= λq=>by rw [hz.1 q]at hb;simp at hb
  omega
 ·rename_i c
  rw [bytesLess_eq,decide_eq_false_iff_not]at c
  rw [bytesLess_eq,decide_eq_false c]at hb
  exact hz.2 (by simpa using hb)
theorem aKh (l:List Int):Tri Tryz.prog 69 [.d (.sl 1 (l.map aHr))] [] (λr=>r= .d (.int .i64 (orF l))):=by
 refine qG [] hty Tryz.func69 [0,2,3,5,6,7,8,9,14] ?_
 refine qX ?_;intros
 refine aD hty (λj:Nat=>([(3, .d (.int .i64 0)),(6, .d (.sl 1 (l.map aHr))),(7, .d (.int .i64 l.length)),(8, .d (.int .i64 j))],[])) (λj=>j<=l.length/\orF l=orF (l.drop j)) (λj=>l.length - j) 0 ⟨by omega,rfl⟩ ⟨by repeat' (first|exact trivial|exact rfl|(rw [List.length_map];exact rfl)|refine And.intro ?_ ?_),trivial⟩ ?_
 rintro j ⟨hj,b⟩
 refine qX ?_;intros
 refine aA (λe=> ?_) (λe=> ?_)
 ·have a:j < l.length:=by omega
  have c:(l.map aHr)[(j:Int).toNat]? =some (aHr l[j]):=bA a
  rw [List.drop_eq_getElem_cons a,orF]at b
  generalize l[j]=x at c b
  (repeat' first|(refine qW ?_;intros)|((conv=>whnf);first|refine dwR ?_|((first|refine aA ?_ ?_|refine aC ?_ ?_)<;>intro hb<;>(first|exact ddX hb|try simp only [lnS]at hb))|(refine aB ?_ ?_<;>intro hb<;>try exact dsX hb)))
  ·rw [if_pos (by assumption)]at b
   exact cM b.symm
  ·rw [if_neg (by simpa using (by assumption:x=0))]at b
   exact⟨j+1,⟨by omega,b⟩,qO,qB,trivial⟩
 ·have a:j=l.length:=by omega
  subst a
  rw [List.drop_length,orF]at b
  (repeat' first|(refine qW ?_;intros)|((conv=>whnf);first|refine dwR ?_|((first|refine aA ?_ ?_|refine aC ?_ ?_)<;>intro hb<;>(first|exact ddX hb|try simp only [lnS]at hb))|(refine aB ?_ ?_<;>intro hb<;>try exact dsX hb)))
  exact cM b.symm
def dA:List (List UInt8)->List (List UInt8)->Int
 | [],[]=>0
 | [],_::_=> -1
 |_::_,[]=>1
 |a::l,b::m=>if hJ a b≠0 then hJ a b else dA l m
theorem aCe (l m:List (List UInt8)):Tri Tryz.prog 72 [.d (aO6 l), .d (aO6 m)] [] (λr=>r= .d (.int .i64 (dA l m))):=by
 refine qG [] hty Tryz.func72 [0,1,4,5,6,7,8,9,10,11,12,19,28,35] ?_
 refine qX ?_;intros
 refine aD hty (λj:Nat=>([(0, .d (aO6 l)),(1, .d (aO6 m)),(9, .d (aO6 l)),(10, .d (.int .i64 l.length)),(11, .d (.int .i64 j))],[])) (λj=>j<=l.length/\j<=m.length/\dA l m=dA (l.drop j) (m.drop j)) (λj=>l.length - j) 0 ⟨by omega,by omega,rfl⟩ ⟨by repeat' (first|exact trivial|exact rfl|(rw [List.length_map];exact rfl)|refine And.intro ?_ ?_),trivial⟩ ?_
 rintro j ⟨hj,hjm,b⟩
 refine qX ?_;intros
 refine aA (λh=> ?_) (λh=> ?_)
 ·have e:j < l.length:=by omega
  have f:(l.map bJ)[(j:Int).toNat]? =some (bJ l[j]):=bA e
  rw [List.drop_eq_getElem_cons e]at b
  generalize l[j]=x at f b
  refine qZ ?_;intros
  refine aA (λg=> ?_) (λg=> ?_)
  ·have i:m.drop j=[]:=List.drop_eq_nil_of_le (by simp only [List.length_map]at g;omega)
   rw [i,dA]at b
   (repeat' first|(refine qW ?_;intros)|((conv=>whnf);first|refine dwR ?_|((first|refine aA ?_ ?_|refine aC ?_ ?_)<;>intro hb<;>(first|exact ddX hb|try simp only [lnS]at hb))|(refine aB ?_ ?_<;>intro hb<;>try exact dsX hb)))
   exact cM b.symm
  ·have a:j < m.length:=by simp only [List.length_map]at g;omega
   have c:(m.map bJ)[(j:Int).toNat]? =some (bJ m[j]):=bA a
   rw [List.drop_eq_getElem_cons a,dA]at b
   generalize m[j]=y at c b
   (repeat' first|(refine qW ?_;intros)|((conv=>whnf);first|(refine⟨_,c, ?_⟩)|refine qT (aG9 x y) ?_|refine dwR ?_|((first|refine aA ?_ ?_|refine aC ?_ ?_)<;>intro hb<;>(first|exact ddX hb|try simp only [lnS]at hb))|(refine aB ?_ ?_<;>intro hb<;>try exact dsX hb)))
   ·rw [if_pos (by assumption)]at b
    exact cM b.symm
   ·rw [if_neg (by simpa using (by assumption:hJ x y=0))]at b
    exact⟨j+1,⟨by omega,by omega,b⟩,qO,qB,trivial⟩
 ·have e:j=l.length:=by omega
  subst e
  rw [List.drop_length]at b
  (repeat' first|(refine qW ?_;intros)|((conv=>whnf);first|refine dwR ?_|((first|refine aA ?_ ?_|refine aC ?_ ?_)<;>intro hb<;>(first|exact ddX hb|try simp only [lnS]at hb))|(refine aB ?_ ?_<;>intro hb<;>try exact dsX hb)))
  ·have a:l.length < m.length:=by simp_all
   rw [List.drop_eq_getElem_cons a,dA]at b
   exact cM b.symm
  ·rename_i h9
   have a:m.drop l.length=[]:=List.drop_eq_nil_of_le (by simp_all)
   rw [a,dA]at b
   exact cM b.symm
mutual
def grR:Cn->List D
 | .mk k n lo hi ps=>[.int .i64 k, .str n, .int .i64 lo, .int .i64 hi, .sl 5 (bCt ps), .int .i64 (aM (.mk k n lo hi ps)), .sl 7 (bDo ps)]
def bDo:List Cn->List (List D)
 | []=>[]
 |c::r=>grR c::bDo r
end
theorem aMx: ∀l,bDo l=l.map grR
 | []=>rfl
 |c::r=>by rw [bDo,aMx r];rfl
def grX (c:Cn) (n:Int) (l:List Cn):List D:=[.int .i64 c.kind, .str c.name, .int .i64 c.lo, .int .i64 c.hi, .sl 5 (c.parts.map cnR), .int .i64 n, .sl 7 (l.map grR)]
theorem dK (c:Cn):grR c=grX c (aM c) c.parts:=by
 cases c;rw [grR,aGa,aMx];rfl
theorem pY {l:List Cn}{j:Nat}(h:j < l.length):(aX (l.take (j+1))).length=(aX (l.take j)).length+aM l[j]:=by
 rw [aAj h,List.length_append];rfl
theorem eU (l:List Cn) (j:Nat):(aX (l.take j)).length<=(aX l).length:=by
 conv=>rhs;rw [<-List.take_append_drop j l,eM,List.length_append]
 omega
theorem rT: ∀(l:List Cn),l.length<=(aX l).length
 | []=>by simp
 |c::r=>by
  have h1:=rT r
  have a:=aRq c
  rw [aM]at a
  rw [aX,List.length_append,List.length_cons];omega
theorem uH (c:Cn):aM c=(aX c.parts).length+1:=by rw [aM,dO];simp
theorem vF: ∀(c:Cn) (_:aM c<=1000000),Tri Tryz.prog 125 [.d (.agg (cnR c))] [] (λr=>r= .d (.agg (grR c))):=by
 refine Cn.ind ?_
 intro c n hs
 have h:=uH c
 rw [aJ,dK]
 refine qG [1,4,5] hty Tryz.func125 [0,1,2,4,5,9,10,11,12] ?_
 refine qX ?_;intros
 refine aK.mownC 2 120 176 176 7 6 rfl rfl (bQ (by with_unfolding_all exact rfl)) ?_
 refine aD hty (λy:Nat×Nat=>([(2, .ptr 2 0),(9, .d (.sl 5 (c.parts.map cnR))),(10, .d (.int .i64 c.parts.length)),(11, .d (.int .i64 y.1))],[(120, .mrow 176 7 y.2 ((c.parts.take y.1).map grR)),(2, .cells 176 [.d (.int .i64 c.kind), .d (.str c.name), .d (.int .i64 c.lo), .d (.int .i64 c.hi), .d (.sl 5 (c.parts.map cnR)), .d (.int .i64 ((aX (c.parts.take y.1)).length+1:Nat)), .mw 120 7 y.1])])) (λy=>y.1<=c.parts.length) (λy=>c.parts.length - y.1) (0,0) (qO) ⟨by repeat' (first|exact trivial|exact rfl|(rw [List.length_map];exact rfl)|refine And.intro ?_ ?_),qB⟩ ?_
 rintro⟨j,cap⟩ o
 dsimp only at o
 refine qX ?_;intros
 refine aA (λm=> ?_) (λm=> ?_)
 ·have a:j < c.parts.length:=by dsimp only at m;omega
  have b:(c.parts.map cnR)[(j:Int).toNat]? =some (cnR c.parts[j]):=bA a
  have hp:=fK (List.getElem_mem (l:=c.parts) a)
  have hi:=n c.parts[j] (List.getElem_mem a) (by omega)
  have hnl:=pY a
  have hle:=eU c.parts (j+1)
  rw [aJ]at b hi
  rw [dK]at hi
  have i:=dK c.parts[j]
  (repeat' first|(refine qW ?_;intros)|((conv=>whnf);first|refine dwR ?_|((first|refine aA ?_ ?_|refine aC ?_ ?_)<;>intro hb<;>(first|exact ddX hb|try simp only [lnS]at hb))|(refine aB ?_ ?_<;>intro hb<;>try exact dsX hb)))
  have hpl:=rT c.parts
  have g:((c.parts.take j).map grR).length=j:=by rw [List.length_map,List.length_take];omega
  refine⟨?_,λcap' hc=> ?_⟩
  ·show (((c.parts.take j).map grR).length+1)* 96<=140737488355328
   rw [g];omega
  ·refine qX ?_;intros
   have f:(c.parts.take (j+1)).map grR=(c.parts.take j).map grR++[grX c.parts[j] (aM c.parts[j]) c.parts[j].parts]:=by
    rw [List.take_succ_eq_append_getElem a,List.map_append,List.map_cons,List.map_nil,i]
   have e:(((aX (c.parts.take (j+1))).length+1:Nat):Int)=(((aX (c.parts.take j)).length+1:Nat):Int)+(aM c.parts[j]:Nat):=by omega
   refine⟨(j+1,cap'),qO,qO,⟨qB, ?_⟩⟩
   dsimp only
   rw [f,e]
   refine⟨rfl, ?_,trivial⟩
   have k:SV.mw 120 7 (j+1)=SV.mw 120 7 (((c.parts.take j).map grR).length+1):=by rw [g]
   rw [k]
   rfl
 ·have a:j=c.parts.length:=by dsimp only at m;omega
  subst a
  rw [List.take_length,<-h]
  (repeat' first|(refine qW ?_;intros)|((conv=>whnf);first|refine dwR ?_|((first|refine aA ?_ ?_|refine aC ?_ ?_)<;>intro hb<;>(first|exact ddX hb|try simp only [lnS]at hb))|(refine aB ?_ ?_<;>intro hb<;>try exact dsX hb)))
  refine⟨(List.length_map ..).symm, ?_⟩
  refine qX ?_;intros
  rfl
mutual
def iG:Cn->Cn->Int
 | .mk k n lo hi ps,d=>
  if orF [nP (aM (.mk k n lo hi ps)) (aM d),nP k d.kind,hJ n d.name,nP lo d.lo,nP hi d.hi]≠0 then orF [nP (aM (.mk k n lo hi ps)) (aM d),nP k d.kind,hJ n d.name,nP lo d.lo,nP hi d.hi]
  else iO ps d.parts
def iO:List Cn->List Cn->Int
 | [],[]=>0
 | [],_::_=> -1
 |_::_,[]=>1
 |a::l,b::m=>if iG a b≠0 then iG a b else iO l m
end
def vE (c d:Cn):Int:=orF [nP (aM c) (aM d),nP c.kind d.kind,hJ c.name d.name,nP c.lo d.lo,nP c.hi d.hi]
theorem aL2 (c d:Cn):iG c d=if vE c d≠0 then vE c d else iO c.parts d.parts:=by
 cases c;rw [iG];rfl
theorem yD (f:FuncId) (hcall:dY Tryz.prog f=true) (l m:List Cn) (hf: ∀a∈l,∀b∈m,Tri Tryz.prog f [.d (.agg (grR a)), .d (.agg (grR b))] [] (λr=>r= .d (.int .i64 (iG a b)))):
  Tri Tryz.prog 177 [.d (.sl 7 (l.map grR)), .d (.sl 7 (m.map grR)), .fn f [] []] [] (λr=>r= .d (.int .i64 (iO l m))):=by
 refine qG [8,9] hty Tryz.func177 [0,1,2,6,7,8,9,10,11,12,13,14,21,31,38] ?_
 refine qX ?_;intros
 refine aD hty (λj:Nat=>([(0, .d (.sl 7 (l.map grR))),(1, .d (.sl 7 (m.map grR))),(2, .fn f [] []),(11, .d (.sl 7 (l.map grR))),(12, .d (.int .i64 l.length)),(13, .d (.int .i64 j))],[])) (λj=>j<=l.length/\j<=m.length/\iO l m=iO (l.drop j) (m.drop j)) (λj=>l.length - j) 0 ⟨by omega,by omega,rfl⟩ ⟨by repeat' (first|exact trivial|exact rfl|(rw [List.length_map];exact rfl)|refine And.intro ?_ ?_),trivial⟩ ?_
 rintro j ⟨hj,hjm,e⟩
 refine qX ?_;intros
 refine aA (λn=> ?_) (λn=> ?_)
 ·have g:j < l.length:=by omega
  have i:(l.map grR)[(j:Int).toNat]? =some (grR l[j]):=bA g
  rw [dK]at i
  rw [List.drop_eq_getElem_cons g]at e
  refine qZ ?_;intros
  refine aA (λk=> ?_) (λk=> ?_)
  ·have o:m.drop j=[]:=List.drop_eq_nil_of_le (by simp only [List.length_map]at k;omega)
   rw [o,iO]at e
   (repeat' first|(refine qW ?_;intros)|((conv=>whnf);first|refine dwR ?_|((first|refine aA ?_ ?_|refine aC ?_ ?_)<;>intro hb<;>(first|exact ddX hb|try simp only [lnS]at hb))|(refine aB ?_ ?_<;>intro hb<;>try exact dsX hb)))
   exact cM e.symm
  ·have c:j < m.length:=by simp only [List.length_map]at k;omega
   have h:(m.map grR)[(j:Int).toNat]? =some (grR m[j]):=bA c
   rw [dK]at h
   have hi:=hf l[j] (List.getElem_mem g) m[j] (List.getElem_mem c)
   rw [dK,dK]at hi
   rw [List.drop_eq_getElem_cons c,iO]at e
   (repeat' first|(refine qW ?_;intros)|((conv=>whnf);first|refine dwR ?_|((first|refine aA ?_ ?_|refine aC ?_ ?_)<;>intro hb<;>(first|exact ddX hb|try simp only [lnS]at hb))|(refine aB ?_ ?_<;>intro hb<;>try exact dsX hb)))
   ·rw [if_pos (by assumption)]at e
    exact cM e.symm
   ·rw [if_neg (by simpa using (by assumption:iG l[j] m[j]=0))]at e
    exact⟨j+1,⟨by omega,by omega,e⟩,qO,qB,trivial⟩
 ·have g:j=l.length:=by omega
  subst g
  rw [List.drop_length]at e
  (repeat' first|(refine qW ?_;intros)|((conv=>whnf);first|refine dwR ?_|((first|refine aA ?_ ?_|refine aC ?_ ?_)<;>intro hb<;>(first|exact ddX hb|try simp only [lnS]at hb))|(refine aB ?_ ?_<;>intro hb<;>try exact dsX hb)))
  ·have c:l.length < m.length:=by simp_all
   rw [List.drop_eq_getElem_cons c,iO]at e
   exact cM e.symm
  ·have c:m.drop l.length=[]:=List.drop_eq_nil_of_le (by simp_all)
   rw [c,iO]at e
   exact cM e.symm
end
section
open Go.RowKit
section
variable {P:Program}
theorem aNv {ops:Array Oper}{Q:Exit->Act->World->Prop}: ∀(fuel:Nat) (b:Array Bool) (a:Act) (w:World),wpAny P .any ops Q fuel b a w->wpAny P .any ops Q (fuel+1) b a w:=by
 intro fuel
 induction fuel with
 |zero=>intro b a w h;exact⟨λ_=>h.2,λi hi=>(by rw [h.1]at hi;cases hi)⟩
 |succ fuel ih=>intro b a w h;exact⟨h.1,λi hi=>wpOp_mono (λa w=>ih _ a w) (h.2 i hi)⟩
theorem aCj {ops:Array Oper}{Q:Exit->Act->World->Prop}{fuel:Nat}{listed:Array Bool}{a:Act}{w:World}(h:wpAny P .any ops Q fuel listed a w): ∀k,wpAny P .any ops Q (k+fuel) listed a w
 | 0=>by rw [Nat.zero_add];exact h
 |k+1=>by rw [Nat.add_right_comm];exact aNv _ _ _ _ (aCj h k)
def bDk (l:List Oper) (m:Nat):Bool:=
 decide (m < l.length) &&
 (List.range l.length).all λi=>
  match l[i]? with
  |some o=>
   (o.after.all λe=> !Region.binds .any e || decide (e.on < i)) &&
   (if i < m then o.guard.isNone && (List.range (m + 1)).any λk => decide (i < k) && (match l[k]? with
     |some o'=>o'.after.any λe=>Region.binds .any e && e.on==i
     |none=>false)
  else i==m || o.after.any λe=>Region.binds .any e && decide (m<=e.on))
  |none=>false
theorem aHh {l:List Oper}{m:Nat}(h:bDk l m=true):m < l.length/\ ∀i o,l[i]? =some o->
  (∀e∈o.after,Region.binds .any e=true->e.on < i)/\
  (i < m->o.guard=none/\ ∃k o',i < k/\k<=m/\l[k]? =some o'/\ ∃e∈o'.after,Region.binds .any e=true/\e.on=i)/\
  (m < i-> ∃e∈o.after,Region.binds .any e=true/\m<=e.on):=by
 simp only [bDk,Bool.and_eq_true,decide_eq_true_eq,List.all_eq_true,List.mem_range]at h
 refine⟨h.1,λi o j=> ?_⟩
 have hi:=h.2 i (List.getElem?_eq_some_iff.1 j).1
 rw [j]at hi
 simp only [Bool.and_eq_true]at hi
 obtain⟨g,a⟩:=hi
 refine⟨λe b hb=> ?_,λd=> ?_,λhmi=> ?_⟩
 ·rw [Array.all_eq_true']at g
  have:=g e b
  simpa [hb]using this
 ·rw [if_pos d]at a
  simp only [Bool.and_eq_true,Option.isNone_iff_eq_none,List.any_eq_true,List.mem_range,decide_eq_true_eq]at a
  obtain⟨n,k,hk,c,hx⟩:=a
  refine⟨n, ?_⟩
  split at hx
  ·rename_i o' f
   obtain⟨e,b,hb⟩:=Array.any_eq_true'.1 hx
   simp only [Bool.and_eq_true,beq_iff_eq]at hb
   exact⟨k,o',c,by omega,f,e,b,hb.1,hb.2⟩
  ·cases hx
 ·rw [if_neg (by omega)]at a
  have:(i==m)=false:=by simp;omega
  rw [this,Bool.false_or]at a
  obtain⟨e,b,hb⟩:=Array.any_eq_true'.1 a
  simp only [Bool.and_eq_true,decide_eq_true_eq]at hb
  exact⟨e,b,hb.1,hb.2⟩
theorem vH {x:Array Bool}{m k:Nat}{d:Bool}(hx:x.size=m) (i:Nat):(x++Array.replicate k false).getD i d=if i < m then x.getD i d else if i < m+k then false else d:=by
 simp only [Array.getD_eq_getD_getElem?,Array.getElem?_append,hx]
 split
 ·rfl
 ·rw [Array.getElem?_replicate]
  split
  ·rw [if_pos (by omega)];rfl
  ·rw [if_neg (by omega)];rfl
theorem aZx {l:List Oper}{m:Nat}{C:World->Prop}{Q:Act->Prop}{Q':Exit->Act->World->Prop}(hB:bDk l m=true)
  (ht: ∀a w,C w->Q a->wpAny P .any l.toArray Q' (l.length - m) (Array.replicate m true++Array.replicate (l.length - m) false) a w):
  ∀(f:Nat) (x:Array Bool) (a:Act) (w:World),C w->x.size=m->(∀(i:Nat) o,i < m->l[i]? =some o->x.getD i true=true-> ∀e∈o.after,Region.binds .any e=true->x.getD e.on false=true)->
   wpAnyQ P .any (l.take m).toArray C Q f x a->wpAny P .any l.toArray Q' (f+(l.length - m)) (x++Array.replicate (l.length - m) false) a w:=by
 obtain⟨hm,D⟩:=aHh hB
 have b: ∀i,i < m->(l.take m).toArray[i]? =l[i]? := λi hi=>by simp [List.getElem?_take,hi]
 have full: ∀x:Array Bool,x.size=m->Region.ready .any (l.take m).toArray x=[]->x=Array.replicate m true:=by
  intro x hx F
  have all: ∀i,i < m->x.getD i true=true:=by
   intro i
   induction i using Nat.strongRecOn with
   |_ i ih=>
    intro c
    by_cases R:x.getD i true=true
    ·exact R
    ·exfalso
     have R:x.getD i true=false:=by simpa using R
     have r:i < l.length:=by omega
     have n : i ∈ Region.ready .any (l.take m).toArray x := mem_ready.2 ⟨R, l[i], by rw [b i c]; exact List.getElem?_eq_getElem r, λe p hb => by
      have O:=(D i _ (List.getElem?_eq_getElem r)).1 e p hb
      have:=ih e.on O (by omega)
      simp only [Array.getD_eq_getD_getElem?]at this |-
      rw [Array.getElem?_eq_getElem (by omega)]at this |-
      exact this⟩
     rw [F]at n
     cases n
  apply Array.ext
  ·simp [hx]
  ·intro i T E
   have:=all i (by omega)
   simp only [Array.getD_eq_getD_getElem?,Array.getElem?_eq_getElem T,Option.getD_some]at this
   simpa using this
 intro f
 induction f with
 |zero=>
  intro x a w U hx _ h
  rw [full x hx h.1,Nat.zero_add]
  exact ht a w U h.2
 |succ f ih=>
  intro x a w U hx K h
  by_cases F:Region.ready .any (l.take m).toArray x=[]
  ·rw [full x hx F]
   exact aCj (ht a w U (h.1 F)) _
  ·have sub: ∀i∈Region.ready .any l.toArray (x++Array.replicate (l.length - m) false),i < m/\i∈Region.ready .any (l.take m).toArray x:=by
    intro i hi
    obtain⟨T,o,t,E⟩:=mem_ready.1 hi
    have t:l[i]? =some o:=by simpa using t
    have r:=(List.getElem?_eq_some_iff.1 t).1
    have y: ∀j,j < m->(x++Array.replicate (l.length - m) false).getD j false=true->x.getD j false=true:= λj z h=>by rw [vH hx,if_pos z]at h;exact h
    have B: ∀j,m<=j->j < l.length->¬ (x++Array.replicate (l.length - m) false).getD j false=true:= λj z hj' h=>by rw [vH hx,if_neg (by omega)]at h;split at h<;>cases h
    have c:i < m:=by
     by_cases c:i < m
     ·exact c
     ·exfalso
      by_cases W:m < i
      ·obtain⟨e,p,hb,Z⟩:=(D i o t).2.2 W
       exact B e.on Z (by have:=(D i o t).1 e p hb;omega) (E e p hb)
      ·have:i=m:=by omega
       subst this
       -- every statement of the head is listed
       have all: ∀d j,j+d=i->0 < d->x.getD j true=true:=by
        intro d
        induction d using Nat.strongRecOn with
        |_ d ihd=>
         intro j hjd hd
         have V:j < l.length:=by omega
         obtain⟨_,k,o',hjk,hki,s,e,p,hb,H⟩:=(D j _ (List.getElem?_eq_getElem V)).2.1 (by omega)
         have q:x.getD j false=true:=by
          by_cases G:k=i
          ·subst G
           rw [t]at s
           injection s with s;subst s
           have:=y e.on (by omega) (E e p hb)
           rwa [H]at this
          ·have:=K k o' (by omega) s (ihd (i - k) (by omega) k (by omega) (by omega)) e p hb
           rwa [H]at this
         simp only [Array.getD_eq_getD_getElem?]at q |-
         rw [Array.getElem?_eq_getElem (by omega)]at q |-
         exact q
       apply F
       apply List.eq_nil_iff_forall_not_mem.2
       intro j z
       obtain⟨S,oj,g,_⟩:=mem_ready.1 z
       have v:j < i:=by
        have:=(Array.getElem?_eq_some_iff.1 g).1
        simp at this
        omega
       rw [all (i - j) j (by omega) (by omega)]at S
       cases S
    refine⟨c,mem_ready.2 ⟨?_,o,by rw [b i c];exact t,λe p hb=> ?_⟩⟩
    ·rw [vH hx,if_pos c]at T;exact T
    ·exact y e.on (by have:=(D i o t).1 e p hb;omega) (E e p hb)
   have a3:Region.ready .any l.toArray (x++Array.replicate (l.length - m) false)≠[]:=by
    obtain⟨j,z⟩:=List.exists_mem_of_ne_nil _ F
    obtain⟨S,oj,g,g2⟩:=mem_ready.1 z
    have v:j < m:=by
     have:=(Array.getElem?_eq_some_iff.1 g).1
     simp at this
     omega
    have n : j ∈ Region.ready .any l.toArray (x ++ Array.replicate (l.length - m) false) := mem_ready.2 ⟨by rw [vH hx, if_pos v]; exact S, oj, by rw [b j v] at g; simpa using g, λe p hb => by
     have:=g2 e p hb
     have a1:e.on < m:=by
      rw [b j v]at g
      have:=(D j oj g).1 e p hb
      omega
     rw [vH hx,if_pos a1];exact this⟩
    intro h0
    rw [h0]at n
    cases n
   rw [Nat.add_right_comm]
   refine⟨λh0=>absurd h0 a3,λi hi=> ?_⟩
   obtain⟨c,M⟩:=sub i hi
   have r:i < l.length:=by omega
   have t:=List.getElem?_eq_getElem r
   have J:=h.2 i M
   have hg:=((D i _ t).2.1 c).1
   have a2:qOp P l.toArray C i (wpAnyQ P .any (l.take m).toArray C Q f (x.setIfInBounds i true)) a:=by
    unfold qOp at J |-
    rw [b i c]at J
    have:l.toArray[i]? =l[i]? :=by simp
    rw [this]
    rw [t]at J |-
    simp only [Region.wanted,hg]at J |-
    exact J
   refine wpOp_of_qOp U (λa' w' Y G=> ?_) a2
   have N:(x++Array.replicate (l.length - m) false).setIfInBounds i true=x.setIfInBounds i true++Array.replicate (l.length - m) false:=by
    rw [Array.setIfInBounds_append_left (by omega)]
   rw [N]
   refine ih _ a' w' Y (by simp [hx]) ?_ G
   intro j o z g A e p hb
   have L: ∀k (d:Bool),x.getD k d=true->(x.setIfInBounds i true).getD k d=true:=by
    intro k d G
    simp only [Array.getD_eq_getD_getElem?,Array.getElem?_setIfInBounds]at G |-
    split
    ·split<;>simp_all
    ·exact G
   by_cases I:j=i
   ·subst I
    obtain⟨_,o2,u,E⟩:=mem_ready.1 M
    rw [b j c,g]at u
    injection u with u;subst u
    exact L _ _ (E e p hb)
   ·refine L _ _ (K j o z g ?_ e p hb)
    simp only [Array.getD_eq_getD_getElem?,Array.getElem?_setIfInBounds]at A |-
    rw [if_neg (λh=>I h.symm)]at A
    exact A
def bDj (C:Cfg) (all:List Oper) (K:Fr->Prop):List Oper->Fr->Hp->Prop
 | [],fr,_=>K fr
 |o::r,fr,hp=>aW8 C all o fr hp λfr'=>bDj C all K r fr' hp
theorem aW9 {C:Cfg}(hti:fH C.P C.ti) {all:List Oper}{K:Fr->Prop}{E:Entry}{ρ:Env}{w:World}{hp:Hp}{df:List Deferred}(hm:Mem E ρ hp w): ∀(l:List Oper) (fr:Fr) (a:Act),bDj C all K l fr hp->a.tmps.size=C.nt->a.defers=df->dV ρ w fr a.tmps->
  wpQuiet C.P all.toArray (Grew w) (λa'=> ∃b,K b/\a'.tmps.size=C.nt/\a'.defers=df/\dV ρ w b a'.tmps) l a:=by
 intro l
 induction l with
 |nil=>
  intro fr a h e f c
  exact⟨fr,h,e,f,c⟩
 |cons o r ih=>
  intro fr a h e f c
  simp only [bDj,aW8]at h
  simp only [wpQuiet]
  obtain⟨fr0,c,m⟩:=gI h c
  rcases m with⟨j,h⟩|⟨j,h⟩
  ·simp only [j,if_true]
   obtain⟨v,s,p,k,n⟩:=bFj hti h hm c
   obtain⟨b,i,g⟩:=gY n e c k
   exact⟨v,p,ih b _ i (by rw [cH];exact e) (by rw [put_defers];exact f) g⟩
  ·simp only [j,Bool.false_eq_true,if_false]
   obtain⟨b,i,g⟩:=gY h e c (Rep.d _ undef (.lit undef))
   exact ih b _ i (by rw [cH];exact e) (by rw [put_defers];exact f) g
theorem fA {C:Cfg}(hti:fH C.P C.ti) {id:Nat}{l:List Oper}{fr:Fr}{hp:Hp}{K:Ex->Fr->Hp->Prop}(m:Nat) (hm:C.P.follows .mixedOrders=true)
  (hB:(bDk l m && Region.lexB .any (l.take m).toArray && Region.noSelect l.toArray && bB6 l.toArray (List.range' m (l.length - m)) (Array.replicate m true++Array.replicate (l.length - m) false) false && nD l)=true)
  (h:bDj C (l.take m) (λb=>aE0 C l (K .normal) (List.range' m (l.length - m)) b hp) (l.take m) fr hp):aK C (.region id l.toArray true) fr hp K:=by
 intro E a w c hrd ⟨r,z,ρ,n,B⟩
 simp only [Bool.and_eq_true]at hB
 obtain⟨⟨⟨⟨p,e⟩,D⟩,y⟩,g⟩:=hB
 simp only [Region.lexB,Bool.and_eq_true]at e
 refine gP hm g mS.noOut ?_
 have hlt:=(aHh p).1
 have u:=aW9 (C:=C) hti (all:=l.take m) n (l.take m) fr a h r rfl B
 have hl:=wpAnyQ_lex (P:=C.P) (C:=Grew w) (md:= .any) e.1 (l.take m) 0 (Array.replicate (l.take m).toArray.size false) a (by simp) (by simpa using e.2) u
 have d:(l.take m).length=m:=by simp;omega
 have f:(l.take m).toArray.size=m:=by simp;omega
 rw [d,f]at hl
 have := aZx (P := C.P) (C := Grew w) (Q' := mS C E K) p (λa' w' s x => by
  obtain⟨b,j,k,A,t⟩:=x
  obtain⟨v,q⟩:=n.grow_same s
  have:=aDz (C:=C) hti (E:=E) c D _ _ false b hp ρ a' _ y j v k (A.trans z) (q b _ t)
  rw [List.length_range']at this
  exact wF _ _ _ _ _ (aZ4 (Q':=mS C E K .normal) (λa w ⟨b,hp',j,k⟩=>⟨.normal,b,hp',E, .refl E,trivial,j,k⟩) _ _ _ _ _ this)) m (Array.replicate m false) a _ (Grew.drew w) (by simp) (λi o hi _ hx=>by simp [hi]at hx) hl
 have e1:m+(l.length - m)=l.toArray.size:=by simp;omega
 have e2:Array.replicate m false++Array.replicate (l.length - m) false=Array.replicate l.toArray.size false:=by rw [Array.replicate_append_replicate,e1]
 rw [e1,e2]at this
 exact this
end
end
section
set_option maxRecDepth 10000
theorem Tri.osl {P:Program}{f:FuncId}{id z:Nat}{rows:List (List D)}{post:SV->Prop}(h:Tri P f [.d (.sl z rows)] [] post):Tri P f [.osl id z rows] [] post:=by
 unfold Tri at h |-
 intro w ρ vs a b c
 refine h w ρ vs a ⟨b.1,λj s v e g=> ?_⟩ (λid o i=>by cases i)
 match j,e with
 | 0,e=>
  injection e with e;subst e
  exact .d _ _ (b.2 0 _ v rfl g).osl_inv.1
attribute [local irreducible] aK aF Tri aH YVC cG aT
theorem qN: ∀(c d:Cn),Tri Tryz.prog 126 [.d (.agg (grR c)), .d (.agg (grR d))] [] (λr=>r= .d (.int .i64 (iG c d))):=by
 refine Cn.ind ?_
 intro c f d
 have hL:=yD 126 (by kernel_rfl) c.parts d.parts (λa g b _=>f a g b)
 rw [dK,dK,aL2]
 refine qG [2,3] hty Tryz.func126 [0,1,2,3,4,5,42] ?_
 refine qX ?_;intros
 refine fA hty 33 (by kernel_rfl) (by kernel_rfl) ?_
 refine qX ?_;intros
 refine⟨.d (.int .i64 _),_,[],rfl,trivial,fN _ _, ?_⟩
 refine qX ?_;intros
 refine⟨.d (.int .i64 _),_,[],rfl,trivial,fN _ _, ?_⟩
 refine qX ?_;intros
 refine⟨.d (.int .i64 _),_,[],rfl,trivial,oI _ _, ?_⟩
 refine qX ?_;intros
 refine⟨.d (.int .i64 _),_,[],rfl,trivial,fN _ _, ?_⟩
 refine qX ?_;intros
 refine⟨.d (.int .i64 _),_,[],rfl,trivial,fN _ _, ?_⟩
 refine qX ?_;intros
 refine⟨[],(λr=>r= .d (.int .i64 (vE c d))),trivial,Tri.osl (aKh [_,_,_,_,_]),λr e=> ?_⟩
 subst e
 (repeat' first|(refine qW ?_;intros)|((conv=>whnf);first|refine dwR ?_|((first|refine aA ?_ ?_|refine aC ?_ ?_)<;>intro hb<;>(first|exact ddX hb|try simp only [lnS]at hb))|(refine aB ?_ ?_<;>intro hb<;>try exact dsX hb)))
 ·exact cM (if_pos hb).symm
 ·exact cM (if_neg (λh=>h hb)).symm
end
section
attribute [local irreducible] aK aF Tri aH YVC cG aT
set_option maxRecDepth 10000
theorem rE (c d:Cn) (hc:aM c<=1000000) (hd:aM d<=1000000):Tri Tryz.prog 67 [.d (.agg (cnR c)), .d (.agg (cnR d))] [] (λr=>r= .d (.int .i64 (iG c d))):=by
 have a:=vF c hc
 have b:=vF d hd
 rw [aJ]at a b |-
 rw [aJ d]
 rw [dK]at a
 rw [dK]at b
 have e:=qN c d
 rw [dK,dK]at e
 refine qG [2,3] hty Tryz.func67 [0,1,2,3,4] ?_
 ((conv=>whnf);repeat' ((first|(intro f;(try simp only [lnS]at f);(try rewrite [List.length_map]))|refine sJ ?_|refine qE_ ?_|refine exL (k:=?_)| refine qT a ?_|refine qT b ?_|refine qT e ?_|(refine aGt (id:=1) hty (.alt 0 (.alt 1 (.alt 2 (.alt 3 (.alt 4 (.first 5 .done) .stop) .stop) .stop) (.alt 2 (.alt 1 (.alt 3 (.alt 4 (.first 5 .done) .stop) .stop) .stop) .stop)) (.alt 2 (.alt 0 (.alt 1 (.alt 3 (.alt 4 (.first 5 .done) .stop) .stop) .stop) .stop) .stop)) (by kernel_rfl) (by kernel_rfl) ?_)|exact trivial|(refine And.intro ?_ ?_)|refine dwR ?_|((first|refine aA ?_ ?_|refine aC ?_ ?_)<;>intro hb<;>(first|exact ddX hb|try simp only [lnS]at hb))|(refine aB ?_ ?_<;>intro hb<;>try exact dsX hb))<;>(conv=>whnf)))
 all_goals rfl
def vW (x y:Ax):Int:=orF [nP (gL x) (gL y),nP x.kind y.kind]
def xW (x y:Ax):Int:=orF [dA x.roles y.roles,hJ x.role y.role,hJ x.a y.a,hJ x.b y.b]
def fW (x y:Ax):Int:=
 if vW x y≠0 then vW x y
 else if iG x.left y.left≠0 then iG x.left y.left
 else if iG x.right y.right≠0 then iG x.right y.right
 else xW x y
theorem mT (x y:Ax) (h1:aM x.left<=1000000) (h2:aM x.right<=1000000) (h3:x.roles.length<=1000000) (h4:aM y.left<=1000000) (h5:aM y.right<=1000000) (h6:y.roles.length<=1000000):
  Tri Tryz.prog 34 [.d (.agg (axR x)), .d (.agg (axR y))] [] (λr=>r= .d (.int .i64 (fW x y))):=by
 have c:=zM x h1 h2 h3
 have b:=zM y h4 h5 h6
 have hl:=rE x.left y.left h1 h4
 have e:=rE x.right y.right h2 h5
 rw [aJ,aJ]at hl
 rw [aJ,aJ]at e
 refine qG [2,3] hty Tryz.func34 [0,1,2,3,4,18,25,32] ?_
 refine qX ?_;intros
 refine fA hty 10 (by kernel_rfl) (by kernel_rfl) ?_
 refine qX ?_;intros
 refine⟨.d (.int .i64 _),_,[],rfl,trivial,c, ?_⟩
 refine qX ?_;intros
 refine⟨.d (.int .i64 _),_,[],rfl,trivial,b, ?_⟩
 refine qX ?_;intros
 refine⟨.d (.int .i64 _),_,[],rfl,trivial,fN _ _, ?_⟩
 refine qX ?_;intros
 refine⟨.d (.int .i64 _),_,[],rfl,trivial,fN _ _, ?_⟩
 refine qX ?_;intros
 refine⟨[],(λr=>r= .d (.int .i64 (vW x y))),trivial,Tri.osl (aKh [_,_]),λr a=> ?_⟩
 subst a
 (repeat' first|(refine qW ?_;intros)|((conv=>whnf);first|(refine fA hty 20 (by kernel_rfl) (by kernel_rfl) ?_)|refine qT hl ?_|refine qT e ?_|(refine⟨.d (.int .i64 _),_,[],rfl,trivial,aCe _ _, ?_⟩)|(refine⟨.d (.int .i64 _),_,[],rfl,trivial,oI _ _, ?_⟩)|(refine⟨[],(λr=>r= .d (.int .i64 (xW x y))),trivial,Tri.osl (aKh [_,_,_,_]),λr a=> ?_⟩;subst a)|refine dwR ?_|((first|refine aA ?_ ?_|refine aC ?_ ?_)<;>intro hb<;>(first|exact ddX hb|try simp only [lnS]at hb))|(refine aB ?_ ?_<;>intro hb<;>try exact dsX hb)))
 all_goals refine cM (Eq.symm ?_)
 all_goals unfold fW
 all_goals simp_all
structure Nm where
 a:List (List UInt8)
 b:List (List UInt8)
 c:List (List UInt8)
 d:List (List UInt8)
def nmR (x:Nm):List D:=[aO6 x.a,aO6 x.b,aO6 x.c,aO6 x.d]
mutual
def nO:Cn->Int->Int->Int
 | .mk _ n _ _ ps,deep,most=>if deep<=0 then most+1 else qM ps (deep - 1) most (1+n.length / 40)
def qM:List Cn->Int->Int->Int->Int
 | [],_,_,t=>t
 |c::r,deep,most,t=>if t<=most then qM r deep most (t+nO c deep (most - t))else t
end
theorem aU5 (c:Cn) (deep most:Int):nO c deep most=if deep<=0 then most+1 else qM c.parts (deep - 1) most (1+(c.name.length:Int) / 40):=by
 cases c;rw [nO];rfl
theorem aPz: ∀(c:Cn) (a most:Int),a<=40->0<=a->0<=most->most<=150->Tri Tryz.prog 142 [.d (.agg (cnR c)), .d (.int .i64 a), .d (.int .i64 most)] []
  (λr=>r= .d (.int .i64 (nO c a most))/\1<=nO c a most/\nO c a most<=most+300000000000000000):=by
 refine Cn.ind ?_
 intro c n a most hd0 hd hm0 hm
 rw [aJ,aU5]
 refine qG [3] hty Tryz.func142 [0,1,2,3,6,7,8,10,27] ?_
 (repeat' first|(refine qW ?_;intros)|((conv=>whnf);first|refine dwR ?_|((first|refine aA ?_ ?_|refine aC ?_ ?_)<;>intro hb<;>(first|exact ddX hb|try simp only [lnS]at hb))|(refine aB ?_ ?_<;>intro hb<;>try exact dsX hb)))
 ·rw [if_pos (by assumption)]
  exact⟨rfl,by omega,by omega⟩
 ·have s:((c.name.length:Int)).tdiv 40=(c.name.length:Int) / 40:=Int.tdiv_eq_ediv_of_nonneg (by omega)
  rw [if_neg (by assumption),s]
  have m:1<=1+(c.name.length:Int) / 40/\1+(c.name.length:Int) / 40<=most+300000000000000000:=by omega
  generalize (c.name.length:Int) / 40=q at m |-
  refine⟨⟨by omega,by omega⟩, ?_⟩
  (repeat' first|(refine qW ?_;intros)|((conv=>whnf);first|refine dwR ?_|((first|refine aA ?_ ?_|refine aC ?_ ?_)<;>intro hb<;>(first|exact ddX hb|try simp only [lnS]at hb))|(refine aB ?_ ?_<;>intro hb<;>try exact dsX hb)))
  refine aD hty (λp:Nat×Int=>([(1, .d (.int .i64 a)),(2, .d (.int .i64 most)),(3, .ea 5 [[.int .i64 c.kind, .str c.name, .int .i64 c.lo, .int .i64 c.hi, .sl 5 (c.parts.map cnR)]] 0 0),(7, .d (.int .i64 p.2)),(8, .d (.int .i64 p.1))],[])) (λp=>p.1<=c.parts.length/\1<=p.2/\p.2<=most+300000000000000000/\qM c.parts (a - 1) most (1+q)=qM (c.parts.drop p.1) (a - 1) most p.2) (λp=>c.parts.length - p.1) (0,1+q) ⟨Nat.zero_le _,m.1,m.2,rfl⟩ ⟨by repeat' (first|exact trivial|exact rfl|(rw [List.length_map];exact rfl)|exact⟨rfl,rfl⟩|refine And.intro ?_ ?_),trivial⟩ ?_
  rintro⟨j,t⟩ ⟨o,h,i,g⟩
  dsimp only at o h i g
  by_cases e:j < c.parts.length
  ·have f:(c.parts.map cnR)[(j:Int).toNat]? =some (cnR c.parts[j]):=bA e
   have b:=n c.parts[j] (List.getElem_mem e) (a - 1) (most - t) (by omega) (by omega)
   rw [List.drop_eq_getElem_cons e,qM]at g
   generalize c.parts[j]=x at f g b
   rw [aJ]at f b
   (repeat' first|(refine qW ?_;intros)|((conv=>whnf);first|(refine⟨_,f, ?_⟩)|(refine aL [] (b (by omega) (by omega)) trivial (λr l=> ?_);obtain⟨l,hs1,hs2⟩:=l;subst l)|refine dwR ?_|((first|refine aA ?_ ?_|refine aC ?_ ?_)<;>intro hb<;>(first|exact ddX hb|try simp only [lnS]at hb))|(refine aB ?_ ?_<;>intro hb<;>try exact dsX hb)))
   ·have k:t<=most:=by first|assumption|omega
    rw [if_pos k]at g
    refine⟨(j+1,t+nO x (a - 1) (most - t)),⟨qO,qO,qO,g⟩,qO,qB,trivial⟩
   ·have k:¬ t<=most:=by first|assumption|omega
    rw [if_neg k]at g
    rw [g];exact⟨rfl,h,i⟩
  ·have e:j=c.parts.length:=by omega
   subst e
   rw [List.drop_length,qM]at g
   (repeat' first|(refine qW ?_;intros)|((conv=>whnf);first|refine dwR ?_|((first|refine aA ?_ ?_|refine aC ?_ ?_)<;>intro hb<;>(first|exact ddX hb|try simp only [lnS]at hb))|(refine aB ?_ ?_<;>intro hb<;>try exact dsX hb)))
   all_goals (rw [g];exact⟨rfl,h,i⟩)
def bCl (c:Cn):Bool:=decide (nO c 40 150<=150)
theorem aN2 (c:Cn):Tri Tryz.prog 86 [.d (.agg (cnR c))] [] (λr=>r= .d (.bool (bCl c))):=by
 have b:=aPz c 40 150 (by omega) (by omega) (by omega) (by omega)
 rw [aJ]at b |-
 refine qG [1] hty Tryz.func86 [0,1,2] ?_
 (repeat' first|(refine qW ?_;intros)|((conv=>whnf);first|(refine aL [] b trivial (λr a=> ?_);obtain⟨a,hs1,hs2⟩:=a;subst a)|refine dwR ?_|((first|refine aA ?_ ?_|refine aC ?_ ?_)<;>intro hb<;>(first|exact ddX hb|try simp only [lnS]at hb))|(refine aB ?_ ?_<;>intro hb<;>try exact dsX hb)))
 all_goals rfl
def vC:List (List UInt8)->Int
 | []=>0
 |s::r=>s.length+vC r
def aZa (x:Ax):Int:=x.role.length+x.a.length+x.b.length+10 * x.roles.length+vC (x.roles.take 100)
def aCb (x:Ax):Bool:=decide (aZa x<=600) && bCl x.left && bCl x.right
structure SzAx (x:Ax):Prop where
 r:x.roles.length<=140737488351232
 o:x.role.length<=140737488351232
 a:x.a.length<=140737488351232
 b:x.b.length<=140737488351232
 rs: ∀s∈x.roles,s.length<=140737488351232
theorem aGh (x:Ax) (h:SzAx x):Tri Tryz.prog 42 [.d (.agg (axR x))] [] (λr=>r= .d (.bool (aCb x))):=by
 have hl:=aN2 x.left
 have u:=aN2 x.right
 rw [aJ]at hl u
 obtain⟨I,H,B,G,k⟩:=h
 obtain⟨kind,isopen,left,right,roles,role,a,b⟩:=x
 dsimp only at hl u I H B G k
 unfold aCb aZa axR
 dsimp only
 obtain⟨E,D,m,A,v⟩:=left
 obtain⟨J,C,q,l,s⟩:=right
 dsimp only [Cn.kind,Cn.name,Cn.lo,Cn.hi,Cn.parts]at hl u |-
 refine qG [1] hty Tryz.func42 [0,1,2,3,4,29] ?_
 (repeat' first|(refine qW ?_;intros)|((conv=>whnf);first|refine dwR ?_|((first|refine aA ?_ ?_|refine aC ?_ ?_)<;>intro hb<;>(first|exact ddX hb|try simp only [lnS]at hb))|(refine aB ?_ ?_<;>intro hb<;>try exact dsX hb)))
 refine aD hty (λp:Nat×Int=>([(1, .ea 16 [[.int .i64 kind, .bool isopen, .int .i64 E, .str D, .int .i64 m, .int .i64 A,cnl v, .int .i64 J, .str C, .int .i64 q, .int .i64 l,cnl s,aO6 roles, .str role, .str a, .str b]] 0 0),(3, .d (.int .i64 p.2)),(4, .d (.int .i64 p.1))],[])) (λp=>p.1<=roles.length/\p.1<=100/\0<=p.2/\p.2<=140737488351232 * 13+140737488351232 * p.1/\(role.length:Int)+a.length+b.length+10 * roles.length+vC (roles.take 100)=p.2+vC ((roles.take 100).drop p.1)) (λp=>roles.length - p.1) (0,(role.length:Int)+a.length+b.length+10 * roles.length) ⟨Nat.zero_le _,by omega,by omega,by omega,rfl⟩ ⟨by repeat' (first|exact trivial|exact rfl|(rw [List.length_map];exact rfl)|exact⟨rfl,rfl⟩|refine And.intro ?_ ?_),trivial⟩ ?_
 rintro⟨j,t⟩ ⟨F,z,o,n,e⟩
 dsimp only at F z o n e
 by_cases c:j < roles.length/\j < 100
 ·have f:(roles.map bJ)[(j:Int).toNat]? =some (bJ roles[j]):=bA c.1
  have g:=k roles[j] (List.getElem_mem c.1)
  have w:j < (roles.take 100).length:=by rw [List.length_take];omega
  rw [List.drop_eq_getElem_cons w,vC,List.getElem_take]at e
  have hjl1:=c.1
  have hjl2:=c.2
  clear k
  generalize roles[j]=y at f e g
  (repeat' first|(refine qW ?_;intros)|((conv=>whnf);first|refine dwR ?_|((first|refine aA ?_ ?_|refine aC ?_ ?_)<;>intro hb<;>(first|exact ddX hb|try simp only [lnS]at hb))|(refine aB ?_ ?_<;>intro hb<;>try exact dsX hb)))
  refine⟨(j+1,t+y.length),⟨qO,qO,qO,qO,qO⟩,qO,qB,trivial⟩
 ·have i:(roles.take 100).drop j=[]:=List.drop_eq_nil_of_le (by rw [List.length_take];omega)
  rw [i,vC,Int.add_zero]at e
  rw [e]
  clear e i k
  (repeat' first|(refine qW ?_;intros)|((conv=>whnf);first|refine dwR ?_|((first|refine aA ?_ ?_|refine aC ?_ ?_)<;>intro hb<;>(first|exact ddX hb|try simp only [lnS]at hb))|(refine aB ?_ ?_<;>intro hb<;>try exact dsX hb)))
  all_goals (refine bG (Eq.symm ?_);simp_all [bCl])
  all_goals (intro h9;omega)
end
end Go.Proofs.YtbobcfjlbcgchaaGreatDoor
