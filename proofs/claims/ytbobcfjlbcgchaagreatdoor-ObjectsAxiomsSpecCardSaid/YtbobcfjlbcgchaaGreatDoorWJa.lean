/-
  Layer 6, reference: Has, With, checked, All.
  Conditions: none.
-/
import Derived.Test.YtbobcfjlbcgchaaGreatDoorWDd
import Derived.Test.YtbobcfjlbcgchaaGreatDoorWOf
import Derived.Test.YtbobcfjlbcgchaaGreatDoorWDe
import Derived.Test.YtbobcfjlbcgchaaGreatDoorWQc
import Derived.Test.YtbobcfjlbcgchaaGreatDoorWSna
import Derived.Test.YtbobcfjlbcgchaaGreatDoorWQh
import Derived.Test.YtbobcfjlbcgchaaGreatDoorWQf
set_option linter.unnecessarySimpa false
set_option linter.unusedSectionVars false
set_option linter.unusedSimpArgs false
set_option linter.unusedVariables false
set_option maxHeartbeats 32000000
namespace Go.Proofs.YtbobcfjlbcgchaaGreatDoor
section
attribute [local irreducible] aK aF Tri aH YVC cG aT
set_option maxRecDepth 10000
theorem nK {c:Cn}(h:bC c=0):c.kind≠0:=by
 have a:=(dJ h).2.2 c (by rw [dO];simp)
 unfold bM at a
 split at a
 ·simp at a
 ·omega
def iX (c:Cn):Cn×Int:=if c.kind≠0 then aI c else (c0,0)
theorem aLy {b:Bool}{c:Cn}(h:(b || dQ c)=true) (h0:b=true->bC c=0):bO b c=iX c:=by
 unfold bO iX
 cases b
 ·have e:c=c0:=aG4 (by simpa using h)
  subst e
  simp [c0,Cn.kind]
 ·rw [if_pos rfl,if_pos (nK (h0 rfl))]
theorem aRd {x:Ax}(h:aZ x=0):cB x=if (iX x.left).2≠0 then (a0,(iX x.left).2)
  else if (iX x.right).2≠0 then (a0,(iX x.right).2)
  else if (x.kind=2\/x.kind=3)/\0 < iG (iX x.left).1 (iX x.right).1 then ({ x with left:=(iX x.right).1,right:=(iX x.left).1 },0)
  else ({ x with left:=(iX x.left).1,right:=(iX x.right).1 },0):=by
 obtain⟨_,a,hn,hl,b,_⟩:=(fO x).1 h
 unfold bH at a
 simp only [Bool.and_eq_true]at a
 have e1:=aLy a.1 hl
 have e2:=aLy a.2.1 b
 unfold cB
 rw [if_neg (by omega)]
 unfold sE
 rw [e1,e2]
theorem aVq {x:Ax}(h:aZ x=0):(x.left.kind≠0->aM x.left<=64/\Okn x.left)/\(x.right.kind≠0->aM x.right<=64/\Okn x.right):=by
 obtain⟨_,a,hn,hl,g,_⟩:=(fO x).1 h
 unfold bH at a
 simp only [Bool.and_eq_true]at a
 have key: ∀{b:Bool} {c:Cn},(b || dQ c)=true->(b=true->bC c=0)->c.kind≠0->aM c<=64/\Okn c:=by
  intro b c f i d
  cases b
  ·have e:c=c0:=aG4 (by simpa using f)
   rw [e]at d
   exact absurd rfl d
  ·have:=(eH c).1 (i rfl)
   exact⟨this.2.1,this.2.2⟩
 exact⟨key a.1 hl,key a.2.1 g⟩
end
section
theorem aUm {C:Cfg}{all:List Oper}{i:Nat}{fr fr2:Fr}{hp hp2:Hp}{k:Fr->Hp->Prop}{K:Fr->Hp->Prop}{T:OT}(h1:aQ6 C all i fr hp k) (h2:lM C all K T fr2 hp2):aQ6 C all i fr hp k/\lM C all K T fr2 hp2:=⟨h1,h2⟩
theorem eqN {α:Type}{a b:α}(h:a=b) {B:Prop}(hb:B):a=b/\B:=⟨h,hb⟩
theorem leN {a b:Nat}(h:Nat.ble a b=true) {B:Prop}(hb:B):a<=b/\B:=⟨Nat.le_of_ble_eq_true h,hb⟩
theorem ltN {a b:Nat}(h:Nat.ble (a+1) b=true) {B:Prop}(hb:B):a < b/\B:=⟨Nat.le_of_ble_eq_true h,hb⟩
theorem aK.frz1 {C:Cfg}{c:Code}{fr:Fr}{hp:Hp}{K:Ex->Fr->Hp->Prop}(t:Nat) (h:bCj [t] fr hp λd hp'=>aK C c d hp' K):aK C c fr hp K:=by
 intro E a w b f e
 obtain⟨j,i,ρ,n,k⟩:=e
 obtain⟨d,hp',l,o,g,m⟩:=wZ [t] (a:=a) h n k
 exact o E a w b f ⟨j,i,l,g,m⟩
mutual
theorem vY: ∀a:D,WkD a a
 | .nil=>by simp [WkD]
 | .sl z rows=>by rw [WkD];exact⟨rfl,aJb rows⟩
 | .agg cs=>by rw [WkD];exact aBt cs
 | .int k n=>by simp [WkD]
 | .bool b=>by simp [WkD]
 | .str l=>by simp [WkD]
 | .lit v=>by simp [WkD]
theorem aBt: ∀l:List D,aUs l l
 | []=>by simp [aUs]
 |a::l=>by rw [aUs];exact⟨vY a,aBt l⟩
theorem aJb: ∀l:List (List D),aY5 l l
 | []=>by simp [aY5]
 |a::l=>by rw [aY5];exact⟨aBt a,aJb l⟩
end
end
section
attribute [local irreducible] aK aF Tri aH YVC cG aT
set_option maxRecDepth 10000
theorem wkA (x : Ax) (p q : D) (hp : WkD p (cnl x.left.parts)) (hq : WkD q (cnl x.right.parts)) : PairA x 0 (.tup [.d (.agg [.int .i64 x.kind, .bool x.isopen, .int .i64 x.left.kind, .str x.left.name, .int .i64 x.left.lo, .int .i64 x.left.hi, p,
  .int .i64 x.right.kind, .str x.right.name, .int .i64 x.right.lo, .int .i64 x.right.hi,q,aO6 x.roles, .str x.role, .str x.a, .str x.b]), .d (.int .i64 0)]):=by
 refine⟨_,rfl, .inr ?_⟩
 exact⟨rfl,rfl,rfl,rfl,rfl,rfl,hp,rfl,rfl,rfl,rfl,hq,vY _,rfl,rfl,rfl,trivial⟩
theorem aCz (c:Cn):aM (iX c).1<=aM c:=by
 unfold iX
 split
 ·exact hZ c
 ·have:=cP c
  rw [aEy];omega
theorem aD9 {c:Cn}(hk:c.kind≠0) (h:aM c<=64/\Okn c):Tri Tryz.prog 111 [.d (.agg (cnR c))] [] (λr=>r= .tup [.d (.agg (cnR (iX c).1)), .d (.int .i64 (iX c).2)]):=by
 have:=aOo c (by omega) h.2
 unfold iX
 rw [if_pos hk]
 exact this
theorem aA6 (x:Ax) (h1:aM x.left<=1000000) (h2:aM x.right<=1000000):Tri Tryz.prog 61 [.d (.agg (axR x))] [] (λr=>r= .tup [.d (.agg (axR (cB x).1)), .d (.int .i64 (cB x).2)]):=by
 refine Tri.pairA ?_
 have A:=jA x h1 h2
 refine qG [1] hty Tryz.func61 [0,1,2,3,4,5,9,32,41,47,56,74] ?_
 refine qZ ?_;intros
 refine aC (λi=> ?_) (λi=> ?_)
 ·have e:cB x=(a0,aZ x):=by unfold cB;rw [if_pos i]
  rw [e]
  (repeat' first|(refine qW ?_;intros)|((conv=>whnf);first|refine dwR ?_|((first|refine aA ?_ ?_|refine aC ?_ ?_)<;>intro hb<;>(first|exact ddX hb|try simp only [lnS]at hb))|(refine aB ?_ ?_<;>intro hb<;>try exact dsX hb)))
  exact aGk _
 ·have i:aZ x=0:=by simpa using i
  obtain⟨b1,b2,b3⟩:=fP i
  obtain⟨v,w⟩:=aVq i
  have o:= λh=>aD9 h (v h)
  have l:= λh=>aD9 h (w h)
  have y:x.left.kind=0->iX x.left=(c0,0):= λh=>by unfold iX;rw [if_neg (by omega)]
  have t:x.right.kind=0->iX x.right=(c0,0):= λh=>by unfold iX;rw [if_neg (by omega)]
  have g:(x.kind=2\/x.kind=3)->x.left.kind≠0/\x.right.kind≠0:=by
   intro h
   have z:=(vV i).2
   have u:(cC x.kind).left=true/\(cC x.kind).right=true:=by
    rcases h with h|h<;>rw [h]<;>exact⟨rfl,rfl⟩
   exact⟨nK (z.1 u.1),nK (z.2 u.2)⟩
  have C:=aCz x.left
  have B:=aCz x.right
  have a:=jJ (iX x.left).1 (iX x.right).1 (by omega) (by omega)
  have m:=aRd i
  obtain⟨L,e,hLe⟩: ∃L e,iX x.left=(L,e):=⟨_,_,rfl⟩
  obtain⟨R,f,hRe⟩: ∃R f,iX x.right=(R,f):=⟨_,_,rfl⟩
  rw [hLe]at o y a m
  rw [hRe]at l t a m
  dsimp only at o l a m
  rw [m]
  rw [aJ,aJ]at a
  rw [aJ,aJ L]at o
  rw [aJ,aJ R]at l
  have n:(x.roles.map bJ).length=x.roles.length:=List.length_map ..
  clear m hLe hRe C B v w A
  generalize cB x=T at *
  have hb63:(x.roles.map bJ).length<=9223372036854775807:=by rw [n];omega
  have hb48:(x.roles.map bJ).length * 16<=140737488355328:=by rw [n];omega
  refine qZ ?_;intros
  refine aC (λj=> ?_) (λj=> ?_)
  ·((conv=>whnf);repeat ((first|refine qT (o j) ?_ |(intro k;try simp only [lnS]at k)|refine sI ?_|refine qE_ ?_);conv=>whnf))
   refine aC (λp=> ?_) (λp=> ?_)
   ·rw [if_pos p]
    (repeat' first|(refine qW ?_;intros)|((conv=>whnf);first|refine dwR ?_|((first|refine aA ?_ ?_|refine aC ?_ ?_)<;>intro hb<;>(first|exact ddX hb|try simp only [lnS]at hb))|(refine aB ?_ ?_<;>intro hb<;>try exact dsX hb)))
    exact aGk _
   ·have p:e=0:=by simpa using p
    rw [if_neg (by omega)]
    refine qX ?_;intros
    refine aC (λb=> ?_) (λb=> ?_)
    ·((conv=>whnf);repeat ((first|refine qT (l b) ?_ |(intro k;try simp only [lnS]at k)|refine sI ?_|refine qE_ ?_);conv=>whnf))
     refine aC (λc=> ?_) (λc=> ?_)
     ·rw [if_pos c]
      (repeat' first|(refine qW ?_;intros)|((conv=>whnf);first|refine dwR ?_|((first|refine aA ?_ ?_|refine aC ?_ ?_)<;>intro hb<;>(first|exact ddX hb|try simp only [lnS]at hb))|(refine aB ?_ ?_<;>intro hb<;>try exact dsX hb)))
      exact aGk _
     ·have c:f=0:=by simpa using c
      rw [if_neg (by omega)]
      (repeat' first|(refine qW ?_;intros)|((conv=>whnf);first|refine dwR ?_|((first|refine aA ?_ ?_|refine aC ?_ ?_)<;>intro hb<;>(first|exact ddX hb|try simp only [lnS]at hb))|(refine aB ?_ ?_<;>intro hb<;>try exact dsX hb)))
      all_goals first
       |(rw [if_pos ⟨by omega,by assumption⟩];exact aJv { x with left:=R,right:=L } 0)
       |(rw [if_neg (by omega)];exact aJv { x with left:=L,right:=R } 0)
    ·have b:x.right.kind=0:=by simpa using b
     have e2:=t b
     injection e2 with e3 e4
     subst e3
     subst e4
     have s:¬ x.kind=2:= λh=>(g (.inl h)).2 b
     have q:¬ x.kind=3:= λh=>(g (.inr h)).2 b
     rw [if_neg (by omega),if_neg (by omega)]
     (repeat' first|(refine qW ?_;intros)|((conv=>whnf);first|refine dwR ?_|((first|refine aA ?_ ?_|refine aC ?_ ?_)<;>intro hb<;>(first|exact ddX hb|try simp only [lnS]at hb))|(refine aB ?_ ?_<;>intro hb<;>try exact dsX hb)))
     exact wkA { x with left:=L,right:=c0 } _ _ (vY _) rfl
  ·have j:x.left.kind=0:=by simpa using j
   have e2:=y j
   injection e2 with e3 e4
   subst e3
   subst e4
   have s:¬ x.kind=2:= λh=>(g (.inl h)).1 j
   have q:¬ x.kind=3:= λh=>(g (.inr h)).1 j
   rw [if_neg (by omega)]
   refine qX ?_;intros
   refine aC (λb=> ?_) (λb=> ?_)
   ·((conv=>whnf);repeat ((first|refine qT (l b) ?_ |(intro k;try simp only [lnS]at k)|refine sI ?_|refine qE_ ?_);conv=>whnf))
    refine aC (λc=> ?_) (λc=> ?_)
    ·rw [if_pos c]
     (repeat' first|(refine qW ?_;intros)|((conv=>whnf);first|refine dwR ?_|((first|refine aA ?_ ?_|refine aC ?_ ?_)<;>intro hb<;>(first|exact ddX hb|try simp only [lnS]at hb))|(refine aB ?_ ?_<;>intro hb<;>try exact dsX hb)))
     exact aGk _
    ·have c:f=0:=by simpa using c
     rw [if_neg (by omega),if_neg (by omega)]
     (repeat' first|(refine qW ?_;intros)|((conv=>whnf);first|refine dwR ?_|((first|refine aA ?_ ?_|refine aC ?_ ?_)<;>intro hb<;>(first|exact ddX hb|try simp only [lnS]at hb))|(refine aB ?_ ?_<;>intro hb<;>try exact dsX hb)))
     exact wkA { x with left:=c0,right:=R } _ _ rfl (vY _)
   ·have b:x.right.kind=0:=by simpa using b
    have e2:=t b
    injection e2 with e3 e4
    subst e3
    subst e4
    rw [if_neg (by omega),if_neg (by omega)]
    (repeat' first|(refine qW ?_;intros)|((conv=>whnf);first|refine dwR ?_|((first|refine aA ?_ ?_|refine aC ?_ ?_)<;>intro hb<;>(first|exact ddX hb|try simp only [lnS]at hb))|(refine aB ?_ ?_<;>intro hb<;>try exact dsX hb)))
    exact wkA { x with left:=c0,right:=c0 } _ _ rfl rfl
theorem aK6 (x y:Ax) (hx:SmA x) (hy:SmA y):Tri Tryz.prog 31 [.d (.agg (axR x)), .d (.agg (axR y))] [] (λr=>r= .d (.bool (eqA x y))):=by
 have c:=gR x y hx.1 hx.2.1 hx.2.2 hy.1 hy.2.1 hy.2.2
 have a:eqA x y=(decide (x.isopen=y.isopen) && decide (fW x y=0)):=rfl
 rw [a]
 generalize fW x y=v at *
 clear a
 obtain⟨k,o,a1,a2,a3,a4,a5,a6⟩:=x
 obtain⟨k',o',b1,b2,b3,b4,b5,b6⟩:=y
 cases o<;>cases o'
 all_goals
  refine qG [2,3] hty Tryz.func31 [0,1,2,3,4] ?_
  (repeat' first|(refine qW ?_;intros)|((conv=>whnf);first|refine dwR ?_|((first|refine aA ?_ ?_|refine aC ?_ ?_)<;>intro hb<;>(first|exact ddX hb|try simp only [lnS]at hb))|(refine aB ?_ ?_<;>intro hb<;>try exact dsX hb)))
 all_goals rfl
theorem aK7 (x:Ax):Tri Tryz.prog 63 [.d (.agg (axR x))] [] (λr=>r= .d (.bool (aC1 x))):=by
 unfold aC1
 refine qG [1] hty Tryz.func63 [0,1,2] ?_
 (repeat' first|(refine qW ?_;intros)|((conv=>whnf);first|refine dwR ?_|((first|refine aA ?_ ?_|refine aC ?_ ?_)<;>intro hb<;>(first|exact ddX hb|try simp only [lnS]at hb))|(refine aB ?_ ?_<;>intro hb<;>try exact dsX hb)))
 all_goals (refine bG ?_;simp [*])
theorem aO4 {l:List Str}{s:Str}{j:Nat}(h:j < l.length) (h1:s∉l.take j) (h2:¬ l[j]=s):s∉l.take (j+1):=by
 rw [List.take_succ_eq_append_getElem h]
 intro a
 rcases List.mem_append.1 a with a|a
 ·exact h1 a
 ·simp only [List.mem_singleton]at a;exact h2 a.symm
theorem aDb (l:List Str) (s:Str):Tri Tryz.prog 171 [.d (.sl 1 (l.map bJ)), .d (.str s)] [] (λr=>r= .d (.bool (decide (s∈l)))):=by
 refine Tri.len 0 rfl λe=> ?_
 rw [List.length_map]at e
 refine qG [] hty Tryz.func171 [0,1,4,5,9,17] ?_
 refine qX ?_;intros
 refine aD hty (λj:Nat=>([(0, .d (.sl 1 (l.map bJ))),(1, .d (.str s)),(5, .d (.int .i64 j))],[])) (λj=>j<=l.length/\s∉l.take j) (λj=>l.length - j) 0 ⟨by omega,by simp⟩ ⟨qB,qB⟩ ?_
 rintro j ⟨hj,h⟩
 refine qX ?_;intros
 refine aA (λc=> ?_) (λc=> ?_)
 ·have a:j < l.length:=by have c:(j:Int) < ((l.map bJ).length:Nat):=c;rw [List.length_map]at c;omega
  have hrow:=eI a
  have b:l[j]∈l:=List.getElem_mem a
  have g:=aO4 a h
  generalize l[j]=x at *
  refine qZ ?_;intros
  refine aA (λf=> ?_) (λf=> ?_)
  ·rw [f]at b
   rw [decide_eq_true b]
   (repeat' first|(refine qW ?_;intros)|((conv=>whnf);first|refine dwR ?_|((first|refine aA ?_ ?_|refine aC ?_ ?_)<;>intro hb<;>(first|exact ddX hb|try simp only [lnS]at hb))|(refine aB ?_ ?_<;>intro hb<;>try exact dsX hb)))
   rfl
  ·(repeat' first|(refine qW ?_;intros)|((conv=>whnf);first|refine dwR ?_|((first|refine aA ?_ ?_|refine aC ?_ ?_)<;>intro hb<;>(first|exact ddX hb|try simp only [lnS]at hb))|(refine aB ?_ ?_<;>intro hb<;>try exact dsX hb)))
   exact⟨j+1,⟨by omega,g f⟩,qO,⟨qB,qB⟩⟩
 ·have a:j=l.length:=by have c:¬ (j:Int) < ((l.map bJ).length:Nat):=c;rw [List.length_map]at c;omega
  subst a
  rw [List.take_length]at h
  rw [decide_eq_false h]
  (repeat' first|(refine qW ?_;intros)|((conv=>whnf);first|refine dwR ?_|((first|refine aA ?_ ?_|refine aC ?_ ?_)<;>intro hb<;>(first|exact ddX hb|try simp only [lnS]at hb))|(refine aB ?_ ?_<;>intro hb<;>try exact dsX hb)))
  rfl
structure With6 (l:List Str) (s:Str) (r:SV):Prop where
 ex: ∃m:List Str,r= .d (.sl 1 (m.map bJ))/\(∀y,y∈m↔y∈l\/y=s)/\m.length<=l.length+1
theorem aGm {l:List Str}{s:Str}{j:Nat}(hj:j<=l.length): ∃m:List Str,(SV.d (.sl 1 ((l.map bJ).take j++[bJ s]++(l.map bJ).drop j)):SV)= .d (.sl 1 (m.map bJ))/\(∀y,y∈m↔y∈l\/y=s)/\m.length<=l.length+1:=by
 refine⟨l.take j++[s]++l.drop j, ?_,λy=> ?_, ?_⟩
 ·simp [List.map_append,List.map_take,List.map_drop]
 ·conv=>rhs;rw [<-List.take_append_drop j l]
  simp only [List.mem_append,List.mem_singleton]
  constructor
  ·rintro((h|h)|h)
   ·exact .inl (.inl h)
   ·exact .inr h
   ·exact .inl (.inr h)
  ·rintro((h|h)|h)
   ·exact .inl (.inl h)
   ·exact .inr h
   ·exact .inl (.inr h)
 ·simp only [List.length_append,List.length_take,List.length_drop,List.length_singleton];omega
theorem aA4 (l:List Str) (s:Str) (hl:l.length<=1000000):Tri Tryz.prog 170 [.d (.sl 1 (l.map bJ)), .d (.str s)] [] (With6 l s):=by
 have hh:=aDb l s
 have a:(l.map bJ).take l.length=l.map bJ:=List.take_of_length_le (by simp)
 have i:(l.map bJ).length=l.length:=List.length_map ..
 refine qG [] hty Tryz.func170 [0,1,4,5,6,9,22] ?_
 refine qZ ?_;intros
 refine aA (λk=> ?_) (λk=> ?_)
 ·(repeat' first|(refine qW ?_;intros)|((conv=>whnf);first|refine dwR ?_|((first|refine aA ?_ ?_|refine aC ?_ ?_)<;>intro hb<;>(first|exact ddX hb|try simp only [lnS]at hb))|(refine aB ?_ ?_<;>intro hb<;>try exact dsX hb)))
  exact⟨l,rfl,λy=>⟨.inl,λh=>by rcases h with h|h;exact h;rw [h];exact k⟩,by omega⟩
 ·refine qX ?_;intros
  refine aD hty (λj:Nat=>([(0, .d (.sl 1 (l.map bJ))),(1, .d (.str s)),(5, .d (.int .i64 j))],[])) (λj=>j<=l.length) (λj=>l.length - j) 0 (by omega) ⟨qB,qB⟩ ?_
  rintro j n
  refine qX ?_;intros
  refine aA (λb=> ?_) (λb=> ?_)
  ·have c:j < l.length:=by have b:(j:Int) < ((l.map bJ).length:Nat):=b;rw [i]at b;omega
   have hrow:=eI c
   generalize l[j]=x at *
   refine qZ ?_;intros
   cases hb:Op.bytesLess x s
   ·obtain⟨m,e,g,f⟩:=aGm (s:=s) n
    (repeat' first|(refine qW ?_;intros)|((conv=>whnf);first|refine dwR ?_|((first|refine aA ?_ ?_|refine aC ?_ ?_)<;>intro hb<;>(first|exact ddX hb|try simp only [lnS]at hb))|(refine aB ?_ ?_<;>intro hb<;>try exact dsX hb)))
    refine⟨m, ?_,g,f⟩
    rw [<-e]
    refine congrArg (λq=>SV.d (.sl 1 q)) ?_
    simp [a,bJ]
   ·(repeat' first|(refine qW ?_;intros)|((conv=>whnf);first|refine dwR ?_|((first|refine aA ?_ ?_|refine aC ?_ ?_)<;>intro hb<;>(first|exact ddX hb|try simp only [lnS]at hb))|(refine aB ?_ ?_<;>intro hb<;>try exact dsX hb)))
    exact⟨j+1,by omega,qO,⟨qB,qB⟩⟩
  ·obtain⟨m,e,g,f⟩:=aGm (s:=s) n
   (repeat' first|(refine qW ?_;intros)|((conv=>whnf);first|refine dwR ?_|((first|refine aA ?_ ?_|refine aC ?_ ?_)<;>intro hb<;>(first|exact ddX hb|try simp only [lnS]at hb))|(refine aB ?_ ?_<;>intro hb<;>try exact dsX hb)))
   refine⟨m, ?_,g,f⟩
   rw [<-e]
   refine congrArg (λq=>SV.d (.sl 1 q)) ?_
   simp [a,bJ]
structure AllW (l:List Ax) (r:SV):Prop where
 ex: ∃(d:D) (m:List Str),r= .d d/\WkD d (.sl 1 (m.map bJ))/\(∀k∈dW l,k.1∈m)/\m.length<=5 * l.length
structure All6 (l:List Ax) (r:SV):Prop where
 ex: ∃m:List Str,r= .d (.sl 1 (m.map bJ))/\(∀k∈dW l,k.1∈m)/\m.length<=5 * l.length
theorem aO7 {x:Ax}(hx:aZ x=0) {k:Stp}(a:k∈fQ x):k.1∈x.roles:=by
 unfold fQ at a
 split at a
 ·rename_i c
  split at a
  ·simp at a
  ·simp only [List.mem_singleton]at a
   rw [a]
   have hl:0 < x.roles.length:=by
    obtain⟨_,b,_⟩:=(fO x).1 hx
    rw [c]at b
    unfold bH at b
    simp only [Bool.and_eq_true,decide_eq_true_eq]at b
    have:(cC 5).least=1:=rfl
    omega
   show aUu x 0∈x.roles
   rw [oK hl]
   exact List.getElem_mem hl
 ·split at a
  ·obtain⟨i,hi,a⟩:=List.mem_flatMap.1 a
   split at a
   ·simp at a
   ·simp only [List.mem_singleton]at a
    rw [a]
    show aUu x i∈x.roles
    rw [oK (List.mem_range.1 hi)]
    exact List.getElem_mem _
  ·simp at a
theorem aZr (l:List Ax) (hv: ∀x∈l,aZ x=0) (hn:l.length<=10000):Tri Tryz.prog 118 [.d (.sl 16 (l.map axR))] [] (AllW l):=by
 have u:(l.map axR).length=l.length:=List.length_map ..
 refine qG [] hty Tryz.func118 [0,2,3,4,5,9,33,48] ?_
 refine qX ?_;intros
 refine aD hty (λy:Nat×D=>([(0, .d (.sl 16 (l.map axR))),(3, .d y.2),(4, .d (.int .i64 y.1))],[])) (λy=>y.1<=l.length/\ ∃m:List Str,WkD y.2 (.sl 1 (m.map bJ))/\(∀k∈dW (l.take y.1),k.1∈m)/\m.length<=5 * y.1) (λy=>l.length - y.1) (0, .nil) ⟨qO,[],rfl,by simp [dW],by simp⟩ ⟨qB,qB⟩ ?_
 rintro⟨j,d⟩ ⟨J,m,z,q,o⟩
 dsimp only at J z q o
 refine qX ?_;intros
 refine aA (λg=> ?_) (λg=> ?_)
 ·have c:j < l.length:=by have g:(j:Int) < ((l.map axR).length:Nat):=g;rw [u]at g;omega
  have f:=gW c
  have hx:=hv _ (List.getElem_mem c)
  have w:=sZ c
  have hr4:=(fP hx).2.2
  have C:= λk G=>aO7 (k:=k) hx G
  generalize l[j]=x at *
  have p:=aA4 m x.role (by omega)
  have B:Tri Tryz.prog 170 [.d d, .d (.str x.role)] [] (With6 m x.role):=Tri.weakD p ⟨z,rfl,trivial⟩
  (repeat' first|(refine qW ?_;intros)|((conv=>whnf);first|(refine⟨_,f, ?_⟩)|(refine aL [] B trivial (λr n=> ?_);obtain⟨I,rfl,b,v⟩:=n.ex)|refine dwR ?_|((first|refine aA ?_ ?_|refine aC ?_ ?_)<;>intro hb<;>(first|exact ddX hb|try simp only [lnS]at hb))|(refine aB ?_ ?_<;>intro hb<;>try exact dsX hb)))
  any_goals
   (refine aD hty (λy : Nat × List Str => ([(0, .d (.sl 16 (l.map axR))), (3, .d (.sl 1 (y.2.map bJ))), (4, .d (.int .i64 j)), (5, .d (.int .i64 y.1))], [])) (λy => y.1 <= x.roles.length /\ (∀ s ∈ m, s ∈ y.2) /\ (∀ s ∈ x.roles.take y.1, s ∈ y.2) /\ y.2.length <= 5 * j + 1 + y.1) (λy => x.roles.length - y.1) (0, I) ⟨qO, λs n => (b s).2 (.inl n), by simp, qO⟩ ⟨qB, qB⟩ ?_
    clear B p n b v z
    rintro⟨k,M⟩ ⟨G,E,A,H⟩
    dsimp only at G E A H
    refine qZ ?_;intros
    refine aA (λh=> ?_) (λh=> ?_)
    · have e:k < x.roles.length:=by have h:(k:Int) < ((x.roles.map bJ).length:Nat):=h;rw [List.length_map]at h;omega
      have i:=eI e
      have B:=aA4 M x.roles[k] (by omega)
      have F:=List.take_succ_eq_append_getElem e
      generalize x.roles[k]=s at *
      ((conv=>whnf);repeat ((first|(refine⟨_,f, ?_⟩)|(refine⟨_,i, ?_⟩)|(refine aL [] B trivial (λr n=> ?_);obtain⟨M2,rfl,b,v⟩:=n.ex) |(intro K;try simp only [lnS]at K)|refine sI ?_|refine qE_ ?_);conv=>whnf))
      refine⟨(k+1,M2),⟨qO,λt a=>(b t).2 (.inl (E t a)),λt a=> ?_,qO⟩,qO,⟨qB,qB⟩⟩
      dsimp only at a
      rw [F]at a
      rcases List.mem_append.1 a with a|a
      · exact(b t).2 (.inl (A t a))
      · simp only [List.mem_singleton]at a
        exact(b t).2 (.inr a)
    · have e:k=x.roles.length:=by have h:¬ (k:Int) < ((x.roles.map bJ).length:Nat):=h;rw [List.length_map]at h;omega
      subst e
      rw [List.take_length]at A
      (repeat' first|(refine qW ?_;intros)|((conv=>whnf);first|refine dwR ?_|((first|refine aA ?_ ?_|refine aC ?_ ?_)<;>intro hb<;>(first|exact ddX hb|try simp only [lnS]at hb))|(refine aB ?_ ?_<;>intro hb<;>try exact dsX hb)))
      refine⟨(j+1, .sl 1 (M.map bJ)),⟨qO,M,vY _,λt a=> ?_,qO⟩,qO,⟨qB,qB⟩⟩
      dsimp only at a
      rw [w]at a
      rcases List.mem_append.1 a with a|a
      · exact E _ (q t a)
      · exact A _ (C t a))
  refine⟨(j+1,d),⟨qO,m,z,λt a=> ?_,qO⟩,qO,⟨by repeat' (first|exact trivial|exact rfl|exact aBs _|refine And.intro ?_ ?_),qB⟩⟩
  dsimp only at a
  rw [w]at a
  rcases List.mem_append.1 a with a|a
  ·exact q t a
  ·unfold fQ at a
   rw [if_neg (by assumption),if_neg (by assumption)]at a
   simp at a
 ·have c:j=l.length:=by have g:¬ (j:Int) < ((l.map axR).length:Nat):=g;rw [u]at g;omega
  subst c
  rw [List.take_length]at q
  (repeat' first|(refine qW ?_;intros)|((conv=>whnf);first|refine dwR ?_|((first|refine aA ?_ ?_|refine aC ?_ ?_)<;>intro hb<;>(first|exact ddX hb|try simp only [lnS]at hb))|(refine aB ?_ ?_<;>intro hb<;>try exact dsX hb)))
  exact⟨d,m,rfl,z,q,o⟩
theorem aOs (l:List Ax) (hv: ∀x∈l,aZ x=0) (hn:l.length<=10000):Tri Tryz.prog 118 [.d (.sl 16 (l.map axR))] [] (All6 l):=
 Tri.res (aZr l hv hn) λs b=>by
  obtain⟨d,m,rfl,c,a,e⟩:=b.ex
  exact .inr ⟨d,_,rfl,c,m,rfl,a,e⟩
end
end Go.Proofs.YtbobcfjlbcgchaaGreatDoor
