/-
  Objects: Axioms, Commit and Alignment, as the program writes them.
  Conditions: none.
-/
import Derived.Test.YtbobcfjlbcgchaaGreatDoorWBp
import Derived.Test.YtbobcfjlbcgchaaGreatDoorWOf
import Derived.Test.YtbobcfjlbcgchaaGreatDoorWYd
set_option linter.unnecessarySimpa false
set_option linter.unusedSectionVars false
set_option linter.unusedSimpArgs false
set_option linter.unusedVariables false
set_option maxHeartbeats 32000000
namespace Go.Proofs.YtbobcfjlbcgchaaGreatDoor
section
attribute [local irreducible] aK aF Tri aH YVC cG aT
open Go.RowKit
set_option maxRecDepth 10000
theorem nQ (l:List Ax):Tri Tryz.prog 20 [.d (.sl 16 (l.map axR))] NG (λr=>r= .d (.int .i64 (cR l))):=by
 refine Tri.len 0 rfl λf=> ?_
 have e:(l.map axR).length=l.length:=List.length_map ..
 rw [e]at f
 refine qG [4] hty Tryz.func20 [0,2,4,5,6,7,8,14] ?_
 refine qX ?_;intros
 rw [e]
 refine aD hty (λj:Nat=>([(0, .d (.sl 16 (l.map axR))),(2, .d (.int .i64 0)),(5, .d (.sl 16 (l.map axR))),(6, .d (.int .i64 l.length)),(7, .d (.int .i64 j))],NG)) (λj=>j<=l.length/\ ∀x∈l.take j,aZ x=0) (λj=>l.length - j) 0 ⟨by omega,by simp⟩ ⟨qB,⟨rfl,rfl,trivial⟩⟩ ?_
 rintro j ⟨hj,hz⟩
 refine qX ?_;intros
 refine aA (λm=> ?_) (λm=> ?_)
 ·have a:j < l.length:=by omega
  have c:(l.map axR)[((j:Nat):Int).toNat]? =some (axR l[j]):=bA a
  have k:=kO l[j]
  have g:=mL a hz
  have h:aZ l[j]=0-> ∀x∈l.take (j+1),aZ x=0:=by
   intro i x hx
   rw [List.take_succ_eq_append_getElem a]at hx
   rcases List.mem_append.1 hx with hx|hx
   ·exact hz x hx
   ·simp at hx;subst hx;exact i
  generalize l[j]=x at *
  ((conv=>whnf);repeat ((first|(refine⟨_,c, ?_⟩)|(refine aL NG k ⟨rfl,rfl,trivial⟩ (λr n=> ?_);subst n) |(intro o;try simp only [lnS]at o)|refine sI ?_|refine qE_ ?_);conv=>whnf))
  refine aC (λb=> ?_) (λb=> ?_)
  ·rw [g b]
   refine qX ?_;intros
   rfl
  ·have b:aZ x=0:=by simpa using b
   rw [b]
   refine qX ?_;intros
   exact⟨j+1,⟨by omega,h b⟩,qO,⟨qB,⟨rfl,rfl,trivial⟩⟩⟩
 ·have a:j=l.length:=by omega
  subst a
  rw [List.take_length]at hz
  rw [(fM l).2 hz]
  refine qX ?_;intros
  rfl
theorem pairN (b c:SV):fR (.tup [.d .nil,c]) (.tup [.d (.sl 1 ([].map aN)),c]):=fR.pair fR.nil
theorem gG (l:List Ax):Tri Tryz.prog 7 [.d (.sl 16 (l.map axR))] NG (λr=>r= .tup [.d (.sl 1 ((kT l).1.map aN)), .d (.int .i64 (kT l).2)]):=by
 refine Tri.says ?_
 have c:(l.map axR).length=l.length:=List.length_map ..
 have h:=nQ l
 refine qG [] hty Tryz.func7 [0,2,3,4,8,12] ?_
 ((conv=>whnf);repeat ((first|(refine aL NG h ⟨rfl,rfl,trivial⟩ (λr e=> ?_);subst e) |(intro g;try simp only [lnS]at g)|refine sI ?_|refine qE_ ?_);conv=>whnf))
 refine aC (λa=> ?_) (λa=> ?_)
 ·have b:kT l=([],cR l):=by
   have:aJh l=cR l:=by unfold aJh;rw [if_pos a]
   unfold kT;rw [this,if_neg a]
  rw [b]
  refine qX ?_;intros
  exact⟨_,pairN (.d .nil) _,rfl⟩
 have a:cR l=0:=by simpa using a
 rw [a]
 refine qX ?_;intros
 rw [c]
 refine aA (λf=> ?_) (λf=> ?_)
 ·have b:kT l=([],2):=by
   have:aJh l=2:=by unfold aJh;rw [if_neg (by rw [a];simp),if_pos (by omega)]
   unfold kT;rw [this,if_neg (by decide)]
  rw [b]
  refine qX ?_;intros
  exact⟨_,pairN (.d .nil) _,rfl⟩
 have b:kT l=(wAs l,0):=by
  have:aJh l=0:=by unfold aJh;rw [if_neg (by rw [a];simp),if_neg (by omega)]
  unfold kT;rw [if_pos this]
 have hb:=tW ((fM l).1 a)
 rw [b]
 refine qX ?_;intros
 refine aF.ownH 4 104 67 5 1 rfl (bQ (by with_unfolding_all exact rfl)) (mF (by with_unfolding_all exact rfl)) ?_
 refine WrT.call (aGn l) rfl [] (by have:l.length * 7000<=1024 * 7000:=Nat.mul_le_mul_right _ (by omega);simp only [List.length_nil];omega) (by decide) rfl rfl ?_
 rw [List.nil_append]
 refine qX ?_;intros
 exact⟨_, .refl _,rfl⟩
theorem bCw {c:Cm}(h:c.no < 1\/1024 < c.no\/2 < c.parents.length):aQ9 c=([],1):=by
 have e:cmE c=1:=by unfold cmE;rw [if_pos h]
 unfold aQ9;rw [e,if_neg (by decide)]
theorem bCu {c:Cm}(h:¬ (c.no < 1\/1024 < c.no\/2 < c.parents.length)) (hp:¬ aHk c.no c.parents=true):aQ9 c=([],1):=by
 have e:cmE c=1:=by unfold cmE;rw [if_neg h,if_neg hp]
 unfold aQ9;rw [e,if_neg (by decide)]
theorem bCv {c:Cm}(h:¬ (c.no < 1\/1024 < c.no\/2 < c.parents.length)) (hp:aHk c.no c.parents=true) (hm:65536 < c.message.length):aQ9 c=([],2):=by
 have e:cmE c=2:=by unfold cmE;rw [if_neg h,if_pos hp,if_pos hm]
 unfold aQ9;rw [e,if_neg (by decide)]
theorem bEx {c:Cm}(h:¬ (c.no < 1\/1024 < c.no\/2 < c.parents.length)) (hp:aHk c.no c.parents=true) (hm:¬ 65536 < c.message.length):aQ9 c=(wCm c,0):=by
 have e:cmE c=0:=by unfold cmE;rw [if_neg h,if_pos hp,if_neg hm]
 unfold aQ9;rw [if_pos e]
theorem bEe (l:List Int) (h:l.length<=2):l=[]\/(∃a,l=[a])\/ ∃a b,l=[a,b]:=by
 match l,h with
 | [],_=>exact .inl rfl
 | [a],_=>exact .inr (.inl ⟨a,rfl⟩)
 | [a,b],_=>exact .inr (.inr ⟨a,b,rfl⟩)
 |_::_::_::_,h=>simp at h
theorem aZ5 (c:Cm) (h:c.parents.length<=2):(wCm c).length<=100+c.message.length:=by
 have h1:((c.parents.map gJ).flatten).length<=c.parents.length * 8:=rW λz _=>by rw [cY];exact Nat.le_refl _
 have a:(wJ c.base).length=32:=c.base.2
 unfold wCm cU bZ
 simp only [List.length_append,cY,aW,a]
 omega
theorem aHq (c:Cm):Tri Tryz.prog 17 [.d (.agg (cmR c))] [] (λr=>r= .tup [.d (.sl 1 ((aQ9 c).1.map aN)), .d (.int .i64 (aQ9 c).2)]):=by
 refine Tri.says ?_
 have p:=aQl c
 have i:=aZ5 c
 have h:=bCw (c:=c)
 have g:=bCu (c:=c)
 have e:=bCv (c:=c)
 have f:=bEx (c:=c)
 obtain⟨no,l,q,m⟩:=c
 dsimp only at i h g e f
 generalize wCm ⟨no,l,q,m⟩=out at *
 generalize aQ9 ⟨no,l,q,m⟩=res at *
 obtain⟨xl,hx⟩:=q
 obtain⟨y0,y1,y2,y3,y4,y5,y6,y7,y8,y9,y10,y11,y12,y13,y14,y15,y16,y17,y18,y19,y20,y21,y22,y23,y24,y25,y26,y27,y28,y29,y30,y31,rfl⟩:=aFv hx
 have hlr:(l.map bB8).length=l.length:=List.length_map ..
 by_cases o:no < 1\/1024 < no\/2 < l.length
 ·rw [h o]
  clear h g e f i
  refine qG [] hty Tryz.func17 [0,1,2,3,4,5,6,20,22,23,24,25,48,53] ?_
  (repeat' first|(refine qW ?_;intros)|((conv=>whnf);first|refine dwR ?_|((first|refine aA ?_ ?_|refine aC ?_ ?_)<;>intro hb<;>(first|exact ddX hb|try simp only [lnS]at hb))|(refine aB ?_ ?_<;>intro hb<;>try exact dsX hb)))
  all_goals exact⟨_,pairN (.d .nil) _,rfl⟩
 clear h
 replace g:=g o
 replace e:=e o
 replace f:=f o
 have j:l.length<=2:=by omega
 replace i:=i j
 by_cases hp:aHk no l=true
 ·clear g
  replace e:=e hp
  replace f:=f hp
  by_cases s:65536 < m.length
  ·rw [e s]
   clear e f i
   rcases bEe l j with rfl|⟨a,rfl⟩|⟨a,b,rfl⟩
   all_goals simp only [aHk,List.all_cons,List.all_nil,Bool.and_eq_true,decide_eq_true_eq,Bool.and_true,Bool.not_eq_true',decide_eq_false_iff_not]at hp
   all_goals (refine qG [] hty Tryz.func17 [0,1,2,3,4,5,6,20,22,23,24,25,48,53] ?_)
   all_goals (((conv=>whnf);repeat' ((first|(intro n;(try simp only [lnS]at n);(try rewrite [List.length_map]))|refine sJ ?_|refine qE_ ?_|refine exL (k:=?_)| (refine aCp hty 3 ?_)|refine dwR ?_|((first|refine aA ?_ ?_|refine aC ?_ ?_)<;>intro hb<;>(first|exact ddX hb|try simp only [lnS]at hb))|(refine aB ?_ ?_<;>intro hb<;>try exact dsX hb))<;>(conv=>whnf))))
   all_goals exact⟨_,pairN (.d .nil) _,rfl⟩
  ·rw [f s]
   clear e f
   have hfin:out.length<=100000000000000:=by omega
   rcases bEe l j with rfl|⟨a,rfl⟩|⟨a,b,rfl⟩
   all_goals simp only [aHk,List.all_cons,List.all_nil,Bool.and_eq_true,decide_eq_true_eq,Bool.and_true,Bool.not_eq_true',decide_eq_false_iff_not]at hp
   all_goals (refine qG [] hty Tryz.func17 [0,1,2,3,4,5,6,20,22,23,24,25,48,53] ?_)
   all_goals (((conv=>whnf);repeat' ((first|(intro n;(try simp only [lnS]at n);(try rewrite [List.length_map]))|refine sJ ?_|refine qE_ ?_|refine exL (k:=?_)| (refine aCp hty 3 ?_)|refine dwR ?_|((first|refine aA ?_ ?_|refine aC ?_ ?_)<;>intro hb<;>(first|exact ddX hb|try simp only [lnS]at hb))|(refine aB ?_ ?_<;>intro hb<;>try exact dsX hb))<;>(conv=>whnf))))
   all_goals refine aF.ownH 6 104 67 5 1 rfl (bQ (by with_unfolding_all exact rfl)) (mF (by with_unfolding_all exact rfl)) ?_
   all_goals refine WrT.call p rfl [] (by rw [List.length_nil];omega) (by decide) rfl rfl ?_
   all_goals rw [List.nil_append]
   all_goals ((conv=>whnf);repeat ((first |(intro n;try simp only [lnS]at n)|refine sI ?_|refine qE_ ?_);conv=>whnf))
   all_goals exact⟨_, .refl _,rfl⟩
 ·rw [g hp]
  clear g e f i
  rcases bEe l j with rfl|⟨a,rfl⟩|⟨a,b,rfl⟩
  ·exact absurd rfl hp
  all_goals simp only [aHk,List.all_cons,List.all_nil,Bool.and_eq_true,decide_eq_true_eq,Bool.and_true,Bool.not_eq_true',decide_eq_false_iff_not]at hp
  all_goals (refine qG [] hty Tryz.func17 [0,1,2,3,4,5,6,20,22,23,24,25,48,53] ?_)
  all_goals (((conv=>whnf);repeat' ((first|(intro n;(try simp only [lnS]at n);(try rewrite [List.length_map]))|refine sJ ?_|refine qE_ ?_|refine exL (k:=?_)| (refine aCp hty 3 ?_)|refine dwR ?_|((first|refine aA ?_ ?_|refine aC ?_ ?_)<;>intro hb<;>(first|exact ddX hb|try simp only [lnS]at hb))|(refine aB ?_ ?_<;>intro hb<;>try exact dsX hb))<;>(conv=>whnf))))
  all_goals exact⟨_,pairN (.d .nil) _,rfl⟩
end
end Go.Proofs.YtbobcfjlbcgchaaGreatDoor
