/-
  Merging in place, plainly: what a symmetric merge does to a list, and when its two halves may be merged alone. Rename: renamings, plainly: what is valid, what a name becomes, what two renamings are together, what undoes one. Bases: the reference's Same at one list of axioms; few and same of the law of renamings. Objects: SameQuery and SameAlignment of the reference at equal arguments; the law's closure that changes bytes. ObjectsAlignmentSpec, walked.
  Conditions: none.
-/
import Derived.WalkKit
import Derived.Test.YtleihcnongldbaaGreatDoorWSne
import Derived.Test.YtleihcnongldbaaGreatDoorWDb
import Derived.Test.YtleihcnongldbaaGreatDoorWBu
import Derived.Test.YtleihcnongldbaaGreatDoorWBq
import Derived.Test.YtleihcnongldbaaGreatDoorWG4
import Derived.Test.YtleihcnongldbaaGreatDoorWVe
set_option linter.unnecessarySimpa false
set_option linter.unusedSectionVars false
set_option linter.unusedSimpArgs false
set_option linter.unusedVariables false
set_option maxHeartbeats 32000000
namespace Go.Proofs.YtleihcnongldbaaGreatDoor
section
variable {α:Type}
structure OrdC (cf:α->α->Int):Prop where
 asym: ∀x y,cf x y < 0->¬ cf y x < 0
 tr: ∀x y z,¬ cf y x < 0->¬ cf z y < 0->¬ cf z x < 0
def Srt (cf:α->α->Int) (l:List α):Prop:=l.Pairwise λx y=>¬ cf y x < 0
theorem OrdC.refl {cf:α->α->Int}(h:OrdC cf) (x:α):¬ cf x x < 0:= λq=>h.asym x x q q
def Blk (cf:α->α->Int) (bs:Nat) (l:List α):Prop:= ∀k,Srt cf ((l.drop (k * bs)).take bs)
theorem Blk.first {cf:α->α->Int}{bs:Nat}{l:List α}(h:Blk cf bs l):Srt cf (l.take bs):=by
 have:=h 0
 rwa [Nat.zero_mul,List.drop_zero]at this
theorem Blk.rest {cf:α->α->Int}{bs:Nat}{l:List α}(h:Blk cf bs l):Blk cf bs (l.drop bs):=by
 intro k
 have:=h (k+1)
 rw [Nat.add_mul,Nat.one_mul,Nat.add_comm]at this
 rwa [List.drop_drop]
theorem Blk.nil {cf:α->α->Int}{bs:Nat}:Blk cf bs []:= λk=>by
 simp [Srt]
theorem Blk.all {cf:α->α->Int}{bs:Nat}{l:List α}(h:Blk cf bs l) (hl:l.length<=bs):Srt cf l:=by
 have:=h.first
 rwa [List.take_of_length_le hl]at this
end
end Go.Proofs.YtleihcnongldbaaGreatDoor
namespace Go.Proofs.YtleihcnongldbaaGreatDoor
open Go.Proofs
structure Rn where
 kind:Int
 old:List UInt8
 new:List UInt8
theorem Rn.ext' {a b:Rn}(h1:a.kind=b.kind) (h2:a.old=b.old) (h3:a.new=b.new):a=b:=by
 cases a;cases b;simp_all
def rnN (s:List UInt8):Bool:=dM s && !decide (s.head?=some 95)
def rnV (r:Rn):Bool:=decide (1<=r.kind) && (decide (r.kind<=4) && (rnN r.old && (rnN r.new && !decide (r.old=r.new))))
def aP0 (a b:Rn):Int:=orF [mY a.kind b.kind,gK a.old b.old]
abbrev Ky:=Int×List UInt8
def aVr (r:Rn):Ky:=(r.kind,r.new)
def aE1 (r:Rn):Ky:=(r.kind,r.old)
theorem aDp {a b:Rn}:aP0 a b=0↔aE1 a=aE1 b:=by
 unfold aP0 aE1
 simp only [jB,eE,tE,eU,Prod.mk.injEq]
 simp [orF]
theorem LCk.ord {α:Type}{c:α->α->Int}(h:LCk c):OrdC c where
 asym:= λx y a=>by have:=h.anti x y;omega
 tr:= λx y z a b=>by
  have h1:=h.t3 x y z
  have r1:=h.rng x y
  have r2:=h.rng y z
  have a1:=h.anti x y
  have a2:=h.anti y z
  have a3:=h.anti x z
  unfold aGp at h1
  have:=h1.1
  have:=h1.2.1
  have:=h1.2.2
  omega
structure Good (l:List Rn):Prop where
 val: ∀r∈l,rnV r=true
 str:l.Pairwise λa b=>aP0 a b < 0
 nod:(l.map aVr).Nodup
theorem aPz {l:List Rn}(h:l.Pairwise λa b=>aP0 a b < 0) {a b:Rn}(ha:a∈l) (hb:b∈l) (e:aE1 a=aE1 b):a=b:=by
 induction l with
 |nil=>simp at ha
 |cons x r ih=>
  have h1:=List.pairwise_cons.1 h
  rcases List.mem_cons.1 ha with e1|ha1<;>rcases List.mem_cons.1 hb with e2|hb1
  ·rw [e1,e2]
  ·have:=h1.1 b hb1;rw [<-e1,aDp.2 e]at this;omega
  ·have:=h1.1 a ha1;rw [<-e2,aDp.2 e.symm]at this;omega
  ·exact ih h1.2 ha1 hb1
def oC (l:List Rn) (k:Int) (s:List UInt8):List UInt8:=
 match l.find? (λr=>decide (r.kind=k) && decide (r.old=s))with
 |some r=>r.new
 |none=>s
theorem aD4 {l:List Rn}(h:l.Pairwise λa b=>aP0 a b < 0) {r:Rn}(hr:r∈l):oC l r.kind r.old=r.new:=by
 unfold oC
 split
 ·rename_i q hq
  have h1:=List.mem_of_find?_eq_some hq
  have h2:=List.find?_some hq
  simp only [Bool.and_eq_true,decide_eq_true_eq]at h2
  rw [aPz h h1 hr (by unfold aE1;rw [h2.1,h2.2])]
 ·rename_i hq
  have:=List.find?_eq_none.1 hq r hr
  simp at this
theorem aA9 {l:List Rn}{k:Int}{s:List UInt8}(h: ∀r∈l,aE1 r≠(k,s)):oC l k s=s:=by
 unfold oC
 split
 ·rename_i q hq
  have h1:=List.mem_of_find?_eq_some hq
  have h2:=List.find?_some hq
  simp only [Bool.and_eq_true,decide_eq_true_eq]at h2
  exact absurd (by unfold aE1;rw [h2.1,h2.2]) (h q h1)
 ·rfl
theorem xL {l:List Rn}(h:l.Pairwise λa b=>aP0 a b < 0) (k:Int) (s:List UInt8):(∃r∈l,aE1 r=(k,s)/\oC l k s=r.new)\/((∀r∈l,aE1 r≠(k,s))/\oC l k s=s):=by
 by_cases he: ∃r∈l,aE1 r=(k,s)
 ·obtain⟨r,hr,e⟩:=he
  have:=aD4 h hr
  have e':r.kind=k/\r.old=s:=by simpa [aE1]using e
  rw [e'.1,e'.2]at this
  exact .inl ⟨r,hr,e,this⟩
 ·have he: ∀r∈l,aE1 r≠(k,s):= λr hr e=>he ⟨r,hr,e⟩
  exact .inr ⟨he,aA9 he⟩
structure Comp (l m x:List Rn):Prop where
 str:x.Pairwise λa b=>aP0 a b < 0
 mem: ∀r,r∈x↔r.new=oC m r.kind (oC l r.kind r.old)/\r.new≠r.old
theorem Comp.name {l m x:List Rn}(h:Comp l m x) (k:Int) (s:List UInt8):oC x k s=oC m k (oC l k s):=by
 rcases xL h.str k s with⟨r,hr,e,e2⟩|⟨hn,e2⟩
 ·have e':r.kind=k/\r.old=s:=by simpa [aE1]using e
  have:=((h.mem r).1 hr).1
  rw [e2,this,e'.1,e'.2]
 ·rw [e2]
  by_cases hs:oC m k (oC l k s)=s
  ·exact hs.symm
  ·exact absurd rfl (hn ⟨k,s,oC m k (oC l k s)⟩ ((h.mem _).2 ⟨rfl,hs⟩))
def aSv (r:Rn):Rn:=⟨r.kind,r.new,r.old⟩
theorem aNp (r:Rn):aSv (aSv r)=r:=rfl
structure Inv (l x:List Rn):Prop where
 str:x.Pairwise λa b=>aP0 a b < 0
 mem: ∀r,r∈x↔aSv r∈l
theorem Inv.name {l x:List Rn}(hl:Good l) (h:Inv l x) {k:Int}{s:List UInt8}(hn:(∃r∈l,aE1 r=(k,s))\/ ∀r∈l,aVr r≠(k,s)):oC x k (oC l k s)=s:=by
 rcases xL hl.str k s with⟨r,hr,e,e2⟩|⟨h1,e2⟩
 ·have e':r.kind=k/\r.old=s:=by simpa [aE1]using e
  have:=aD4 h.str ((h.mem (aSv r)).2 (by rw [aNp];exact hr))
  rw [e2,<-e'.1,<-e'.2]
  exact this
 ·rw [e2]
  refine aA9 λr hr e=> ?_
  have hr':=(h.mem r).1 hr
  rcases hn with⟨q,hq,e3⟩|hn
  ·exact h1 q hq e3
  ·exact hn (aSv r) hr' e
end Go.Proofs.YtleihcnongldbaaGreatDoor
namespace Go.Proofs.YtleihcnongldbaaGreatDoor
open Go.Proofs
set_option maxRecDepth 10000
attribute [local irreducible] aN aJ Tri aI YVC cP bE
structure Sm6 (x:Ax):Prop where
 l:bH x.left<=1000000
 r:bH x.right<=1000000
 n:x.roles.length<=1000000
theorem aS6 {x:Ax}(h:cD x=0):Sm6 x:=by
 obtain⟨h1,h2,h3⟩:=aI8 h
 exact⟨by omega,by omega,by omega⟩
theorem aFc (x:Ax) (h:Sm6 x):Tri Tryz.prog 60 [.d (.agg (axR x)), .d (.agg (axR x))] [] (λr=>r= .d (.bool true)):=by
 have c:=sA x x h.l h.r h.n h.l h.r h.n
 rw [show aI5 x x=0 from aI4.2 rfl]at c
 refine aE false [2,3] hty Tryz.func60 rfl (kp [0,1,2,3,4]) [] _ _ _ (by simp [Tryz.f60]) (by simp) ?_
 ((conv=>whnf);repeat' ((first|(intro hq;(try simp only [lnS]at hq);(try rewrite [List.length_map]))|refine sJ ?_|refine .intro _ (.intro rfl ?_)|refine exL (k:= ?_)|(refine aD [] c trivial (λr hs=> ?_);subst hs)|refine dwR ?_|((first|refine aB ?_ ?_|refine aC ?_ ?_)<;>intro hb<;>(first|exact ddX hb|try simp only [lnS]at hb))|(refine aA ?_ ?_<;>intro hb<;>try exact dsX hb))<;>(conv=>whnf)))
 all_goals first
  |rfl
  |(refine aQ ?_;simp)
  |(exfalso;simp_all;done)
theorem aDv (l:List Ax) (h: ∀x∈l,Sm6 x):Tri Tryz.prog 24 [.d (.sl 16 (l.map axR)), .d (.sl 16 (l.map axR))] [] (λr=>r= .d (.bool true)):=by
 refine aE false [] hty Tryz.func24 rfl (kp [0,1,4,5,10,14,26]) [] _ _ _ (by simp [Tryz.f24]) (by simp) ?_
 ((conv=>whnf);repeat ((first|(intro hq;try simp only [lnS]at hq)|refine sI ?_|refine .intro _ (.intro rfl ?_));(conv=>whnf)))
 refine aC (λh1=> ?_) (λh1=> ?_)
 ·exact absurd rfl h1
 ((conv=>whnf);repeat ((first|(intro hq;try simp only [lnS]at hq)|refine sI ?_|refine .intro _ (.intro rfl ?_));(conv=>whnf)))
 refine aH hty (λj:Nat=>([(0, .d (.sl 16 (l.map axR))),(1, .d (.sl 16 (l.map axR))),(5, .d (.int .i64 j))],[])) (λj=>j<=l.length) (λj=>l.length - j) 0 (by omega) ⟨by repeat' (first|exact trivial|exact rfl|refine And.intro ?_ ?_),trivial⟩ ?_
 rintro j hj
 ((conv=>whnf);repeat ((first|(intro hq;try simp only [lnS]at hq)|refine sI ?_|refine .intro _ (.intro rfl ?_));(conv=>whnf)))
 refine aB (λh2=> ?_) (λh2=> ?_)
 ·have hjl:j < l.length:=by have h2:(j:Int) < ((l.map axR).length:Nat):=h2;rw [List.length_map]at h2;omega
  have hrow:(l.map axR)[(j:Int).toNat]? =some (axR l[j]):=aS hjl
  have c:=aFc l[j] (h _ (List.getElem_mem hjl))
  generalize l[j]=x at hrow c
  ((conv=>whnf);repeat' ((first|(intro hq;(try simp only [lnS]at hq);(try rewrite [List.length_map]))|refine sJ ?_|refine .intro _ (.intro rfl ?_)|refine exL (k:= ?_)|(refine⟨_,hrow, ?_⟩)|(refine⟨.d (.bool _),_,[],rfl,trivial,c, ?_⟩)|refine dwR ?_|((first|refine aB ?_ ?_|refine aC ?_ ?_)<;>intro hb<;>(first|exact ddX hb|try simp only [lnS]at hb))|(refine aA ?_ ?_<;>intro hb<;>try exact dsX hb))<;>(conv=>whnf)))
  exact⟨j+1,by dsimp only;omega,by dsimp only;omega,⟨by repeat' (first|exact trivial|exact rfl|refine And.intro ?_ ?_),by repeat' (first|exact trivial|exact rfl|refine And.intro ?_ ?_)⟩⟩
 ·((conv=>whnf);repeat' ((first|(intro hq;(try simp only [lnS]at hq);(try rewrite [List.length_map]))|refine sJ ?_|refine .intro _ (.intro rfl ?_)|refine exL (k:= ?_)|refine dwR ?_|((first|refine aB ?_ ?_|refine aC ?_ ?_)<;>intro hb<;>(first|exact ddX hb|try simp only [lnS]at hb))|(refine aA ?_ ?_<;>intro hb<;>try exact dsX hb))<;>(conv=>whnf)))
  rfl
end Go.Proofs.YtleihcnongldbaaGreatDoor
namespace Go.Proofs.YtleihcnongldbaaGreatDoor
open Go.Proofs Go.RowKit
set_option maxRecDepth 10000
attribute [local irreducible] aN aJ Tri aI YVC cP bE
theorem mT (l:List Dig):Tri Tryz.prog 53 [.d (.sl 32 (l.map gP)), .d (.sl 32 (l.map gP))] [] (λr=>r= .d (.bool true)):=by
 have hlr:(l.map gP).length=l.length:=List.length_map ..
 refine aE false [] hty Tryz.func53 rfl (kp [0,1,4,5,10,14,25]) [] _ _ _ (by simp [Tryz.f53]) (by simp) ?_
 ((conv=>whnf);repeat ((first|(intro hq;try simp only [lnS]at hq)|refine sI ?_|refine .intro _ (.intro rfl ?_));(conv=>whnf)))
 refine aC (λh1=>absurd rfl h1) (λh1=> ?_)
 ((conv=>whnf);repeat ((first|(intro hq;try simp only [lnS]at hq)|refine sI ?_|refine .intro _ (.intro rfl ?_));(conv=>whnf)))
 refine aH hty (λj:Nat=>([(0, .d (.sl 32 (l.map gP))),(1, .d (.sl 32 (l.map gP))),(5, .d (.int .i64 j))],[])) (λj=>j<=l.length) (λj=>l.length - j) 0 (by omega) ⟨by repeat' (first|exact trivial|exact rfl|refine And.intro ?_ ?_),by repeat' (first|exact trivial|exact rfl|refine And.intro ?_ ?_)⟩ ?_
 intro j hj
 ((conv=>whnf);repeat ((first|(intro hq;try simp only [lnS]at hq)|refine sI ?_|refine .intro _ (.intro rfl ?_));(conv=>whnf)))
 rw [hlr]
 refine aB (λh2=> ?_) (λh2=> ?_)
 ·have hjl:j < l.length:=by omega
  have hrow:(l.map gP)[((j:Nat):Int).toNat]? =some (gP l[j]):=aS hjl
  generalize l[j]=d at hrow
  obtain⟨xl,hx⟩:=d
  have he:=yJ xl
  obtain⟨y0,y1,y2,y3,y4,y5,y6,y7,y8,y9,y10,y11,y12,y13,y14,y15,y16,y17,y18,y19,y20,y21,y22,y23,y24,y25,y26,y27,y28,y29,y30,y31,rfl⟩:=jS hx
  ((conv=>whnf);repeat' ((first|(intro hq;(try simp only [lnS]at hq);(try rewrite [List.length_map]))|refine sJ ?_|refine .intro _ (.intro rfl ?_)|refine exL (k:= ?_)|(refine⟨_,hrow, ?_⟩)|(refine aO8 hty rfl (by with_unfolding_all exact rfl) rfl (by with_unfolding_all exact rfl) rfl rfl (by with_unfolding_all kernel_rfl) rfl rfl rfl he ?_)|refine dwR ?_|((first|refine aB ?_ ?_|refine aC ?_ ?_)<;>intro hb<;>(first|exact ddX hb|try simp only [lnS]at hb))|(refine aA ?_ ?_<;>intro hb<;>try exact dsX hb))<;>(conv=>whnf)))
  all_goals exact⟨j+1,by dsimp only;omega,by dsimp only;omega,⟨by repeat' (first|exact trivial|exact rfl|refine And.intro ?_ ?_),by repeat' (first|exact trivial|exact rfl|refine And.intro ?_ ?_)⟩⟩
 ·((conv=>whnf);repeat' ((first|(intro hq;(try simp only [lnS]at hq);(try rewrite [List.length_map]))|refine sJ ?_|refine .intro _ (.intro rfl ?_)|refine exL (k:= ?_)|refine dwR ?_|((first|refine aB ?_ ?_|refine aC ?_ ?_)<;>intro hb<;>(first|exact ddX hb|try simp only [lnS]at hb))|(refine aA ?_ ?_<;>intro hb<;>try exact dsX hb))<;>(conv=>whnf)))
  rfl
theorem rP (a:Al) (h: ∀x∈a.axioms,Sm6 x):Tri Tryz.prog 19 [.d (.agg (alR a)), .d (.agg (alR a))] [] (λr=>r= .d (.bool true)):=by
 obtain⟨nm,d1,ax,d2,ix,ps,pt⟩:=a
 have c1:=aDv ax h
 have c2:=mT ps
 have c3:=mT pt
 obtain⟨yl,hy⟩:=d1
 have he:=yJ yl
 obtain⟨y0,y1,y2,y3,y4,y5,y6,y7,y8,y9,y10,y11,y12,y13,y14,y15,y16,y17,y18,y19,y20,y21,y22,y23,y24,y25,y26,y27,y28,y29,y30,y31,rfl⟩:=jS hy
 obtain⟨zl,hz⟩:=d2
 have he2:=yJ zl
 obtain⟨z0,z1,z2,z3,z4,z5,z6,z7,z8,z9,z10,z11,z12,z13,z14,z15,z16,z17,z18,z19,z20,z21,z22,z23,z24,z25,z26,z27,z28,z29,z30,z31,rfl⟩:=jS hz
 refine aE false [2,3] hty Tryz.func19 rfl (kp [0,1,2,3,4]) [] _ _ _ (by simp [Tryz.f19]) (by simp) ?_
 ((conv=>whnf);repeat' ((first|(intro hq;(try simp only [lnS]at hq);(try rewrite [List.length_map]))|refine sJ ?_|refine .intro _ (.intro rfl ?_)|refine exL (k:= ?_)|(refine aLd hty rfl (by with_unfolding_all exact rfl) rfl (by with_unfolding_all exact rfl) rfl rfl (by with_unfolding_all kernel_rfl) rfl rfl rfl he ?_)|(refine aLd hty rfl (by with_unfolding_all exact rfl) rfl (by with_unfolding_all exact rfl) rfl rfl (by with_unfolding_all kernel_rfl) rfl rfl rfl he2 ?_)|(refine aD [] c1 trivial (λr hs=> ?_);subst hs)|(refine aD [] c2 trivial (λr hs=> ?_);subst hs)|(refine aD [] c3 trivial (λr hs=> ?_);subst hs)|refine dwR ?_|((first|refine aB ?_ ?_|refine aC ?_ ?_)<;>intro hb<;>(first|exact ddX hb|try simp only [lnS]at hb))|(refine aA ?_ ?_<;>intro hb<;>try exact dsX hb))<;>(conv=>whnf)))
 all_goals first|rfl|(refine aQ ?_;simp)|(exfalso;simp_all;done)
theorem zB (q:Qy):Tri Tryz.prog 13 [.d (.agg (qyR q)), .d (.agg (qyR q))] [] (λr=>r= .d (.bool true)):=by
 obtain⟨told,parts⟩:=q
 have ht:(told.map bL).length=told.length:=List.length_map ..
 have hp:(parts.map aU).length=parts.length:=List.length_map ..
 refine aE false [2,3] hty Tryz.func13 rfl (kp [0,1,2,3,4,5,6,7,8,9,25,30,43,48,67,71,82]) [] _ _ _ (by simp [Tryz.f13]) (by simp) ?_
 ((conv=>whnf);repeat ((first|(intro hq;try simp only [lnS]at hq)|refine sI ?_|refine .intro _ (.intro rfl ?_));(conv=>whnf)))
 refine aC (λh1=>absurd rfl h1) (λh1=> ?_)
 ((conv=>whnf);repeat ((first|(intro hq;try simp only [lnS]at hq)|refine sI ?_|refine .intro _ (.intro rfl ?_));(conv=>whnf)))
 refine aC (λh1=>absurd rfl h1) (λh1=> ?_)
 ((conv=>whnf);repeat ((first|(intro hq;try simp only [lnS]at hq)|refine sI ?_|refine .intro _ (.intro rfl ?_));(conv=>whnf)))
 refine aH hty (λj:Nat=>([(2, .ea 2 [qyR ⟨told,parts⟩] 0 0),(3, .ea 2 [qyR ⟨told,parts⟩] 0 0),(5, .d (.int .i64 j))],[])) (λj=>j<=told.length) (λj=>told.length - j) 0 (by omega) ⟨by repeat' (first|exact trivial|exact rfl|refine And.intro ?_ ?_),by repeat' (first|exact trivial|exact rfl|refine And.intro ?_ ?_)⟩ ?_
 intro j hj
 ((conv=>whnf);repeat ((first|(intro hq;try simp only [lnS]at hq)|refine sI ?_|refine .intro _ (.intro rfl ?_));(conv=>whnf)))
 rw [ht]
 refine aB (λh2=> ?_) (λh2=> ?_)
 ·have hjl:j < told.length:=by omega
  have hrow:(told.map bL)[((j:Nat):Int).toNat]? =some (bL told[j]):=aS hjl
  generalize told[j]=s at hrow
  ((conv=>whnf);repeat' ((first|(intro hq;(try simp only [lnS]at hq);(try rewrite [List.length_map]))|refine sJ ?_|refine .intro _ (.intro rfl ?_)|refine exL (k:= ?_)|(refine⟨_,hrow, ?_⟩)|refine dwR ?_|((first|refine aB ?_ ?_|refine aC ?_ ?_)<;>intro hb<;>(first|exact ddX hb|try simp only [lnS]at hb))|(refine aA ?_ ?_<;>intro hb<;>try exact dsX hb))<;>(conv=>whnf)))
  all_goals first|(exfalso;simp_all;done)|exact⟨j+1,by dsimp only;omega,by dsimp only;omega,⟨by repeat' (first|exact trivial|exact rfl|refine And.intro ?_ ?_),by repeat' (first|exact trivial|exact rfl|refine And.intro ?_ ?_)⟩⟩
 clear hj h2
 ((conv=>whnf);repeat ((first|(intro hq;try simp only [lnS]at hq)|refine sI ?_|refine .intro _ (.intro rfl ?_));(conv=>whnf)))
 refine aH hty (λj:Nat=>([(2, .ea 2 [qyR ⟨told,parts⟩] 0 0),(3, .ea 2 [qyR ⟨told,parts⟩] 0 0),(6, .d (.int .i64 j))],[])) (λj=>j<=parts.length) (λj=>parts.length - j) 0 (by omega) ⟨by repeat' (first|exact trivial|exact rfl|refine And.intro ?_ ?_),by repeat' (first|exact trivial|exact rfl|refine And.intro ?_ ?_)⟩ ?_
 intro j hj
 ((conv=>whnf);repeat ((first|(intro hq;try simp only [lnS]at hq)|refine sI ?_|refine .intro _ (.intro rfl ?_));(conv=>whnf)))
 rw [hp]
 refine aB (λh2=> ?_) (λh2=> ?_)
 ·have hjl:j < parts.length:=by omega
  have hrow:(parts.map aU)[((j:Nat):Int).toNat]? =some (aU parts[j]):=aS hjl
  generalize parts[j]=p at hrow
  have hpl:(p.map atR).length=p.length:=List.length_map ..
  ((conv=>whnf);repeat ((first|(refine⟨_,hrow, ?_⟩)|(intro hq;try simp only [lnS]at hq)|refine sI ?_|refine .intro _ (.intro rfl ?_));(conv=>whnf)))
  refine aC (λh1=>absurd rfl h1) (λh1=> ?_)
  ((conv=>whnf);repeat ((first|(intro hq;try simp only [lnS]at hq)|refine sI ?_|refine .intro _ (.intro rfl ?_));(conv=>whnf)))
  refine aH hty (λk:Nat=>([(2, .ea 2 [qyR ⟨told,parts⟩] 0 0),(3, .ea 2 [qyR ⟨told,parts⟩] 0 0),(6, .d (.int .i64 j)),(7, .d (.sl 6 (p.map atR))),(8, .d (.sl 6 (p.map atR))),(9, .d (.int .i64 k))],[])) (λk=>k<=p.length) (λk=>p.length - k) 0 (by omega) ⟨by repeat' (first|exact trivial|exact rfl|refine And.intro ?_ ?_),by repeat' (first|exact trivial|exact rfl|refine And.intro ?_ ?_)⟩ ?_
  intro k hk
  ((conv=>whnf);repeat ((first|(intro hq;try simp only [lnS]at hq)|refine sI ?_|refine .intro _ (.intro rfl ?_));(conv=>whnf)))
  rw [hpl]
  refine aB (λh3=> ?_) (λh3=> ?_)
  ·have hkl:k < p.length:=by omega
   have hrow2:(p.map atR)[((k:Nat):Int).toNat]? =some (atR p[k]):=aS hkl
   generalize p[k]=a at hrow2
   obtain⟨kd,nm,x,y,lo,hi⟩:=a
   ((conv=>whnf);repeat' ((first|(intro hq;(try simp only [lnS]at hq);(try rewrite [List.length_map]))|refine sJ ?_|refine .intro _ (.intro rfl ?_)|refine exL (k:= ?_)|(refine⟨_,hrow2, ?_⟩)|refine dwR ?_|((first|refine aB ?_ ?_|refine aC ?_ ?_)<;>intro hb<;>(first|exact ddX hb|try simp only [lnS]at hb))|(refine aA ?_ ?_<;>intro hb<;>try exact dsX hb))<;>(conv=>whnf)))
   all_goals first|(exfalso;simp_all;done)|exact⟨k+1,by dsimp only;omega,by dsimp only;omega,⟨by repeat' (first|exact trivial|exact rfl|refine And.intro ?_ ?_),by repeat' (first|exact trivial|exact rfl|refine And.intro ?_ ?_)⟩⟩
  ·((conv=>whnf);repeat ((first|(intro hq;try simp only [lnS]at hq)|refine sI ?_|refine .intro _ (.intro rfl ?_));(conv=>whnf)))
   exact⟨j+1,by dsimp only;omega,by dsimp only;omega,⟨by repeat' (first|exact trivial|exact rfl|refine And.intro ?_ ?_),by repeat' (first|exact trivial|exact rfl|refine And.intro ?_ ?_)⟩⟩
 ·((conv=>whnf);repeat ((first|(intro hq;try simp only [lnS]at hq)|refine sI ?_|refine .intro _ (.intro rfl ?_));(conv=>whnf)))
  rfl
end Go.Proofs.YtleihcnongldbaaGreatDoor
namespace Go.Proofs.YtleihcnongldbaaGreatDoor
open Go.Proofs Go.RowKit
set_option maxRecDepth 10000
attribute [local irreducible] aN aJ Tri aI YVC cP bE vH
inductive FewB (P:Prop) (r:SV):Prop
 |mk (b:Bool) (h:r= .d (.bool b)) (k:b=true->P)
theorem yE (a:Al) (hl: ∀x∈a.axioms,SzAx x):Tri Tryz.prog 14 [.d (.agg (alR a))] [] (FewB (∀x∈a.axioms,SmC x)):=by
 obtain⟨nm,d1,ax,d2,ix,ps,pt⟩:=a
 obtain⟨y,rfl⟩:=fV d1
 obtain⟨z,rfl⟩:=fV d2
 have hf:=qJ ax 12 hl
 have hk:(decide ((ax.length:Int)<=12) && ax.all aC1)=true-> ∀x∈ax,SmC x:=by
  intro h x hx
  rw [Bool.and_eq_true,List.all_eq_true]at h
  obtain⟨h1,h2,_⟩:=aKt (h.2 x hx)
  exact⟨by omega,by omega⟩
 generalize (decide ((ax.length:Int)<=12) && ax.all aC1)=v at *
 dsimp only
 generalize hP:(∀x∈ax,SmC x)=P at *
 refine aE false [1] hty Tryz.func14 rfl (kp [0,1,2]) [] _ _ _ (by simp [Tryz.f14]) (by simp) ?_
 ((conv=>whnf);repeat' ((first|(intro hq;(try simp only [lnS]at hq);(try rewrite [List.length_map]))|refine sJ ?_|refine .intro _ (.intro rfl ?_)|refine exL (k:= ?_)|(refine aD [] hf trivial (λr hs=> ?_);subst hs)|refine dwR ?_|((first|refine aB ?_ ?_|refine aC ?_ ?_)<;>intro hb<;>(first|exact ddX hb|try simp only [lnS]at hb))|(refine aA ?_ ?_<;>intro hb<;>try exact dsX hb))<;>(conv=>whnf)))
 all_goals exact .mk _ rfl (λh=>by first|exact hk (by assumption)|exact absurd h (by decide)|exact absurd (h.symm.trans (by assumption)) (by decide))
theorem aNx (bs:List UInt8): ∀x∈(eM (rAl 9) lR al0 280 bs).1.axioms,Sm6 x:=by
 by_cases h:(eM (rAl 9) lR al0 280 bs).2=0
 ·have hw:=(aT6 (rd:=rAl 9) (wr:=lR) (zero:=al0) (bad:=280) (b:=bs) (by decide) h).1
  obtain⟨h1,_⟩:=aCh hw
  unfold alE at h1
  split at h1
  ·simp at h1
  ·split at h1
   ·exact absurd h1 (by assumption)
   ·rename_i h2
    exact λx hx=>aS6 ((fB _).1 (Decidable.not_not.1 h2) x hx)
 ·have e:(eM (rAl 9) lR al0 280 bs).1=al0:=by
   unfold eM at h |-
   split
   ·split
    ·rename_i h1 h2;simp [h1,h2]at h
    ·rfl
   ·rfl
  rw [e]
  intro x hx
  cases hx
theorem tH (a:Al) (bs:List UInt8) (hl: ∀x∈a.axioms,SzAx x):Tri Tryz.prog 4 [.d (.agg (alR a)), .d (.sl 1 (bs.map aM))] NG (λr=>r= .d (.bool true)):=by
 have c1:=aDi bs
 have c0:=yE a hl
 have c2:=iI a
 have c3:= λh=>nP a h
 have ha:=fX (lR a).1
 have c4:= λh=>rT lR bs h (λx _ _=>iI x)
 have c5:= λh=>qO bs h
 have e2:eM aMv lR al0 280 bs=eM (rAl 9) lR al0 280 bs:=aNv (Q:= λa=>InI a.index) (λ_ _ _ h=>aMt h) (λ_ _ _ h=>aQb h) (λy d q h=>by have:=aQd q h [];rwa [List.append_nil]at this) (λy d q h=>by have:=aSf q h [];rwa [List.append_nil]at this) bs
 rw [e2]at c5
 clear e2
 have c6:=rP (eM (rAl 9) lR al0 280 bs).1 (aNx bs)
 generalize lR a=res at *
 generalize eM (rAl 9) lR al0 280 bs=out at *
 obtain⟨nm,d1,ax,d2,ix,ps,pt⟩:=a
 obtain⟨y,rfl⟩:=fV d1
 obtain⟨z,rfl⟩:=fV d2
 obtain⟨x,e⟩:=out
 obtain⟨nm2,d3,ax2,d4,ix2,ps2,pt2⟩:=x
 obtain⟨y2,rfl⟩:=fV d3
 obtain⟨z2,rfl⟩:=fV d4
 dsimp only at c0 c3
 generalize hP:(∀x∈ax,SmC x)=P at *
 clear hl
 refine aE false [2,9,11] hty Tryz.func4 rfl (kp [0,1,2,4,5,6,7,8,9,10,11,12,14,22]) [] _ _ _ (by simp [Tryz.f4]) (by decide) ?_
 ((conv=>whnf);repeat ((first|(intro hq;try simp only [lnS]at hq)|refine sI ?_|refine .intro _ (.intro rfl ?_));(conv=>whnf)))
 refine aD NG aA5 ⟨rfl,rfl,trivial⟩ (λr hs=> ?_)
 subst hs
 ((conv=>whnf);repeat ((first|(intro hq;try simp only [lnS]at hq)|refine sI ?_|refine .intro _ (.intro rfl ?_));(conv=>whnf)))
 refine aD [] c1 trivial (λr hs=> ?_)
 subst hs
 by_cases hf:bs.length<=6000
 ·rw [decide_eq_true hf]
  have hle:bs.length<=1000000:=by omega
  have c4:=(c4 hle).mono (post':= λr=>r= .tup [.d (.agg (alR ⟨nm2,mkD y2,ax2,mkD z2,ix2,ps2,pt2⟩)), .d (.int .i64 e)]) (λr h=>by obtain⟨x,rfl,hr⟩:=h;exact hr)
  have c5:=(c5 hle).mono (post':= λr=>r= .tup [.d (.agg (alR ⟨nm2,mkD y2,ax2,mkD z2,ix2,ps2,pt2⟩)), .d (.int .i64 e)]) (λr h=>by obtain⟨x,rfl,hr⟩:=h;exact hr)
  ((conv=>whnf);repeat ((first|(intro hq;try simp only [lnS]at hq)|refine sI ?_|refine .intro _ (.intro rfl ?_));(conv=>whnf)))
  refine aD [] c0 trivial (λr hs=> ?_)
  obtain⟨b0,rfl,hb0⟩:=hs
  cases b0
  ·((conv=>whnf);repeat' ((first|(intro hq;(try simp only [lnS]at hq);(try rewrite [List.length_map]))|refine sJ ?_|refine .intro _ (.intro rfl ?_)|refine exL (k:= ?_)|refine dwR ?_|((first|refine aB ?_ ?_|refine aC ?_ ?_)<;>intro hb<;>(first|exact ddX hb|try simp only [lnS]at hb))|(refine aA ?_ ?_<;>intro hb<;>try exact dsX hb))<;>(conv=>whnf)))
   all_goals rfl
  have c3:=c3 (hb0 rfl)
  ((conv=>whnf);repeat' ((first|(intro hq;(try simp only [lnS]at hq);(try rewrite [List.length_map]))|refine sJ ?_|refine .intro _ (.intro rfl ?_)|refine exL (k:= ?_)|(refine aD NG c2 ⟨rfl,rfl,trivial⟩ (λr hs=> ?_);subst hs)|(refine aD [] c3 trivial (λr hs=> ?_);subst hs)|(refine aD NG c4 ⟨rfl,rfl,trivial⟩ (λr hs=> ?_);subst hs)|(refine aD [] c5 trivial (λr hs=> ?_);subst hs)|(refine aD [] c6 trivial (λr hs=> ?_);subst hs)|refine dwR ?_|((first|refine aB ?_ ?_|refine aC ?_ ?_)<;>intro hb<;>(first|exact ddX hb|try simp only [lnS]at hb))|(refine aA ?_ ?_<;>intro hb<;>try exact dsX hb))<;>(conv=>whnf)))
  all_goals first|rfl|(refine aQ ?_;simp)
 ·rw [decide_eq_false hf]
  ((conv=>whnf);repeat' ((first|(intro hq;(try simp only [lnS]at hq);(try rewrite [List.length_map]))|refine sJ ?_|refine .intro _ (.intro rfl ?_)|refine exL (k:= ?_)|refine dwR ?_|((first|refine aB ?_ ?_|refine aC ?_ ?_)<;>intro hb<;>(first|exact ddX hb|try simp only [lnS]at hb))|(refine aA ?_ ?_<;>intro hb<;>try exact dsX hb))<;>(conv=>whnf)))
  all_goals rfl
end Go.Proofs.YtleihcnongldbaaGreatDoor
