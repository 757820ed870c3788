/-
  Queries: canonical names of the query of a part; ledger.canonical. Ledgers: numbers are written; Encode. Ledgers: Encode. Ledgers: equal lists, parts, entries; find; New, Left, Before. Ledgers: the types that come in. Queries, the reference: numbers, the order of atoms and of lists. A statement whose ends are many: what they have in common is told once, up to a value that is found at the end.
  Conditions: none.
-/
import Derived.Test.YtdjfkmkdkclahaaGreatDoorVSza
import Derived.Test.YtdjfkmkdkclahaaGreatDoorVQqh
import Derived.Test.YtdjfkmkdkclahaaGreatDoorVSna
import Derived.Test.YtdjfkmkdkclahaaGreatDoorVOh
import Derived.Test.YtdjfkmkdkclahaaGreatDoorVSyv
import Derived.Test.YtdjfkmkdkclahaaGreatDoorVBp
import Derived.Test.YtdjfkmkdkclahaaGreatDoorVQqg
import Derived.Test.YtdjfkmkdkclahaaGreatDoorVXs
set_option linter.unnecessarySimpa false
set_option linter.unusedSectionVars false
set_option linter.unusedSimpArgs false
set_option linter.unusedVariables false
set_option maxHeartbeats 16000000
namespace Go.Proofs.YtdjfkmkdkclahaaGreatDoor
open Go.Proofs Go.RowKit
set_option maxRecDepth 10000
attribute [local irreducible] aL aH Tri aI YVC bP aS
theorem aJo (p:List At) (hp:p.length<=100000) (hN:(cG p).length<=8) (bs:List Nat) (ck:Nat) {pin:Pin}{fr:Fr}{hp0:Hp}{K:SV->Hp->Prop}(hs: ∀o,aA9 hp0 ((33,o)::hp0))
  (hk:K (.d (.agg [.sl 6 ((dP p).map atR)])) hp0):
  aH Tryz.prog pin fr ((33, .ext (aEv aKp (zQ []) bs ck))::hp0) 111 [.d (.agg [.sl 6 ((sF p).map atR)]), .xv 33 aHt] K:=by
 have hid:=aF4
 refine aH.weak ?_
 generalize hhp:(33,HObj.ext (aEv aKp (zQ []) bs ck))::hp0=hp1
 have hm:aR hp1 33=some (.ext (aEv aKp (zQ []) bs ck)):=by rw [<-hhp];rfl
 have hl:=aH7 p
 refine aPs [33] _ (aLx (sF p) (by omega) (by rw [uE];exact hN) bs ck (dP p) (aUx hN)) ⟨?_, ?_, ?_, ?_⟩ (by simp) ?_ (λ_ h=>h)
 ·intro id o h
  simp only [aR]at h
  split at h
  ·rename_i e;subst e;injection h with h;subst h
   exact⟨hm,hid []⟩
  ·cases h
 ·intro id o id' o' _ _ e;exact e
 ·intro k hk
  obtain rfl:k=33:=by simpa using hk
  exact⟨_,rfl⟩
 ·intro id o h
  simp only [aR]at h
  split at h
  ·rename_i e;subst e;exact .inl (by simp)
  ·cases h
 ·rintro s h1 ⟨rfl,F,bs2,ck2,hg⟩
  refine⟨rfl,dW hp1 33 (.ext (aEv aKp (zQ F) bs2 ck2)),⟨λk hk=> ?_,λi o ho=> ?_⟩,hp0,by rw [<-hhp];exact hs _,hk⟩
  ·obtain rfl:k=33:=by simpa using hk
   refine⟨_,hg,hid F,λh=>h,λi hi=> ?_, ?_⟩
   ·have:i∈aVr (zQ F):=hi
    rw [hid]at this
    cases this
   ·show aR (dW hp1 33 _) 33=_
    rw [bC _ hm,if_pos rfl]
    rfl
  ·rw [bC _ hm]at ho
   split at ho
   ·rename_i e;exact .inl ⟨33,by simp,e⟩
   ·exact .inr ho
theorem aEb (p:List At):Tri Tryz.prog 73 [.d (.agg (qyR ⟨[],[p]⟩))] [] (λr=>r= .tup [.d (.agg (qyR ⟨[],if ptE p=0 then [dP p]else []⟩)), .d (.int .i64 (ptE p))]):=by
 have hc:=xL ⟨[],[p]⟩
 have hok:= @aQi p
 rw [show qE ⟨[],[p]⟩=ptE p from rfl]at hc
 generalize ptE p=e at *
 have hq:qyR ⟨[],[p]⟩=[.sl 1 [], .sl 1 [[.sl 6 (p.map atR)]]]:=rfl
 rw [hq]at hc |-
 refine Tri.says ?_
 refine aE0 50 false [1,6] hty Tryz.func73 rfl (kp [0,1,2,3,4,6,7,8,9,13,18,19,20,33,34,35,36,41,42,43,44]) [] _ _ _ (by simp [Tryz.f73]) (by decide) ?_
 ((conv=>whnf);repeat ((first|(refine aA [] hc trivial (λr hs=> ?_);subst hs)|(intro hq;try simp only [lnS]at hq)|refine sI ?_|refine .intro _ (.intro rfl ?_));(conv=>whnf)))
 refine aD (λh1=> ?_) (λh1=> ?_)
 ·((conv=>whnf);repeat ((first|(intro hq;try simp only [lnS]at hq)|refine sI ?_|refine .intro _ (.intro rfl ?_));(conv=>whnf)))
  rw [if_neg h1]
  exact⟨_,bW.pair (bW.wkd (by repeat' (first|exact trivial|exact rfl|refine And.intro ?_ ?_))),rfl⟩
 ·have h1:e=0:=by simpa using h1
  subst h1
  ((conv=>whnf);repeat ((first|(intro hq;try simp only [lnS]at hq)|refine sI ?_|refine .intro _ (.intro rfl ?_));(conv=>whnf)))
  refine dI hty 1 ?_
  ((conv=>whnf);repeat ((first|(intro hq;try simp only [lnS]at hq)|refine sI ?_|refine .intro _ (.intro rfl ?_));(conv=>whnf)))
  refine dI hty 2 ?_
  ((conv=>whnf);repeat ((first|(intro hq;try simp only [lnS]at hq)|refine sI ?_|refine .intro _ (.intro rfl ?_));(conv=>whnf)))
  refine aCz rfl rfl aKp 33 (bQ (by with_unfolding_all exact rfl)) ?_
  ((conv=>whnf);repeat ((first|(intro hq;try simp only [lnS]at hq)|refine sI ?_|refine .intro _ (.intro rfl ?_));(conv=>whnf)))
  refine dI hty 1 ?_
  ((conv=>whnf);repeat ((first|(intro hq;try simp only [lnS]at hq)|refine sI ?_|refine .intro _ (.intro rfl ?_));(conv=>whnf)))
  have ht:=aJc p (by omega)
  rw [show aK p=[.sl 6 (p.map atR)]from rfl,show aK (sF p)=[.sl 6 ((sF p).map atR)]from rfl]at ht
  obtain⟨⟨k1,k2⟩,_,k3⟩:=hok.1 rfl
  (refine aX (id:=18) hty (.first 0 (.first 4 (.alt 1 (.alt 2 (.alt 3 (.alt 5 (.alt 6 (.alt 7 (.first 8 (.alt 9 .done .stop)) .stop) .stop) .stop) .stop) .stop) (.alt 2 (.alt 1 (.alt 3 (.alt 5 (.alt 6 (.alt 7 (.first 8 (.alt 9 .done .stop)) .stop) .stop) .stop) .stop) (.alt 3 (.alt 1 (.alt 5 (.alt 6 (.alt 7 (.first 8 (.alt 9 .done .stop)) .stop) .stop) .stop) (.alt 5 (.alt 1 (.alt 6 (.alt 7 (.first 8 (.alt 9 .done .stop)) .stop) .stop) (.alt 6 (.alt 1 (.alt 7 (.first 8 (.alt 9 .done .stop)) .stop) .stop) .stop)) .stop)) .stop)) .stop)))) (by kernel_rfl) (by kernel_rfl) ?_)
  ((conv=>whnf);repeat' ((first|exact trivial|refine aA0 ?_ ?_|intro cap' hcap'|refine eqN rfl ?_|refine leN rfl ?_|refine ltN rfl ?_|(refine aA [] ht trivial (λr hs=> ?_);subst hs)|(refine aJo p (by omega) k3 [] 0 (λ_=>by repeat' (first|exact trivial|exact rfl|refine And.intro ?_ ?_)) ?_)|refine sJ ?_|(refine Exists.intro _ (And.intro rfl ?_)))<;>(conv=>whnf)))
  all_goals exact⟨_,bW.pair (bW.wkd (by repeat' (first|exact trivial|exact rfl|exact cN _|refine And.intro ?_ ?_))),rfl⟩
theorem hU (p:List At):Tri Tryz.prog 39 [.d (.agg (aK p))] [] (λr=>r= .tup [.d (.agg (aK (if ptE p=0 then dP p else []))), .d (.int .i64 (ptE p))]):=by
 have h1:=aBx p
 have h2:=aEb p
 refine Tri.says ?_
 refine aG false [] hty Tryz.func39 rfl (kp [0,1,2,3,4,12]) [] _ _ _ (by simp [Tryz.f39]) (by simp) ?_
 by_cases h:ptE p=0
 ·rw [if_pos h,h]at h2
  rw [if_pos h,h]
  ((conv=>whnf);repeat ((first|(refine aA [] h1 trivial (λr hs=> ?_);subst hs)|(refine aA [] h2 trivial (λr hs=> ?_);subst hs)|(intro hq;try simp only [lnS]at hq)|refine sI ?_|refine .intro _ (.intro rfl ?_));(conv=>whnf)))
  exact⟨_, .refl _,rfl⟩
 ·rw [if_neg h]at h2
  rw [if_neg h]
  ((conv=>whnf);repeat ((first|(refine aA [] h1 trivial (λr hs=> ?_);subst hs)|(refine aA [] h2 trivial (λr hs=> ?_);subst hs)|(intro hq;try simp only [lnS]at hq)|refine sI ?_|refine .intro _ (.intro rfl ?_));(conv=>whnf)))
  rw [decide_eq_false h]
  ((conv=>whnf);repeat ((first|(intro hq;try simp only [lnS]at hq)|refine sI ?_|refine .intro _ (.intro rfl ?_));(conv=>whnf)))
  exact⟨_,bW.pair (bW.wkd (by repeat' (first|exact trivial|exact rfl|exact cN _|refine And.intro ?_ ?_))),rfl⟩
end Go.Proofs.YtdjfkmkdkclahaaGreatDoor
namespace Go.Proofs.YtdjfkmkdkclahaaGreatDoor
open Go.Proofs Go.RowKit
set_option maxRecDepth 10000
attribute [local irreducible] aL aH Tri aI YVC bP aS
theorem aUi {n:Nat}: ∀k,100<=k->k∉lQ [(70,HObj.own 5 1 n)]:=aWv (by decide) rfl (λk _=>by simp [lQ])
theorem aP5 (z:Int) {pin:Pin}{fr:Fr}{K:SV->Hp->Prop}(hp1: ∀k,70<=k->k∉pin) (hf: ∀k,70<=k->k∉gC fr) (hk:K (.osl 70 1 ((beN 4 (uN z)).map aP)) [(70, .own 5 1 ((beN 4 (uN z)).map aP).length)]):
  aH Tryz.prog pin fr [] 48 [.d .nil, .d (.int .i64 z), .d (.int .i64 4)] K:=by
 have hl:(beN 4 (uN z)).length=4:=aU ..
 have hp2: ∀k,100<=k->k∉pin:= λk h=>hp1 k (by omega)
 have hf2: ∀k,100<=k->k∉gC fr:= λk h=>hf k (by omega)
 refine aM false [] hty Tryz.func48 rfl (kp [0,1,2,6,7,11]) 100 (by simp [Tryz.f48]) ?_
 ((conv=>whnf);repeat ((first|(intro hq;try simp only [lnS]at hq)|refine sI ?_|refine .intro _ (.intro rfl ?_));(conv=>whnf)))
 refine aL.own 0 70 5 1 rfl ⟨by simp [hp1 70 (by omega),hf 70 (by omega)],by simp [gC,SV.ids,aGo],by simp [lQ]⟩ ?_
 refine aJ hty (λj:Nat=>([(0, .osl 70 1 (((beN 4 (uN z)).take j).map aP)),(1, .d (.int .i64 z)),(7, .d (.int .i64 (3 - (j:Int))))],[(70, .own 5 1 (((beN 4 (uN z)).take j).map aP).length)])) (λj=>j<=4) (λj=>4 - j) 0 (by omega) ⟨by repeat' (first|exact trivial|exact rfl|refine And.intro ?_ ?_),⟨rfl,trivial⟩⟩ ?_
 intro j hj
 have hml:=bX ((beN 4 (uN z)).take j)
 rw [List.length_take]at hml
 have hb63:(((beN 4 (uN z)).take j).map aP).length+1<=9223372036854775807:=by rw [hml];omega
 have hb48:((((beN 4 (uN z)).take j).map aP).length+1)* 1<=140737488355328:=by rw [hml];omega
 ((conv=>whnf);repeat ((first|(intro hq;try simp only [lnS]at hq)|refine sI ?_|refine .intro _ (.intro rfl ?_));(conv=>whnf)))
 refine aC (λh1=> ?_) (λh1=> ?_)
 ·have hj4:j < 4:=by omega
  have hbt:=aPt z (24 - 8 * j) (by omega)
  have hnx:=aN5 (uN z) j hj4
  ((conv=>whnf);repeat ((first|(refine And.intro hb63 ?_)|(refine And.intro hb48 ?_)|(refine And.intro (aQs hp2 hf2 aUi (Nat.le_of_ble_eq_true rfl) (by with_unfolding_all exact rfl)) ?_)|(intro hq;try simp only [lnS]at hq)|refine sI ?_|refine .intro _ (.intro rfl ?_));(conv=>whnf)))
  rw [show 8 * (3 - (j:Int))=((24 - 8 * j:Nat):Int)by omega,hbt,show 3 - (j:Int) - 1=3 - ((j+1:Nat):Int)by omega]
  refine⟨j+1,by dsimp only;omega,by dsimp only;omega, ?_⟩
  dsimp only
  rw [hnx,List.map_append,List.length_append]
  exact⟨by repeat' (first|exact trivial|exact rfl|refine And.intro ?_ ?_),by repeat' (first|exact trivial|exact rfl|refine And.intro ?_ ?_)⟩
 ·have hj4:j=4:=by omega
  subst hj4
  rw [List.take_of_length_le (by rw [hl];exact Nat.le_refl _)]
  ((conv=>whnf);repeat ((first|(intro hq;try simp only [lnS]at hq)|refine sI ?_|refine .intro _ (.intro rfl ?_));(conv=>whnf)))
  exact hk
theorem aHn (z:Int) (p:List UInt8) (hp:p.length<=100000000000) {pin:Pin}{fr:Fr}{K:SV->Hp->Prop}(hp1: ∀k,70<=k->k∉pin) (hf: ∀k,100<=k->k∉gC fr) (hk:K (.osl 70 1 ((p++beN 8 (uN z)).map aP)) [(70, .own 5 1 ((p++beN 8 (uN z)).map aP).length)]):
  aH Tryz.prog pin fr [(70, .own 5 1 (p.map aP).length)] 48 [.osl 70 1 (p.map aP), .d (.int .i64 z), .d (.int .i64 8)] K:=by
 have hl:(beN 8 (uN z)).length=8:=aU ..
 have hp2: ∀k,100<=k->k∉pin:= λk h=>hp1 k (by omega)
 refine aM false [] hty Tryz.func48 rfl (kp [0,1,2,6,7,11]) 100 (by simp [Tryz.f48]) ?_
 ((conv=>whnf);repeat ((first|(intro hq;try simp only [lnS]at hq)|refine sI ?_|refine .intro _ (.intro rfl ?_));(conv=>whnf)))
 refine aJ hty (λj:Nat=>([(0, .osl 70 1 ((p++(beN 8 (uN z)).take j).map aP)),(1, .d (.int .i64 z)),(7, .d (.int .i64 (7 - (j:Int))))],[(70, .own 5 1 ((p++(beN 8 (uN z)).take j).map aP).length)])) (λj=>j<=8) (λj=>8 - j) 0 (by omega) (by rw [List.take_zero,List.append_nil];exact⟨by repeat' (first|exact trivial|exact rfl|refine And.intro ?_ ?_),⟨rfl,trivial⟩⟩) ?_
 intro j hj
 have hml:=bX (p++(beN 8 (uN z)).take j)
 rw [List.length_append,List.length_take]at hml
 have hb63:((p++(beN 8 (uN z)).take j).map aP).length+1<=9223372036854775807:=by rw [hml];omega
 have hb48:(((p++(beN 8 (uN z)).take j).map aP).length+1)* 1<=140737488355328:=by rw [hml];omega
 ((conv=>whnf);repeat ((first|(intro hq;try simp only [lnS]at hq)|refine sI ?_|refine .intro _ (.intro rfl ?_));(conv=>whnf)))
 refine aC (λh1=> ?_) (λh1=> ?_)
 ·have hj8:j < 8:=by omega
  have hbt:=aPt z (56 - 8 * j) (by omega)
  have hnx:=aN4 (uN z) j hj8
  ((conv=>whnf);repeat ((first|(refine And.intro hb63 ?_)|(refine And.intro hb48 ?_)|(refine And.intro (aQs hp2 hf aUi (Nat.le_of_ble_eq_true rfl) (by with_unfolding_all exact rfl)) ?_)|(intro hq;try simp only [lnS]at hq)|refine sI ?_|refine .intro _ (.intro rfl ?_));(conv=>whnf)))
  rw [show 8 * (7 - (j:Int))=((56 - 8 * j:Nat):Int)by omega,hbt,show 7 - (j:Int) - 1=7 - ((j+1:Nat):Int)by omega]
  refine⟨j+1,by dsimp only;omega,by dsimp only;omega, ?_⟩
  dsimp only
  rw [hnx,<-List.append_assoc,cU _ [_],List.length_append]
  exact⟨by repeat' (first|exact trivial|exact rfl|refine And.intro ?_ ?_),by repeat' (first|exact trivial|exact rfl|refine And.intro ?_ ?_)⟩
 ·have hj8:j=8:=by omega
  subst hj8
  rw [List.take_of_length_le (by rw [hl];exact Nat.le_refl _)]
  ((conv=>whnf);repeat ((first|(intro hq;try simp only [lnS]at hq)|refine sI ?_|refine .intro _ (.intro rfl ?_));(conv=>whnf)))
  exact hk
end Go.Proofs.YtdjfkmkdkclahaaGreatDoor
namespace Go.Proofs.YtdjfkmkdkclahaaGreatDoor
open Go.Proofs Go.RowKit
set_option maxRecDepth 10000
attribute [local irreducible] aL aH Tri aI YVC bP aS
def bA (x:Ent):List D:=[.int .i64 x.no, .sl 6 (x.part.map atR)]
theorem aXo {fr:Fr}(h:gC fr=[]): ∀k,70<=k->k∉gC fr:=by
 rw [h];simp
theorem aEx (s:List UInt8) (n:Int) (x:Ent):Tri Tryz.prog 23 [.d (.str s), .d (.int .i64 n), .d (.agg (bA x))] [] (λr=>r= .tup [.d (.sl 1 ((jS (s,n,x)).1.map aP)), .d (.int .i64 (jS (s,n,x)).2)]):=by
 obtain⟨no,p⟩:=x
 refine Tri.says ?_
 have h1:=kU s
 have h2:=jD n
 have h3:=aBx p
 have h4:=xN ⟨[],[p]⟩
 have hE:jS (s,n,⟨no,p⟩)=if enE (s,n,⟨no,p⟩)=0 then (wEn (s,n,⟨no,p⟩),0)else ([],enE (s,n,⟨no,p⟩)):=rfl
 have hE2:enE (s,n,⟨no,p⟩)=if rdF s=false\/hX n=false\/no < 1\/1024 < no then 1 else ptE p:=rfl
 rw [show bA ⟨no,p⟩=[.int .i64 no, .sl 6 (p.map atR)]from rfl]
 rw [show aK p=[.sl 6 (p.map atR)]from rfl]at h3
 by_cases hbad:rdF s=false\/hX n=false\/no < 1\/1024 < no
 ·rw [hE,hE2,if_pos hbad,if_neg (by decide)]
  clear hE hE2 h3 h4
  generalize rdF s=r1 at *
  generalize hX n=r2 at *
  refine aG false [5] hty Tryz.func23 rfl (kp [0,1,2,5,6,7,8,26,35]) [] _ _ _ (by simp [Tryz.f23]) (by simp) ?_
  ((conv=>whnf);repeat' ((first|(intro hq;(try simp only [lnS]at hq);(try rewrite [List.length_map]))|refine sJ ?_|refine .intro _ (.intro rfl ?_)|refine exL (k:= ?_)|(refine aA [] h1 trivial (λr hs=> ?_);subst hs)|(refine aA [] h2 trivial (λr hs=> ?_);subst hs)|refine dwR ?_|((first|refine aC ?_ ?_|refine aD ?_ ?_)<;>intro hb<;>(first|exact ddX hb|try simp only [lnS]at hb))|(refine aB ?_ ?_<;>intro hb<;>try exact dsX hb))<;>(conv=>whnf)))
  ·exact⟨_,pairN (.d .nil) _,rfl⟩
  ·exact⟨_,pairN (.d .nil) _,rfl⟩
  ·exact⟨_,pairN (.d .nil) _,rfl⟩
  ·exact⟨_,pairN (.d .nil) _,rfl⟩
  ·exfalso
   rcases hbad with h|h|h|h
   ·subst h;simp_all
   ·subst h;simp_all
   ·omega
   ·omega
 ·have hr1:rdF s=true:=by
   cases h:rdF s
   ·exact absurd (.inl h) hbad
   ·rfl
  have hr2:hX n=true:=by
   cases h:hX n
   ·exact absurd (.inr (.inl h)) hbad
   ·rfl
  have hn1:¬ no < 1:= λh=>hbad (.inr (.inr (.inl h)))
  have hn2:¬ 1024 < no:= λh=>hbad (.inr (.inr (.inr h)))
  have hsl:s.length<=24:=by
   unfold rdF at hr1
   rw [Bool.and_eq_true]at hr1
   exact qH hr1.1
  have hqe:ptE p=qE ⟨[],[p]⟩:=rfl
  have hw1:=aH1 (q:=⟨[],[p]⟩)
  have hw2:=aK3 (q:=⟨[],[p]⟩)
  have hw3:=wN (q:=⟨[],[p]⟩)
  have hwe:wEn (s,n,⟨no,p⟩)=beN 4 s.length++s++beN 8 (uN n)++beN 8 (uN no)++wQy ⟨[],[p]⟩:=by
   unfold wEn bR gK
   simp only [List.append_assoc]
  rw [hr1]at h1
  rw [hr2]at h2
  rw [hE,hE2,if_neg hbad,hqe,hwe]
  clear hE hE2 hbad hqe hwe hr1 hr2
  rw [show qyR ⟨[],[p]⟩=[.sl 1 [], .sl 1 [[.sl 6 (p.map atR)]]]from rfl]at *
  generalize lA ⟨[],[p]⟩=res at *
  generalize wQy ⟨[],[p]⟩=out at *
  generalize qE ⟨[],[p]⟩=qe at *
  by_cases hqe:¬ qe=0
  ·rw [hw1 hqe]at h4
   refine aG false [5] hty Tryz.func23 rfl (kp [0,1,2,5,6,7,8,26,35]) [] _ _ _ (by simp [Tryz.f23]) (by simp) ?_
   ((conv=>whnf);repeat ((first|(refine aA [] h1 trivial (λr hs=> ?_);subst hs)|(refine aA [] h2 trivial (λr hs=> ?_);subst hs)|(intro hq;try simp only [lnS]at hq)|refine sI ?_|refine .intro _ (.intro rfl ?_));(conv=>whnf)))
   refine aC (λq1=>absurd q1 hn1) (λq1=> ?_)
   ((conv=>whnf);repeat ((first|(intro hq;try simp only [lnS]at hq)|refine sI ?_|refine .intro _ (.intro rfl ?_));(conv=>whnf)))
   refine aC (λq1=>absurd q1 hn2) (λq1=> ?_)
   ((conv=>whnf);repeat ((first|(refine aA [] h3 trivial (λr hs=> ?_);subst hs)|(refine aA [] h4 trivial (λr hs=> ?_);subst hs)|(intro hq;try simp only [lnS]at hq)|refine sI ?_|refine .intro _ (.intro rfl ?_));(conv=>whnf)))
   refine aD (λq1=> ?_) (λq1=>absurd q1 hqe)
   ((conv=>whnf);repeat ((first|(intro hq;try simp only [lnS]at hq)|refine sI ?_|refine .intro _ (.intro rfl ?_));(conv=>whnf)))
   exact⟨_,pairN (.d .nil) _,by rw [if_neg hqe]⟩
  have hqe:qe=0:=Decidable.not_not.1 hqe
  rw [hw2 hqe]at h4
  have hw3:=hw3 hqe
  rw [if_pos hqe]
  have l1:=bX (beN 4 s.length)
  rw [aU]at l1
  have e4:beN 4 (uN (s.length:Int))=beN 4 s.length:=by rw [aDx (by omega)]
  refine aG false [5] hty Tryz.func23 rfl (kp [0,1,2,5,6,7,8,26,35]) [] _ _ _ (by simp [Tryz.f23]) (by simp) ?_
  ((conv=>whnf);repeat ((first|(refine aA [] h1 trivial (λr hs=> ?_);subst hs)|(refine aA [] h2 trivial (λr hs=> ?_);subst hs)|(intro hq;try simp only [lnS]at hq)|refine sI ?_|refine .intro _ (.intro rfl ?_));(conv=>whnf)))
  refine aC (λq1=>absurd q1 hn1) (λq1=> ?_)
  ((conv=>whnf);repeat ((first|(intro hq;try simp only [lnS]at hq)|refine sI ?_|refine .intro _ (.intro rfl ?_));(conv=>whnf)))
  refine aC (λq1=>absurd q1 hn2) (λq1=> ?_)
  ((conv=>whnf);repeat ((first|(refine aA [] h3 trivial (λr hs=> ?_);subst hs)|(refine aA [] h4 trivial (λr hs=> ?_);subst hs)|(intro hq;try simp only [lnS]at hq)|refine sI ?_|refine .intro _ (.intro rfl ?_));(conv=>whnf)))
  refine aP5 s.length (λk _ h=>by cases h) (aXo (by with_unfolding_all exact rfl)) ?_
  rw [e4]
  ((conv=>whnf);repeat ((first|(intro hq;try simp only [lnS]at hq)|refine sI ?_|refine .intro _ (.intro rfl ?_));(conv=>whnf)))
  have e5:(beN 4 s.length).map aP++s.map aP=(beN 4 s.length++s).map aP:=(cU _ _).symm
  rw [<-List.length_append,e5]
  refine aHn n (beN 4 s.length++s) (by rw [List.length_append,aU];omega) (λk _ h=>by cases h) (aVu (by with_unfolding_all exact rfl)) ?_
  ((conv=>whnf);repeat ((first|(intro hq;try simp only [lnS]at hq)|refine sI ?_|refine .intro _ (.intro rfl ?_));(conv=>whnf)))
  refine aHn no (beN 4 s.length++s++beN 8 (uN n)) (by rw [List.length_append,List.length_append,aU,aU];omega) (λk _ h=>by cases h) (aVu (by with_unfolding_all exact rfl)) ?_
  have l3:(List.map aP (beN 4 s.length++s++beN 8 (uN n)++beN 8 (uN no))).length=4+s.length+8+8:=by rw [bX];simp only [List.length_append,aU]
  have l4:=bX out
  have hb63:(List.map aP (beN 4 s.length++s++beN 8 (uN n)++beN 8 (uN no))).length+(List.map aP out).length<=9223372036854775807:=by rw [l3,l4];omega
  have hb48:((List.map aP (beN 4 s.length++s++beN 8 (uN n)++beN 8 (uN no))).length+(List.map aP out).length)* 1<=140737488355328:=by rw [l3,l4];omega
  ((conv=>whnf);repeat ((first|(refine And.intro hb63 ?_)|(refine And.intro hb48 ?_)|(intro hq;try simp only [lnS]at hq)|refine sI ?_|refine .intro _ (.intro rfl ?_));(conv=>whnf)))
  refine⟨_, .refl _, ?_⟩
  show SV.tup [SV.d (D.sl 1 (List.map aP (beN 4 s.length++s++beN 8 (uN n)++beN 8 (uN no))++List.map aP out)),SV.d (D.int IntKind.i64 0)]=SV.tup [SV.d (D.sl 1 (List.map aP (beN 4 s.length++s++beN 8 (uN n)++beN 8 (uN no)++out))),SV.d (D.int IntKind.i64 0)]
  rw [cU _ out]
end Go.Proofs.YtdjfkmkdkclahaaGreatDoor
namespace Go.Proofs.YtdjfkmkdkclahaaGreatDoor
open Go.Proofs Go.RowKit
set_option maxRecDepth 10000
attribute [local irreducible] aL aH Tri aI YVC bP aS
def lgR (l:Lg):List D:=[.str l.reader, .int .i64 l.version, .sl 2 (l.entries.map bA)]
theorem aCk (a b:At):Tri Tryz.prog 75 [.d (.agg (atR a)), .d (.agg (atR b))] [] (λr=>r= .d (.bool (decide (a=b)))):=by
 have h:=aTj a b
 rw [dO,dO]
 refine aG false [2,3] hty Tryz.func75 rfl (kp [0,1,2,3,4]) [] _ _ _ (by simp [Tryz.f75]) (by simp) ?_
 ((conv=>whnf);repeat ((first|(refine And.intro aTg ?_)|(intro hq;try simp only [lnS]at hq)|refine sI ?_|refine .intro _ (.intro rfl ?_));(conv=>whnf)))
 refine aN ?_
 rw [h];rfl
theorem aG3 (l m:List At):Tri Tryz.prog 74 [.d (.sl 6 (l.map atR)), .d (.sl 6 (m.map atR)), .fn 75 [] []] [] (λr=>r= .d (.bool (decide (l=m)))):=by
 have hl:(l.map atR).length=l.length:=List.length_map ..
 have hm:(m.map atR).length=m.length:=List.length_map ..
 refine aG false [] hty Tryz.func74 rfl (kp [0,1,2,6,7,12,14,15,16,28]) [] _ _ _ (by simp [Tryz.f74]) (by simp) ?_
 ((conv=>whnf);repeat ((first|(intro hq;try simp only [lnS]at hq)|refine sI ?_|refine .intro _ (.intro rfl ?_));(conv=>whnf)))
 refine aD (λh1=> ?_) (λh1=> ?_)
 ·((conv=>whnf);repeat' ((first|(intro hq;(try simp only [lnS]at hq);(try rewrite [List.length_map]))|refine sJ ?_|refine .intro _ (.intro rfl ?_)|refine exL (k:= ?_)|refine dwR ?_|((first|refine aC ?_ ?_|refine aD ?_ ?_)<;>intro hb<;>(first|exact ddX hb|try simp only [lnS]at hb))|(refine aB ?_ ?_<;>intro hb<;>try exact dsX hb))<;>(conv=>whnf)))
  refine aN ?_
  rw [decide_eq_false]
  intro e
  subst e
  exact h1 rfl
 ·have h1:l.length=m.length:=by
   have h2:(((l.map atR).length:Nat):Int)=((m.map atR).length:Nat):=by simpa using h1
   rw [hl,hm]at h2
   omega
  ((conv=>whnf);repeat ((first|(intro hq;try simp only [lnS]at hq)|refine sI ?_|refine .intro _ (.intro rfl ?_));(conv=>whnf)))
  refine aJ hty (λj:Nat=>([(0, .d (.sl 6 (l.map atR))),(1, .d (.sl 6 (m.map atR))),(2, .fn 75 [] []),(14, .d (.int .i64 l.length)),(15, .d (.int .i64 j))],[])) (λj=>j<=l.length/\l.take j=m.take j) (λj=>l.length - j) 0 ⟨Nat.zero_le _,rfl⟩ ⟨by repeat' (first|exact trivial|exact rfl|(rw [List.length_map];exact rfl)|refine And.intro ?_ ?_),trivial⟩ ?_
  rintro j ⟨hj,ht⟩
  ((conv=>whnf);repeat ((first|(intro hq;try simp only [lnS]at hq)|refine sI ?_|refine .intro _ (.intro rfl ?_));(conv=>whnf)))
  refine aC (λh2=> ?_) (λh2=> ?_)
  ·have hjl:j < l.length:=by omega
   have hjm:j < m.length:=by omega
   have hrow:(l.map atR)[((j:Nat):Int).toNat]? =some (atR l[j]):=aO hjl
   have hrow2:(m.map atR)[((j:Nat):Int).toNat]? =some (atR m[j]):=aO hjm
   have hc:=aCk l[j] m[j]
   have hs1:l.take (j+1)=l.take j++[l[j]]:=List.take_succ_eq_append_getElem hjl
   have hs2:m.take (j+1)=m.take j++[m[j]]:=List.take_succ_eq_append_getElem hjm
   rw [show atR l[j]=[.int .i64 l[j].kind, .str l[j].name, .str l[j].x, .str l[j].y, .int .i64 l[j].lo, .int .i64 l[j].hi]from rfl]at hrow hc
   rw [show atR m[j]=[.int .i64 m[j].kind, .str m[j].name, .str m[j].x, .str m[j].y, .int .i64 m[j].lo, .int .i64 m[j].hi]from rfl]at hrow2 hc
   ((conv=>whnf);repeat ((first|(intro hq;try simp only [lnS]at hq)|refine sI ?_|refine .intro _ (.intro rfl ?_));(conv=>whnf)))
   refine dwR ?_
   ((conv=>whnf);repeat ((first|(refine⟨_,hrow, ?_⟩)|(refine⟨_,hrow2, ?_⟩)|(refine⟨.d (.bool _),_,[],rfl,trivial,hc, ?_⟩)|(intro hq;try simp only [lnS]at hq)|refine sI ?_|refine .intro _ (.intro rfl ?_));(conv=>whnf)))
   by_cases he:l[j]=m[j]
   ·rw [decide_eq_true he]
    ((conv=>whnf);repeat ((first|(intro hq;try simp only [lnS]at hq)|refine sI ?_|refine .intro _ (.intro rfl ?_));(conv=>whnf)))
    exact⟨j+1,⟨by omega,by rw [hs1,hs2,ht,he]⟩,by dsimp only;omega,by repeat' (first|exact trivial|exact rfl|refine And.intro ?_ ?_),trivial⟩
   ·rw [decide_eq_false he]
    ((conv=>whnf);repeat ((first|(intro hq;try simp only [lnS]at hq)|refine sI ?_|refine .intro _ (.intro rfl ?_));(conv=>whnf)))
    refine aN ?_
    rw [decide_eq_false]
    intro e
    subst e
    exact he rfl
  ·have hjl:j=l.length:=by omega
   subst hjl
   rw [List.take_length,h1,List.take_length]at ht
   ((conv=>whnf);repeat ((first|(intro hq;try simp only [lnS]at hq)|refine sI ?_|refine .intro _ (.intro rfl ?_));(conv=>whnf)))
   refine aN ?_
   rw [decide_eq_true ht]
theorem iW (p q:List At):Tri Tryz.prog 40 [.d (.agg (aK p)), .d (.agg (aK q))] [] (λr=>r= .d (.bool (decide (p=q)))):=by
 have h:=aG3 p q
 rw [show aK p=[.sl 6 (p.map atR)]from rfl,show aK q=[.sl 6 (q.map atR)]from rfl]
 refine aG false [2,3] hty Tryz.func40 rfl (kp [0,1,2,3,4]) [] _ _ _ (by simp [Tryz.f40]) (by simp) ?_
 ((conv=>whnf);repeat ((first|(refine aA [] h trivial (λr hs=> ?_);subst hs)|(intro hq;try simp only [lnS]at hq)|refine sI ?_|refine .intro _ (.intro rfl ?_));(conv=>whnf)))
 rfl
theorem aQv {x y:Ent}:x=y↔x.no=y.no/\x.part=y.part:=by cases x;cases y;simp
theorem aAa (x y:Ent):Tri Tryz.prog 65 [.d (.agg (bA x)), .d (.agg (bA y))] [] (λr=>r= .d (.bool (decide (x=y)))):=by
 have h:=iW x.part y.part
 have he:= @aQv x y
 rw [show aK x.part=[.sl 6 (x.part.map atR)]from rfl,show aK y.part=[.sl 6 (y.part.map atR)]from rfl]at h
 rw [show bA x=[.int .i64 x.no, .sl 6 (x.part.map atR)]from rfl,show bA y=[.int .i64 y.no, .sl 6 (y.part.map atR)]from rfl]
 refine aG false [2,3] hty Tryz.func65 rfl (kp [0,1,2,3,4]) [] _ _ _ (by simp [Tryz.f65]) (by simp) ?_
 ((conv=>whnf);repeat' ((first|(intro hq;(try simp only [lnS]at hq);(try rewrite [List.length_map]))|refine sJ ?_|refine .intro _ (.intro rfl ?_)|refine exL (k:= ?_)|(refine aA [] h trivial (λr hs=> ?_);subst hs)|refine dwR ?_|((first|refine aC ?_ ?_|refine aD ?_ ?_)<;>intro hb<;>(first|exact ddX hb|try simp only [lnS]at hb))|(refine aB ?_ ?_<;>intro hb<;>try exact dsX hb))<;>(conv=>whnf)))
 ·refine aN ?_
  rw [decide_eq_decide,he]
  exact⟨λh=>⟨hb,h⟩,λh=>h.2⟩
 ·refine aN ?_
  rw [decide_eq_false]
  exact λe=>hb (he.1 e).1
theorem aG2 (l m:List Ent):Tri Tryz.prog 64 [.d (.sl 2 (l.map bA)), .d (.sl 2 (m.map bA)), .fn 65 [] []] [] (λr=>r= .d (.bool (decide (l=m)))):=by
 have hl:(l.map bA).length=l.length:=List.length_map ..
 have hm:(m.map bA).length=m.length:=List.length_map ..
 refine aG false [] hty Tryz.func64 rfl (kp [0,1,2,6,7,12,14,15,16,28]) [] _ _ _ (by simp [Tryz.f64]) (by simp) ?_
 ((conv=>whnf);repeat ((first|(intro hq;try simp only [lnS]at hq)|refine sI ?_|refine .intro _ (.intro rfl ?_));(conv=>whnf)))
 refine aD (λh1=> ?_) (λh1=> ?_)
 ·((conv=>whnf);repeat' ((first|(intro hq;(try simp only [lnS]at hq);(try rewrite [List.length_map]))|refine sJ ?_|refine .intro _ (.intro rfl ?_)|refine exL (k:= ?_)|refine dwR ?_|((first|refine aC ?_ ?_|refine aD ?_ ?_)<;>intro hb<;>(first|exact ddX hb|try simp only [lnS]at hb))|(refine aB ?_ ?_<;>intro hb<;>try exact dsX hb))<;>(conv=>whnf)))
  refine aN ?_
  rw [decide_eq_false]
  intro e
  subst e
  exact h1 rfl
 ·have h1:l.length=m.length:=by
   have h2:(((l.map bA).length:Nat):Int)=((m.map bA).length:Nat):=by simpa using h1
   rw [hl,hm]at h2
   omega
  ((conv=>whnf);repeat ((first|(intro hq;try simp only [lnS]at hq)|refine sI ?_|refine .intro _ (.intro rfl ?_));(conv=>whnf)))
  refine aJ hty (λj:Nat=>([(0, .d (.sl 2 (l.map bA))),(1, .d (.sl 2 (m.map bA))),(2, .fn 65 [] []),(14, .d (.int .i64 l.length)),(15, .d (.int .i64 j))],[])) (λj=>j<=l.length/\l.take j=m.take j) (λj=>l.length - j) 0 ⟨Nat.zero_le _,rfl⟩ ⟨by repeat' (first|exact trivial|exact rfl|(rw [List.length_map];exact rfl)|refine And.intro ?_ ?_),trivial⟩ ?_
  rintro j ⟨hj,ht⟩
  ((conv=>whnf);repeat ((first|(intro hq;try simp only [lnS]at hq)|refine sI ?_|refine .intro _ (.intro rfl ?_));(conv=>whnf)))
  refine aC (λh2=> ?_) (λh2=> ?_)
  ·have hjl:j < l.length:=by omega
   have hjm:j < m.length:=by omega
   have hrow:(l.map bA)[((j:Nat):Int).toNat]? =some (bA l[j]):=aO hjl
   have hrow2:(m.map bA)[((j:Nat):Int).toNat]? =some (bA m[j]):=aO hjm
   have hc:=aAa l[j] m[j]
   have hs1:l.take (j+1)=l.take j++[l[j]]:=List.take_succ_eq_append_getElem hjl
   have hs2:m.take (j+1)=m.take j++[m[j]]:=List.take_succ_eq_append_getElem hjm
   rw [show bA l[j]=[.int .i64 l[j].no, .sl 6 (l[j].part.map atR)]from rfl]at hrow hc
   rw [show bA m[j]=[.int .i64 m[j].no, .sl 6 (m[j].part.map atR)]from rfl]at hrow2 hc
   ((conv=>whnf);repeat ((first|(intro hq;try simp only [lnS]at hq)|refine sI ?_|refine .intro _ (.intro rfl ?_));(conv=>whnf)))
   refine dwR ?_
   ((conv=>whnf);repeat ((first|(refine⟨_,hrow, ?_⟩)|(refine⟨_,hrow2, ?_⟩)|(refine⟨.d (.bool _),_,[],rfl,trivial,hc, ?_⟩)|(intro hq;try simp only [lnS]at hq)|refine sI ?_|refine .intro _ (.intro rfl ?_));(conv=>whnf)))
   by_cases he:l[j]=m[j]
   ·rw [decide_eq_true he]
    ((conv=>whnf);repeat ((first|(intro hq;try simp only [lnS]at hq)|refine sI ?_|refine .intro _ (.intro rfl ?_));(conv=>whnf)))
    exact⟨j+1,⟨by omega,by rw [hs1,hs2,ht,he]⟩,by dsimp only;omega,by repeat' (first|exact trivial|exact rfl|refine And.intro ?_ ?_),trivial⟩
   ·rw [decide_eq_false he]
    ((conv=>whnf);repeat ((first|(intro hq;try simp only [lnS]at hq)|refine sI ?_|refine .intro _ (.intro rfl ?_));(conv=>whnf)))
    refine aN ?_
    rw [decide_eq_false]
    intro e
    subst e
    exact he rfl
  ·have hjl:j=l.length:=by omega
   subst hjl
   rw [List.take_length,h1,List.take_length]at ht
   ((conv=>whnf);repeat ((first|(intro hq;try simp only [lnS]at hq)|refine sI ?_|refine .intro _ (.intro rfl ?_));(conv=>whnf)))
   refine aN ?_
   rw [decide_eq_true ht]
theorem rQ (s:List UInt8) (n:Int):Tri Tryz.prog 12 [.d (.str s), .d (.int .i64 n)] [] (λr=>r= .tup [.d (.agg (lgR (aDj s n).1)), .d (.int .i64 (aDj s n).2)]):=by
 have h1:=kU s
 have h2:=jD n
 unfold aDj
 generalize rdF s=b1 at *
 generalize hX n=b2 at *
 refine Tri.says ?_
 refine aG false [] hty Tryz.func12 rfl (kp [0,1,4,5,13]) [] _ _ _ (by simp [Tryz.f12]) (by simp) ?_
 cases b1<;>cases b2
 all_goals
  ((conv=>whnf);repeat' ((first|(intro hq;(try simp only [lnS]at hq);(try rewrite [List.length_map]))|refine sJ ?_|refine .intro _ (.intro rfl ?_)|refine exL (k:= ?_)|(refine aA [] h1 trivial (λr hs=> ?_);subst hs)|(refine aA [] h2 trivial (λr hs=> ?_);subst hs)|refine dwR ?_|((first|refine aC ?_ ?_|refine aD ?_ ?_)<;>intro hb<;>(first|exact ddX hb|try simp only [lnS]at hb))|(refine aB ?_ ?_<;>intro hb<;>try exact dsX hb))<;>(conv=>whnf)))
 all_goals exact⟨_,bW.pair (bW.wkd (by repeat' (first|exact trivial|exact rfl|refine And.intro ?_ ?_))),rfl⟩
theorem aBm (l:Lg):Tri Tryz.prog 17 [.d (.agg (lgR l))] [] (λr=>r= .d (.int .i64 (aLv l))):=by
 have hl:(l.entries.map bA).length=l.entries.length:=List.length_map ..
 show Tri Tryz.prog 17 [.d (.agg [.str l.reader, .int .i64 l.version, .sl 2 (l.entries.map bA)])] [] _
 refine aG false [1] hty Tryz.func17 rfl (kp [0,1,2]) [] _ _ _ (by simp [Tryz.f17]) (by simp) ?_
 ((conv=>whnf);repeat ((first|(refine aLp rfl rfl rfl ?_)|(intro hq;try simp only [lnS]at hq)|refine sI ?_|refine .intro _ (.intro rfl ?_));(conv=>whnf)))
 refine gB ?_
 unfold aLv
 split<;>omega
def aGs (es:List Ent) (p:List At):Int:=match es.findIdx? (λx=>decide (x.part=p))with
 |some k=>k
 |none=> -1
theorem aGr {es:List Ent}{p:List At}{j:Nat}(hj:j < es.length) (h: ∀x∈es.take j,x.part≠p) (he:es[j].part=p):aGs es p=j:=by
 unfold aGs
 rw [List.findIdx?_eq_some_iff_getElem.2 ⟨hj, by simpa using he, λk hk => by
  have:=h es[k] (List.mem_take_iff_getElem.2 ⟨k,by omega,rfl⟩)
  simpa using this⟩]
theorem aFa {es:List Ent}{p:List At}(h: ∀x∈es,x.part≠p):aGs es p= -1:=by
 unfold aGs
 rw [List.findIdx?_eq_none_iff.2 λx hx=>by simpa using h x hx]
theorem aPf {es:List Ent}{p:List At}:0<=aGs es p↔p∈es.map Ent.part:=by
 unfold aGs
 cases h:es.findIdx? (λx=>decide (x.part=p))with
 |none=>
  have:=List.findIdx?_eq_none_iff.1 h
  refine⟨λh=>by simp at h,λhm=> ?_⟩
  obtain⟨x,hx,e⟩:=List.mem_map.1 hm
  have:=this x hx
  simp [e]at this
 |some k=>
  obtain⟨hk,h1,_⟩:=List.findIdx?_eq_some_iff_getElem.1 h
  refine⟨λ_=>List.mem_map.2 ⟨es[k],List.getElem_mem hk,by simpa using h1⟩,λ_=>by dsimp only;omega⟩
theorem aI5 (es:List Ent) (p:List At):(aQu es p=none/\aGs es p= -1)\/ ∃(k:Nat) (hk:k < es.length),aGs es p=k/\aQu es p=some es[k].no:=by
 induction es with
 |nil=>exact .inl ⟨rfl,rfl⟩
 |cons x r ih=>
  by_cases hx:x.part=p
  ·refine .inr ⟨0,by simp, ?_, ?_⟩
   ·exact aGr (j:=0) (by simp) (by simp) hx
   ·rw [aQu,if_pos hx];rfl
  ·have e:aGs (x::r) p=if aGs r p < 0 then -1 else aGs r p+1:=by
    unfold aGs
    rw [List.findIdx?_cons]
    rw [if_neg (by simpa using hx)]
    cases r.findIdx? (λx=>decide (x.part=p))with
    |none=>rfl
    |some k=>simp only [Option.map_some];rw [if_neg (by omega)];omega
   rw [aQu,if_neg hx,e]
   rcases ih with⟨h1,h2⟩|⟨k,hk,h1,h2⟩
   ·exact .inl ⟨h1,by rw [h2];rfl⟩
   ·refine .inr ⟨k+1,by simp;omega, ?_, ?_⟩
    ·rw [h1,if_neg (by omega)];omega
    ·rw [h2];rfl
theorem sW (es:List Ent) (p:List At):Tri Tryz.prog 41 [.d (.sl 2 (es.map bA)), .d (.agg (aK p))] [] (λr=>r= .d (.int .i64 (aGs es p))):=by
 have hl:(es.map bA).length=es.length:=List.length_map ..
 rw [show aK p=[.sl 6 (p.map atR)]from rfl]
 refine aG false [3,6] hty Tryz.func41 rfl (kp [0,1,3,4,5,6,7,8,9,10,17]) [] _ _ _ (by simp [Tryz.f41]) (by simp) ?_
 ((conv=>whnf);repeat ((first|(intro hq;try simp only [lnS]at hq)|refine sI ?_|refine .intro _ (.intro rfl ?_));(conv=>whnf)))
 refine aJ hty (λj:Nat=>([(3, .ea 1 [[.sl 6 (p.map atR)]] 0 0),(7, .d (.sl 2 (es.map bA))),(8, .d (.int .i64 es.length)),(9, .d (.int .i64 j))],[])) (λj=>j<=es.length/\ ∀x∈es.take j,x.part≠p) (λj=>es.length - j) 0 ⟨Nat.zero_le _,λx hx=>by simp at hx⟩ ⟨by repeat' (first|exact trivial|exact rfl|(rw [List.length_map];exact rfl)|refine And.intro ?_ ?_),trivial⟩ ?_
 rintro j ⟨hj,hn⟩
 ((conv=>whnf);repeat ((first|(intro hq;try simp only [lnS]at hq)|refine sI ?_|refine .intro _ (.intro rfl ?_));(conv=>whnf)))
 refine aC (λh1=> ?_) (λh1=> ?_)
 ·have hjl:j < es.length:=by omega
  have hrow:(es.map bA)[((j:Nat):Int).toNat]? =some (bA es[j]):=aO hjl
  have hc:=iW es[j].part p
  have hx:= @aGr es p j hjl hn
  have hs: ∀x∈es.take (j+1),x∈es.take j\/x=es[j]:= λx hx=>by
   rw [List.take_succ_eq_append_getElem hjl,List.mem_append,List.mem_singleton]at hx
   exact hx
  rw [show bA es[j]=[.int .i64 es[j].no, .sl 6 (es[j].part.map atR)]from rfl]at hrow
  rw [show aK p=[.sl 6 (p.map atR)]from rfl,show aK es[j].part=[.sl 6 (es[j].part.map atR)]from rfl]at hc
  ((conv=>whnf);repeat ((first|(refine⟨_,hrow, ?_⟩)|(refine aA [] hc trivial (λr hs=> ?_);subst hs)|(intro hq;try simp only [lnS]at hq)|refine sI ?_|refine .intro _ (.intro rfl ?_));(conv=>whnf)))
  by_cases he:es[j].part=p
  ·rw [decide_eq_true he]
   ((conv=>whnf);repeat ((first|(intro hq;try simp only [lnS]at hq)|refine sI ?_|refine .intro _ (.intro rfl ?_));(conv=>whnf)))
   exact gB (hx he).symm
  ·rw [decide_eq_false he]
   ((conv=>whnf);repeat ((first|(intro hq;try simp only [lnS]at hq)|refine sI ?_|refine .intro _ (.intro rfl ?_));(conv=>whnf)))
   refine⟨j+1,⟨by omega,λx hx=> ?_⟩,by dsimp only;omega,by repeat' (first|exact trivial|exact rfl|refine And.intro ?_ ?_),trivial⟩
   rcases hs x hx with h|rfl
   ·exact hn x h
   ·exact he
 ·have hjl:j=es.length:=by omega
  subst hjl
  rw [List.take_length]at hn
  ((conv=>whnf);repeat ((first|(intro hq;try simp only [lnS]at hq)|refine sI ?_|refine .intro _ (.intro rfl ?_));(conv=>whnf)))
  exact gB (aFa hn).symm
end Go.Proofs.YtdjfkmkdkclahaaGreatDoor
namespace Go.Proofs.YtdjfkmkdkclahaaGreatDoor
open Go.Proofs Go.RowKit Go.ChangeShapes
set_option maxRecDepth 100000
theorem aQa:aDy Tryz.prog 42=some [3,35]:=by kernel_rfl
theorem aO1:Tryz.prog.underlying 22=some (.slice 42):=by kernel_rfl
theorem aKh:aDy Tryz.prog 24=some [9,3,22]:=by kernel_rfl
theorem uI2:Tryz.prog.underlying 65=some (.array 2 3):=by kernel_rfl
theorem aV1:Tryz.prog.cellsOf 42=2:=by kernel_rfl
def TYL:List TypeId:=35::60::51::33::43::5::42::22::24::57::65::TT
theorem clL:Cl Tryz.prog (· ∈TYL):=aWq (by kernel_rfl)
theorem aIc {n:Nat}{ds:List D}(h:TyD Tryz.prog n 42 ds): ∃x:Ent,ds=bA x:=by
 obtain⟨m,rfl,a1,b1,rfl,h1,a2,b2,rfl,h2,rfl⟩:=lD aQa h
 obtain⟨k,rfl,_⟩:=kA u3 h1
 obtain⟨p,rfl⟩:=zV h2
 exact⟨⟨k,p⟩,rfl⟩
theorem aT8 {n:Nat}{ds:List D}(h:TyD Tryz.prog n 42 ds): ∃x:Ent,iR Tryz.prog 42 ds= .d (.agg (bA x)):=by
 rw [aC6 aQa]
 obtain⟨x,rfl⟩:=aIc h
 exact⟨x,rfl⟩
theorem aQz {n:Nat}{ds:List D}(h:TyD Tryz.prog n 24 ds): ∃l:Lg,iR Tryz.prog 24 ds= .d (.agg (lgR l)):=by
 rw [aC6 aKh]
 obtain⟨m,rfl,a1,b1,rfl,h1,a2,b2,rfl,h2,a3,b3,rfl,h3,rfl⟩:=lD aKh h
 obtain⟨s,rfl,_⟩:=iA u9 h1
 obtain⟨k,rfl,_⟩:=kA u3 h2
 obtain⟨m,rfl,rows,rfl,hn,hr⟩:=pM aO1 h3
 obtain⟨es,rfl⟩:=wX (f:=bA) (λr hr=>aIc hr) rows hr
 exact⟨⟨s,k,es⟩,by rw [aV1];rfl⟩
theorem aQ3 {n:Nat}{ds:List D}(h:TyD Tryz.prog n 35 ds): ∃p:List At,iR Tryz.prog 35 ds= .d (.agg (aK p)):=by
 rw [aC6 aTr]
 obtain⟨p,rfl⟩:=zV h
 exact⟨p,rfl⟩
theorem aFn {n:Nat}{ds:List D}(h:TyD Tryz.prog n 51 ds): ∃l:List (List At),iR Tryz.prog 51 ds= .d (.sl 1 (l.map aK)):=by
 obtain⟨m,rfl,rows,rfl,hn,hr⟩:=pM aQ9 h
 obtain⟨l,rfl⟩:=wX (f:=aK) (λr hr=>zV hr) rows hr
 exact⟨l,by simp only [iR,aQ9,aWr]⟩
theorem aV7 {n:Nat}{ds:List D}(h:TyD Tryz.prog n 9 ds): ∃s:List UInt8,iR Tryz.prog 9 ds= .d (.str s):=by
 obtain⟨s,rfl,_⟩:=iA u9 h
 exact⟨s,by simp only [iR,u9]⟩
theorem aWy {n:Nat}{ds:List D}(h:TyD Tryz.prog n 5 ds): ∃c:UInt8,iR Tryz.prog 5 ds= .d (.int .u8 c.toNat):=by
 obtain⟨c,rfl⟩:=aQc aRc h
 exact⟨c,by simp only [iR,aRc]⟩
theorem aV8 {n:Nat}{ds:List D}(h:TyD Tryz.prog n 65 ds): ∃a b,iR Tryz.prog 65 ds= .d (.agg [.int .i64 a, .int .i64 b]):=by
 obtain⟨m,rfl,a1,b1,rfl,h1,a2,b2,rfl,h2,rfl⟩:=aKi uI2 h
 obtain⟨a,rfl,_⟩:=kA u3 h1
 obtain⟨b,rfl,_⟩:=kA u3 h2
 exact⟨a,b,by simp only [iR,uI2];rfl⟩
def mN:List (String×DataW Unit):=[("math/bits.deBruijn32tab",Rows.laid_math_bits_deBruijn32tab),("math/bits.deBruijn64tab",Rows.laid_math_bits_deBruijn64tab),("internal/strconv.uint64pow10",Rows.laid_internal_strconv_uint64pow10),("veilstone/terms.needs",Rows.laid_veilstone_terms_needs),("veilstone/terms.uses",Rows.laid_veilstone_terms_uses)]
theorem gN {W:World}: ∀ρ:Env,ρ.S=below W-> ∀id o,aR [] id=some o->RO W ρ id o:= λρ _ id o h=>by simp [aR]at h
end Go.Proofs.YtdjfkmkdkclahaaGreatDoor
namespace Go.Proofs.YtdjfkmkdkclahaaGreatDoor
open Go.Proofs Go.RowKit
set_option maxRecDepth 10000
attribute [local irreducible] aL aH Tri aI YVC bP aS
theorem aAe (k:Nat) (h:k<=9):Tri Tryz.prog 126 [.d (.int .i64 k)] [] (λr=>r= .d (.str [UInt8.ofNat (48+k)])):=by
 have e:k=0\/k=1\/k=2\/k=3\/k=4\/k=5\/k=6\/k=7\/k=8\/k=9:=by omega
 rcases e with rfl|rfl|rfl|rfl|rfl|rfl|rfl|rfl|rfl|rfl
 all_goals
  refine aF hty Tryz.func126 rfl (kp [0,2,4,10]) [] _ _ _ (by simp [Tryz.f126]) (by simp) ?_
  ((conv=>whnf);repeat' ((first|(intro hq;(try simp only [lnS]at hq);(try rewrite [List.length_map]))|refine sJ ?_|refine .intro _ (.intro rfl ?_)|refine exL (k:= ?_)|refine dwR ?_|((first|refine aC ?_ ?_|refine aD ?_ ?_)<;>intro hb<;>(first|exact ddX hb|try simp only [lnS]at hb))|(refine aB ?_ ?_<;>intro hb<;>try exact dsX hb))<;>(conv=>whnf)))
  rfl
theorem aJ8 (b:Bool):Tri Tryz.prog 215 [.d (.bool b)] [] (λr=>r= .d (.int .i64 (if b then -1 else 1))):=by
 cases b
 all_goals
  refine aF hty Tryz.func215 rfl (kp [0,2,3]) [] _ _ _ (by simp [Tryz.f215]) (by simp) ?_
  ((conv=>whnf);repeat' ((first|(intro hq;(try simp only [lnS]at hq);(try rewrite [List.length_map]))|refine sJ ?_|refine .intro _ (.intro rfl ?_)|refine exL (k:= ?_)|refine dwR ?_|((first|refine aC ?_ ?_|refine aD ?_ ?_)<;>intro hb<;>(first|exact ddX hb|try simp only [lnS]at hb))|(refine aB ?_ ?_<;>intro hb<;>try exact dsX hb))<;>(conv=>whnf)))
  rfl
theorem aLg {a b:Int}(h:¬ a=b) (r:List Int):(if decide (a < b)=true then (-1:Int)else 1)=orF (aA7 a b::r):=by
 have h0:aA7 a b≠0:= λe=>h (gG.1 e)
 rw [orF,if_pos h0]
 unfold aA7
 by_cases h1:a < b
 ·rw [if_pos (decide_eq_true h1),if_pos h1]
 ·rw [if_neg (by simpa using h1),if_neg h1,if_pos (by omega)]
theorem qF {a b:Int}(h:a=b) (r:List Int):orF (aA7 a b::r)=orF r:=by rw [orF,gG.2 h];rfl
theorem aLh {a b:List UInt8}(h:¬ a=b) (r:List Int):(if Op.bytesLess a b=true then (-1:Int)else 1)=orF (eG a b::r):=by
 have h0:eG a b≠0:= λe=>h ((cM a b).1 e)
 rw [orF,if_pos h0,dN]
 have:=lT a b
 by_cases h1:eG a b < 0
 ·rw [if_pos (decide_eq_true h1)];omega
 ·rw [if_neg (by simpa using h1)];omega
theorem jQ {a b:List UInt8}(h:a=b) (r:List Int):orF (eG a b::r)=orF r:=by rw [orF,(cM a b).2 h];rfl
theorem kK (a b:At):Tri Tryz.prog 180 [.d (.agg (atR a)), .d (.agg (atR b))] [] (λr=>r= .d (.int .i64 (bM a b))):=by
 have hs:=aJ8
 rw [aIh]
 rw [show atR a=[.int .i64 a.kind, .str a.name, .str a.x, .str a.y, .int .i64 a.lo, .int .i64 a.hi]from rfl,show atR b=[.int .i64 b.kind, .str b.name, .str b.x, .str b.y, .int .i64 b.lo, .int .i64 b.hi]from rfl]
 refine aG false [2,3] hty Tryz.func180 rfl (kp [0,1,2,3,4,9,20,31,42,53,64]) [] _ _ _ (by simp [Tryz.f180]) (by simp) ?_
 ((conv=>whnf);repeat' ((first|(intro hq;(try simp only [lnS]at hq);(try rewrite [List.length_map]))|refine sJ ?_|refine .intro _ (.intro rfl ?_)|refine exL (k:= ?_)|(refine aA [] (hs _) trivial (λr hs=> ?_);subst hs)|refine dwR ?_|((first|refine aC ?_ ?_|refine aD ?_ ?_)<;>intro hb<;>(first|exact ddX hb|try simp only [lnS]at hb))|(refine aB ?_ ?_<;>intro hb<;>try exact dsX hb))<;>(conv=>whnf)))
 all_goals refine gB ?_
 ·exact aLg hb _
 ·rename_i h1
  rw [qF h1]
  exact aLh hb _
 ·rename_i h1 h2
  rw [qF h1,jQ h2]
  exact aLh hb _
 ·rename_i h1 h2 h3
  rw [qF h1,jQ h2,jQ h3]
  exact aLh hb _
 ·rename_i h1 h2 h3 h4
  rw [qF h1,jQ h2,jQ h3,jQ h4]
  exact aLg hb _
 ·rename_i h1 h2 h3 h4 h5
  rw [qF h1,jQ h2,jQ h3,jQ h4,qF h5]
  exact aLg hb _
 ·rename_i h1 h2 h3 h4 h5
  rw [qF h1,jQ h2,jQ h3,jQ h4,qF h5,qF hb]
  rfl
end Go.Proofs.YtdjfkmkdkclahaaGreatDoor
namespace Go.Proofs.YtdjfkmkdkclahaaGreatDoor
open Go.Proofs
theorem aL.midE {C:Cfg}{c:Code}{fr:Fr}{hp:Hp}{K:Ex->Fr->Hp->Prop}{α:Type}(Ok:α->Prop) (FR:α->Fr) (HP:α->Hp) (h:aL C c fr hp (λe fr' hp'=>e= .normal/\ ∃a,Sub fr' hp' (FR a) (HP a)/\Ok a)) (hk: ∀a,Ok a->K .normal (FR a) (HP a)):aL C c fr hp K:=
 λE a w hpin hrd hsat=>wpIn_mono (h E a w hpin hrd hsat) λ_ _ _ ⟨x,fr',hp',E',h0,h1,h2,h3⟩=>by
  cases x with
  |pan=>exact⟨.pan,fr',hp',E',h0,h1,h2,h3⟩
  |normal=>obtain⟨_,a,hs,ho⟩:=h2;exact⟨.normal,FR a,HP a,E',h0,h1,hk a ho,h3.sub hs⟩
  |_=>obtain⟨e,_⟩:=h2;cases e
end Go.Proofs.YtdjfkmkdkclahaaGreatDoor
