/-
  Queries: canonical names of the query of a part; ledger.canonical. Ledgers: numbers are written; Encode. Ledgers: Encode. Ledgers: equal lists, parts, entries; find; New, Left, Before. Ledgers: the types that come in. Queries, the reference: numbers, the order of atoms and of lists. A statement whose ends are many: what they have in common is told once, up to a value that is found at the end.
  Conditions: none.
-/
import Derived.Test.YtdjfkmkdkclahaaGreatDoorWSza
import Derived.Test.YtdjfkmkdkclahaaGreatDoorWQqh
import Derived.Test.YtdjfkmkdkclahaaGreatDoorWSnb
import Derived.Test.YtdjfkmkdkclahaaGreatDoorWOh
import Derived.Test.YtdjfkmkdkclahaaGreatDoorWSyv
import Derived.Test.YtdjfkmkdkclahaaGreatDoorWBp
import Derived.Test.YtdjfkmkdkclahaaGreatDoorWQqg
import Derived.Test.YtdjfkmkdkclahaaGreatDoorWTcy
set_option linter.unnecessarySimpa false
set_option linter.unusedSectionVars false
set_option linter.unusedSimpArgs false
set_option linter.unusedVariables false
set_option maxHeartbeats 16000000
namespace Go.Proofs.YtdjfkmkdkclahaaGreatDoor
section
open Go.Proofs Go.RowKit
set_option maxRecDepth 10000
attribute [local irreducible] aH aF Tri aD YVC bO aP
theorem aDf (p:List At) (hp:p.length<=100000) (hN:(aQ p).length<=8) (bs:List Nat) (ck:Nat) {pin:Pin}{fr:Fr}{hp0:Hp}{K:SV->Hp->Prop}(hs: ∀o,sA hp0 ((33,o)::hp0))
  (hk:K (.d (.agg [.sl 6 ((dU p).map atR)])) hp0):
  aF Tryz.prog pin fr ((33, .ext (yB aEl (rO []) bs ck))::hp0) 111 [.d (.agg [.sl 6 ((lV p).map atR)]), .xv 33 aBq] K:=by
 have hid:=yM
 refine aF.weak ?_
 generalize hhp:(33,HObj.ext (yB aEl (rO []) bs ck))::hp0=hp1
 have hm:aM hp1 33=some (.ext (yB aEl (rO []) bs ck)):=by rw [<-hhp];rfl
 have hl:=aB5 p
 refine aJ8 [33] _ (aFr (lV p) (by omega) (by rw [mO];exact hN) bs ck (dU p) (aNp hN)) ⟨?_, ?_, ?_, ?_⟩ (by simp) ?_ (λ_ h=>h)
 ·intro id o h
  simp only [aM]at h
  split at h
  ·rename_i e;subst e;injection h with h;subst h
   exact⟨hm,hid []⟩
  ·cases h
 ·intro id o id' o' _ _ e;exact e
 ·intro k hk
  obtain rfl:k=33:=by simpa using hk
  exact⟨_,rfl⟩
 ·intro id o h
  simp only [aM]at h
  split at h
  ·rename_i e;subst e;exact .inl (by simp)
  ·cases h
 ·rintro s h1 ⟨rfl,F,bs2,ck2,hg⟩
  refine⟨rfl,dQ hp1 33 (.ext (yB aEl (rO F) bs2 ck2)),⟨λk hk=> ?_,λi o ho=> ?_⟩,hp0,by rw [<-hhp];exact hs _,hk⟩
  ·obtain rfl:k=33:=by simpa using hk
   refine⟨_,hg,hid F,λh=>h,λi hi=> ?_, ?_⟩
   ·have:i∈aOf (rO F):=hi
    rw [hid]at this
    cases this
   ·show aM (dQ hp1 33 _) 33=_
    rw [aX _ hm,if_pos rfl]
    rfl
  ·rw [aX _ hm]at ho
   split at ho
   ·rename_i e;exact .inl ⟨33,by simp,e⟩
   ·exact .inr ho
theorem xK (p:List At):Tri Tryz.prog 73 [.d (.agg (qyR ⟨[],[p]⟩))] [] (λr=>r= .tup [.d (.agg (qyR ⟨[],if ptE p=0 then [dU p]else []⟩)), .d (.int .i64 (ptE p))]):=by
 have hc:=pF ⟨[],[p]⟩
 have hok:= @aBd p
 rw [show qE ⟨[],[p]⟩=ptE p from rfl]at hc
 generalize ptE p=e at *
 have hq:qyR ⟨[],[p]⟩=[.sl 1 [], .sl 1 [[.sl 6 (p.map atR)]]]:=rfl
 rw [hq]at hc |-
 refine Tri.says ?_
 refine wZ 50 false [1,6] hty Tryz.func73 rfl (kp [0,1,2,3,4,6,7,8,9,13,18,19,20,33,34,35,36,41,42,43,44]) [] _ _ _ (by simp [Tryz.f73]) (by decide) ?_
 ((conv=>whnf);repeat ((first|refine qT hc ?_ |(intro hq;try simp only [lnS]at hq)|refine sI ?_|refine qE_ ?_);conv=>whnf))
 refine aC (λh1=> ?_) (λh1=> ?_)
 ·((conv=>whnf);repeat ((first |(intro hq;try simp only [lnS]at hq)|refine sI ?_|refine qE_ ?_);conv=>whnf))
  rw [if_neg h1]
  exact⟨_,cE.pair (cE.wkd qB),rfl⟩
 ·have h1:e=0:=by simpa using h1
  subst h1
  ((conv=>whnf);repeat ((first |(intro hq;try simp only [lnS]at hq)|refine sI ?_|refine qE_ ?_);conv=>whnf))
  refine dC hty 1 ?_
  ((conv=>whnf);repeat ((first |(intro hq;try simp only [lnS]at hq)|refine sI ?_|refine qE_ ?_);conv=>whnf))
  refine dC hty 2 ?_
  ((conv=>whnf);repeat ((first |(intro hq;try simp only [lnS]at hq)|refine sI ?_|refine qE_ ?_);conv=>whnf))
  refine vP rfl rfl aEl 33 (cO (by with_unfolding_all exact rfl)) ?_
  ((conv=>whnf);repeat ((first |(intro hq;try simp only [lnS]at hq)|refine sI ?_|refine qE_ ?_);conv=>whnf))
  refine dC hty 1 ?_
  ((conv=>whnf);repeat ((first |(intro hq;try simp only [lnS]at hq)|refine sI ?_|refine qE_ ?_);conv=>whnf))
  have ht:=aD3 p (by omega)
  rw [show aI p=[.sl 6 (p.map atR)]from rfl,show aI (lV p)=[.sl 6 ((lV p).map atR)]from rfl]at ht
  obtain⟨⟨k1,k2⟩,_,k3⟩:=hok.1 rfl
  (refine bI (id:=18) hty (.first 0 (.first 4 (.alt 1 (.alt 2 (.alt 3 (.alt 5 (.alt 6 (.alt 7 (.first 8 (.alt 9 .done .stop)) .stop) .stop) .stop) .stop) .stop) (.alt 2 (.alt 1 (.alt 3 (.alt 5 (.alt 6 (.alt 7 (.first 8 (.alt 9 .done .stop)) .stop) .stop) .stop) .stop) (.alt 3 (.alt 1 (.alt 5 (.alt 6 (.alt 7 (.first 8 (.alt 9 .done .stop)) .stop) .stop) .stop) (.alt 5 (.alt 1 (.alt 6 (.alt 7 (.first 8 (.alt 9 .done .stop)) .stop) .stop) (.alt 6 (.alt 1 (.alt 7 (.first 8 (.alt 9 .done .stop)) .stop) .stop) .stop)) .stop)) .stop)) .stop)))) (by kernel_rfl) (by kernel_rfl) ?_)
  ((conv=>whnf);repeat' ((first|exact trivial|refine uJ ?_ ?_|intro cap' hcap'|refine eqN rfl ?_|refine leN rfl ?_|refine ltN rfl ?_|refine qT ht ?_|(refine aDf p (by omega) k3 [] 0 (λ_=>qB) ?_)|refine sJ ?_|(refine Exists.intro _ (And.intro rfl ?_)))<;>(conv=>whnf)))
  all_goals exact⟨_,cE.pair (cE.wkd (by repeat' (first|exact trivial|exact rfl|exact cD _|refine And.intro ?_ ?_))),rfl⟩
theorem gG (p:List At):Tri Tryz.prog 39 [.d (.agg (aI p))] [] (λr=>r= .tup [.d (.agg (aI (if ptE p=0 then dU p else []))), .d (.int .i64 (ptE p))]):=by
 have h1:=uK p
 have h2:=xK p
 refine Tri.says ?_
 refine qG [] hty Tryz.func39 [0,1,2,3,4,12] ?_
 by_cases h:ptE p=0
 ·rw [if_pos h,h]at h2
  rw [if_pos h,h]
  ((conv=>whnf);repeat ((first|refine qT h1 ?_|refine qT h2 ?_ |(intro hq;try simp only [lnS]at hq)|refine sI ?_|refine qE_ ?_);conv=>whnf))
  exact⟨_, .refl _,rfl⟩
 ·rw [if_neg h]at h2
  rw [if_neg h]
  ((conv=>whnf);repeat ((first|refine qT h1 ?_|refine qT h2 ?_ |(intro hq;try simp only [lnS]at hq)|refine sI ?_|refine qE_ ?_);conv=>whnf))
  rw [decide_eq_false h]
  ((conv=>whnf);repeat ((first |(intro hq;try simp only [lnS]at hq)|refine sI ?_|refine qE_ ?_);conv=>whnf))
  exact⟨_,cE.pair (cE.wkd (by repeat' (first|exact trivial|exact rfl|exact cD _|refine And.intro ?_ ?_))),rfl⟩
end
section
open Go.Proofs Go.RowKit
set_option maxRecDepth 10000
attribute [local irreducible] aH aF Tri aD YVC bO aP
theorem aNd {n:Nat}: ∀k,100<=k->k∉jP [(70,HObj.own 5 1 n)]:=aPc (by decide) rfl (λk _=>by simp [jP])
theorem aIp (z:Int) {pin:Pin}{fr:Fr}{K:SV->Hp->Prop}(hp1: ∀k,70<=k->k∉pin) (hf: ∀k,70<=k->k∉fS fr) (hk:K (.osl 70 1 ((beN 4 (uN z)).map bB)) [(70, .own 5 1 ((beN 4 (uN z)).map bB).length)]):
  aF Tryz.prog pin fr [] 48 [.d .nil, .d (.int .i64 z), .d (.int .i64 4)] K:=by
 have hl:(beN 4 (uN z)).length=4:=bJ ..
 have hp2: ∀k,100<=k->k∉pin:= λk h=>hp1 k (by omega)
 have hf2: ∀k,100<=k->k∉fS fr:= λk h=>hf k (by omega)
 refine aN false [] hty Tryz.func48 rfl (kp [0,1,2,6,7,11]) 100 (by simp [Tryz.f48]) ?_
 ((conv=>whnf);repeat ((first |(intro hq;try simp only [lnS]at hq)|refine sI ?_|refine qE_ ?_);conv=>whnf))
 refine aH.own 0 70 5 1 rfl ⟨by simp [hp1 70 (by omega),hf 70 (by omega)],by simp [fS,SV.ids,aAl],by simp [jP]⟩ ?_
 refine aG hty (λj:Nat=>([(0, .osl 70 1 (((beN 4 (uN z)).take j).map bB)),(1, .d (.int .i64 z)),(7, .d (.int .i64 (3 - (j:Int))))],[(70, .own 5 1 (((beN 4 (uN z)).take j).map bB).length)])) (λj=>j<=4) (λj=>4 - j) 0 (by omega) ⟨qB,⟨rfl,trivial⟩⟩ ?_
 intro j hj
 have hml:=jV ((beN 4 (uN z)).take j)
 rw [List.length_take]at hml
 have hb63:(((beN 4 (uN z)).take j).map bB).length+1<=9223372036854775807:=by rw [hml];omega
 have hb48:((((beN 4 (uN z)).take j).map bB).length+1)* 1<=140737488355328:=by rw [hml];omega
 ((conv=>whnf);repeat ((first |(intro hq;try simp only [lnS]at hq)|refine sI ?_|refine qE_ ?_);conv=>whnf))
 refine aB (λh1=> ?_) (λh1=> ?_)
 ·have hj4:j < 4:=by omega
  have hbt:=aJ9 z (24 - 8 * j) (by omega)
  have hnx:=aGw (uN z) j hj4
  ((conv=>whnf);repeat ((first|(refine And.intro hb63 ?_)|(refine And.intro hb48 ?_)|(refine And.intro (aK3 hp2 hf2 aNd (Nat.le_of_ble_eq_true rfl) (by with_unfolding_all exact rfl)) ?_) |(intro hq;try simp only [lnS]at hq)|refine sI ?_|refine qE_ ?_);conv=>whnf))
  rw [show 8 * (3 - (j:Int))=((24 - 8 * j:Nat):Int)by omega,hbt,show 3 - (j:Int) - 1=3 - ((j+1:Nat):Int)by omega]
  refine⟨j+1,qO,qO, ?_⟩
  dsimp only
  rw [hnx,List.map_append,List.length_append]
  exact⟨qB,qB⟩
 ·have hj4:j=4:=by omega
  subst hj4
  rw [List.take_of_length_le (by rw [hl];exact Nat.le_refl _)]
  ((conv=>whnf);repeat ((first |(intro hq;try simp only [lnS]at hq)|refine sI ?_|refine qE_ ?_);conv=>whnf))
  exact hk
theorem aBl (z:Int) (p:List UInt8) (hp:p.length<=100000000000) {pin:Pin}{fr:Fr}{K:SV->Hp->Prop}(hp1: ∀k,70<=k->k∉pin) (hf: ∀k,100<=k->k∉fS fr) (hk:K (.osl 70 1 ((p++beN 8 (uN z)).map bB)) [(70, .own 5 1 ((p++beN 8 (uN z)).map bB).length)]):
  aF Tryz.prog pin fr [(70, .own 5 1 (p.map bB).length)] 48 [.osl 70 1 (p.map bB), .d (.int .i64 z), .d (.int .i64 8)] K:=by
 have hl:(beN 8 (uN z)).length=8:=bJ ..
 have hp2: ∀k,100<=k->k∉pin:= λk h=>hp1 k (by omega)
 refine aN false [] hty Tryz.func48 rfl (kp [0,1,2,6,7,11]) 100 (by simp [Tryz.f48]) ?_
 ((conv=>whnf);repeat ((first |(intro hq;try simp only [lnS]at hq)|refine sI ?_|refine qE_ ?_);conv=>whnf))
 refine aG hty (λj:Nat=>([(0, .osl 70 1 ((p++(beN 8 (uN z)).take j).map bB)),(1, .d (.int .i64 z)),(7, .d (.int .i64 (7 - (j:Int))))],[(70, .own 5 1 ((p++(beN 8 (uN z)).take j).map bB).length)])) (λj=>j<=8) (λj=>8 - j) 0 (by omega) (by rw [List.take_zero,List.append_nil];exact⟨qB,⟨rfl,trivial⟩⟩) ?_
 intro j hj
 have hml:=jV (p++(beN 8 (uN z)).take j)
 rw [List.length_append,List.length_take]at hml
 have hb63:((p++(beN 8 (uN z)).take j).map bB).length+1<=9223372036854775807:=by rw [hml];omega
 have hb48:(((p++(beN 8 (uN z)).take j).map bB).length+1)* 1<=140737488355328:=by rw [hml];omega
 ((conv=>whnf);repeat ((first |(intro hq;try simp only [lnS]at hq)|refine sI ?_|refine qE_ ?_);conv=>whnf))
 refine aB (λh1=> ?_) (λh1=> ?_)
 ·have hj8:j < 8:=by omega
  have hbt:=aJ9 z (56 - 8 * j) (by omega)
  have hnx:=aGv (uN z) j hj8
  ((conv=>whnf);repeat ((first|(refine And.intro hb63 ?_)|(refine And.intro hb48 ?_)|(refine And.intro (aK3 hp2 hf aNd (Nat.le_of_ble_eq_true rfl) (by with_unfolding_all exact rfl)) ?_) |(intro hq;try simp only [lnS]at hq)|refine sI ?_|refine qE_ ?_);conv=>whnf))
  rw [show 8 * (7 - (j:Int))=((56 - 8 * j:Nat):Int)by omega,hbt,show 7 - (j:Int) - 1=7 - ((j+1:Nat):Int)by omega]
  refine⟨j+1,qO,qO, ?_⟩
  dsimp only
  rw [hnx,<-List.append_assoc,pO _ [_],List.length_append]
  exact⟨qB,qB⟩
 ·have hj8:j=8:=by omega
  subst hj8
  rw [List.take_of_length_le (by rw [hl];exact Nat.le_refl _)]
  ((conv=>whnf);repeat ((first |(intro hq;try simp only [lnS]at hq)|refine sI ?_|refine qE_ ?_);conv=>whnf))
  exact hk
end
section
open Go.Proofs Go.RowKit
set_option maxRecDepth 10000
attribute [local irreducible] aH aF Tri aD YVC bO aP
def bM (x:Ent):List D:=[.int .i64 x.no, .sl 6 (x.part.map atR)]
theorem aQ2 {fr:Fr}(h:fS fr=[]): ∀k,70<=k->k∉fS fr:=by
 rw [h];simp
theorem aFt (s:List UInt8) (n:Int) (x:Ent):Tri Tryz.prog 23 [.d (.str s), .d (.int .i64 n), .d (.agg (bM x))] [] (λr=>r= .tup [.d (.sl 1 ((aHb (s,n,x)).1.map bB)), .d (.int .i64 (aHb (s,n,x)).2)]):=by
 obtain⟨no,p⟩:=x
 refine Tri.says ?_
 have h1:=iZ s
 have h2:=hG n
 have h3:=uK p
 have h4:=pJ ⟨[],[p]⟩
 have hE:aHb (s,n,⟨no,p⟩)=if enE (s,n,⟨no,p⟩)=0 then (wEn (s,n,⟨no,p⟩),0)else ([],enE (s,n,⟨no,p⟩)):=rfl
 have hE2:enE (s,n,⟨no,p⟩)=if rdF s=false\/wG n=false\/no < 1\/1024 < no then 1 else ptE p:=rfl
 rw [show bM ⟨no,p⟩=[.int .i64 no, .sl 6 (p.map atR)]from rfl]
 rw [show aI p=[.sl 6 (p.map atR)]from rfl]at h3
 by_cases hbad:rdF s=false\/wG n=false\/no < 1\/1024 < no
 ·rw [hE,hE2,if_pos hbad,if_neg (by decide)]
  clear hE hE2 h3 h4
  generalize rdF s=r1 at *
  generalize wG n=r2 at *
  refine qG [5] hty Tryz.func23 [0,1,2,5,6,7,8,26,35] ?_
  ((conv=>whnf);repeat' ((first|(intro hq;(try simp only [lnS]at hq);(try rewrite [List.length_map]))|refine sJ ?_|refine qE_ ?_|refine exL (k:=?_)| refine qT h1 ?_|refine qT h2 ?_|refine dwR ?_|((first|refine aB ?_ ?_|refine aC ?_ ?_)<;>intro hb<;>(first|exact ddX hb|try simp only [lnS]at hb))|(refine aA ?_ ?_<;>intro hb<;>try exact dsX hb))<;>(conv=>whnf)))
  ·exact⟨_,pairN (.d .nil) _,rfl⟩
  ·exact⟨_,pairN (.d .nil) _,rfl⟩
  ·exact⟨_,pairN (.d .nil) _,rfl⟩
  ·exact⟨_,pairN (.d .nil) _,rfl⟩
  ·exfalso
   rcases hbad with h|h|h|h
   ·subst h;simp_all
   ·subst h;simp_all
   ·omega
   ·omega
 ·have hr1:rdF s=true:=by
   cases h:rdF s
   ·exact absurd (.inl h) hbad
   ·rfl
  have hr2:wG n=true:=by
   cases h:wG n
   ·exact absurd (.inr (.inl h)) hbad
   ·rfl
  have hn1:¬ no < 1:= λh=>hbad (.inr (.inr (.inl h)))
  have hn2:¬ 1024 < no:= λh=>hbad (.inr (.inr (.inr h)))
  have hsl:s.length<=24:=by
   unfold rdF at hr1
   rw [Bool.and_eq_true]at hr1
   exact xZ hr1.1
  have hqe:ptE p=qE ⟨[],[p]⟩:=rfl
  have hw1:=aAy (q:=⟨[],[p]⟩)
  have hw2:=aDy (q:=⟨[],[p]⟩)
  have hw3:=wP (q:=⟨[],[p]⟩)
  have hwe:wEn (s,n,⟨no,p⟩)=beN 4 s.length++s++beN 8 (uN n)++beN 8 (uN no)++wQy ⟨[],[p]⟩:=by
   unfold wEn kN aJo
   simp only [List.append_assoc]
  rw [hr1]at h1
  rw [hr2]at h2
  rw [hE,hE2,if_neg hbad,hqe,hwe]
  clear hE hE2 hbad hqe hwe hr1 hr2
  rw [show qyR ⟨[],[p]⟩=[.sl 1 [], .sl 1 [[.sl 6 (p.map atR)]]]from rfl]at *
  generalize aDp ⟨[],[p]⟩=res at *
  generalize wQy ⟨[],[p]⟩=out at *
  generalize qE ⟨[],[p]⟩=qe at *
  by_cases hqe:¬ qe=0
  ·rw [hw1 hqe]at h4
   refine qG [5] hty Tryz.func23 [0,1,2,5,6,7,8,26,35] ?_
   ((conv=>whnf);repeat ((first|refine qT h1 ?_|refine qT h2 ?_ |(intro hq;try simp only [lnS]at hq)|refine sI ?_|refine qE_ ?_);conv=>whnf))
   refine aB (λq1=>absurd q1 hn1) (λq1=> ?_)
   ((conv=>whnf);repeat ((first |(intro hq;try simp only [lnS]at hq)|refine sI ?_|refine qE_ ?_);conv=>whnf))
   refine aB (λq1=>absurd q1 hn2) (λq1=> ?_)
   ((conv=>whnf);repeat ((first|refine qT h3 ?_|refine qT h4 ?_ |(intro hq;try simp only [lnS]at hq)|refine sI ?_|refine qE_ ?_);conv=>whnf))
   refine aC (λq1=> ?_) (λq1=>absurd q1 hqe)
   ((conv=>whnf);repeat ((first |(intro hq;try simp only [lnS]at hq)|refine sI ?_|refine qE_ ?_);conv=>whnf))
   exact⟨_,pairN (.d .nil) _,by rw [if_neg hqe]⟩
  have hqe:qe=0:=Decidable.not_not.1 hqe
  rw [hw2 hqe]at h4
  have hw3:=hw3 hqe
  rw [if_pos hqe]
  have l1:=jV (beN 4 s.length)
  rw [bJ]at l1
  have e4:beN 4 (uN (s.length:Int))=beN 4 s.length:=by rw [wV (by omega)]
  refine qG [5] hty Tryz.func23 [0,1,2,5,6,7,8,26,35] ?_
  ((conv=>whnf);repeat ((first|refine qT h1 ?_|refine qT h2 ?_ |(intro hq;try simp only [lnS]at hq)|refine sI ?_|refine qE_ ?_);conv=>whnf))
  refine aB (λq1=>absurd q1 hn1) (λq1=> ?_)
  ((conv=>whnf);repeat ((first |(intro hq;try simp only [lnS]at hq)|refine sI ?_|refine qE_ ?_);conv=>whnf))
  refine aB (λq1=>absurd q1 hn2) (λq1=> ?_)
  ((conv=>whnf);repeat ((first|refine qT h3 ?_|refine qT h4 ?_ |(intro hq;try simp only [lnS]at hq)|refine sI ?_|refine qE_ ?_);conv=>whnf))
  refine aIp s.length (λk _ h=>by cases h) (aQ2 (by with_unfolding_all exact rfl)) ?_
  rw [e4]
  ((conv=>whnf);repeat ((first |(intro hq;try simp only [lnS]at hq)|refine sI ?_|refine qE_ ?_);conv=>whnf))
  have e5:(beN 4 s.length).map bB++s.map bB=(beN 4 s.length++s).map bB:=(pO _ _).symm
  rw [<-List.length_append,e5]
  refine aBl n (beN 4 s.length++s) (by rw [List.length_append,bJ];omega) (λk _ h=>by cases h) (aOh (by with_unfolding_all exact rfl)) ?_
  ((conv=>whnf);repeat ((first |(intro hq;try simp only [lnS]at hq)|refine sI ?_|refine qE_ ?_);conv=>whnf))
  refine aBl no (beN 4 s.length++s++beN 8 (uN n)) (by rw [List.length_append,List.length_append,bJ,bJ];omega) (λk _ h=>by cases h) (aOh (by with_unfolding_all exact rfl)) ?_
  have l3:(List.map bB (beN 4 s.length++s++beN 8 (uN n)++beN 8 (uN no))).length=4+s.length+8+8:=by rw [jV];simp only [List.length_append,bJ]
  have l4:=jV out
  have hb63:(List.map bB (beN 4 s.length++s++beN 8 (uN n)++beN 8 (uN no))).length+(List.map bB out).length<=9223372036854775807:=by rw [l3,l4];omega
  have hb48:((List.map bB (beN 4 s.length++s++beN 8 (uN n)++beN 8 (uN no))).length+(List.map bB out).length)* 1<=140737488355328:=by rw [l3,l4];omega
  ((conv=>whnf);repeat ((first|(refine And.intro hb63 ?_)|(refine And.intro hb48 ?_) |(intro hq;try simp only [lnS]at hq)|refine sI ?_|refine qE_ ?_);conv=>whnf))
  refine⟨_, .refl _, ?_⟩
  show SV.tup [SV.d (D.sl 1 (List.map bB (beN 4 s.length++s++beN 8 (uN n)++beN 8 (uN no))++List.map bB out)),SV.d (D.int IntKind.i64 0)]=SV.tup [SV.d (D.sl 1 (List.map bB (beN 4 s.length++s++beN 8 (uN n)++beN 8 (uN no)++out))),SV.d (D.int IntKind.i64 0)]
  rw [pO _ out]
end
section
open Go.Proofs Go.RowKit
set_option maxRecDepth 10000
attribute [local irreducible] aH aF Tri aD YVC bO aP
def lgR (l:Lg):List D:=[.str l.reader, .int .i64 l.version, .sl 2 (l.entries.map bM)]
theorem vB (a b:At):Tri Tryz.prog 75 [.d (.agg (atR a)), .d (.agg (atR b))] [] (λr=>r= .d (.bool (decide (a=b)))):=by
 have h:=aMk a b
 rw [cT,cT]
 refine qG [2,3] hty Tryz.func75 [0,1,2,3,4] ?_
 ((conv=>whnf);repeat ((first|(refine And.intro aMh ?_) |(intro hq;try simp only [lnS]at hq)|refine sI ?_|refine qE_ ?_);conv=>whnf))
 refine aJ ?_
 rw [h];rfl
theorem aA0 (l m:List At):Tri Tryz.prog 74 [.d (.sl 6 (l.map atR)), .d (.sl 6 (m.map atR)), .fn 75 [] []] [] (λr=>r= .d (.bool (decide (l=m)))):=by
 have hl:(l.map atR).length=l.length:=List.length_map ..
 have hm:(m.map atR).length=m.length:=List.length_map ..
 refine qG [] hty Tryz.func74 [0,1,2,6,7,12,14,15,16,28] ?_
 ((conv=>whnf);repeat ((first |(intro hq;try simp only [lnS]at hq)|refine sI ?_|refine qE_ ?_);conv=>whnf))
 refine aC (λh1=> ?_) (λh1=> ?_)
 ·((conv=>whnf);repeat' ((first|(intro hq;(try simp only [lnS]at hq);(try rewrite [List.length_map]))|refine sJ ?_|refine qE_ ?_|refine exL (k:=?_)|refine dwR ?_|((first|refine aB ?_ ?_|refine aC ?_ ?_)<;>intro hb<;>(first|exact ddX hb|try simp only [lnS]at hb))|(refine aA ?_ ?_<;>intro hb<;>try exact dsX hb))<;>(conv=>whnf)))
  refine aJ ?_
  rw [decide_eq_false]
  intro e
  subst e
  exact h1 rfl
 ·have h1:l.length=m.length:=by
   have h2:(((l.map atR).length:Nat):Int)=((m.map atR).length:Nat):=by simpa using h1
   rw [hl,hm]at h2
   omega
  ((conv=>whnf);repeat ((first |(intro hq;try simp only [lnS]at hq)|refine sI ?_|refine qE_ ?_);conv=>whnf))
  refine aG hty (λj:Nat=>([(0, .d (.sl 6 (l.map atR))),(1, .d (.sl 6 (m.map atR))),(2, .fn 75 [] []),(14, .d (.int .i64 l.length)),(15, .d (.int .i64 j))],[])) (λj=>j<=l.length/\l.take j=m.take j) (λj=>l.length - j) 0 ⟨Nat.zero_le _,rfl⟩ ⟨by repeat' (first|exact trivial|exact rfl|(rw [List.length_map];exact rfl)|refine And.intro ?_ ?_),trivial⟩ ?_
  rintro j ⟨hj,ht⟩
  ((conv=>whnf);repeat ((first |(intro hq;try simp only [lnS]at hq)|refine sI ?_|refine qE_ ?_);conv=>whnf))
  refine aB (λh2=> ?_) (λh2=> ?_)
  ·have hjl:j < l.length:=by omega
   have hjm:j < m.length:=by omega
   have hrow:(l.map atR)[((j:Nat):Int).toNat]? =some (atR l[j]):=aK hjl
   have hrow2:(m.map atR)[((j:Nat):Int).toNat]? =some (atR m[j]):=aK hjm
   have hc:=vB l[j] m[j]
   have hs1:l.take (j+1)=l.take j++[l[j]]:=List.take_succ_eq_append_getElem hjl
   have hs2:m.take (j+1)=m.take j++[m[j]]:=List.take_succ_eq_append_getElem hjm
   rw [show atR l[j]=[.int .i64 l[j].kind, .str l[j].name, .str l[j].x, .str l[j].y, .int .i64 l[j].lo, .int .i64 l[j].hi]from rfl]at hrow hc
   rw [show atR m[j]=[.int .i64 m[j].kind, .str m[j].name, .str m[j].x, .str m[j].y, .int .i64 m[j].lo, .int .i64 m[j].hi]from rfl]at hrow2 hc
   ((conv=>whnf);repeat ((first |(intro hq;try simp only [lnS]at hq)|refine sI ?_|refine qE_ ?_);conv=>whnf))
   refine dwR ?_
   ((conv=>whnf);repeat ((first|(refine⟨_,hrow, ?_⟩)|(refine⟨_,hrow2, ?_⟩)|(refine⟨.d (.bool _),_,[],rfl,trivial,hc, ?_⟩) |(intro hq;try simp only [lnS]at hq)|refine sI ?_|refine qE_ ?_);conv=>whnf))
   by_cases he:l[j]=m[j]
   ·rw [decide_eq_true he]
    ((conv=>whnf);repeat ((first |(intro hq;try simp only [lnS]at hq)|refine sI ?_|refine qE_ ?_);conv=>whnf))
    exact⟨j+1,⟨by omega,by rw [hs1,hs2,ht,he]⟩,qO,qB,trivial⟩
   ·rw [decide_eq_false he]
    ((conv=>whnf);repeat ((first |(intro hq;try simp only [lnS]at hq)|refine sI ?_|refine qE_ ?_);conv=>whnf))
    refine aJ ?_
    rw [decide_eq_false]
    intro e
    subst e
    exact he rfl
  ·have hjl:j=l.length:=by omega
   subst hjl
   rw [List.take_length,h1,List.take_length]at ht
   ((conv=>whnf);repeat ((first |(intro hq;try simp only [lnS]at hq)|refine sI ?_|refine qE_ ?_);conv=>whnf))
   refine aJ ?_
   rw [decide_eq_true ht]
theorem gY (p q:List At):Tri Tryz.prog 40 [.d (.agg (aI p)), .d (.agg (aI q))] [] (λr=>r= .d (.bool (decide (p=q)))):=by
 have h:=aA0 p q
 rw [show aI p=[.sl 6 (p.map atR)]from rfl,show aI q=[.sl 6 (q.map atR)]from rfl]
 refine qG [2,3] hty Tryz.func40 [0,1,2,3,4] ?_
 ((conv=>whnf);repeat ((first|refine qT h ?_ |(intro hq;try simp only [lnS]at hq)|refine sI ?_|refine qE_ ?_);conv=>whnf))
 rfl
theorem aK6 {x y:Ent}:x=y↔x.no=y.no/\x.part=y.part:=by cases x;cases y;simp
theorem sB (x y:Ent):Tri Tryz.prog 65 [.d (.agg (bM x)), .d (.agg (bM y))] [] (λr=>r= .d (.bool (decide (x=y)))):=by
 have h:=gY x.part y.part
 have he:= @aK6 x y
 rw [show aI x.part=[.sl 6 (x.part.map atR)]from rfl,show aI y.part=[.sl 6 (y.part.map atR)]from rfl]at h
 rw [show bM x=[.int .i64 x.no, .sl 6 (x.part.map atR)]from rfl,show bM y=[.int .i64 y.no, .sl 6 (y.part.map atR)]from rfl]
 refine qG [2,3] hty Tryz.func65 [0,1,2,3,4] ?_
 ((conv=>whnf);repeat' ((first|(intro hq;(try simp only [lnS]at hq);(try rewrite [List.length_map]))|refine sJ ?_|refine qE_ ?_|refine exL (k:=?_)| refine qT h ?_|refine dwR ?_|((first|refine aB ?_ ?_|refine aC ?_ ?_)<;>intro hb<;>(first|exact ddX hb|try simp only [lnS]at hb))|(refine aA ?_ ?_<;>intro hb<;>try exact dsX hb))<;>(conv=>whnf)))
 ·refine aJ ?_
  rw [decide_eq_decide,he]
  exact⟨λh=>⟨hb,h⟩,λh=>h.2⟩
 ·refine aJ ?_
  rw [decide_eq_false]
  exact λe=>hb (he.1 e).1
theorem zZ (l m:List Ent):Tri Tryz.prog 64 [.d (.sl 2 (l.map bM)), .d (.sl 2 (m.map bM)), .fn 65 [] []] [] (λr=>r= .d (.bool (decide (l=m)))):=by
 have hl:(l.map bM).length=l.length:=List.length_map ..
 have hm:(m.map bM).length=m.length:=List.length_map ..
 refine qG [] hty Tryz.func64 [0,1,2,6,7,12,14,15,16,28] ?_
 ((conv=>whnf);repeat ((first |(intro hq;try simp only [lnS]at hq)|refine sI ?_|refine qE_ ?_);conv=>whnf))
 refine aC (λh1=> ?_) (λh1=> ?_)
 ·((conv=>whnf);repeat' ((first|(intro hq;(try simp only [lnS]at hq);(try rewrite [List.length_map]))|refine sJ ?_|refine qE_ ?_|refine exL (k:=?_)|refine dwR ?_|((first|refine aB ?_ ?_|refine aC ?_ ?_)<;>intro hb<;>(first|exact ddX hb|try simp only [lnS]at hb))|(refine aA ?_ ?_<;>intro hb<;>try exact dsX hb))<;>(conv=>whnf)))
  refine aJ ?_
  rw [decide_eq_false]
  intro e
  subst e
  exact h1 rfl
 ·have h1:l.length=m.length:=by
   have h2:(((l.map bM).length:Nat):Int)=((m.map bM).length:Nat):=by simpa using h1
   rw [hl,hm]at h2
   omega
  ((conv=>whnf);repeat ((first |(intro hq;try simp only [lnS]at hq)|refine sI ?_|refine qE_ ?_);conv=>whnf))
  refine aG hty (λj:Nat=>([(0, .d (.sl 2 (l.map bM))),(1, .d (.sl 2 (m.map bM))),(2, .fn 65 [] []),(14, .d (.int .i64 l.length)),(15, .d (.int .i64 j))],[])) (λj=>j<=l.length/\l.take j=m.take j) (λj=>l.length - j) 0 ⟨Nat.zero_le _,rfl⟩ ⟨by repeat' (first|exact trivial|exact rfl|(rw [List.length_map];exact rfl)|refine And.intro ?_ ?_),trivial⟩ ?_
  rintro j ⟨hj,ht⟩
  ((conv=>whnf);repeat ((first |(intro hq;try simp only [lnS]at hq)|refine sI ?_|refine qE_ ?_);conv=>whnf))
  refine aB (λh2=> ?_) (λh2=> ?_)
  ·have hjl:j < l.length:=by omega
   have hjm:j < m.length:=by omega
   have hrow:(l.map bM)[((j:Nat):Int).toNat]? =some (bM l[j]):=aK hjl
   have hrow2:(m.map bM)[((j:Nat):Int).toNat]? =some (bM m[j]):=aK hjm
   have hc:=sB l[j] m[j]
   have hs1:l.take (j+1)=l.take j++[l[j]]:=List.take_succ_eq_append_getElem hjl
   have hs2:m.take (j+1)=m.take j++[m[j]]:=List.take_succ_eq_append_getElem hjm
   rw [show bM l[j]=[.int .i64 l[j].no, .sl 6 (l[j].part.map atR)]from rfl]at hrow hc
   rw [show bM m[j]=[.int .i64 m[j].no, .sl 6 (m[j].part.map atR)]from rfl]at hrow2 hc
   ((conv=>whnf);repeat ((first |(intro hq;try simp only [lnS]at hq)|refine sI ?_|refine qE_ ?_);conv=>whnf))
   refine dwR ?_
   ((conv=>whnf);repeat ((first|(refine⟨_,hrow, ?_⟩)|(refine⟨_,hrow2, ?_⟩)|(refine⟨.d (.bool _),_,[],rfl,trivial,hc, ?_⟩) |(intro hq;try simp only [lnS]at hq)|refine sI ?_|refine qE_ ?_);conv=>whnf))
   by_cases he:l[j]=m[j]
   ·rw [decide_eq_true he]
    ((conv=>whnf);repeat ((first |(intro hq;try simp only [lnS]at hq)|refine sI ?_|refine qE_ ?_);conv=>whnf))
    exact⟨j+1,⟨by omega,by rw [hs1,hs2,ht,he]⟩,qO,qB,trivial⟩
   ·rw [decide_eq_false he]
    ((conv=>whnf);repeat ((first |(intro hq;try simp only [lnS]at hq)|refine sI ?_|refine qE_ ?_);conv=>whnf))
    refine aJ ?_
    rw [decide_eq_false]
    intro e
    subst e
    exact he rfl
  ·have hjl:j=l.length:=by omega
   subst hjl
   rw [List.take_length,h1,List.take_length]at ht
   ((conv=>whnf);repeat ((first |(intro hq;try simp only [lnS]at hq)|refine sI ?_|refine qE_ ?_);conv=>whnf))
   refine aJ ?_
   rw [decide_eq_true ht]
theorem qU (s:List UInt8) (n:Int):Tri Tryz.prog 12 [.d (.str s), .d (.int .i64 n)] [] (λr=>r= .tup [.d (.agg (lgR (aDs s n).1)), .d (.int .i64 (aDs s n).2)]):=by
 have h1:=iZ s
 have h2:=hG n
 unfold aDs
 generalize rdF s=b1 at *
 generalize wG n=b2 at *
 refine Tri.says ?_
 refine qG [] hty Tryz.func12 [0,1,4,5,13] ?_
 cases b1<;>cases b2
 all_goals
  ((conv=>whnf);repeat' ((first|(intro hq;(try simp only [lnS]at hq);(try rewrite [List.length_map]))|refine sJ ?_|refine qE_ ?_|refine exL (k:=?_)| refine qT h1 ?_|refine qT h2 ?_|refine dwR ?_|((first|refine aB ?_ ?_|refine aC ?_ ?_)<;>intro hb<;>(first|exact ddX hb|try simp only [lnS]at hb))|(refine aA ?_ ?_<;>intro hb<;>try exact dsX hb))<;>(conv=>whnf)))
 all_goals exact⟨_,cE.pair (cE.wkd qB),rfl⟩
theorem aDg (l:Lg):Tri Tryz.prog 17 [.d (.agg (lgR l))] [] (λr=>r= .d (.int .i64 (aLq l))):=by
 have hl:(l.entries.map bM).length=l.entries.length:=List.length_map ..
 show Tri Tryz.prog 17 [.d (.agg [.str l.reader, .int .i64 l.version, .sl 2 (l.entries.map bM)])] [] _
 refine qG [1] hty Tryz.func17 [0,1,2] ?_
 ((conv=>whnf);repeat ((first|(refine aLl rfl rfl rfl ?_) |(intro hq;try simp only [lnS]at hq)|refine sI ?_|refine qE_ ?_);conv=>whnf))
 refine fX ?_
 unfold aLq
 split<;>omega
def aAq (es:List Ent) (p:List At):Int:=match es.findIdx? (λx=>decide (x.part=p))with
 |some k=>k
 |none=> -1
theorem aAp {es:List Ent}{p:List At}{j:Nat}(hj:j < es.length) (h: ∀x∈es.take j,x.part≠p) (he:es[j].part=p):aAq es p=j:=by
 unfold aAq
 rw [List.findIdx?_eq_some_iff_getElem.2 ⟨hj, by simpa using he, λk hk => by
  have:=h es[k] (List.mem_take_iff_getElem.2 ⟨k,by omega,rfl⟩)
  simpa using this⟩]
theorem yS {es:List Ent}{p:List At}(h: ∀x∈es,x.part≠p):aAq es p= -1:=by
 unfold aAq
 rw [List.findIdx?_eq_none_iff.2 λx hx=>by simpa using h x hx]
theorem aIx {es:List Ent}{p:List At}:0<=aAq es p↔p∈es.map Ent.part:=by
 unfold aAq
 cases h:es.findIdx? (λx=>decide (x.part=p))with
 |none=>
  have:=List.findIdx?_eq_none_iff.1 h
  refine⟨λh=>by simp at h,λhm=> ?_⟩
  obtain⟨x,hx,e⟩:=List.mem_map.1 hm
  have:=this x hx
  simp [e]at this
 |some k=>
  obtain⟨hk,h1,_⟩:=List.findIdx?_eq_some_iff_getElem.1 h
  refine⟨λ_=>List.mem_map.2 ⟨es[k],List.getElem_mem hk,by simpa using h1⟩,λ_=>qO⟩
theorem aG8 (es:List Ent) (p:List At):(aK5 es p=none/\aAq es p= -1)\/ ∃(k:Nat) (hk:k < es.length),aAq es p=k/\aK5 es p=some es[k].no:=by
 induction es with
 |nil=>exact .inl ⟨rfl,rfl⟩
 |cons x r ih=>
  by_cases hx:x.part=p
  ·refine .inr ⟨0,by simp, ?_, ?_⟩
   ·exact aAp (j:=0) (by simp) (by simp) hx
   ·rw [aK5,if_pos hx];rfl
  ·have e:aAq (x::r) p=if aAq r p < 0 then -1 else aAq r p+1:=by
    unfold aAq
    rw [List.findIdx?_cons]
    rw [if_neg (by simpa using hx)]
    cases r.findIdx? (λx=>decide (x.part=p))with
    |none=>rfl
    |some k=>simp only [Option.map_some];rw [if_neg (by omega)];omega
   rw [aK5,if_neg hx,e]
   rcases ih with⟨h1,h2⟩|⟨k,hk,h1,h2⟩
   ·exact .inl ⟨h1,by rw [h2];rfl⟩
   ·refine .inr ⟨k+1,by simp;omega, ?_, ?_⟩
    ·rw [h1,if_neg (by omega)];omega
    ·rw [h2];rfl
theorem mH (es:List Ent) (p:List At):Tri Tryz.prog 41 [.d (.sl 2 (es.map bM)), .d (.agg (aI p))] [] (λr=>r= .d (.int .i64 (aAq es p))):=by
 have hl:(es.map bM).length=es.length:=List.length_map ..
 rw [show aI p=[.sl 6 (p.map atR)]from rfl]
 refine qG [3,6] hty Tryz.func41 [0,1,3,4,5,6,7,8,9,10,17] ?_
 ((conv=>whnf);repeat ((first |(intro hq;try simp only [lnS]at hq)|refine sI ?_|refine qE_ ?_);conv=>whnf))
 refine aG hty (λj:Nat=>([(3, .ea 1 [[.sl 6 (p.map atR)]] 0 0),(7, .d (.sl 2 (es.map bM))),(8, .d (.int .i64 es.length)),(9, .d (.int .i64 j))],[])) (λj=>j<=es.length/\ ∀x∈es.take j,x.part≠p) (λj=>es.length - j) 0 ⟨Nat.zero_le _,λx hx=>by simp at hx⟩ ⟨by repeat' (first|exact trivial|exact rfl|(rw [List.length_map];exact rfl)|refine And.intro ?_ ?_),trivial⟩ ?_
 rintro j ⟨hj,hn⟩
 ((conv=>whnf);repeat ((first |(intro hq;try simp only [lnS]at hq)|refine sI ?_|refine qE_ ?_);conv=>whnf))
 refine aB (λh1=> ?_) (λh1=> ?_)
 ·have hjl:j < es.length:=by omega
  have hrow:(es.map bM)[((j:Nat):Int).toNat]? =some (bM es[j]):=aK hjl
  have hc:=gY es[j].part p
  have hx:= @aAp es p j hjl hn
  have hs: ∀x∈es.take (j+1),x∈es.take j\/x=es[j]:= λx hx=>by
   rw [List.take_succ_eq_append_getElem hjl,List.mem_append,List.mem_singleton]at hx
   exact hx
  rw [show bM es[j]=[.int .i64 es[j].no, .sl 6 (es[j].part.map atR)]from rfl]at hrow
  rw [show aI p=[.sl 6 (p.map atR)]from rfl,show aI es[j].part=[.sl 6 (es[j].part.map atR)]from rfl]at hc
  ((conv=>whnf);repeat ((first|(refine⟨_,hrow, ?_⟩)|refine qT hc ?_ |(intro hq;try simp only [lnS]at hq)|refine sI ?_|refine qE_ ?_);conv=>whnf))
  by_cases he:es[j].part=p
  ·rw [decide_eq_true he]
   ((conv=>whnf);repeat ((first |(intro hq;try simp only [lnS]at hq)|refine sI ?_|refine qE_ ?_);conv=>whnf))
   exact fX (hx he).symm
  ·rw [decide_eq_false he]
   ((conv=>whnf);repeat ((first |(intro hq;try simp only [lnS]at hq)|refine sI ?_|refine qE_ ?_);conv=>whnf))
   refine⟨j+1,⟨by omega,λx hx=> ?_⟩,qO,qB,trivial⟩
   rcases hs x hx with h|rfl
   ·exact hn x h
   ·exact he
 ·have hjl:j=es.length:=by omega
  subst hjl
  rw [List.take_length]at hn
  ((conv=>whnf);repeat ((first |(intro hq;try simp only [lnS]at hq)|refine sI ?_|refine qE_ ?_);conv=>whnf))
  exact fX (yS hn).symm
end
section
open Go.Proofs Go.RowKit Go.ChangeShapes
set_option maxRecDepth 100000
theorem uB4:Tryz.prog.underlying 57=some (.array 4 5):=by kernel_rfl
def TYL:List TypeId:=35::60::51::33::43::5::42::22::24::57::65::TT
theorem clL:Cl Tryz.prog (· ∈TYL):=aP7 (by kernel_rfl)
theorem aJg {n:Nat}{ds:List D}(h:TyD Tryz.prog n 35 ds): ∃p:List At,nT Tryz.prog 35 ds= .d (.agg (aI p)):=by
 rw [aHs aMr]
 obtain⟨p,rfl⟩:=zA h
 exact⟨p,rfl⟩
theorem aGz {n:Nat}{ds:List D}(h:TyD Tryz.prog n 51 ds): ∃l:List (List At),nT Tryz.prog 51 ds= .d (.sl 1 (l.map aI)):=by
 obtain⟨m,rfl,rows,rfl,hn,hr⟩:=wW aJp h
 obtain⟨l,rfl⟩:=aA4 (f:=aI) (λr hr=>zA hr) rows hr
 exact⟨l,by simp only [nT,aJp,aP8]⟩
theorem aNw {n:Nat}{ds:List D}(h:TyD Tryz.prog n 57 ds): ∃a b c d:UInt8,nT Tryz.prog 57 ds= .d (.agg [.int .u8 a.toNat, .int .u8 b.toNat, .int .u8 c.toNat, .int .u8 d.toNat]):=by
 obtain⟨m,rfl,a1,b1,rfl,h1,a2,b2,rfl,h2,a3,b3,rfl,h3,a4,b4,rfl,h4,rfl⟩:=aEd uB4 h
 obtain⟨a,rfl⟩:=aB2 aHr h1
 obtain⟨b,rfl⟩:=aB2 aHr h2
 obtain⟨c,rfl⟩:=aB2 aHr h3
 obtain⟨d,rfl⟩:=aB2 aHr h4
 exact⟨a,b,c,d,by simp only [nT,uB4];rfl⟩
def aIt:List (String×DataW Unit):=[("math/bits.deBruijn32tab",Rows.laid_math_bits_deBruijn32tab),("math/bits.deBruijn64tab",Rows.laid_math_bits_deBruijn64tab),("internal/strconv.uint64pow10",Rows.laid_internal_strconv_uint64pow10),("veilstone/terms.needs",Rows.laid_veilstone_terms_needs),("veilstone/terms.uses",Rows.laid_veilstone_terms_uses)]
theorem xX {W:World}: ∀ρ:Env,ρ.S=below W-> ∀id o,aM [] id=some o->RO W ρ id o:= λρ _ id o h=>by simp [aM]at h
end
section
open Go.Proofs Go.RowKit
set_option maxRecDepth 10000
attribute [local irreducible] aH aF Tri aD YVC bO aP
theorem sF (k:Nat) (h:k<=9):Tri Tryz.prog 126 [.d (.int .i64 k)] [] (λr=>r= .d (.str [UInt8.ofNat (48+k)])):=by
 have e:k=0\/k=1\/k=2\/k=3\/k=4\/k=5\/k=6\/k=7\/k=8\/k=9:=by omega
 rcases e with rfl|rfl|rfl|rfl|rfl|rfl|rfl|rfl|rfl|rfl
 all_goals
  refine qG [] hty Tryz.func126 [0,2,4,10] ?_
  ((conv=>whnf);repeat' ((first|(intro hq;(try simp only [lnS]at hq);(try rewrite [List.length_map]))|refine sJ ?_|refine qE_ ?_|refine exL (k:=?_)|refine dwR ?_|((first|refine aB ?_ ?_|refine aC ?_ ?_)<;>intro hb<;>(first|exact ddX hb|try simp only [lnS]at hb))|(refine aA ?_ ?_<;>intro hb<;>try exact dsX hb))<;>(conv=>whnf)))
  rfl
theorem aD1 (b:Bool):Tri Tryz.prog 215 [.d (.bool b)] [] (λr=>r= .d (.int .i64 (if b then -1 else 1))):=by
 cases b
 all_goals
  refine qG [] hty Tryz.func215 [0,2,3] ?_
  ((conv=>whnf);repeat' ((first|(intro hq;(try simp only [lnS]at hq);(try rewrite [List.length_map]))|refine sJ ?_|refine qE_ ?_|refine exL (k:=?_)|refine dwR ?_|((first|refine aB ?_ ?_|refine aC ?_ ?_)<;>intro hb<;>(first|exact ddX hb|try simp only [lnS]at hb))|(refine aA ?_ ?_<;>intro hb<;>try exact dsX hb))<;>(conv=>whnf)))
  rfl
theorem aFb {a b:Int}(h:¬ a=b) (r:List Int):(if decide (a < b)=true then (-1:Int)else 1)=orF (rY a b::r):=by
 have h0:rY a b≠0:= λe=>h (fU.1 e)
 rw [orF,if_pos h0]
 unfold rY
 by_cases h1:a < b
 ·rw [if_pos (decide_eq_true h1),if_pos h1]
 ·rw [if_neg (by simpa using h1),if_neg h1,if_pos (by omega)]
theorem lC {a b:Int}(h:a=b) (r:List Int):orF (rY a b::r)=orF r:=by rw [orF,fU.2 h];rfl
theorem aFc {a b:List UInt8}(h:¬ a=b) (r:List Int):(if Op.bytesLess a b=true then (-1:Int)else 1)=orF (dX a b::r):=by
 have h0:dX a b≠0:= λe=>h ((cA a b).1 e)
 rw [orF,if_pos h0,dI]
 have:=jR a b
 by_cases h1:dX a b < 0
 ·rw [if_pos (decide_eq_true h1)];omega
 ·rw [if_neg (by simpa using h1)];omega
theorem iJ {a b:List UInt8}(h:a=b) (r:List Int):orF (dX a b::r)=orF r:=by rw [orF,(cA a b).2 h];rfl
theorem iT (a b:At):Tri Tryz.prog 180 [.d (.agg (atR a)), .d (.agg (atR b))] [] (λr=>r= .d (.int .i64 (bE a b))):=by
 have hs:=aD1
 rw [aCb]
 rw [show atR a=[.int .i64 a.kind, .str a.name, .str a.x, .str a.y, .int .i64 a.lo, .int .i64 a.hi]from rfl,show atR b=[.int .i64 b.kind, .str b.name, .str b.x, .str b.y, .int .i64 b.lo, .int .i64 b.hi]from rfl]
 refine qG [2,3] hty Tryz.func180 [0,1,2,3,4,9,20,31,42,53,64] ?_
 ((conv=>whnf);repeat' ((first|(intro hq;(try simp only [lnS]at hq);(try rewrite [List.length_map]))|refine sJ ?_|refine qE_ ?_|refine exL (k:=?_)| refine qT (hs _) ?_|refine dwR ?_|((first|refine aB ?_ ?_|refine aC ?_ ?_)<;>intro hb<;>(first|exact ddX hb|try simp only [lnS]at hb))|(refine aA ?_ ?_<;>intro hb<;>try exact dsX hb))<;>(conv=>whnf)))
 all_goals refine fX ?_
 ·exact aFb hb _
 ·rename_i h1
  rw [lC h1]
  exact aFc hb _
 ·rename_i h1 h2
  rw [lC h1,iJ h2]
  exact aFc hb _
 ·rename_i h1 h2 h3
  rw [lC h1,iJ h2,iJ h3]
  exact aFc hb _
 ·rename_i h1 h2 h3 h4
  rw [lC h1,iJ h2,iJ h3,iJ h4]
  exact aFb hb _
 ·rename_i h1 h2 h3 h4 h5
  rw [lC h1,iJ h2,iJ h3,iJ h4,lC h5]
  exact aFb hb _
 ·rename_i h1 h2 h3 h4 h5
  rw [lC h1,iJ h2,iJ h3,iJ h4,lC h5,lC hb]
  rfl
end
section
open Go.Proofs
theorem aH.midE {C:Cfg}{c:Code}{fr:Fr}{hp:Hp}{K:Ex->Fr->Hp->Prop}{α:Type}(Ok:α->Prop) (FR:α->Fr) (HP:α->Hp) (h:aH C c fr hp (λe fr' hp'=>e= .normal/\ ∃a,Sub fr' hp' (FR a) (HP a)/\Ok a)) (hk: ∀a,Ok a->K .normal (FR a) (HP a)):aH C c fr hp K:=
 λE a w hpin hrd hsat=>wpIn_mono (h E a w hpin hrd hsat) λ_ _ _ ⟨x,fr',hp',E',h0,h1,h2,h3⟩=>by
  cases x with
  |pan=>exact⟨.pan,fr',hp',E',h0,h1,h2,h3⟩
  |normal=>obtain⟨_,a,hs,ho⟩:=h2;exact⟨.normal,FR a,HP a,E',h0,h1,hk a ho,h3.sub hs⟩
  |_=>obtain⟨e,_⟩:=h2;cases e
end
end Go.Proofs.YtdjfkmkdkclahaaGreatDoor
