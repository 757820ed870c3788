/-
  Queries: canonical names of the query of a part; ledger.canonical. Ledgers: numbers are written; Encode. Ledgers: Encode. Ledgers: equal lists, parts, entries; find; New, Left, Before.
  Conditions: none.
-/
import Derived.Test.YtdjfkmkdkclahaaGreatDoorWG4
import Derived.Test.YtdjfkmkdkclahaaGreatDoorWQqh
import Derived.Test.YtdjfkmkdkclahaaGreatDoorWSza
import Derived.Test.YtdjfkmkdkclahaaGreatDoorWSna
import Derived.Test.YtdjfkmkdkclahaaGreatDoorWOh
import Derived.Test.YtdjfkmkdkclahaaGreatDoorWSyv
import Derived.Test.YtdjfkmkdkclahaaGreatDoorWBp
import Derived.Test.YtdjfkmkdkclahaaGreatDoorWNh
import Derived.Test.YtdjfkmkdkclahaaGreatDoorWQqg
set_option linter.unnecessarySimpa false
set_option linter.unusedSectionVars false
set_option linter.unusedSimpArgs false
set_option linter.unusedVariables false
set_option maxHeartbeats 16000000
namespace Go.Proofs.YtdjfkmkdkclahaaGreatDoor
open Go.Proofs Go.RowKit
set_option maxRecDepth 10000
attribute [local irreducible] aJ aG Tri aF YVC cA aU
theorem aCs (p:List At) (hp:p.length<=100000) (hN:(aR p).length<=8) (bs:List Nat) (ck:Nat) {pin:Pin}{fr:Fr}{hp0:Hp}{K:SV->Hp->Prop}(hs: ∀o,sE hp0 ((33,o)::hp0))
  (hk:K (.d (.agg [.sl 6 ((eQ p).map atR)])) hp0):
  aG Tryz.prog pin fr ((33, .ext (xO aDn (rR []) bs ck))::hp0) 111 [.d (.agg [.sl 6 ((nK p).map atR)]), .xv 33 aBa] K:=by
 have hid:=xV
 refine aG.weak ?_
 generalize hhp:(33,HObj.ext (xO aDn (rR []) bs ck))::hp0=hp1
 have hm:aN hp1 33=some (.ext (xO aDn (rR []) bs ck)):=by rw [<-hhp];rfl
 have hl:=uT p
 refine aHp [33] _ (aEi (nK p) (by omega) (by rw [nJ];exact hN) bs ck (eQ p) (aM4 hN)) ⟨?_, ?_, ?_, ?_⟩ (by simp) ?_ (λ_ h=>h)
 ·intro id o h
  simp only [aN]at h
  split at h
  ·rename_i e;subst e;injection h with h;subst h
   exact⟨hm,hid []⟩
  ·cases h
 ·intro id o id' o' _ _ e;exact e
 ·intro k hk
  obtain rfl:k=33:=by simpa using hk
  exact⟨_,rfl⟩
 ·intro id o h
  simp only [aN]at h
  split at h
  ·rename_i e;subst e;exact .inl (by simp)
  ·cases h
 ·rintro s h1 ⟨rfl,F,bs2,ck2,hg⟩
  refine⟨rfl,dL hp1 33 (.ext (xO aDn (rR F) bs2 ck2)),⟨λk hk=> ?_,λi o ho=> ?_⟩,hp0,by rw [<-hhp];exact hs _,hk⟩
  ·obtain rfl:k=33:=by simpa using hk
   refine⟨_,hg,hid F,λh=>h,λi hi=> ?_, ?_⟩
   ·have:i∈aMv (rR F):=hi
    rw [hid]at this
    cases this
   ·show aN (dL hp1 33 _) 33=_
    rw [aX _ hm,if_pos rfl]
    rfl
  ·rw [aX _ hm]at ho
   split at ho
   ·rename_i e;exact .inl ⟨33,by simp,e⟩
   ·exact .inr ho
theorem xC (p:List At):Tri Tryz.prog 73 [.d (.agg (qyR ⟨[],[p]⟩))] [] (λr=>r= .tup [.d (.agg (qyR ⟨[],if ptE p=0 then [eQ p]else []⟩)), .d (.int .i64 (ptE p))]):=by
 have hc:=jS ⟨[],[p]⟩
 have hok:= @aAv p
 rw [show qE ⟨[],[p]⟩=ptE p from rfl]at hc
 generalize ptE p=e at *
 have hq:qyR ⟨[],[p]⟩=[.sl 1 [], .sl 1 [[.sl 6 (p.map atR)]]]:=rfl
 rw [hq]at hc |-
 refine Tri.says ?_
 refine wS 50 false [1,6] hty Tryz.func73 rfl (kp [0,1,2,3,4,6,7,8,9,13,18,19,20,33,34,35,36,41,42,43,44]) [] _ _ _ (by simp [Tryz.f73]) (by decide) ?_
 ((conv=>whnf);repeat ((first|(refine aA [] hc trivial (λr hs=> ?_);subst hs)|(intro hq;try simp only [lnS]at hq)|refine sI ?_|refine .intro _ (.intro rfl ?_));(conv=>whnf)))
 refine aD (λh1=> ?_) (λh1=> ?_)
 ·((conv=>whnf);repeat ((first|(intro hq;try simp only [lnS]at hq)|refine sI ?_|refine .intro _ (.intro rfl ?_));(conv=>whnf)))
  rw [if_neg h1]
  exact⟨_,cJ.pair (cJ.wkd (by repeat' (first|exact trivial|exact rfl|refine And.intro ?_ ?_))),rfl⟩
 ·have h1:e=0:=by simpa using h1
  subst h1
  ((conv=>whnf);repeat ((first|(intro hq;try simp only [lnS]at hq)|refine sI ?_|refine .intro _ (.intro rfl ?_));(conv=>whnf)))
  refine gP hty 1 ?_
  ((conv=>whnf);repeat ((first|(intro hq;try simp only [lnS]at hq)|refine sI ?_|refine .intro _ (.intro rfl ?_));(conv=>whnf)))
  refine gP hty 2 ?_
  ((conv=>whnf);repeat ((first|(intro hq;try simp only [lnS]at hq)|refine sI ?_|refine .intro _ (.intro rfl ?_));(conv=>whnf)))
  refine vO rfl rfl aDn 33 (cO (by with_unfolding_all exact rfl)) ?_
  ((conv=>whnf);repeat ((first|(intro hq;try simp only [lnS]at hq)|refine sI ?_|refine .intro _ (.intro rfl ?_));(conv=>whnf)))
  refine gP hty 1 ?_
  ((conv=>whnf);repeat ((first|(intro hq;try simp only [lnS]at hq)|refine sI ?_|refine .intro _ (.intro rfl ?_));(conv=>whnf)))
  have ht:=aCg p (by omega)
  rw [show aQ p=[.sl 6 (p.map atR)]from rfl,show aQ (nK p)=[.sl 6 ((nK p).map atR)]from rfl]at ht
  obtain⟨⟨k1,k2⟩,_,k3⟩:=hok.1 rfl
  (refine dJ (id:=18) hty (.first 0 (.first 4 (.alt 1 (.alt 2 (.alt 3 (.alt 5 (.alt 6 (.alt 7 (.first 8 (.alt 9 .done .stop)) .stop) .stop) .stop) .stop) .stop) (.alt 2 (.alt 1 (.alt 3 (.alt 5 (.alt 6 (.alt 7 (.first 8 (.alt 9 .done .stop)) .stop) .stop) .stop) .stop) (.alt 3 (.alt 1 (.alt 5 (.alt 6 (.alt 7 (.first 8 (.alt 9 .done .stop)) .stop) .stop) .stop) (.alt 5 (.alt 1 (.alt 6 (.alt 7 (.first 8 (.alt 9 .done .stop)) .stop) .stop) (.alt 6 (.alt 1 (.alt 7 (.first 8 (.alt 9 .done .stop)) .stop) .stop) .stop)) .stop)) .stop)) .stop)))) (by kernel_rfl) (by kernel_rfl) ?_)
  ((conv=>whnf);repeat' ((first|exact trivial|refine yU ?_ ?_|intro cap' hcap'|refine eqN rfl ?_|refine leN rfl ?_|refine ltN rfl ?_|(refine aA [] ht trivial (λr hs=> ?_);subst hs)|(refine aCs p (by omega) k3 [] 0 (λ_=>by repeat' (first|exact trivial|exact rfl|refine And.intro ?_ ?_)) ?_)|refine sJ ?_|(refine Exists.intro _ (And.intro rfl ?_)))<;>(conv=>whnf)))
  all_goals exact⟨_,cJ.pair (cJ.wkd (by repeat' (first|exact trivial|exact rfl|exact eE _|refine And.intro ?_ ?_))),rfl⟩
theorem fO (p:List At):Tri Tryz.prog 39 [.d (.agg (aQ p))] [] (λr=>r= .tup [.d (.agg (aQ (if ptE p=0 then eQ p else []))), .d (.int .i64 (ptE p))]):=by
 have h1:=uI p
 have h2:=xC p
 refine Tri.says ?_
 refine aH false [] hty Tryz.func39 rfl (kp [0,1,2,3,4,12]) [] _ _ _ (by simp [Tryz.f39]) (by simp) ?_
 by_cases h:ptE p=0
 ·rw [if_pos h,h]at h2
  rw [if_pos h,h]
  ((conv=>whnf);repeat ((first|(refine aA [] h1 trivial (λr hs=> ?_);subst hs)|(refine aA [] h2 trivial (λr hs=> ?_);subst hs)|(intro hq;try simp only [lnS]at hq)|refine sI ?_|refine .intro _ (.intro rfl ?_));(conv=>whnf)))
  exact⟨_, .refl _,rfl⟩
 ·rw [if_neg h]at h2
  rw [if_neg h]
  ((conv=>whnf);repeat ((first|(refine aA [] h1 trivial (λr hs=> ?_);subst hs)|(refine aA [] h2 trivial (λr hs=> ?_);subst hs)|(intro hq;try simp only [lnS]at hq)|refine sI ?_|refine .intro _ (.intro rfl ?_));(conv=>whnf)))
  rw [decide_eq_false h]
  ((conv=>whnf);repeat ((first|(intro hq;try simp only [lnS]at hq)|refine sI ?_|refine .intro _ (.intro rfl ?_));(conv=>whnf)))
  exact⟨_,cJ.pair (cJ.wkd (by repeat' (first|exact trivial|exact rfl|exact eE _|refine And.intro ?_ ?_))),rfl⟩
end Go.Proofs.YtdjfkmkdkclahaaGreatDoor
namespace Go.Proofs.YtdjfkmkdkclahaaGreatDoor
open Go.Proofs Go.RowKit
set_option maxRecDepth 10000
attribute [local irreducible] aJ aG Tri aF YVC cA aU
theorem aLo {n:Nat}: ∀k,100<=k->k∉jK [(70,HObj.own 5 1 n)]:=aNy (by decide) rfl (λk _=>by simp [jK])
theorem aH6 (z:Int) {pin:Pin}{fr:Fr}{K:SV->Hp->Prop}(hp1: ∀k,70<=k->k∉pin) (hf: ∀k,70<=k->k∉fC fr) (hk:K (.osl 70 1 ((beN 4 (uN z)).map bG)) [(70, .own 5 1 ((beN 4 (uN z)).map bG).length)]):
  aG Tryz.prog pin fr [] 48 [.d .nil, .d (.int .i64 z), .d (.int .i64 4)] K:=by
 have hl:(beN 4 (uN z)).length=4:=bB ..
 have hp2: ∀k,100<=k->k∉pin:= λk h=>hp1 k (by omega)
 have hf2: ∀k,100<=k->k∉fC fr:= λk h=>hf k (by omega)
 refine aL false [] hty Tryz.func48 rfl (kp [0,1,2,6,7,11]) 100 (by simp [Tryz.f48]) ?_
 ((conv=>whnf);repeat ((first|(intro hq;try simp only [lnS]at hq)|refine sI ?_|refine .intro _ (.intro rfl ?_));(conv=>whnf)))
 refine aJ.own 0 70 5 1 rfl ⟨by simp [hp1 70 (by omega),hf 70 (by omega)],by simp [fC,SV.ids,aAa],by simp [jK]⟩ ?_
 refine aP hty (λj:Nat=>([(0, .osl 70 1 (((beN 4 (uN z)).take j).map bG)),(1, .d (.int .i64 z)),(7, .d (.int .i64 (3 - (j:Int))))],[(70, .own 5 1 (((beN 4 (uN z)).take j).map bG).length)])) (λj=>j<=4) (λj=>4 - j) 0 (by omega) ⟨by repeat' (first|exact trivial|exact rfl|refine And.intro ?_ ?_),⟨rfl,trivial⟩⟩ ?_
 intro j hj
 have hml:=mL ((beN 4 (uN z)).take j)
 rw [List.length_take]at hml
 have hb63:(((beN 4 (uN z)).take j).map bG).length+1<=9223372036854775807:=by rw [hml];omega
 have hb48:((((beN 4 (uN z)).take j).map bG).length+1)* 1<=140737488355328:=by rw [hml];omega
 ((conv=>whnf);repeat ((first|(intro hq;try simp only [lnS]at hq)|refine sI ?_|refine .intro _ (.intro rfl ?_));(conv=>whnf)))
 refine aC (λh1=> ?_) (λh1=> ?_)
 ·have hj4:j < 4:=by omega
  have hbt:=aHq z (24 - 8 * j) (by omega)
  have hnx:=aFj (uN z) j hj4
  ((conv=>whnf);repeat ((first|(refine And.intro hb63 ?_)|(refine And.intro hb48 ?_)|(refine And.intro (aIh hp2 hf2 aLo (Nat.le_of_ble_eq_true rfl) (by with_unfolding_all exact rfl)) ?_)|(intro hq;try simp only [lnS]at hq)|refine sI ?_|refine .intro _ (.intro rfl ?_));(conv=>whnf)))
  rw [show 8 * (3 - (j:Int))=((24 - 8 * j:Nat):Int)by omega,hbt,show 3 - (j:Int) - 1=3 - ((j+1:Nat):Int)by omega]
  refine⟨j+1,by dsimp only;omega,by dsimp only;omega, ?_⟩
  dsimp only
  rw [hnx,List.map_append,List.length_append]
  exact⟨by repeat' (first|exact trivial|exact rfl|refine And.intro ?_ ?_),by repeat' (first|exact trivial|exact rfl|refine And.intro ?_ ?_)⟩
 ·have hj4:j=4:=by omega
  subst hj4
  rw [List.take_of_length_le (by rw [hl];exact Nat.le_refl _)]
  ((conv=>whnf);repeat ((first|(intro hq;try simp only [lnS]at hq)|refine sI ?_|refine .intro _ (.intro rfl ?_));(conv=>whnf)))
  exact hk
theorem aB4 (z:Int) (p:List UInt8) (hp:p.length<=100000000000) {pin:Pin}{fr:Fr}{K:SV->Hp->Prop}(hp1: ∀k,70<=k->k∉pin) (hf: ∀k,100<=k->k∉fC fr) (hk:K (.osl 70 1 ((p++beN 8 (uN z)).map bG)) [(70, .own 5 1 ((p++beN 8 (uN z)).map bG).length)]):
  aG Tryz.prog pin fr [(70, .own 5 1 (p.map bG).length)] 48 [.osl 70 1 (p.map bG), .d (.int .i64 z), .d (.int .i64 8)] K:=by
 have hl:(beN 8 (uN z)).length=8:=bB ..
 have hp2: ∀k,100<=k->k∉pin:= λk h=>hp1 k (by omega)
 refine aL false [] hty Tryz.func48 rfl (kp [0,1,2,6,7,11]) 100 (by simp [Tryz.f48]) ?_
 ((conv=>whnf);repeat ((first|(intro hq;try simp only [lnS]at hq)|refine sI ?_|refine .intro _ (.intro rfl ?_));(conv=>whnf)))
 refine aP hty (λj:Nat=>([(0, .osl 70 1 ((p++(beN 8 (uN z)).take j).map bG)),(1, .d (.int .i64 z)),(7, .d (.int .i64 (7 - (j:Int))))],[(70, .own 5 1 ((p++(beN 8 (uN z)).take j).map bG).length)])) (λj=>j<=8) (λj=>8 - j) 0 (by omega) (by rw [List.take_zero,List.append_nil];exact⟨by repeat' (first|exact trivial|exact rfl|refine And.intro ?_ ?_),⟨rfl,trivial⟩⟩) ?_
 intro j hj
 have hml:=mL (p++(beN 8 (uN z)).take j)
 rw [List.length_append,List.length_take]at hml
 have hb63:((p++(beN 8 (uN z)).take j).map bG).length+1<=9223372036854775807:=by rw [hml];omega
 have hb48:(((p++(beN 8 (uN z)).take j).map bG).length+1)* 1<=140737488355328:=by rw [hml];omega
 ((conv=>whnf);repeat ((first|(intro hq;try simp only [lnS]at hq)|refine sI ?_|refine .intro _ (.intro rfl ?_));(conv=>whnf)))
 refine aC (λh1=> ?_) (λh1=> ?_)
 ·have hj8:j < 8:=by omega
  have hbt:=aHq z (56 - 8 * j) (by omega)
  have hnx:=aFi (uN z) j hj8
  ((conv=>whnf);repeat ((first|(refine And.intro hb63 ?_)|(refine And.intro hb48 ?_)|(refine And.intro (aIh hp2 hf aLo (Nat.le_of_ble_eq_true rfl) (by with_unfolding_all exact rfl)) ?_)|(intro hq;try simp only [lnS]at hq)|refine sI ?_|refine .intro _ (.intro rfl ?_));(conv=>whnf)))
  rw [show 8 * (7 - (j:Int))=((56 - 8 * j:Nat):Int)by omega,hbt,show 7 - (j:Int) - 1=7 - ((j+1:Nat):Int)by omega]
  refine⟨j+1,by dsimp only;omega,by dsimp only;omega, ?_⟩
  dsimp only
  rw [hnx,<-List.append_assoc,pV _ [_],List.length_append]
  exact⟨by repeat' (first|exact trivial|exact rfl|refine And.intro ?_ ?_),by repeat' (first|exact trivial|exact rfl|refine And.intro ?_ ?_)⟩
 ·have hj8:j=8:=by omega
  subst hj8
  rw [List.take_of_length_le (by rw [hl];exact Nat.le_refl _)]
  ((conv=>whnf);repeat ((first|(intro hq;try simp only [lnS]at hq)|refine sI ?_|refine .intro _ (.intro rfl ?_));(conv=>whnf)))
  exact hk
end Go.Proofs.YtdjfkmkdkclahaaGreatDoor
namespace Go.Proofs.YtdjfkmkdkclahaaGreatDoor
open Go.Proofs Go.RowKit
set_option maxRecDepth 10000
attribute [local irreducible] aJ aG Tri aF YVC cA aU
def bV (x:Ent):List D:=[.int .i64 x.no, .sl 6 (x.part.map atR)]
theorem aOo {fr:Fr}(h:fC fr=[]): ∀k,70<=k->k∉fC fr:=by
 rw [h];simp
theorem qX (s:List UInt8) (n:Int) (x:Ent):Tri Tryz.prog 23 [.d (.str s), .d (.int .i64 n), .d (.agg (bV x))] [] (λr=>r= .tup [.d (.sl 1 ((lA (s,n,x)).1.map bG)), .d (.int .i64 (lA (s,n,x)).2)]):=by
 obtain⟨no,p⟩:=x
 refine Tri.says ?_
 have h1:=iG s
 have h2:=gI n
 have h3:=uI p
 have h4:=pP ⟨[],[p]⟩
 have hE:lA (s,n,⟨no,p⟩)=if enE (s,n,⟨no,p⟩)=0 then (wEn (s,n,⟨no,p⟩),0)else ([],enE (s,n,⟨no,p⟩)):=rfl
 have hE2:enE (s,n,⟨no,p⟩)=if rdF s=false\/wC n=false\/no < 1\/1024 < no then 1 else ptE p:=rfl
 rw [show bV ⟨no,p⟩=[.int .i64 no, .sl 6 (p.map atR)]from rfl]
 rw [show aQ p=[.sl 6 (p.map atR)]from rfl]at h3
 by_cases hbad:rdF s=false\/wC n=false\/no < 1\/1024 < no
 ·rw [hE,hE2,if_pos hbad,if_neg (by decide)]
  clear hE hE2 h3 h4
  generalize rdF s=r1 at *
  generalize wC n=r2 at *
  refine aH false [5] hty Tryz.func23 rfl (kp [0,1,2,5,6,7,8,26,35]) [] _ _ _ (by simp [Tryz.f23]) (by simp) ?_
  ((conv=>whnf);repeat' ((first|(intro hq;(try simp only [lnS]at hq);(try rewrite [List.length_map]))|refine sJ ?_|refine .intro _ (.intro rfl ?_)|refine exL (k:= ?_)|(refine aA [] h1 trivial (λr hs=> ?_);subst hs)|(refine aA [] h2 trivial (λr hs=> ?_);subst hs)|refine dwR ?_|((first|refine aC ?_ ?_|refine aD ?_ ?_)<;>intro hb<;>(first|exact ddX hb|try simp only [lnS]at hb))|(refine aB ?_ ?_<;>intro hb<;>try exact dsX hb))<;>(conv=>whnf)))
  ·exact⟨_,pairN (.d .nil) _,rfl⟩
  ·exact⟨_,pairN (.d .nil) _,rfl⟩
  ·exact⟨_,pairN (.d .nil) _,rfl⟩
  ·exact⟨_,pairN (.d .nil) _,rfl⟩
  ·exfalso
   rcases hbad with h|h|h|h
   ·subst h;simp_all
   ·subst h;simp_all
   ·omega
   ·omega
 ·have hr1:rdF s=true:=by
   cases h:rdF s
   ·exact absurd (.inl h) hbad
   ·rfl
  have hr2:wC n=true:=by
   cases h:wC n
   ·exact absurd (.inr (.inl h)) hbad
   ·rfl
  have hn1:¬ no < 1:= λh=>hbad (.inr (.inr (.inl h)))
  have hn2:¬ 1024 < no:= λh=>hbad (.inr (.inr (.inr h)))
  have hsl:s.length<=24:=by
   unfold rdF at hr1
   rw [Bool.and_eq_true]at hr1
   exact pR hr1.1
  have hqe:ptE p=qE ⟨[],[p]⟩:=rfl
  have hw1:=aAm (q:=⟨[],[p]⟩)
  have hw2:=aD5 (q:=⟨[],[p]⟩)
  have hw3:=wK (q:=⟨[],[p]⟩)
  have hwe:wEn (s,n,⟨no,p⟩)=beN 4 s.length++s++beN 8 (uN n)++beN 8 (uN no)++wQy ⟨[],[p]⟩:=by
   unfold wEn gX aDa
   simp only [List.append_assoc]
  rw [hr1]at h1
  rw [hr2]at h2
  rw [hE,hE2,if_neg hbad,hqe,hwe]
  clear hE hE2 hbad hqe hwe hr1 hr2
  rw [show qyR ⟨[],[p]⟩=[.sl 1 [], .sl 1 [[.sl 6 (p.map atR)]]]from rfl]at *
  generalize zA ⟨[],[p]⟩=res at *
  generalize wQy ⟨[],[p]⟩=out at *
  generalize qE ⟨[],[p]⟩=qe at *
  by_cases hqe:¬ qe=0
  ·rw [hw1 hqe]at h4
   refine aH false [5] hty Tryz.func23 rfl (kp [0,1,2,5,6,7,8,26,35]) [] _ _ _ (by simp [Tryz.f23]) (by simp) ?_
   ((conv=>whnf);repeat ((first|(refine aA [] h1 trivial (λr hs=> ?_);subst hs)|(refine aA [] h2 trivial (λr hs=> ?_);subst hs)|(intro hq;try simp only [lnS]at hq)|refine sI ?_|refine .intro _ (.intro rfl ?_));(conv=>whnf)))
   refine aC (λq1=>absurd q1 hn1) (λq1=> ?_)
   ((conv=>whnf);repeat ((first|(intro hq;try simp only [lnS]at hq)|refine sI ?_|refine .intro _ (.intro rfl ?_));(conv=>whnf)))
   refine aC (λq1=>absurd q1 hn2) (λq1=> ?_)
   ((conv=>whnf);repeat ((first|(refine aA [] h3 trivial (λr hs=> ?_);subst hs)|(refine aA [] h4 trivial (λr hs=> ?_);subst hs)|(intro hq;try simp only [lnS]at hq)|refine sI ?_|refine .intro _ (.intro rfl ?_));(conv=>whnf)))
   refine aD (λq1=> ?_) (λq1=>absurd q1 hqe)
   ((conv=>whnf);repeat ((first|(intro hq;try simp only [lnS]at hq)|refine sI ?_|refine .intro _ (.intro rfl ?_));(conv=>whnf)))
   exact⟨_,pairN (.d .nil) _,by rw [if_neg hqe]⟩
  have hqe:qe=0:=Decidable.not_not.1 hqe
  rw [hw2 hqe]at h4
  have hw3:=hw3 hqe
  rw [if_pos hqe]
  have l1:=mL (beN 4 s.length)
  rw [bB]at l1
  have e4:beN 4 (uN (s.length:Int))=beN 4 s.length:=by rw [wP (by omega)]
  refine aH false [5] hty Tryz.func23 rfl (kp [0,1,2,5,6,7,8,26,35]) [] _ _ _ (by simp [Tryz.f23]) (by simp) ?_
  ((conv=>whnf);repeat ((first|(refine aA [] h1 trivial (λr hs=> ?_);subst hs)|(refine aA [] h2 trivial (λr hs=> ?_);subst hs)|(intro hq;try simp only [lnS]at hq)|refine sI ?_|refine .intro _ (.intro rfl ?_));(conv=>whnf)))
  refine aC (λq1=>absurd q1 hn1) (λq1=> ?_)
  ((conv=>whnf);repeat ((first|(intro hq;try simp only [lnS]at hq)|refine sI ?_|refine .intro _ (.intro rfl ?_));(conv=>whnf)))
  refine aC (λq1=>absurd q1 hn2) (λq1=> ?_)
  ((conv=>whnf);repeat ((first|(refine aA [] h3 trivial (λr hs=> ?_);subst hs)|(refine aA [] h4 trivial (λr hs=> ?_);subst hs)|(intro hq;try simp only [lnS]at hq)|refine sI ?_|refine .intro _ (.intro rfl ?_));(conv=>whnf)))
  refine aH6 s.length (λk _ h=>by cases h) (aOo (by with_unfolding_all exact rfl)) ?_
  rw [e4]
  ((conv=>whnf);repeat ((first|(intro hq;try simp only [lnS]at hq)|refine sI ?_|refine .intro _ (.intro rfl ?_));(conv=>whnf)))
  have e5:(beN 4 s.length).map bG++s.map bG=(beN 4 s.length++s).map bG:=(pV _ _).symm
  rw [<-List.length_append,e5]
  refine aB4 n (beN 4 s.length++s) (by rw [List.length_append,bB];omega) (λk _ h=>by cases h) (aMy (by with_unfolding_all exact rfl)) ?_
  ((conv=>whnf);repeat ((first|(intro hq;try simp only [lnS]at hq)|refine sI ?_|refine .intro _ (.intro rfl ?_));(conv=>whnf)))
  refine aB4 no (beN 4 s.length++s++beN 8 (uN n)) (by rw [List.length_append,List.length_append,bB,bB];omega) (λk _ h=>by cases h) (aMy (by with_unfolding_all exact rfl)) ?_
  have l3:(List.map bG (beN 4 s.length++s++beN 8 (uN n)++beN 8 (uN no))).length=4+s.length+8+8:=by rw [mL];simp only [List.length_append,bB]
  have l4:=mL out
  have hb63:(List.map bG (beN 4 s.length++s++beN 8 (uN n)++beN 8 (uN no))).length+(List.map bG out).length<=9223372036854775807:=by rw [l3,l4];omega
  have hb48:((List.map bG (beN 4 s.length++s++beN 8 (uN n)++beN 8 (uN no))).length+(List.map bG out).length)* 1<=140737488355328:=by rw [l3,l4];omega
  ((conv=>whnf);repeat ((first|(refine And.intro hb63 ?_)|(refine And.intro hb48 ?_)|(intro hq;try simp only [lnS]at hq)|refine sI ?_|refine .intro _ (.intro rfl ?_));(conv=>whnf)))
  refine⟨_, .refl _, ?_⟩
  show SV.tup [SV.d (D.sl 1 (List.map bG (beN 4 s.length++s++beN 8 (uN n)++beN 8 (uN no))++List.map bG out)),SV.d (D.int IntKind.i64 0)]=SV.tup [SV.d (D.sl 1 (List.map bG (beN 4 s.length++s++beN 8 (uN n)++beN 8 (uN no)++out))),SV.d (D.int IntKind.i64 0)]
  rw [pV _ out]
end Go.Proofs.YtdjfkmkdkclahaaGreatDoor
namespace Go.Proofs.YtdjfkmkdkclahaaGreatDoor
open Go.Proofs Go.RowKit
set_option maxRecDepth 10000
attribute [local irreducible] aJ aG Tri aF YVC cA aU
def lgR (l:Lg):List D:=[.str l.reader, .int .i64 l.version, .sl 2 (l.entries.map bV)]
theorem vB (a b:At):Tri Tryz.prog 75 [.d (.agg (atR a)), .d (.agg (atR b))] [] (λr=>r= .d (.bool (decide (a=b)))):=by
 have h:=aMx a b
 rw [mN,mN]
 refine aH false [2,3] hty Tryz.func75 rfl (kp [0,1,2,3,4]) [] _ _ _ (by simp [Tryz.f75]) (by simp) ?_
 ((conv=>whnf);repeat ((first|(refine And.intro aMp ?_)|(intro hq;try simp only [lnS]at hq)|refine sI ?_|refine .intro _ (.intro rfl ?_));(conv=>whnf)))
 refine aM ?_
 rw [h];rfl
theorem zO (l m:List At):Tri Tryz.prog 74 [.d (.sl 6 (l.map atR)), .d (.sl 6 (m.map atR)), .fn 75 [] []] [] (λr=>r= .d (.bool (decide (l=m)))):=by
 have hl:(l.map atR).length=l.length:=List.length_map ..
 have hm:(m.map atR).length=m.length:=List.length_map ..
 refine aH false [] hty Tryz.func74 rfl (kp [0,1,2,6,7,12,14,15,16,28]) [] _ _ _ (by simp [Tryz.f74]) (by simp) ?_
 ((conv=>whnf);repeat ((first|(intro hq;try simp only [lnS]at hq)|refine sI ?_|refine .intro _ (.intro rfl ?_));(conv=>whnf)))
 refine aD (λh1=> ?_) (λh1=> ?_)
 ·((conv=>whnf);repeat' ((first|(intro hq;(try simp only [lnS]at hq);(try rewrite [List.length_map]))|refine sJ ?_|refine .intro _ (.intro rfl ?_)|refine exL (k:= ?_)|refine dwR ?_|((first|refine aC ?_ ?_|refine aD ?_ ?_)<;>intro hb<;>(first|exact ddX hb|try simp only [lnS]at hb))|(refine aB ?_ ?_<;>intro hb<;>try exact dsX hb))<;>(conv=>whnf)))
  refine aM ?_
  rw [decide_eq_false]
  intro e
  subst e
  exact h1 rfl
 ·have h1:l.length=m.length:=by
   have h2:(((l.map atR).length:Nat):Int)=((m.map atR).length:Nat):=by simpa using h1
   rw [hl,hm]at h2
   omega
  ((conv=>whnf);repeat ((first|(intro hq;try simp only [lnS]at hq)|refine sI ?_|refine .intro _ (.intro rfl ?_));(conv=>whnf)))
  refine aP hty (λj:Nat=>([(0, .d (.sl 6 (l.map atR))),(1, .d (.sl 6 (m.map atR))),(2, .fn 75 [] []),(14, .d (.int .i64 l.length)),(15, .d (.int .i64 j))],[])) (λj=>j<=l.length/\l.take j=m.take j) (λj=>l.length - j) 0 ⟨Nat.zero_le _,rfl⟩ ⟨by repeat' (first|exact trivial|exact rfl|(rw [List.length_map];exact rfl)|refine And.intro ?_ ?_),trivial⟩ ?_
  rintro j ⟨hj,ht⟩
  ((conv=>whnf);repeat ((first|(intro hq;try simp only [lnS]at hq)|refine sI ?_|refine .intro _ (.intro rfl ?_));(conv=>whnf)))
  refine aC (λh2=> ?_) (λh2=> ?_)
  ·have hjl:j < l.length:=by omega
   have hjm:j < m.length:=by omega
   have hrow:(l.map atR)[((j:Nat):Int).toNat]? =some (atR l[j]):=aT hjl
   have hrow2:(m.map atR)[((j:Nat):Int).toNat]? =some (atR m[j]):=aT hjm
   have hc:=vB l[j] m[j]
   have hs1:l.take (j+1)=l.take j++[l[j]]:=List.take_succ_eq_append_getElem hjl
   have hs2:m.take (j+1)=m.take j++[m[j]]:=List.take_succ_eq_append_getElem hjm
   rw [show atR l[j]=[.int .i64 l[j].kind, .str l[j].name, .str l[j].x, .str l[j].y, .int .i64 l[j].lo, .int .i64 l[j].hi]from rfl]at hrow hc
   rw [show atR m[j]=[.int .i64 m[j].kind, .str m[j].name, .str m[j].x, .str m[j].y, .int .i64 m[j].lo, .int .i64 m[j].hi]from rfl]at hrow2 hc
   ((conv=>whnf);repeat ((first|(intro hq;try simp only [lnS]at hq)|refine sI ?_|refine .intro _ (.intro rfl ?_));(conv=>whnf)))
   refine dwR ?_
   ((conv=>whnf);repeat ((first|(refine⟨_,hrow, ?_⟩)|(refine⟨_,hrow2, ?_⟩)|(refine⟨.d (.bool _),_,[],rfl,trivial,hc, ?_⟩)|(intro hq;try simp only [lnS]at hq)|refine sI ?_|refine .intro _ (.intro rfl ?_));(conv=>whnf)))
   by_cases he:l[j]=m[j]
   ·rw [decide_eq_true he]
    ((conv=>whnf);repeat ((first|(intro hq;try simp only [lnS]at hq)|refine sI ?_|refine .intro _ (.intro rfl ?_));(conv=>whnf)))
    exact⟨j+1,⟨by omega,by rw [hs1,hs2,ht,he]⟩,by dsimp only;omega,by repeat' (first|exact trivial|exact rfl|refine And.intro ?_ ?_),trivial⟩
   ·rw [decide_eq_false he]
    ((conv=>whnf);repeat ((first|(intro hq;try simp only [lnS]at hq)|refine sI ?_|refine .intro _ (.intro rfl ?_));(conv=>whnf)))
    refine aM ?_
    rw [decide_eq_false]
    intro e
    subst e
    exact he rfl
  ·have hjl:j=l.length:=by omega
   subst hjl
   rw [List.take_length,h1,List.take_length]at ht
   ((conv=>whnf);repeat ((first|(intro hq;try simp only [lnS]at hq)|refine sI ?_|refine .intro _ (.intro rfl ?_));(conv=>whnf)))
   refine aM ?_
   rw [decide_eq_true ht]
theorem gD (p q:List At):Tri Tryz.prog 40 [.d (.agg (aQ p)), .d (.agg (aQ q))] [] (λr=>r= .d (.bool (decide (p=q)))):=by
 have h:=zO p q
 rw [show aQ p=[.sl 6 (p.map atR)]from rfl,show aQ q=[.sl 6 (q.map atR)]from rfl]
 refine aH false [2,3] hty Tryz.func40 rfl (kp [0,1,2,3,4]) [] _ _ _ (by simp [Tryz.f40]) (by simp) ?_
 ((conv=>whnf);repeat ((first|(refine aA [] h trivial (λr hs=> ?_);subst hs)|(intro hq;try simp only [lnS]at hq)|refine sI ?_|refine .intro _ (.intro rfl ?_));(conv=>whnf)))
 rfl
theorem aIk {x y:Ent}:x=y↔x.no=y.no/\x.part=y.part:=by cases x;cases y;simp
theorem sF (x y:Ent):Tri Tryz.prog 65 [.d (.agg (bV x)), .d (.agg (bV y))] [] (λr=>r= .d (.bool (decide (x=y)))):=by
 have h:=gD x.part y.part
 have he:= @aIk x y
 rw [show aQ x.part=[.sl 6 (x.part.map atR)]from rfl,show aQ y.part=[.sl 6 (y.part.map atR)]from rfl]at h
 rw [show bV x=[.int .i64 x.no, .sl 6 (x.part.map atR)]from rfl,show bV y=[.int .i64 y.no, .sl 6 (y.part.map atR)]from rfl]
 refine aH false [2,3] hty Tryz.func65 rfl (kp [0,1,2,3,4]) [] _ _ _ (by simp [Tryz.f65]) (by simp) ?_
 ((conv=>whnf);repeat' ((first|(intro hq;(try simp only [lnS]at hq);(try rewrite [List.length_map]))|refine sJ ?_|refine .intro _ (.intro rfl ?_)|refine exL (k:= ?_)|(refine aA [] h trivial (λr hs=> ?_);subst hs)|refine dwR ?_|((first|refine aC ?_ ?_|refine aD ?_ ?_)<;>intro hb<;>(first|exact ddX hb|try simp only [lnS]at hb))|(refine aB ?_ ?_<;>intro hb<;>try exact dsX hb))<;>(conv=>whnf)))
 ·refine aM ?_
  rw [decide_eq_decide,he]
  exact⟨λh=>⟨hb,h⟩,λh=>h.2⟩
 ·refine aM ?_
  rw [decide_eq_false]
  exact λe=>hb (he.1 e).1
theorem zN (l m:List Ent):Tri Tryz.prog 64 [.d (.sl 2 (l.map bV)), .d (.sl 2 (m.map bV)), .fn 65 [] []] [] (λr=>r= .d (.bool (decide (l=m)))):=by
 have hl:(l.map bV).length=l.length:=List.length_map ..
 have hm:(m.map bV).length=m.length:=List.length_map ..
 refine aH false [] hty Tryz.func64 rfl (kp [0,1,2,6,7,12,14,15,16,28]) [] _ _ _ (by simp [Tryz.f64]) (by simp) ?_
 ((conv=>whnf);repeat ((first|(intro hq;try simp only [lnS]at hq)|refine sI ?_|refine .intro _ (.intro rfl ?_));(conv=>whnf)))
 refine aD (λh1=> ?_) (λh1=> ?_)
 ·((conv=>whnf);repeat' ((first|(intro hq;(try simp only [lnS]at hq);(try rewrite [List.length_map]))|refine sJ ?_|refine .intro _ (.intro rfl ?_)|refine exL (k:= ?_)|refine dwR ?_|((first|refine aC ?_ ?_|refine aD ?_ ?_)<;>intro hb<;>(first|exact ddX hb|try simp only [lnS]at hb))|(refine aB ?_ ?_<;>intro hb<;>try exact dsX hb))<;>(conv=>whnf)))
  refine aM ?_
  rw [decide_eq_false]
  intro e
  subst e
  exact h1 rfl
 ·have h1:l.length=m.length:=by
   have h2:(((l.map bV).length:Nat):Int)=((m.map bV).length:Nat):=by simpa using h1
   rw [hl,hm]at h2
   omega
  ((conv=>whnf);repeat ((first|(intro hq;try simp only [lnS]at hq)|refine sI ?_|refine .intro _ (.intro rfl ?_));(conv=>whnf)))
  refine aP hty (λj:Nat=>([(0, .d (.sl 2 (l.map bV))),(1, .d (.sl 2 (m.map bV))),(2, .fn 65 [] []),(14, .d (.int .i64 l.length)),(15, .d (.int .i64 j))],[])) (λj=>j<=l.length/\l.take j=m.take j) (λj=>l.length - j) 0 ⟨Nat.zero_le _,rfl⟩ ⟨by repeat' (first|exact trivial|exact rfl|(rw [List.length_map];exact rfl)|refine And.intro ?_ ?_),trivial⟩ ?_
  rintro j ⟨hj,ht⟩
  ((conv=>whnf);repeat ((first|(intro hq;try simp only [lnS]at hq)|refine sI ?_|refine .intro _ (.intro rfl ?_));(conv=>whnf)))
  refine aC (λh2=> ?_) (λh2=> ?_)
  ·have hjl:j < l.length:=by omega
   have hjm:j < m.length:=by omega
   have hrow:(l.map bV)[((j:Nat):Int).toNat]? =some (bV l[j]):=aT hjl
   have hrow2:(m.map bV)[((j:Nat):Int).toNat]? =some (bV m[j]):=aT hjm
   have hc:=sF l[j] m[j]
   have hs1:l.take (j+1)=l.take j++[l[j]]:=List.take_succ_eq_append_getElem hjl
   have hs2:m.take (j+1)=m.take j++[m[j]]:=List.take_succ_eq_append_getElem hjm
   rw [show bV l[j]=[.int .i64 l[j].no, .sl 6 (l[j].part.map atR)]from rfl]at hrow hc
   rw [show bV m[j]=[.int .i64 m[j].no, .sl 6 (m[j].part.map atR)]from rfl]at hrow2 hc
   ((conv=>whnf);repeat ((first|(intro hq;try simp only [lnS]at hq)|refine sI ?_|refine .intro _ (.intro rfl ?_));(conv=>whnf)))
   refine dwR ?_
   ((conv=>whnf);repeat ((first|(refine⟨_,hrow, ?_⟩)|(refine⟨_,hrow2, ?_⟩)|(refine⟨.d (.bool _),_,[],rfl,trivial,hc, ?_⟩)|(intro hq;try simp only [lnS]at hq)|refine sI ?_|refine .intro _ (.intro rfl ?_));(conv=>whnf)))
   by_cases he:l[j]=m[j]
   ·rw [decide_eq_true he]
    ((conv=>whnf);repeat ((first|(intro hq;try simp only [lnS]at hq)|refine sI ?_|refine .intro _ (.intro rfl ?_));(conv=>whnf)))
    exact⟨j+1,⟨by omega,by rw [hs1,hs2,ht,he]⟩,by dsimp only;omega,by repeat' (first|exact trivial|exact rfl|refine And.intro ?_ ?_),trivial⟩
   ·rw [decide_eq_false he]
    ((conv=>whnf);repeat ((first|(intro hq;try simp only [lnS]at hq)|refine sI ?_|refine .intro _ (.intro rfl ?_));(conv=>whnf)))
    refine aM ?_
    rw [decide_eq_false]
    intro e
    subst e
    exact he rfl
  ·have hjl:j=l.length:=by omega
   subst hjl
   rw [List.take_length,h1,List.take_length]at ht
   ((conv=>whnf);repeat ((first|(intro hq;try simp only [lnS]at hq)|refine sI ?_|refine .intro _ (.intro rfl ?_));(conv=>whnf)))
   refine aM ?_
   rw [decide_eq_true ht]
theorem lZ (s:List UInt8) (n:Int):Tri Tryz.prog 12 [.d (.str s), .d (.int .i64 n)] [] (λr=>r= .tup [.d (.agg (lgR (aJv s n).1)), .d (.int .i64 (aJv s n).2)]):=by
 have h1:=iG s
 have h2:=gI n
 unfold aJv
 generalize rdF s=b1 at *
 generalize wC n=b2 at *
 refine Tri.says ?_
 refine aH false [] hty Tryz.func12 rfl (kp [0,1,4,5,13]) [] _ _ _ (by simp [Tryz.f12]) (by simp) ?_
 cases b1<;>cases b2
 all_goals
  ((conv=>whnf);repeat' ((first|(intro hq;(try simp only [lnS]at hq);(try rewrite [List.length_map]))|refine sJ ?_|refine .intro _ (.intro rfl ?_)|refine exL (k:= ?_)|(refine aA [] h1 trivial (λr hs=> ?_);subst hs)|(refine aA [] h2 trivial (λr hs=> ?_);subst hs)|refine dwR ?_|((first|refine aC ?_ ?_|refine aD ?_ ?_)<;>intro hb<;>(first|exact ddX hb|try simp only [lnS]at hb))|(refine aB ?_ ?_<;>intro hb<;>try exact dsX hb))<;>(conv=>whnf)))
 all_goals exact⟨_,cJ.pair (cJ.wkd (by repeat' (first|exact trivial|exact rfl|refine And.intro ?_ ?_))),rfl⟩
theorem uA (l:Lg):Tri Tryz.prog 17 [.d (.agg (lgR l))] [] (λr=>r= .d (.int .i64 (aEh l))):=by
 have hl:(l.entries.map bV).length=l.entries.length:=List.length_map ..
 show Tri Tryz.prog 17 [.d (.agg [.str l.reader, .int .i64 l.version, .sl 2 (l.entries.map bV)])] [] _
 refine aH false [1] hty Tryz.func17 rfl (kp [0,1,2]) [] _ _ _ (by simp [Tryz.f17]) (by simp) ?_
 ((conv=>whnf);repeat ((first|(refine aJx rfl rfl rfl ?_)|(intro hq;try simp only [lnS]at hq)|refine sI ?_|refine .intro _ (.intro rfl ?_));(conv=>whnf)))
 refine iJ ?_
 unfold aEh
 split<;>omega
def aBm (es:List Ent) (p:List At):Int:=match es.findIdx? (λx=>decide (x.part=p))with
 |some k=>k
 |none=> -1
theorem aEu {es:List Ent}{p:List At}{j:Nat}(hj:j < es.length) (h: ∀x∈es.take j,x.part≠p) (he:es[j].part=p):aBm es p=j:=by
 unfold aBm
 rw [List.findIdx?_eq_some_iff_getElem.2 ⟨hj, by simpa using he, λk hk => by
  have:=h es[k] (List.mem_take_iff_getElem.2 ⟨k,by omega,rfl⟩)
  simpa using this⟩]
theorem aEt {es:List Ent}{p:List At}(h: ∀x∈es,x.part≠p):aBm es p= -1:=by
 unfold aBm
 rw [List.findIdx?_eq_none_iff.2 λx hx=>by simpa using h x hx]
theorem aHd {es:List Ent}{p:List At}:0<=aBm es p↔p∈es.map Ent.part:=by
 unfold aBm
 cases h:es.findIdx? (λx=>decide (x.part=p))with
 |none=>
  have:=List.findIdx?_eq_none_iff.1 h
  refine⟨λh=>by simp at h,λhm=> ?_⟩
  obtain⟨x,hx,e⟩:=List.mem_map.1 hm
  have:=this x hx
  simp [e]at this
 |some k=>
  obtain⟨hk,h1,_⟩:=List.findIdx?_eq_some_iff_getElem.1 h
  refine⟨λ_=>List.mem_map.2 ⟨es[k],List.getElem_mem hk,by simpa using h1⟩,λ_=>by dsimp only;omega⟩
theorem aIj (es:List Ent) (p:List At):(yD es p=none/\aBm es p= -1)\/ ∃(k:Nat) (hk:k < es.length),aBm es p=k/\yD es p=some es[k].no:=by
 induction es with
 |nil=>exact .inl ⟨rfl,rfl⟩
 |cons x r ih=>
  by_cases hx:x.part=p
  ·refine .inr ⟨0,by simp, ?_, ?_⟩
   ·exact aEu (j:=0) (by simp) (by simp) hx
   ·rw [yD,if_pos hx];rfl
  ·have e:aBm (x::r) p=if aBm r p < 0 then -1 else aBm r p+1:=by
    unfold aBm
    rw [List.findIdx?_cons]
    rw [if_neg (by simpa using hx)]
    cases r.findIdx? (λx=>decide (x.part=p))with
    |none=>rfl
    |some k=>simp only [Option.map_some];rw [if_neg (by omega)];omega
   rw [yD,if_neg hx,e]
   rcases ih with⟨h1,h2⟩|⟨k,hk,h1,h2⟩
   ·exact .inl ⟨h1,by rw [h2];rfl⟩
   ·refine .inr ⟨k+1,by simp;omega, ?_, ?_⟩
    ·rw [h1,if_neg (by omega)];omega
    ·rw [h2];rfl
theorem nC (es:List Ent) (p:List At):Tri Tryz.prog 41 [.d (.sl 2 (es.map bV)), .d (.agg (aQ p))] [] (λr=>r= .d (.int .i64 (aBm es p))):=by
 have hl:(es.map bV).length=es.length:=List.length_map ..
 rw [show aQ p=[.sl 6 (p.map atR)]from rfl]
 refine aH false [3,6] hty Tryz.func41 rfl (kp [0,1,3,4,5,6,7,8,9,10,17]) [] _ _ _ (by simp [Tryz.f41]) (by simp) ?_
 ((conv=>whnf);repeat ((first|(intro hq;try simp only [lnS]at hq)|refine sI ?_|refine .intro _ (.intro rfl ?_));(conv=>whnf)))
 refine aP hty (λj:Nat=>([(3, .ea 1 [[.sl 6 (p.map atR)]] 0 0),(7, .d (.sl 2 (es.map bV))),(8, .d (.int .i64 es.length)),(9, .d (.int .i64 j))],[])) (λj=>j<=es.length/\ ∀x∈es.take j,x.part≠p) (λj=>es.length - j) 0 ⟨Nat.zero_le _,λx hx=>by simp at hx⟩ ⟨by repeat' (first|exact trivial|exact rfl|(rw [List.length_map];exact rfl)|refine And.intro ?_ ?_),trivial⟩ ?_
 rintro j ⟨hj,hn⟩
 ((conv=>whnf);repeat ((first|(intro hq;try simp only [lnS]at hq)|refine sI ?_|refine .intro _ (.intro rfl ?_));(conv=>whnf)))
 refine aC (λh1=> ?_) (λh1=> ?_)
 ·have hjl:j < es.length:=by omega
  have hrow:(es.map bV)[((j:Nat):Int).toNat]? =some (bV es[j]):=aT hjl
  have hc:=gD es[j].part p
  have hx:= @aEu es p j hjl hn
  have hs: ∀x∈es.take (j+1),x∈es.take j\/x=es[j]:= λx hx=>by
   rw [List.take_succ_eq_append_getElem hjl,List.mem_append,List.mem_singleton]at hx
   exact hx
  rw [show bV es[j]=[.int .i64 es[j].no, .sl 6 (es[j].part.map atR)]from rfl]at hrow
  rw [show aQ p=[.sl 6 (p.map atR)]from rfl,show aQ es[j].part=[.sl 6 (es[j].part.map atR)]from rfl]at hc
  ((conv=>whnf);repeat ((first|(refine⟨_,hrow, ?_⟩)|(refine aA [] hc trivial (λr hs=> ?_);subst hs)|(intro hq;try simp only [lnS]at hq)|refine sI ?_|refine .intro _ (.intro rfl ?_));(conv=>whnf)))
  by_cases he:es[j].part=p
  ·rw [decide_eq_true he]
   ((conv=>whnf);repeat ((first|(intro hq;try simp only [lnS]at hq)|refine sI ?_|refine .intro _ (.intro rfl ?_));(conv=>whnf)))
   exact iJ (hx he).symm
  ·rw [decide_eq_false he]
   ((conv=>whnf);repeat ((first|(intro hq;try simp only [lnS]at hq)|refine sI ?_|refine .intro _ (.intro rfl ?_));(conv=>whnf)))
   refine⟨j+1,⟨by omega,λx hx=> ?_⟩,by dsimp only;omega,by repeat' (first|exact trivial|exact rfl|refine And.intro ?_ ?_),trivial⟩
   rcases hs x hx with h|rfl
   ·exact hn x h
   ·exact he
 ·have hjl:j=es.length:=by omega
  subst hjl
  rw [List.take_length]at hn
  ((conv=>whnf);repeat ((first|(intro hq;try simp only [lnS]at hq)|refine sI ?_|refine .intro _ (.intro rfl ?_));(conv=>whnf)))
  exact iJ (aEt hn).symm
end Go.Proofs.YtdjfkmkdkclahaaGreatDoor
