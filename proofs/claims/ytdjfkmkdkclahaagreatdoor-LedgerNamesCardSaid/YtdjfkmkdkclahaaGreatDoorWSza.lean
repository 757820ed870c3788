/-
  Queries: the search for the least order of names. Queries: the least tidy part; canonical names. The walk through the reference's keyword. Names: the walks through the reference's functions that tell which strings are names. Small rules for the orders of a region. Ledgers: readers, versions, the query of a part. A contract by a walk through the body whose own objects are numbered from a number. The contract of a function with several boxed results whose deferred closure recovers, tells what was thrown, and writes the results. A deferred closure that keeps what it recovers: in a call that comes back it does nothing; after a panic it runs its body.
  Conditions: none.
-/
import Derived.Test.YtdjfkmkdkclahaaGreatDoorWSyv
import Derived.Test.YtdjfkmkdkclahaaGreatDoorWXv
import Derived.Test.YtdjfkmkdkclahaaGreatDoorWSw
import Derived.Test.YtdjfkmkdkclahaaGreatDoorWOh
import Derived.Test.YtdjfkmkdkclahaaGreatDoorWSnb
import Derived.Test.YtdjfkmkdkclahaaGreatDoorWQqg
set_option linter.unnecessarySimpa false
set_option linter.unusedSectionVars false
set_option linter.unusedSimpArgs false
set_option linter.unusedVariables false
set_option maxHeartbeats 16000000
namespace Go.Proofs.YtdjfkmkdkclahaaGreatDoor
section
open Go.Proofs Go.RowKit
set_option maxRecDepth 10000
attribute [local irreducible] aH aF Tri aD YVC bO aP
theorem aGs {fr:Fr}(h3:(fS fr).all (λk=>decide (k < 60))=true): ∀k,60<=k->k∉fS fr:=by
 intro k hk hm
 have:=List.all_eq_true.1 h3 k hm
 simp at this
 omega
def nS:Option (List At)->D
 |none=> .nil
 |some y=> .sl 6 (y.map atR)
def xE (o:Option Nat):List D:=[.bool o.isSome]
def aM6:List SV:=[.ptr 5 0, .ptr 10 0, .ptr 3 0, .ptr 2 0, .ptr 11 0, .ptr 4 0, .ptr 12 0]
def stD (P:List At) (H:List bG) (cap:Nat) (F:Mp) (bs:List Nat) (ck:Nat) (a:Asg) (fd:Bool) (best:D):Hp:=
 [(11, .cells 4 [.d (.bool fd)]),(4, .cells 35 [.d best]),(3, .cells 138 [.xv 33 aBq]),(33, .ext (yB aEl (rO F) bs ck)),(10, .cells 185 [.mw 35 1 H.length]),(35, .mrow 4 1 cap (a.map xE)),(5, .cells 54 [.d (.sl 1 (H.map aT))]),(2, .cells 35 [.d (.sl 6 (P.map atR))]),(12, .cells 155 [.fn 164 [] aM6])]
theorem yM (F:Mp):aOf (rO F)=[]:=by
 unfold aOf rO
 rw [List.flatMap_map]
 exact List.flatMap_eq_nil_iff.2 λ_ _=>rfl
theorem aKy (P:List At) (H:List bG) (cap:Nat) (F:Mp) (bs:List Nat) (ck:Nat) (a:Asg) (fd:Bool) (best:D): ∀k,60<=k->k∉jP (stD P H cap F bs ck a fd best):=by
 intro k hk
 have h:=yM F
 simp [stD,jP,HObj.ids,SV.idsL,SV.ids,aM6,yB,h]
 omega
def aMe (P:List At) (H:List bG) (cap f:Nat):Prop:= ∀(n:Nat) (a:Asg) (best:Option (List At)) (F:Mp) (bs:List Nat) (ck:Nat),f+n=H.length->a.length=H.length->MpOk H a F->
  ∀{pin:Pin} {fr:Fr} {K:SV->Hp->Prop},(∀k,60<=k->k∉pin)->(∀k,60<=k->k∉fS fr)->
  (∀F' bs' ck',MpOk H a F'->K (bY []) (stD P H cap F' bs' ck' a (dfs P H f n a best).isSome (nS (dfs P H f n a best))))->
  aF Tryz.prog pin fr (stD P H cap F bs ck a best.isSome (nS best)) 164 (.d (.int .i64 n)::aM6) K
theorem yW (P:List At) (hP:P.length<=100000) (H:List bG) (hH:H.Nodup) (h8:H.length<=8) (cap f:Nat) (ih: ∀g,f=g+1->aMe P H cap g):aMe P H cap f:=by
 intro n a best F bs ck hfn hal hMp pin fr K hp1 hf hk
 have hlH:(H.map aT).length=H.length:=List.length_map ..
 have hlA:(a.map xE).length=H.length:=(List.length_map ..).trans hal
 have hit:Tri Tryz.prog 110 [.d (.int .i64 ((n:Int)+1))] [] (λr=>r= .d (.str [UInt8.ofNat (48+(n+1))])):=aFv (n+1) (by omega)
 have hbig: ∀k,60<=k->k∉pin.under fr (fS fr):= λk hk h=>(pN.1 h).elim (hp1 k hk) (hf k hk)
 refine nG false [] hty Tryz.func164 rfl (kp [0,1,2,3,4,5,6,7,9,10,11,12,13,14,19,20,21,22,30,47,51,54,55,56,57,64]) 200 (by simp [Tryz.f164,aM6]) ?_
 unfold stD aM6
 refine aZ (cV hty ?_)
 ((conv=>whnf);repeat ((first|refine qT hit ?_ |(intro hq;try simp only [lnS]at hq)|refine sI ?_|refine qE_ ?_);conv=>whnf))
 refine aZ (cV hty ?_)
 ((conv=>whnf);repeat ((first |(intro hq;try simp only [lnS]at hq)|refine sI ?_|refine qE_ ?_);conv=>whnf))
 refine aG hty (λy:Nat×Mp×List Nat×Nat=>([(0, .d (.int .i64 n)),(1, .ptr 5 0),(2, .ptr 10 0),(3, .ptr 3 0),(4, .ptr 2 0),(5, .ptr 11 0),(6, .ptr 4 0),(7, .ptr 12 0),(9, .d (.str (nmV (n+1)))),(19, .d (.sl 1 (H.map aT))),(20, .d (.int .i64 H.length)),(21, .d (.int .i64 y.1))],stD P H cap y.2.1 y.2.2.1 y.2.2.2 a best.isSome (nS best))) (λy=>y.1<=H.length/\MpN H a n y.1 y.2.1) (λy=>H.length - y.1) (0,F,bs,ck) ⟨Nat.zero_le _, .zero hMp⟩ ⟨by repeat' (first|exact trivial|exact rfl|(rw [hlH];exact rfl)|refine And.intro ?_ ?_),qB⟩ ?_
 ·rintro⟨j,F,bs,ck⟩ ⟨hj,hMp⟩
  dsimp only at hj hMp
  unfold stD
  ((conv=>whnf);repeat ((first |(intro hq;try simp only [lnS]at hq)|refine sI ?_|refine qE_ ?_);conv=>whnf))
  refine aB (λh1=> ?_) (λh1=> ?_)
  ·have hjl:j < H.length:=by dsimp only at h1;omega
   have hja:j < a.length:=by omega
   have hrow:(H.map aT)[(j:Int).toNat]? =some (aT H[j]):=aK hjl
   have hrow2:(a.map xE)[(j:Int).toNat]? =some (xE a[j]):=aK hja
   rw [show aT H[j]=[.str H[j]]from rfl]at hrow
   cases ha:a[j]with
   |none=>
    rw [ha]at hrow2
    rw [show xE none=[.bool false]from rfl]at hrow2
    ((conv=>whnf);repeat ((first|(refine⟨_,hrow, ?_⟩)|(refine⟨_,hrow2, ?_⟩)|(refine And.intro hlA.symm ?_) |(intro hq;try simp only [lnS]at hq)|refine sI ?_|refine qE_ ?_);conv=>whnf))
    refine lZ (id:=33) (ents:=rO F) (k:=H[j]) (.inl rfl) rfl (hU rfl) rfl rfl rfl rfl (λbs2 ck2=> ?_)
    rw [pL]
    ((conv=>whnf);repeat ((first |(intro hq;try simp only [lnS]at hq)|refine sI ?_|refine qE_ ?_);conv=>whnf))
    exact⟨(j+1,yA F H[j] (nmV (n+1)),bs2,ck2),⟨qO,hMp.set hH (List.getElem?_eq_getElem hjl) (by rw [List.getElem?_eq_getElem hja,ha])⟩,qO,qB,qB⟩
   |some k=>
    rw [ha]at hrow2
    rw [show xE (some k)=[.bool true]from rfl]at hrow2
    ((conv=>whnf);repeat ((first|(refine⟨_,hrow, ?_⟩)|(refine⟨_,hrow2, ?_⟩)|(refine And.intro hlA.symm ?_) |(intro hq;try simp only [lnS]at hq)|refine sI ?_|refine qE_ ?_);conv=>whnf))
    exact⟨(j+1,F,bs,ck),⟨qO,hMp.skip (by rw [List.getElem?_eq_getElem hja,ha])⟩,qO,qB,qB⟩
  ·have hjl:j=H.length:=by dsimp only at h1;omega
   subst hjl
   have hg: ∀x,gF F x=gV H (fI a n) x:= λx=>hMp.all hH hal x
   have hr:P.map (rpA (gF F))=P.map (rpA (gV H (fI a n))):=by rw [funext hg]
   ((conv=>whnf);repeat ((first |(intro hq;try simp only [lnS]at hq)|refine sI ?_|refine qE_ ?_);conv=>whnf))
   refine aZ (cV hty ?_)
   ((conv=>whnf);repeat ((first |(intro hq;try simp only [lnS]at hq)|refine sI ?_|refine qE_ ?_);conv=>whnf))
   refine xJ P (by omega) F bs ck rfl hbig (aGs (by with_unfolding_all exact rfl)) (aKy P H cap F bs ck a best.isSome (nS best)) (λ_=>qB) (λ_ _ _=>qB) (λcp=> ?_)
   rw [hr]
   ((conv=>whnf);repeat ((first |(intro hq;try simp only [lnS]at hq)|refine sI ?_|refine qE_ ?_);conv=>whnf))
   refine aZ (cV hty ?_)
   ((conv=>whnf);repeat ((first |(intro hq;try simp only [lnS]at hq)|refine sI ?_|refine qE_ ?_);conv=>whnf))
   refine kR Tryz.sortAt (by decide) aBv aEr (enters_of Tryz.func167 (by kernel_rfl) rfl) (P.map (rpA (gV H (fI a n)))) atR bE aMu (λx _ y _=>hC x y) (id:=70) rfl rfl (by rw [List.length_map];omega) (λl' hp' hs'=> ?_)
   have hy:l'=yOf P H a n:=aEn hp' hs'
   have hyl:=hp'.length_eq
   rw [hy]at hyl
   subst hy
   generalize hY:yOf P H a n=y at *
   ((conv=>whnf);repeat ((first |(intro hq;try simp only [lnS]at hq)|refine sI ?_|refine qE_ ?_);conv=>whnf))
   refine aH.froz 12 70 (hp':=stD P H cap F bs ck a best.isSome (nS best)) rfl rfl (by simp only [List.length_map]at hyl |-;exact hyl.symm) qB rfl ?_
   have hcmp: ∀b,Tri Tryz.prog 168 [.d (.sl 6 (y.map atR)), .d (.sl 6 (b.map atR)), .fn 167 [] []] [] (λr=>r= .d (.int .i64 (bH bE y b))):= λb=>tA 167 (by kernel_rfl) y b (λa _ b _=>hC a b)
   cases hc:aM3 y best with
   |true=>
    have hk:=hk F bs ck hMp.toMpOk
    rw [aM0 (by rw [hY];exact hc)]at hk
    cases best with
    |none=>cases hc
    |some b=>
     have hcb:=hcmp b
     have hc:decide (0<=bH bE y b)=true:=hc
     refine aZ (cV hty ?_)
     ((conv=>whnf);repeat ((first|refine qT hcb ?_ |(intro hq;try simp only [lnS]at hq)|refine sI ?_|refine qE_ ?_);conv=>whnf))
     rw [hc]
     ((conv=>whnf);repeat ((first |(intro hq;try simp only [lnS]at hq)|refine sI ?_|refine qE_ ?_);conv=>whnf))
     exact hk
   |false=>
    refine aI1 [(0, .d (.int .i64 n)),(1, .ptr 5 0),(2, .ptr 10 0),(3, .ptr 3 0),(4, .ptr 2 0),(5, .ptr 11 0),(6, .ptr 4 0),(7, .ptr 12 0),(9, .d (.str (nmV (n+1)))),(12, .d (.sl 6 (y.map atR)))] (stD P H cap F bs ck a best.isSome (nS best)) (cV hty ?_) ?_
    ·cases best with
     |none=>
      ((conv=>whnf);repeat ((first |(intro hq;try simp only [lnS]at hq)|refine sI ?_|refine qE_ ?_);conv=>whnf))
      exact⟨qB,qB⟩
     |some b=>
      have hcb:=hcmp b
      have hc:decide (0<=bH bE y b)=false:=hc
      ((conv=>whnf);repeat ((first|refine qT hcb ?_ |(intro hq;try simp only [lnS]at hq)|refine sI ?_|refine qE_ ?_);conv=>whnf))
      rw [hc]
      ((conv=>whnf);repeat ((first |(intro hq;try simp only [lnS]at hq)|refine sI ?_|refine qE_ ?_);conv=>whnf))
      exact⟨qB,qB⟩
    have hMp:=hMp.toMpOk
    refine aZ (cV hty ?_)
    unfold stD
    ((conv=>whnf);repeat ((first |(intro hq;try simp only [lnS]at hq)|refine sI ?_|refine qE_ ?_);conv=>whnf))
    cases f with
    |zero=>
     rw [decide_eq_true (by rw [hlH];omega)]
     have hk:=hk F bs ck hMp
     rw [aJ0 (by rw [hY];exact hc),hY]at hk
     ((conv=>whnf);repeat ((first |(intro hq;try simp only [lnS]at hq)|refine sI ?_|refine qE_ ?_);conv=>whnf))
     exact hk
    |succ g=>
     have ih:=ih g rfl
     rw [decide_eq_false (by rw [hlH];omega)]
     rw [aJ1 (by rw [hY];exact hc),hal]at hk
     ((conv=>whnf);repeat ((first |(intro hq;try simp only [lnS]at hq)|refine sI ?_|refine qE_ ?_);conv=>whnf))
     refine cV hty ?_
     ((conv=>whnf);repeat ((first |(intro hq;try simp only [lnS]at hq)|refine sI ?_|refine qE_ ?_);conv=>whnf))
     refine aG hty (λy:Nat×Mp×List Nat×Nat=>([(0, .d (.int .i64 n)),(1, .ptr 5 0),(2, .ptr 10 0),(3, .ptr 3 0),(4, .ptr 2 0),(5, .ptr 11 0),(6, .ptr 4 0),(7, .ptr 12 0),(9, .d (.str (nmV (n+1)))),(54, .d (.sl 1 (H.map aT))),(55, .d (.int .i64 H.length)),(56, .d (.int .i64 y.1))],stD P H cap y.2.1 y.2.2.1 y.2.2.2 a (aC6 P H g n a best y.1).isSome (nS (aC6 P H g n a best y.1)))) (λy=>y.1<=H.length/\MpOk H a y.2.1) (λy=>H.length - y.1) (0,F,bs,ck) ⟨Nat.zero_le _,hMp⟩ ⟨by repeat' (first|exact trivial|exact rfl|(rw [hlH];exact rfl)|refine And.intro ?_ ?_),qB⟩ ?_
     rintro⟨j,F,bs,ck⟩ ⟨hj,hMp⟩
     dsimp only at hj hMp
     unfold stD aM6
     ((conv=>whnf);repeat ((first |(intro hq;try simp only [lnS]at hq)|refine sI ?_|refine qE_ ?_);conv=>whnf))
     refine aB (λh1=> ?_) (λh1=> ?_)
     ·have hjl:j < H.length:=by dsimp only at h1;omega
      have hja:j < a.length:=by omega
      have hHj:=List.getElem?_eq_getElem hjl
      have hrow:(H.map aT)[(j:Int).toNat]? =some (aT H[j]):=aK hjl
      have hrow2:(a.map xE)[(j:Int).toNat]? =some (xE a[j]):=aK hja
      rw [show aT H[j]=[.str H[j]]from rfl]at hrow
      cases ha:a[j]with
      |some k=>
       have haj:a[j]? =some (some k):=by rw [List.getElem?_eq_getElem hja,ha]
       rw [ha]at hrow2
       rw [show xE (some k)=[.bool true]from rfl]at hrow2
       have hJ:aC6 P H g n a best (j+1)=aC6 P H g n a best j:=aGh haj
       ((conv=>whnf);repeat ((first|(refine⟨_,hrow, ?_⟩)|(refine⟨_,hrow2, ?_⟩)|(refine And.intro hlA.symm ?_) |(intro hq;try simp only [lnS]at hq)|refine sI ?_|refine qE_ ?_);conv=>whnf))
       exact⟨(j+1,F,bs,ck),⟨qO,hMp⟩,qO,qB,by dsimp only;rw [hJ];exact qB⟩
      |none=>
       have haj:a[j]? =some none:=by rw [List.getElem?_eq_getElem hja,ha]
       rw [ha]at hrow2
       rw [show xE none=[.bool false]from rfl]at hrow2
       have hJ:aC6 P H g n a best (j+1)=dfs P H g (n+1) (a.set j (some (n+1))) (aC6 P H g n a best j):=aM1 haj
       ((conv=>whnf);repeat ((first|(refine⟨_,hrow, ?_⟩)|(refine⟨_,hrow2, ?_⟩)|(refine And.intro hlA.symm ?_)|(refine And.intro (oF rfl) ?_) |(intro hq;try simp only [lnS]at hq)|refine sI ?_|refine qE_ ?_);conv=>whnf))
       refine lZ (id:=33) (ents:=rO F) (k:=H[j]) (.inl rfl) rfl (hU rfl) rfl rfl rfl rfl (λbs2 ck2=> ?_)
       rw [pL]
       have hset:(a.map xE).set (j:Int).toNat [.bool true]=(a.set j (some (n+1))).map xE:=by rw [List.map_set];rfl
       ((conv=>whnf);repeat ((first |(intro hq;try simp only [lnS]at hq)|refine sI ?_|refine qE_ ?_);conv=>whnf))
       dsimp only
       rw [hset]
       refine ih (n+1) (a.set j (some (n+1))) (aC6 P H g n a best j) (yA F H[j] (nmV (n+1))) bs2 ck2 (by omega) (by rw [List.length_set];exact hal) (hMp.name hH hHj haj) hbig (aGs (by with_unfolding_all exact rfl)) (λF3 bs3 ck3 hM3=> ?_)
       have hlA3:((a.set j (some (n+1))).map xE).length=H.length:=by rw [List.length_map,List.length_set];exact hal
       have hback:((a.set j (some (n+1))).map xE).set (j:Int).toNat [.bool false]=a.map xE:=by
        rw [Int.toNat_natCast,List.map_set,List.set_set]
        apply List.ext_getElem?
        intro i
        by_cases e:j=i
        ·subst e
         rw [List.getElem?_set_self (by rw [List.length_map];exact hja),List.getElem?_map,haj];rfl
        ·rw [List.getElem?_set_ne e]
       have hrow3:((a.set j (some (n+1))).map xE)[(j:Int).toNat]? =some [.bool true]:=by
        rw [Int.toNat_natCast,List.getElem?_map,List.getElem?_set_self hja];rfl
       rw [<-hJ]
       unfold stD
       ((conv=>whnf);repeat ((first|(refine⟨_,hrow3, ?_⟩)|(refine And.intro hlA3.symm ?_)|(refine And.intro (oF rfl) ?_) |(intro hq;try simp only [lnS]at hq)|refine sI ?_|refine qE_ ?_);conv=>whnf))
       dsimp only
       rw [hback]
       exact⟨(j+1,F3,bs3,ck3),⟨qO,hM3.back haj⟩,qO,qB,qB⟩
     ·have hjl:j=H.length:=by dsimp only at h1;omega
      subst hjl
      have hk:=hk F bs ck hMp
      ((conv=>whnf);repeat ((first |(intro hq;try simp only [lnS]at hq)|refine sI ?_|refine qE_ ?_);conv=>whnf))
      exact hk
theorem aGe (P:List At) (hP:P.length<=100000) (H:List bG) (hH:H.Nodup) (h8:H.length<=8) (cap:Nat): ∀f,aMe P H cap f:=by
 intro f
 induction f with
 |zero=>exact yW P hP H hH h8 cap 0 (λg h=>by omega)
 |succ f ih=>exact yW P hP H hH h8 cap (f+1) (λg h=>by cases h;exact ih)
end
section
open Go.Proofs Go.RowKit
set_option maxRecDepth 10000
attribute [local irreducible] aH aF Tri aD YVC bO aP
theorem aFr (P:List At) (hP:P.length<=100000) (h8:(aQ P).length<=8) (bs:List Nat) (ck:Nat) (y:List At) (hy:dfs P (aQ P) (aQ P).length 0 (List.replicate (aQ P).length none) none=some y):
  aF Tryz.prog (dL [33]) [] [(33, .ext (yB aEl (rO []) bs ck))] 111 [.d (.agg [.sl 6 (P.map atR)]), .xv 33 aBq] (λs h1=>s= .d (.agg [.sl 6 (y.map atR)])/\ ∃F bs ck,aM h1 33=some (.ext (yB aEl (rO F) bs ck))):=by
 have hv:Tri Tryz.prog 31 [.d (.agg [.sl 6 (P.map atR)])] [] (λr=>r= .d (.sl 1 ((aQ P).map aT))):=eG P hP
 have hH:=(dA P).2
 generalize aQ P=H at *
 have hlH:(H.map aT).length=H.length:=List.length_map ..
 refine nG false [] hty Tryz.func111 rfl (kp [0,1,2,3,4,5,7,9,10,11,12,14,15,16,17,27]) 0 (by simp [Tryz.f111]) ?_
 refine aZ (cV hty ?_)
 ((conv=>whnf);repeat ((first |(intro hq;try simp only [lnS]at hq)|refine sI ?_|refine qE_ ?_);conv=>whnf))
 refine aZ (cV hty ?_)
 ((conv=>whnf);repeat ((first |(intro hq;try simp only [lnS]at hq)|refine sI ?_|refine qE_ ?_);conv=>whnf))
 refine aH.mownH 5 71 54 9 1 rfl (cO (by with_unfolding_all exact rfl)) ?_
 refine aZ (cV hty ?_)
 ((conv=>whnf);repeat ((first|refine qT hv ?_ |(intro hq;try simp only [lnS]at hq)|refine sI ?_|refine qE_ ?_);conv=>whnf))
 refine aG hty (λy:Nat×Nat=>([(2, .ptr 2 0),(3, .ptr 3 0),(4, .ptr 4 0),(5, .ptr 5 0),(14, .d (.sl 1 (H.map aT))),(15, .d (.int .i64 H.length)),(16, .d (.int .i64 y.1))],[(71, .mrow 9 1 y.2 ((H.take y.1).map aT)),(5, .cells 54 [.mw 71 1 y.1]),(4, .cells 35 [.d .nil]),(3, .cells 138 [.xv 33 aBq]),(2, .cells 35 [.d (.sl 6 (P.map atR))]),(33, .ext (yB aEl (rO []) bs ck))])) (λy=>y.1<=H.length) (λy=>H.length - y.1) (0,0) (Nat.zero_le _) ⟨by repeat' (first|exact trivial|exact rfl|(rw [hlH];exact rfl)|refine And.intro ?_ ?_),qB⟩ ?_
 rintro⟨j,cap⟩ hj
 dsimp only at hj
 ((conv=>whnf);repeat ((first |(intro hq;try simp only [lnS]at hq)|refine sI ?_|refine qE_ ?_);conv=>whnf))
 refine aB (λh1=> ?_) (λh1=> ?_)
 ·have hjl:j < H.length:=by dsimp only at h1;omega
  have hrow:(H.map aT)[(j:Int).toNat]? =some (aT H[j]):=aK hjl
  rw [show aT H[j]=[.str H[j]]from rfl]at hrow
  have hfn:(H.take (j+1)).map aT=(H.take j).map aT++[[.str H[j]]]:=by
   rw [List.take_succ_eq_append_getElem hjl,List.map_append];rfl
  have hln:((H.take j).map aT).length=j:=by rw [List.length_map,List.length_take];omega
  ((conv=>whnf);repeat ((first|(refine⟨_,hrow, ?_⟩) |(intro hq;try simp only [lnS]at hq)|refine sI ?_|refine qE_ ?_);conv=>whnf))
  refine jO (id:=33) (ents:=rO []) (bs:=bs) (clock:=ck) (k:=H[j]) rfl rfl (hU rfl) rfl rfl rfl rfl ?_
  ((conv=>whnf);repeat ((first |(intro hq;try simp only [lnS]at hq)|refine sI ?_|refine qE_ ?_);conv=>whnf))
  rw [hln]
  rename_i c2
  exact⟨(j+1,c2),qO,qO,qB,by dsimp only;rw [hfn];exact qB⟩
 ·have hjl:j=H.length:=by dsimp only at h1;omega
  subst hjl
  rw [List.take_length]
  ((conv=>whnf);repeat ((first |(intro hq;try simp only [lnS]at hq)|refine sI ?_|refine qE_ ?_);conv=>whnf))
  refine aH.frozC (id:=71) (i:=5) (hp1:=[(5, .cells 54 [.mw 71 1 H.length]),(4, .cells 35 [.d .nil]),(3, .cells 138 [.xv 33 aBq]),(2, .cells 35 [.d (.sl 6 (P.map atR))]),(33, .ext (yB aEl (rO []) bs ck))]) rfl (List.length_map ..).symm qB rfl rfl ?_
  refine aZ (cV hty ?_)
  ((conv=>whnf);repeat ((first |(intro hq;try simp only [lnS]at hq)|refine sI ?_|refine qE_ ?_);conv=>whnf))
  refine aZ (cV hty ?_)
  ((conv=>whnf);repeat ((first |(intro hq;try simp only [lnS]at hq)|refine sI ?_|refine qE_ ?_);conv=>whnf))
  refine aZ (cV hty ?_)
  ((conv=>whnf);repeat ((first |(intro hq;try simp only [lnS]at hq)|refine sI ?_|refine qE_ ?_);conv=>whnf))
  refine aZ (cV hty ?_)
  ((conv=>whnf);repeat ((first |(intro hq;try simp only [lnS]at hq)|refine sI ?_|refine qE_ ?_);conv=>whnf))
  rw [Int.toNat_natCast,hlH]
  have hrep:List.replicate H.length ({ td:=TD.bool,size:=1,bytes:=1,zero:=[D.bool false] }:TI).zero=((List.replicate H.length none).map xE:List (List D)):=by rw [List.map_replicate];rfl
  rw [hrep]
  refine aH.sub (fr':=[(4, .ptr 4 0),(12, .ptr 12 0)]) (hp':=stD P H H.length [] bs ck (List.replicate H.length none) (none:Option (List At)).isSome (nS none)) ⟨qB,qB⟩ ?_
  have hd:=aGe P hP H hH h8 H.length H.length
  refine aZ (cV hty ?_)
  unfold stD aM6
  ((conv=>whnf);repeat ((first |(intro hq;try simp only [lnS]at hq)|refine sI ?_|refine qE_ ?_);conv=>whnf))
  refine hd 0 (List.replicate H.length none) none [] bs ck rfl (List.length_replicate ..) MpOk.nil (pin:=(dL [33]).under [] []) (λk hk h=>by simp at h;omega) (aGs (by with_unfolding_all exact rfl)) (λF2 bs2 ck2 _=> ?_)
  rw [hy]
  unfold stD
  ((conv=>whnf);repeat ((first |(intro hq;try simp only [lnS]at hq)|refine sI ?_|refine qE_ ?_);conv=>whnf))
  refine cV hty ?_
  ((conv=>whnf);repeat ((first |(intro hq;try simp only [lnS]at hq)|refine sI ?_|refine qE_ ?_);conv=>whnf))
  exact⟨F2,bs2,ck2,rfl⟩
end
section
open Go.Proofs
set_option maxRecDepth 10000
attribute [local irreducible] aH aF Tri aD
theorem vC (s:List UInt8):Tri Tryz.prog 212 [.d (.str s)] [] (λr=>r= .d (.bool (kwF s))):=by
 refine qG [] hty Tryz.func212 [0,2,3,4] ?_
 ((conv=>whnf);repeat' ((first|(intro hq;try simp only [lnS]at hq)|refine sJ ?_|refine qE_ ?_|refine exL (k:=?_)|refine dwR ?_|((first|refine aB ?_ ?_|refine aC ?_ ?_)<;>intro hb<;>(first|exact ddX hb|try simp only [lnS]at hb))|(refine aA ?_ ?_<;>intro hb<;>try exact dsX hb))<;>(conv=>whnf)))
 all_goals first|(rename_i hb;subst hb;rfl)|skip
 have:kwF s=false:=by simp [kwF,kws, *]
 rw [this];rfl
end
section
open Go.Proofs
set_option maxRecDepth 10000
attribute [local irreducible] aH aF Tri aD
theorem iR (c:UInt8):Tri Tryz.prog 211 [aDn c] [] (λr=>r= .d (.bool (kJ c))):=by
 refine qG [] hty Tryz.func211 [0,2] ?_
 ((conv=>whnf);repeat' ((first|(intro hq;(try simp only [lnS]at hq);(try rewrite [List.length_map]))|refine sJ ?_|refine qE_ ?_|refine exL (k:=?_)|refine dwR ?_|((first|refine aB ?_ ?_|refine aC ?_ ?_)<;>intro hb<;>(first|exact ddX hb|try simp only [lnS]at hb))|(refine aA ?_ ?_<;>intro hb<;>try exact dsX hb))<;>(conv=>whnf)))
 all_goals (refine aJ (Bool.eq_iff_iff.2 ?_);simp only [kJ,Bool.or_eq_true,decide_eq_true_eq,true_iff,false_iff,Bool.false_eq_true];omega)
theorem oW (c:UInt8):Tri Tryz.prog 205 [aDn c] [] (λr=>r= .d (.bool (bX c))):=by
 refine qG [] hty Tryz.func205 [0,2] ?_
 ((conv=>whnf);repeat' ((first|(intro hq;(try simp only [lnS]at hq);(try rewrite [List.length_map]))|refine sJ ?_|refine qE_ ?_|refine exL (k:=?_)| refine qT (iR c) ?_|refine dwR ?_|((first|refine aB ?_ ?_|refine aC ?_ ?_)<;>intro hb<;>(first|exact ddX hb|try simp only [lnS]at hb))|(refine aA ?_ ?_<;>intro hb<;>try exact dsX hb))<;>(conv=>whnf)))
 all_goals (refine aJ (Bool.eq_iff_iff.2 ?_);simp only [bX, *,Bool.or_eq_true,decide_eq_true_eq,true_iff,false_iff,Bool.false_eq_true,true_or,or_true,false_or];try omega)
theorem jM (s:List UInt8):Tri Tryz.prog 175 [.d (.str s)] [] (λr=>r= .d (.bool (nH s))):=by
 cases s with
 |nil=>
  refine qG [] hty Tryz.func175 [0,2,3,16,20,27] ?_
  ((conv=>whnf);repeat' ((first|(intro hq;(try simp only [lnS]at hq);(try rewrite [List.length_map]))|refine sJ ?_|refine qE_ ?_|refine exL (k:=?_)|refine dwR ?_|((first|refine aB ?_ ?_|refine aC ?_ ?_)<;>intro hb<;>(first|exact ddX hb|try simp only [lnS]at hb))|(refine aA ?_ ?_<;>intro hb<;>try exact dsX hb))<;>(conv=>whnf)))
  rfl
 |cons c r=>
  have hw:nH (c::r)=(kJ c && ((c::r).all bX && !kwF (c::r))):=rfl
  rw [hw]
  cases h1:kJ c with
  |false=>
   refine qG [] hty Tryz.func175 [0,2,3,16,20,27] ?_
   ((conv=>whnf);repeat' ((first|(intro hq;(try simp only [lnS]at hq);(try rewrite [List.length_map]))|refine sJ ?_|refine qE_ ?_|refine exL (k:=?_)|refine dwR ?_|((first|refine aB ?_ ?_|refine aC ?_ ?_)<;>intro hb<;>(first|exact ddX hb|try simp only [lnS]at hb))|(refine aA ?_ ?_<;>intro hb<;>try exact dsX hb))<;>(conv=>whnf)))
   refine bP [] (iR c) trivial (λs hs=> ?_)
   rw [h1]at hs
   subst hs
   ((conv=>whnf);repeat' ((first|(intro hq;(try simp only [lnS]at hq);(try rewrite [List.length_map]))|refine sJ ?_|refine qE_ ?_|refine exL (k:=?_)|refine dwR ?_|((first|refine aB ?_ ?_|refine aC ?_ ?_)<;>intro hb<;>(first|exact ddX hb|try simp only [lnS]at hb))|(refine aA ?_ ?_<;>intro hb<;>try exact dsX hb))<;>(conv=>whnf)))
   rfl
  |true=>
   refine qG [] hty Tryz.func175 [0,2,3,16,20,27] ?_
   ((conv=>whnf);repeat' ((first|(intro hq;(try simp only [lnS]at hq);(try rewrite [List.length_map]))|refine sJ ?_|refine qE_ ?_|refine exL (k:=?_)|refine dwR ?_|((first|refine aB ?_ ?_|refine aC ?_ ?_)<;>intro hb<;>(first|exact ddX hb|try simp only [lnS]at hb))|(refine aA ?_ ?_<;>intro hb<;>try exact dsX hb))<;>(conv=>whnf)))
   refine bP [] (iR c) trivial (λs hs=> ?_)
   rw [h1]at hs
   subst hs
   ((conv=>whnf);repeat ((first |(intro hq;try simp only [lnS]at hq)|refine sI ?_|refine qE_ ?_);conv=>whnf))
   refine bP [] (vC (c::r)) trivial (λs hs=> ?_)
   cases h2:kwF (c::r)with
   |true=>
    rw [h2]at hs
    subst hs
    ((conv=>whnf);repeat' ((first|(intro hq;(try simp only [lnS]at hq);(try rewrite [List.length_map]))|refine sJ ?_|refine qE_ ?_|refine exL (k:=?_)|refine dwR ?_|((first|refine aB ?_ ?_|refine aC ?_ ?_)<;>intro hb<;>(first|exact ddX hb|try simp only [lnS]at hb))|(refine aA ?_ ?_<;>intro hb<;>try exact dsX hb))<;>(conv=>whnf)))
    exact aJ (by simp)
   |false=>
    rw [h2]at hs
    subst hs
    ((conv=>whnf);repeat' ((first|(intro hq;(try simp only [lnS]at hq);(try rewrite [List.length_map]))|refine sJ ?_|refine qE_ ?_|refine exL (k:=?_)|refine dwR ?_|((first|refine aB ?_ ?_|refine aC ?_ ?_)<;>intro hb<;>(first|exact ddX hb|try simp only [lnS]at hb))|(refine aA ?_ ?_<;>intro hb<;>try exact dsX hb))<;>(conv=>whnf)))
    generalize hS:c::r=s
    refine aG hty (λk:Nat=>([(0, .d (.str s)),(3, .d (.int .i64 k))],[])) (λk=>k<=s.length/\(s.take k).all bX=true) (λk=>s.length - k) 0 (by simp) ⟨qB,qB⟩ ?_
    rintro k ⟨hk,hk2⟩
    ((conv=>whnf);repeat ((first |(intro hq;try simp only [lnS]at hq)|refine sI ?_|refine qE_ ?_);conv=>whnf))
    refine aB (λh1=> ?_) (λh1=> ?_)
    ·have hkl:k < s.length:=by omega
     ((conv=>whnf);repeat' ((first|(intro hq;(try simp only [lnS]at hq);(try rewrite [List.length_map]))|refine sJ ?_|refine qE_ ?_|refine exL (k:=?_)|refine dwR ?_|((first|refine aB ?_ ?_|refine aC ?_ ?_)<;>intro hb<;>(first|exact ddX hb|try simp only [lnS]at hb))|(refine aA ?_ ?_<;>intro hb<;>try exact dsX hb))<;>(conv=>whnf)))
     refine bP [] (oW _) trivial (λx hs=> ?_)
     cases ht:bX s[(k:Int).toNat]with
     |false=>
      rw [ht]at hs
      subst hs
      ((conv=>whnf);repeat' ((first|(intro hq;(try simp only [lnS]at hq);(try rewrite [List.length_map]))|refine sJ ?_|refine qE_ ?_|refine exL (k:=?_)|refine dwR ?_|((first|refine aB ?_ ?_|refine aC ?_ ?_)<;>intro hb<;>(first|exact ddX hb|try simp only [lnS]at hb))|(refine aA ?_ ?_<;>intro hb<;>try exact dsX hb))<;>(conv=>whnf)))
      rw [lT (k:=k) hkl ht];rfl
     |true=>
      rw [ht]at hs
      subst hs
      ((conv=>whnf);repeat' ((first|(intro hq;(try simp only [lnS]at hq);(try rewrite [List.length_map]))|refine sJ ?_|refine qE_ ?_|refine exL (k:=?_)|refine dwR ?_|((first|refine aB ?_ ?_|refine aC ?_ ?_)<;>intro hb<;>(first|exact ddX hb|try simp only [lnS]at hb))|(refine aA ?_ ?_<;>intro hb<;>try exact dsX hb))<;>(conv=>whnf)))
      exact⟨k+1,⟨by omega,jT hkl hk2 ht⟩,qO,⟨qB,qB⟩⟩
    ·rw [List.take_of_length_le (by omega)]at hk2
     ((conv=>whnf);repeat' ((first|(intro hq;(try simp only [lnS]at hq);(try rewrite [List.length_map]))|refine sJ ?_|refine qE_ ?_|refine exL (k:=?_)|refine dwR ?_|((first|refine aB ?_ ?_|refine aC ?_ ?_)<;>intro hb<;>(first|exact ddX hb|try simp only [lnS]at hb))|(refine aA ?_ ?_<;>intro hb<;>try exact dsX hb))<;>(conv=>whnf)))
     rw [hk2];rfl
theorem aLv {s:List UInt8}(h1:2<=s.length) (h3:s[Int.toNat 0]'(by simp;omega)=95):(s.take 1).all bX=true:=by
 match s,h1,h3 with
 |c::r,_,h3=>simp at h3;subst h3;rfl
theorem sD (s:List UInt8):Tri Tryz.prog 162 [.d (.str s)] [] (λr=>r= .d (.bool (wI s))):=by
 by_cases h1:2<=s.length
 ·by_cases h2:s.length<=24
  ·by_cases h3:s[Int.toNat 0]'(by simp;omega)=95
   ·have hr:wI s=s.all bX:=by
     rw [wI,aC0 (by omega),h3]
     simp [h1,h2]
    have h3':((s[Int.toNat 0]'(by simp;omega)).toNat:Int)=95:=by rw [h3];rfl
    rw [hr]
    refine qG [] hty Tryz.func162 [0,2,3,16,20,27] ?_
    ((conv=>whnf);repeat' ((first|(intro hq;(try simp only [lnS]at hq);(try rewrite [List.length_map]))|refine sJ ?_|refine qE_ ?_|refine exL (k:=?_)|refine dwR ?_|((first|refine aB ?_ ?_|refine aC ?_ ?_)<;>intro hb<;>(first|exact ddX hb|try simp only [lnS]at hb))|(refine aA ?_ ?_<;>intro hb<;>try exact dsX hb))<;>(conv=>whnf)))
    refine aG hty (λk:Nat=>([(0, .d (.str s)),(3, .d (.int .i64 k))],[])) (λk=>k<=s.length/\(s.take k).all bX=true) (λk=>s.length - k) 1 ⟨by omega, ?_⟩ ⟨qB,qB⟩ ?_
    ·exact aLv h1 h3
    rintro k ⟨hk,hk2⟩
    ((conv=>whnf);repeat' ((first|(intro hq;(try simp only [lnS]at hq);(try rewrite [List.length_map]))|refine sJ ?_|refine qE_ ?_|refine exL (k:=?_)| refine qT (oW _) ?_|refine dwR ?_|((first|refine aB ?_ ?_|refine aC ?_ ?_)<;>intro hb<;>(first|exact ddX hb|try simp only [lnS]at hb))|(refine aA ?_ ?_<;>intro hb<;>try exact dsX hb))<;>(conv=>whnf)))
    ·have ht:bX s[(k:Int).toNat]=false:=by simpa using hb
     rw [lT (k:=k) (by omega) ht];rfl
    ·have ht:bX s[(k:Int).toNat]=true:=by simpa using hb
     exact⟨k+1,⟨by omega,jT (by omega) hk2 ht⟩,qO,⟨qB,qB⟩⟩
    ·rw [List.take_of_length_le (by omega)]at hk2
     rw [hk2];rfl
   ·have hr:wI s=false:=by
     rw [wI,aC0 (by omega)]
     simp only [h3,decide_false,Bool.false_and,Bool.and_false]
    have h3':¬ ((s[Int.toNat 0]'(by simp;omega)).toNat:Int)=95:= λe=>h3 (u95 e)
    rw [hr]
    refine qG [] hty Tryz.func162 [0,2,3,16,20,27] ?_
    ((conv=>whnf);repeat' ((first|(intro hq;(try simp only [lnS]at hq);(try rewrite [List.length_map]))|refine sJ ?_|refine qE_ ?_|refine exL (k:=?_)|refine dwR ?_|((first|refine aB ?_ ?_|refine aC ?_ ?_)<;>intro hb<;>(first|exact ddX hb|try simp only [lnS]at hb))|(refine aA ?_ ?_<;>intro hb<;>try exact dsX hb))<;>(conv=>whnf)))
    rfl
  ·have hr:wI s=false:=by rw [wI];simp only [h2,decide_false,Bool.false_and,Bool.and_false]
   rw [hr]
   refine qG [] hty Tryz.func162 [0,2,3,16,20,27] ?_
   ((conv=>whnf);repeat' ((first|(intro hq;(try simp only [lnS]at hq);(try rewrite [List.length_map]))|refine sJ ?_|refine qE_ ?_|refine exL (k:=?_)|refine dwR ?_|((first|refine aB ?_ ?_|refine aC ?_ ?_)<;>intro hb<;>(first|exact ddX hb|try simp only [lnS]at hb))|(refine aA ?_ ?_<;>intro hb<;>try exact dsX hb))<;>(conv=>whnf)))
   rfl
 ·have hr:wI s=false:=by rw [wI];simp only [h1,decide_false,Bool.false_and,Bool.and_false]
  rw [hr]
  refine qG [] hty Tryz.func162 [0,2,3,16,20,27] ?_
  ((conv=>whnf);repeat' ((first|(intro hq;(try simp only [lnS]at hq);(try rewrite [List.length_map]))|refine sJ ?_|refine qE_ ?_|refine exL (k:=?_)|refine dwR ?_|((first|refine aB ?_ ?_|refine aC ?_ ?_)<;>intro hb<;>(first|exact ddX hb|try simp only [lnS]at hb))|(refine aA ?_ ?_<;>intro hb<;>try exact dsX hb))<;>(conv=>whnf)))
  rfl
theorem aAm {c:UInt8}: ∀{s:List UInt8},(∀x∈s,x≠c)->Lib.indexByte s c < 0
 | [],_=>by simp [Lib.indexByte]
 |x::s,h=>by
  have ih:=aAm (c:=c) (s:=s) λy hy=>h y (List.mem_cons_of_mem _ hy)
  have hx:=h x (List.mem_cons_self ..)
  simp only [Lib.indexByte,hx,if_false]
  split<;>(try split)<;>simp_all<;>omega
theorem aLs {c:UInt8}: ∀{s:List UInt8}{k:Nat}(h:k < s.length),(∀x∈s.take k,x≠c)->s[k]=c->Lib.indexByte s c=k
 |x::s,0,_,_,e=>by
  simp at e;subst e;simp [Lib.indexByte]
 |x::s,k+1,h,hn,e=>by
  have ih:=aLs (c:=c) (s:=s) (k:=k) (by simpa using h) (λy hy=>hn y (by simp [hy])) (by simpa using e)
  have hx:=hn x (by simp)
  simp only [Lib.indexByte,hx,if_false,ih]
  split<;>(try split)<;>simp_all<;>omega
theorem u58 {c:UInt8}(h:(c.toNat:Int)=58):c=58:=by
 have h9:(58:UInt8).toNat=58:=by decide
 exact UInt8.toNat_inj.1 (by omega)
theorem aQ3 {s:List UInt8}{k:Nat}(hk:k < s.length) (h: ∀x∈s.take k,x≠58) (hx:¬ ((s[(k:Int).toNat]'(by simpa using hk)).toNat:Int)=58): ∀x∈s.take (k+1),x≠58:=by
 rw [List.take_succ_eq_append_getElem hk]
 intro x hm
 rcases List.mem_append.1 hm with hm|hm
 ·exact h x hm
 ·simp at hm
  subst hm
  intro e
  exact hx (by simp [e])
theorem pD (s:List UInt8):Tri Tryz.prog 118 [.d (.str s)] [] (λr=>r= .d (.bool (fP s))):=by
 by_cases h2:s.length<=24
 ·refine qG [] hty Tryz.func118 [0,2,3,6,10,16] ?_
  ((conv=>whnf);repeat' ((first|(intro hq;(try simp only [lnS]at hq);(try rewrite [List.length_map]))|refine sJ ?_|refine qE_ ?_|refine exL (k:=?_)|refine dwR ?_|((first|refine aB ?_ ?_|refine aC ?_ ?_)<;>intro hb<;>(first|exact ddX hb|try simp only [lnS]at hb))|(refine aA ?_ ?_<;>intro hb<;>try exact dsX hb))<;>(conv=>whnf)))
  refine aG hty (λk:Nat=>([(0, .d (.str s)),(3, .d (.int .i64 k))],[])) (λk=>k<=s.length/\ ∀x∈s.take k,x≠58) (λk=>s.length - k) 0 (by simp) ⟨qB,qB⟩ ?_
  rintro k ⟨hk,hk2⟩
  ((conv=>whnf);repeat ((first |(intro hq;try simp only [lnS]at hq)|refine sI ?_|refine qE_ ?_);conv=>whnf))
  refine aB (λh1=> ?_) (λh1=> ?_)
  ·have hkl:k < s.length:=by omega
   ((conv=>whnf);repeat ((first|(refine Exists.intro (show (_:Nat) < List.length _ from by omega) ?_) |(intro hq;try simp only [lnS]at hq)|refine sI ?_|refine qE_ ?_);conv=>whnf))
   refine aB (λh3=> ?_) (λh3=> ?_)
   ·have e:Lib.indexByte s 58=k:=aLs hkl hk2 (u58 h3)
    have hp:fP s=(nH (s.take k) && nH (s.drop (k+1))):=by
     rw [fP,aJ5,e]
     simp [h2]
    have hd:List.drop ((k:Int)+1).toNat (List.take s.length s)=s.drop (k+1):=by
     rw [List.take_length,show ((k:Int)+1).toNat=k+1 from by omega]
    rw [hp]
    cases h5:nH (s.take k)with
    |false=>
     ((conv=>whnf);repeat' ((first|(intro hq;(try simp only [lnS]at hq);(try rewrite [List.length_map]))|refine sJ ?_|refine qE_ ?_|refine exL (k:=?_)| (refine bP [] (jM (s.take k)) trivial (λs hs=> ?_);subst hs;rw [h5])|refine dwR ?_|((first|refine aB ?_ ?_|refine aC ?_ ?_)<;>intro hb<;>(first|exact ddX hb|try simp only [lnS]at hb))|(refine aA ?_ ?_<;>intro hb<;>try exact dsX hb))<;>(conv=>whnf)))
     rfl
    |true=>
     ((conv=>whnf);repeat' ((first|(intro hq;(try simp only [lnS]at hq);(try rewrite [List.length_map]))|refine sJ ?_|refine qE_ ?_|refine exL (k:=?_)| (refine bP [] (jM (s.take k)) trivial (λs hs=> ?_);subst hs;rw [h5])|refine dwR ?_|((first|refine aB ?_ ?_|refine aC ?_ ?_)<;>intro hb<;>(first|exact ddX hb|try simp only [lnS]at hb))|(refine aA ?_ ?_<;>intro hb<;>try exact dsX hb))<;>(conv=>whnf)))
     refine bP [] (jM _) trivial (λs hs=> ?_)
     subst hs
     ((conv=>whnf);repeat ((first |(intro hq;try simp only [lnS]at hq)|refine sI ?_|refine qE_ ?_);conv=>whnf))
     refine aJ ?_
     rw [hd];rfl
   ·((conv=>whnf);repeat ((first |(intro hq;try simp only [lnS]at hq)|refine sI ?_|refine qE_ ?_);conv=>whnf))
    exact⟨k+1,⟨by omega,aQ3 hkl hk2 h3⟩,qO,⟨qB,qB⟩⟩
  ·rw [List.take_of_length_le (by omega)]at hk2
   have e:=aAm hk2
   have hp:fP s=nH s:=by
    rw [fP,aJ5,if_neg (by omega)]
    simp [h2]
   rw [hp]
   ((conv=>whnf);repeat' ((first|(intro hq;(try simp only [lnS]at hq);(try rewrite [List.length_map]))|refine sJ ?_|refine qE_ ?_|refine exL (k:=?_)| refine qT (jM s) ?_|refine dwR ?_|((first|refine aB ?_ ?_|refine aC ?_ ?_)<;>intro hb<;>(first|exact ddX hb|try simp only [lnS]at hb))|(refine aA ?_ ?_<;>intro hb<;>try exact dsX hb))<;>(conv=>whnf)))
   rfl
 ·have hr:fP s=false:=by rw [fP];simp only [h2,decide_false,Bool.false_and,Bool.and_false]
  rw [hr]
  refine qG [] hty Tryz.func118 [0,2,3,6,10,16] ?_
  ((conv=>whnf);repeat' ((first|(intro hq;(try simp only [lnS]at hq);(try rewrite [List.length_map]))|refine sJ ?_|refine qE_ ?_|refine exL (k:=?_)|refine dwR ?_|((first|refine aB ?_ ?_|refine aC ?_ ?_)<;>intro hb<;>(first|exact ddX hb|try simp only [lnS]at hb))|(refine aA ?_ ?_<;>intro hb<;>try exact dsX hb))<;>(conv=>whnf)))
  rfl
theorem mV (s:List UInt8):Tri Tryz.prog 109 [.d (.str s)] [] (λr=>r= .d (.bool (cQ s))):=by
 cases h1:fP s with
 |true=>
  refine qG [] hty Tryz.func109 [0,2] ?_
  ((conv=>whnf);repeat' ((first|(intro hq;(try simp only [lnS]at hq);(try rewrite [List.length_map]))|refine sJ ?_|refine qE_ ?_|refine exL (k:=?_)| (refine bP [] (pD s) trivial (λs hs=> ?_);subst hs;rw [h1])|refine dwR ?_|((first|refine aB ?_ ?_|refine aC ?_ ?_)<;>intro hb<;>(first|exact ddX hb|try simp only [lnS]at hb))|(refine aA ?_ ?_<;>intro hb<;>try exact dsX hb))<;>(conv=>whnf)))
  rw [cQ,h1];rfl
 |false=>
  refine qG [] hty Tryz.func109 [0,2] ?_
  ((conv=>whnf);repeat' ((first|(intro hq;(try simp only [lnS]at hq);(try rewrite [List.length_map]))|refine sJ ?_|refine qE_ ?_|refine exL (k:=?_)| (refine bP [] (pD s) trivial (λs hs=> ?_);subst hs;rw [h1])|refine qT (sD s) ?_|refine dwR ?_|((first|refine aB ?_ ?_|refine aC ?_ ?_)<;>intro hb<;>(first|exact ddX hb|try simp only [lnS]at hb))|(refine aA ?_ ?_<;>intro hb<;>try exact dsX hb))<;>(conv=>whnf)))
  rw [cQ,h1];rfl
theorem fM (s:List UInt8):Tri Tryz.prog 72 [.d (.str s)] [] (λr=>r= .d (.int .i64 (if cQ s then 0 else 20))):=by
 cases h1:cQ s with
 |true=>
  refine qG [] hty Tryz.func72 [0,2,5] ?_
  ((conv=>whnf);repeat' ((first|(intro hq;(try simp only [lnS]at hq);(try rewrite [List.length_map]))|refine sJ ?_|refine qE_ ?_|refine exL (k:=?_)| (refine bP [] (mV s) trivial (λs hs=> ?_);subst hs;rw [h1])|refine dwR ?_|((first|refine aB ?_ ?_|refine aC ?_ ?_)<;>intro hb<;>(first|exact ddX hb|try simp only [lnS]at hb))|(refine aA ?_ ?_<;>intro hb<;>try exact dsX hb))<;>(conv=>whnf)))
  rfl
 |false=>
  refine qG [] hty Tryz.func72 [0,2,5] ?_
  ((conv=>whnf);repeat' ((first|(intro hq;(try simp only [lnS]at hq);(try rewrite [List.length_map]))|refine sJ ?_|refine qE_ ?_|refine exL (k:=?_)| (refine bP [] (mV s) trivial (λs hs=> ?_);subst hs;rw [h1])|refine dwR ?_|((first|refine aB ?_ ?_|refine aC ?_ ?_)<;>intro hb<;>(first|exact ddX hb|try simp only [lnS]at hb))|(refine aA ?_ ?_<;>intro hb<;>try exact dsX hb))<;>(conv=>whnf)))
  rfl
end
section
open Go.Proofs
theorem uJ {C:Cfg}{all:List Oper}{i:Nat}{fr fr2:Fr}{hp hp2:Hp}{k:Fr->Hp->Prop}{K:Fr->Hp->Prop}{T:OT}(h1:aJe C all i fr hp k) (h2:dO C all K T fr2 hp2):aJe C all i fr hp k/\dO C all K T fr2 hp2:=⟨h1,h2⟩
theorem eqN {α:Type}{a b:α}(h:a=b) {B:Prop}(hb:B):a=b/\B:=⟨h,hb⟩
theorem leN {a b:Nat}(h:Nat.ble a b=true) {B:Prop}(hb:B):a<=b/\B:=⟨Nat.le_of_ble_eq_true h,hb⟩
theorem ltN {a b:Nat}(h:Nat.ble (a+1) b=true) {B:Prop}(hb:B):a < b/\B:=⟨Nat.le_of_ble_eq_true h,hb⟩
mutual
theorem aJj: ∀a:D,WkD a a
 | .nil=>by simp [WkD]
 | .sl z rows=>by rw [WkD];exact⟨rfl,cD rows⟩
 | .agg cs=>by rw [WkD];exact rW cs
 | .int k n=>by simp [WkD]
 | .bool b=>by simp [WkD]
 | .str l=>by simp [WkD]
 | .lit v=>by simp [WkD]
theorem rW: ∀l:List D,aH6 l l
 | []=>by simp [aH6]
 |a::l=>by rw [aH6];exact⟨aJj a,rW l⟩
theorem cD: ∀l:List (List D),aJk l l
 | []=>by simp [aJk]
 |a::l=>by rw [aJk];exact⟨rW a,cD l⟩
end
end
section
open Go.Proofs Go.RowKit
set_option maxRecDepth 10000
attribute [local irreducible] aH aF Tri aD YVC bO aP
theorem aP3 (c:UInt8) (s:List UInt8):decide (0<=Lib.indexByte s c)=s.contains c:=by
 by_cases h:c∈s
 ·rw [show s.contains c=true from List.contains_iff_mem.2 h,decide_eq_true_eq]
  obtain⟨k,hk,h1,h2⟩: ∃(k:Nat) (h:k < s.length),(∀x∈s.take k,x≠c)/\s[k]=c:=by
   have hi:s.idxOf c < s.length:=List.idxOf_lt_length_iff.2 h
   refine⟨s.idxOf c,hi,λx hx e=> ?_,List.getElem_idxOf hi⟩
   subst e
   obtain⟨j,hj,e⟩:=List.getElem_of_mem hx
   rw [List.length_take]at hj
   rw [List.getElem_take]at e
   have:=List.not_of_lt_findIdx (p:=(· ==x)) (xs:=s) (i:=j) (by show j < s.idxOf x;omega)
   rw [e]at this
   simp at this
  rw [aLs hk h1 h2]
  exact Int.natCast_nonneg k
 ·have h1:=aAm (s:=s) (c:=c) (λx hx e=>h (by rw [<-e];exact hx))
  rw [show s.contains c=false by simpa using h,decide_eq_false_iff_not]
  omega
theorem iZ (s:List UInt8):Tri Tryz.prog 34 [.d (.str s)] [] (λr=>r= .d (.bool (rdF s))):=by
 have h58:=aP3 58 s
 have hp:=aOq 95 s
 refine qG [] hty Tryz.func34 [0,2] ?_
 ((conv=>whnf);repeat' ((first|(intro hq;(try simp only [lnS]at hq);(try rewrite [List.length_map]))|refine sJ ?_|refine qE_ ?_|refine exL (k:=?_)| refine qT (gE _) ?_|refine qT (sZ _ _) ?_|refine qT (gD _ _) ?_|refine dwR ?_|((first|refine aB ?_ ?_|refine aC ?_ ?_)<;>intro hb<;>(first|exact ddX hb|try simp only [lnS]at hb))|(refine aA ?_ ?_<;>intro hb<;>try exact dsX hb))<;>(conv=>whnf)))
 ·rename_i hb0
  refine aJ ?_
  show (!([95]:List UInt8).isPrefixOf s)=_
  rw [decide_eq_false hb]at h58
  unfold rdF
  rw [<-h58,hp]
  have hn:cQ s=true:=by
   cases h:cQ s
   ·rw [h]at hb0;exact absurd hb0 (by decide)
   ·rfl
  rw [hn];rfl
 ·rename_i hb0
  refine aJ ?_
  rw [decide_eq_true hb]at h58
  unfold rdF
  rw [<-h58]
  simp
 ·refine aJ ?_
  have hn:cQ s=false:=by
   cases h:cQ s
   ·rfl
   ·rw [h]at hb;exact absurd rfl hb
  unfold rdF
  rw [hn];rfl
theorem hG (n:Int):Tri Tryz.prog 35 [.d (.int .i64 n)] [] (λr=>r= .d (.bool (wG n))):=by
 refine qG [] hty Tryz.func35 [0,2] ?_
 ((conv=>whnf);repeat' ((first|(intro hq;(try simp only [lnS]at hq);(try rewrite [List.length_map]))|refine sJ ?_|refine qE_ ?_|refine exL (k:=?_)|refine dwR ?_|((first|refine aB ?_ ?_|refine aC ?_ ?_)<;>intro hb<;>(first|exact ddX hb|try simp only [lnS]at hb))|(refine aA ?_ ?_<;>intro hb<;>try exact dsX hb))<;>(conv=>whnf)))
 ·refine aJ ?_
  unfold wG
  rw [decide_eq_decide]
  exact⟨λh=>⟨hb,h⟩,λh=>h.2⟩
 ·refine aJ ?_
  unfold wG
  rw [decide_eq_false]
  exact λh=>hb h.1
theorem uK (p:List At):Tri Tryz.prog 47 [.d (.agg (aI p))] [] (λr=>r= .d (.agg (qyR ⟨[],[p]⟩))):=by
 refine Tri.says ?_
 refine qG [] hty Tryz.func47 [0,1,2] ?_
 ((conv=>whnf);repeat' ((first|(intro hq;(try simp only [lnS]at hq);(try rewrite [List.length_map]))|refine sJ ?_|refine qE_ ?_|refine exL (k:=?_)|refine dwR ?_|((first|refine aB ?_ ?_|refine aC ?_ ?_)<;>intro hb<;>(first|exact ddX hb|try simp only [lnS]at hb))|(refine aA ?_ ?_<;>intro hb<;>try exact dsX hb))<;>(conv=>whnf)))
 exact⟨_,cE.wkd (by repeat' (first|exact trivial|exact rfl|exact cD _|refine And.intro ?_ ?_)),rfl⟩
end
section
open Go.RowKit
section
variable {P:Program}
theorem wZ (off:Nat) (zc:Bool) (frz:List Nat) {ti:TypeId->Option TI}(hti:cG P ti) {f:FuncId}{fn:Func}{c:Code}(hf:P.funcs[f]? =some fn) (hb:fn.body=some c) (keep:Nat->Bool) (pin:List Nat) (args:List SV) (hp:Hp) (post:SV->Prop)
  (hn:args.length<=fn.ntmps) (hnd:(hp.map (·.1)).Nodup) (hx:X ⟨P,ti,dL pin,fn.ntmps,keep,off,none,zc,frz⟩ c (dK 0 args) (roH hp) (mE ti fn.results.toList post)):Tri P f args hp post:=by
 intro w ρ vs hslt hargs hro
 refine dH (r:=none) (n:=0) |>.1 (callsIn_of_wp_marks hf hb trivial ?_)
 have hm:Mem ⟨w,ρ.S,λ_=>False,dL pin,ρ,none,[],0⟩ ρ (roH hp) w:=by
  have hat: ∀id o,aM (roH hp) id=some o->ρ.at id o=none:=by
   intro id o ho
   rcases eN hp id o hnd ho with⟨t,cs,rfl,_⟩|⟨g,z,rows,rfl,_⟩|⟨X,rfl,_⟩
   ·rfl
   ·rfl
   ·rfl
  refine⟨rfl,rfl, .refl _,Nat.le_refl _,λ_ _ _=>rfl,λ_ _ h=>h,λ_ _ h _ _=>h,hslt,λ_ _ _=>rfl, ?_, ?_, ?_,λid _=>ρ.moved_refl id, ?_,λb hb=>by cases hb⟩
  ·intro id o ho
   rcases eN hp id o hnd ho with⟨t,cs,rfl,h|h⟩|⟨g,z,rows,rfl,h⟩|⟨X,rfl,h|h⟩
   ·exact hro id _ h
   ·exact hro id _ h
   ·exact hro id _ h
   ·exact hro id _ h
   ·exact hro id _ h
  ·intro id o id' o' g h1 _ h3 _;rw [hat id o h1]at h3;cases h3
  ·intro id o g h1 h3;rw [hat id o h1]at h3;cases h3
  ·intro id x g _ _ _ id' o' h3 h4;rw [hat id' o' h3]at h4;cases h4
 have hfs:bW ρ w (dK 0 args) (vs++Array.replicate (fn.ntmps - vs.size) undef):=by
  intro t s ht
  obtain⟨_,h2⟩:=dD args 0 t s ht
  simp only [Nat.sub_zero]at h2
  have hlt:=(List.getElem?_eq_some_iff.1 h2).1
  have hlt':t < vs.size:=by rw [hargs.1];exact hlt
  refine⟨vs[t], ?_,hargs.2 t s _ h2 (Array.getElem?_eq_getElem hlt')⟩
  rw [Array.getElem?_append_left hlt',Array.getElem?_eq_getElem hlt']
 refine wpIn_mono (iG (C:=⟨P,ti,dL pin,fn.ntmps,keep,off,none,zc,frz⟩) hti c _ _ _ hx ⟨w,ρ.S,λ_=>False,dL pin,ρ,none,[],0⟩ _ w rfl rfl ⟨?_,rfl,ρ,hm,hfs⟩) ?_
 ·simp only [Array.size_append,Array.size_replicate]
  have:=hargs.1
  omega
 ·rintro e a' w' ⟨x,fr',hp',E',hE,hrel,hk,hnt,hdf,ρ',hm',hf'⟩
  obtain⟨own,o1,o2,o3,o4,o5⟩:=gX hE rfl
  have fin:eY ti fr' hp' fn.results.toList (λl=>dP hp' l λl=>(bY l).ids=[]/\post (bY l))->LeavesInM (FW none) 0 P fn a'.tmps (λe w'=> ∃v S' s,e= .returned v/\post s/\Grew w w'/\(∀b i,ρ.S b i->S' b i)/\(∀b i,S' b i->ρ.S b i\/w.heap.size<=b)/\(∀b i,S' b i->b < w'.heap.size)/\Rep w' (ρ.withS S') s v) a'.defers .returning w':=by
   intro hk
   have hpre:E'.pin.pre=[]:=by rw [hE.pin];rfl
   rw [hdf,o2,hpre]
   refine eX (by simp) [] own E' w' hm' ⟨_,o1,o5⟩ o4 o3 ?_
   rintro E'' w'' ⟨q1,q2,q3,q4,q5,q6⟩ hm'' hkp
   have hf'':bW ρ' w'' fr' a'.tmps:=hf'.mono hkp (λ_ _ x=>x) λi _=>ρ'.moved_refl i
   obtain⟨us,l,r1,r2,r3,r4⟩:=tR hti hm'' hf'' _ _ hk
   obtain⟨l',⟨k1,k2⟩,k3,k4⟩:=gJ hm'' l us _ r2 r3 r4
   have eW:E''.w=w:=q1.trans hE.w
   have eS:E''.S=ρ.S:=q2.trans hE.S
   have eB:E''.B= λ_=>False:=q3.trans hE.B
   refine⟨_,eC r1,_,Sfz ρ' hp',bY l',rfl,k2,⟨by rw [hm''.os,eW],by rw [hm''.tape,eW],by have:=hm''.output;rw [eW]at this;exact this,by have:=hm''.size;rw [eW]at this;exact this,λb hb=> ?_⟩,λb i hs=> .inl (hm''.sold b i (by rw [eS];exact hs)), ?_, ?_, ?_⟩
   ·have:=hm''.old b (by rw [eW];exact hb) (by rw [eB];exact λh=>h)
    rw [eW]at this;exact this
   ·rintro b i (hs|⟨id,e,z,cap,rows,ho,hb,_⟩)
    ·rcases Nat.lt_or_ge b w.heap.size with hlt|hge
     ·left
      have:=hm''.snew b i hs (by rw [eW];exact hlt) (by rw [eB];exact λh=>h)
      rw [eS]at this;exact this
     ·exact .inr hge
    ·rcases hm''.hb id _ b ho hb with hge|hB
     ·rw [eW]at hge;exact .inr hge
     ·rw [eB]at hB;exact hB.elim
   ·rintro b i (hs|⟨id,e,z,cap,rows,ho,hb,_⟩)
    ·exact hm''.slt b i hs
    ·exact hm''.blk_lt ho hb
   ·refine(gM (w:=w'') (ρ:=ρ'.withS (Sfz ρ' hp')) (l:=l') (by rw [k3];exact r2) k4).mono (λ_ _ _=>rfl) (λ_ _ h=>h) λid hid=> ?_
    rw [k1]at hid
    cases hid
  cases x<;>cases e<;>simp only [Ex.rel]at hrel<;>simp only [KX,mE,dL]at hk
  ·exact fin hk
  ·exact hk.elim
  ·exact hk.elim
  ·exact fin hk
end
end
section
open Go.RowKit
section
variable {P:Program}
abbrev Bx:=Nat×TypeId×Nat
def aKa (bs:List Bx):Fr:=bs.map λb=>(b.1, .ptr b.1 0)
def aMm:Nat->List Bx->Fr
 |_,[]=>[]
 |k,b::r=>(k, .ptr b.1 0)::aMm (k+1) r
def wB:List Bx->List (List SV)->Hp
 |b::r,c::s=>(b.1, .cells b.2.1 c)::wB r s
 |_,_=>[]
def aDt (v:List Value):List SV:=v.map λv=> .d (.lit v)
def aBs:List Bx->List (List Value)->Prop
 |b::r,v::s=>v.length=b.2.2/\aBs r s
 | [],[]=>True
 |_,_=>False
def KPl:List Bx->Fr->Hp->Prop
 | [],_,_=>True
 |b::r,fr,hp=>(dE fr b.1=some (.ptr b.1 0)/\ ∃cx,aM hp b.1=some (.cells b.2.1 cx)/\cx.length=b.2.2)/\KPl r fr hp
def KPn (q:Prop) (bs:List Bx):Fr->Hp->Prop:= λfr hp=>q/\KPl bs fr hp
def aP9:List Bx->List (List SV)->Prop
 |b::r,c::s=>c.length=b.2.2/\aP9 r s
 | [],[]=>True
 |_,_=>False
theorem KPl.cells {fr:Fr}{hp:Hp}: ∀{bs:List Bx},KPl bs fr hp-> ∃cs,aP9 bs cs/\ ∀id o,aM (wB bs cs) id=some o->aM hp id=some o
 | [],_=>⟨[],trivial,λid o h=>by simp [wB,aM]at h⟩
 |b::r,h=>by
  obtain⟨⟨_,cx,h1,h2⟩,h3⟩:=h
  obtain⟨cs,k1,k2⟩:=h3.cells
  refine⟨cx::cs,⟨h2,k1⟩,λid o ho=> ?_⟩
  simp only [wB,aM]at ho
  split at ho
  ·rename_i e;subst e;injection ho with ho;subst ho;exact h1
  ·exact k2 id o ho
theorem KPl.fr {fr:Fr}{hp:Hp}: ∀{bs:List Bx},KPl bs fr hp-> ∀b∈bs,dE fr b.1=some (.ptr b.1 0)
 | [],_,b,h=>by cases h
 |b::r,h,x,hx=>by
  rcases List.mem_cons.1 hx with rfl|hx
  ·exact h.1.1
  ·exact h.2.fr x hx
theorem aIw {pre r:Hp}{i:Nat}{o:HObj}(h:i∉pre.map (·.1)):aM (pre++(i,o)::r) i=some o:=by
 induction pre with
 |nil=>simp [aM]
 |cons p s ih=>
  obtain⟨k,x⟩:=p
  simp only [List.map_cons,List.mem_cons,not_or]at h
  rw [List.cons_append,aM,if_neg (λe=>h.1 e.symm)]
  exact ih h.2
theorem aHz {pre r:Hp}{i:Nat}{o o':HObj}(h:i∉pre.map (·.1)):dQ (pre++(i,o)::r) i o'=pre++(i,o')::r:=by
 induction pre with
 |nil=>simp [dQ]
 |cons p s ih=>
  obtain⟨k,x⟩:=p
  simp only [List.map_cons,List.mem_cons,not_or]at h
  rw [List.cons_append,dQ,if_neg (λe=>h.1 e.symm),ih h.2]
  rfl
theorem aJr {E:Entry}{ρ:Env}{w:World}: ∀(bs:List Bx) (cs:List (List SV)) (pre:Hp),aP9 bs cs->(∀b∈bs,b.1∉pre.map (·.1))->(bs.map (·.1)).Nodup->Mem E ρ (pre++wB bs cs) w->
  ∃vs:List (List Value),aBs bs vs/\Mem E ρ (pre++wB bs (vs.map aDt)) w
 | [],[],pre,_,_,_,hm=>⟨[],trivial,hm⟩
 |b::r,c::s,pre,hl,hp,hn,hm=>by
  obtain⟨h1,h2⟩:=hl
  have hb:=hp b List.mem_cons_self
  obtain⟨n1,n2⟩:=List.nodup_cons.1 hn
  have hm:Mem E ρ (pre++(b.1, .cells b.2.1 c)::wB r s) w:=hm
  obtain⟨v,lv,hm1⟩:=hm.relit (i:=b.1) (t:=b.2.1) (cs:=c) (aIw hb)
  rw [aHz hb]at hm1
  have e:pre++(b.1,HObj.cells b.2.1 (v.map λv=> .d (.lit v)))::wB r s=(pre++[(b.1,HObj.cells b.2.1 (aDt v))])++wB r s:=by
   rw [List.append_assoc];rfl
  rw [e]at hm1
  obtain ⟨vs, k1, k2⟩ := aJr r s (pre ++ [(b.1, HObj.cells b.2.1 (aDt v))]) h2 (λx hx => by
   rw [List.map_append,List.mem_append]
   rintro(h|h)
   ·exact hp x (List.mem_cons_of_mem _ hx) h
   ·have h:x.1=b.1:=by simpa using h
    exact n1 (List.mem_map.2 ⟨x,hx,h⟩)) n2 hm1
  refine⟨v::vs,⟨lv.trans h1,k1⟩, ?_⟩
  rw [List.append_assoc]at k2
  exact k2
def aMf (g:Nat):Value:= .pointer (some ⟨g,0,none⟩)
def bxV (ρ:Env) (bs:List Bx):Array Value:=(bs.map λb=>aMf ((ρ.blk b.1).getD 0)).toArray
theorem yQ: ∀(bs:List Bx) (t:Nat) (s:SV),dE (aKa bs) t=some s-> ∃b∈bs,t=b.1/\s= .ptr b.1 0
 | [],t,s,h=>by simp [aKa,dE]at h
 |b::r,t,s,h=>by
  simp only [aKa,List.map_cons,dE]at h
  split at h
  ·rename_i e
   injection h with h
   exact⟨b,List.mem_cons_self,e.symm,h.symm⟩
  ·obtain⟨x,h1,h2⟩:=yQ r t s h
   exact⟨x,List.mem_cons_of_mem _ h1,h2⟩
theorem yP: ∀(bs:List Bx) (k t:Nat) (s:SV),dE (aMm k bs) t=some s-> ∃i b,bs[i]? =some b/\t=k+i/\s= .ptr b.1 0
 | [],k,t,s,h=>by simp [aMm,dE]at h
 |b::r,k,t,s,h=>by
  simp only [aMm,dE]at h
  split at h
  ·rename_i e
   injection h with h
   exact⟨0,b,rfl,by omega,h.symm⟩
  ·obtain⟨i,x,h1,h2,h3⟩:=yP r (k+1) t s h
   exact⟨i+1,x,by simpa using h1,by omega,h3⟩
theorem aD0 {mk df:Oper}{B:Code}{g d j:Nat}{bs:List Bx}
  (m1:mk.op= .makeFunc (.func g) #[] (bs.map λb=>Operand.tmp b.1).toArray) (m2:mk.dst=some d) (m3:mk.guard=none) (d1:df.op= .defer { callee:= .value (.tmp d),args:= #[],argTypes:= #[] }) (d2:df.dst=none) (d3:df.guard=none)
  {E:Entry} {fr:Fr} {hp:Hp} {nt:Nat} {a:Act} {w:World} {Q:Exit->Act->World->Prop} (hd:d < nt) (hs:Sat E nt ⟨fr,hp⟩ a w) (hE:E.k=0/\E.pin.pre=[]) (hx: ∀b∈bs,dE fr b.1=some (.ptr b.1 0)) (ids:List Nat) (kp:Fr->Hp->Prop) (pv:Option (TypeId->Value->Prop))
  (hB : ∀ ρ a', Mem E ρ hp w -> (∀ b ∈ bs, ρ.blk b.1 = some ((ρ.blk b.1).getD 0)) ->
   Sat (aV w ρ hp ⟨ids,kp,[{ target:= .fn (.func g) (bxV ρ bs),args:= #[] }],pv⟩ none E.D) nt ⟨zX fr d (.fn g [] (bs.map λb=> .ptr b.1 0)),hp⟩ a' w->B.wpIn (FW none) 0 P Q a' w):
  (Code.seq (.region j #[mk,df] false) B).wpIn (FW none) 0 P Q a w:=by
 obtain⟨h1,h2,ρ,hm,hf⟩:=hs
 have ex: ∀b∈bs,a.eval (.tmp b.1)=aMf ((ρ.blk b.1).getD 0)/\ρ.blk b.1=some ((ρ.blk b.1).getD 0):=by
  intro b hb
  obtain⟨v,q1,q2⟩:=hf _ _ (hx b hb)
  cases q2 with
  |ptr id off gx h=>exact⟨by simp [Act.eval,Array.getD_eq_getD_getElem?,q1,h,aMf],by rw [h];rfl⟩
 have hcap:((bs.map λb=>Operand.tmp b.1).toArray.map a.eval)=bxV ρ bs:=by
  unfold bxV
  rw [List.map_toArray,List.map_map]
  congr 1
  exact List.map_congr_left λb hb=>(ex b hb).1
 refine wpIn_seq (wpIn_region ?_)
 show wpOpsIn (FW none) 0 P #[mk,df] _ [0,1] a w
 have w1: ∀y,Region.wanted mk y=true:= λy=>by simp [Region.wanted,m3]
 have w2: ∀y,Region.wanted df y=true:= λy=>by simp [Region.wanted,d3]
 have k1:(#[mk,df]:Array Oper)[0]? =some mk:=rfl
 have k2:(#[mk,df]:Array Oper)[1]? =some df:=rfl
 simp only [wpOpsIn,k1,k2,w1,w2,if_true]
 have e1:(execOp a.eval mk).run P w= .ok (.value (.func (.func g) #[] (bxV ρ bs))) w:=by
  rw [<-hcap]
  simp [execOp,m1,Instr.makeFunc]
 refine⟨λ_ _=>trivial, ?_⟩
 show Oper.uponIn (FW none) 0 P mk a _ _ ((execOp a.eval mk).run P w)
 rw [e1,Oper.uponIn_value]
 refine⟨λ_ _=>trivial, ?_⟩
 generalize hA:a.put mk.dst (.func (.func g) #[] (bxV ρ bs))=A
 have hv:A.eval (.tmp d)= .func (.func g) #[] (bxV ρ bs):=by
  rw [<-hA,m2]
  have hd':d < a.tmps.size:=by rw [h1];exact hd
  simp [Act.put,Act.eval,hd']
 have e2:(execOp A.eval df).run P w= .ok (.defer { target:= .fn (.func g) (bxV ρ bs),args:= #[] }) w:=by
  simp [execOp,d1,resolve,hv,Deferred.ofValue]
 show Oper.uponIn (FW none) 0 P df A _ _ ((execOp A.eval df).run P w)
 rw [e2,Oper.uponIn_defer,d2]
 refine hB ρ _ hm (λb hb=>(ex b hb).2) ⟨?_, ?_,ρ,hm.enter _ none, ?_⟩
 ·show A.tmps.size=nt
  rw [<-hA,aU];exact h1
 ·show _::A.defers=_
  rw [<-hA,put_defers,h2,hE.1,hE.2];simp [aV]
 ·intro t s ht
  rw [fT]at ht
  show ∃v,A.tmps[t]? =some v/\Rep w ρ s v
  rw [<-hA,m2]
  by_cases e:t=d
  ·subst e
   simp at ht
   subst ht
   have hd':t < a.tmps.size:=by rw [h1];exact hd
   refine⟨.func (.func g) #[] (bxV ρ bs),by simp [Act.put,hd'], ?_⟩
   refine .fn g [] _ #[] (bxV ρ bs) rfl (by simp [bxV]) (by intro j s v h;simp at h) ?_
   intro j s v q1 q2
   simp only [bxV,List.getElem?_map,List.getElem?_toArray,Option.map_eq_some_iff]at q1 q2
   obtain⟨b,h3,rfl⟩:=q1
   obtain⟨b',h4,rfl⟩:=q2
   rw [h3]at h4
   injection h4 with h4
   subst h4
   exact .ptr _ 0 _ (ex b (List.mem_of_getElem? h3)).2
  ·simp [e]at ht
   obtain⟨v,q1,q2⟩:=hf t s ht
   refine⟨v, ?_,q2⟩
   simp only [Act.put]
   rw [Array.getElem?_setIfInBounds_ne (Ne.symm e)]
   exact q1
end
end
section
open Go.RowKit
section
variable {P:Program}
theorem aF1 {g:FuncId}{gn:Func}{r0 r1:Nat}{rc asv mv nq:Oper}{a0 a b c:Nat}{tI tJ:TypeId}{ms:Array (String×TypeId)}{Y:Code}(hg:P.funcs[g]? =some gn) (hb:gn.body=some (.seq (.region r0 #[rc,asv] false) (.seq (.region r1 #[mv,nq] false) (.cond (.tmp c) Y .skip))))
  (h1:rc.op= .call { callee:= .builtin .recover,args:= #[],argTypes:= #[] }) (h2:rc.dst=some a0) (h3:rc.guard=none) (g1:asv.op= .assign (.tmp a0)) (g2:asv.dst=some a) (g3:asv.guard=none) (f1:mv.op= .move (.tmp a)) (f2:mv.dst=some b) (f3:mv.guard=none)
  (h4:nq.op= .binOp .neq tI (.tmp b) (.const .nilIface) tJ) (h5:nq.dst=some c) (h6:nq.guard=none)
  (hI:P.underlying tI=some (.interface ms)) (ha0:a0 < gn.ntmps) (ha:a < gn.ntmps) (hbn:b < gn.ntmps) (hc:c < gn.ntmps) (hres:gn.results= #[]) {args:Array Value} (hsz:args.size<=gn.ntmps) {n:Nat} {w:World} {R:Ending->FrameMode->World->Prop} (hR: ∀v,R (.returned v) .returning w):
  CallsDIn (FW none) n P g args .returning w R:=by
 refine callsDIn_of_wpSIn hg hb trivial (λc₀ cs hm=> ?_)
 refine wpSIn_seq (wpSIn_region ?_)
 show wpOpsSIn (FW none) n P #[rc,asv] _ [0,1] _ _ _
 have hrec:recoverD (c₀::cs)=none:=by simp [recoverD,hm]
 have w1: ∀y,Region.wanted rc y=true:= λy=>by simp [Region.wanted,h3]
 have w2: ∀y,Region.wanted asv y=true:= λy=>by simp [Region.wanted,g3]
 have w3: ∀y,Region.wanted mv y=true:= λy=>by simp [Region.wanted,f3]
 have w4: ∀y,Region.wanted nq y=true:= λy=>by simp [Region.wanted,h6]
 have e1: ∀ev:Operand->Value,(execOp ev rc).run P w= .ok .recover w:= λev=>by simp [execOp,h1,resolve,invoke,builtin]
 have k1:(#[rc,asv]:Array Oper)[0]? =some rc:=rfl
 have k2:(#[rc,asv]:Array Oper)[1]? =some asv:=rfl
 have k3:(#[mv,nq]:Array Oper)[0]? =some mv:=rfl
 have k4:(#[mv,nq]:Array Oper)[1]? =some nq:=rfl
 simp only [wpOpsSIn,k1,k2,w1,w2,if_true,e1,hrec]
 refine⟨λ_ _=>trivial,λ_ _=>trivial, ?_⟩
 generalize hA:({ tmps:=args++Array.replicate (gn.ntmps - args.size) undef,defers:=[] }:Act)=A
 have hAs:A.tmps.size=gn.ntmps:=by rw [<-hA];simp;omega
 have hAd:A.defers=[]:=by rw [<-hA]
 have ev1:(A.put rc.dst .nilIface).eval (.tmp a0)= .nilIface:=by
  rw [h2]
  simp [Act.put,Act.eval,hAs,ha0]
 have e2:(execOp (A.put rc.dst .nilIface).eval asv).run P w= .ok (.value .nilIface) w:=by
  simp [execOp,g1,ev1]
 rw [e2]
 obtain⟨A2,hA2⟩: ∃A2,(A.put rc.dst .nilIface).put asv.dst .nilIface=A2:=⟨_,rfl⟩
 have hA2s:A2.tmps.size=gn.ntmps:=by rw [<-hA2,aU,aU,hAs]
 have hA2d:A2.defers=[]:=by rw [<-hA2,put_defers,put_defers,hAd]
 have ev2:A2.eval (.tmp a)= .nilIface:=by
  rw [<-hA2,g2]
  simp [Act.put,Act.eval,h2,hAs,ha]
 refine wpSIn_seq (wpSIn_region ?_)
 show wpOpsSIn (FW none) n P #[mv,nq] _ [0,1] ((A.put rc.dst .nilIface).put asv.dst .nilIface) _ _
 rw [hA2]
 have e3:(execOp A2.eval mv).run P w= .ok (.value .nilIface) w:=by
  simp [execOp,f1,ev2]
 simp only [wpOpsSIn,k3,k4,w3,w4,if_true,e3]
 refine⟨λ_ _=>trivial,λ_ _=>trivial, ?_⟩
 have ev3:(A2.put mv.dst .nilIface).eval (.tmp b)= .nilIface:=by
  rw [f2]
  simp [Act.put,Act.eval,hA2s,hbn]
 have e4:(execOp (A2.put mv.dst .nilIface).eval nq).run P w= .ok (.value (.bool false)) w:=by
  have ev4:(A2.put mv.dst .nilIface).eval (.const .nilIface)= .nilIface:=rfl
  simp [execOp,h4,ev3,ev4,eqGuard,eI w false .nilIface (.inl ⟨rfl,rfl⟩) hI]
 rw [e4]
 have ev5:((A2.put mv.dst .nilIface).put nq.dst (.bool false)).eval (.tmp c)= .bool false:=by
  rw [h5]
  simp [Act.put,Act.eval,f2,hA2s,hc]
 refine wpSIn_cond ev5 ?_
 refine wpSIn_of_wpIn rfl (wpIn_skip ?_)
 refine⟨by rw [put_defers,put_defers];exact hA2d, .returning, ?_, .tuple #[], ?_,hR _⟩
 ·rw [<-hm]
 ·simp [results,hres]
theorem aI5 {g:FuncId}{gn:Func}{r0 r1:Nat}{rc asv mv nq:Oper}{a0 a b c:Nat}{tI tJ:TypeId}{ms:Array (String×TypeId)}{Y:Code}(hg:P.funcs[g]? =some gn) (hb:gn.body=some (.seq (.region r0 #[rc,asv] false) (.seq (.region r1 #[mv,nq] false) (.cond (.tmp c) Y .skip))))
  (h1:rc.op= .call { callee:= .builtin .recover,args:= #[],argTypes:= #[] }) (h2:rc.dst=some a0) (h3:rc.guard=none) (g1:asv.op= .assign (.tmp a0)) (g2:asv.dst=some a) (g3:asv.guard=none) (f1:mv.op= .move (.tmp a)) (f2:mv.dst=some b) (f3:mv.guard=none)
  (h4:nq.op= .binOp .neq tI (.tmp b) (.const .nilIface) tJ) (h5:nq.dst=some c) (h6:nq.guard=none)
  (hI:P.underlying tI=some (.interface ms)) (ha0:a0 < gn.ntmps) (ha:a < gn.ntmps) (hbn:b < gn.ntmps) (hc:c < gn.ntmps) (hres:gn.results= #[]) {args:Array Value} (hsz:args.size<=gn.ntmps) {n:Nat} {w:World} {R:Ending->FrameMode->World->Prop} {t:TypeId} {x:Value}
  (hY : ∀ A : Act, A.tmps = ((((args ++ Array.replicate (gn.ntmps - args.size) undef).setIfInBounds a0 (.iface t x)).setIfInBounds a (.iface t x)).setIfInBounds b (.iface t x)).setIfInBounds c (.bool true) -> A.defers = [] ->
   Y.wpIn (FW none) n P (λe a' w'=>(e= .normal\/e= .ret)/\a'.defers=[]/\ ∀v,R (.returned v) (.panicking [{ v:= .iface t x,recovered:=true }]) w') A w):
  CallsDIn (FW none) n P g args (.panicking [{ v:= .iface t x,recovered:=false }]) w R:=by
 refine callsDIn_of_wpSIn hg hb trivial (λc₀ cs hm=> ?_)
 refine wpSIn_seq (wpSIn_region ?_)
 show wpOpsSIn (FW none) n P #[rc,asv] _ [0,1] _ _ _
 have hrec:recoverD (c₀::cs)=some (.iface t x,{ c₀ with mode:= .panicking [{ v:= .iface t x,recovered:=true }] }::cs):=by simp [recoverD,hm]
 have w1: ∀y,Region.wanted rc y=true:= λy=>by simp [Region.wanted,h3]
 have w2: ∀y,Region.wanted asv y=true:= λy=>by simp [Region.wanted,g3]
 have w3: ∀y,Region.wanted mv y=true:= λy=>by simp [Region.wanted,f3]
 have w4: ∀y,Region.wanted nq y=true:= λy=>by simp [Region.wanted,h6]
 have e1: ∀ev:Operand->Value,(execOp ev rc).run P w= .ok .recover w:= λev=>by simp [execOp,h1,resolve,invoke,builtin]
 have k1:(#[rc,asv]:Array Oper)[0]? =some rc:=rfl
 have k2:(#[rc,asv]:Array Oper)[1]? =some asv:=rfl
 have k3:(#[mv,nq]:Array Oper)[0]? =some mv:=rfl
 have k4:(#[mv,nq]:Array Oper)[1]? =some nq:=rfl
 simp only [wpOpsSIn,k1,k2,w1,w2,if_true,e1,hrec]
 refine⟨λ_ _=>trivial,λ_ _=>trivial, ?_⟩
 generalize hA:({ tmps:=args++Array.replicate (gn.ntmps - args.size) undef,defers:=[] }:Act)=A
 have hAs:A.tmps.size=gn.ntmps:=by rw [<-hA];simp;omega
 have hAd:A.defers=[]:=by rw [<-hA]
 have ev1:(A.put rc.dst (.iface t x)).eval (.tmp a0)= .iface t x:=by
  rw [h2]
  simp [Act.put,Act.eval,hAs,ha0]
 have e2:(execOp (A.put rc.dst (.iface t x)).eval asv).run P w= .ok (.value (.iface t x)) w:=by
  simp [execOp,g1,ev1]
 rw [e2]
 obtain⟨A2,hA2⟩: ∃A2,(A.put rc.dst (.iface t x)).put asv.dst (.iface t x)=A2:=⟨_,rfl⟩
 have hA2s:A2.tmps.size=gn.ntmps:=by rw [<-hA2,aU,aU,hAs]
 have hA2d:A2.defers=[]:=by rw [<-hA2,put_defers,put_defers,hAd]
 have ev2:A2.eval (.tmp a)= .iface t x:=by
  rw [<-hA2,g2]
  simp [Act.put,Act.eval,h2,hAs,ha]
 refine wpSIn_seq (wpSIn_region ?_)
 show wpOpsSIn (FW none) n P #[mv,nq] _ [0,1] ((A.put rc.dst (.iface t x)).put asv.dst (.iface t x)) _ _
 rw [hA2]
 have e3:(execOp A2.eval mv).run P w= .ok (.value (.iface t x)) w:=by
  simp [execOp,f1,ev2]
 simp only [wpOpsSIn,k3,k4,w3,w4,if_true,e3]
 refine⟨λ_ _=>trivial,λ_ _=>trivial, ?_⟩
 have ev3:(A2.put mv.dst (.iface t x)).eval (.tmp b)= .iface t x:=by
  rw [f2]
  simp [Act.put,Act.eval,hA2s,hbn]
 have e4:(execOp (A2.put mv.dst (.iface t x)).eval nq).run P w= .ok (.value (.bool true)) w:=by
  have ev4:(A2.put mv.dst (.iface t x)).eval (.const .nilIface)= .nilIface:=rfl
  simp [execOp,h4,ev3,ev4,eqGuard,eI w true (.iface t x) (.inr ⟨_,_,rfl,rfl⟩) hI]
 rw [e4]
 have ev5:((A2.put mv.dst (.iface t x)).put nq.dst (.bool true)).eval (.tmp c)= .bool true:=by
  rw [h5]
  simp [Act.put,Act.eval,f2,hA2s,hc]
 refine wpSIn_cond ev5 ?_
 refine wpSIn_of_wpIn rfl (wpIn_mono (hY _ ?_ (by rw [put_defers,put_defers];exact hA2d)) ?_)
 ·rw [f2,h5,<-hA2,h2,g2,<-hA]
  simp only [Act.put]
 ·rintro e a' w' ⟨he,hd,hR⟩
  rcases he with rfl|rfl<;>exact⟨hd,_,rfl, .tuple #[],by simp [results,hres],hR _⟩
theorem aEf {C:Cfg}(hti:cG C.P C.ti) {id:Nat}{l:List Oper}{fr:Fr}{hp:Hp}{K:Fr->Hp->Prop}(T:OT) (hm:C.P.follows .mixedOrders=true)
  (hB:(decide (T.depth<=l.length) && Region.noSelect l.toArray && kA l.toArray T (Array.replicate l.length false) false && eZ l)=true) (h:dO C l K T fr hp)
  {E:Entry} {a:Act} {w:World} {Q:Exit->Act->World->Prop} (hpin:E.pin=C.pin) (hs:Sat E C.nt ⟨fr,hp⟩ a w) (hno:¬ LetsOut Q) (hQ: ∀fr hp a w,K fr hp->Sat E C.nt ⟨fr,hp⟩ a w->Q .normal a w):
  (Code.region id l.toArray true).wpIn (FW E.rd) 0 C.P Q a w:=by
 obtain⟨h1,h2,ρ,h3,h4⟩:=hs
 simp only [Bool.and_eq_true,decide_eq_true_eq]at hB
 obtain⟨⟨⟨b1,b2⟩,b3⟩,hnd⟩:=hB
 refine cH hm hnd hno ?_
 obtain⟨m1,m2⟩:=h3.grow_same (Grew.drew w)
 generalize hw1:w.drew=w1 at *
 have hm2:Mem { aV w1 ρ hp E.pin E.rd E.D with k:=E.k } ρ hp w1:=by
  have:=m1.enter E.pin E.rd
  exact⟨this.os,this.tape,this.output,this.size,this.old,this.sold,this.snew,this.slt,this.kp,this.sat,this.inj,this.hb,this.mv,this.ro,this.md⟩
 have:=(oP (C:=C) hti b2 T l.length (Array.replicate l.length false) fr hp ρ a w1 { aV w1 ρ hp E.pin E.rd E.D with k:=E.k } hpin rfl rfl h hm2 h1 h2 (m2 fr _ h4)).1 b3 b1
 have h5:=jD (Q:=Q) _ _ _ _ _ (gS (Q':=Q .normal) (λa w ⟨fr',hp',k1,q2,q3,ρ3,q4,q5⟩=>hQ fr' hp' a w k1 ⟨q2,q3,ρ3,m1.leave (pin:=E.pin) (rd:=E.rd) q4 ⟨rfl,rfl,rfl,rfl,rfl,λb hb=>hb⟩ (λid hid=>hid),q5⟩) _ _ _ _ _ _ (λ_ h=>h) this)
 have e:l.toArray.size=l.length:=by simp
 rw [e]
 subst hw1
 exact h5
end
end
end Go.Proofs.YtdjfkmkdkclahaaGreatDoor
