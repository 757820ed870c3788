/-
  Queries: the search for the least order of names. Queries: the least tidy part; canonical names. The walk through the reference's keyword. Names: the walks through the reference's functions that tell which strings are names.
  Conditions: none.
-/
import Derived.Test.YtdjfkmkdkclahaaGreatDoorWSyv
import Derived.Test.YtdjfkmkdkclahaaGreatDoorWXv
import Derived.Test.YtdjfkmkdkclahaaGreatDoorWSz
import Derived.Test.YtdjfkmkdkclahaaGreatDoorWSna
set_option linter.unnecessarySimpa false
set_option linter.unusedSectionVars false
set_option linter.unusedSimpArgs false
set_option linter.unusedVariables false
set_option maxHeartbeats 16000000
namespace Go.Proofs.YtdjfkmkdkclahaaGreatDoor
open Go.Proofs Go.RowKit
set_option maxRecDepth 10000
attribute [local irreducible] aJ aG Tri aF YVC cA aU
theorem aFg {fr:Fr}(h3:(fC fr).all (λk=>decide (k < 60))=true): ∀k,60<=k->k∉fC fr:=by
 intro k hk hm
 have:=List.all_eq_true.1 h3 k hm
 simp at this
 omega
def yR:Option (List At)->D
 |none=> .nil
 |some y=> .sl 6 (y.map atR)
def wV (o:Option Nat):List D:=[.bool o.isSome]
def aKc:List SV:=[.ptr 5 0, .ptr 10 0, .ptr 3 0, .ptr 2 0, .ptr 11 0, .ptr 4 0, .ptr 12 0]
def stD (P:List At) (H:List bL) (cap:Nat) (F:Mp) (bs:List Nat) (ck:Nat) (a:Asg) (fd:Bool) (best:D):Hp:=
 [(11, .cells 4 [.d (.bool fd)]),(4, .cells 35 [.d best]),(3, .cells 138 [.xv 33 aBa]),(33, .ext (xO aDn (rR F) bs ck)),(10, .cells 185 [.mw 35 1 H.length]),(35, .mrow 4 1 cap (a.map wV)),(5, .cells 54 [.d (.sl 1 (H.map bQ))]),(2, .cells 35 [.d (.sl 6 (P.map atR))]),(12, .cells 155 [.fn 164 [] aKc])]
theorem xV (F:Mp):aMv (rR F)=[]:=by
 unfold aMv rR
 rw [List.flatMap_map]
 exact List.flatMap_eq_nil_iff.2 λ_ _=>rfl
theorem aJ9 (P:List At) (H:List bL) (cap:Nat) (F:Mp) (bs:List Nat) (ck:Nat) (a:Asg) (fd:Bool) (best:D): ∀k,60<=k->k∉jK (stD P H cap F bs ck a fd best):=by
 intro k hk
 have h:=xV F
 simp [stD,jK,HObj.ids,SV.idsL,SV.ids,aKc,xO,h]
 omega
def aKo (P:List At) (H:List bL) (cap f:Nat):Prop:= ∀(n:Nat) (a:Asg) (best:Option (List At)) (F:Mp) (bs:List Nat) (ck:Nat),f+n=H.length->a.length=H.length->MpOk H a F->
  ∀{pin:Pin} {fr:Fr} {K:SV->Hp->Prop},(∀k,60<=k->k∉pin)->(∀k,60<=k->k∉fC fr)->
  (∀F' bs' ck',MpOk H a F'->K (bX []) (stD P H cap F' bs' ck' a (dfs P H f n a best).isSome (yR (dfs P H f n a best))))->
  aG Tryz.prog pin fr (stD P H cap F bs ck a best.isSome (yR best)) 164 (.d (.int .i64 n)::aKc) K
theorem yG (P:List At) (hP:P.length<=100000) (H:List bL) (hH:H.Nodup) (h8:H.length<=8) (cap f:Nat) (ih: ∀g,f=g+1->aKo P H cap g):aKo P H cap f:=by
 intro n a best F bs ck hfn hal hMp pin fr K hp1 hf hk
 have hlH:(H.map bQ).length=H.length:=List.length_map ..
 have hlA:(a.map wV).length=H.length:=(List.length_map ..).trans hal
 have hit:Tri Tryz.prog 110 [.d (.int .i64 ((n:Int)+1))] [] (λr=>r= .d (.str [UInt8.ofNat (48+(n+1))])):=aEk (n+1) (by omega)
 have hbig: ∀k,60<=k->k∉pin.under fr (fC fr):= λk hk h=>(pU.1 h).elim (hp1 k hk) (hf k hk)
 refine nW false [] hty Tryz.func164 rfl (kp [0,1,2,3,4,5,6,7,9,10,11,12,13,14,19,20,21,22,30,47,51,54,55,56,57,64]) 200 (by simp [Tryz.f164,aKc]) ?_
 unfold stD aKc
 refine bJ (eK hty ?_)
 ((conv=>whnf);repeat ((first|(refine aA [] hit trivial (λr hs=> ?_);subst hs)|(intro hq;try simp only [lnS]at hq)|refine sI ?_|refine .intro _ (.intro rfl ?_));(conv=>whnf)))
 refine bJ (eK hty ?_)
 ((conv=>whnf);repeat ((first|(intro hq;try simp only [lnS]at hq)|refine sI ?_|refine .intro _ (.intro rfl ?_));(conv=>whnf)))
 refine aP hty (λy:Nat×Mp×List Nat×Nat=>([(0, .d (.int .i64 n)),(1, .ptr 5 0),(2, .ptr 10 0),(3, .ptr 3 0),(4, .ptr 2 0),(5, .ptr 11 0),(6, .ptr 4 0),(7, .ptr 12 0),(9, .d (.str (nmV (n+1)))),(19, .d (.sl 1 (H.map bQ))),(20, .d (.int .i64 H.length)),(21, .d (.int .i64 y.1))],stD P H cap y.2.1 y.2.2.1 y.2.2.2 a best.isSome (yR best))) (λy=>y.1<=H.length/\MpN H a n y.1 y.2.1) (λy=>H.length - y.1) (0,F,bs,ck) ⟨Nat.zero_le _, .zero hMp⟩ ⟨by repeat' (first|exact trivial|exact rfl|(rw [hlH];exact rfl)|refine And.intro ?_ ?_),by repeat' (first|exact trivial|exact rfl|refine And.intro ?_ ?_)⟩ ?_
 ·rintro⟨j,F,bs,ck⟩ ⟨hj,hMp⟩
  dsimp only at hj hMp
  unfold stD
  ((conv=>whnf);repeat ((first|(intro hq;try simp only [lnS]at hq)|refine sI ?_|refine .intro _ (.intro rfl ?_));(conv=>whnf)))
  refine aC (λh1=> ?_) (λh1=> ?_)
  ·have hjl:j < H.length:=by dsimp only at h1;omega
   have hja:j < a.length:=by omega
   have hrow:(H.map bQ)[(j:Int).toNat]? =some (bQ H[j]):=aT hjl
   have hrow2:(a.map wV)[(j:Int).toNat]? =some (wV a[j]):=aT hja
   rw [show bQ H[j]=[.str H[j]]from rfl]at hrow
   cases ha:a[j]with
   |none=>
    rw [ha]at hrow2
    rw [show wV none=[.bool false]from rfl]at hrow2
    ((conv=>whnf);repeat ((first|(refine⟨_,hrow, ?_⟩)|(refine⟨_,hrow2, ?_⟩)|(refine And.intro hlA.symm ?_)|(intro hq;try simp only [lnS]at hq)|refine sI ?_|refine .intro _ (.intro rfl ?_));(conv=>whnf)))
    refine mR (id:=33) (ents:=rR F) (k:=H[j]) (.inl rfl) rfl (gJ rfl) rfl rfl rfl rfl (λbs2 ck2=> ?_)
    rw [pS]
    ((conv=>whnf);repeat ((first|(intro hq;try simp only [lnS]at hq)|refine sI ?_|refine .intro _ (.intro rfl ?_));(conv=>whnf)))
    exact⟨(j+1,xN F H[j] (nmV (n+1)),bs2,ck2),⟨by dsimp only;omega,hMp.set hH (List.getElem?_eq_getElem hjl) (by rw [List.getElem?_eq_getElem hja,ha])⟩,by dsimp only;omega,by repeat' (first|exact trivial|exact rfl|refine And.intro ?_ ?_),by repeat' (first|exact trivial|exact rfl|refine And.intro ?_ ?_)⟩
   |some k=>
    rw [ha]at hrow2
    rw [show wV (some k)=[.bool true]from rfl]at hrow2
    ((conv=>whnf);repeat ((first|(refine⟨_,hrow, ?_⟩)|(refine⟨_,hrow2, ?_⟩)|(refine And.intro hlA.symm ?_)|(intro hq;try simp only [lnS]at hq)|refine sI ?_|refine .intro _ (.intro rfl ?_));(conv=>whnf)))
    exact⟨(j+1,F,bs,ck),⟨by dsimp only;omega,hMp.skip (by rw [List.getElem?_eq_getElem hja,ha])⟩,by dsimp only;omega,by repeat' (first|exact trivial|exact rfl|refine And.intro ?_ ?_),by repeat' (first|exact trivial|exact rfl|refine And.intro ?_ ?_)⟩
  ·have hjl:j=H.length:=by dsimp only at h1;omega
   subst hjl
   have hg: ∀x,gF F x=gV H (eT a n) x:= λx=>hMp.all hH hal x
   have hr:P.map (rpA (gF F))=P.map (rpA (gV H (eT a n))):=by rw [funext hg]
   ((conv=>whnf);repeat ((first|(intro hq;try simp only [lnS]at hq)|refine sI ?_|refine .intro _ (.intro rfl ?_));(conv=>whnf)))
   refine bJ (eK hty ?_)
   ((conv=>whnf);repeat ((first|(intro hq;try simp only [lnS]at hq)|refine sI ?_|refine .intro _ (.intro rfl ?_));(conv=>whnf)))
   refine xB P (by omega) F bs ck rfl hbig (aFg (by with_unfolding_all exact rfl)) (aJ9 P H cap F bs ck a best.isSome (yR best)) (λ_=>by repeat' (first|exact trivial|exact rfl|refine And.intro ?_ ?_)) (λ_ _ _=>by repeat' (first|exact trivial|exact rfl|refine And.intro ?_ ?_)) (λcp=> ?_)
   rw [hr]
   ((conv=>whnf);repeat ((first|(intro hq;try simp only [lnS]at hq)|refine sI ?_|refine .intro _ (.intro rfl ?_));(conv=>whnf)))
   refine bJ (eK hty ?_)
   ((conv=>whnf);repeat ((first|(intro hq;try simp only [lnS]at hq)|refine sI ?_|refine .intro _ (.intro rfl ?_));(conv=>whnf)))
   refine lD Tryz.sortAt (by decide) aBg aDs (enters_of Tryz.func167 (by kernel_rfl) rfl) (P.map (rpA (gV H (eT a n)))) atR bS aL2 (λx _ y _=>gG x y) (id:=70) rfl rfl (by rw [List.length_map];omega) (λl' hp' hs'=> ?_)
   have hy:l'=yOf P H a n:=aDo hp' hs'
   have hyl:=hp'.length_eq
   rw [hy]at hyl
   subst hy
   generalize hY:yOf P H a n=y at *
   ((conv=>whnf);repeat ((first|(intro hq;try simp only [lnS]at hq)|refine sI ?_|refine .intro _ (.intro rfl ?_));(conv=>whnf)))
   refine aJ.froz 12 70 (hp':=stD P H cap F bs ck a best.isSome (yR best)) rfl rfl (by simp only [List.length_map]at hyl |-;exact hyl.symm) (by repeat' (first|exact trivial|exact rfl|refine And.intro ?_ ?_)) rfl ?_
   have hcmp: ∀b,Tri Tryz.prog 168 [.d (.sl 6 (y.map atR)), .d (.sl 6 (b.map atR)), .fn 167 [] []] [] (λr=>r= .d (.int .i64 (bN bS y b))):= λb=>tD 167 (by kernel_rfl) y b (λa _ b _=>gG a b)
   cases hc:aK8 y best with
   |true=>
    have hk:=hk F bs ck hMp.toMpOk
    rw [aK5 (by rw [hY];exact hc)]at hk
    cases best with
    |none=>cases hc
    |some b=>
     have hcb:=hcmp b
     have hc:decide (0<=bN bS y b)=true:=hc
     refine bJ (eK hty ?_)
     ((conv=>whnf);repeat ((first|(refine aA [] hcb trivial (λr hs=> ?_);subst hs)|(intro hq;try simp only [lnS]at hq)|refine sI ?_|refine .intro _ (.intro rfl ?_));(conv=>whnf)))
     rw [hc]
     ((conv=>whnf);repeat ((first|(intro hq;try simp only [lnS]at hq)|refine sI ?_|refine .intro _ (.intro rfl ?_));(conv=>whnf)))
     exact hk
   |false=>
    refine aGj [(0, .d (.int .i64 n)),(1, .ptr 5 0),(2, .ptr 10 0),(3, .ptr 3 0),(4, .ptr 2 0),(5, .ptr 11 0),(6, .ptr 4 0),(7, .ptr 12 0),(9, .d (.str (nmV (n+1)))),(12, .d (.sl 6 (y.map atR)))] (stD P H cap F bs ck a best.isSome (yR best)) (eK hty ?_) ?_
    ·cases best with
     |none=>
      ((conv=>whnf);repeat ((first|(intro hq;try simp only [lnS]at hq)|refine sI ?_|refine .intro _ (.intro rfl ?_));(conv=>whnf)))
      exact⟨by repeat' (first|exact trivial|exact rfl|refine And.intro ?_ ?_),(by repeat' (first|exact trivial|exact rfl|refine And.intro ?_ ?_))⟩
     |some b=>
      have hcb:=hcmp b
      have hc:decide (0<=bN bS y b)=false:=hc
      ((conv=>whnf);repeat ((first|(refine aA [] hcb trivial (λr hs=> ?_);subst hs)|(intro hq;try simp only [lnS]at hq)|refine sI ?_|refine .intro _ (.intro rfl ?_));(conv=>whnf)))
      rw [hc]
      ((conv=>whnf);repeat ((first|(intro hq;try simp only [lnS]at hq)|refine sI ?_|refine .intro _ (.intro rfl ?_));(conv=>whnf)))
      exact⟨by repeat' (first|exact trivial|exact rfl|refine And.intro ?_ ?_),(by repeat' (first|exact trivial|exact rfl|refine And.intro ?_ ?_))⟩
    have hMp:=hMp.toMpOk
    refine bJ (eK hty ?_)
    unfold stD
    ((conv=>whnf);repeat ((first|(intro hq;try simp only [lnS]at hq)|refine sI ?_|refine .intro _ (.intro rfl ?_));(conv=>whnf)))
    cases f with
    |zero=>
     rw [decide_eq_true (by rw [hlH];omega)]
     have hk:=hk F bs ck hMp
     rw [aHf (by rw [hY];exact hc),hY]at hk
     ((conv=>whnf);repeat ((first|(intro hq;try simp only [lnS]at hq)|refine sI ?_|refine .intro _ (.intro rfl ?_));(conv=>whnf)))
     exact hk
    |succ g=>
     have ih:=ih g rfl
     rw [decide_eq_false (by rw [hlH];omega)]
     rw [aHg (by rw [hY];exact hc),hal]at hk
     ((conv=>whnf);repeat ((first|(intro hq;try simp only [lnS]at hq)|refine sI ?_|refine .intro _ (.intro rfl ?_));(conv=>whnf)))
     refine eK hty ?_
     ((conv=>whnf);repeat ((first|(intro hq;try simp only [lnS]at hq)|refine sI ?_|refine .intro _ (.intro rfl ?_));(conv=>whnf)))
     refine aP hty (λy:Nat×Mp×List Nat×Nat=>([(0, .d (.int .i64 n)),(1, .ptr 5 0),(2, .ptr 10 0),(3, .ptr 3 0),(4, .ptr 2 0),(5, .ptr 11 0),(6, .ptr 4 0),(7, .ptr 12 0),(9, .d (.str (nmV (n+1)))),(54, .d (.sl 1 (H.map bQ))),(55, .d (.int .i64 H.length)),(56, .d (.int .i64 y.1))],stD P H cap y.2.1 y.2.2.1 y.2.2.2 a (aBr P H g n a best y.1).isSome (yR (aBr P H g n a best y.1)))) (λy=>y.1<=H.length/\MpOk H a y.2.1) (λy=>H.length - y.1) (0,F,bs,ck) ⟨Nat.zero_le _,hMp⟩ ⟨by repeat' (first|exact trivial|exact rfl|(rw [hlH];exact rfl)|refine And.intro ?_ ?_),(by repeat' (first|exact trivial|exact rfl|refine And.intro ?_ ?_))⟩ ?_
     rintro⟨j,F,bs,ck⟩ ⟨hj,hMp⟩
     dsimp only at hj hMp
     unfold stD aKc
     ((conv=>whnf);repeat ((first|(intro hq;try simp only [lnS]at hq)|refine sI ?_|refine .intro _ (.intro rfl ?_));(conv=>whnf)))
     refine aC (λh1=> ?_) (λh1=> ?_)
     ·have hjl:j < H.length:=by dsimp only at h1;omega
      have hja:j < a.length:=by omega
      have hHj:=List.getElem?_eq_getElem hjl
      have hrow:(H.map bQ)[(j:Int).toNat]? =some (bQ H[j]):=aT hjl
      have hrow2:(a.map wV)[(j:Int).toNat]? =some (wV a[j]):=aT hja
      rw [show bQ H[j]=[.str H[j]]from rfl]at hrow
      cases ha:a[j]with
      |some k=>
       have haj:a[j]? =some (some k):=by rw [List.getElem?_eq_getElem hja,ha]
       rw [ha]at hrow2
       rw [show wV (some k)=[.bool true]from rfl]at hrow2
       have hJ:aBr P H g n a best (j+1)=aBr P H g n a best j:=aF4 haj
       ((conv=>whnf);repeat ((first|(refine⟨_,hrow, ?_⟩)|(refine⟨_,hrow2, ?_⟩)|(refine And.intro hlA.symm ?_)|(intro hq;try simp only [lnS]at hq)|refine sI ?_|refine .intro _ (.intro rfl ?_));(conv=>whnf)))
       exact⟨(j+1,F,bs,ck),⟨by dsimp only;omega,hMp⟩,by dsimp only;omega,by repeat' (first|exact trivial|exact rfl|refine And.intro ?_ ?_),by dsimp only;rw [hJ];exact(by repeat' (first|exact trivial|exact rfl|refine And.intro ?_ ?_))⟩
      |none=>
       have haj:a[j]? =some none:=by rw [List.getElem?_eq_getElem hja,ha]
       rw [ha]at hrow2
       rw [show wV none=[.bool false]from rfl]at hrow2
       have hJ:aBr P H g n a best (j+1)=dfs P H g (n+1) (a.set j (some (n+1))) (aBr P H g n a best j):=aK6 haj
       ((conv=>whnf);repeat ((first|(refine⟨_,hrow, ?_⟩)|(refine⟨_,hrow2, ?_⟩)|(refine And.intro hlA.symm ?_)|(refine And.intro (oT rfl) ?_)|(intro hq;try simp only [lnS]at hq)|refine sI ?_|refine .intro _ (.intro rfl ?_));(conv=>whnf)))
       refine mR (id:=33) (ents:=rR F) (k:=H[j]) (.inl rfl) rfl (gJ rfl) rfl rfl rfl rfl (λbs2 ck2=> ?_)
       rw [pS]
       have hset:(a.map wV).set (j:Int).toNat [.bool true]=(a.set j (some (n+1))).map wV:=by rw [List.map_set];rfl
       ((conv=>whnf);repeat ((first|(intro hq;try simp only [lnS]at hq)|refine sI ?_|refine .intro _ (.intro rfl ?_));(conv=>whnf)))
       dsimp only
       rw [hset]
       refine ih (n+1) (a.set j (some (n+1))) (aBr P H g n a best j) (xN F H[j] (nmV (n+1))) bs2 ck2 (by omega) (by rw [List.length_set];exact hal) (hMp.name hH hHj haj) hbig (aFg (by with_unfolding_all exact rfl)) (λF3 bs3 ck3 hM3=> ?_)
       have hlA3:((a.set j (some (n+1))).map wV).length=H.length:=by rw [List.length_map,List.length_set];exact hal
       have hback:((a.set j (some (n+1))).map wV).set (j:Int).toNat [.bool false]=a.map wV:=by
        rw [Int.toNat_natCast,List.map_set,List.set_set]
        apply List.ext_getElem?
        intro i
        by_cases e:j=i
        ·subst e
         rw [List.getElem?_set_self (by rw [List.length_map];exact hja),List.getElem?_map,haj];rfl
        ·rw [List.getElem?_set_ne e]
       have hrow3:((a.set j (some (n+1))).map wV)[(j:Int).toNat]? =some [.bool true]:=by
        rw [Int.toNat_natCast,List.getElem?_map,List.getElem?_set_self hja];rfl
       rw [<-hJ]
       unfold stD
       ((conv=>whnf);repeat ((first|(refine⟨_,hrow3, ?_⟩)|(refine And.intro hlA3.symm ?_)|(refine And.intro (oT rfl) ?_)|(intro hq;try simp only [lnS]at hq)|refine sI ?_|refine .intro _ (.intro rfl ?_));(conv=>whnf)))
       dsimp only
       rw [hback]
       exact⟨(j+1,F3,bs3,ck3),⟨by dsimp only;omega,hM3.back haj⟩,by dsimp only;omega,by repeat' (first|exact trivial|exact rfl|refine And.intro ?_ ?_),(by repeat' (first|exact trivial|exact rfl|refine And.intro ?_ ?_))⟩
     ·have hjl:j=H.length:=by dsimp only at h1;omega
      subst hjl
      have hk:=hk F bs ck hMp
      ((conv=>whnf);repeat ((first|(intro hq;try simp only [lnS]at hq)|refine sI ?_|refine .intro _ (.intro rfl ?_));(conv=>whnf)))
      exact hk
theorem aF1 (P:List At) (hP:P.length<=100000) (H:List bL) (hH:H.Nodup) (h8:H.length<=8) (cap:Nat): ∀f,aKo P H cap f:=by
 intro f
 induction f with
 |zero=>exact yG P hP H hH h8 cap 0 (λg h=>by omega)
 |succ f ih=>exact yG P hP H hH h8 cap (f+1) (λg h=>by cases h;exact ih)
end Go.Proofs.YtdjfkmkdkclahaaGreatDoor
namespace Go.Proofs.YtdjfkmkdkclahaaGreatDoor
open Go.Proofs Go.RowKit
set_option maxRecDepth 10000
attribute [local irreducible] aJ aG Tri aF YVC cA aU
theorem aEi (P:List At) (hP:P.length<=100000) (h8:(aR P).length<=8) (bs:List Nat) (ck:Nat) (y:List At) (hy:dfs P (aR P) (aR P).length 0 (List.replicate (aR P).length none) none=some y):
  aG Tryz.prog (cY [33]) [] [(33, .ext (xO aDn (rR []) bs ck))] 111 [.d (.agg [.sl 6 (P.map atR)]), .xv 33 aBa] (λs h1=>s= .d (.agg [.sl 6 (y.map atR)])/\ ∃F bs ck,aN h1 33=some (.ext (xO aDn (rR F) bs ck))):=by
 have hv:Tri Tryz.prog 31 [.d (.agg [.sl 6 (P.map atR)])] [] (λr=>r= .d (.sl 1 ((aR P).map bQ))):=fI P hP
 have hH:=(cP P).2
 generalize aR P=H at *
 have hlH:(H.map bQ).length=H.length:=List.length_map ..
 refine nW false [] hty Tryz.func111 rfl (kp [0,1,2,3,4,5,7,9,10,11,12,14,15,16,17,27]) 0 (by simp [Tryz.f111]) ?_
 refine bJ (eK hty ?_)
 ((conv=>whnf);repeat ((first|(intro hq;try simp only [lnS]at hq)|refine sI ?_|refine .intro _ (.intro rfl ?_));(conv=>whnf)))
 refine bJ (eK hty ?_)
 ((conv=>whnf);repeat ((first|(intro hq;try simp only [lnS]at hq)|refine sI ?_|refine .intro _ (.intro rfl ?_));(conv=>whnf)))
 refine aJ.mownH 5 71 54 9 1 rfl (cO (by with_unfolding_all exact rfl)) ?_
 refine bJ (eK hty ?_)
 ((conv=>whnf);repeat ((first|(refine aA [] hv trivial (λr hs=> ?_);subst hs)|(intro hq;try simp only [lnS]at hq)|refine sI ?_|refine .intro _ (.intro rfl ?_));(conv=>whnf)))
 refine aP hty (λy:Nat×Nat=>([(2, .ptr 2 0),(3, .ptr 3 0),(4, .ptr 4 0),(5, .ptr 5 0),(14, .d (.sl 1 (H.map bQ))),(15, .d (.int .i64 H.length)),(16, .d (.int .i64 y.1))],[(71, .mrow 9 1 y.2 ((H.take y.1).map bQ)),(5, .cells 54 [.mw 71 1 y.1]),(4, .cells 35 [.d .nil]),(3, .cells 138 [.xv 33 aBa]),(2, .cells 35 [.d (.sl 6 (P.map atR))]),(33, .ext (xO aDn (rR []) bs ck))])) (λy=>y.1<=H.length) (λy=>H.length - y.1) (0,0) (Nat.zero_le _) ⟨by repeat' (first|exact trivial|exact rfl|(rw [hlH];exact rfl)|refine And.intro ?_ ?_),(by repeat' (first|exact trivial|exact rfl|refine And.intro ?_ ?_))⟩ ?_
 rintro⟨j,cap⟩ hj
 dsimp only at hj
 ((conv=>whnf);repeat ((first|(intro hq;try simp only [lnS]at hq)|refine sI ?_|refine .intro _ (.intro rfl ?_));(conv=>whnf)))
 refine aC (λh1=> ?_) (λh1=> ?_)
 ·have hjl:j < H.length:=by dsimp only at h1;omega
  have hrow:(H.map bQ)[(j:Int).toNat]? =some (bQ H[j]):=aT hjl
  rw [show bQ H[j]=[.str H[j]]from rfl]at hrow
  have hfn:(H.take (j+1)).map bQ=(H.take j).map bQ++[[.str H[j]]]:=by
   rw [List.take_succ_eq_append_getElem hjl,List.map_append];rfl
  have hln:((H.take j).map bQ).length=j:=by rw [List.length_map,List.length_take];omega
  ((conv=>whnf);repeat ((first|(refine⟨_,hrow, ?_⟩)|(intro hq;try simp only [lnS]at hq)|refine sI ?_|refine .intro _ (.intro rfl ?_));(conv=>whnf)))
  refine iZ (id:=33) (ents:=rR []) (bs:=bs) (clock:=ck) (k:=H[j]) rfl rfl (gJ rfl) rfl rfl rfl rfl ?_
  ((conv=>whnf);repeat ((first|(intro hq;try simp only [lnS]at hq)|refine sI ?_|refine .intro _ (.intro rfl ?_));(conv=>whnf)))
  rw [hln]
  rename_i c2
  exact⟨(j+1,c2),by dsimp only;omega,by dsimp only;omega,by repeat' (first|exact trivial|exact rfl|refine And.intro ?_ ?_),by dsimp only;rw [hfn];exact(by repeat' (first|exact trivial|exact rfl|refine And.intro ?_ ?_))⟩
 ·have hjl:j=H.length:=by dsimp only at h1;omega
  subst hjl
  rw [List.take_length]
  ((conv=>whnf);repeat ((first|(intro hq;try simp only [lnS]at hq)|refine sI ?_|refine .intro _ (.intro rfl ?_));(conv=>whnf)))
  refine aJ.frozC (id:=71) (i:=5) (hp1:=[(5, .cells 54 [.mw 71 1 H.length]),(4, .cells 35 [.d .nil]),(3, .cells 138 [.xv 33 aBa]),(2, .cells 35 [.d (.sl 6 (P.map atR))]),(33, .ext (xO aDn (rR []) bs ck))]) rfl (List.length_map ..).symm (by repeat' (first|exact trivial|exact rfl|refine And.intro ?_ ?_)) rfl rfl ?_
  refine bJ (eK hty ?_)
  ((conv=>whnf);repeat ((first|(intro hq;try simp only [lnS]at hq)|refine sI ?_|refine .intro _ (.intro rfl ?_));(conv=>whnf)))
  refine bJ (eK hty ?_)
  ((conv=>whnf);repeat ((first|(intro hq;try simp only [lnS]at hq)|refine sI ?_|refine .intro _ (.intro rfl ?_));(conv=>whnf)))
  refine bJ (eK hty ?_)
  ((conv=>whnf);repeat ((first|(intro hq;try simp only [lnS]at hq)|refine sI ?_|refine .intro _ (.intro rfl ?_));(conv=>whnf)))
  refine bJ (eK hty ?_)
  ((conv=>whnf);repeat ((first|(intro hq;try simp only [lnS]at hq)|refine sI ?_|refine .intro _ (.intro rfl ?_));(conv=>whnf)))
  rw [Int.toNat_natCast,hlH]
  have hrep:List.replicate H.length ({ td:=TD.bool,size:=1,bytes:=1,zero:=[D.bool false] }:TI).zero=((List.replicate H.length none).map wV:List (List D)):=by rw [List.map_replicate];rfl
  rw [hrep]
  refine aJ.sub (fr':=[(4, .ptr 4 0),(12, .ptr 12 0)]) (hp':=stD P H H.length [] bs ck (List.replicate H.length none) (none:Option (List At)).isSome (yR none)) ⟨by repeat' (first|exact trivial|exact rfl|refine And.intro ?_ ?_),(by repeat' (first|exact trivial|exact rfl|refine And.intro ?_ ?_))⟩ ?_
  have hd:=aF1 P hP H hH h8 H.length H.length
  refine bJ (eK hty ?_)
  unfold stD aKc
  ((conv=>whnf);repeat ((first|(intro hq;try simp only [lnS]at hq)|refine sI ?_|refine .intro _ (.intro rfl ?_));(conv=>whnf)))
  refine hd 0 (List.replicate H.length none) none [] bs ck rfl (List.length_replicate ..) MpOk.nil (pin:=(cY [33]).under [] []) (λk hk h=>by simp at h;omega) (aFg (by with_unfolding_all exact rfl)) (λF2 bs2 ck2 _=> ?_)
  rw [hy]
  unfold stD
  ((conv=>whnf);repeat ((first|(intro hq;try simp only [lnS]at hq)|refine sI ?_|refine .intro _ (.intro rfl ?_));(conv=>whnf)))
  refine eK hty ?_
  ((conv=>whnf);repeat ((first|(intro hq;try simp only [lnS]at hq)|refine sI ?_|refine .intro _ (.intro rfl ?_));(conv=>whnf)))
  exact⟨F2,bs2,ck2,rfl⟩
end Go.Proofs.YtdjfkmkdkclahaaGreatDoor
namespace Go.Proofs.YtdjfkmkdkclahaaGreatDoor
open Go.Proofs
set_option maxRecDepth 10000
attribute [local irreducible] aJ aG Tri aF
end Go.Proofs.YtdjfkmkdkclahaaGreatDoor
namespace Go.Proofs.YtdjfkmkdkclahaaGreatDoor
open Go.Proofs
set_option maxRecDepth 10000
attribute [local irreducible] aJ aG Tri aF
theorem aEp {c:UInt8}: ∀{s:List UInt8},(∀x∈s,x≠c)->Lib.indexByte s c < 0
 | [],_=>by simp [Lib.indexByte]
 |x::s,h=>by
  have ih:=aEp (c:=c) (s:=s) λy hy=>h y (List.mem_cons_of_mem _ hy)
  have hx:=h x (List.mem_cons_self ..)
  simp only [Lib.indexByte,hx,if_false]
  split<;>(try split)<;>simp_all<;>omega
theorem aLx {c:UInt8}: ∀{s:List UInt8}{k:Nat}(h:k < s.length),(∀x∈s.take k,x≠c)->s[k]=c->Lib.indexByte s c=k
 |x::s,0,_,_,e=>by
  simp at e;subst e;simp [Lib.indexByte]
 |x::s,k+1,h,hn,e=>by
  have ih:=aLx (c:=c) (s:=s) (k:=k) (by simpa using h) (λy hy=>hn y (by simp [hy])) (by simpa using e)
  have hx:=hn x (by simp)
  simp only [Lib.indexByte,hx,if_false,ih]
  split<;>(try split)<;>simp_all<;>omega
end Go.Proofs.YtdjfkmkdkclahaaGreatDoor
