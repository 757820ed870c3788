/-
  The reference's queries: Check where there are no axioms. Queries, the reference: canonical names of the query of a part. Ledgers: Before, Check. Ledgers: Add, Find.
  Conditions: none.
-/
import Derived.Test.YtdjfkmkdkclahaaGreatDoorVVo
import Derived.Test.YtdjfkmkdkclahaaGreatDoorVQqh
import Derived.Test.YtdjfkmkdkclahaaGreatDoorVZe
import Derived.Test.YtdjfkmkdkclahaaGreatDoorVSza
import Derived.Test.YtdjfkmkdkclahaaGreatDoorVSzf
import Derived.Test.YtdjfkmkdkclahaaGreatDoorVOh
set_option linter.unnecessarySimpa false
set_option linter.unusedSectionVars false
set_option linter.unusedSimpArgs false
set_option linter.unusedVariables false
set_option maxHeartbeats 32000000
namespace Go.Proofs.YtdjfkmkdkclahaaGreatDoor
open Go.Proofs Go.RowKit
set_option maxRecDepth 10000
attribute [local irreducible] aL aH Tri aI YVC bP aS
theorem aKe:Tri Tryz.prog 123 [.d .nil] [] (λr=>r= .d (.int .i64 0)):=by
 refine aF hty Tryz.func123 rfl (kp [0,2,3,4,8,17]) [] _ _ _ (by simp [Tryz.f123]) (by simp) ?_
 ((conv=>whnf);repeat' ((first|(intro hq;(try simp only [lnS]at hq);(try rewrite [List.length_map]))|refine sJ ?_|refine .intro _ (.intro rfl ?_)|refine exL (k:= ?_)|(refine dI hty 2 ?_)|refine dwR ?_|((first|refine aC ?_ ?_|refine aD ?_ ?_)<;>intro hb<;>(first|exact ddX hb|try simp only [lnS]at hb))|(refine aB ?_ ?_<;>intro hb<;>try exact dsX hb))<;>(conv=>whnf)))
 rfl
theorem aNy (s:List UInt8) (hn:cT s=true):Tri Tryz.prog 80 [.d .nil, .d (.str s)] [] (λr=>r= .tup [.d (.bool true), .d (.int .i64 0)]):=by
 have hc:=fU s
 rw [if_pos hn]at hc
 refine aF hty Tryz.func80 rfl (kp [0,1,4,5,6,7,11,15,19,46]) [] _ _ _ (by simp [Tryz.f80]) (by simp) ?_
 ((conv=>whnf);repeat' ((first|(intro hq;(try simp only [lnS]at hq);(try rewrite [List.length_map]))|refine sJ ?_|refine .intro _ (.intro rfl ?_)|refine exL (k:= ?_)|(refine aA [] aKe trivial (λr hs=> ?_);subst hs)|(refine aA [] hc trivial (λr hs=> ?_);subst hs)|(refine dI hty 2 ?_)|refine dwR ?_|((first|refine aC ?_ ?_|refine aD ?_ ?_)<;>intro hb<;>(first|exact ddX hb|try simp only [lnS]at hb))|(refine aB ?_ ?_<;>intro hb<;>try exact dsX hb))<;>(conv=>whnf)))
 rfl
theorem iT (q:Qy):Tri Tryz.prog 42 [.d (.agg (qyR q)), .d .nil] [] (λr=>r= .d (.int .i64 (qE q))):=by
 have hform:=aB5 q
 have hok:qE q=0-> ∀p∈q.parts,∀a∈p,cT a.name=true:=by
  intro h p hp a ha
  rw [aOr]at h
  split at h
  ·exact absurd h (by assumption)
  ·split at h
   ·exact absurd h (by assumption)
   ·rename_i h2
    exact aIk ((cV _).1 (Decidable.not_not.1 h2) a (List.mem_flatten.2 ⟨p,hp,ha⟩))
 generalize qE q=e at *
 obtain⟨told,parts⟩:=q
 dsimp only at hok
 rw [show qyR ⟨told,parts⟩=[.sl 1 (told.map aV), .sl 1 (parts.map aK)]from rfl]at *
 have hlp:(parts.map aK).length=parts.length:=List.length_map ..
 refine aG false [2,10] hty Tryz.func42 rfl (kp [0,1,2,4,5,6,7,8,9,10,11,12,17,22,31,37,48,62,88,97]) [] _ _ _ (by simp [Tryz.f42]) (by simp) ?_
 ((conv=>whnf);repeat ((first|(refine aA [] hform trivial (λr hs=> ?_);subst hs)|(intro hq;try simp only [lnS]at hq)|refine sI ?_|refine .intro _ (.intro rfl ?_));(conv=>whnf)))
 refine aD (λh1=> ?_) (λh1=> ?_)
 ·((conv=>whnf);repeat ((first|(intro hq;try simp only [lnS]at hq)|refine sI ?_|refine .intro _ (.intro rfl ?_));(conv=>whnf)))
  rfl
 have h1:e=0:=by simpa using h1
 subst h1
 have hok:=hok rfl
 clear hform
 ((conv=>whnf);repeat ((first|(intro hq;try simp only [lnS]at hq)|refine sI ?_|refine .intro _ (.intro rfl ?_));(conv=>whnf)))
 refine dI hty 2 ?_
 ((conv=>whnf);repeat ((first|(intro hq;try simp only [lnS]at hq)|refine sI ?_|refine .intro _ (.intro rfl ?_));(conv=>whnf)))
 refine aJ hty (λj:Nat=>([(1, .d .nil),(2, .ea 2 [[.sl 1 (told.map aV), .sl 1 (parts.map aK)]] 0 0),(8, .d (.int .i64 j))],[])) (λj=>j<=parts.length) (λj=>parts.length - j) 0 (by omega) ⟨by repeat' (first|exact trivial|exact rfl|refine And.intro ?_ ?_),by repeat' (first|exact trivial|exact rfl|refine And.intro ?_ ?_)⟩ ?_
 rintro j hj
 ((conv=>whnf);repeat ((first|(intro hq;try simp only [lnS]at hq)|refine sI ?_|refine .intro _ (.intro rfl ?_));(conv=>whnf)))
 rw [hlp]
 refine aC (λh2=> ?_) (λh2=> ?_)
 ·have hjl:j < parts.length:=by omega
  have hrow:(parts.map aK)[(j:Int).toNat]? =some (aK parts[j]):=aO hjl
  have hnx:=hok _ (List.getElem_mem hjl)
  generalize parts[j]=x at hrow hnx
  rw [show aK x=[.sl 6 (x.map atR)]from rfl]at hrow
  have hlx:(x.map atR).length=x.length:=List.length_map ..
  ((conv=>whnf);repeat ((first|(intro hq;try simp only [lnS]at hq)|refine sI ?_|refine .intro _ (.intro rfl ?_));(conv=>whnf)))
  refine aJ hty (λi:Nat=>([(1, .d .nil),(2, .ea 2 [[.sl 1 (told.map aV), .sl 1 (parts.map aK)]] 0 0),(8, .d (.int .i64 j)),(9, .d (.int .i64 i))],[])) (λi=>i<=x.length) (λi=>x.length - i) 0 (by omega) ⟨by repeat' (first|exact trivial|exact rfl|refine And.intro ?_ ?_),by repeat' (first|exact trivial|exact rfl|refine And.intro ?_ ?_)⟩ ?_
  rintro i hi
  ((conv=>whnf);repeat ((first|(refine⟨_,hrow, ?_⟩)|(intro hq;try simp only [lnS]at hq)|refine sI ?_|refine .intro _ (.intro rfl ?_));(conv=>whnf)))
  rw [hlx]
  refine aC (λh4=> ?_) (λh4=> ?_)
  ·have hil:i < x.length:=by omega
   have hrow2:(x.map atR)[(i:Int).toNat]? =some (atR x[i]):=aO hil
   have hny:=hnx _ (List.getElem_mem hil)
   generalize x[i]=y at hrow2 hny
   obtain⟨kd,nm,xx,yy,lo,hi'⟩:=y
   rw [show atR ⟨kd,nm,xx,yy,lo,hi'⟩=[.int .i64 kd, .str nm, .str xx, .str yy, .int .i64 lo, .int .i64 hi']from rfl]at hrow2
   dsimp only at hny
   have hs:=aNy nm hny
   have c1:=eP xx
   have c2:=eP yy
   have c3:=lC told xx
   have c4:=lC told yy
   ((conv=>whnf);repeat' ((first|(intro hq;(try simp only [lnS]at hq);(try rewrite [List.length_map]))|refine sJ ?_|refine .intro _ (.intro rfl ?_)|refine exL (k:= ?_)|(refine⟨_,hrow, ?_⟩)|(refine⟨_,hrow2, ?_⟩)|(refine aA [] hs trivial (λr hs=> ?_);subst hs)|(refine aA [] c1 trivial (λr hs=> ?_);subst hs)|(refine aA [] c2 trivial (λr hs=> ?_);subst hs)|(refine aA [] c3 trivial (λr hs=> ?_);subst hs)|(refine aA [] c4 trivial (λr hs=> ?_);subst hs)|refine dwR ?_|((first|refine aC ?_ ?_|refine aD ?_ ?_)<;>intro hb<;>(first|exact ddX hb|try simp only [lnS]at hb))|(refine aB ?_ ?_<;>intro hb<;>try exact dsX hb))<;>(conv=>whnf)))
   all_goals exact⟨i+1,by omega,by dsimp only;omega,⟨by repeat' (first|exact trivial|exact rfl|refine And.intro ?_ ?_),by repeat' (first|exact trivial|exact rfl|refine And.intro ?_ ?_)⟩⟩
  ·have hil:i=x.length:=by omega
   subst hil
   ((conv=>whnf);repeat ((first|(intro hq;try simp only [lnS]at hq)|refine sI ?_|refine .intro _ (.intro rfl ?_));(conv=>whnf)))
   exact⟨j+1,by omega,by dsimp only;omega,⟨by repeat' (first|exact trivial|exact rfl|refine And.intro ?_ ?_),by repeat' (first|exact trivial|exact rfl|refine And.intro ?_ ?_)⟩⟩
 ·((conv=>whnf);repeat' ((first|(intro hq;(try simp only [lnS]at hq);(try rewrite [List.length_map]))|refine sJ ?_|refine .intro _ (.intro rfl ?_)|refine exL (k:= ?_)|refine dwR ?_|((first|refine aC ?_ ?_|refine aD ?_ ?_)<;>intro hb<;>(first|exact ddX hb|try simp only [lnS]at hb))|(refine aB ?_ ?_<;>intro hb<;>try exact dsX hb))<;>(conv=>whnf)))
  rfl
end Go.Proofs.YtdjfkmkdkclahaaGreatDoor
namespace Go.Proofs.YtdjfkmkdkclahaaGreatDoor
open Go.Proofs Go.RowKit
set_option maxRecDepth 10000
attribute [local irreducible] aL aH Tri aI YVC bP aS
theorem aK6 (p:List At):(cR [] p).Nodup/\(∀s,s∈cR [] p↔s∈cG p)/\(cR [] p).length=(cG p).length:=by
 obtain⟨h1,h2,_⟩:=lB p []
 have hn:=h1 .nil
 have hm: ∀s,s∈cR [] p↔s∈cG p:= λs=>by
  rw [h2,(eI p).2]
  simp
 exact⟨hn,hm,((List.perm_ext_iff_of_nodup hn (fO p).2).2 hm).length_eq⟩
def nmW (w:List Nat):List bZ:=w.map λk=>nmV (k+1)
theorem aSm (p:List At) (H:List bZ) (w:List Nat):sF (p.map (rpA (gV H (nmW w))))=eO p H w:=rfl
theorem aAd (p:List At):Tri Tryz.prog 81 [.d (.agg (qyR ⟨[],[p]⟩))] [] (λr=>r= .tup [.d (.agg (qyR ⟨[],if ptE p=0 then [dP p]else []⟩)), .d (.int .i64 (ptE p))]):=by
 have hc:=aB5 ⟨[],[p]⟩
 have hok:= @aQi p
 rw [show qE ⟨[],[p]⟩=ptE p from rfl]at hc
 generalize ptE p=e at *
 have hq:qyR ⟨[],[p]⟩=[.sl 1 [], .sl 1 [[.sl 6 (p.map atR)]]]:=rfl
 rw [hq]at hc |-
 refine Tri.says ?_
 refine aG false [1] hty Tryz.func81 rfl (kp [0,1,2,3,4,5,6,7,8,9,10,11,12,13,14,15,16,17,18,22,31,47,60,70,91,100,133]) [] _ _ _ (by simp [Tryz.f81]) (by simp) ?_
 ((conv=>whnf);repeat ((first|(refine aA [] hc trivial (λr hs=> ?_);subst hs)|(intro hq;try simp only [lnS]at hq)|refine sI ?_|refine .intro _ (.intro rfl ?_));(conv=>whnf)))
 refine aD (λh1=> ?_) (λh1=> ?_)
 ·((conv=>whnf);repeat ((first|(intro hq;try simp only [lnS]at hq)|refine sI ?_|refine .intro _ (.intro rfl ?_));(conv=>whnf)))
  rw [if_neg h1]
  exact⟨_,bW.pair (bW.wkd (by repeat' (first|exact trivial|exact rfl|refine And.intro ?_ ?_))),rfl⟩
 ·have h1:e=0:=by simpa using h1
  subst h1
  obtain⟨⟨k1,k2⟩,_,k3⟩:=hok.1 rfl
  obtain⟨v1,v2,v3⟩:=aK6 p
  have hv:=jZ p (by omega)
  have hb:=aN2 v1 v2 k3
  have hHl:(cR [] p).length<=8:=by omega
  rw [show aK p=[.sl 6 (p.map atR)]from rfl]at hv
  generalize cR [] p=H at *
  have hHm:(H.map aV).length=H.length:=List.length_map ..
  have hor:=uM H.length hHl
  have hfm:((dZ H.length).map uW).length=(dZ H.length).length:=List.length_map ..
  ((conv=>whnf);repeat ((first|(intro hq;try simp only [lnS]at hq)|refine sI ?_|refine .intro _ (.intro rfl ?_));(conv=>whnf)))
  refine dI hty 1 ?_
  ((conv=>whnf);repeat ((first|(intro hq;try simp only [lnS]at hq)|refine sI ?_|refine .intro _ (.intro rfl ?_));(conv=>whnf)))
  refine dI hty 2 ?_
  ((conv=>whnf);repeat ((first|(refine aA [] hv trivial (λr hs=> ?_);subst hs)|(intro hq;try simp only [lnS]at hq)|refine sI ?_|refine .intro _ (.intro rfl ?_));(conv=>whnf)))
  refine aL.ownC 5 200 56 35 1 1 rfl rfl (bQ (by with_unfolding_all exact rfl)) ?_
  refine aJ hty (λk:Nat=>([(1, .ea 2 [[.sl 1 [], .sl 1 [[.sl 6 (p.map atR)]]]] 0 0),(2, .ptr 2 0),(5, .ptr 5 0),(6, .osl 26 1 []),(8, .d (.int .i64 0)),(9, .osl 50 1 ((H.take k).map aV)),(10, .d (.sl 1 (H.map aV))),(11, .d (.int .i64 k))],[(50, .own 9 1 ((H.take k).map aV).length),(26, .own 9 1 0),(200, .own 35 1 0),(5, .cells 56 [.osl 26 1 [], .osl 200 1 []]),(2, .cells 56 [.d .nil, .d .nil])])) (λk=>k<=H.length) (λk=>H.length - k) 0 (Nat.zero_le _) ⟨by repeat' (first|exact trivial|exact rfl|refine And.intro ?_ ?_),by repeat' (first|exact trivial|exact rfl|refine And.intro ?_ ?_)⟩ ?_
  intro k hk
  ((conv=>whnf);repeat ((first|(intro hq;try simp only [lnS]at hq)|refine sI ?_|refine .intro _ (.intro rfl ?_));(conv=>whnf)))
  rw [hHm]
  refine aC (λh2=> ?_) (λh2=> ?_)
  ·have hkl:k < H.length:=by omega
   have hrow:(H.map aV)[((k:Nat):Int).toNat]? =some (aV H[k]):=aO hkl
   have hin:=lC [] H[k]
   rw [decide_eq_false (List.not_mem_nil)]at hin
   have hts:(H.take (k+1)).map aV=(H.take k).map aV++[aV H[k]]:=by rw [List.take_succ_eq_append_getElem hkl,List.map_append];rfl
   have htl:((H.take k).map aV).length<=8:=by rw [List.length_map,List.length_take];omega
   generalize (H.take k).map aV=acc at *
   rw [show aV H[k]=[.str H[k]]from rfl]at hrow
   ((conv=>whnf);repeat ((first|(intro hq;try simp only [lnS]at hq)|refine sI ?_|refine .intro _ (.intro rfl ?_));(conv=>whnf)))
   refine dwR ?_
   ((conv=>whnf);repeat ((first|(refine⟨_,hrow, ?_⟩)|(refine⟨.d (.bool _),_,[],rfl,trivial,hin, ?_⟩)|(intro hq;try simp only [lnS]at hq)|refine sI ?_|refine .intro _ (.intro rfl ?_));(conv=>whnf)))
   refine⟨k+1,by dsimp only;omega,by dsimp only;omega, ?_⟩
   dsimp only
   rw [hts]
   exact⟨by repeat' (first|exact trivial|exact rfl|refine And.intro ?_ ?_),by repeat' (first|exact trivial|exact rfl|(rw [List.length_append];exact rfl)|refine And.intro ?_ ?_)⟩
  have hkl:k=H.length:=by omega
  subst hkl
  rw [List.take_length]
  ((conv=>whnf);repeat ((first|(intro hq;try simp only [lnS]at hq)|refine sI ?_|refine .intro _ (.intro rfl ?_));(conv=>whnf)))
  rw [hHm]
  ((conv=>whnf);repeat ((first|(refine aA [] hor trivial (λr hs=> ?_);subst hs)|(intro hq;try simp only [lnS]at hq)|refine sI ?_|refine .intro _ (.intro rfl ?_));(conv=>whnf)))
  refine aJ hty (λj:Nat=>([(1, .ea 2 [[.sl 1 [], .sl 1 [[.sl 6 (p.map atR)]]]] 0 0),(2, .ptr 2 0),(5, .ptr 5 0),(6, .osl 26 1 []),(8, .d (.int .i64 0)),(9, .d (.sl 1 (H.map aV))),(12, .d (.sl 1 (H.map aV))),(13, .d (.sl 1 ((dZ H.length).map uW))),(14, .ptr 14 0),(15, .d (.int .i64 j))],[(14, .cells 35 [.d (vP (aB1 p H ((dZ H.length).take j)))]),(26, .own 9 1 0),(200, .own 35 1 0),(5, .cells 56 [.osl 26 1 [], .osl 200 1 []]),(2, .cells 56 [.d .nil, .d .nil])])) (λj=>j<=(dZ H.length).length) (λj=>(dZ H.length).length - j) 0 (Nat.zero_le _) ⟨by repeat' (first|exact trivial|exact rfl|refine And.intro ?_ ?_),by repeat' (first|exact trivial|exact rfl|refine And.intro ?_ ?_)⟩ ?_
  intro j hj
  ((conv=>whnf);repeat ((first|(intro hq;try simp only [lnS]at hq)|refine sI ?_|refine .intro _ (.intro rfl ?_));(conv=>whnf)))
  rw [hfm]
  refine aC (λh3=> ?_) (λh3=> ?_)
  ·have hjl:j < (dZ H.length).length:=by omega
   have hfw:=wD hHl
   have hrow:((dZ H.length).map uW)[((j:Nat):Int).toNat]? =some (uW (dZ H.length)[j]):=aO hjl
   have hbs:=aBw p H ((dZ H.length).take j) (dZ H.length)[j]
   rw [<-List.take_succ_eq_append_getElem hjl]at hbs
   have hbo:(j=0/\aB1 p H ((dZ H.length).take j)=none)\/(j≠0/\ ∃b,aB1 p H ((dZ H.length).take j)=some b):=by
    rcases aDb p H j ((dZ H.length).take j) (by rw [List.length_take];omega)with h|⟨b,h,_⟩
    ·exact .inl h
    ·refine .inr ⟨λe=> ?_,b,h⟩
     rw [e]at h
     cases h
   have hwl:(dZ H.length)[j].length=H.length:=qD (List.getElem_mem hjl)
   have hwm: ∀k∈(dZ H.length)[j],k < H.length:= λk hk=>List.mem_range.1 ((qC (List.getElem_mem hjl)).mem_iff.1 hk)
   generalize aB1 p H ((dZ H.length).take j)=o0 at *
   generalize (dZ H.length)[j]=w at *
   rw [show uW w=[.sl 1 (w.map nR)]from rfl]at hrow
   ((conv=>whnf);repeat ((first|(intro hq;try simp only [lnS]at hq)|refine sI ?_|refine .intro _ (.intro rfl ?_));(conv=>whnf)))
   refine aJ hty (λk:Nat=>([(1, .ea 2 [[.sl 1 [], .sl 1 [[.sl 6 (p.map atR)]]]] 0 0),(2, .ptr 2 0),(5, .ptr 5 0),(6, .osl 26 1 []),(8, .d (.int .i64 0)),(9, .d (.sl 1 (H.map aV))),(12, .d (.sl 1 (H.map aV))),(13, .d (.sl 1 ((dZ H.length).map uW))),(14, .ptr 14 0),(15, .d (.int .i64 j)),(16, .osl 94 1 (((nmW w).take k).map aV)),(17, .d (.int .i64 k))],[(94, .own 9 1 (((nmW w).take k).map aV).length),(14, .cells 35 [.d (vP o0)]),(26, .own 9 1 0),(200, .own 35 1 0),(5, .cells 56 [.osl 26 1 [], .osl 200 1 []]),(2, .cells 56 [.d .nil, .d .nil])])) (λk=>k<=H.length) (λk=>H.length - k) 0 (Nat.zero_le _) ⟨by repeat' (first|exact trivial|exact rfl|refine And.intro ?_ ?_),by repeat' (first|exact trivial|exact rfl|refine And.intro ?_ ?_)⟩ ?_
   intro k hk
   ((conv=>whnf);repeat ((first|(intro hq;try simp only [lnS]at hq)|refine sI ?_|refine .intro _ (.intro rfl ?_));(conv=>whnf)))
   rw [hHm]
   refine aC (λh4=> ?_) (λh4=> ?_)
   ·have hkl:k < w.length:=by omega
    have hrw:(w.map nR)[((k:Nat):Int).toNat]? =some (nR w[k]):=aO hkl
    have hwk:=hwm w[k] (List.getElem_mem hkl)
    have hnm:Tri Tryz.prog 126 [.d (.int .i64 ((w[k]:Int)+1))] [] (λr=>r= .d (.str [UInt8.ofNat (48+(w[k]+1))])):=aAe (w[k]+1) (by omega)
    have hnl:k < (nmW w).length:=by unfold nmW;rw [List.length_map];exact hkl
    have hts:((nmW w).take (k+1)).map aV=((nmW w).take k).map aV++[[.str ([63,118]++[UInt8.ofNat (48+(w[k]+1))])]]:=by
     rw [List.take_succ_eq_append_getElem hnl,List.map_append,show (nmW w)[k]=nmV (w[k]+1)from List.getElem_map _]
     rfl
    have htl:(((nmW w).take k).map aV).length<=8:=by rw [List.length_map,List.length_take];omega
    generalize ((nmW w).take k).map aV=acc at *
    rw [show nR w[k]=[.int .i64 w[k]]from rfl]at hrw
    generalize w[k]=c at *
    ((conv=>whnf);repeat ((first|(refine⟨_,hrow, ?_⟩)|(refine⟨_,hrw, ?_⟩)|(refine aA [] hnm trivial (λr hs=> ?_);subst hs)|(intro hq;try simp only [lnS]at hq)|refine sI ?_|refine .intro _ (.intro rfl ?_));(conv=>whnf)))
    refine⟨k+1,by dsimp only;omega,by dsimp only;omega, ?_⟩
    dsimp only
    rw [hts]
    exact⟨by repeat' (first|exact trivial|exact rfl|refine And.intro ?_ ?_),by repeat' (first|exact trivial|exact rfl|(rw [List.length_append];exact rfl)|refine And.intro ?_ ?_)⟩
   have hkl:k=H.length:=by omega
   subst hkl
   have hnl:(nmW w).length=H.length:=by unfold nmW;rw [List.length_map];exact hwl
   have hrp:=aCo p H (nmW w) v1 hnl (by omega)
   have htd:=aEd (p.map (rpA (gV H (nmW w)))) (by rw [List.length_map];omega)
   rw [aSm]at htd
   rw [List.take_of_length_le (by omega)]
   rw [show aK p=[.sl 6 (p.map atR)]from rfl,show aK (p.map (rpA (gV H (nmW w))))=[.sl 6 ((p.map (rpA (gV H (nmW w)))).map atR)]from rfl]at hrp
   rw [show aK (p.map (rpA (gV H (nmW w))))=[.sl 6 ((p.map (rpA (gV H (nmW w)))).map atR)]from rfl,show aK (eO p H w)=[.sl 6 ((eO p H w).map atR)]from rfl]at htd
   ((conv=>whnf);repeat ((first|(refine aA [] (Tri.args hrp ⟨.refl _, .refl _, .osl,trivial⟩) trivial (λr hs=> ?_);subst hs)|(refine aA [] htd trivial (λr hs=> ?_);subst hs)|(intro hq;try simp only [lnS]at hq)|refine sI ?_|refine .intro _ (.intro rfl ?_));(conv=>whnf)))
   rcases hbo with⟨e0,e⟩|⟨e0,b,e⟩
   ·rw [e]at hbs
    rw [decide_eq_true (by omega)]
    ((conv=>whnf);repeat ((first|(intro hq;try simp only [lnS]at hq)|refine sI ?_|refine .intro _ (.intro rfl ?_));(conv=>whnf)))
    refine⟨j+1,by dsimp only;omega,by dsimp only;omega, ?_⟩
    dsimp only
    rw [hbs]
    exact⟨by repeat' (first|exact trivial|exact rfl|refine And.intro ?_ ?_),by repeat' (first|exact trivial|exact rfl|refine And.intro ?_ ?_)⟩
   ·rw [e]at hbs
    rw [decide_eq_false (by omega),e]
    dsimp only at hbs
    have hls:=aEh (eO p H w) b
    rw [show vP (some b)= .sl 6 (b.map atR)from rfl]
    ((conv=>whnf);repeat ((first|(refine aA [] hls trivial (λr hs=> ?_);subst hs)|(intro hq;try simp only [lnS]at hq)|refine sI ?_|refine .intro _ (.intro rfl ?_));(conv=>whnf)))
    by_cases hlt:bN bM (eO p H w) b < 0
    ·rw [if_pos hlt]at hbs
     rw [decide_eq_true hlt]
     ((conv=>whnf);repeat ((first|(intro hq;try simp only [lnS]at hq)|refine sI ?_|refine .intro _ (.intro rfl ?_));(conv=>whnf)))
     refine⟨j+1,by dsimp only;omega,by dsimp only;omega, ?_⟩
     dsimp only
     rw [hbs]
     exact⟨by repeat' (first|exact trivial|exact rfl|refine And.intro ?_ ?_),by repeat' (first|exact trivial|exact rfl|refine And.intro ?_ ?_)⟩
    ·rw [if_neg hlt]at hbs
     rw [decide_eq_false hlt]
     ((conv=>whnf);repeat ((first|(intro hq;try simp only [lnS]at hq)|refine sI ?_|refine .intro _ (.intro rfl ?_));(conv=>whnf)))
     refine⟨j+1,by dsimp only;omega,by dsimp only;omega, ?_⟩
     dsimp only
     rw [hbs]
     exact⟨by repeat' (first|exact trivial|exact rfl|refine And.intro ?_ ?_),by repeat' (first|exact trivial|exact rfl|refine And.intro ?_ ?_)⟩
  have hjl:j=(dZ H.length).length:=by omega
  subst hjl
  rw [List.take_length,hb,show vP (some (dP p))= .sl 6 ((dP p).map atR)from rfl]
  ((conv=>whnf);repeat ((first|(intro hq;try simp only [lnS]at hq)|refine sI ?_|refine .intro _ (.intro rfl ?_));(conv=>whnf)))
  rw [if_pos rfl]
  exact⟨_, .refl _,rfl⟩
end Go.Proofs.YtdjfkmkdkclahaaGreatDoor
namespace Go.Proofs.YtdjfkmkdkclahaaGreatDoor
open Go.Proofs Go.RowKit
set_option maxRecDepth 10000
attribute [local irreducible] aL aH Tri aI YVC bP aS
theorem uP (a b:Lg):Tri Tryz.prog 30 [.d (.agg (lgR a)), .d (.agg (lgR b))] [] (λr=>r= .d (.bool (mU a b))):=by
 have hi:= @eD a b
 have hla:(a.entries.map bA).length=a.entries.length:=List.length_map ..
 have hlb:(b.entries.map bA).length=b.entries.length:=List.length_map ..
 have hc:=aG2 a.entries (b.entries.take a.entries.length)
 show Tri Tryz.prog 30 [.d (.agg [.str a.reader, .int .i64 a.version, .sl 2 (a.entries.map bA)]), .d (.agg [.str b.reader, .int .i64 b.version, .sl 2 (b.entries.map bA)])] [] _
 refine aG false [2,3] hty Tryz.func30 rfl (kp [0,1,2,3,4,25]) [] _ _ _ (by simp [Tryz.f30]) (by simp) ?_
 have hsl:List.drop 0 (List.take ((a.entries.length:Nat):Int).toNat (b.entries.map bA))=(b.entries.take a.entries.length).map bA:=by rw [List.drop_zero,Int.toNat_natCast,List.map_take]
 ((conv=>whnf);repeat' ((first|(intro hq;(try simp only [lnS]at hq);(try rewrite [List.length_map]))|refine sJ ?_|refine .intro _ (.intro rfl ?_)|refine exL (k:= ?_)|refine dwR ?_|((first|refine aC ?_ ?_|refine aD ?_ ?_)<;>intro hb<;>(first|exact ddX hb|try simp only [lnS]at hb))|(refine aB ?_ ?_<;>intro hb<;>try exact dsX hb))<;>(conv=>whnf)))
 ·refine aN ?_
  cases h:mU a b
  ·rfl
  ·exact absurd (hi.1 h).1 hb
 ·refine aN ?_
  cases h:mU a b
  ·rfl
  ·exact absurd (hi.1 h).2.1 hb
 ·refine aN ?_
  cases h:mU a b
  ·rfl
  ·have:=wR (hi.1 h).2.2
   omega
 ·rw [hsl]
  ((conv=>whnf);repeat ((first|(refine⟨.d (.bool _),_,[],rfl,trivial,hc, ?_⟩)|(intro hq;try simp only [lnS]at hq)|refine sI ?_|refine .intro _ (.intro rfl ?_));(conv=>whnf)))
  refine aN ?_
  rw [Bool.eq_iff_iff,hi,decide_eq_true_eq]
  exact⟨λh=>⟨by assumption,by assumption,h⟩,λh=>h.2.2⟩
theorem yS (l:Lg):Tri Tryz.prog 15 [.d (.agg (lgR l))] [] (λr=>r= .d (.int .i64 (lgE l))):=by
 have hl:(l.entries.map bA).length=l.entries.length:=List.length_map ..
 have h1:=kU l.reader
 have h2:=jD l.version
 show Tri Tryz.prog 15 [.d (.agg [.str l.reader, .int .i64 l.version, .sl 2 (l.entries.map bA)])] [] _
 refine aG false [1,4,5] hty Tryz.func15 rfl (kp [0,1,2,3,4,5,6,16,20,22,23,24,25,33,41,57]) [] _ _ _ (by simp [Tryz.f15]) (by simp) ?_
 generalize hb1:rdF l.reader=b1 at *
 generalize hb2:hX l.version=b2 at *
 have hE:lgE l=if b1=false\/b2=false then 1 else if 1024 < l.entries.length then 2 else zP [] l.entries:=by
  unfold lgE
  rw [hb1,hb2]
 rw [hE]
 by_cases hb:b1=false\/b2=false
 ·rw [if_pos hb]
  cases b1<;>cases b2
  all_goals
   ((conv=>whnf);repeat' ((first|(intro hq;(try simp only [lnS]at hq);(try rewrite [List.length_map]))|refine sJ ?_|refine .intro _ (.intro rfl ?_)|refine exL (k:= ?_)|(refine aA [] h1 trivial (λr hs=> ?_);subst hs)|(refine aA [] h2 trivial (λr hs=> ?_);subst hs)|refine dwR ?_|((first|refine aC ?_ ?_|refine aD ?_ ?_)<;>intro hb<;>(first|exact ddX hb|try simp only [lnS]at hb))|(refine aB ?_ ?_<;>intro hb<;>try exact dsX hb))<;>(conv=>whnf)))
  all_goals first|rfl|(simp at hb;done)
 ·rw [if_neg hb]
  obtain rfl:b1=true:=by cases b1<;>simp_all
  obtain rfl:b2=true:=by cases b2<;>simp_all
  ((conv=>whnf);repeat ((first|(refine aA [] h1 trivial (λr hs=> ?_);subst hs)|(refine aA [] h2 trivial (λr hs=> ?_);subst hs)|(intro hq;try simp only [lnS]at hq)|refine sI ?_|refine .intro _ (.intro rfl ?_));(conv=>whnf)))
  rw [hl]
  refine aC (λh3=> ?_) (λh3=> ?_)
  ·rw [if_pos (by omega)]
   ((conv=>whnf);repeat ((first|(intro hq;try simp only [lnS]at hq)|refine sI ?_|refine .intro _ (.intro rfl ?_));(conv=>whnf)))
   rfl
  rw [if_neg (by omega)]
  ((conv=>whnf);repeat ((first|(intro hq;try simp only [lnS]at hq)|refine sI ?_|refine .intro _ (.intro rfl ?_));(conv=>whnf)))
  refine aJ hty (λj:Nat=>([(1, .ea 3 [[.str l.reader, .int .i64 l.version, .sl 2 (l.entries.map bA)]] 0 0),(22, .d (.sl 2 (l.entries.map bA))),(23, .d (.int .i64 l.entries.length)),(24, .d (.int .i64 j))],[])) (λj=>j<=l.entries.length/\zP [] l.entries=zP (l.entries.take j) (l.entries.drop j)) (λj=>l.entries.length - j) 0 ⟨Nat.zero_le _,rfl⟩ ⟨by repeat' (first|exact trivial|exact rfl|(rw [List.length_map];exact rfl)|refine And.intro ?_ ?_),trivial⟩ ?_
  rintro j ⟨hj,hn⟩
  ((conv=>whnf);repeat ((first|(intro hq;try simp only [lnS]at hq)|refine sI ?_|refine .intro _ (.intro rfl ?_));(conv=>whnf)))
  refine aC (λh4=> ?_) (λh4=> ?_)
  ·have hjl:j < l.entries.length:=by omega
   have hrow:(l.entries.map bA)[((j:Nat):Int).toNat]? =some (bA l.entries[j]):=aO hjl
   have htl:(l.entries.take j).length=j:=by rw [List.length_take];omega
   have hts:l.entries.take (j+1)=l.entries.take j++[l.entries[j]]:=List.take_succ_eq_append_getElem hjl
   rw [List.drop_eq_getElem_cons hjl,zP,htl,<-hts]at hn
   have c1:=hU l.entries[j].part
   have c2:=iW (dP l.entries[j].part) l.entries[j].part
   have c3:=sW (l.entries.take j) l.entries[j].part
   have c4:= @aPf (l.entries.take j) l.entries[j].part
   have hsl:List.drop 0 (List.take ((j:Nat):Int).toNat (l.entries.map bA))=(l.entries.take j).map bA:=by rw [List.drop_zero,Int.toNat_natCast,List.map_take]
   generalize aGs (l.entries.take j) l.entries[j].part=fx at *
   have hee:aTk (l.entries.take j) j l.entries[j]=if l.entries[j].no≠(j:Int)+1 then 380 else if ptE l.entries[j].part≠0 then ptE l.entries[j].part else if dP l.entries[j].part=l.entries[j].part/\l.entries[j].part∉(l.entries.take j).map Ent.part then 0 else 380:=rfl
   generalize aTk (l.entries.take j) j l.entries[j]=ee at *
   rw [hn]
   generalize l.entries[j]=x at *
   obtain⟨no,q⟩:=x
   rw [show bA ⟨no,q⟩=[.int .i64 no, .sl 6 (q.map atR)]from rfl]at hrow
   dsimp only at c1 c2 c3 c4 hee
   ((conv=>whnf);repeat ((first|(refine⟨_,hrow, ?_⟩)|(intro hq;try simp only [lnS]at hq)|refine sI ?_|refine .intro _ (.intro rfl ?_));(conv=>whnf)))
   refine aD (λh5=> ?_) (λh5=> ?_)
   ·rw [if_pos h5]at hee
    subst hee
    rw [if_pos (by decide)]
    ((conv=>whnf);repeat ((first|(intro hq;try simp only [lnS]at hq)|refine sI ?_|refine .intro _ (.intro rfl ?_));(conv=>whnf)))
    rfl
   have h5:no=(j:Int)+1:=by simpa using h5
   rw [if_neg (by simpa using h5)]at hee
   generalize ptE q=e at *
   by_cases h6:e=0
   ·subst h6
    rw [if_pos rfl]at c1
    rw [if_neg (by decide)]at hee
    rw [show aK (dP q)=[.sl 6 ((dP q).map atR)]from rfl]at c1 c2
    rw [show aK q=[.sl 6 (q.map atR)]from rfl]at c1 c2 c3
    ((conv=>whnf);repeat ((first|(refine aA [] c1 trivial (λr hs=> ?_);subst hs)|(intro hq;try simp only [lnS]at hq)|refine sI ?_|refine .intro _ (.intro rfl ?_));(conv=>whnf)))
    refine dwR ?_
    ((conv=>whnf);repeat ((first|(refine⟨.d (.bool _),_,[],rfl,trivial,c2, ?_⟩)|(intro hq;try simp only [lnS]at hq)|refine sI ?_|refine .intro _ (.intro rfl ?_));(conv=>whnf)))
    by_cases h7:dP q=q
    ·rw [decide_eq_true h7]
     ((conv=>whnf);repeat ((first|(intro hq;try simp only [lnS]at hq)|refine sI ?_|refine .intro _ (.intro rfl ?_));(conv=>whnf)))
     rw [hsl]
     ((conv=>whnf);repeat ((first|(refine⟨.d (.int .i64 _),_,[],rfl,trivial,c3, ?_⟩)|(intro hq;try simp only [lnS]at hq)|refine sI ?_|refine .intro _ (.intro rfl ?_));(conv=>whnf)))
     refine aC (λh8=> ?_) (λh8=> ?_)
     ·rw [if_neg (λh=>h.2 (c4.1 h8))]at hee
      subst hee
      rw [if_pos (by decide)]
      ((conv=>whnf);repeat ((first|(intro hq;try simp only [lnS]at hq)|refine sI ?_|refine .intro _ (.intro rfl ?_));(conv=>whnf)))
      rfl
     ·rw [if_pos ⟨h7,λh=>h8 (c4.2 h)⟩]at hee
      subst hee
      rw [if_neg (by decide)]at hn |-
      ((conv=>whnf);repeat ((first|(intro hq;try simp only [lnS]at hq)|refine sI ?_|refine .intro _ (.intro rfl ?_));(conv=>whnf)))
      exact⟨j+1,⟨by omega,rfl⟩,by dsimp only;omega,by repeat' (first|exact trivial|exact rfl|refine And.intro ?_ ?_),trivial⟩
    ·rw [decide_eq_false h7]
     rw [if_neg (λh=>h7 h.1)]at hee
     subst hee
     rw [if_pos (by decide)]
     ((conv=>whnf);repeat ((first|(intro hq;try simp only [lnS]at hq)|refine sI ?_|refine .intro _ (.intro rfl ?_));(conv=>whnf)))
     rfl
   ·rw [if_neg h6]at c1
    rw [if_pos h6]at hee
    subst hee
    rw [if_pos h6]
    rw [show aK q=[.sl 6 (q.map atR)]from rfl,show aK []=[.sl 6 []]from rfl]at c1
    ((conv=>whnf);repeat ((first|(refine aA [] c1 trivial (λr hs=> ?_);subst hs)|(intro hq;try simp only [lnS]at hq)|refine sI ?_|refine .intro _ (.intro rfl ?_));(conv=>whnf)))
    rw [decide_eq_false h6]
    ((conv=>whnf);repeat ((first|(intro hq;try simp only [lnS]at hq)|refine sI ?_|refine .intro _ (.intro rfl ?_));(conv=>whnf)))
    rfl
  ·have hjl:j=l.entries.length:=by omega
   subst hjl
   rw [List.drop_length,zP]at hn
   rw [hn]
   ((conv=>whnf);repeat ((first|(intro hq;try simp only [lnS]at hq)|refine sI ?_|refine .intro _ (.intro rfl ?_));(conv=>whnf)))
   rfl
end Go.Proofs.YtdjfkmkdkclahaaGreatDoor
namespace Go.Proofs.YtdjfkmkdkclahaaGreatDoor
open Go.Proofs Go.RowKit
set_option maxRecDepth 10000
attribute [local irreducible] aL aH Tri aI YVC bP aS
theorem aBn (l:Lg) (p:List At):Tri Tryz.prog 21 [.d (.agg (lgR l)), .d (.agg (aK p))] [] (λr=>r= .tup [.d (.int .i64 (aFb l p).1), .d (.bool (aFb l p).2)]):=by
 have c1:=hU p
 have c2:=sW l.entries (dP p)
 have c3:=aI5 l.entries (dP p)
 show Tri Tryz.prog 21 [.d (.agg [.str l.reader, .int .i64 l.version, .sl 2 (l.entries.map bA)]), .d (.agg [.sl 6 (p.map atR)])] [] _
 rw [show aK p=[.sl 6 (p.map atR)]from rfl]at c1
 rw [show aK (dP p)=[.sl 6 ((dP p).map atR)]from rfl]at c2
 unfold aFb
 refine aG false [2,3,6] hty Tryz.func21 rfl (kp [0,1,2,3,4,5,6,7,8,15,21]) [] _ _ _ (by simp [Tryz.f21]) (by simp) ?_
 generalize ptE p=e at *
 by_cases h:e=0
 ·subst h
  rw [if_pos rfl,show aK (dP p)=[.sl 6 ((dP p).map atR)]from rfl]at c1
  rw [if_neg (by decide)]
  ((conv=>whnf);repeat ((first|(refine aA [] c1 trivial (λr hs=> ?_);subst hs)|(refine aA [] c2 trivial (λr hs=> ?_);subst hs)|(intro hq;try simp only [lnS]at hq)|refine sI ?_|refine .intro _ (.intro rfl ?_));(conv=>whnf)))
  rcases c3 with⟨e1,e2⟩|⟨k,hk,e1,e2⟩
  ·rw [e1,e2]
   ((conv=>whnf);repeat ((first|(intro hq;try simp only [lnS]at hq)|refine sI ?_|refine .intro _ (.intro rfl ?_));(conv=>whnf)))
   rfl
  ·have hrow:(l.entries.map bA)[((k:Nat):Int).toNat]? =some (bA l.entries[k]):=aO hk
   rw [e1,e2]
   rw [show bA l.entries[k]=[.int .i64 l.entries[k].no, .sl 6 (l.entries[k].part.map atR)]from rfl]at hrow
   rw [decide_eq_false (by omega)]
   ((conv=>whnf);repeat ((first|(refine⟨_,hrow, ?_⟩)|(intro hq;try simp only [lnS]at hq)|refine sI ?_|refine .intro _ (.intro rfl ?_));(conv=>whnf)))
   rfl
 ·rw [if_neg h,show aK []=[.sl 6 []]from rfl]at c1
  rw [if_pos h]
  ((conv=>whnf);repeat ((first|(refine aA [] c1 trivial (λr hs=> ?_);subst hs)|(intro hq;try simp only [lnS]at hq)|refine sI ?_|refine .intro _ (.intro rfl ?_));(conv=>whnf)))
  rw [decide_eq_false h]
  ((conv=>whnf);repeat ((first|(intro hq;try simp only [lnS]at hq)|refine sI ?_|refine .intro _ (.intro rfl ?_));(conv=>whnf)))
  rfl
theorem bW.first3 {a a' b c:SV}(h:bW a a'):bW (.tup [a,b,c]) (.tup [a',b,c]):=bW.tup rfl λj x y hx hy=>by
 match j,hx,hy with
 | 0,hx,hy=>simp at hx hy;subst hx;subst hy;exact h
 | 1,hx,hy=>simp at hx hy;subst hx;subst hy;exact .refl _
 | 2,hx,hy=>simp at hx hy;subst hx;subst hy;exact .refl _
 |j+3,hx,_=>simp at hx
theorem aNb (l:Lg) (p:List At):aA1 l p=if lgE l≠0 then (lg0,0,lgE l)else if ptE p≠0 then (lg0,0,ptE p)else
 match aQu l.entries (dP p)with
 |some no=>(l,no,0)
 |none=>if 1024<=l.entries.length then (lg0,0,380)else (⟨l.reader,l.version,l.entries++[⟨(l.entries.length:Int)+1,dP p⟩]⟩,(l.entries.length:Int)+1,0):=rfl
theorem yV (l:Lg) (p:List At):Tri Tryz.prog 19 [.d (.agg (lgR l)), .d (.agg (aK p))] [] (λr=>r= .tup [.d (.agg (lgR (aA1 l p).1)), .d (.int .i64 (aA1 l p).2.1), .d (.int .i64 (aA1 l p).2.2)]):=by
 have c0:=yS l
 have c1:=hU p
 have c2:=sW l.entries (dP p)
 have c3:=aI5 l.entries (dP p)
 have hl:(l.entries.map bA).length=l.entries.length:=List.length_map ..
 have hE:=aNb l p
 rw [show lgR l=[.str l.reader, .int .i64 l.version, .sl 2 (l.entries.map bA)]from rfl]at c0 |-
 rw [show aK p=[.sl 6 (p.map atR)]from rfl]at c1 |-
 rw [show aK (dP p)=[.sl 6 ((dP p).map atR)]from rfl]at c2
 refine Tri.says ?_
 refine aG false [2,3,8] hty Tryz.func19 rfl (kp [0,1,2,3,4,5,6,7,8,9,13,22,30,41]) [] _ _ _ (by simp [Tryz.f19]) (by simp) ?_
 generalize hge:lgE l=g at *
 by_cases hg:g=0
 ·subst hg
  rw [if_neg (by decide)]at hE
  generalize ptE p=e at *
  by_cases h:e=0
  ·subst h
   rw [if_pos rfl,show aK (dP p)=[.sl 6 ((dP p).map atR)]from rfl]at c1
   rw [if_neg (by decide)]at hE
   ((conv=>whnf);repeat ((first|(refine aA [] c0 trivial (λr hs=> ?_);subst hs)|(refine aA [] c1 trivial (λr hs=> ?_);subst hs)|(refine aA [] c2 trivial (λr hs=> ?_);subst hs)|(intro hq;try simp only [lnS]at hq)|refine sI ?_|refine .intro _ (.intro rfl ?_));(conv=>whnf)))
   rcases c3 with⟨e1,e2⟩|⟨k,hk,e1,e2⟩
   ·rw [e1]at hE
    dsimp only at hE
    rw [e2]
    ((conv=>whnf);repeat ((first|(intro hq;try simp only [lnS]at hq)|refine sI ?_|refine .intro _ (.intro rfl ?_));(conv=>whnf)))
    rw [hl]
    refine aC (λh3=> ?_) (λh3=> ?_)
    ·rw [if_pos (by omega)]at hE
     rw [hE]
     ((conv=>whnf);repeat ((first|(intro hq;try simp only [lnS]at hq)|refine sI ?_|refine .intro _ (.intro rfl ?_));(conv=>whnf)))
     exact⟨_,bW.first3 (bW.wkd (by repeat' (first|exact trivial|exact rfl|exact cN _|refine And.intro ?_ ?_))),rfl⟩
    ·rw [if_neg (by omega)]at hE
     rw [hE]
     have hn:(l.entries.length:Int)+1<=1024:=by omega
     ((conv=>whnf);repeat ((first|(intro hq;try simp only [lnS]at hq)|refine sI ?_|refine .intro _ (.intro rfl ?_));(conv=>whnf)))
     (refine aX (id:=13) hty (.first 0 (.first 1 (.first 2 (.first 3 (.first 4 (.alt 5 (.first 6 (.alt 7 .done .stop)) .stop)))))) (by kernel_rfl) (by kernel_rfl) ?_)
     ((conv=>whnf);repeat' ((first|exact trivial|refine aA0 ?_ ?_|intro cap' hcap'|refine eqN rfl ?_|refine leN rfl ?_|refine ltN rfl ?_|refine sJ ?_|(refine Exists.intro _ (And.intro rfl ?_)))<;>(conv=>whnf)))
     all_goals
      refine⟨(List.length_append ..).symm, ?_, ?_,λcp2 hcp2=> ?_⟩
      ·rw [List.length_append,hl]
       show 0+l.entries.length+1<=_
       omega
      ·rw [List.length_append,hl]
       show (0+l.entries.length+1)* 32<=_
       omega
      ((conv=>whnf);repeat ((first|(intro hq;try simp only [lnS]at hq)|refine sI ?_|refine .intro _ (.intro rfl ?_));(conv=>whnf)))
      refine⟨(List.length_append ..).symm, ?_⟩
      have hfin:(l.entries++[Ent.mk ((l.entries.length:Int)+1) (dP p)]).map bA=l.entries.map bA++[[.int .i64 ((l.entries.map bA).length+1), .sl 6 ((dP p).map atR)]]:=by rw [List.map_append,hl];rfl
      refine⟨rfl,_, .refl _, ?_⟩
      show _=SV.tup [.d (.agg [.str l.reader, .int .i64 l.version, .sl 2 ((l.entries++[Ent.mk ((l.entries.length:Int)+1) (dP p)]).map bA)]), .d (.int .i64 ((l.entries.length:Int)+1)), .d (.int .i64 0)]
      rw [hfin,hl]
      rfl
   ·have hrow:(l.entries.map bA)[((k:Nat):Int).toNat]? =some (bA l.entries[k]):=aO hk
    rw [show bA l.entries[k]=[.int .i64 l.entries[k].no, .sl 6 (l.entries[k].part.map atR)]from rfl]at hrow
    rw [e2]at hE
    dsimp only at hE
    rw [e1,hE]
    rw [decide_eq_true (by omega)]
    ((conv=>whnf);repeat ((first|(intro hq;try simp only [lnS]at hq)|refine sI ?_|refine .intro _ (.intro rfl ?_));(conv=>whnf)))
    (refine aX (id:=9) hty (.first 0 (.first 1 (.first 2 (.first 3 (.first 4 (.first 5 (.first 6 (.alt 7 (.first 8 (.first 9 .done)) .stop)))))))) (by kernel_rfl) (by kernel_rfl) ?_)
    ((conv=>whnf);repeat' ((first|exact trivial|refine aA0 ?_ ?_|(refine⟨_,hrow, ?_⟩)|refine eqN rfl ?_|refine leN rfl ?_|refine ltN rfl ?_|refine sJ ?_|(refine Exists.intro _ (And.intro rfl ?_)))<;>(conv=>whnf)))
    all_goals exact⟨_, .refl _,rfl⟩
  ·rw [if_neg h,show aK []=[.sl 6 []]from rfl]at c1
   rw [if_pos h]at hE
   rw [hE]
   ((conv=>whnf);repeat ((first|(refine aA [] c0 trivial (λr hs=> ?_);subst hs)|(refine aA [] c1 trivial (λr hs=> ?_);subst hs)|(intro hq;try simp only [lnS]at hq)|refine sI ?_|refine .intro _ (.intro rfl ?_));(conv=>whnf)))
   rw [decide_eq_false h]
   ((conv=>whnf);repeat ((first|(intro hq;try simp only [lnS]at hq)|refine sI ?_|refine .intro _ (.intro rfl ?_));(conv=>whnf)))
   exact⟨_,bW.first3 (bW.wkd (by repeat' (first|exact trivial|exact rfl|exact cN _|refine And.intro ?_ ?_))),rfl⟩
 ·rw [if_pos hg]at hE
  rw [hE]
  ((conv=>whnf);repeat ((first|(refine aA [] c0 trivial (λr hs=> ?_);subst hs)|(intro hq;try simp only [lnS]at hq)|refine sI ?_|refine .intro _ (.intro rfl ?_));(conv=>whnf)))
  rw [decide_eq_false hg]
  ((conv=>whnf);repeat ((first|(intro hq;try simp only [lnS]at hq)|refine sI ?_|refine .intro _ (.intro rfl ?_));(conv=>whnf)))
  exact⟨_,bW.first3 (bW.wkd (by repeat' (first|exact trivial|exact rfl|exact cN _|refine And.intro ?_ ?_))),rfl⟩
end Go.Proofs.YtdjfkmkdkclahaaGreatDoor
