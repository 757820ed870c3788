/-
  Ledgers, the reference: Add, Find. Ledgers, plainly: names of variables and the order of atoms do not matter. Ledgers, the laws: fewParts; ledgers only grow. Ledgers, the laws: the ledger that parts lead to. Ledgers, the law: Before is an order.
  Conditions: none.
-/
import Derived.Test.YtdjfkmkdkclahaaGreatDoorVZh
import Derived.Test.YtdjfkmkdkclahaaGreatDoorVQqg
import Derived.Test.YtdjfkmkdkclahaaGreatDoorVVe
import Derived.Test.YtdjfkmkdkclahaaGreatDoorVQqh
set_option linter.unnecessarySimpa false
set_option linter.unusedSectionVars false
set_option linter.unusedSimpArgs false
set_option linter.unusedVariables false
set_option maxHeartbeats 16000000
namespace Go.Proofs.YtdjfkmkdkclahaaGreatDoor
open Go.Proofs Go.RowKit
set_option maxRecDepth 10000
attribute [local irreducible] aL aH Tri aI YVC bP aS
theorem aEj (l:Lg) (p:List At):Tri Tryz.prog 22 [.d (.agg (lgR l)), .d (.agg (aK p))] [] (λr=>r= .tup [.d (.int .i64 (aFb l p).1), .d (.bool (aFb l p).2)]):=by
 have c1:=mZ p
 have c2:=xI l (dP p)
 have c3:=aI5 l.entries (dP p)
 rw [show lgR l=[.str l.reader, .int .i64 l.version, .sl 2 (l.entries.map bA)]from rfl]at c2 |-
 rw [show aK p=[.sl 6 (p.map atR)]from rfl]at c1 |-
 rw [show aK (dP p)=[.sl 6 ((dP p).map atR)]from rfl]at c2
 unfold aFb
 refine aG false [2,3,6] hty Tryz.func22 rfl (kp [0,1,2,3,4,5,6,7,8,15,20]) [] _ _ _ (by simp [Tryz.f22]) (by simp) ?_
 generalize ptE p=e at *
 by_cases h:e=0
 ·subst h
  rw [if_pos rfl,decide_eq_true rfl,show aK (dP p)=[.sl 6 ((dP p).map atR)]from rfl]at c1
  rw [if_neg (by decide)]
  ((conv=>whnf);repeat ((first|(refine aA [] c1 trivial (λr hs=> ?_);subst hs)|(refine aA [] c2 trivial (λr hs=> ?_);subst hs)|(intro hq;try simp only [lnS]at hq)|refine sI ?_|refine .intro _ (.intro rfl ?_));(conv=>whnf)))
  rcases c3 with⟨e1,e2⟩|⟨k,hk,e1,e2⟩
  ·rw [e1,e2]
   ((conv=>whnf);repeat ((first|(intro hq;try simp only [lnS]at hq)|refine sI ?_|refine .intro _ (.intro rfl ?_));(conv=>whnf)))
   rfl
  ·have hrow:(l.entries.map bA)[((k:Nat):Int).toNat]? =some (bA l.entries[k]):=aO hk
   rw [e1,e2]
   rw [show bA l.entries[k]=[.int .i64 l.entries[k].no, .sl 6 (l.entries[k].part.map atR)]from rfl]at hrow
   rw [decide_eq_false (by omega)]
   ((conv=>whnf);repeat ((first|(refine⟨_,hrow, ?_⟩)|(intro hq;try simp only [lnS]at hq)|refine sI ?_|refine .intro _ (.intro rfl ?_));(conv=>whnf)))
   rfl
 ·rw [if_neg h,decide_eq_false h,show aK []=[.sl 6 []]from rfl]at c1
  rw [if_pos h]
  ((conv=>whnf);repeat ((first|(refine aA [] c1 trivial (λr hs=> ?_);subst hs)|(intro hq;try simp only [lnS]at hq)|refine sI ?_|refine .intro _ (.intro rfl ?_));(conv=>whnf)))
  rfl
theorem xK (l:Lg) (p:List At):Tri Tryz.prog 20 [.d (.agg (lgR l)), .d (.agg (aK p))] [] (λr=>r= .tup [.d (.agg (lgR (aA1 l p).1)), .d (.int .i64 (aA1 l p).2.1), .d (.int .i64 (aA1 l p).2.2)]):=by
 have c0:=pZ l
 have ca:=iZ p
 have cb:=iT ⟨[],[p]⟩
 have c1:=mZ p
 have c2:=xI l (dP p)
 have c3:=aI5 l.entries (dP p)
 have hl:(l.entries.map bA).length=l.entries.length:=List.length_map ..
 have hE:=aNb l p
 rw [show qE ⟨[],[p]⟩=ptE p from rfl]at cb
 rw [show lgR l=[.str l.reader, .int .i64 l.version, .sl 2 (l.entries.map bA)]from rfl]at c0 c2 |-
 rw [show aK p=[.sl 6 (p.map atR)]from rfl]at ca c1 |-
 rw [show aK (dP p)=[.sl 6 ((dP p).map atR)]from rfl]at c2
 refine Tri.says ?_
 refine aG false [3,9] hty Tryz.func20 rfl (kp [0,1,2,3,4,5,6,7,8,9,11,12,16,23,35,46]) [] _ _ _ (by simp [Tryz.f20]) (by simp) ?_
 generalize hge:lgE l=g at *
 by_cases hg:g=0
 ·subst hg
  rw [if_neg (by decide)]at hE
  generalize ptE p=e at *
  by_cases h:e=0
  ·subst h
   rw [if_pos rfl,decide_eq_true rfl,show aK (dP p)=[.sl 6 ((dP p).map atR)]from rfl]at c1
   rw [if_neg (by decide)]at hE
   ((conv=>whnf);repeat ((first|(refine aA [] c0 trivial (λr hs=> ?_);subst hs)|(refine aA [] ca trivial (λr hs=> ?_);subst hs)|(refine aA [] cb trivial (λr hs=> ?_);subst hs)|(refine aA [] c1 trivial (λr hs=> ?_);subst hs)|(refine aA [] c2 trivial (λr hs=> ?_);subst hs)|(intro hq;try simp only [lnS]at hq)|refine sI ?_|refine .intro _ (.intro rfl ?_));(conv=>whnf)))
   rcases c3 with⟨e1,e2⟩|⟨k,hk,e1,e2⟩
   ·rw [e1]at hE
    dsimp only at hE
    rw [e2]
    ((conv=>whnf);repeat ((first|(intro hq;try simp only [lnS]at hq)|refine sI ?_|refine .intro _ (.intro rfl ?_));(conv=>whnf)))
    rw [hl]
    refine aC (λh3=> ?_) (λh3=> ?_)
    ·rw [if_pos (by omega)]at hE
     rw [hE]
     ((conv=>whnf);repeat ((first|(intro hq;try simp only [lnS]at hq)|refine sI ?_|refine .intro _ (.intro rfl ?_));(conv=>whnf)))
     exact⟨_,bW.first3 (bW.wkd (by repeat' (first|exact trivial|exact rfl|exact cN _|refine And.intro ?_ ?_))),rfl⟩
    ·rw [if_neg (by omega)]at hE
     rw [hE]
     have hn:(l.entries.length:Int)+1<=1024:=by omega
     have hfin:(l.entries++[Ent.mk ((l.entries.length:Int)+1) (dP p)]).map bA=l.entries.map bA++[[.int .i64 ((l.entries.length:Int)+1), .sl 6 ((dP p).map atR)]]:=by rw [List.map_append];rfl
     ((conv=>whnf);repeat ((first|(intro hq;try simp only [lnS]at hq)|refine sI ?_|refine .intro _ (.intro rfl ?_));(conv=>whnf)))
     rw [hl]
     refine aL.midE (λrows=>rows=l.entries.map bA++[[.int .i64 ((l.entries.length:Int)+1), .sl 6 ((dP p).map atR)]]) (λrows=>[(2, .ptr 2 0),(4, .ptr 4 0),(12, .d (.int .i64 ((l.entries.length:Int)+1)))]) (λrows=>[(2, .cells 24 [.d (.str l.reader), .d (.int .i64 l.version), .osl 52 2 rows]),(4, .cells 24 [.d (.str []), .d (.int .i64 0), .d .nil])]) ?_ ?_
     ·(refine aX (id:=14) hty (.first 1 (.first 4 (.alt 0 (.alt 2 (.alt 3 (.alt 5 (.first 6 (.alt 7 (.alt 8 (.first 9 (.alt 10 .done .stop)) .stop) .stop)) .stop) (.alt 5 (.first 6 (.alt 3 (.alt 7 (.alt 8 (.first 9 (.alt 10 .done .stop)) .stop) .stop) (.alt 7 (.alt 3 (.alt 8 (.first 9 (.alt 10 .done .stop)) .stop) .stop) .stop))) .stop)) (.alt 5 (.first 6 (.alt 2 (.alt 3 (.alt 7 (.alt 8 (.first 9 (.alt 10 .done .stop)) .stop) .stop) (.alt 7 (.alt 3 (.alt 8 (.first 9 (.alt 10 .done .stop)) .stop) .stop) .stop)) (.alt 7 (.alt 2 (.alt 3 (.alt 8 (.first 9 (.alt 10 .done .stop)) .stop) .stop) .stop) .stop))) .stop)) (.alt 2 (.alt 0 (.alt 3 (.alt 5 (.first 6 (.alt 7 (.alt 8 (.first 9 (.alt 10 .done .stop)) .stop) .stop)) .stop) (.alt 5 (.first 6 (.alt 3 (.alt 7 (.alt 8 (.first 9 (.alt 10 .done .stop)) .stop) .stop) (.alt 7 (.alt 3 (.alt 8 (.first 9 (.alt 10 .done .stop)) .stop) .stop) .stop))) .stop)) (.alt 5 (.first 6 (.alt 0 (.alt 3 (.alt 7 (.alt 8 (.first 9 (.alt 10 .done .stop)) .stop) .stop) (.alt 7 (.alt 3 (.alt 8 (.first 9 (.alt 10 .done .stop)) .stop) .stop) .stop)) (.alt 7 (.alt 0 (.alt 3 (.alt 8 (.first 9 (.alt 10 .done .stop)) .stop) .stop) .stop) .stop))) .stop)) (.alt 5 (.first 6 (.alt 0 (.alt 2 (.alt 3 (.alt 7 (.alt 8 (.first 9 (.alt 10 .done .stop)) .stop) .stop) (.alt 7 (.alt 3 (.alt 8 (.first 9 (.alt 10 .done .stop)) .stop) .stop) .stop)) (.alt 7 (.alt 2 (.alt 3 (.alt 8 (.first 9 (.alt 10 .done .stop)) .stop) .stop) .stop) .stop)) (.alt 2 (.alt 0 (.alt 3 (.alt 7 (.alt 8 (.first 9 (.alt 10 .done .stop)) .stop) .stop) (.alt 7 (.alt 3 (.alt 8 (.first 9 (.alt 10 .done .stop)) .stop) .stop) .stop)) (.alt 7 (.alt 0 (.alt 3 (.alt 8 (.first 9 (.alt 10 .done .stop)) .stop) .stop) .stop) .stop)) (.alt 7 (.alt 0 (.alt 2 (.alt 3 (.alt 8 (.first 9 (.alt 10 .done .stop)) .stop) .stop) .stop) (.alt 2 (.alt 0 (.alt 3 (.alt 8 (.first 9 (.alt 10 .done .stop)) .stop) .stop) .stop) .stop)) .stop)))) .stop))))) (by kernel_rfl) (by kernel_rfl) ?_)
      ((conv=>whnf);repeat' ((first|(intro hq;(try simp only [lnS]at hq);(try rewrite [List.length_map]))|refine sJ ?_|refine .intro _ (.intro rfl ?_)|refine exL (k:= ?_)|(refine And.intro (by simp only [List.length_replicate,List.length_drop,List.length_take,List.length_map,List.length_append,List.length_cons,List.length_nil];omega) ?_)|exact trivial|(refine And.intro ?_ ?_)|refine dwR ?_|((first|refine aC ?_ ?_|refine aD ?_ ?_)<;>intro hb<;>(first|exact ddX hb|try simp only [lnS]at hb))|(refine aB ?_ ?_<;>intro hb<;>try exact dsX hb))<;>(conv=>whnf)))
      all_goals exact⟨_,⟨by repeat' (first|exact trivial|exact rfl|refine And.intro ?_ ?_),by repeat' (first|exact trivial|exact rfl|refine And.intro ?_ ?_)⟩,rfl⟩
     ·rintro rows rfl
      ((conv=>whnf);repeat ((first|(intro hq;try simp only [lnS]at hq)|refine sI ?_|refine .intro _ (.intro rfl ?_));(conv=>whnf)))
      refine⟨_, .refl _, ?_⟩
      show _=SV.tup [.d (.agg [.str l.reader, .int .i64 l.version, .sl 2 ((l.entries++[Ent.mk ((l.entries.length:Int)+1) (dP p)]).map bA)]), .d (.int .i64 ((l.entries.length:Int)+1)), .d (.int .i64 0)]
      rw [hfin]
      rfl
   ·have hrow:(l.entries.map bA)[((k:Nat):Int).toNat]? =some (bA l.entries[k]):=aO hk
    rw [show bA l.entries[k]=[.int .i64 l.entries[k].no, .sl 6 (l.entries[k].part.map atR)]from rfl]at hrow
    rw [e2]at hE
    dsimp only at hE
    rw [e1,hE]
    rw [decide_eq_true (by omega)]
    ((conv=>whnf);repeat ((first|(intro hq;try simp only [lnS]at hq)|refine sI ?_|refine .intro _ (.intro rfl ?_));(conv=>whnf)))
    (refine aX (id:=10) hty (.first 1 (.first 3 (.alt 0 (.alt 2 (.first 4 (.first 5 (.alt 6 (.alt 7 (.first 8 (.first 9 .done)) .stop) (.alt 7 (.alt 6 (.first 8 (.first 9 .done)) .stop) .stop)))) (.alt 7 (.alt 2 (.first 4 (.first 5 (.alt 6 (.first 8 (.first 9 .done)) .stop))) .stop) .stop)) (.alt 2 (.first 4 (.first 5 (.alt 0 (.alt 6 (.alt 7 (.first 8 (.first 9 .done)) .stop) (.alt 7 (.alt 6 (.first 8 (.first 9 .done)) .stop) .stop)) (.alt 6 (.alt 0 (.alt 7 (.first 8 (.first 9 .done)) .stop) .stop) .stop)))) .stop)))) (by kernel_rfl) (by kernel_rfl) ?_)
    ((conv=>whnf);repeat' ((first|exact trivial|refine aA0 ?_ ?_|(refine⟨_,hrow, ?_⟩)|refine eqN rfl ?_|refine leN rfl ?_|refine ltN rfl ?_|refine sJ ?_|(refine Exists.intro _ (And.intro rfl ?_)))<;>(conv=>whnf)))
    all_goals exact⟨_, .refl _,rfl⟩
  ·rw [if_pos h]at hE
   rw [hE]
   ((conv=>whnf);repeat ((first|(refine aA [] c0 trivial (λr hs=> ?_);subst hs)|(refine aA [] ca trivial (λr hs=> ?_);subst hs)|(refine aA [] cb trivial (λr hs=> ?_);subst hs)|(intro hq;try simp only [lnS]at hq)|refine sI ?_|refine .intro _ (.intro rfl ?_));(conv=>whnf)))
   rw [decide_eq_false h]
   ((conv=>whnf);repeat ((first|(intro hq;try simp only [lnS]at hq)|refine sI ?_|refine .intro _ (.intro rfl ?_));(conv=>whnf)))
   exact⟨_,bW.first3 (bW.wkd (by repeat' (first|exact trivial|exact rfl|exact cN _|refine And.intro ?_ ?_))),rfl⟩
 ·rw [if_pos hg]at hE
  rw [hE]
  ((conv=>whnf);repeat ((first|(refine aA [] c0 trivial (λr hs=> ?_);subst hs)|(intro hq;try simp only [lnS]at hq)|refine sI ?_|refine .intro _ (.intro rfl ?_));(conv=>whnf)))
  rw [decide_eq_false hg]
  ((conv=>whnf);repeat ((first|(intro hq;try simp only [lnS]at hq)|refine sI ?_|refine .intro _ (.intro rfl ?_));(conv=>whnf)))
  exact⟨_,bW.first3 (bW.wkd (by repeat' (first|exact trivial|exact rfl|exact cN _|refine And.intro ?_ ?_))),rfl⟩
end Go.Proofs.YtdjfkmkdkclahaaGreatDoor
namespace Go.Proofs.YtdjfkmkdkclahaaGreatDoor
open Go.Proofs
def aAh (ps:List (List At)):Lg:=ps.foldl (λl p=>if (aA1 l p).2.2=0 then (aA1 l p).1 else l) (aDj [97,110,110] 3).1
theorem aLt (ps:List (List At)) (p:List At):aAh (ps++[p])=if (aA1 (aAh ps) p).2.2=0 then (aA1 (aAh ps) p).1 else aAh ps:=by
 unfold aAh
 rw [List.foldl_append]
 rfl
theorem aQ5 (l:Lg) (p:List At):(aA1 l p).1.entries.length<=l.entries.length+1:=by
 unfold aA1
 split
 ·simp [lg0]
 ·split
  ·simp [lg0]
  ·split
   ·dsimp only;omega
   ·split
    ·simp [lg0]
    ·simp
theorem aP9 (ps:List (List At)):(aAh ps).entries.length<=ps.length:=by
 have h0:(aDj [97,110,110] 3).1.entries.length=0:=by
  unfold aDj
  split<;>rfl
 have h: ∀(ps:List (List At)) (l:Lg),(ps.foldl (λl p=>if (aA1 l p).2.2=0 then (aA1 l p).1 else l) l).entries.length<=l.entries.length+ps.length:=by
  intro ps
  induction ps with
  |nil=>intro l;exact Nat.le_refl _
  |cons p r ih=>
   intro l
   rw [List.foldl_cons]
   refine Nat.le_trans (ih _) ?_
   have:=aQ5 l p
   rw [List.length_cons]
   split<;>omega
 have:=h ps (aDj [97,110,110] 3).1
 unfold aAh
 omega
end Go.Proofs.YtdjfkmkdkclahaaGreatDoor
namespace Go.Proofs.YtdjfkmkdkclahaaGreatDoor
open Go.Proofs Go.RowKit
set_option maxRecDepth 10000
attribute [local irreducible] aL aH Tri aI YVC bP aS
def aGt (l:List (List At)):Bool:=l.all (λp=>decide (p.length<=6)) && decide ((l.length:Int)<=8)
theorem rV (l:List (List At)):Tri Tryz.prog 28 [.d (.sl 1 (l.map aK))] [] (λr=>r= .d (.bool (aGt l))):=by
 have hl:(l.map aK).length=l.length:=List.length_map ..
 refine aG false [4] hty Tryz.func28 rfl (kp [0,2,4,5,6,7,8,14]) [] _ _ _ (by simp [Tryz.f28]) (by simp) ?_
 ((conv=>whnf);repeat ((first|(intro hq;try simp only [lnS]at hq)|refine sI ?_|refine .intro _ (.intro rfl ?_));(conv=>whnf)))
 refine aJ hty (λj:Nat=>([(0, .d (.sl 1 (l.map aK))),(5, .d (.sl 1 (l.map aK))),(6, .d (.int .i64 l.length)),(7, .d (.int .i64 j))],[])) (λj=>j<=l.length/\ ∀p∈l.take j,p.length<=6) (λj=>l.length - j) 0 ⟨Nat.zero_le _,λp hp=>by simp at hp⟩ ⟨by repeat' (first|exact trivial|exact rfl|(rw [List.length_map];exact rfl)|refine And.intro ?_ ?_),trivial⟩ ?_
 rintro j ⟨hj,hn⟩
 ((conv=>whnf);repeat ((first|(intro hq;try simp only [lnS]at hq)|refine sI ?_|refine .intro _ (.intro rfl ?_));(conv=>whnf)))
 refine aC (λh1=> ?_) (λh1=> ?_)
 ·have hjl:j < l.length:=by omega
  have hrow:(l.map aK)[((j:Nat):Int).toNat]? =some (aK l[j]):=aO hjl
  have hpl:(l[j].map atR).length=l[j].length:=List.length_map ..
  have hm:l[j]∈l:=List.getElem_mem hjl
  have hts:l.take (j+1)=l.take j++[l[j]]:=List.take_succ_eq_append_getElem hjl
  rw [show aK l[j]=[.sl 6 (l[j].map atR)]from rfl]at hrow
  ((conv=>whnf);repeat' ((first|(intro hq;(try simp only [lnS]at hq);(try rewrite [List.length_map]))|refine sJ ?_|refine .intro _ (.intro rfl ?_)|refine exL (k:= ?_)|(refine⟨_,hrow, ?_⟩)|refine dwR ?_|((first|refine aC ?_ ?_|refine aD ?_ ?_)<;>intro hb<;>(first|exact ddX hb|try simp only [lnS]at hb))|(refine aB ?_ ?_<;>intro hb<;>try exact dsX hb))<;>(conv=>whnf)))
  ·refine aN ?_
   unfold aGt
   cases h:l.all (λp=>decide (p.length<=6))
   ·rfl
   ·have h2:=List.all_eq_true.1 h _ hm
    simp only [decide_eq_true_eq]at h2
    omega
  ·refine⟨j+1,⟨by omega,λp hp=> ?_⟩,by dsimp only;omega,by repeat' (first|exact trivial|exact rfl|refine And.intro ?_ ?_),trivial⟩
   rw [hts,List.mem_append,List.mem_singleton]at hp
   rcases hp with hp|rfl
   ·exact hn p hp
   ·omega
 ·have hjl:j=l.length:=by omega
  subst hjl
  rw [List.take_length]at hn
  ((conv=>whnf);repeat ((first|(intro hq;try simp only [lnS]at hq)|refine sI ?_|refine .intro _ (.intro rfl ?_));(conv=>whnf)))
  rw [hl]
  refine aN ?_
  unfold aGt
  rw [List.all_eq_true.2 λp hp=>by simpa using hn p hp,Bool.true_and]
end Go.Proofs.YtdjfkmkdkclahaaGreatDoor
namespace Go.Proofs.YtdjfkmkdkclahaaGreatDoor
open Go.Proofs Go.RowKit
set_option maxRecDepth 10000
attribute [local irreducible] aL aH Tri aI YVC bP aS
theorem mS (ps:List (List At)):Tri Tryz.prog 33 [.d (.sl 1 (ps.map aK))] [] (λr=>r= .d (.agg (lgR (aAh ps)))):=by
 have hl:(ps.map aK).length=ps.length:=List.length_map ..
 have hn:=aEg [97,110,110] 3
 have hl0:aAh (ps.take 0)=(aDj [97,110,110] 3).1:=rfl
 generalize aDj [97,110,110] 3=n0 at *
 obtain⟨m,e⟩:=n0
 dsimp only at hn hl0
 refine Tri.says ?_
 refine aG false [6,7] hty Tryz.func33 rfl (kp [0,2,3,6,7,9,14,15,16,17,28]) [] _ _ _ (by simp [Tryz.f33]) (by simp) ?_
 rw [show lgR m=[.str m.reader, .int .i64 m.version, .sl 2 (m.entries.map bA)]from rfl]at hn
 ((conv=>whnf);repeat ((first|(refine aA [] hn trivial (λr hs=> ?_);subst hs)|(intro hq;try simp only [lnS]at hq)|refine sI ?_|refine .intro _ (.intro rfl ?_));(conv=>whnf)))
 refine aJ hty (λj:Nat=>([(2, .ptr 2 0),(3, .ptr 3 0),(14, .d (.sl 1 (ps.map aK))),(15, .d (.int .i64 ps.length)),(16, .d (.int .i64 j))],[(3, .cells 24 [.d (.str (aAh (ps.take j)).reader), .d (.int .i64 (aAh (ps.take j)).version), .d (.sl 2 ((aAh (ps.take j)).entries.map bA))]),(2, .cells 24 [.d (.str []), .d (.int .i64 0), .d .nil])])) (λj=>j<=ps.length) (λj=>ps.length - j) 0 (Nat.zero_le _) ⟨by rw [hl0];repeat' (first|exact trivial|exact rfl|(rw [hl];exact rfl)|refine And.intro ?_ ?_),by rw [hl0];repeat' (first|exact trivial|exact rfl|refine And.intro ?_ ?_)⟩ ?_
 intro j hj
 ((conv=>whnf);repeat ((first|(intro hq;try simp only [lnS]at hq)|refine sI ?_|refine .intro _ (.intro rfl ?_));(conv=>whnf)))
 refine aC (λh1=> ?_) (λh1=> ?_)
 ·have hjl:j < ps.length:=by omega
  have hrow:(ps.map aK)[((j:Nat):Int).toNat]? =some (aK ps[j]):=aO hjl
  have hst:aAh (ps.take (j+1))=if (aA1 (aAh (ps.take j)) ps[j]).2.2=0 then (aA1 (aAh (ps.take j)) ps[j]).1 else aAh (ps.take j):=by rw [List.take_succ_eq_append_getElem hjl,aLt]
  have ha:=xK (aAh (ps.take j)) ps[j]
  generalize aAh (ps.take j)=l at *
  generalize aA1 l ps[j]=y at *
  obtain⟨x,no,er⟩:=y
  dsimp only at ha hst
  rw [show aK ps[j]=[.sl 6 (ps[j].map atR)]from rfl]at hrow ha
  rw [show lgR l=[.str l.reader, .int .i64 l.version, .sl 2 (l.entries.map bA)]from rfl,show lgR x=[.str x.reader, .int .i64 x.version, .sl 2 (x.entries.map bA)]from rfl]at ha
  ((conv=>whnf);repeat ((first|(refine⟨_,hrow, ?_⟩)|(refine aA [] ha trivial (λr hs=> ?_);subst hs)|(intro hq;try simp only [lnS]at hq)|refine sI ?_|refine .intro _ (.intro rfl ?_));(conv=>whnf)))
  by_cases he:er=0
  ·rw [if_pos he]at hst
   rw [decide_eq_true he]
   ((conv=>whnf);repeat ((first|(intro hq;try simp only [lnS]at hq)|refine sI ?_|refine .intro _ (.intro rfl ?_));(conv=>whnf)))
   refine⟨j+1,by dsimp only;omega,by dsimp only;omega, ?_⟩
   dsimp only
   rw [hst]
   exact⟨by repeat' (first|exact trivial|exact rfl|refine And.intro ?_ ?_),by repeat' (first|exact trivial|exact rfl|refine And.intro ?_ ?_)⟩
  ·rw [if_neg he]at hst
   rw [decide_eq_false he]
   ((conv=>whnf);repeat ((first|(intro hq;try simp only [lnS]at hq)|refine sI ?_|refine .intro _ (.intro rfl ?_));(conv=>whnf)))
   refine⟨j+1,by dsimp only;omega,by dsimp only;omega, ?_⟩
   dsimp only
   rw [hst]
   exact⟨by repeat' (first|exact trivial|exact rfl|refine And.intro ?_ ?_),by repeat' (first|exact trivial|exact rfl|refine And.intro ?_ ?_)⟩
 ·have hjl:j=ps.length:=by omega
  subst hjl
  rw [List.take_length]
  ((conv=>whnf);repeat ((first|(intro hq;try simp only [lnS]at hq)|refine sI ?_|refine .intro _ (.intro rfl ?_));(conv=>whnf)))
  exact⟨_, .refl _,rfl⟩
end Go.Proofs.YtdjfkmkdkclahaaGreatDoor
namespace Go.Proofs.YtdjfkmkdkclahaaGreatDoor
open Go.Proofs Go.RowKit
set_option maxRecDepth 10000
attribute [local irreducible] aL aH Tri aI YVC bP aS
theorem aIl (a:Int): ∃m:Nat,bits .and .i64 a 1023=(m:Int)/\m<=1023:=by
 have h:(BitVec.ofInt 64 a &&& BitVec.ofInt 64 1023).toNat<=1023:=by
  rw [BitVec.toNat_and]
  exact Nat.and_le_right
 refine⟨(BitVec.ofInt 64 a &&& BitVec.ofInt 64 1023).toNat, ?_,h⟩
 show IntKind.i64.wrap ((BitVec.ofInt 64 a &&& BitVec.ofInt 64 1023).toNat:Int)=_
 rw [aIq _ (by omega)]
 unfold sgN
 rw [if_pos (by omega)]
def aAv (l:Lg) (k:Nat):Lg:=⟨l.reader,l.version,l.entries.take k⟩
theorem aPo (l:Lg) (k:Nat):mU (aAv l k) l=true:=by
 refine eD.2 ⟨rfl,rfl, ?_⟩
 unfold aAv
 dsimp only
 rw [List.length_take,List.take_eq_take_iff]
 omega
theorem aId (l:Lg) {i k:Nat}(h:i<=k):mU (aAv l i) (aAv l k)=true:=by
 refine eD.2 ⟨rfl,rfl, ?_⟩
 unfold aAv
 dsimp only
 rw [List.take_take,List.length_take,List.take_eq_take_iff]
 omega
theorem aEz (a b:Lg):Tri Tryz.prog 30 [.d (.agg [.str a.reader, .int .i64 a.version, .sl 2 (a.entries.map bA)]), .d (.agg [.str b.reader, .int .i64 b.version, .sl 2 (b.entries.map bA)])] [] (λr=>r= .d (.bool (mU a b))):=uP a b
theorem aWf (a b:Lg):Tri Tryz.prog 14 [.d (.agg [.str a.reader, .int .i64 a.version, .sl 2 (a.entries.map bA)]), .d (.agg [.str b.reader, .int .i64 b.version, .sl 2 (b.entries.map bA)])] [] (λr=>r= .d (.bool (aE8 a b))):=lM a b
theorem aGi (a b:List (List At)) (c0 c1:Int):Tri Tryz.prog 9 [.d (.sl 1 (a.map aK)), .d (.sl 1 (b.map aK)), .d (.agg [.int .i64 c0, .int .i64 c1])] [] (λr=>r= .d (.bool true)):=by
 have f1:=rV a
 have f2:=rV b
 have g1:=mS a
 have g2:=mS b
 have hx8:aGt a=true->(aAh a).entries.length<=8:= λh=>by
  have h1:=aP9 a
  unfold aGt at h
  simp only [Bool.and_eq_true,decide_eq_true_eq]at h
  omega
 generalize aAh a=x at *
 generalize aAh b=y at *
 generalize aGt a=b1 at *
 generalize aGt b=b2 at *
 rw [show lgR x=[.str x.reader, .int .i64 x.version, .sl 2 (x.entries.map bA)]from rfl]at g1
 rw [show lgR y=[.str y.reader, .int .i64 y.version, .sl 2 (y.entries.map bA)]from rfl]at g2
 have hxl:(x.entries.map bA).length=x.entries.length:=List.length_map ..
 obtain⟨m0,hm0,hm1⟩:=aIl c0
 obtain⟨n0,hn0,hn1⟩:=aIl c1
 refine aG false [5,13,15,17] hty Tryz.func9 rfl (kp [0,1,2,5,6,7,8,9,10,11,13,15,17,19,27,63,64,65,66,72,73,74,75,76,92,93,94,95,96,112]) [] _ _ _ (by simp [Tryz.f9]) (by simp) ?_
 ((conv=>whnf);repeat ((first|(refine aA [] iM trivial (λr hs=> ?_);subst hs)|(refine aA [] f1 trivial (λr hs=> ?_);subst hs)|(refine aA [] f2 trivial (λr hs=> ?_);subst hs)|(intro hq;try simp only [lnS]at hq)|refine sI ?_|refine .intro _ (.intro rfl ?_));(conv=>whnf)))
 cases b1
 ·((conv=>whnf);repeat ((first|(intro hq;try simp only [lnS]at hq)|refine sI ?_|refine .intro _ (.intro rfl ?_));(conv=>whnf)))
  rfl
 have hx8:=hx8 rfl
 ((conv=>whnf);repeat ((first|(refine aA [] f2 trivial (λr hs=> ?_);subst hs)|(intro hq;try simp only [lnS]at hq)|refine sI ?_|refine .intro _ (.intro rfl ?_));(conv=>whnf)))
 cases b2
 ·((conv=>whnf);repeat ((first|(intro hq;try simp only [lnS]at hq)|refine sI ?_|refine .intro _ (.intro rfl ?_));(conv=>whnf)))
  rfl
 ((conv=>whnf);repeat ((first|(refine aA [] g1 trivial (λr hs=> ?_);subst hs)|(refine aA [] g2 trivial (λr hs=> ?_);subst hs)|(intro hq;try simp only [lnS]at hq)|refine sI ?_|refine .intro _ (.intro rfl ?_));(conv=>whnf)))
 refine aL.mid [(5, .ea 2 [[.int .i64 c0, .int .i64 c1]] 0 0),(7, .ptr 7 0),(8, .ptr 8 0),(9, .ptr 9 0),(10, .ptr 10 0)] [(7, .cells 24 [.d (.str x.reader), .d (.int .i64 x.version), .d (.sl 2 (x.entries.map bA))]),(8, .cells 24 [.d (.str y.reader), .d (.int .i64 y.version), .d (.sl 2 (y.entries.map bA))]),(9, .cells 24 [.d (.str x.reader), .d (.int .i64 x.version), .d (.sl 2 (x.entries.map bA))]),(10, .cells 24 [.d (.str x.reader), .d (.int .i64 x.version), .d (.sl 2 (x.entries.map bA))])] ?_ ?_
 ·(refine aX (id:=6) hty (.alt 0 (.alt 1 (.alt 2 (.alt 3 (.alt 4 (.alt 5 .done .stop) .stop) .stop) (.alt 3 (.alt 2 (.alt 4 (.alt 5 .done .stop) .stop) .stop) .stop)) (.alt 2 (.alt 1 (.alt 3 (.alt 4 (.alt 5 .done .stop) .stop) .stop) (.alt 3 (.alt 1 (.alt 4 (.alt 5 .done .stop) .stop) (.alt 4 (.alt 1 (.alt 5 .done .stop) .stop) .stop)) .stop)) (.alt 3 (.alt 1 (.alt 2 (.alt 4 (.alt 5 .done .stop) .stop) .stop) (.alt 2 (.alt 1 (.alt 4 (.alt 5 .done .stop) .stop) (.alt 4 (.alt 1 (.alt 5 .done .stop) .stop) .stop)) .stop)) .stop))) (.alt 1 (.alt 0 (.alt 2 (.alt 3 (.alt 4 (.alt 5 .done .stop) .stop) .stop) (.alt 3 (.alt 2 (.alt 4 (.alt 5 .done .stop) .stop) .stop) .stop)) (.alt 2 (.alt 0 (.alt 3 (.alt 4 (.alt 5 .done .stop) .stop) .stop) (.alt 3 (.alt 0 (.alt 4 (.alt 5 .done .stop) .stop) .stop) .stop)) (.alt 3 (.alt 0 (.alt 2 (.alt 4 (.alt 5 .done .stop) .stop) .stop) (.alt 2 (.alt 0 (.alt 4 (.alt 5 .done .stop) .stop) .stop) .stop)) .stop))) (.alt 2 (.alt 0 (.alt 1 (.alt 3 (.alt 4 (.alt 5 .done .stop) .stop) .stop) (.alt 3 (.alt 1 (.alt 4 (.alt 5 .done .stop) .stop) (.alt 4 (.alt 1 (.alt 5 .done .stop) .stop) .stop)) .stop)) (.alt 1 (.alt 0 (.alt 3 (.alt 4 (.alt 5 .done .stop) .stop) .stop) (.alt 3 (.alt 0 (.alt 4 (.alt 5 .done .stop) .stop) .stop) .stop)) (.alt 3 (.alt 0 (.alt 1 (.alt 4 (.alt 5 .done .stop) .stop) (.alt 4 (.alt 1 (.alt 5 .done .stop) .stop) .stop)) (.alt 1 (.alt 0 (.alt 4 (.alt 5 .done .stop) .stop) .stop) .stop)) .stop))) (.alt 3 (.alt 0 (.alt 1 (.alt 2 (.alt 4 (.alt 5 .done .stop) .stop) .stop) (.alt 2 (.alt 1 (.alt 4 (.alt 5 .done .stop) .stop) (.alt 4 (.alt 1 (.alt 5 .done .stop) .stop) .stop)) .stop)) (.alt 1 (.alt 0 (.alt 2 (.alt 4 (.alt 5 .done .stop) .stop) .stop) (.alt 2 (.alt 0 (.alt 4 (.alt 5 .done .stop) .stop) .stop) .stop)) (.alt 2 (.alt 0 (.alt 1 (.alt 4 (.alt 5 .done .stop) .stop) (.alt 4 (.alt 1 (.alt 5 .done .stop) .stop) .stop)) (.alt 1 (.alt 0 (.alt 4 (.alt 5 .done .stop) .stop) .stop) .stop)) .stop))) .stop)))) (by kernel_rfl) (by kernel_rfl) ?_)
  ((conv=>whnf);repeat' ((first|(intro hq;(try simp only [lnS]at hq);(try rewrite [List.length_map]))|refine sJ ?_|refine .intro _ (.intro rfl ?_)|refine exL (k:= ?_)|exact trivial|(refine And.intro ?_ ?_)|refine dwR ?_|((first|refine aC ?_ ?_|refine aD ?_ ?_)<;>intro hb<;>(first|exact ddX hb|try simp only [lnS]at hb))|(refine aB ?_ ?_<;>intro hb<;>try exact dsX hb))<;>(conv=>whnf)))
  all_goals exact⟨by repeat' (first|exact trivial|exact rfl|refine And.intro ?_ ?_),by repeat' (first|exact trivial|exact rfl|refine And.intro ?_ ?_)⟩
 ((conv=>whnf);repeat ((first|(intro hq;try simp only [lnS]at hq)|refine sI ?_|refine .intro _ (.intro rfl ?_));(conv=>whnf)))
 refine wC hty 12 (by kernel_rfl) (by kernel_rfl) ?_
 have ht: ∀m:Nat,((m:Int)).tmod (((x.entries.map bA).length:Int)+1)=((m % (x.entries.length+1):Nat):Int):= λm=>by
  rw [hxl,show ((x.entries.length:Nat):Int)+1=((x.entries.length+1:Nat):Int)from rfl,Int.tmod_eq_emod_of_nonneg (Int.natCast_nonneg m),Int.natCast_emod]
 have ht1:=ht m0
 have ht2:=ht n0
 have hk1:m0 % (x.entries.length+1)<=x.entries.length:=Nat.le_of_lt_succ (Nat.mod_lt _ (by omega))
 have hk2:n0 % (x.entries.length+1)<=x.entries.length:=Nat.le_of_lt_succ (Nat.mod_lt _ (by omega))
 clear ht hm1 hn1
 ((conv=>whnf);repeat ((first|(refine And.intro (by rw [hxl];omega) ?_)|(intro hq;try simp only [lnS]at hq)|refine sI ?_|refine .intro _ (.intro rfl ?_));(conv=>whnf)))
 rw [hm0,ht1]
 generalize m0 % (x.entries.length+1)=k1 at *
 generalize n0 % (x.entries.length+1)=k2 at *
 have hz: ∀k:Nat,List.drop 0 (List.take ((k:Nat):Int).toNat (x.entries.map bA))=(x.entries.take k).map bA:= λk=>by rw [List.drop_zero,Int.toNat_natCast,List.map_take]
 ((conv=>whnf);repeat ((first|(intro hq;try simp only [lnS]at hq)|refine sI ?_|refine .intro _ (.intro rfl ?_));(conv=>whnf)))
 refine wC hty 12 (by kernel_rfl) (by kernel_rfl) ?_
 ((conv=>whnf);repeat ((first|(refine And.intro (by rw [hxl];omega) ?_)|(intro hq;try simp only [lnS]at hq)|refine sI ?_|refine .intro _ (.intro rfl ?_));(conv=>whnf)))
 rw [hn0,ht2]
 ((conv=>whnf);repeat ((first|(intro hq;try simp only [lnS]at hq)|refine sI ?_|refine .intro _ (.intro rfl ?_));(conv=>whnf)))
 rw [hz,hz]
 obtain⟨L,hL⟩: ∃L:List Lg,L=[x,y,aAv x k1,aAv x k2]:=⟨_,rfl⟩
 have hL4:L.length=4:=by rw [hL];rfl
 have hLm:L.map lgR=[[.str x.reader, .int .i64 x.version, .sl 2 (x.entries.map bA)],[.str y.reader, .int .i64 y.version, .sl 2 (y.entries.map bA)],[.str x.reader, .int .i64 x.version, .sl 2 ((x.entries.take k1).map bA)],[.str x.reader, .int .i64 x.version, .sl 2 ((x.entries.take k2).map bA)]]:=by rw [hL];rfl
 refine aJ hty (λj:Nat=>([(7, .ptr 7 0),(9, .ptr 9 0),(10, .ptr 10 0),(11, .d (.sl 3 (L.map lgR))),(63, .d (.sl 3 (L.map lgR))),(64, .d (.int .i64 4)),(65, .d (.int .i64 j))],[(7, .cells 24 [.d (.str x.reader), .d (.int .i64 x.version), .d (.sl 2 (x.entries.map bA))]),(9, .cells 24 [.d (.str x.reader), .d (.int .i64 x.version), .d (.sl 2 ((x.entries.take k1).map bA))]),(10, .cells 24 [.d (.str x.reader), .d (.int .i64 x.version), .d (.sl 2 ((x.entries.take k2).map bA))])])) (λj=>j<=4) (λj=>4 - j) 0 (Nat.zero_le _) ⟨by rw [hLm];repeat' (first|exact trivial|exact rfl|refine And.intro ?_ ?_),by repeat' (first|exact trivial|exact rfl|refine And.intro ?_ ?_)⟩ ?_
 intro j hj
 ((conv=>whnf);repeat ((first|(intro hq;try simp only [lnS]at hq)|refine sI ?_|refine .intro _ (.intro rfl ?_));(conv=>whnf)))
 refine aC (λh1=> ?_) (λh1=> ?_)
 ·have hjl:j < L.length:=by omega
  have hrow:(L.map lgR)[((j:Nat):Int).toNat]? =some (lgR L[j]):=aO hjl
  have c1:=aEz L[j] L[j]
  rw [aFl]at c1
  generalize L[j]=p at *
  rw [show lgR p=[.str p.reader, .int .i64 p.version, .sl 2 (p.entries.map bA)]from rfl]at hrow
  ((conv=>whnf);repeat ((first|(refine⟨_,hrow, ?_⟩)|(refine aA [] c1 trivial (λr hs=> ?_);subst hs)|(intro hq;try simp only [lnS]at hq)|refine sI ?_|refine .intro _ (.intro rfl ?_));(conv=>whnf)))
  refine aJ hty (λi:Nat=>([(7, .ptr 7 0),(9, .ptr 9 0),(10, .ptr 10 0),(11, .d (.sl 3 (L.map lgR))),(63, .d (.sl 3 (L.map lgR))),(64, .d (.int .i64 4)),(65, .d (.int .i64 j)),(13, .ea 3 [[.str p.reader, .int .i64 p.version, .sl 2 (p.entries.map bA)]] 0 0),(73, .d (.sl 3 (L.map lgR))),(74, .d (.int .i64 4)),(75, .d (.int .i64 i))],[(7, .cells 24 [.d (.str x.reader), .d (.int .i64 x.version), .d (.sl 2 (x.entries.map bA))]),(9, .cells 24 [.d (.str x.reader), .d (.int .i64 x.version), .d (.sl 2 ((x.entries.take k1).map bA))]),(10, .cells 24 [.d (.str x.reader), .d (.int .i64 x.version), .d (.sl 2 ((x.entries.take k2).map bA))])])) (λi=>i<=4) (λi=>4 - i) 0 (Nat.zero_le _) ⟨by repeat' (first|exact trivial|exact rfl|(rw [List.length_map,hL4];exact rfl)|refine And.intro ?_ ?_),by repeat' (first|exact trivial|exact rfl|refine And.intro ?_ ?_)⟩ ?_
  intro i hi
  ((conv=>whnf);repeat ((first|(intro hq;try simp only [lnS]at hq)|refine sI ?_|refine .intro _ (.intro rfl ?_));(conv=>whnf)))
  refine aC (λh2=> ?_) (λh2=> ?_)
  ·have hil:i < L.length:=by omega
   have hrow2:(L.map lgR)[((i:Nat):Int).toNat]? =some (lgR L[i]):=aO hil
   have d1:=aEz p L[i]
   have d2:=aEz L[i] p
   have d3:=aWf p L[i]
   have hanti:mU p L[i]=true->mU L[i] p=true->aE8 p L[i]=true:= λa b=>wW.2 (aN3 a b)
   have htr:= λr=> @aJu p L[i] r
   have e1:= λr=>aEz L[i] r
   generalize L[i]=q at *
   rw [show lgR q=[.str q.reader, .int .i64 q.version, .sl 2 (q.entries.map bA)]from rfl]at hrow2
   generalize mU p q=b1 at *
   generalize mU q p=b2 at *
   generalize aE8 p q=b3 at *
   have h3:(b1=false)\/(b1=true/\b2=false)\/(b1=true/\b2=true/\b3=true):=by
    cases b1
    ·exact .inl rfl
    ·cases b2
     ·exact .inr (.inl ⟨rfl,rfl⟩)
     ·exact .inr (.inr ⟨rfl,rfl,hanti rfl rfl⟩)
   clear hanti
   rcases h3 with rfl|⟨rfl,rfl⟩|⟨rfl,rfl,rfl⟩
   all_goals
    ((conv=>whnf);repeat ((first|(refine⟨_,hrow2, ?_⟩)|(refine aA [] d1 trivial (λr hs=> ?_);subst hs)|(refine aA [] d2 trivial (λr hs=> ?_);subst hs)|(refine aA [] d3 trivial (λr hs=> ?_);subst hs)|(intro hq;try simp only [lnS]at hq)|refine sI ?_|refine .intro _ (.intro rfl ?_));(conv=>whnf)))
    refine aJ hty (λk:Nat=>([(7, .ptr 7 0),(9, .ptr 9 0),(10, .ptr 10 0),(11, .d (.sl 3 (L.map lgR))),(63, .d (.sl 3 (L.map lgR))),(64, .d (.int .i64 4)),(65, .d (.int .i64 j)),(13, .ea 3 [[.str p.reader, .int .i64 p.version, .sl 2 (p.entries.map bA)]] 0 0),(73, .d (.sl 3 (L.map lgR))),(74, .d (.int .i64 4)),(75, .d (.int .i64 i)),(15, .ea 3 [[.str q.reader, .int .i64 q.version, .sl 2 (q.entries.map bA)]] 0 0),(93, .d (.sl 3 (L.map lgR))),(94, .d (.int .i64 4)),(95, .d (.int .i64 k))],[(7, .cells 24 [.d (.str x.reader), .d (.int .i64 x.version), .d (.sl 2 (x.entries.map bA))]),(9, .cells 24 [.d (.str x.reader), .d (.int .i64 x.version), .d (.sl 2 ((x.entries.take k1).map bA))]),(10, .cells 24 [.d (.str x.reader), .d (.int .i64 x.version), .d (.sl 2 ((x.entries.take k2).map bA))])])) (λk=>k<=4) (λk=>4 - k) 0 (Nat.zero_le _) ⟨by repeat' (first|exact trivial|exact rfl|(rw [List.length_map,hL4];exact rfl)|refine And.intro ?_ ?_),by repeat' (first|exact trivial|exact rfl|refine And.intro ?_ ?_)⟩ ?_
    intro k hk
    ((conv=>whnf);repeat ((first|(intro hq;try simp only [lnS]at hq)|refine sI ?_|refine .intro _ (.intro rfl ?_));(conv=>whnf)))
    refine aC (λh3=> ?_) (λh3=> ?_)
    ·have hkl:k < L.length:=by omega
     have hrow3:(L.map lgR)[((k:Nat):Int).toNat]? =some (lgR L[k]):=aO hkl
     have e1:=e1 L[k]
     have e2:=aEz p L[k]
     have htr:=htr L[k]
     generalize L[k]=r at *
     rw [show lgR r=[.str r.reader, .int .i64 r.version, .sl 2 (r.entries.map bA)]from rfl]at hrow3
     generalize mU q r=b4 at *
     generalize mU p r=b5 at *
     cases b4<;>cases b5
     all_goals
      ((conv=>whnf);repeat ((first|(refine⟨_,hrow3, ?_⟩)|(refine aA [] d1 trivial (λr hs=> ?_);subst hs)|(refine aA [] e1 trivial (λr hs=> ?_);subst hs)|(refine aA [] e2 trivial (λr hs=> ?_);subst hs)|(intro hq;try simp only [lnS]at hq)|refine sI ?_|refine .intro _ (.intro rfl ?_));(conv=>whnf)))
     all_goals first|exact⟨k+1,by dsimp only;omega,by dsimp only;omega,⟨by repeat' (first|exact trivial|exact rfl|refine And.intro ?_ ?_),by repeat' (first|exact trivial|exact rfl|refine And.intro ?_ ?_)⟩⟩|(exact absurd (htr rfl rfl) (by decide))
    ·have hk4:k=4:=by omega
     subst hk4
     ((conv=>whnf);repeat ((first|(intro hq;try simp only [lnS]at hq)|refine sI ?_|refine .intro _ (.intro rfl ?_));(conv=>whnf)))
     exact⟨i+1,by dsimp only;omega,by dsimp only;omega,⟨by repeat' (first|exact trivial|exact rfl|refine And.intro ?_ ?_),by repeat' (first|exact trivial|exact rfl|refine And.intro ?_ ?_)⟩⟩
  ·have hi4:i=4:=by omega
   subst hi4
   ((conv=>whnf);repeat ((first|(intro hq;try simp only [lnS]at hq)|refine sI ?_|refine .intro _ (.intro rfl ?_));(conv=>whnf)))
   exact⟨j+1,by dsimp only;omega,by dsimp only;omega,⟨by repeat' (first|exact trivial|exact rfl|refine And.intro ?_ ?_),by repeat' (first|exact trivial|exact rfl|refine And.intro ?_ ?_)⟩⟩
 ·have hj4:j=4:=by omega
  subst hj4
  have f1:=aEz (aAv x k1) x
  have f2:=aEz (aAv x k1) (aAv x k2)
  have f3:=aEz (aAv x k2) (aAv x k1)
  rw [aPo]at f1
  have f4:mU (aAv x k1) (aAv x k2)=true\/mU (aAv x k2) (aAv x k1)=true:=by
   rcases Nat.le_total k1 k2 with h|h
   ·exact .inl (aId x h)
   ·exact .inr (aId x h)
  generalize mU (aAv x k1) (aAv x k2)=b1 at *
  generalize mU (aAv x k2) (aAv x k1)=b2 at *
  unfold aAv at f1 f2 f3
  dsimp only at f1 f2 f3
  cases b1<;>cases b2
  all_goals
   ((conv=>whnf);repeat ((first|(refine aA [] f1 trivial (λr hs=> ?_);subst hs)|(refine aA [] f2 trivial (λr hs=> ?_);subst hs)|(refine aA [] f3 trivial (λr hs=> ?_);subst hs)|(intro hq;try simp only [lnS]at hq)|refine sI ?_|refine .intro _ (.intro rfl ?_));(conv=>whnf)))
  all_goals first|rfl|(simp at f4;done)
end Go.Proofs.YtdjfkmkdkclahaaGreatDoor
