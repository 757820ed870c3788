/-
  Ledgers: Before, Check. Ledgers: Add, Find. Ledgers, the reference: equal parts; Before, Same, New, Left. Ledgers: the source of bytes: take and number. The contract of a function with several boxed results, whose deferred closure recovers, asks what was thrown and writes the results. Ledgers: the source reads a part; Decode. Sums of ints that may wrap: a walk that knows less of the type int takes them by rules of their own. A slice literal whose rows may be written.
  Conditions: none.
-/
import Derived.Test.YtdjfkmkdkclahaaGreatDoorWSzf
import Derived.Test.YtdjfkmkdkclahaaGreatDoorWOh
import Derived.Test.YtdjfkmkdkclahaaGreatDoorWSza
import Derived.Test.YtdjfkmkdkclahaaGreatDoorWSw
import Derived.Test.YtdjfkmkdkclahaaGreatDoorWTcy
import Derived.Test.YtdjfkmkdkclahaaGreatDoorWSyv
import Derived.Test.YtdjfkmkdkclahaaGreatDoorWQqg
import Derived.Test.YtdjfkmkdkclahaaGreatDoorWA7
set_option linter.unnecessarySimpa false
set_option linter.unusedSectionVars false
set_option linter.unusedSimpArgs false
set_option linter.unusedVariables false
set_option maxHeartbeats 16000000
namespace Go.Proofs.YtdjfkmkdkclahaaGreatDoor
section
open Go.Proofs Go.RowKit
set_option maxRecDepth 10000
attribute [local irreducible] aH aF Tri aD YVC bO aP
theorem yH (a b:Lg):Tri Tryz.prog 30 [.d (.agg (lgR a)), .d (.agg (lgR b))] [] (λr=>r= .d (.bool (aCc a b))):=by
 have hi:= @oJ a b
 have hla:(a.entries.map bM).length=a.entries.length:=List.length_map ..
 have hlb:(b.entries.map bM).length=b.entries.length:=List.length_map ..
 have hc:=zZ a.entries (b.entries.take a.entries.length)
 show Tri Tryz.prog 30 [.d (.agg [.str a.reader, .int .i64 a.version, .sl 2 (a.entries.map bM)]), .d (.agg [.str b.reader, .int .i64 b.version, .sl 2 (b.entries.map bM)])] [] _
 refine qG [2,3] hty Tryz.func30 [0,1,2,3,4,25] ?_
 have hsl:List.drop 0 (List.take ((a.entries.length:Nat):Int).toNat (b.entries.map bM))=(b.entries.take a.entries.length).map bM:=by rw [List.drop_zero,Int.toNat_natCast,List.map_take]
 ((conv=>whnf);repeat' ((first|(intro hq;(try simp only [lnS]at hq);(try rewrite [List.length_map]))|refine sJ ?_|refine qE_ ?_|refine exL (k:=?_)|refine dwR ?_|((first|refine aB ?_ ?_|refine aC ?_ ?_)<;>intro hb<;>(first|exact ddX hb|try simp only [lnS]at hb))|(refine aA ?_ ?_<;>intro hb<;>try exact dsX hb))<;>(conv=>whnf)))
 ·refine aJ ?_
  cases h:aCc a b
  ·rfl
  ·exact absurd (hi.1 h).1 hb
 ·refine aJ ?_
  cases h:aCc a b
  ·rfl
  ·exact absurd (hi.1 h).2.1 hb
 ·refine aJ ?_
  cases h:aCc a b
  ·rfl
  ·have:=aEi (hi.1 h).2.2
   omega
 ·rw [hsl]
  ((conv=>whnf);repeat ((first|(refine⟨.d (.bool _),_,[],rfl,trivial,hc, ?_⟩) |(intro hq;try simp only [lnS]at hq)|refine sI ?_|refine qE_ ?_);conv=>whnf))
  refine aJ ?_
  rw [Bool.eq_iff_iff,hi,decide_eq_true_eq]
  exact⟨λh=>⟨by assumption,by assumption,h⟩,λh=>h.2.2⟩
theorem aAf (l:Lg):Tri Tryz.prog 15 [.d (.agg (lgR l))] [] (λr=>r= .d (.int .i64 (lgE l))):=by
 have hl:(l.entries.map bM).length=l.entries.length:=List.length_map ..
 have h1:=iZ l.reader
 have h2:=hG l.version
 show Tri Tryz.prog 15 [.d (.agg [.str l.reader, .int .i64 l.version, .sl 2 (l.entries.map bM)])] [] _
 refine qG [1,4,5] hty Tryz.func15 [0,1,2,3,4,5,6,16,20,22,23,24,25,33,41,57] ?_
 generalize hb1:rdF l.reader=b1 at *
 generalize hb2:wG l.version=b2 at *
 have hE:lgE l=if b1=false\/b2=false then 1 else if 1024 < l.entries.length then 2 else rN [] l.entries:=by
  unfold lgE
  rw [hb1,hb2]
 rw [hE]
 by_cases hb:b1=false\/b2=false
 ·rw [if_pos hb]
  cases b1<;>cases b2
  all_goals
   ((conv=>whnf);repeat' ((first|(intro hq;(try simp only [lnS]at hq);(try rewrite [List.length_map]))|refine sJ ?_|refine qE_ ?_|refine exL (k:=?_)| refine qT h1 ?_|refine qT h2 ?_|refine dwR ?_|((first|refine aB ?_ ?_|refine aC ?_ ?_)<;>intro hb<;>(first|exact ddX hb|try simp only [lnS]at hb))|(refine aA ?_ ?_<;>intro hb<;>try exact dsX hb))<;>(conv=>whnf)))
  all_goals first|rfl|(simp at hb;done)
 ·rw [if_neg hb]
  obtain rfl:b1=true:=by cases b1<;>simp_all
  obtain rfl:b2=true:=by cases b2<;>simp_all
  ((conv=>whnf);repeat ((first|refine qT h1 ?_|refine qT h2 ?_ |(intro hq;try simp only [lnS]at hq)|refine sI ?_|refine qE_ ?_);conv=>whnf))
  rw [hl]
  refine aB (λh3=> ?_) (λh3=> ?_)
  ·rw [if_pos (by omega)]
   ((conv=>whnf);repeat ((first |(intro hq;try simp only [lnS]at hq)|refine sI ?_|refine qE_ ?_);conv=>whnf))
   rfl
  rw [if_neg (by omega)]
  ((conv=>whnf);repeat ((first |(intro hq;try simp only [lnS]at hq)|refine sI ?_|refine qE_ ?_);conv=>whnf))
  refine aG hty (λj:Nat=>([(1, .ea 3 [[.str l.reader, .int .i64 l.version, .sl 2 (l.entries.map bM)]] 0 0),(22, .d (.sl 2 (l.entries.map bM))),(23, .d (.int .i64 l.entries.length)),(24, .d (.int .i64 j))],[])) (λj=>j<=l.entries.length/\rN [] l.entries=rN (l.entries.take j) (l.entries.drop j)) (λj=>l.entries.length - j) 0 ⟨Nat.zero_le _,rfl⟩ ⟨by repeat' (first|exact trivial|exact rfl|(rw [List.length_map];exact rfl)|refine And.intro ?_ ?_),trivial⟩ ?_
  rintro j ⟨hj,hn⟩
  ((conv=>whnf);repeat ((first |(intro hq;try simp only [lnS]at hq)|refine sI ?_|refine qE_ ?_);conv=>whnf))
  refine aB (λh4=> ?_) (λh4=> ?_)
  ·have hjl:j < l.entries.length:=by omega
   have hrow:(l.entries.map bM)[((j:Nat):Int).toNat]? =some (bM l.entries[j]):=aK hjl
   have htl:(l.entries.take j).length=j:=by rw [List.length_take];omega
   have hts:l.entries.take (j+1)=l.entries.take j++[l.entries[j]]:=List.take_succ_eq_append_getElem hjl
   rw [List.drop_eq_getElem_cons hjl,rN,htl,<-hts]at hn
   have c1:=gG l.entries[j].part
   have c2:=gY (dU l.entries[j].part) l.entries[j].part
   have c3:=mH (l.entries.take j) l.entries[j].part
   have c4:= @aIx (l.entries.take j) l.entries[j].part
   have hsl:List.drop 0 (List.take ((j:Nat):Int).toNat (l.entries.map bM))=(l.entries.take j).map bM:=by rw [List.drop_zero,Int.toNat_natCast,List.map_take]
   generalize aAq (l.entries.take j) l.entries[j].part=fx at *
   have hee:aMl (l.entries.take j) j l.entries[j]=if l.entries[j].no≠(j:Int)+1 then 380 else if ptE l.entries[j].part≠0 then ptE l.entries[j].part else if dU l.entries[j].part=l.entries[j].part/\l.entries[j].part∉(l.entries.take j).map Ent.part then 0 else 380:=rfl
   generalize aMl (l.entries.take j) j l.entries[j]=ee at *
   rw [hn]
   generalize l.entries[j]=x at *
   obtain⟨no,q⟩:=x
   rw [show bM ⟨no,q⟩=[.int .i64 no, .sl 6 (q.map atR)]from rfl]at hrow
   dsimp only at c1 c2 c3 c4 hee
   ((conv=>whnf);repeat ((first|(refine⟨_,hrow, ?_⟩) |(intro hq;try simp only [lnS]at hq)|refine sI ?_|refine qE_ ?_);conv=>whnf))
   refine aC (λh5=> ?_) (λh5=> ?_)
   ·rw [if_pos h5]at hee
    subst hee
    rw [if_pos (by decide)]
    ((conv=>whnf);repeat ((first |(intro hq;try simp only [lnS]at hq)|refine sI ?_|refine qE_ ?_);conv=>whnf))
    rfl
   have h5:no=(j:Int)+1:=by simpa using h5
   rw [if_neg (by simpa using h5)]at hee
   generalize ptE q=e at *
   by_cases h6:e=0
   ·subst h6
    rw [if_pos rfl]at c1
    rw [if_neg (by decide)]at hee
    rw [show aI (dU q)=[.sl 6 ((dU q).map atR)]from rfl]at c1 c2
    rw [show aI q=[.sl 6 (q.map atR)]from rfl]at c1 c2 c3
    ((conv=>whnf);repeat ((first|refine qT c1 ?_ |(intro hq;try simp only [lnS]at hq)|refine sI ?_|refine qE_ ?_);conv=>whnf))
    refine dwR ?_
    ((conv=>whnf);repeat ((first|(refine⟨.d (.bool _),_,[],rfl,trivial,c2, ?_⟩) |(intro hq;try simp only [lnS]at hq)|refine sI ?_|refine qE_ ?_);conv=>whnf))
    by_cases h7:dU q=q
    ·rw [decide_eq_true h7]
     ((conv=>whnf);repeat ((first |(intro hq;try simp only [lnS]at hq)|refine sI ?_|refine qE_ ?_);conv=>whnf))
     rw [hsl]
     ((conv=>whnf);repeat ((first|(refine⟨.d (.int .i64 _),_,[],rfl,trivial,c3, ?_⟩) |(intro hq;try simp only [lnS]at hq)|refine sI ?_|refine qE_ ?_);conv=>whnf))
     refine aB (λh8=> ?_) (λh8=> ?_)
     ·rw [if_neg (λh=>h.2 (c4.1 h8))]at hee
      subst hee
      rw [if_pos (by decide)]
      ((conv=>whnf);repeat ((first |(intro hq;try simp only [lnS]at hq)|refine sI ?_|refine qE_ ?_);conv=>whnf))
      rfl
     ·rw [if_pos ⟨h7,λh=>h8 (c4.2 h)⟩]at hee
      subst hee
      rw [if_neg (by decide)]at hn |-
      ((conv=>whnf);repeat ((first |(intro hq;try simp only [lnS]at hq)|refine sI ?_|refine qE_ ?_);conv=>whnf))
      exact⟨j+1,⟨by omega,rfl⟩,qO,qB,trivial⟩
    ·rw [decide_eq_false h7]
     rw [if_neg (λh=>h7 h.1)]at hee
     subst hee
     rw [if_pos (by decide)]
     ((conv=>whnf);repeat ((first |(intro hq;try simp only [lnS]at hq)|refine sI ?_|refine qE_ ?_);conv=>whnf))
     rfl
   ·rw [if_neg h6]at c1
    rw [if_pos h6]at hee
    subst hee
    rw [if_pos h6]
    rw [show aI q=[.sl 6 (q.map atR)]from rfl,show aI []=[.sl 6 []]from rfl]at c1
    ((conv=>whnf);repeat ((first|refine qT c1 ?_ |(intro hq;try simp only [lnS]at hq)|refine sI ?_|refine qE_ ?_);conv=>whnf))
    rw [decide_eq_false h6]
    ((conv=>whnf);repeat ((first |(intro hq;try simp only [lnS]at hq)|refine sI ?_|refine qE_ ?_);conv=>whnf))
    rfl
  ·have hjl:j=l.entries.length:=by omega
   subst hjl
   rw [List.drop_length,rN]at hn
   rw [hn]
   ((conv=>whnf);repeat ((first |(intro hq;try simp only [lnS]at hq)|refine sI ?_|refine qE_ ?_);conv=>whnf))
   rfl
end
section
open Go.Proofs Go.RowKit
set_option maxRecDepth 10000
attribute [local irreducible] aH aF Tri aD YVC bO aP
theorem aDh (l:Lg) (p:List At):Tri Tryz.prog 21 [.d (.agg (lgR l)), .d (.agg (aI p))] [] (λr=>r= .tup [.d (.int .i64 (aIy l p).1), .d (.bool (aIy l p).2)]):=by
 have c1:=gG p
 have c2:=mH l.entries (dU p)
 have c3:=aG8 l.entries (dU p)
 show Tri Tryz.prog 21 [.d (.agg [.str l.reader, .int .i64 l.version, .sl 2 (l.entries.map bM)]), .d (.agg [.sl 6 (p.map atR)])] [] _
 rw [show aI p=[.sl 6 (p.map atR)]from rfl]at c1
 rw [show aI (dU p)=[.sl 6 ((dU p).map atR)]from rfl]at c2
 unfold aIy
 refine qG [2,3,6] hty Tryz.func21 [0,1,2,3,4,5,6,7,8,15,21] ?_
 generalize ptE p=e at *
 by_cases h:e=0
 ·subst h
  rw [if_pos rfl,show aI (dU p)=[.sl 6 ((dU p).map atR)]from rfl]at c1
  rw [if_neg (by decide)]
  ((conv=>whnf);repeat ((first|refine qT c1 ?_|refine qT c2 ?_ |(intro hq;try simp only [lnS]at hq)|refine sI ?_|refine qE_ ?_);conv=>whnf))
  rcases c3 with⟨e1,e2⟩|⟨k,hk,e1,e2⟩
  ·rw [e1,e2]
   ((conv=>whnf);repeat ((first |(intro hq;try simp only [lnS]at hq)|refine sI ?_|refine qE_ ?_);conv=>whnf))
   rfl
  ·have hrow:(l.entries.map bM)[((k:Nat):Int).toNat]? =some (bM l.entries[k]):=aK hk
   rw [e1,e2]
   rw [show bM l.entries[k]=[.int .i64 l.entries[k].no, .sl 6 (l.entries[k].part.map atR)]from rfl]at hrow
   rw [decide_eq_false (by omega)]
   ((conv=>whnf);repeat ((first|(refine⟨_,hrow, ?_⟩) |(intro hq;try simp only [lnS]at hq)|refine sI ?_|refine qE_ ?_);conv=>whnf))
   rfl
 ·rw [if_neg h,show aI []=[.sl 6 []]from rfl]at c1
  rw [if_pos h]
  ((conv=>whnf);repeat ((first|refine qT c1 ?_ |(intro hq;try simp only [lnS]at hq)|refine sI ?_|refine qE_ ?_);conv=>whnf))
  rw [decide_eq_false h]
  ((conv=>whnf);repeat ((first |(intro hq;try simp only [lnS]at hq)|refine sI ?_|refine qE_ ?_);conv=>whnf))
  rfl
theorem cE.first3 {a a' b c:SV}(h:cE a a'):cE (.tup [a,b,c]) (.tup [a',b,c]):=cE.tup rfl λj x y hx hy=>by
 match j,hx,hy with
 | 0,hx,hy=>simp at hx hy;subst hx;subst hy;exact h
 | 1,hx,hy=>simp at hx hy;subst hx;subst hy;exact .refl _
 | 2,hx,hy=>simp at hx hy;subst hx;subst hy;exact .refl _
 |j+3,hx,_=>simp at hx
theorem aH2 (l:Lg) (p:List At):mN l p=if lgE l≠0 then (lg0,0,lgE l)else if ptE p≠0 then (lg0,0,ptE p)else
 match aK5 l.entries (dU p)with
 |some no=>(l,no,0)
 |none=>if 1024<=l.entries.length then (lg0,0,380)else (⟨l.reader,l.version,l.entries++[⟨(l.entries.length:Int)+1,dU p⟩]⟩,(l.entries.length:Int)+1,0):=rfl
theorem lI (l:Lg) (p:List At):Tri Tryz.prog 19 [.d (.agg (lgR l)), .d (.agg (aI p))] [] (λr=>r= .tup [.d (.agg (lgR (mN l p).1)), .d (.int .i64 (mN l p).2.1), .d (.int .i64 (mN l p).2.2)]):=by
 have c0:=aAf l
 have c1:=gG p
 have c2:=mH l.entries (dU p)
 have c3:=aG8 l.entries (dU p)
 have hl:(l.entries.map bM).length=l.entries.length:=List.length_map ..
 have hE:=aH2 l p
 rw [show lgR l=[.str l.reader, .int .i64 l.version, .sl 2 (l.entries.map bM)]from rfl]at c0 |-
 rw [show aI p=[.sl 6 (p.map atR)]from rfl]at c1 |-
 rw [show aI (dU p)=[.sl 6 ((dU p).map atR)]from rfl]at c2
 refine Tri.says ?_
 refine qG [2,3,8] hty Tryz.func19 [0,1,2,3,4,5,6,7,8,9,13,22,30,41] ?_
 generalize hge:lgE l=g at *
 by_cases hg:g=0
 ·subst hg
  rw [if_neg (by decide)]at hE
  generalize ptE p=e at *
  by_cases h:e=0
  ·subst h
   rw [if_pos rfl,show aI (dU p)=[.sl 6 ((dU p).map atR)]from rfl]at c1
   rw [if_neg (by decide)]at hE
   ((conv=>whnf);repeat ((first|refine qT c0 ?_|refine qT c1 ?_|refine qT c2 ?_ |(intro hq;try simp only [lnS]at hq)|refine sI ?_|refine qE_ ?_);conv=>whnf))
   rcases c3 with⟨e1,e2⟩|⟨k,hk,e1,e2⟩
   ·rw [e1]at hE
    dsimp only at hE
    rw [e2]
    ((conv=>whnf);repeat ((first |(intro hq;try simp only [lnS]at hq)|refine sI ?_|refine qE_ ?_);conv=>whnf))
    rw [hl]
    refine aB (λh3=> ?_) (λh3=> ?_)
    ·rw [if_pos (by omega)]at hE
     rw [hE]
     ((conv=>whnf);repeat ((first |(intro hq;try simp only [lnS]at hq)|refine sI ?_|refine qE_ ?_);conv=>whnf))
     exact⟨_,cE.first3 (cE.wkd (by repeat' (first|exact trivial|exact rfl|exact cD _|refine And.intro ?_ ?_))),rfl⟩
    ·rw [if_neg (by omega)]at hE
     rw [hE]
     have hn:(l.entries.length:Int)+1<=1024:=by omega
     ((conv=>whnf);repeat ((first |(intro hq;try simp only [lnS]at hq)|refine sI ?_|refine qE_ ?_);conv=>whnf))
     (refine bI (id:=13) hty (.first 0 (.first 1 (.first 2 (.first 3 (.first 4 (.alt 5 (.first 6 (.alt 7 .done .stop)) .stop)))))) (by kernel_rfl) (by kernel_rfl) ?_)
     ((conv=>whnf);repeat' ((first|exact trivial|refine uJ ?_ ?_|intro cap' hcap'|refine eqN rfl ?_|refine leN rfl ?_|refine ltN rfl ?_|refine sJ ?_|(refine Exists.intro _ (And.intro rfl ?_)))<;>(conv=>whnf)))
     all_goals
      refine⟨(List.length_append ..).symm, ?_, ?_,λcp2 hcp2=> ?_⟩
      ·rw [List.length_append,hl]
       show 0+l.entries.length+1<=_
       omega
      ·rw [List.length_append,hl]
       show (0+l.entries.length+1)* 32<=_
       omega
      ((conv=>whnf);repeat ((first |(intro hq;try simp only [lnS]at hq)|refine sI ?_|refine qE_ ?_);conv=>whnf))
      refine⟨(List.length_append ..).symm, ?_⟩
      have hfin:(l.entries++[Ent.mk ((l.entries.length:Int)+1) (dU p)]).map bM=l.entries.map bM++[[.int .i64 ((l.entries.map bM).length+1), .sl 6 ((dU p).map atR)]]:=by rw [List.map_append,hl];rfl
      refine⟨rfl,_, .refl _, ?_⟩
      show _=SV.tup [.d (.agg [.str l.reader, .int .i64 l.version, .sl 2 ((l.entries++[Ent.mk ((l.entries.length:Int)+1) (dU p)]).map bM)]), .d (.int .i64 ((l.entries.length:Int)+1)), .d (.int .i64 0)]
      rw [hfin,hl]
      rfl
   ·have hrow:(l.entries.map bM)[((k:Nat):Int).toNat]? =some (bM l.entries[k]):=aK hk
    rw [show bM l.entries[k]=[.int .i64 l.entries[k].no, .sl 6 (l.entries[k].part.map atR)]from rfl]at hrow
    rw [e2]at hE
    dsimp only at hE
    rw [e1,hE]
    rw [decide_eq_true (by omega)]
    ((conv=>whnf);repeat ((first |(intro hq;try simp only [lnS]at hq)|refine sI ?_|refine qE_ ?_);conv=>whnf))
    (refine bI (id:=9) hty (.first 0 (.first 1 (.first 2 (.first 3 (.first 4 (.first 5 (.first 6 (.alt 7 (.first 8 (.first 9 .done)) .stop)))))))) (by kernel_rfl) (by kernel_rfl) ?_)
    ((conv=>whnf);repeat' ((first|exact trivial|refine uJ ?_ ?_|(refine⟨_,hrow, ?_⟩)|refine eqN rfl ?_|refine leN rfl ?_|refine ltN rfl ?_|refine sJ ?_|(refine Exists.intro _ (And.intro rfl ?_)))<;>(conv=>whnf)))
    all_goals exact⟨_, .refl _,rfl⟩
  ·rw [if_neg h,show aI []=[.sl 6 []]from rfl]at c1
   rw [if_pos h]at hE
   rw [hE]
   ((conv=>whnf);repeat ((first|refine qT c0 ?_|refine qT c1 ?_ |(intro hq;try simp only [lnS]at hq)|refine sI ?_|refine qE_ ?_);conv=>whnf))
   rw [decide_eq_false h]
   ((conv=>whnf);repeat ((first |(intro hq;try simp only [lnS]at hq)|refine sI ?_|refine qE_ ?_);conv=>whnf))
   exact⟨_,cE.first3 (cE.wkd (by repeat' (first|exact trivial|exact rfl|exact cD _|refine And.intro ?_ ?_))),rfl⟩
 ·rw [if_pos hg]at hE
  rw [hE]
  ((conv=>whnf);repeat ((first|refine qT c0 ?_ |(intro hq;try simp only [lnS]at hq)|refine sI ?_|refine qE_ ?_);conv=>whnf))
  rw [decide_eq_false hg]
  ((conv=>whnf);repeat ((first |(intro hq;try simp only [lnS]at hq)|refine sI ?_|refine qE_ ?_);conv=>whnf))
  exact⟨_,cE.first3 (cE.wkd (by repeat' (first|exact trivial|exact rfl|exact cD _|refine And.intro ?_ ?_))),rfl⟩
end
section
open Go.Proofs Go.RowKit
set_option maxRecDepth 10000
attribute [local irreducible] aH aF Tri aD YVC bO aP
theorem eM (l m:List At):Tri Tryz.prog 27 [.d (.agg (aI l)), .d (.agg (aI m))] [] (λr=>r= .d (.bool (decide (l=m)))):=by
 have hl:(l.map atR).length=l.length:=List.length_map ..
 have hm:(m.map atR).length=m.length:=List.length_map ..
 rw [show aI l=[.sl 6 (l.map atR)]from rfl,show aI m=[.sl 6 (m.map atR)]from rfl]
 refine qG [2,3] hty Tryz.func27 [0,1,2,3,4,5,12,17,30] ?_
 ((conv=>whnf);repeat ((first |(intro hq;try simp only [lnS]at hq)|refine sI ?_|refine qE_ ?_);conv=>whnf))
 refine aC (λh1=> ?_) (λh1=> ?_)
 ·((conv=>whnf);repeat ((first |(intro hq;try simp only [lnS]at hq)|refine sI ?_|refine qE_ ?_);conv=>whnf))
  refine aJ ?_
  rw [decide_eq_false]
  intro e
  subst e
  exact h1 rfl
 ·have h1:l.length=m.length:=by
   have h2:(((l.map atR).length:Nat):Int)=((m.map atR).length:Nat):=by simpa using h1
   rw [hl,hm]at h2
   omega
  ((conv=>whnf);repeat ((first |(intro hq;try simp only [lnS]at hq)|refine sI ?_|refine qE_ ?_);conv=>whnf))
  refine aG hty (λj:Nat=>([(2, .ea 1 [[.sl 6 (l.map atR)]] 0 0),(3, .ea 1 [[.sl 6 (m.map atR)]] 0 0),(5, .d (.int .i64 j))],[])) (λj=>j<=l.length/\l.take j=m.take j) (λj=>l.length - j) 0 ⟨Nat.zero_le _,rfl⟩ ⟨qB,trivial⟩ ?_
  rintro j ⟨hj,ht⟩
  ((conv=>whnf);repeat ((first |(intro hq;try simp only [lnS]at hq)|refine sI ?_|refine qE_ ?_);conv=>whnf))
  rw [hl]
  refine aB (λh2=> ?_) (λh2=> ?_)
  ·have hjl:j < l.length:=by omega
   have hjm:j < m.length:=by omega
   have hrow:(l.map atR)[((j:Nat):Int).toNat]? =some (atR l[j]):=aK hjl
   have hrow2:(m.map atR)[((j:Nat):Int).toNat]? =some (atR m[j]):=aK hjm
   have hs1:l.take (j+1)=l.take j++[l[j]]:=List.take_succ_eq_append_getElem hjl
   have hs2:m.take (j+1)=m.take j++[m[j]]:=List.take_succ_eq_append_getElem hjm
   have hf:=aMk l[j] m[j]
   rw [cT]at hrow
   rw [cT]at hrow2
   ((conv=>whnf);repeat ((first |(intro hq;try simp only [lnS]at hq)|refine sI ?_|refine qE_ ?_);conv=>whnf))
   refine dwR ?_
   ((conv=>whnf);repeat ((first|(refine And.intro aMh ?_)|(refine⟨_,hrow, ?_⟩)|(refine⟨_,hrow2, ?_⟩) |(intro hq;try simp only [lnS]at hq)|refine sI ?_|refine qE_ ?_);conv=>whnf))
   rw [hf]
   unfold rM
   by_cases he:l[j]=m[j]
   ·rw [decide_eq_true he]
    ((conv=>whnf);repeat ((first |(intro hq;try simp only [lnS]at hq)|refine sI ?_|refine qE_ ?_);conv=>whnf))
    exact⟨j+1,⟨by omega,by rw [hs1,hs2,ht,he]⟩,qO,qB,trivial⟩
   ·rw [decide_eq_false he]
    ((conv=>whnf);repeat ((first |(intro hq;try simp only [lnS]at hq)|refine sI ?_|refine qE_ ?_);conv=>whnf))
    refine aJ ?_
    rw [decide_eq_false]
    intro e
    subst e
    exact he rfl
  ·have hjl:j=l.length:=by omega
   subst hjl
   rw [List.take_length,h1,List.take_length]at ht
   ((conv=>whnf);repeat ((first |(intro hq;try simp only [lnS]at hq)|refine sI ?_|refine qE_ ?_);conv=>whnf))
   refine aJ ?_
   rw [decide_eq_true ht]
theorem xP (a b:Lg):Tri Tryz.prog 38 [.d (.agg (lgR a)), .d (.agg (lgR b))] [] (λr=>r= .d (.bool (aCc a b))):=by
 have hi:= @oJ a b
 have hla:(a.entries.map bM).length=a.entries.length:=List.length_map ..
 have hlb:(b.entries.map bM).length=b.entries.length:=List.length_map ..
 have hno:¬ (a.reader=b.reader/\a.version=b.version/\a.entries=b.entries.take a.entries.length)->aCc a b=false:= λh=>by
  cases h2:aCc a b
  ·rfl
  ·exact absurd (hi.1 h2) h
 rw [show lgR a=[.str a.reader, .int .i64 a.version, .sl 2 (a.entries.map bM)]from rfl,show lgR b=[.str b.reader, .int .i64 b.version, .sl 2 (b.entries.map bM)]from rfl]
 refine qG [2,3] hty Tryz.func38 [0,1,2,3,4,5,26,31,62] ?_
 ((conv=>whnf);repeat' ((first|(intro hq;(try simp only [lnS]at hq);(try rewrite [List.length_map]))|refine sJ ?_|refine qE_ ?_|refine exL (k:=?_)|refine dwR ?_|((first|refine aB ?_ ?_|refine aC ?_ ?_)<;>intro hb<;>(first|exact ddX hb|try simp only [lnS]at hb))|(refine aA ?_ ?_<;>intro hb<;>try exact dsX hb))<;>(conv=>whnf)))
 ·exact aJ (hno λh=>hb h.1).symm
 ·exact aJ (hno λh=>hb h.2.1).symm
 ·exact aJ (hno λh=>by have:=aEi h.2.2;omega).symm
 ·have e1:a.reader=b.reader:=by assumption
  have e2:a.version=b.version:=by assumption
  have hlen:a.entries.length<=b.entries.length:=by omega
  refine aG hty (λj:Nat=>([(2, .ea 3 [[.str a.reader, .int .i64 a.version, .sl 2 (a.entries.map bM)]] 0 0),(3, .ea 3 [[.str b.reader, .int .i64 b.version, .sl 2 (b.entries.map bM)]] 0 0),(5, .d (.int .i64 j))],[])) (λj=>j<=a.entries.length/\a.entries.take j=b.entries.take j) (λj=>a.entries.length - j) 0 ⟨Nat.zero_le _,rfl⟩ ⟨qB,trivial⟩ ?_
  rintro j ⟨hj,ht⟩
  ((conv=>whnf);repeat ((first |(intro hq;try simp only [lnS]at hq)|refine sI ?_|refine qE_ ?_);conv=>whnf))
  rw [hla]
  refine aB (λh2=> ?_) (λh2=> ?_)
  ·have hjl:j < a.entries.length:=by omega
   have hjm:j < b.entries.length:=by omega
   have hrow:(a.entries.map bM)[((j:Nat):Int).toNat]? =some (bM a.entries[j]):=aK hjl
   have hrow2:(b.entries.map bM)[((j:Nat):Int).toNat]? =some (bM b.entries[j]):=aK hjm
   have hs1:a.entries.take (j+1)=a.entries.take j++[a.entries[j]]:=List.take_succ_eq_append_getElem hjl
   have hs2:b.entries.take (j+1)=b.entries.take j++[b.entries[j]]:=List.take_succ_eq_append_getElem hjm
   have hc:=eM a.entries[j].part b.entries[j].part
   have he:= @aK6 a.entries[j] b.entries[j]
   have hne : a.entries[j] ≠ b.entries[j] -> aCc a b = false := λhn => hno λh => hn (by
    have h3:=congrArg (λl=>l[j]?) h.2.2
    simp only [List.getElem?_take,if_pos hjl,List.getElem?_eq_getElem hjl,List.getElem?_eq_getElem hjm]at h3
    injection h3)
   rw [show bM a.entries[j]=[.int .i64 a.entries[j].no, .sl 6 (a.entries[j].part.map atR)]from rfl]at hrow
   rw [show bM b.entries[j]=[.int .i64 b.entries[j].no, .sl 6 (b.entries[j].part.map atR)]from rfl]at hrow2
   rw [show aI a.entries[j].part=[.sl 6 (a.entries[j].part.map atR)]from rfl,show aI b.entries[j].part=[.sl 6 (b.entries[j].part.map atR)]from rfl]at hc
   ((conv=>whnf);repeat ((first |(intro hq;try simp only [lnS]at hq)|refine sI ?_|refine qE_ ?_);conv=>whnf))
   refine dwR ?_
   ((conv=>whnf);repeat ((first|(refine⟨_,hrow, ?_⟩)|(refine⟨_,hrow2, ?_⟩) |(intro hq;try simp only [lnS]at hq)|refine sI ?_|refine qE_ ?_);conv=>whnf))
   by_cases h3:a.entries[j].no=b.entries[j].no
   ·rw [decide_eq_true h3]
    ((conv=>whnf);repeat ((first|(refine⟨_,hrow, ?_⟩)|(refine⟨_,hrow2, ?_⟩)|(refine⟨.d (.bool _),_,[],rfl,trivial,hc, ?_⟩) |(intro hq;try simp only [lnS]at hq)|refine sI ?_|refine qE_ ?_);conv=>whnf))
    by_cases h4:a.entries[j].part=b.entries[j].part
    ·rw [decide_eq_true h4]
     ((conv=>whnf);repeat ((first |(intro hq;try simp only [lnS]at hq)|refine sI ?_|refine qE_ ?_);conv=>whnf))
     exact⟨j+1,⟨by omega,by rw [hs1,hs2,ht,he.2 ⟨h3,h4⟩]⟩,qO,qB,trivial⟩
    ·rw [decide_eq_false h4]
     ((conv=>whnf);repeat ((first |(intro hq;try simp only [lnS]at hq)|refine sI ?_|refine qE_ ?_);conv=>whnf))
     exact aJ (hne λh=>h4 (he.1 h).2).symm
   ·rw [decide_eq_false h3]
    ((conv=>whnf);repeat ((first |(intro hq;try simp only [lnS]at hq)|refine sI ?_|refine qE_ ?_);conv=>whnf))
    exact aJ (hne λh=>h3 (he.1 h).1).symm
  ·have hjl:j=a.entries.length:=by omega
   subst hjl
   rw [List.take_length]at ht
   ((conv=>whnf);repeat ((first |(intro hq;try simp only [lnS]at hq)|refine sI ?_|refine qE_ ?_);conv=>whnf))
   exact aJ (hi.2 ⟨e1,e2,ht⟩).symm
def aEv (a b:Lg):Bool:=decide ((a.entries.length:Int)=b.entries.length) && aCc a b
theorem aEu {a b:Lg}:aEv a b=true↔a=b:=by
 unfold aEv
 rw [Bool.and_eq_true,decide_eq_true_eq]
 constructor
 ·rintro⟨h1,h2⟩
  obtain⟨e1,e2,e3⟩:=oJ.1 h2
  cases a;cases b
  dsimp only at *
  have h1:List.length _=List.length _:=Int.ofNat.inj h1
  rw [h1,List.take_length]at e3
  subst e1 e2 e3
  rfl
 ·rintro rfl
  exact⟨rfl,aGu a⟩
theorem tS (a b:Lg):Tri Tryz.prog 14 [.d (.agg (lgR a)), .d (.agg (lgR b))] [] (λr=>r= .d (.bool (aEv a b))):=by
 have hc:=xP a b
 have hla:(a.entries.map bM).length=a.entries.length:=List.length_map ..
 have hlb:(b.entries.map bM).length=b.entries.length:=List.length_map ..
 rw [show lgR a=[.str a.reader, .int .i64 a.version, .sl 2 (a.entries.map bM)]from rfl,show lgR b=[.str b.reader, .int .i64 b.version, .sl 2 (b.entries.map bM)]from rfl]at hc |-
 unfold aEv
 generalize aCc a b=bb at *
 refine qG [2,3] hty Tryz.func14 [0,1,2,3,4] ?_
 ((conv=>whnf);repeat' ((first|(intro hq;(try simp only [lnS]at hq);(try rewrite [List.length_map]))|refine sJ ?_|refine qE_ ?_|refine exL (k:=?_)| refine qT hc ?_|refine dwR ?_|((first|refine aB ?_ ?_|refine aC ?_ ?_)<;>intro hb<;>(first|exact ddX hb|try simp only [lnS]at hb))|(refine aA ?_ ?_<;>intro hb<;>try exact dsX hb))<;>(conv=>whnf)))
 ·refine aJ ?_
  rw [decide_eq_true (by omega),Bool.true_and]
 ·refine aJ ?_
  rw [decide_eq_false (by omega),Bool.false_and]
end
section
open Go.Proofs Go.RowKit
set_option maxRecDepth 10000
theorem eP {P:Program}{ti:TypeId->Option TI}(hti:cG P ti) {o:Oper}{t:TypeId}{x:Operand}(ho:o.op= .makeInterface t x) {Ts:TI}(hT:ti t=some Ts) {fs:List (TypeId×Nat)}(htd:Ts.td= .struct fs) {pin:Pin}{fr:Fr}{hp:Hp}{K:SV->Hp->Prop}{k:IntKind}{n:Int}
  (hx:evO fr x=some (.d (.agg [.int k n]))) (hk:K (.d (.lit (.iface t (.agg #[.int k n])))) hp):aP P o pin fr hp K:=by
 intro E ρ a w _ hm hf next Q hq
 obtain⟨d0,i0,z0,hT0⟩:=aL (hti _ _ hT)
 have hni: ∀m,d0≠ .interface m:=by
  intro m e
  have:=hT0.td
  rw [htd,e]at this
  simp [wH]at this
 have e1:a.eval x= .agg #[.int k n]:=by
  have hr:=aR hf hx
  generalize a.eval x=v at hr
  cases hr with
  |d _ _ hd=>
   cases hd with
   |agg cs vs hl h=>
    match vs,hl,h with
    |⟨[v]⟩,hl,h=>
     have:=h 0 (.int k n) v rfl rfl
     cases this
     rfl
    |⟨[]⟩,hl,_=>simp at hl
    |⟨_::_::_⟩,hl,_=>simp at hl
 have hrun:(execOp a.eval o).run P w= .ok (.value (.iface t (.agg #[.int k n]))) w:=by
  simp only [execOp,ho,e1,Instr.makeInterface,Sem.run_bind,run_underlying hT0.und,Result.andThen_ok]
  cases d0<;>first|rfl|exact absurd rfl (hni _)
 exact bN hrun (hq _ w ρ _ hp hk hm hf (.d _ _ (.lit _)))
attribute [local irreducible] aH aF Tri aD YVC bO aP
abbrev srO (b:List UInt8):HObj:= .cells 85 [.d (.sl 1 (b.map bB))]
def aPm:Value:= .agg #[.int .i64 380]
abbrev pvS:Option (TypeId->Value->Prop):=some λt v=>t=81/\v=aPm
abbrev aPz (q:Prop):Pin:=⟨[3],λ_ h=>q/\ ∃b:List UInt8,aM h 3=some (srO b),[],pvS⟩
def RdS {α:Type}(f:FuncId) (ex:List SV) (r:Rd α) (e:α->SV):Prop:= ∀bs:List UInt8,bs.length<=1000000->
 aF Tryz.prog (aPz (r bs=none)) [] [(3,srO bs)] f (.ptr 3 0::ex) (λs h=> ∃x c,r bs=some (x,c)/\s=e x/\aM h 3=some (srO c))
theorem RdS.call {α:Type}{f:FuncId}{ex:List SV}{r:Rd α}{e:α->SV}(h:RdS f ex r e) (hx:SV.idsL ex=[]) (he: ∀x,(e x).ids=[]) {pin:Pin}{fr:Fr}{hp:Hp}{i:Nat}{K:SV->Hp->Prop}(bs:List UInt8) (hb:bs.length<=1000000) (hg:aM hp i=some (srO bs))
  (hok: ∀x c,r bs=some (x,c)->gB hp i (srO c) (K (e x))) (hno:r bs=none-> ∀b,pin.kp fr (dQ hp i (srO b))) (hpv:pin.pv=pvS:=by rfl):aF Tryz.prog pin fr hp f (.ptr i 0::ex) K:=by
 have hs: ∀b,(srO b).sim:= λb s hs=>by simp at hs;subst hs;exact rfl
 refine iD (λ_=>i) [3] [(3,srO bs)] (h bs hb) (aH0 hg rfl (hs bs)) (λk hk=>hk) (by rw [List.map_cons,oX hx];rfl) ?_ ?_ ?_ (.inl hpv)
 ·intro s hs
  rcases List.mem_cons.1 hs with rfl|hs
  ·trivial
  ·exact oU hx s hs
 ·rintro s h1 ⟨x,c,e1,rfl,e3⟩
  refine⟨aB9 (he x), ?_,_,aFq hg e3 (hs c) (λh=>h) rfl rfl, ?_⟩
  ·intro j hj
   rw [he]at hj
   cases hj
  rw [aBa (he x)]
  have:=hok x c e1
  rw [cM]at this
  exact this
 ·rintro h1 ⟨hq,b,e3⟩
  exact⟨_,aFq hg e3 (hs b) (λh=>h) rfl rfl,hno hq b⟩
theorem zW (m:Nat):RdS 54 [.d (.int .i64 m)] (oZ m) (λl=> .d (.sl 1 (l.map bB))):=by
 intro bs hb
 have hl:(bs.map bB).length=bs.length:=List.length_map ..
 refine aN false [] hty Tryz.func54 rfl (kp [0,1,4,5,12]) 100 (by simp [Tryz.f54]) ?_
 ((conv=>whnf);repeat' ((first|(intro hq;(try simp only [lnS]at hq);(try rewrite [List.length_map]))|refine sJ ?_|refine qE_ ?_|refine exL (k:=?_)| (refine eP hty rfl (by with_unfolding_all exact rfl) rfl rfl ?_)|refine dwR ?_|((first|refine aB ?_ ?_|refine aC ?_ ?_)<;>intro hb<;>(first|exact ddX hb|try simp only [lnS]at hb))|(refine aA ?_ ?_<;>intro hb<;>try exact dsX hb))<;>(conv=>whnf)))
 ·exact⟨⟨rfl,rfl⟩,oA (by omega),bs,rfl⟩
 ·have e1:List.drop 0 (List.take ((m:Nat):Int).toNat (bs.map bB))=(bs.take m).map bB:=by rw [Int.toNat_natCast,List.drop_zero,List.map_take]
  have e2:List.drop ((m:Nat):Int).toNat (List.take (bs.map bB).length (bs.map bB))=(bs.drop m).map bB:=by rw [Int.toNat_natCast,List.take_length,List.map_drop]
  refine⟨bs.take m,bs.drop m,jN (by omega), ?_, ?_⟩
  ·show SV.d (D.sl 1 (List.drop 0 (List.take ((m:Nat):Int).toNat (bs.map bB))))=_
   rw [e1]
  ·show some (HObj.cells 85 [SV.d (D.sl 1 (List.drop ((m:Nat):Int).toNat (List.take (bs.map bB).length (bs.map bB))))])=_
   rw [e2]
theorem oT (m:Nat) (hm:m<=8):RdS 55 [.d (.int .i64 m)] (lW (xN m) sgN) (λz=> .d (.int .i64 z)):=by
 intro bs hb
 refine aN false [] hty Tryz.func55 rfl (kp [0,1,4,5,7,10,11,12,13]) 100 (by simp [Tryz.f55]) ?_
 ((conv=>whnf);repeat ((first |(intro hq;try simp only [lnS]at hq)|refine sI ?_|refine qE_ ?_);conv=>whnf))
 refine RdS.call (zW m) rfl (λ_=>rfl) bs hb rfl (λc r e1=> ?_) (λe1 b=>⟨dR (dR e1),b,rfl⟩)
 have hle:m<=bs.length:=by
  rcases Nat.lt_or_ge bs.length m with h|h
  ·rw [oA h]at e1;cases e1
  ·exact h
 have hfin:lW (xN m) sgN bs=some (sgN (deN c),r):=cW (cW e1)
 have hlen:c.length=m:=by
  rw [jN hle]at e1
  injection e1 with e1
  injection e1 with e1 _
  rw [<-e1,List.length_take];omega
 clear e1
 ((conv=>whnf);repeat ((first |(intro hq;try simp only [lnS]at hq)|refine sI ?_|refine qE_ ?_);conv=>whnf))
 refine mG hty (λj:Nat=>([(5, .d (.int .u64 ((deN (c.take j):Nat):Int))),(10, .d (.sl 1 (c.map bB))),(11, .d (.int .i64 c.length)),(12, .d (.int .i64 j))],[(3,srO r)])) (λj=>j<=c.length) (λj=>c.length - j) 0 (by omega) (by repeat' (first|exact trivial|exact rfl|(rw [List.length_map];exact rfl)|refine And.intro ?_ ?_)) rfl ?_
 intro j hj
 ((conv=>whnf);repeat ((first |(intro hq;try simp only [lnS]at hq)|refine sI ?_|refine qE_ ?_);conv=>whnf))
 refine aB (λh1=> ?_) (λh1=> ?_)
 ·have hjl:j < c.length:=by omega
  have hrow:(c.map bB)[(j:Int).toNat]? =some (bB c[j]):=aK hjl
  have hx:deN (c.take j) < 72057594037927936:=by
   have h2:=nF j (c.take j) (by rw [List.length_take];omega)
   have h3:256 ^ j<=256 ^ 7:=Nat.pow_le_pow_right (by decide) (by omega)
   have h4:(256:Nat) ^ 7=72057594037927936:=by decide
   omega
  have hc:(c[j]).toNat < 256:=c[j].toNat_lt
  have hn:deN (c.take (j+1))=256 * deN (c.take j)+(c[j]).toNat:=by rw [List.take_succ_eq_append_getElem hjl,vZ]
  have ho:=aFa hx hc
  have hw:=wN (c[j]).toNat (by omega)
  ((conv=>whnf);repeat' ((first|(intro hq;(try simp only [lnS]at hq);(try rewrite [List.length_map]))|refine sJ ?_|refine qE_ ?_|refine exL (k:=?_)| (refine⟨_,hrow, ?_⟩)|refine dwR ?_|((first|refine aB ?_ ?_|refine aC ?_ ?_)<;>intro hb<;>(first|exact ddX hb|try simp only [lnS]at hb))|(refine aA ?_ ?_<;>intro hb<;>try exact dsX hb))<;>(conv=>whnf)))
  have ho2:bits .or .u64 (IntKind.u64.wrap (((deN (c.take j):Nat):Int)* 2 ^ (min (8:Int).toNat IntKind.u64.bits))) (IntKind.u64.wrap ((c[j]).toNat:Int))=((deN (c.take (j+1)):Nat):Int):=by rw [hw,hn];exact ho
  refine⟨j+1,qO,qO, ?_⟩
  dsimp only
  rw [<-ho2]
  exact⟨qB,rfl⟩
 ·have hjl:j=c.length:=by omega
  subst hjl
  rw [List.take_length]
  ((conv=>whnf);repeat' ((first|(intro hq;(try simp only [lnS]at hq);(try rewrite [List.length_map]))|refine sJ ?_|refine qE_ ?_|refine exL (k:=?_)|refine dwR ?_|((first|refine aB ?_ ?_|refine aC ?_ ?_)<;>intro hb<;>(first|exact ddX hb|try simp only [lnS]at hb))|(refine aA ?_ ?_<;>intro hb<;>try exact dsX hb))<;>(conv=>whnf)))
  refine⟨_,_,hfin, ?_,rfl⟩
  have h8:=nF m c hlen
  have h9:256 ^ m<=256 ^ 8:=Nat.pow_le_pow_right (by decide) hm
  have h10:(256:Nat) ^ 8=18446744073709551616:=by decide
  exact congrArg (λz=>SV.d (.int .i64 z)) (aKg _ (by omega))
end
section
open Go.RowKit
section
variable {P:Program}
theorem aM9 {ρ:Env}{bs:List Bx}{i:Nat}{b:Bx}(h:bs[i]? =some b):(bxV ρ bs)[i]? =some (aMf ((ρ.blk b.1).getD 0)):=by
 simp only [bxV,List.getElem?_toArray,List.getElem?_map,h,Option.map_some]
theorem lS {ρ:Env}{bs:List Bx}:(bxV ρ bs).size=bs.length:=by simp [bxV]
theorem aHt (zc:Bool) (frz:List Nat) {ti:TypeId->Option TI}(hti:cG P ti) (hmix:P.follows .mixedOrders=true) {f:FuncId}{fn:Func}{i j:Nat}{opsA:Array Oper}{mk df:Oper}{B:Code}
  (hf:P.funcs[f]? =some fn) (hb:fn.body=some (.seq (.region i opsA false) (.seq (.region j #[mk,df] false) B)))
  {g:FuncId} {gn:Func} {r0 r1 i2 i3 i5:Nat} {rc asv mv nq m2 ta:Oper} {a0 a b c b2 d2 e:Nat} {tI tJ tF:TypeId} {ms:Array (String×TypeId)} {oY o3:Array Oper} {o2 o5:List Oper} {Z:Code} (bs:List Bx) (T:OT)
  (hg:P.funcs[g]? =some gn) (hgb:gn.body=some (.seq (.region r0 #[rc,asv] false) (.seq (.region r1 #[mv,nq] false) (.cond (.tmp c) (.seq (.region i2 oY false) (.seq (.seq (.region i3 o3 false) (.cond (.tmp e) Z .skip)) (.region i5 o5.toArray true))) .skip))))
  (h1:rc.op= .call { callee:= .builtin .recover,args:= #[],argTypes:= #[] }) (h2:rc.dst=some a0) (h3:rc.guard=none) (g1:asv.op= .assign (.tmp a0)) (g2:asv.dst=some a) (g3:asv.guard=none) (f1:mv.op= .move (.tmp a)) (f2:mv.dst=some b) (f3:mv.guard=none)
  (h4:nq.op= .binOp .neq tI (.tmp b) (.const .nilIface) tJ) (h5:nq.dst=some c) (h6:nq.guard=none)
  (hoY:oY.toList=m2::ta::o2) (p1:m2.op= .move (.tmp a)) (p2:m2.dst=some b2) (p3:m2.guard=none) (q1:ta.op= .typeAssert (.tmp b2) tI tF true) (q2:ta.dst=some d2) (q3:ta.guard=none)
  (hI:P.underlying tI=some (.interface ms)) {dF:TypeDesc} (hF:P.underlying tF=some dF) (hF2: ∀m,dF≠ .interface m)
  (hlt:a0 < gn.ntmps/\a < gn.ntmps/\b < gn.ntmps/\c < gn.ntmps/\b2 < gn.ntmps/\d2 < gn.ntmps) (hge:bs.length<=a0/\bs.length<=a/\bs.length<=b/\bs.length<=c/\bs.length<=b2/\bs.length<=d2) (hne:a≠b/\a≠c) (hgr:gn.results= #[]) (hcall:cZ P g=true)
  {d:Nat} (m1:mk.op= .makeFunc (.func g) #[] (bs.map λb=>Operand.tmp b.1).toArray) (m2':mk.dst=some d) (m3:mk.guard=none) (d1:df.op= .defer { callee:= .value (.tmp d),args:= #[],argTypes:= #[] }) (d2':df.dst=none) (d3:df.guard=none) (hd:d < fn.ntmps) (hbn:(bs.map (·.1)).Nodup)
  (keep keepY:Nat->Bool) (pin:List Nat) (args:List SV) (hp:Hp) (post:SV->Prop) (q:Prop) (v0:Value) (x0:D) (hx0: ∀(w:World) (S:Nat->Nat->Prop),RepD w S x0 v0) (hn:args.length<=fn.ntmps) (hnd:(hp.map (·.1)).Nodup)
  (hA : mF ⟨P, ti, dL pin, fn.ntmps, keep, 0, none, zc, frz⟩ opsA.toList (λfr hp1 => (∀ b ∈ bs, dE fr b.1 = some (.ptr b.1 0)) /\
   ∀pre,X ⟨P,ti,⟨bs.map (·.1)++pin,KPn q bs,pre,some λt v=>t=tF/\v=v0⟩,fn.ntmps,keep,0,none,zc,frz⟩ B (zX fr d (.fn g [] (bs.map λb=> .ptr b.1 0))) hp1 (mE ti fn.results.toList post)) opsA.toList (dK 0 args) (roH hp))
  (hord:(decide (T.depth<=o5.length) && Region.noSelect o5.toArray && kA o5.toArray T (Array.replicate o5.length false) false && eZ o5)=true)
  (hY : q -> ∀ vs : List (List Value), aBs bs vs -> mF ⟨P, ti, dL (bs.map (·.1) ++ pin), gn.ntmps, keepY, 200, none, false, []⟩ (m2 :: ta :: o2) (λfr hp1 => mF ⟨P, ti, dL (bs.map (·.1) ++ pin), gn.ntmps, keepY, 200, none, false, []⟩ o3.toList (λfr hp1 => dE fr e = some (.d (.bool false)) /\
   dO ⟨P,ti,dL (bs.map (·.1)++pin),gn.ntmps,keepY,200,none,false,[]⟩ o5 (λ_ hp2=>eY ti (aKa bs) hp2 fn.results.toList (λl=>dP hp2 l λl=>(bY l).ids=[]/\post (bY l))) T fr hp1) o3.toList fr hp1) o2 ((d2, .tup [.d x0, .d (.bool true)])::aMm 0 bs) (wB bs (vs.map aDt))):
  Tri P f args hp post:=by
 intro w ρ vs hslt hargs hro
 refine dH (r:=none) (n:=0) |>.1 (callsIn_of_wp_marks hf hb trivial ?_)
 have hm:Mem ⟨w,ρ.S,λ_=>False,dL pin,ρ,none,[],0⟩ ρ (roH hp) w:=by
  have hat: ∀id o,aM (roH hp) id=some o->ρ.at id o=none:=by
   intro id o ho
   rcases eN hp id o hnd ho with⟨t,cs,rfl,_⟩|⟨g,z,rows,rfl,_⟩|⟨X,rfl,_⟩
   ·rfl
   ·rfl
   ·rfl
  refine⟨rfl,rfl, .refl _,Nat.le_refl _,λ_ _ _=>rfl,λ_ _ h=>h,λ_ _ h _ _=>h,hslt,λ_ _ _=>rfl, ?_, ?_, ?_,λid _=>ρ.moved_refl id, ?_,λb hb=>by cases hb⟩
  ·intro id o ho
   rcases eN hp id o hnd ho with⟨t,cs,rfl,h|h⟩|⟨g,z,rows,rfl,h⟩|⟨X,rfl,h|h⟩
   ·exact hro id _ h
   ·exact hro id _ h
   ·exact hro id _ h
   ·exact hro id _ h
   ·exact hro id _ h
  ·intro id o id' o' g h1 _ h3 _;rw [hat id o h1]at h3;cases h3
  ·intro id o g h1 h3;rw [hat id o h1]at h3;cases h3
  ·intro id x g _ _ _ id' o' h3 h4;rw [hat id' o' h3]at h4;cases h4
 have hfs:bW ρ w (dK 0 args) (vs++Array.replicate (fn.ntmps - vs.size) undef):=by
  intro t s ht
  obtain⟨_,h2⟩:=dD args 0 t s ht
  simp only [Nat.sub_zero]at h2
  have hlt:=(List.getElem?_eq_some_iff.1 h2).1
  have hlt':t < vs.size:=by rw [hargs.1];exact hlt
  refine⟨vs[t], ?_,hargs.2 t s _ h2 (Array.getElem?_eq_getElem hlt')⟩
  rw [Array.getElem?_append_left hlt',Array.getElem?_eq_getElem hlt']
 obtain⟨l1,l2,l3,l4,l5,l6⟩:=hlt
 obtain⟨k1,k2,k3,k4,k5,k6⟩:=hge
 refine wpIn_seq (wpIn_region ?_)
 have key : ∀ fr1 hp1 a1 w1, ((∀ b ∈ bs, dE fr1 b.1 = some (.ptr b.1 0)) /\
   ∀pre,X ⟨P,ti,⟨bs.map (·.1)++pin,KPn q bs,pre,some λt v=>t=tF/\v=v0⟩,fn.ntmps,keep,0,none,zc,frz⟩ B (zX fr1 d (.fn g [] (bs.map λb=> .ptr b.1 0))) hp1 (mE ti fn.results.toList post))->
   Sat ⟨w,ρ.S,λ_=>False,dL pin,ρ,none,[],0⟩ fn.ntmps ⟨fr1,hp1⟩ a1 w1->
   (Code.seq (.region j #[mk,df] false) B).wpIn (FW none) 0 P (bodyPostM (FW none) 0 P fn (dV post w ρ)) a1 w1:=by
  rintro fr1 hp1 a1 w1 ⟨kx,kB⟩ hs
  refine aD0 m1 m2' m3 d1 d2' d3 hd hs ⟨rfl,rfl⟩ kx (bs.map (·.1)++pin) (KPn q bs) (some λt v=>t=tF/\v=v0) ?_
  intro ρ1 a2 hm1 hblk hs2
  generalize hdfr:({ target:= .fn (.func g) (bxV ρ1 bs),args:= #[] }:Deferred)=dfr at hs2
  refine wpIn_mono (iG (C:=⟨P,ti,⟨bs.map (·.1)++pin,KPn q bs,[dfr],some λt v=>t=tF/\v=v0⟩,fn.ntmps,keep,0,none,zc,frz⟩) hti B _ _ _ (kB _) (aV w1 ρ1 hp1 ⟨bs.map (·.1)++pin,KPn q bs,[dfr],some λt v=>t=tF/\v=v0⟩ none []) a2 w1 rfl rfl hs2) ?_
  rintro e0' a' w' ⟨e0,fr',hp',E',hE,hrel,hk,hnt,hdf,ρ',hm',hf'⟩
  obtain⟨own,q1',q2',q3',q4',q5'⟩:=gX hE rfl
  have hpre:E'.pin.pre=[dfr]:=by rw [hE.pin];rfl
  have fin:eY ti fr' hp' fn.results.toList (λl=>dP hp' l λl=>(bY l).ids=[]/\post (bY l))->LeavesInM (FW none) 0 P fn a'.tmps (dV post w ρ) a'.defers .returning w':=by
   intro hk
   rw [hdf,q2',hpre]
   refine eX (by simp) [dfr] own E' w' hm' ⟨_,q1',q5'⟩ q4' q3' ?_
   rintro E'' w'' ⟨p1,p2,p3,p4,p5,p6⟩ hm'' hkp
   have hmE:=hm1.leave (pin:=⟨bs.map (·.1)++pin,KPn q bs,[dfr],some λt v=>t=tF/\v=v0⟩) (rd:=none) hm'' ⟨p1.trans hE.w,p2.trans hE.S,p3.trans hE.B,p4.trans hE.pin,p5.trans hE.ρ,λb hb=>by cases hb⟩ (λid hid=>List.mem_append_right _ hid)
   have hf'':bW ρ' w'' fr' a'.tmps:=hf'.mono hkp (λ_ _ x=>x) λi _=>ρ'.moved_refl i
   rw [<-hdfr]
   exact oD (by simp) hg hcall (aF1 hg hgb h1 h2 h3 g1 g2 g3 f1 f2 f3 h4 h5 h6 hI l1 l2 l3 l4 hgr (by rw [lS];omega) (λv=>uT hti hmE hf'' hk))
  have finp: ∀ch,Chn (some λt v=>t=tF/\v=v0) ch->KPn q bs fr' hp'->LeavesInM (FW none) 0 P fn a'.tmps (dV post w ρ) a'.defers (.panicking ch) w':=by
   rintro ch ⟨t,v,rfl,rfl,rfl⟩ ⟨hqq,hkl⟩
   rw [hdf,q2',hpre]
   refine eX (by simp) [dfr] own E' w' hm' ⟨_,q1',q5'⟩ q4' q3' ?_
   rintro E'' w'' ⟨p1',p2',p3',p4',p5',p6'⟩ hm'' hkp
   have hmE:=hm1.leave (pin:=⟨bs.map (·.1)++pin,KPn q bs,[dfr],some λt' v'=>t'=t/\v'=v⟩) (rd:=none) hm'' ⟨p1'.trans hE.w,p2'.trans hE.S,p3'.trans hE.B,p4'.trans hE.pin,p5'.trans hE.ρ,λb hb=>by cases hb⟩ (λid hid=>List.mem_append_right _ hid)
   have hf'':bW ρ' w'' fr' a'.tmps:=hf'.mono hkp (λ_ _ x=>x) λi _=>ρ'.moved_refl i
   have hmv:=hm''.mv
   rw [p4'.trans hE.pin,p5'.trans hE.ρ]at hmv
   have hblk': ∀b∈bs,ρ'.blk b.1=some ((ρ1.blk b.1).getD 0):= λb hb=>(hmv b.1 (List.mem_append_left _ (List.mem_map.2 ⟨b,hb,rfl⟩))).1.trans (hblk b hb)
   obtain⟨cs,hcl,hsub⟩:=hkl.cells
   have hmY:=hmE.sub (hp':=wB bs cs) hsub
   obtain⟨vs',lvs,hmY⟩:=aJr bs cs [] hcl (by simp) hbn hmY
   rw [List.nil_append]at hmY
   have hfx:bW ρ' w'' (aKa bs) a'.tmps:=by
    intro t s ht
    obtain⟨b,hb,rfl,rfl⟩:=yQ _ _ _ ht
    exact hf'' _ _ (hkl.fr b hb)
   rw [<-hdfr]
   refine oD (by simp) hg hcall (aI5 hg hgb h1 h2 h3 g1 g2 g3 f1 f2 f3 h4 h5 h6 hI l1 l2 l3 l4 hgr (by rw [lS];omega) ?_)
   intro A hAt hAd
   have hAs:A.tmps.size=gn.ntmps:=by
    rw [hAt];simp only [Array.size_setIfInBounds,Array.size_append,Array.size_replicate,lS];omega
   have hbx: ∀(i:Nat) (b:Bx),bs[i]? =some b->A.tmps[i]? =some (aMf ((ρ1.blk b.1).getD 0)):=by
    intro i b hi
    have hil:=(List.getElem?_eq_some_iff.1 hi).1
    rw [hAt,Array.getElem?_setIfInBounds_ne (by omega),Array.getElem?_setIfInBounds_ne (by omega),Array.getElem?_setIfInBounds_ne (by omega),Array.getElem?_setIfInBounds_ne (by omega),Array.getElem?_append_left (by rw [lS];omega)]
    exact aM9 hi
   have hsz0:(bxV ρ1 bs++Array.replicate (gn.ntmps - (bxV ρ1 bs).size) undef).size=gn.ntmps:=by
    simp only [Array.size_append,Array.size_replicate,lS];omega
   have ev1:A.eval (.tmp a)= .iface t v:=by
    have:A.tmps[a]? =some (.iface t v):=by
     rw [hAt,Array.getElem?_setIfInBounds_ne (Ne.symm hne.2),Array.getElem?_setIfInBounds_ne (Ne.symm hne.1),Array.getElem?_setIfInBounds_self_of_lt (by rw [Array.size_setIfInBounds,hsz0];exact l2)]
    simp [Act.eval,Array.getD_eq_getD_getElem?,this]
   refine wpIn_seq (wpIn_region ?_)
   refine mD ?_
   rw [hoY]
   have e1:(execOp A.eval m2).run P w''= .ok (.value (.iface t v)) w'':=by
    simp [execOp,p1,ev1]
   have w1: ∀y,Region.wanted m2 y=true:= λy=>by simp [Region.wanted,p3]
   have w2: ∀y,Region.wanted ta y=true:= λy=>by simp [Region.wanted,q3]
   have kk1:((m2::ta::o2).toArray)[0]? =some m2:=rfl
   have kk2:((m2::ta::o2).toArray)[1]? =some ta:=rfl
   show wpOpsIn (FW none) 0 P (m2::ta::o2).toArray _ (0::1::List.range' 2 o2.length) A w''
   simp only [wpOpsIn,kk1,kk2,w1,w2,if_true]
   refine⟨λ_ _=>trivial, ?_⟩
   show Oper.uponIn (FW none) 0 P m2 A _ _ ((execOp A.eval m2).run P w'')
   rw [e1,Oper.uponIn_value]
   have ev2:(A.put m2.dst (.iface t v)).eval (.tmp b2)= .iface t v:=by
    rw [p2]
    simp [Act.put,Act.eval,hAs,l5]
   have e2:(execOp (A.put m2.dst (.iface t v)).eval ta).run P w''= .ok (.value (.tuple #[v, .bool true])) w'':=by
    cases dF with
    |interface m=>exact absurd rfl (hF2 m)
    |_=>simp [execOp,q1,ev2,Instr.typeAssert,run_underlying hF]
   refine⟨λ_ _=>trivial, ?_⟩
   show Oper.uponIn (FW none) 0 P ta (A.put m2.dst (.iface t v)) _ _ ((execOp (A.put m2.dst (.iface t v)).eval ta).run P w'')
   rw [e2,Oper.uponIn_value]
   obtain⟨A2,hA2⟩: ∃A2,(A.put m2.dst (.iface t v)).put ta.dst (.tuple #[v, .bool true])=A2:=⟨_,rfl⟩
   rw [hA2]
   have sY:Sat (aV w'' ρ' (wB bs (vs'.map aDt)) (dL (bs.map (·.1)++pin)) none []) gn.ntmps ⟨(d2, .tup [.d x0, .d (.bool true)])::aMm 0 bs,wB bs (vs'.map aDt)⟩ A2 w'':=by
    refine⟨by rw [<-hA2,aU,aU];exact hAs,by rw [<-hA2,put_defers,put_defers,hAd];rfl,ρ',hmY.enter (dL (bs.map (·.1)++pin)) none, ?_⟩
    intro t' s ht
    rw [<-hA2,p2,q2]
    simp only [dE]at ht
    split at ht
    ·rename_i e'
     subst e'
     injection ht with ht
     subst ht
     refine⟨.tuple #[v, .bool true],by simp [Act.put,hAs,l6], .tup _ _ rfl ?_⟩
     intro j' s' v' hs' hv'
     match j',hs',hv' with
     | 0,hs',hv'=>simp at hs' hv';subst hs';subst hv';exact .d _ _ (hx0 _ _)
     | 1,hs',hv'=>simp at hs' hv';subst hs';subst hv';exact .d _ _ (.bool _)
     |j'+2,hs',_=>simp at hs'
    ·obtain⟨i,b',hi,rfl,rfl⟩:=yP _ _ _ _ ht
     have hil:=(List.getElem?_eq_some_iff.1 hi).1
     rw [Nat.zero_add]
     refine⟨aMf ((ρ1.blk b'.1).getD 0), ?_, .ptr _ 0 _ (hblk' b' (List.mem_of_getElem? hi))⟩
     simp only [Act.put]
     rw [Array.getElem?_setIfInBounds_ne (by omega),Array.getElem?_setIfInBounds_ne (by omega)]
     exact hbx i b' hi
   have last: ∀hp2 a2 w2,eY ti (aKa bs) hp2 fn.results.toList (λl=>dP hp2 l λl=>(bY l).ids=[]/\post (bY l))-> ∀fr2,
     Sat (aV w'' ρ' (wB bs (vs'.map aDt)) (dL (bs.map (·.1)++pin)) none []) gn.ntmps ⟨fr2,hp2⟩ a2 w2->a2.defers=[]/\LeavesInM (FW none) 0 P fn a'.tmps (dV post w ρ) [] .returning w2:=by
    rintro hp2 a2 w2 hk2 fr2 ⟨_,s2,ρ2,hm2,_⟩
    refine⟨by rw [s2];rfl, ?_⟩
    have hmF:=hmY.leave (pin:=dL (bs.map (·.1)++pin)) (rd:=none) hm2 ⟨rfl,rfl,rfl,rfl,rfl,λb hb=>by cases hb⟩ (λid hid=> ?_)
    ·refine uT hti hmF (hfx.mono hm2.kp hm2.sold λid hid=>hm2.mv id ?_) hk2
     show id∈bs.map (·.1)++pin
     obtain⟨p,hp',hi⟩:=List.mem_flatMap.1 hid
     obtain⟨b',hb',rfl⟩:=List.mem_map.1 hp'
     have:id=b'.1:=by simpa [SV.ids]using hi
     rw [this]
     exact List.mem_append_left _ (List.mem_map.2 ⟨b',hb',rfl⟩)
    ·exact List.mem_append_right _ hid
   have lastR: ∀fr2 hp2 a2 w2,dO ⟨P,ti,dL (bs.map (·.1)++pin),gn.ntmps,keepY,200,none,false,[]⟩ o5 (λ_ hp2=>eY ti (aKa bs) hp2 fn.results.toList (λl=>dP hp2 l λl=>(bY l).ids=[]/\post (bY l))) T fr2 hp2->
     Sat (aV w'' ρ' (wB bs (vs'.map aDt)) (dL (bs.map (·.1)++pin)) none []) gn.ntmps ⟨fr2,hp2⟩ a2 w2->
     (Code.region i5 o5.toArray true).wpIn (FW none) 0 P (λe aY wY=>(e= .normal\/e= .ret)/\aY.defers=[]/\ ∀v':Value,LeavesInM (FW none) 0 P fn a'.tmps (dV post w ρ) [] (settle (.panicking [{ v:= .iface t v,recovered:=true }])) wY) a2 w2:=by
    intro fr2 hp2 a2 w2 hk2 hs2
    refine aEf (C:=⟨P,ti,dL (bs.map (·.1)++pin),gn.ntmps,keepY,200,none,false,[]⟩) hti T hmix hord hk2 (E:=aV w'' ρ' (wB bs (vs'.map aDt)) (dL (bs.map (·.1)++pin)) none []) rfl hs2 ?_ ?_
    ·rintro⟨_,_,h,_⟩
     rcases h with h|h<;>cases h
    ·intro fr3 hp3 a3 w3 hk3 hs3
     obtain⟨z1,z2⟩:=last hp3 a3 w3 hk3 fr3 hs3
     exact⟨.inl rfl,z1,λ_=>z2⟩
   have f3' : ∀ fr2 hp2 a2 w2, mF ⟨P, ti, dL (bs.map (·.1) ++ pin), gn.ntmps, keepY, 200, none, false, []⟩ o3.toList (λfr hp1 => dE fr e = some (.d (.bool false)) /\
      dO ⟨P,ti,dL (bs.map (·.1)++pin),gn.ntmps,keepY,200,none,false,[]⟩ o5 (λ_ hp2=>eY ti (aKa bs) hp2 fn.results.toList (λl=>dP hp2 l λl=>(bY l).ids=[]/\post (bY l))) T fr hp1) o3.toList fr2 hp2->
     Sat (aV w'' ρ' (wB bs (vs'.map aDt)) (dL (bs.map (·.1)++pin)) none []) gn.ntmps ⟨fr2,hp2⟩ a2 w2->
     (Code.seq (.seq (.region i3 o3 false) (.cond (.tmp e) Z .skip)) (.region i5 o5.toArray true)).wpIn (FW none) 0 P (λe aY wY=>(e= .normal\/e= .ret)/\aY.defers=[]/\ ∀v':Value,LeavesInM (FW none) 0 P fn a'.tmps (dV post w ρ) [] (settle (.panicking [{ v:= .iface t v,recovered:=true }])) wY) a2 w2:=by
    intro fr2 hp2 a2 w2 hk2 hs2
    refine wpIn_seq (wpIn_seq (wpIn_region ?_))
    refine mD (fR (C:=⟨P,ti,dL (bs.map (·.1)++pin),gn.ntmps,keepY,200,none,false,[]⟩) hti (all:=o3.toList) (E:=aV w'' ρ' (wB bs (vs'.map aDt)) (dL (bs.map (·.1)++pin)) none []) rfl ?_ (λ_ _ _ _ _ _ hk=>hk.elim) o3.toList 0 _ _ _ _ rfl hk2 hs2)
    rintro fr3 hp3 a3 w3 ⟨hk3,hk4⟩ hs3
    have hev:a3.eval (.tmp e)= .bool false:=by
     obtain⟨_,_,ρ3,_,hf3⟩:=hs3
     obtain⟨u,hu1,hu2⟩:=hf3 e _ hk3
     cases hu2 with
     |d _ _ h=>cases h with
      |bool _=>simp [Act.eval,Array.getD_eq_getD_getElem?,hu1]
    refine wpIn_cond hev ?_
    exact wpIn_skip (lastR _ _ _ _ hk4 hs3)
   exact fR (C:=⟨P,ti,dL (bs.map (·.1)++pin),gn.ntmps,keepY,200,none,false,[]⟩) hti (all:=m2::ta::o2) (E:=aV w'' ρ' (wB bs (vs'.map aDt)) (dL (bs.map (·.1)++pin)) none []) rfl (λfr2 hp2 a2 w2 hk2 hs2=>f3' fr2 hp2 a2 w2 hk2 hs2) (λ_ _ _ _ _ _ hk=>hk.elim) o2 2 _ _ _ _ rfl (hY hqq vs' lvs) sY
  cases e0<;>cases e0'<;>simp only [Ex.rel]at hrel<;>simp only [KX,mE]at hk
  ·exact fin hk
  ·exact hk.elim
  ·exact hk.elim
  ·exact fin hk
  ·exact finp _ hrel hk
 have s0:Sat ⟨w,ρ.S,λ_=>False,dL pin,ρ,none,[],0⟩ fn.ntmps ⟨dK 0 args,roH hp⟩ { tmps:=vs++Array.replicate (fn.ntmps - vs.size) undef,defers:=[] } w:=by
  refine⟨?_,rfl,ρ,hm,hfs⟩
  simp only [Array.size_append,Array.size_replicate]
  have:=hargs.1
  omega
 have:=fR (C:=⟨P,ti,dL pin,fn.ntmps,keep,0,none,zc,frz⟩) hti (all:=opsA.toList) (E:=⟨w,ρ.S,λ_=>False,dL pin,ρ,none,[],0⟩) (Q:=Exit.then ((Code.seq (.region j #[mk,df] false) B).wpIn (FW none) 0 P (bodyPostM (FW none) 0 P fn (dV post w ρ))) (bodyPostM (FW none) 0 P fn (dV post w ρ))) rfl
  (λfr1 hp1 a1 w1 hk1 hs1=>key fr1 hp1 a1 w1 hk1 hs1) (λ_ _ _ _ _ _ hk=>hk.elim) opsA.toList 0 _ _ _ _ rfl hA s0
 exact mD this
end
end
section
open Go.Proofs Go.RowKit
set_option maxRecDepth 10000
attribute [local irreducible] aH aF Tri aD YVC bO aP
theorem aKz:RdS 56 [] rPt (λp=> .d (.agg (aI p))):=by
 intro bs hbs
 have hl:(bs.map bB).length=bs.length:=List.length_map ..
 have c1:=sC aDp bs hbs (λx _ _=>pJ x)
 have hr:rPt bs=match vY rQy aDp qy0 280 bs with|(⟨[],[p]⟩,0)=>some (p,[])|_=>none:=rfl
 generalize vY rQy aDp qy0 280 bs=res at *
 obtain⟨⟨told,parts⟩,e⟩:=res
 have c1:=c1.mono (post':= λr=>r= .tup [.d (.agg [.sl 1 (told.map aT), .sl 1 (parts.map aI)]), .d (.int .i64 e)]) (λr h=>by obtain⟨x,rfl,hr⟩:=h;exact hr)
 refine aN false [] hty Tryz.func56 rfl (kp [0,2,3,4,29]) 100 (by simp [Tryz.f56]) ?_
 ((conv=>whnf);repeat ((first |(intro hq;try simp only [lnS]at hq)|refine sI ?_|refine qE_ ?_);conv=>whnf))
 rw [hl]
 refine RdS.call (zW bs.length) rfl (λ_=>rfl) bs hbs rfl (λc r e1=> ?_) (λe1 b=>by rw [jN (Nat.le_refl _)]at e1;cases e1)
 rw [jN (Nat.le_refl _),List.take_length,List.drop_length]at e1
 injection e1 with e1
 injection e1 with e1 e2
 subst e1 e2
 by_cases he:e=0
 ·subst he
  match told,parts,hr with
  | [],[p],hr=>
   ((conv=>whnf);repeat ((first|refine qT c1 ?_ |(intro hq;try simp only [lnS]at hq)|refine sI ?_|refine qE_ ?_);conv=>whnf))
   exact⟨p,[],hr,rfl,rfl⟩
  |t::ts,parts,hr=>
   have hr:rPt bs=none:=hr
   ((conv=>whnf);repeat ((first|refine qT c1 ?_|(refine eP hty rfl (by with_unfolding_all exact rfl) rfl rfl ?_) |(intro hq;try simp only [lnS]at hq)|refine sI ?_|refine qE_ ?_);conv=>whnf))
   rw [decide_eq_true (p:=(0:Int) < ((List.map aT (t::ts)).length:Nat)) (by rw [List.length_map,List.length_cons];omega)]
   ((conv=>whnf);repeat ((first|(refine eP hty rfl (by with_unfolding_all exact rfl) rfl rfl ?_) |(intro hq;try simp only [lnS]at hq)|refine sI ?_|refine qE_ ?_);conv=>whnf))
   exact⟨⟨rfl,rfl⟩,hr,[],rfl⟩
  | [],[],hr=>
   have hr:rPt bs=none:=hr
   ((conv=>whnf);repeat ((first|refine qT c1 ?_|(refine eP hty rfl (by with_unfolding_all exact rfl) rfl rfl ?_) |(intro hq;try simp only [lnS]at hq)|refine sI ?_|refine qE_ ?_);conv=>whnf))
   exact⟨⟨rfl,rfl⟩,hr,[],rfl⟩
  | [],p::p'::ps,hr=>
   have hr:rPt bs=none:=hr
   ((conv=>whnf);repeat ((first|refine qT c1 ?_|(refine eP hty rfl (by with_unfolding_all exact rfl) rfl rfl ?_) |(intro hq;try simp only [lnS]at hq)|refine sI ?_|refine qE_ ?_);conv=>whnf))
   exact⟨⟨rfl,rfl⟩,hr,[],rfl⟩
 ·have hr:rPt bs=none:=by
   rw [hr]
   split
   ·rename_i h
    injection h with h1 h2
    exact absurd h2 he
   ·rfl
  ((conv=>whnf);repeat ((first|refine qT c1 ?_ |(intro hq;try simp only [lnS]at hq)|refine sI ?_|refine qE_ ?_);conv=>whnf))
  rw [decide_eq_false he]
  ((conv=>whnf);repeat ((first|(refine eP hty rfl (by with_unfolding_all exact rfl) rfl rfl ?_) |(intro hq;try simp only [lnS]at hq)|refine sI ?_|refine qE_ ?_);conv=>whnf))
  exact⟨⟨rfl,rfl⟩,hr,[],rfl⟩
theorem aIq {bs b1:List UInt8}{z:Int}(h:lW (xN 4) sgN bs=some (z,b1)): ∃n:Nat,xN 4 bs=some (n,b1)/\z=(n:Int)/\n < 4294967296:=by
 cases h1:xN 4 bs with
 |none=>rw [dR h1]at h;cases h
 |some p=>
  obtain⟨n,c⟩:=p
  rw [cW h1]at h
  injection h with h
  injection h with h2 h3
  subst h3
  have:=oB h1
  refine⟨n,rfl, ?_,this⟩
  rw [<-h2]
  unfold sgN
  rw [if_pos (by omega)]
theorem aL3 {α β:Type}{r:Rd α}{f:α->β}{b:List UInt8}(h:lW r f b=none):r b=none:=by
 cases h1:r b with
 |none=>rfl
 |some p=>obtain⟨x,c⟩:=p;rw [cW h1]at h;cases h
theorem aL2 {b c:List UInt8}{p:List At}(h:rPt b=some (p,c)):c=[]:=by
 unfold rPt at h
 split at h
 ·injection h with h;injection h with _ h;exact h.symm
 ·cases h
abbrev bxs:List Bx:=[(2,9,1),(3,3,1),(4,42,2),(5,27,1)]
theorem cE.third {a b c c' d:SV}(h:cE c c'):cE (.tup [a,b,c,d]) (.tup [a,b,c',d]):=cE.tup rfl λj x y hx hy=>by
 match j,hx,hy with
 | 0,hx,hy=>simp at hx hy;subst hx;subst hy;exact .refl _
 | 1,hx,hy=>simp at hx hy;subst hx;subst hy;exact .refl _
 | 2,hx,hy=>simp at hx hy;subst hx;subst hy;exact h
 | 3,hx,hy=>simp at hx hy;subst hx;subst hy;exact .refl _
 |j+4,hx,_=>simp at hx
theorem aQ4 {vs:List (List Value)}(h:aBs bxs vs): ∃a b c d e,vs=[[a],[b],[c,d],[e]]:=by
 match vs,h with
 | [x,y,z,u],⟨h1,h2,h3,h4,_⟩=>
  obtain⟨a,rfl⟩:=List.length_eq_one_iff.1 h1
  obtain⟨b,rfl⟩:=List.length_eq_one_iff.1 h2
  obtain⟨c,d,rfl⟩: ∃c d,z=[c,d]:=by
   match z,h3 with
   | [c,d],_=>exact⟨c,d,rfl⟩
  obtain⟨e,rfl⟩:=List.length_eq_one_iff.1 h4
  exact⟨a,b,c,d,e,rfl⟩
theorem aFu (bs:List UInt8) (hbs:bs.length<=1000000):Tri Tryz.prog 25 [.d (.sl 1 (bs.map bB))] [] (λr=> ∃y,y=(vY rEn aHb aHd 380 bs).1/\r= .tup [.d (.str y.1), .d (.int .i64 y.2.1), .d (.agg (bM y.2.2)), .d (.int .i64 (vY rEn aHb aHd 380 bs).2)]):=by
 obtain⟨dF,iF,zF,hTF⟩:=aL (hty 81 _ (by with_unfolding_all exact rfl))
 have hni: ∀m,dF≠ .interface m:=by
  intro m e
  have:=hTF.td
  rw [e]at this
  simp [wH]at this
 refine Tri.says ?_
 refine aHt false [] hty (by kernel_rfl) Tryz.func25 rfl bxs ((.first 0 (.first 1 (.alt 2 (.alt 3 (.alt 4 (.alt 5 (.alt 6 .done .stop) .stop) .stop) .stop) (.alt 3 (.alt 2 (.alt 4 (.alt 5 (.alt 6 .done .stop) .stop) .stop) (.alt 4 (.alt 2 (.alt 5 (.alt 6 .done .stop) .stop) (.alt 5 (.alt 2 (.alt 6 .done .stop) .stop) .stop)) .stop)) .stop))))) Tryz.func53 rfl rfl rfl rfl rfl rfl rfl rfl rfl rfl rfl rfl rfl rfl rfl rfl rfl rfl rfl rfl (ms:= #[]) (by kernel_rfl) hTF.und hni (by decide) (by decide) (by decide) rfl (by kernel_rfl) (d:=8) rfl rfl rfl rfl rfl rfl (by decide) (by decide) (kp [0,2,3,4,5,6,7,39]) (kp [0,1,2,3,4,5,6,9,16]) [] _ _ _ (vY rEn aHb aHd 380 bs=(aHd,380)) aPm (.agg [.int .i64 380]) (λw S=> ?_) (by simp [Tryz.f25]) (by decide) ?_ (by kernel_rfl) ?_
 ·refine .agg _ _ rfl λj x v h1 h2=> ?_
  match j,h1,h2 with
  | 0,h1,h2=>simp at h1 h2;subst h1;subst h2;exact .int _ _
  |j+1,h1,_=>simp at h1
 ·((conv=>whnf);repeat ((first |(intro hq;try simp only [lnS]at hq)|refine sI ?_|refine qE_ ?_);conv=>whnf))
  refine⟨λb hb=> ?_,λpre=> ?_⟩
  ·simp only [List.mem_cons,List.not_mem_nil,or_false]at hb
   rcases hb with rfl|rfl|rfl|rfl<;>rfl
  ((conv=>whnf);repeat ((first |(intro hq;try simp only [lnS]at hq)|refine sI ?_|refine qE_ ?_);conv=>whnf))
  refine RdS.call (oT 4 (by decide)) rfl (λ_=>rfl) bs hbs rfl (λz b1 e1=> ?_) (λe1 b=>⟨gQ (bD (bD (aL3 e1))),⟨rfl,_,rfl,rfl⟩,⟨rfl,_,rfl,rfl⟩,⟨rfl,_,rfl,rfl⟩,⟨rfl,_,rfl,rfl⟩,trivial⟩)
  obtain⟨n,e0,rfl,hn⟩:=aIq e1
  clear e1
  have q1:=jU (gA 4) e0
  ((conv=>whnf);repeat ((first |(intro hq;try simp only [lnS]at hq)|refine sI ?_|refine qE_ ?_);conv=>whnf))
  refine RdS.call (zW n) rfl (λ_=>rfl) b1 (by omega) rfl (λs b2 e2=> ?_) (λe2 b=>⟨gQ (bD (fN e0 e2)),⟨rfl,_,rfl,rfl⟩,⟨rfl,_,rfl,rfl⟩,⟨rfl,_,rfl,rfl⟩,⟨rfl,_,rfl,rfl⟩,trivial⟩)
  have hT:aDr bs=some (s,b2):=sH e0 e2
  have q2:=jU (rP n) e2
  have hub:=fJ s
  clear e0 e2
  ((conv=>whnf);repeat ((first |(intro hq;try simp only [lnS]at hq)|refine sI ?_|refine qE_ ?_);conv=>whnf))
  rw [hub]
  ((conv=>whnf);repeat ((first |(intro hq;try simp only [lnS]at hq)|refine sI ?_|refine qE_ ?_);conv=>whnf))
  refine RdS.call (oT 8 (by decide)) rfl (λ_=>rfl) b2 (by omega) rfl (λv b3 e3=> ?_) (λe3 b=>⟨gQ (fN hT (bD e3)),⟨rfl,_,rfl,rfl⟩,⟨rfl,_,rfl,rfl⟩,⟨rfl,_,rfl,rfl⟩,⟨rfl,_,rfl,rfl⟩,trivial⟩)
  have q3:=jU lP (show aBc b2=some (v,b3)from e3)
  ((conv=>whnf);repeat ((first |(intro hq;try simp only [lnS]at hq)|refine sI ?_|refine qE_ ?_);conv=>whnf))
  refine RdS.call (oT 8 (by decide)) rfl (λ_=>rfl) b3 (by omega) rfl (λno b4 e4=> ?_) (λe4 b=>⟨gQ (fN hT (fN (show aBc b2=some (v,b3)from e3) (bD e4))),⟨rfl,_,rfl,rfl⟩,⟨rfl,_,rfl,rfl⟩,⟨rfl,_,rfl,rfl⟩,⟨rfl,_,rfl,rfl⟩,trivial⟩)
  have q4:=jU lP (show aBc b3=some (no,b4)from e4)
  ((conv=>whnf);repeat ((first |(intro hq;try simp only [lnS]at hq)|refine sI ?_|refine qE_ ?_);conv=>whnf))
  refine RdS.call aKz rfl (λ_=>rfl) b4 (by omega) rfl (λp b5 e5=> ?_) (λe5 b=>⟨gQ (fN hT (fN (show aBc b2=some (v,b3)from e3) (fN (show aBc b3=some (no,b4)from e4) (dR e5)))),⟨rfl,_,rfl,rfl⟩,⟨rfl,_,rfl,rfl⟩,⟨rfl,_,rfl,rfl⟩,⟨rfl,_,rfl,rfl⟩,trivial⟩)
  have hrd:rEn bs=some ((s,v,⟨no,p⟩),b5):=sH hT (sH (show aBc b2=some (v,b3)from e3) (sH (show aBc b3=some (no,b4)from e4) (cW e5)))
  obtain rfl:=aL2 e5
  have hd:=yZ (wr:=aHb) (zero:=aHd) (bad:=380) hrd
  have c1:=aFt s v ⟨no,p⟩
  clear e3 e4 e5 hT hrd hub
  generalize vY rEn aHb aHd 380 bs=res at *
  generalize aHb (s,v,⟨no,p⟩)=ae at *
  obtain⟨a,e⟩:=ae
  have heq:=jB a bs
  rw [show bM ⟨no,p⟩=[.int .i64 no, .sl 6 (p.map atR)]from rfl]at c1
  ((conv=>whnf);repeat ((first|refine qT c1 ?_ |(intro hq;try simp only [lnS]at hq)|refine sI ?_|refine qE_ ?_);conv=>whnf))
  by_cases he:e=0
  ·subst he
   rw [decide_eq_true rfl]
   ((conv=>whnf);repeat ((first|refine qT heq ?_ |(intro hq;try simp only [lnS]at hq)|refine sI ?_|refine qE_ ?_);conv=>whnf))
   by_cases h7:a=bs
   ·subst h7
    rw [if_pos ⟨rfl,rfl⟩]at hd
    subst hd
    rw [decide_eq_true rfl]
    ((conv=>whnf);repeat ((first |(intro hq;try simp only [lnS]at hq)|refine sI ?_|refine qE_ ?_);conv=>whnf))
    (refine bI (id:=10) hty (.alt 0 (.alt 1 (.alt 2 (.alt 3 (.alt 4 (.alt 5 (.alt 6 .done .stop) .stop) .stop) .stop) (.alt 3 (.alt 2 (.alt 4 (.alt 5 (.alt 6 .done .stop) .stop) .stop) (.alt 4 (.alt 2 (.alt 5 (.alt 6 .done .stop) .stop) .stop) .stop)) .stop)) (.alt 2 (.alt 1 (.alt 3 (.alt 4 (.alt 5 (.alt 6 .done .stop) .stop) .stop) .stop) (.alt 3 (.alt 1 (.alt 4 (.alt 5 (.alt 6 .done .stop) .stop) .stop) .stop) .stop)) (.alt 3 (.alt 1 (.alt 2 (.alt 4 (.alt 5 (.alt 6 .done .stop) .stop) .stop) (.alt 4 (.alt 2 (.alt 5 (.alt 6 .done .stop) .stop) .stop) .stop)) (.alt 2 (.alt 1 (.alt 4 (.alt 5 (.alt 6 .done .stop) .stop) .stop) .stop) .stop)) .stop))) (.alt 1 (.alt 0 (.alt 2 (.alt 3 (.alt 4 (.alt 5 (.alt 6 .done .stop) .stop) .stop) .stop) (.alt 3 (.alt 2 (.alt 4 (.alt 5 (.alt 6 .done .stop) .stop) .stop) (.alt 4 (.alt 2 (.alt 5 (.alt 6 .done .stop) .stop) .stop) .stop)) .stop)) (.alt 2 (.alt 0 (.alt 3 (.alt 4 (.alt 5 (.alt 6 .done .stop) .stop) .stop) .stop) .stop) .stop)) (.alt 2 (.alt 0 (.alt 1 (.alt 3 (.alt 4 (.alt 5 (.alt 6 .done .stop) .stop) .stop) .stop) (.alt 3 (.alt 1 (.alt 4 (.alt 5 (.alt 6 .done .stop) .stop) .stop) .stop) .stop)) (.alt 1 (.alt 0 (.alt 3 (.alt 4 (.alt 5 (.alt 6 .done .stop) .stop) .stop) .stop) .stop) .stop)) .stop))) (by kernel_rfl) (by kernel_rfl) ?_)
    ((conv=>whnf);repeat' ((first|exact trivial|refine uJ ?_ ?_|refine eqN rfl ?_|refine leN rfl ?_|refine ltN rfl ?_|refine sJ ?_|(refine Exists.intro _ (And.intro rfl ?_)))<;>(conv=>whnf)))
    all_goals exact⟨_, .refl _,_,rfl,rfl⟩
   ·have hr:res=(aHd,380):=by rw [hd,if_neg];rintro⟨_,h⟩;injection h with h5 h6;exact h7 h5
    rw [decide_eq_false h7]
    ((conv=>whnf);repeat ((first|(refine eP hty rfl (by with_unfolding_all exact rfl) rfl rfl ?_) |(intro hq;try simp only [lnS]at hq)|refine sI ?_|refine qE_ ?_);conv=>whnf))
    exact⟨⟨rfl,rfl⟩,hr,⟨rfl,_,rfl,rfl⟩,⟨rfl,_,rfl,rfl⟩,⟨rfl,_,rfl,rfl⟩,⟨rfl,_,rfl,rfl⟩,trivial⟩
  ·have hr:res=(aHd,380):=by rw [hd,if_neg];rintro⟨_,h⟩;injection h with h5 h6;exact he h6
   rw [show decide ((a,e).2=0)=false from decide_eq_false he]
   ((conv=>whnf);repeat ((first|(refine eP hty rfl (by with_unfolding_all exact rfl) rfl rfl ?_) |(intro hq;try simp only [lnS]at hq)|refine sI ?_|refine qE_ ?_);conv=>whnf))
   exact⟨⟨rfl,rfl⟩,hr,⟨rfl,_,rfl,rfl⟩,⟨rfl,_,rfl,rfl⟩,⟨rfl,_,rfl,rfl⟩,⟨rfl,_,rfl,rfl⟩,trivial⟩
 ·intro hr vs hvs
  rw [hr]
  obtain⟨v1,v2,v3,v4,v5,rfl⟩:=aQ4 hvs
  ((conv=>whnf);repeat ((first |(intro hq;try simp only [lnS]at hq)|refine sI ?_|refine qE_ ?_);conv=>whnf))
  ((conv=>whnf);repeat' ((first|exact trivial|refine uJ ?_ ?_|refine eqN rfl ?_|refine leN rfl ?_|refine ltN rfl ?_|refine sJ ?_|(refine Exists.intro _ (And.intro rfl ?_)))<;>(conv=>whnf)))
  all_goals exact⟨_,cE.third (cE.wkd qB),_,rfl,rfl⟩
end
section
open Go.RowKit
section
variable {P:Program}
end
end
section
open Go.RowKit
section
variable {P:Program}
theorem aJa {ti:TypeId->Option TI}(hti:cG P ti) {o:Oper}{t e:TypeId}{len id:Nat}{parts:Array (Nat×Operand)}(ho:o.op= .buildSlice t len parts) {Ts T:TI}(hT:ti t=some Ts) (htd:Ts.td= .slice e) (hT2:ti e=some T)
  {pin:Pin} {fr:Fr} {hp:Hp} {K:SV->Hp->Prop} {l:List (Nat×SV)} {rows:List (List D)} (hev:evP fr parts.toList=some l) (hpos:0 < T.size) (h0:len≠0) (hsm:len * T.size<=16777216) (hrows:aDl T.size (List.replicate len T.zero) l=some rows)
  (hfr:fA id pin fr hp) (hk:K (.mw id T.size rows.length) ((id, .mrow e T.size rows.length rows)::hp)):aP P o pin fr hp K:=by
 intro E ρ a w hp' hm hf next Q hn
 obtain⟨p1,p2⟩:=aGa hf _ _ hev
 obtain⟨d,i,z,hT⟩:=aL (hti _ _ hT)
 have hd:d= .slice e:=by
  have h:=hT.td
  rw [htd]at h
  exact bK h
 subst hd
 obtain⟨d2,i2,z2,hT2⟩:=aL (hti _ _ hT2)
 obtain⟨rs,r1,r2,r3⟩:=aC3 (ρ:=ρ) T.size l _ _ _ rows (kO hT2 w ρ.S len hpos) p1 p2 hrows
 have hlen:rows.length=len:=by rw [r3];simp
 have hsz2:i2.size=T.size:=hT2.size
 have hrun:(execOp a.eval o).run P w= .ok (.value (.slice (some ⟨w.heap.size,0,none⟩) rows.length rows.length)) (w.alloc (.cells rs e)):=by
  have:=Go.run_buildSlice (P:=P) w t e len (parts.map λp=>(p.1,a.eval p.2)) rs i2 z2 hT.und hT2.info hT2.zero (by rw [hsz2];omega) (by rw [hsz2];exact λh=>h0 (by rcases Nat.mul_eq_zero.1 h with h|h;exact h;omega)) (by rw [hsz2];simpa [hsz2]using r1)
  simp only [execOp,ho,Sem.run_bind,this,Result.andThen_ok,Sem.run_pure,hlen]
 obtain⟨f1,f2,f3⟩:=hfr
 have hrl:=r2.len
 rw [Array.length_toList]at hrl
 have hml:rows.length<=maxLen:=by
  rw [hlen];simp only [maxLen]
  have:len * 1<=len * T.size:=Nat.mul_le_mul_left _ hpos
  omega
 have hgr:=Grew.alloc w (.cells rs e)
 have htk:rs.toList.take (rows.length * T.size)=rs.toList:=List.take_of_length_le (by rw [Array.length_toList,hrl];exact Nat.le_refl _)
 have hmut:dY (w.alloc (.cells rs e)) ρ.S e T.size rows.length rows (.slice (some ⟨w.heap.size,0,none⟩) rows.length rows.length):=by
  refine .inr ⟨by omega,w.heap.size,rs,rfl,heap_alloc_new w _,Nat.le_refl _,hml,hrl,by rw [htk];exact r2.mono (hgr.keeps hm.slt) (λ_ _ x=>x),λj hj=> ?_⟩
  have:=hm.slt _ j hj;omega
 obtain ⟨s1, s2, s3⟩ := hm.newMrow (id := id) f3 (by rw [hp']; exact f1) hgr hmut (by
  intro g hg
  simp only [dM]at hg
  split at hg
  ·cases hg
  ·injection hg with hg;omega)
 have hrep:Rep (w.alloc (.cells rs e)) (ρ.retop id rows.length (.slice (some ⟨w.heap.size,0,none⟩) rows.length rows.length)) (.mw id T.size rows.length) (.slice (some ⟨w.heap.size,0,none⟩) rows.length rows.length):=
  .mw id T.size rows.length rows.length _ (Nat.le_refl _) hml (λ_=>⟨_,rfl⟩) (by simp [Env.retop]) (by simp [Env.retop])
 exact bN hrun (hn _ _ _ _ _ hk s1 (hf.mono s2 (λ_ _ x=>x) λj hj=>s3 j λe=>f2 (e ▸ hj)) hrep)
def aLc (P:Program) (ti:TypeId->Option TI) (zc:Bool) (pin:Pin) (fr:Fr) (hp:Hp) (dst:Nat) (o:Oper) (K:SV->Hp->Prop):Prop:=
 match o.op with
 | .buildSlice _ _ _=>aP P o pin fr hp K
 |_=>aO9 P ti zc pin fr hp dst o K
theorem aN5 {ti:TypeId->Option TI}(hti:cG P ti) {o:Oper}{pin:Pin}{fr:Fr}{hp:Hp}{dst:Nat}{zc:Bool}{K:SV->Hp->Prop}(h:aLc P ti zc pin fr hp dst o K):aH9 P o pin fr hp K:=by
 unfold aLc at h
 split at h
 ·rename_i ho
  exact oL.r (λc e=>by rw [ho]at e;cases e) h
 ·exact aN6 hti h
def aK0 (C:Cfg) (all:List Oper) (o:Oper) (fr:Fr) (hp:Hp) (k:Fr->Hp->Prop):Prop:=
 hX all fr o.guard
  (λfr=>aLc C.P C.ti C.zc C.pin fr hp (C.off+o.dst.getD 0) o λs hp'=>put C o.dst s fr λfr'=>k fr' hp')
  (λfr=>put C o.dst (.d (.lit undef)) fr λfr'=>k fr' hp)
def xU (C:Cfg) (all:List Oper) (K:Fr->Hp->Prop):List Oper->Fr->Hp->Prop
 | [],fr,hp=>iU C.keep fr λfr'=>aNn C.frz fr' hp K
 |o::r,fr,hp=>aK0 C all o fr hp λfr' hp'=>xU C all K r fr' hp'
theorem aD6 {C:Cfg}(hti:cG C.P C.ti) {all:List Oper}{K:Fr->Hp->Prop}{E:Entry}{Q:Exit->Act->World->Prop}(hpin:E.pin=C.pin) (hQ: ∀fr hp a w,K fr hp->Sat E C.nt ⟨fr,hp⟩ a w->Q .normal a w) (hQp: ∀ch fr hp a w,Chn C.pin.pv ch->C.pin.kp fr hp->Sat E C.nt ⟨fr,hp⟩ a w->Q (.panic ch) a w):
  ∀(l:List Oper) (k:Nat) (fr:Fr) (hp:Hp) (a:Act) (w:World),all.drop k=l->xU C all K l fr hp->Sat E C.nt ⟨fr,hp⟩ a w->wpOpsIn (FW E.rd) 0 C.P all.toArray Q (List.range' k l.length) a w:=by
 intro l
 induction l with
 |nil=>
  intro k fr hp a w _ h hs
  simp only [xU,fO]at h
  obtain⟨h1,h2,ρ,h3,h4⟩:=hs
  simp only [List.length_nil,List.range'_zero,wpOpsIn]
  obtain⟨fr',hp',ρ',q1,q2,q3⟩:=mL C.frz (a:=a) h h3 (λt s hts=>h4 t s (eE _ _ t s hts))
  exact hQ _ hp' a w q1 ⟨h1,h2,ρ',q2,q3⟩
 |cons o r ih=>
  intro k fr hp a w hk h hs
  simp only [xU,aK0]at h
  obtain⟨h1,h2,ρ,h3,h4⟩:=hs
  have hko:all.toArray[k]? =some o:=by
   have:all[k]? =some o:=by
    have:=congrArg (λl=>l[0]?) hk
    simpa [List.getElem?_drop]using this
   simpa using this
  have hkr:all.drop (k+1)=r:=by
   rw [<-List.drop_drop,hk];rfl
  simp only [List.length_cons,List.range'_succ,wpOpsIn,hko]
  obtain⟨fr0,h4,hh⟩:=cC h h4
  rcases hh with⟨hw,h⟩|⟨hw,h⟩
  ·simp only [hw,if_true]
   refine aN5 hti h E ρ a w hpin h3 h4 _ Q (λv w' ρ' s hp' hk' hm' hf' hr'=> ?_) (λch w' ρ' hp' q0 q1 q2 q3=>hQp ch fr0 hp' a w' q0 q1 ⟨h1,h2,ρ',q2,q3⟩)
   obtain⟨fr',q1,q2⟩:=cN hk' h1 hf' hr'
   exact ih (k+1) fr' hp' _ w' hkr q1 ⟨by rw [aU];exact h1,by rw [put_defers];exact h2,ρ',hm',q2⟩
  ·simp only [hw,Bool.false_eq_true,if_false]
   obtain⟨fr',q1,q2⟩:=cN h h1 h4 (Rep.d _ undef (.lit undef))
   exact⟨λ_ _=>trivial,ih (k+1) fr' hp _ w hkr q1 ⟨by rw [aU];exact h1,by rw [put_defers];exact h2,ρ,h3,q2⟩⟩
theorem zY {C:Cfg}(hti:cG C.P C.ti) {id:Nat}{ops:Array Oper}{fr:Fr}{hp:Hp}{K:Ex->Fr->Hp->Prop}(h:xU C ops.toList (K .normal) ops.toList fr hp):aH C (.region id ops false) fr hp K:=by
 intro E a w hpin _ hs
 refine wpIn_region ?_
 have:=aD6 (C:=C) hti (all:=ops.toList) (Q:=fV C E K) hpin (λfr hp a w hk hs=>⟨.normal,fr,hp,E, .refl E,trivial,hk,hs⟩) (λch fr hp a w hc hk hs=>⟨.pan,fr,hp,E, .refl E,hc,hk,hs⟩) ops.toList 0 fr hp a w rfl h hs
 simpa [List.range_eq_range']using this
end
end
end Go.Proofs.YtdjfkmkdkclahaaGreatDoor
