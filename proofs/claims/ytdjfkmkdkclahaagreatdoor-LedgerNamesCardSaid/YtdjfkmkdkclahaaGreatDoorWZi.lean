/-
  The reference of objects: queries in bytes. Ledgers, the reference: readers, versions, numbers in bytes, Encode. Ledgers, the reference: New, Left, place. Ledgers, the reference: the canonical form, Check, Add, Find. Ledgers, the reference: Add, Find.
  Conditions: none.
-/
import Derived.Test.YtdjfkmkdkclahaaGreatDoorWZf
import Derived.Test.YtdjfkmkdkclahaaGreatDoorWVe
set_option linter.unnecessarySimpa false
set_option linter.unusedSectionVars false
set_option linter.unusedSimpArgs false
set_option linter.unusedVariables false
set_option maxHeartbeats 8000000
namespace Go.Proofs.YtdjfkmkdkclahaaGreatDoor
section
open Go.Proofs Go.RowKit
set_option maxRecDepth 10000
attribute [local irreducible] aH aF Tri aD YVC bO aP aJl
end
section
open Go.Proofs Go.RowKit
set_option maxRecDepth 10000
attribute [local irreducible] aH aF Tri aD YVC bO aP aJl
theorem kY (n:Int):Tri Tryz.prog 37 [.d (.int .i64 n)] [] (λr=>r= .d (.bool (wG n))):=by
 refine qG [] hty Tryz.func37 [0,2] ?_
 ((conv=>whnf);repeat' ((first|(intro hq;(try simp only [lnS]at hq);(try rewrite [List.length_map]))|refine sJ ?_|refine qE_ ?_|refine exL (k:=?_)|refine dwR ?_|((first|refine aB ?_ ?_|refine aC ?_ ?_)<;>intro hb<;>(first|exact ddX hb|try simp only [lnS]at hb))|(refine aA ?_ ?_<;>intro hb<;>try exact dsX hb))<;>(conv=>whnf)))
 ·refine aJ ?_
  unfold wG
  rw [decide_eq_decide]
  exact⟨λh=>⟨hb,h⟩,λh=>h.2⟩
 ·refine aJ ?_
  unfold wG
  rw [decide_eq_false]
  exact λh=>hb h.1
theorem kH (p:List At):Tri Tryz.prog 43 [.d (.agg (aI p))] [] (λr=>r= .d (.agg (qyR ⟨[],[p]⟩))):=by
 refine Tri.says ?_
 refine qG [] hty Tryz.func43 [0,1,2] ?_
 ((conv=>whnf);repeat' ((first|(intro hq;(try simp only [lnS]at hq);(try rewrite [List.length_map]))|refine sJ ?_|refine qE_ ?_|refine exL (k:=?_)|refine dwR ?_|((first|refine aB ?_ ?_|refine aC ?_ ?_)<;>intro hb<;>(first|exact ddX hb|try simp only [lnS]at hb))|(refine aA ?_ ?_<;>intro hb<;>try exact dsX hb))<;>(conv=>whnf)))
 exact⟨_,cE.wkd (by repeat' (first|exact trivial|exact rfl|exact cD _|refine And.intro ?_ ?_)),rfl⟩
theorem mU (s:List UInt8) (hs:s.length<=9223372036854775807):Tri Tryz.prog 36 [.d (.str s)] [] (λr=>r= .d (.bool (rdF s))):=by
 have hc:=fM s
 have hrd:rdF s=(cQ s && (!s.contains 58 && !decide (s.head?=some 95))):=rfl
 refine qG [] hty Tryz.func36 [0,2,3,7,13] ?_
 ((conv=>whnf);repeat ((first |(intro hq;try simp only [lnS]at hq)|refine sI ?_|refine qE_ ?_);conv=>whnf))
 refine aG hty (λj:Nat=>([(0, .d (.str s)),(3, .d (.int .i64 j))],[])) (λj=>j<=s.length/\ ∀c∈s.take j,c≠58) (λj=>s.length - j) 0 ⟨Nat.zero_le _,λc hc=>by simp at hc⟩ ⟨qB,trivial⟩ ?_
 rintro j ⟨hj,hn⟩
 ((conv=>whnf);repeat ((first |(intro hq;try simp only [lnS]at hq)|refine sI ?_|refine qE_ ?_);conv=>whnf))
 refine aB (λh1=> ?_) (λh1=> ?_)
 ·have hjl:j < s.length:=by omega
  have hts:s.take (j+1)=s.take j++[s[j]]:=List.take_succ_eq_append_getElem hjl
  ((conv=>whnf);repeat' ((first|(intro hq;(try simp only [lnS]at hq);(try rewrite [List.length_map]))|refine sJ ?_|refine qE_ ?_|refine exL (k:=?_)|refine dwR ?_|((first|refine aB ?_ ?_|refine aC ?_ ?_)<;>intro hb<;>(first|exact ddX hb|try simp only [lnS]at hb))|(refine aA ?_ ?_<;>intro hb<;>try exact dsX hb))<;>(conv=>whnf)))
  ·have h58:s[j]=58:=by
    refine UInt8.toNat.inj ?_
    have hb:((s[j].toNat:Nat):Int)=58:=hb
    show s[j].toNat=58
    omega
   refine aJ ?_
   rw [hrd,List.contains_iff_mem.2 (show (58:UInt8)∈s from h58 ▸ List.getElem_mem hjl)]
   simp
  ·refine⟨j+1,⟨by omega,λc hc=> ?_⟩,qO,qB,trivial⟩
   rw [hts,List.mem_append,List.mem_singleton]at hc
   rcases hc with hc|rfl
   ·exact hn c hc
   ·intro e
    refine hb ?_
    show ((s[j].toNat:Nat):Int)=58
    rw [e];rfl
 ·have hjl:j=s.length:=by omega
  subst hjl
  rw [List.take_length]at hn
  have h58:s.contains 58=false:=by
   cases h:s.contains 58
   ·rfl
   ·exact absurd rfl (hn 58 (List.contains_iff_mem.1 h))
  rw [h58]at hrd
  have hne:0 < s.length->s≠[]:= λh e=>by rw [e]at h;simp at h
  cases s with
  |nil=>
   ((conv=>whnf);repeat' ((first|(intro hq;(try simp only [lnS]at hq);(try rewrite [List.length_map]))|refine sJ ?_|refine qE_ ?_|refine exL (k:=?_)| refine qT hc ?_|refine dwR ?_|((first|refine aB ?_ ?_|refine aC ?_ ?_)<;>intro hb<;>(first|exact ddX hb|try simp only [lnS]at hb))|(refine aA ?_ ?_<;>intro hb<;>try exact dsX hb))<;>(conv=>whnf)))
   all_goals first|(exfalso;simp at *;done)|rfl
  |cons c r=>
   ((conv=>whnf);repeat' ((first|(intro hq;(try simp only [lnS]at hq);(try rewrite [List.length_map]))|refine sJ ?_|refine qE_ ?_|refine exL (k:=?_)| refine qT hc ?_|refine dwR ?_|((first|refine aB ?_ ?_|refine aC ?_ ?_)<;>intro hb<;>(first|exact ddX hb|try simp only [lnS]at hb))|(refine aA ?_ ?_<;>intro hb<;>try exact dsX hb))<;>(conv=>whnf)))
   ·have hh:decide ((c::r).head?=some 95)=false:=by
     rw [decide_eq_false_iff_not]
     intro e
     injection e with e
     subst e
     exact hb rfl
    refine aJ ?_
    rw [hrd,hh]
    cases cQ (c::r)<;>rfl
   ·have hh:c=95:=by
     refine UInt8.toNat.inj ?_
     have hb:((c.toNat:Nat):Int)=95:=hb
     show c.toNat=95
     omega
    refine aJ ?_
    rw [hrd,hh]
    simp
end
section
open Go.Proofs Go.RowKit
set_option maxRecDepth 10000
attribute [local irreducible] aH aF Tri aD YVC bO aP
theorem aF3 (s:List UInt8) (n:Int):Tri Tryz.prog 13 [.d (.str s), .d (.int .i64 n)] [] (λr=>r= .tup [.d (.agg (lgR (aDs s n).1)), .d (.int .i64 (aDs s n).2)]):=by
 refine Tri.lenS 0 rfl λhs=> ?_
 have h1:=mU s hs
 have h2:=kY n
 unfold aDs
 generalize rdF s=b1 at *
 generalize wG n=b2 at *
 refine Tri.says ?_
 refine qG [] hty Tryz.func13 [0,1,4,5,13] ?_
 cases b1<;>cases b2
 all_goals
  ((conv=>whnf);repeat' ((first|(intro hq;(try simp only [lnS]at hq);(try rewrite [List.length_map]))|refine sJ ?_|refine qE_ ?_|refine exL (k:=?_)| refine qT h1 ?_|refine qT h2 ?_|refine dwR ?_|((first|refine aB ?_ ?_|refine aC ?_ ?_)<;>intro hb<;>(first|exact ddX hb|try simp only [lnS]at hb))|(refine aA ?_ ?_<;>intro hb<;>try exact dsX hb))<;>(conv=>whnf)))
 all_goals exact⟨_,cE.pair (cE.wkd qB),rfl⟩
theorem aA8 (l:Lg) (p:List At):Tri Tryz.prog 45 [.d (.agg (lgR l)), .d (.agg (aI p))] [] (λr=>r= .d (.int .i64 (aAq l.entries p))):=by
 have hl:(l.entries.map bM).length=l.entries.length:=List.length_map ..
 rw [show lgR l=[.str l.reader, .int .i64 l.version, .sl 2 (l.entries.map bM)]from rfl]
 rw [show aI p=[.sl 6 (p.map atR)]from rfl]
 refine qG [2,3] hty Tryz.func45 [0,1,2,3,4,5,10,20] ?_
 ((conv=>whnf);repeat ((first |(intro hq;try simp only [lnS]at hq)|refine sI ?_|refine qE_ ?_);conv=>whnf))
 refine aG hty (λj:Nat=>([(2, .ea 3 [[.str l.reader, .int .i64 l.version, .sl 2 (l.entries.map bM)]] 0 0),(3, .ea 1 [[.sl 6 (p.map atR)]] 0 0),(5, .d (.int .i64 j))],[])) (λj=>j<=l.entries.length/\ ∀x∈l.entries.take j,x.part≠p) (λj=>l.entries.length - j) 0 ⟨Nat.zero_le _,λx hx=>by simp at hx⟩ ⟨qB,qB⟩ ?_
 rintro j ⟨hj,hn⟩
 ((conv=>whnf);repeat ((first |(intro hq;try simp only [lnS]at hq)|refine sI ?_|refine qE_ ?_);conv=>whnf))
 rw [hl]
 refine aB (λh1=> ?_) (λh1=> ?_)
 ·have hjl:j < l.entries.length:=by omega
  have hrow:(l.entries.map bM)[((j:Nat):Int).toNat]? =some (bM l.entries[j]):=aK hjl
  have hc:=eM l.entries[j].part p
  have hx:= @aAp l.entries p j hjl hn
  have hs: ∀x∈l.entries.take (j+1),x∈l.entries.take j\/x=l.entries[j]:= λx hx=>by
   rw [List.take_succ_eq_append_getElem hjl,List.mem_append,List.mem_singleton]at hx
   exact hx
  rw [show bM l.entries[j]=[.int .i64 l.entries[j].no, .sl 6 (l.entries[j].part.map atR)]from rfl]at hrow
  rw [show aI p=[.sl 6 (p.map atR)]from rfl,show aI l.entries[j].part=[.sl 6 (l.entries[j].part.map atR)]from rfl]at hc
  ((conv=>whnf);repeat ((first |(intro hq;try simp only [lnS]at hq)|refine sI ?_|refine qE_ ?_);conv=>whnf))
  refine dwR ?_
  ((conv=>whnf);repeat ((first|(refine⟨_,hrow, ?_⟩)|(refine⟨.d (.bool _),_,[],rfl,trivial,hc, ?_⟩) |(intro hq;try simp only [lnS]at hq)|refine sI ?_|refine qE_ ?_);conv=>whnf))
  by_cases he:l.entries[j].part=p
  ·rw [decide_eq_true he]
   ((conv=>whnf);repeat ((first |(intro hq;try simp only [lnS]at hq)|refine sI ?_|refine qE_ ?_);conv=>whnf))
   exact fX (hx he).symm
  ·rw [decide_eq_false he]
   ((conv=>whnf);repeat ((first |(intro hq;try simp only [lnS]at hq)|refine sI ?_|refine qE_ ?_);conv=>whnf))
   refine⟨j+1,⟨by omega,λx hx=> ?_⟩,qO,qB,trivial⟩
   rcases hs x hx with h|rfl
   ·exact hn x h
   ·exact he
 ·have hjl:j=l.entries.length:=by omega
  subst hjl
  rw [List.take_length]at hn
  ((conv=>whnf);repeat ((first |(intro hq;try simp only [lnS]at hq)|refine sI ?_|refine qE_ ?_);conv=>whnf))
  exact fX (yS hn).symm
end
section
open Go.Proofs Go.RowKit
set_option maxRecDepth 10000
attribute [local irreducible] aH aF Tri aD YVC bO aP
theorem pE (p:List At):Tri Tryz.prog 44 [.d (.agg (aI p))] [] (λr=>r= .tup [.d (.agg (aI (if ptE p=0 then dU p else []))), .d (.bool (decide (ptE p=0)))]):=by
 have h1:=kH p
 have h2:=sE p
 have h3:=kE ⟨[],[p]⟩
 rw [show qE ⟨[],[p]⟩=ptE p from rfl]at h3
 refine Tri.says ?_
 refine qG [1,4] hty Tryz.func44 [0,1,2,3,4,5,25] ?_
 by_cases h:ptE p=0
 ·rw [if_pos h,h]at h2
  rw [h]at h3
  rw [if_pos h,h]
  ((conv=>whnf);repeat ((first|refine qT h1 ?_|refine qT h2 ?_|refine qT h3 ?_ |(intro hq;try simp only [lnS]at hq)|refine sI ?_|refine qE_ ?_);conv=>whnf))
  exact⟨_, .refl _,rfl⟩
 ·rw [if_neg h]at h2
  rw [if_neg h,decide_eq_false h]
  ((conv=>whnf);repeat ((first|refine qT h1 ?_|refine qT h2 ?_|refine qT h3 ?_ |(intro hq;try simp only [lnS]at hq)|refine sI ?_|refine qE_ ?_);conv=>whnf))
  rw [decide_eq_false h]
  ((conv=>whnf);repeat ((first |(intro hq;try simp only [lnS]at hq)|refine sI ?_|refine qE_ ?_);conv=>whnf))
  exact⟨_,cE.pair (cE.wkd (by repeat' (first|exact trivial|exact rfl|exact cD _|refine And.intro ?_ ?_))),rfl⟩
theorem vH (l:Lg):Tri Tryz.prog 16 [.d (.agg (lgR l))] [] (λr=>r= .d (.int .i64 (lgE l))):=by
 have hl:(l.entries.map bM).length=l.entries.length:=List.length_map ..
 have h1:=Tri.lenS 0 rfl (λhs=>mU l.reader hs)
 have h2:=kY l.version
 show Tri Tryz.prog 16 [.d (.agg [.str l.reader, .int .i64 l.version, .sl 2 (l.entries.map bM)])] [] _
 refine qG [1,4,6] hty Tryz.func16 [0,1,2,3,4,5,6,7,8,18,22,27,39,45,61,64,75] ?_
 generalize hb1:rdF l.reader=b1 at *
 generalize hb2:wG l.version=b2 at *
 have hE:lgE l=if b1=false\/b2=false then 1 else if 1024 < l.entries.length then 2 else rN [] l.entries:=by
  unfold lgE
  rw [hb1,hb2]
 rw [hE]
 by_cases hb:b1=false\/b2=false
 ·rw [if_pos hb]
  cases b1<;>cases b2
  all_goals
   ((conv=>whnf);repeat' ((first|(intro hq;(try simp only [lnS]at hq);(try rewrite [List.length_map]))|refine sJ ?_|refine qE_ ?_|refine exL (k:=?_)| refine qT h1 ?_|refine qT h2 ?_|refine dwR ?_|((first|refine aB ?_ ?_|refine aC ?_ ?_)<;>intro hb<;>(first|exact ddX hb|try simp only [lnS]at hb))|(refine aA ?_ ?_<;>intro hb<;>try exact dsX hb))<;>(conv=>whnf)))
  all_goals first|rfl|(simp at hb;done)
 ·rw [if_neg hb]
  obtain rfl:b1=true:=by cases b1<;>simp_all
  obtain rfl:b2=true:=by cases b2<;>simp_all
  ((conv=>whnf);repeat ((first|refine qT h1 ?_|refine qT h2 ?_ |(intro hq;try simp only [lnS]at hq)|refine sI ?_|refine qE_ ?_);conv=>whnf))
  rw [hl]
  refine aB (λh3=> ?_) (λh3=> ?_)
  ·rw [if_pos (by omega)]
   ((conv=>whnf);repeat ((first |(intro hq;try simp only [lnS]at hq)|refine sI ?_|refine qE_ ?_);conv=>whnf))
   rfl
  rw [if_neg (by omega)]
  ((conv=>whnf);repeat ((first |(intro hq;try simp only [lnS]at hq)|refine sI ?_|refine qE_ ?_);conv=>whnf))
  refine aG hty (λj:Nat=>([(1, .ea 3 [[.str l.reader, .int .i64 l.version, .sl 2 (l.entries.map bM)]] 0 0),(3, .d (.int .i64 j))],[])) (λj=>j<=l.entries.length/\rN [] l.entries=rN (l.entries.take j) (l.entries.drop j)) (λj=>l.entries.length - j) 0 ⟨Nat.zero_le _,rfl⟩ ⟨qB,qB⟩ ?_
  rintro j ⟨hj,hn⟩
  ((conv=>whnf);repeat ((first |(intro hq;try simp only [lnS]at hq)|refine sI ?_|refine qE_ ?_);conv=>whnf))
  rw [hl]
  refine aB (λh4=> ?_) (λh4=> ?_)
  ·have hjl:j < l.entries.length:=by omega
   have hrow:(l.entries.map bM)[((j:Nat):Int).toNat]? =some (bM l.entries[j]):=aK hjl
   have htl:(l.entries.take j).length=j:=by rw [List.length_take];omega
   have hts:l.entries.take (j+1)=l.entries.take j++[l.entries[j]]:=List.take_succ_eq_append_getElem hjl
   rw [List.drop_eq_getElem_cons hjl,rN,htl,<-hts]at hn
   have c0:=kH l.entries[j].part
   have c1:=kE ⟨[],[l.entries[j].part]⟩
   have c2:=pE l.entries[j].part
   have c3:=eM (dU l.entries[j].part) l.entries[j].part
   rw [show qE ⟨[],[l.entries[j].part]⟩=ptE l.entries[j].part from rfl]at c1
   have hee:aMl (l.entries.take j) j l.entries[j]=if l.entries[j].no≠(j:Int)+1 then 380 else if ptE l.entries[j].part≠0 then ptE l.entries[j].part else if dU l.entries[j].part=l.entries[j].part/\l.entries[j].part∉(l.entries.take j).map Ent.part then 0 else 380:=rfl
   generalize aMl (l.entries.take j) j l.entries[j]=ee at *
   rw [hn]
   generalize l.entries[j]=x at *
   obtain⟨no,q⟩:=x
   rw [show bM ⟨no,q⟩=[.int .i64 no, .sl 6 (q.map atR)]from rfl]at hrow
   dsimp only at c0 c1 c2 c3 hee
   ((conv=>whnf);repeat ((first|(refine⟨_,hrow, ?_⟩) |(intro hq;try simp only [lnS]at hq)|refine sI ?_|refine qE_ ?_);conv=>whnf))
   refine aC (λh5=> ?_) (λh5=> ?_)
   ·rw [if_pos h5]at hee
    subst hee
    rw [if_pos (by decide)]
    ((conv=>whnf);repeat ((first |(intro hq;try simp only [lnS]at hq)|refine sI ?_|refine qE_ ?_);conv=>whnf))
    rfl
   have h5:no=(j:Int)+1:=by simpa using h5
   rw [if_neg (by simpa using h5)]at hee
   rw [show aI q=[.sl 6 (q.map atR)]from rfl]at c0 c2 c3
   generalize ptE q=e at *
   by_cases h6:e=0
   ·subst h6
    rw [if_pos rfl,decide_eq_true rfl]at c2
    rw [if_neg (by decide)]at hee
    rw [show aI (dU q)=[.sl 6 ((dU q).map atR)]from rfl]at c2 c3
    ((conv=>whnf);repeat ((first|refine qT c0 ?_|refine qT c1 ?_|refine qT c2 ?_|refine qT c3 ?_ |(intro hq;try simp only [lnS]at hq)|refine sI ?_|refine qE_ ?_);conv=>whnf))
    by_cases h7:dU q=q
    ·rw [decide_eq_true h7]
     ((conv=>whnf);repeat ((first |(intro hq;try simp only [lnS]at hq)|refine sI ?_|refine qE_ ?_);conv=>whnf))
     refine aG hty (λk:Nat=>([(1, .ea 3 [[.str l.reader, .int .i64 l.version, .sl 2 (l.entries.map bM)]] 0 0),(3, .d (.int .i64 j)),(4, .ea 2 [[.int .i64 no, .sl 6 (q.map atR)]] 0 0),(8, .d (.int .i64 k))],[])) (λk=>k<=j/\ ∀x∈l.entries.take k,x.part≠q) (λk=>j - k) 0 ⟨Nat.zero_le _,λx hx=>by simp at hx⟩ ⟨qB,qB⟩ ?_
     rintro k ⟨hk,hkn⟩
     ((conv=>whnf);repeat ((first |(intro hq;try simp only [lnS]at hq)|refine sI ?_|refine qE_ ?_);conv=>whnf))
     refine aB (λh8=> ?_) (λh8=> ?_)
     ·have hkl:k < l.entries.length:=by omega
      have hkj:k < j:=by omega
      have hrow2:(l.entries.map bM)[((k:Nat):Int).toNat]? =some (bM l.entries[k]):=aK hkl
      have c4:=eM l.entries[k].part q
      rw [show bM l.entries[k]=[.int .i64 l.entries[k].no, .sl 6 (l.entries[k].part.map atR)]from rfl]at hrow2
      rw [show aI q=[.sl 6 (q.map atR)]from rfl,show aI l.entries[k].part=[.sl 6 (l.entries[k].part.map atR)]from rfl]at c4
      ((conv=>whnf);repeat ((first |(intro hq;try simp only [lnS]at hq)|refine sI ?_|refine qE_ ?_);conv=>whnf))
      refine dwR ?_
      ((conv=>whnf);repeat ((first|(refine⟨_,hrow2, ?_⟩)|(refine⟨.d (.bool _),_,[],rfl,trivial,c4, ?_⟩) |(intro hq;try simp only [lnS]at hq)|refine sI ?_|refine qE_ ?_);conv=>whnf))
      by_cases he:l.entries[k].part=q
      ·rw [decide_eq_true he]
       rw [if_neg (λh=>h.2 (List.mem_map.2 ⟨_,List.mem_take_iff_getElem.2 ⟨k,by omega,rfl⟩,he⟩))]at hee
       subst hee
       rw [if_pos (by decide)]
       ((conv=>whnf);repeat ((first |(intro hq;try simp only [lnS]at hq)|refine sI ?_|refine qE_ ?_);conv=>whnf))
       rfl
      ·rw [decide_eq_false he]
       ((conv=>whnf);repeat ((first |(intro hq;try simp only [lnS]at hq)|refine sI ?_|refine qE_ ?_);conv=>whnf))
       refine⟨k+1,⟨by omega,λx hx=> ?_⟩,qO,qB,trivial⟩
       rw [List.take_succ_eq_append_getElem hkl,List.mem_append,List.mem_singleton]at hx
       rcases hx with hx|rfl
       ·exact hkn x hx
       ·exact he
     ·have hkj:k=j:=by omega
      subst hkj
      rw [if_pos ⟨h7,λh=>by obtain⟨x,hx,e⟩:=List.mem_map.1 h;exact hkn x hx e⟩]at hee
      subst hee
      rw [if_neg (by decide)]at hn |-
      ((conv=>whnf);repeat ((first |(intro hq;try simp only [lnS]at hq)|refine sI ?_|refine qE_ ?_);conv=>whnf))
      exact⟨k+1,⟨by omega,rfl⟩,qO,qB,trivial⟩
    ·rw [decide_eq_false h7]
     rw [if_neg (λh=>h7 h.1)]at hee
     subst hee
     rw [if_pos (by decide)]
     ((conv=>whnf);repeat ((first |(intro hq;try simp only [lnS]at hq)|refine sI ?_|refine qE_ ?_);conv=>whnf))
     rfl
   ·rw [if_pos h6]at hee
    subst hee
    rw [if_pos h6]
    ((conv=>whnf);repeat ((first|refine qT c0 ?_|refine qT c1 ?_ |(intro hq;try simp only [lnS]at hq)|refine sI ?_|refine qE_ ?_);conv=>whnf))
    rw [decide_eq_false h6]
    ((conv=>whnf);repeat ((first |(intro hq;try simp only [lnS]at hq)|refine sI ?_|refine qE_ ?_);conv=>whnf))
    rfl
  ·have hjl:j=l.entries.length:=by omega
   subst hjl
   rw [List.drop_length]at hn
   rw [hn]
   ((conv=>whnf);repeat ((first |(intro hq;try simp only [lnS]at hq)|refine sI ?_|refine qE_ ?_);conv=>whnf))
   rfl
end
section
open Go.Proofs Go.RowKit
set_option maxRecDepth 10000
attribute [local irreducible] aH aF Tri aD YVC bO aP
theorem aA9 (l:Lg) (p:List At):Tri Tryz.prog 20 [.d (.agg (lgR l)), .d (.agg (aI p))] [] (λr=>r= .tup [.d (.agg (lgR (mN l p).1)), .d (.int .i64 (mN l p).2.1), .d (.int .i64 (mN l p).2.2)]):=by
 have c0:=vH l
 have ca:=kH p
 have cb:=kE ⟨[],[p]⟩
 have c1:=pE p
 have c2:=aA8 l (dU p)
 have c3:=aG8 l.entries (dU p)
 have hl:(l.entries.map bM).length=l.entries.length:=List.length_map ..
 have hE:=aH2 l p
 rw [show qE ⟨[],[p]⟩=ptE p from rfl]at cb
 rw [show lgR l=[.str l.reader, .int .i64 l.version, .sl 2 (l.entries.map bM)]from rfl]at c0 c2 |-
 rw [show aI p=[.sl 6 (p.map atR)]from rfl]at ca c1 |-
 rw [show aI (dU p)=[.sl 6 ((dU p).map atR)]from rfl]at c2
 refine Tri.says ?_
 refine qG [3,9] hty Tryz.func20 [0,1,2,3,4,5,6,7,8,9,11,12,16,23,35,46] ?_
 generalize hge:lgE l=g at *
 by_cases hg:g=0
 ·subst hg
  rw [if_neg (by decide)]at hE
  generalize ptE p=e at *
  by_cases h:e=0
  ·subst h
   rw [if_pos rfl,decide_eq_true rfl,show aI (dU p)=[.sl 6 ((dU p).map atR)]from rfl]at c1
   rw [if_neg (by decide)]at hE
   ((conv=>whnf);repeat ((first|refine qT c0 ?_|refine qT ca ?_|refine qT cb ?_|refine qT c1 ?_|refine qT c2 ?_ |(intro hq;try simp only [lnS]at hq)|refine sI ?_|refine qE_ ?_);conv=>whnf))
   rcases c3 with⟨e1,e2⟩|⟨k,hk,e1,e2⟩
   ·rw [e1]at hE
    dsimp only at hE
    rw [e2]
    ((conv=>whnf);repeat ((first |(intro hq;try simp only [lnS]at hq)|refine sI ?_|refine qE_ ?_);conv=>whnf))
    rw [hl]
    refine aB (λh3=> ?_) (λh3=> ?_)
    ·rw [if_pos (by omega)]at hE
     rw [hE]
     ((conv=>whnf);repeat ((first |(intro hq;try simp only [lnS]at hq)|refine sI ?_|refine qE_ ?_);conv=>whnf))
     exact⟨_,cE.first3 (cE.wkd (by repeat' (first|exact trivial|exact rfl|exact cD _|refine And.intro ?_ ?_))),rfl⟩
    ·rw [if_neg (by omega)]at hE
     rw [hE]
     have hn:(l.entries.length:Int)+1<=1024:=by omega
     have hfin:(l.entries++[Ent.mk ((l.entries.length:Int)+1) (dU p)]).map bM=l.entries.map bM++[[.int .i64 ((l.entries.length:Int)+1), .sl 6 ((dU p).map atR)]]:=by rw [List.map_append];rfl
     ((conv=>whnf);repeat ((first |(intro hq;try simp only [lnS]at hq)|refine sI ?_|refine qE_ ?_);conv=>whnf))
     rw [hl]
     refine aH.midE (λrows=>rows=l.entries.map bM++[[.int .i64 ((l.entries.length:Int)+1), .sl 6 ((dU p).map atR)]]) (λrows=>[(2, .ptr 2 0),(4, .ptr 4 0),(12, .d (.int .i64 ((l.entries.length:Int)+1)))]) (λrows=>[(2, .cells 24 [.d (.str l.reader), .d (.int .i64 l.version), .osl 52 2 rows]),(4, .cells 24 [.d (.str []), .d (.int .i64 0), .d .nil])]) ?_ ?_
     ·(refine bI (id:=14) hty (.first 1 (.first 4 (.alt 0 (.alt 2 (.alt 3 (.alt 5 (.first 6 (.alt 7 (.alt 8 (.first 9 (.alt 10 .done .stop)) .stop) .stop)) .stop) (.alt 5 (.first 6 (.alt 3 (.alt 7 (.alt 8 (.first 9 (.alt 10 .done .stop)) .stop) .stop) (.alt 7 (.alt 3 (.alt 8 (.first 9 (.alt 10 .done .stop)) .stop) .stop) .stop))) .stop)) (.alt 5 (.first 6 (.alt 2 (.alt 3 (.alt 7 (.alt 8 (.first 9 (.alt 10 .done .stop)) .stop) .stop) (.alt 7 (.alt 3 (.alt 8 (.first 9 (.alt 10 .done .stop)) .stop) .stop) .stop)) (.alt 7 (.alt 2 (.alt 3 (.alt 8 (.first 9 (.alt 10 .done .stop)) .stop) .stop) .stop) .stop))) .stop)) (.alt 2 (.alt 0 (.alt 3 (.alt 5 (.first 6 (.alt 7 (.alt 8 (.first 9 (.alt 10 .done .stop)) .stop) .stop)) .stop) (.alt 5 (.first 6 (.alt 3 (.alt 7 (.alt 8 (.first 9 (.alt 10 .done .stop)) .stop) .stop) (.alt 7 (.alt 3 (.alt 8 (.first 9 (.alt 10 .done .stop)) .stop) .stop) .stop))) .stop)) (.alt 5 (.first 6 (.alt 0 (.alt 3 (.alt 7 (.alt 8 (.first 9 (.alt 10 .done .stop)) .stop) .stop) (.alt 7 (.alt 3 (.alt 8 (.first 9 (.alt 10 .done .stop)) .stop) .stop) .stop)) (.alt 7 (.alt 0 (.alt 3 (.alt 8 (.first 9 (.alt 10 .done .stop)) .stop) .stop) .stop) .stop))) .stop)) (.alt 5 (.first 6 (.alt 0 (.alt 2 (.alt 3 (.alt 7 (.alt 8 (.first 9 (.alt 10 .done .stop)) .stop) .stop) (.alt 7 (.alt 3 (.alt 8 (.first 9 (.alt 10 .done .stop)) .stop) .stop) .stop)) (.alt 7 (.alt 2 (.alt 3 (.alt 8 (.first 9 (.alt 10 .done .stop)) .stop) .stop) .stop) .stop)) (.alt 2 (.alt 0 (.alt 3 (.alt 7 (.alt 8 (.first 9 (.alt 10 .done .stop)) .stop) .stop) (.alt 7 (.alt 3 (.alt 8 (.first 9 (.alt 10 .done .stop)) .stop) .stop) .stop)) (.alt 7 (.alt 0 (.alt 3 (.alt 8 (.first 9 (.alt 10 .done .stop)) .stop) .stop) .stop) .stop)) (.alt 7 (.alt 0 (.alt 2 (.alt 3 (.alt 8 (.first 9 (.alt 10 .done .stop)) .stop) .stop) .stop) (.alt 2 (.alt 0 (.alt 3 (.alt 8 (.first 9 (.alt 10 .done .stop)) .stop) .stop) .stop) .stop)) .stop)))) .stop))))) (by kernel_rfl) (by kernel_rfl) ?_)
      ((conv=>whnf);repeat' ((first|(intro hq;(try simp only [lnS]at hq);(try rewrite [List.length_map]))|refine sJ ?_|refine qE_ ?_|refine exL (k:=?_)| (refine And.intro (by simp only [List.length_replicate,List.length_drop,List.length_take,List.length_map,List.length_append,List.length_cons,List.length_nil];omega) ?_)|exact trivial|(refine And.intro ?_ ?_)|refine dwR ?_|((first|refine aB ?_ ?_|refine aC ?_ ?_)<;>intro hb<;>(first|exact ddX hb|try simp only [lnS]at hb))|(refine aA ?_ ?_<;>intro hb<;>try exact dsX hb))<;>(conv=>whnf)))
      all_goals exact⟨_,⟨qB,qB⟩,rfl⟩
     ·rintro rows rfl
      ((conv=>whnf);repeat ((first |(intro hq;try simp only [lnS]at hq)|refine sI ?_|refine qE_ ?_);conv=>whnf))
      refine⟨_, .refl _, ?_⟩
      show _=SV.tup [.d (.agg [.str l.reader, .int .i64 l.version, .sl 2 ((l.entries++[Ent.mk ((l.entries.length:Int)+1) (dU p)]).map bM)]), .d (.int .i64 ((l.entries.length:Int)+1)), .d (.int .i64 0)]
      rw [hfin]
      rfl
   ·have hrow:(l.entries.map bM)[((k:Nat):Int).toNat]? =some (bM l.entries[k]):=aK hk
    rw [show bM l.entries[k]=[.int .i64 l.entries[k].no, .sl 6 (l.entries[k].part.map atR)]from rfl]at hrow
    rw [e2]at hE
    dsimp only at hE
    rw [e1,hE]
    rw [decide_eq_true (by omega)]
    ((conv=>whnf);repeat ((first |(intro hq;try simp only [lnS]at hq)|refine sI ?_|refine qE_ ?_);conv=>whnf))
    (refine bI (id:=10) hty (.first 1 (.first 3 (.alt 0 (.alt 2 (.first 4 (.first 5 (.alt 6 (.alt 7 (.first 8 (.first 9 .done)) .stop) (.alt 7 (.alt 6 (.first 8 (.first 9 .done)) .stop) .stop)))) (.alt 7 (.alt 2 (.first 4 (.first 5 (.alt 6 (.first 8 (.first 9 .done)) .stop))) .stop) .stop)) (.alt 2 (.first 4 (.first 5 (.alt 0 (.alt 6 (.alt 7 (.first 8 (.first 9 .done)) .stop) (.alt 7 (.alt 6 (.first 8 (.first 9 .done)) .stop) .stop)) (.alt 6 (.alt 0 (.alt 7 (.first 8 (.first 9 .done)) .stop) .stop) .stop)))) .stop)))) (by kernel_rfl) (by kernel_rfl) ?_)
    ((conv=>whnf);repeat' ((first|exact trivial|refine uJ ?_ ?_|(refine⟨_,hrow, ?_⟩)|refine eqN rfl ?_|refine leN rfl ?_|refine ltN rfl ?_|refine sJ ?_|(refine Exists.intro _ (And.intro rfl ?_)))<;>(conv=>whnf)))
    all_goals exact⟨_, .refl _,rfl⟩
  ·rw [if_pos h]at hE
   rw [hE]
   ((conv=>whnf);repeat ((first|refine qT c0 ?_|refine qT ca ?_|refine qT cb ?_ |(intro hq;try simp only [lnS]at hq)|refine sI ?_|refine qE_ ?_);conv=>whnf))
   rw [decide_eq_false h]
   ((conv=>whnf);repeat ((first |(intro hq;try simp only [lnS]at hq)|refine sI ?_|refine qE_ ?_);conv=>whnf))
   exact⟨_,cE.first3 (cE.wkd (by repeat' (first|exact trivial|exact rfl|exact cD _|refine And.intro ?_ ?_))),rfl⟩
 ·rw [if_pos hg]at hE
  rw [hE]
  ((conv=>whnf);repeat ((first|refine qT c0 ?_ |(intro hq;try simp only [lnS]at hq)|refine sI ?_|refine qE_ ?_);conv=>whnf))
  rw [decide_eq_false hg]
  ((conv=>whnf);repeat ((first |(intro hq;try simp only [lnS]at hq)|refine sI ?_|refine qE_ ?_);conv=>whnf))
  exact⟨_,cE.first3 (cE.wkd (by repeat' (first|exact trivial|exact rfl|exact cD _|refine And.intro ?_ ?_))),rfl⟩
end
end Go.Proofs.YtdjfkmkdkclahaaGreatDoor
