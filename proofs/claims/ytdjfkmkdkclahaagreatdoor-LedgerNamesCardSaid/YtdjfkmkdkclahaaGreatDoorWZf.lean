/-
  The reference's queries: the variables of a part. The reference's queries: Variables; the form of a query. The reference's queries: form. The reference's queries: Check where there are no axioms. Queries, the reference: canonical names of the query of a part.
  Conditions: none.
-/
import Derived.Test.YtdjfkmkdkclahaaGreatDoorWVk
import Derived.Test.YtdjfkmkdkclahaaGreatDoorWOh
import Derived.Test.YtdjfkmkdkclahaaGreatDoorWQqh
import Derived.Test.YtdjfkmkdkclahaaGreatDoorWSza
set_option linter.unnecessarySimpa false
set_option linter.unusedSectionVars false
set_option linter.unusedSimpArgs false
set_option linter.unusedVariables false
set_option maxHeartbeats 32000000
namespace Go.Proofs.YtdjfkmkdkclahaaGreatDoor
section
open Go.Proofs Go.RowKit
set_option maxRecDepth 10000
attribute [local irreducible] aH aF Tri aD YVC bO aP
def zL (s:List UInt8):List (List UInt8)->List (List UInt8)
 | []=>[s]
 |a::r=>if Op.bytesLess a s=true then a::zL s r else s::a::r
def mZ (l:List (List UInt8)) (s:List UInt8):List (List UInt8):=if aS s=true/\¬ s∈l then zL s l else l
theorem lK (s:List UInt8): ∀l,(zL s l).Perm (s::l)
 | []=> .refl _
 |a::r=>by
  rw [zL]
  split
  ·exact((lK s r).cons a).trans (List.Perm.swap ..)
  ·exact .refl _
theorem aBy {l:List (List UInt8)}{s x:List UInt8}:x∈mZ l s↔x∈l\/(x=s/\aS s=true):=by
 unfold mZ
 split
 ·rename_i h
  rw [(lK s l).mem_iff,List.mem_cons]
  constructor
  ·rintro(e|e)
   ·exact .inr ⟨e,h.1⟩
   ·exact .inl e
  ·rintro(e|e)
   ·exact .inr e
   ·exact .inl e.1
 ·rename_i h
  refine⟨.inl,λe=> ?_⟩
  rcases e with e|⟨rfl,e⟩
  ·exact e
  ·exact Decidable.byContradiction λhn=>h ⟨e,hn⟩
theorem uC {l:List (List UInt8)}{s:List UInt8}(h:l.Nodup):(mZ l s).Nodup:=by
 unfold mZ
 split
 ·rename_i h1
  rw [(lK s l).nodup_iff,List.nodup_cons]
  exact⟨h1.2,h⟩
 ·exact h
theorem vU (l:List (List UInt8)) (s:List UInt8):(mZ l s).length<=l.length+1:=by
 unfold mZ
 split
 ·rw [(lK s l).length_eq];exact Nat.le_refl _
 ·omega
def cJ:List (List UInt8)->List At->List (List UInt8)
 |acc,[]=>acc
 |acc,a::r=>cJ (mZ (mZ acc a.x) a.y) r
theorem oO: ∀(l:List At) (acc:List (List UInt8)) (a:At),cJ acc (l++[a])=mZ (mZ (cJ acc l) a.x) a.y
 | [],acc,a=>rfl
 |b::r,acc,a=>by
  show cJ (mZ (mZ acc b.x) b.y) (r++[a])=_
  rw [oO r];rfl
theorem jF: ∀(l:List At) (acc:List (List UInt8)),(acc.Nodup->(cJ acc l).Nodup)/\(∀x,x∈cJ acc l↔x∈acc\/x∈bQ l)/\(cJ acc l).length<=acc.length+2 * l.length
 | [],acc=>⟨id,λx=>by simp [cJ,bQ],by simp [cJ]⟩
 |a::r,acc=>by
  obtain⟨h1,h2,h3⟩:=jF r (mZ (mZ acc a.x) a.y)
  refine⟨λh=>h1 (uC (uC h)),λx=> ?_, ?_⟩
  ·show x∈cJ (mZ (mZ acc a.x) a.y) r↔_
   have e:bQ (a::r)=([a.x,a.y]:List (List UInt8)).filter aS++bQ r:=by
    unfold bQ
    rw [List.flatMap_cons,List.filter_append]
   rw [h2 x,aBy,aBy,e,List.mem_append,List.mem_filter]
   simp only [List.mem_cons,List.not_mem_nil,or_false]
   constructor
   ·rintro(((h|h)|h)|h)
    ·exact .inl h
    ·exact .inr (.inl ⟨.inl h.1,by rw [h.1];exact h.2⟩)
    ·exact .inr (.inl ⟨.inr h.1,by rw [h.1];exact h.2⟩)
    ·exact .inr (.inr h)
   ·rintro(h|⟨h|h,k⟩|h)
    ·exact .inl (.inl (.inl h))
    ·exact .inl (.inl (.inr ⟨h,by rw [<-h];exact k⟩))
    ·exact .inl (.inr ⟨h,by rw [<-h];exact k⟩)
    ·exact .inr h
  ·have e1:=vU (mZ acc a.x) a.y
   have e2:=vU acc a.x
   show (cJ (mZ (mZ acc a.x) a.y) r).length<=_
   rw [List.length_cons]
   omega
theorem aCm (l:List At):(cJ [] l).length=(bQ l).eraseDups.length:=by
 obtain⟨h1,h2,_⟩:=jF l []
 refine List.Perm.length_eq ((List.perm_ext_iff_of_nodup (h1 List.nodup_nil) (kL _ _ (Nat.le_refl _))).2 λx=> ?_)
 rw [h2 x,List.mem_eraseDups]
 simp
theorem yL {l:List (List UInt8)}{s:List UInt8}{j:Nat}(h:zL s l=l.take j++zL s (l.drop j)) (hj:j=l.length\/ ∃h:j < l.length,Op.bytesLess l[j] s=false):zL s l=l.take j++s::l.drop j:=by
 rw [h]
 rcases hj with rfl|⟨hj,hb⟩
 ·rw [List.drop_length];rfl
 ·rw [List.drop_eq_getElem_cons hj,zL,if_neg (by rw [hb];simp)]
theorem aFy {l:List (List UInt8)}{s:List UInt8}{j:Nat}(hj:j < l.length) (h:zL s l=l.take j++zL s (l.drop j)) (hb:Op.bytesLess l[j] s=true):zL s l=l.take (j+1)++zL s (l.drop (j+1)):=by
 rw [h,List.drop_eq_getElem_cons hj,zL,if_pos hb,List.take_succ_eq_append_getElem hj,List.append_assoc]
 rfl
theorem mQ (l:List (List UInt8)) (s:List UInt8) (hl:l.length<=1000000):Tri Tryz.prog 174 [.d (.sl 1 (l.map aT)), .d (.str s)] [] (λr=>r= .d (.sl 1 ((mZ l s).map aT))):=by
 have hh:=jG l s
 have hta:(l.map aT).take l.length=l.map aT:=List.take_of_length_le (by simp)
 have hrl:(l.map aT).length=l.length:=List.length_map ..
 by_cases hin:aS s=true/\¬ s∈l
 case neg=>
  rw [show mZ l s=l from if_neg hin]
  by_cases hs:s∈l
  ·rw [decide_eq_true hs]at hh
   refine qG [] hty Tryz.func174 [0,1,4,5,18,31] ?_
   ((conv=>whnf);repeat' ((first|(intro hq;(try simp only [lnS]at hq);(try rewrite [List.length_map]))|refine sJ ?_|refine qE_ ?_|refine exL (k:=?_)| (refine⟨_,kT (by first|omega|(simp only [List.length_map];omega)), ?_⟩)|refine qT hh ?_|refine dwR ?_|((first|refine aB ?_ ?_|refine aC ?_ ?_)<;>intro hb<;>(first|exact ddX hb|try simp only [lnS]at hb))|(refine aA ?_ ?_<;>intro hb<;>try exact dsX hb))<;>(conv=>whnf)))
   all_goals rfl
  ·have hlk:aS s=false:=by simpa using λh=>hin ⟨h,hs⟩
   rw [decide_eq_false hs]at hh
   match s,hlk with
   | [],_=>
    refine qG [] hty Tryz.func174 [0,1,4,5,18,31] ?_
    ((conv=>whnf);repeat' ((first|(intro hq;(try simp only [lnS]at hq);(try rewrite [List.length_map]))|refine sJ ?_|refine qE_ ?_|refine exL (k:=?_)| (refine⟨_,kT (by first|omega|(simp only [List.length_map];omega)), ?_⟩)|refine qT hh ?_|refine dwR ?_|((first|refine aB ?_ ?_|refine aC ?_ ?_)<;>intro hb<;>(first|exact ddX hb|try simp only [lnS]at hb))|(refine aA ?_ ?_<;>intro hb<;>try exact dsX hb))<;>(conv=>whnf)))
    all_goals rfl
   |c::r,hlk=>
    have hc:¬ (c.toNat:Int)=63:=by
     intro e
     unfold aS at hlk
     rw [decide_eq_false_iff_not,List.head?_cons]at hlk
     exact hlk (congrArg some (UInt8.toNat_inj.1 (by have : (63 : UInt8).toNat = 63 := by decide
                                                     omega)))
    refine qG [] hty Tryz.func174 [0,1,4,5,18,31] ?_
    ((conv=>whnf);repeat ((first|(refine Exists.intro (show (_:Nat) < List.length _ from by simp) ?_) |(intro hq;try simp only [lnS]at hq)|refine sI ?_|refine qE_ ?_);conv=>whnf))
    refine aC (λh=> ?_) (λh=>absurd h hc)
    ((conv=>whnf);repeat ((first |(intro hq;try simp only [lnS]at hq)|refine sI ?_|refine qE_ ?_);conv=>whnf))
    rfl
 obtain⟨hlk,hs⟩:=hin
 rw [show mZ l s=zL s l from if_pos ⟨hlk,hs⟩]
 rw [decide_eq_false hs]at hh
 match s,hlk with
 | [],hlk=>exact absurd hlk (by decide)
 |c::r,hlk=>
  have hc:(c.toNat:Int)=63:=by
   unfold aS at hlk
   rw [decide_eq_true_eq,List.head?_cons]at hlk
   injection hlk with e
   rw [e];rfl
  refine qG [] hty Tryz.func174 [0,1,4,5,18,31] ?_
  ((conv=>whnf);repeat ((first|(refine Exists.intro (show (_:Nat) < List.length _ from by simp) ?_) |(intro hq;try simp only [lnS]at hq)|refine sI ?_|refine qE_ ?_);conv=>whnf))
  refine aC (λh=>absurd hc h) (λhx=> ?_)
  clear hx hc
  ((conv=>whnf);repeat ((first|refine qT hh ?_ |(intro hq;try simp only [lnS]at hq)|refine sI ?_|refine qE_ ?_);conv=>whnf))
  generalize c::r=s at *
  refine aG hty (λj:Nat=>([(0, .d (.sl 1 (l.map aT))),(1, .d (.str s)),(5, .d (.int .i64 j))],[])) (λj=>j<=l.length/\zL s l=l.take j++zL s (l.drop j)) (λj=>l.length - j) 0 ⟨by omega,by simp⟩ ⟨qB,qB⟩ ?_
  rintro j ⟨hj,hn⟩
  ((conv=>whnf);repeat ((first |(intro hq;try simp only [lnS]at hq)|refine sI ?_|refine qE_ ?_);conv=>whnf))
  refine aB (λh2=> ?_) (λh2=> ?_)
  ·have hjl:j < l.length:=by have h2:(j:Int) < ((l.map aT).length:Nat):=h2;rw [hrl]at h2;omega
   have hrow:(l.map aT)[((j:Nat):Int).toNat]? =some (aT l[j]):=aK hjl
   have hstep:=aFy hjl hn
   have hst:= λhb=>yL hn (.inr ⟨hjl,hb⟩)
   generalize l[j]=x at *
   ((conv=>whnf);repeat ((first|(refine⟨_,hrow, ?_⟩) |(intro hq;try simp only [lnS]at hq)|refine sI ?_|refine qE_ ?_);conv=>whnf))
   cases hb:Op.bytesLess x s
   ·have hst:=hst hb
    clear hstep
    ((conv=>whnf);repeat ((first |(intro hq;try simp only [lnS]at hq)|refine sI ?_|refine qE_ ?_);conv=>whnf))
    (refine bI (id:=6) hty (.first 1 (.first 2 (.first 3 (.first 5 (.first 8 (.first 9 (.first 10 (.alt 0 (.alt 4 (.alt 6 (.alt 7 (.alt 11 (.first 12 .done) .stop) .stop) .stop) (.alt 6 (.alt 4 (.alt 7 (.alt 11 (.first 12 .done) .stop) .stop) .stop) .stop)) (.alt 6 (.alt 0 (.alt 4 (.alt 7 (.alt 11 (.first 12 .done) .stop) .stop) .stop) .stop) .stop))))))))) (by kernel_rfl) (by kernel_rfl) ?_)
    ((conv=>whnf);repeat' ((first|(intro hq;(try simp only [lnS]at hq);(try rewrite [List.length_map]))|refine sJ ?_|refine qE_ ?_|refine exL (k:=?_)| (refine And.intro (by simp only [List.length_replicate,List.length_drop,List.length_take,List.length_map,List.length_append,List.length_cons,List.length_nil];omega) ?_)|exact trivial|(refine And.intro ?_ ?_)|refine dwR ?_|((first|refine aB ?_ ?_|refine aC ?_ ?_)<;>intro hb<;>(first|exact ddX hb|try simp only [lnS]at hb))|(refine aA ?_ ?_<;>intro hb<;>try exact dsX hb))<;>(conv=>whnf)))
    all_goals
     rw [hst]
     refine congrArg (λq=>SV.d (.sl 1 q)) ?_
     simp [hta,aT,List.map_append,List.map_take,List.map_drop]
   ·((conv=>whnf);repeat' ((first|(intro hq;(try simp only [lnS]at hq);(try rewrite [List.length_map]))|refine sJ ?_|refine qE_ ?_|refine exL (k:=?_)|refine dwR ?_|((first|refine aB ?_ ?_|refine aC ?_ ?_)<;>intro hb<;>(first|exact ddX hb|try simp only [lnS]at hb))|(refine aA ?_ ?_<;>intro hb<;>try exact dsX hb))<;>(conv=>whnf)))
    exact⟨j+1,⟨by omega,hstep hb⟩,qO,⟨qB,qB⟩⟩
  ·have hjl:j=l.length:=by have h2:¬ (j:Int) < ((l.map aT).length:Nat):=h2;rw [hrl]at h2;omega
   have hst:=yL hn (.inl hjl)
   ((conv=>whnf);repeat ((first |(intro hq;try simp only [lnS]at hq)|refine sI ?_|refine qE_ ?_);conv=>whnf))
   (refine bI (id:=6) hty (.first 1 (.first 2 (.first 3 (.first 5 (.first 8 (.first 9 (.first 10 (.alt 0 (.alt 4 (.alt 6 (.alt 7 (.alt 11 (.first 12 .done) .stop) .stop) .stop) (.alt 6 (.alt 4 (.alt 7 (.alt 11 (.first 12 .done) .stop) .stop) .stop) .stop)) (.alt 6 (.alt 0 (.alt 4 (.alt 7 (.alt 11 (.first 12 .done) .stop) .stop) .stop) .stop) .stop))))))))) (by kernel_rfl) (by kernel_rfl) ?_)
   ((conv=>whnf);repeat' ((first|(intro hq;(try simp only [lnS]at hq);(try rewrite [List.length_map]))|refine sJ ?_|refine qE_ ?_|refine exL (k:=?_)| (refine And.intro (by simp only [List.length_replicate,List.length_drop,List.length_take,List.length_map,List.length_append,List.length_cons,List.length_nil];omega) ?_)|exact trivial|(refine And.intro ?_ ?_)|refine dwR ?_|((first|refine aB ?_ ?_|refine aC ?_ ?_)<;>intro hb<;>(first|exact ddX hb|try simp only [lnS]at hb))|(refine aA ?_ ?_<;>intro hb<;>try exact dsX hb))<;>(conv=>whnf)))
   all_goals
    rw [hst]
    refine congrArg (λq=>SV.d (.sl 1 q)) ?_
    simp [hta,aT,List.map_append,List.map_take,List.map_drop]
end
section
open Go.Proofs Go.RowKit
set_option maxRecDepth 10000
attribute [local irreducible] aH aF Tri aD YVC bO aP
theorem iK (p:List At) (hl:p.length<=100000):Tri Tryz.prog 115 [.d (.agg (aI p))] [] (λr=>r= .d (.sl 1 ((cJ [] p).map aT))):=by
 have hpl:(p.map atR).length=p.length:=List.length_map ..
 refine Tri.says ?_
 show Tri Tryz.prog 115 [.d (.agg [.sl 6 (p.map atR)])] [] _
 refine qG [1] hty Tryz.func115 [0,1,2,3,4,10] ?_
 ((conv=>whnf);repeat ((first |(intro hq;try simp only [lnS]at hq)|refine sI ?_|refine qE_ ?_);conv=>whnf))
 refine aG hty (λj:Nat=>([(1, .ea 1 [[.sl 6 (p.map atR)]] 0 0),(3, .d (.sl 1 ((cJ [] (p.take j)).map aT))),(4, .d (.int .i64 j))],[])) (λj=>j<=p.length) (λj=>p.length - j) 0 (by omega) ⟨qB,qB⟩ ?_
 rintro j hj
 ((conv=>whnf);repeat ((first |(intro hq;try simp only [lnS]at hq)|refine sI ?_|refine qE_ ?_);conv=>whnf))
 rw [hpl]
 refine aB (λh1=> ?_) (λh1=> ?_)
 ·have hjl:j < p.length:=by omega
  have hrow:(p.map atR)[(j:Int).toNat]? =some (atR p[j]):=aK hjl
  have hnx:cJ [] (p.take (j+1))=mZ (mZ (cJ [] (p.take j)) p[j].x) p[j].y:=by rw [List.take_succ_eq_append_getElem hjl,oO]
  have hlen:=(jF (p.take j) []).2.2
  rw [List.length_take]at hlen
  simp only [List.length_nil]at hlen
  generalize cJ [] (p.take j)=acc at *
  generalize p[j]=a at *
  obtain⟨kd,nm,xx,yy,lo,hi⟩:=a
  rw [show atR ⟨kd,nm,xx,yy,lo,hi⟩=[.int .i64 kd, .str nm, .str xx, .str yy, .int .i64 lo, .int .i64 hi]from rfl]at hrow
  dsimp only at hnx
  have h2:=vU acc xx
  have c1:=mQ acc xx (by omega)
  have c2:=mQ (mZ acc xx) yy (by omega)
  rw [<-hnx]at c2
  clear h2 hlen
  generalize mZ acc xx=acc1 at *
  refine aH.mid [(1, .ea 1 [[.sl 6 (p.map atR)]] 0 0),(3, .d (.sl 1 ((cJ [] (p.take (j+1))).map aT))),(4, .d (.int .i64 j))] [] ?_ ?_
  ·(refine bI (id:=5) hty (.first 0 (.first 1 (.first 2 (.first 3 (.first 4 (.first 5 (.first 6 (.first 8 (.first 9 (.first 10 (.first 11 (.first 12 (.first 13 (.alt 7 (.alt 14 (.first 15 .done) .stop) .stop)))))))))))))) (by kernel_rfl) (by kernel_rfl) ?_)
   ((conv=>whnf);repeat' ((first|(intro hq;(try simp only [lnS]at hq);(try rewrite [List.length_map]))|refine sJ ?_|refine qE_ ?_|refine exL (k:=?_)| (refine⟨_,hrow, ?_⟩)|refine qT c1 ?_|refine qT c2 ?_|exact trivial|(refine And.intro ?_ ?_)|refine dwR ?_|((first|refine aB ?_ ?_|refine aC ?_ ?_)<;>intro hb<;>(first|exact ddX hb|try simp only [lnS]at hb))|(refine aA ?_ ?_<;>intro hb<;>try exact dsX hb))<;>(conv=>whnf)))
   all_goals exact⟨qB,qB⟩
  ((conv=>whnf);repeat ((first |(intro hq;try simp only [lnS]at hq)|refine sI ?_|refine qE_ ?_);conv=>whnf))
  exact⟨j+1,qO,qO,⟨qB,qB⟩⟩
 ·have hjl:j=p.length:=by omega
  subst hjl
  rw [List.take_length]
  ((conv=>whnf);repeat ((first |(intro hq;try simp only [lnS]at hq)|refine sI ?_|refine qE_ ?_);conv=>whnf))
  exact⟨_, .refl _,rfl⟩
theorem aNc {p:List At}{s:List UInt8}(hp: ∀a∈p,atE a=0) (hs:lU s=true):(p.any λa=>decide (s∈aEe a))=decide (s∈bQ p):=by
 have hlk:aS s=true:=by
  unfold lU at hs
  simp only [Bool.and_eq_true,decide_eq_true_eq]at hs
  unfold aS
  rw [decide_eq_true_eq]
  exact hs.2.2.1.1
 have hne:s≠[]:= λe=>by rw [e]at hlk;exact absurd hlk (by decide)
 rw [Bool.eq_iff_iff,List.any_eq_true,decide_eq_true_eq]
 unfold bQ
 rw [List.mem_filter,List.mem_flatMap]
 constructor
 ·rintro⟨a,ha,h⟩
  rw [decide_eq_true_eq]at h
  refine⟨⟨a,ha, ?_⟩,hlk⟩
  unfold aEe at h
  split at h
  ·exact h
  ·simp only [List.mem_singleton]at h
   rw [h];simp
 ·rintro⟨⟨a,ha,h⟩,_⟩
  refine⟨a,ha, ?_⟩
  rw [decide_eq_true_eq]
  unfold aEe
  split
  ·exact h
  ·rename_i hk
   have hy:a.y=[]:=by
    have h0:=hp a ha
    unfold atE at h0
    split at h0
    ·simp at h0
    ·split at h0
     ·simp at h0
     ·rename_i h2
      exact Decidable.byContradiction λe=>h2 (.inl ⟨hk,e⟩)
   rw [hy]at h
   simp only [List.mem_cons,List.not_mem_nil,or_false]at h
   rcases h with h|h
   ·rw [h];simp
   ·exact absurd h hne
end
section
open Go.Proofs Go.RowKit
set_option maxRecDepth 10000
attribute [local irreducible] aH aF Tri aD YVC bO aP
theorem tK (q:Qy):Tri Tryz.prog 76 [.d (.agg (qyR q))] [] (λr=>r= .d (.int .i64 (qE q))):=by
 rw [aIa]
 obtain⟨told,parts⟩:=q
 dsimp only
 show Tri Tryz.prog 76 [.d (.agg [.sl 1 (told.map aT), .sl 1 (parts.map aI)])] [] _
 have hlt:(told.map aT).length=told.length:=List.length_map ..
 have hlp:(parts.map aI).length=parts.length:=List.length_map ..
 by_cases h1:parts.length < 1\/4 < parts.length\/3 < told.length
 ·rw [show gK ⟨told,parts⟩=210 from if_pos h1,if_pos (by decide)]
  refine qG [1] hty Tryz.func76 [0,1,2,3,4,5,6,7,8,9,10,26,31,51,56,67,81,87,96,101,113,118,132,137,147] ?_
  ((conv=>whnf);repeat' ((first|(intro hq;(try simp only [lnS]at hq);(try rewrite [List.length_map]))|refine sJ ?_|refine qE_ ?_|refine exL (k:=?_)|refine dwR ?_|((first|refine aB ?_ ?_|refine aC ?_ ?_)<;>intro hb<;>(first|exact ddX hb|try simp only [lnS]at hb))|(refine aA ?_ ?_<;>intro hb<;>try exact dsX hb))<;>(conv=>whnf)))
  all_goals first|rfl|(exfalso;omega)
 rw [show gK ⟨told,parts⟩=if parts.any (λp=>decide (p.length < 1) || decide (12 < p.length))then 210 else 0 from if_neg h1]
 refine qG [1] hty Tryz.func76 [0,1,2,3,4,5,6,7,8,9,10,26,31,51,56,67,81,87,96,101,113,118,132,137,147] ?_
 ((conv=>whnf);repeat ((first |(intro hq;try simp only [lnS]at hq)|refine sI ?_|refine qE_ ?_);conv=>whnf))
 rw [hlp]
 refine aB (λh=>absurd h (by omega)) (λ_=> ?_)
 ((conv=>whnf);repeat ((first |(intro hq;try simp only [lnS]at hq)|refine sI ?_|refine qE_ ?_);conv=>whnf))
 rw [hlp]
 refine aB (λh=>absurd h (by omega)) (λ_=> ?_)
 ((conv=>whnf);repeat ((first |(intro hq;try simp only [lnS]at hq)|refine sI ?_|refine qE_ ?_);conv=>whnf))
 rw [hlt]
 refine aB (λh=>absurd h (by omega)) (λ_=> ?_)
 ((conv=>whnf);repeat ((first |(intro hq;try simp only [lnS]at hq)|refine sI ?_|refine qE_ ?_);conv=>whnf))
 refine aG hty (λj:Nat=>([(1, .ea 2 [[.sl 1 (told.map aT), .sl 1 (parts.map aI)]] 0 0),(3, .d (.int .i64 j))],[])) (λj=>j<=parts.length/\(parts.take j).any (λp=>decide (p.length < 1) || decide (12 < p.length))=false) (λj=>parts.length - j) 0 ⟨by omega,rfl⟩ ⟨qB,qB⟩ ?_
 rintro j ⟨hj,hn⟩
 ((conv=>whnf);repeat ((first |(intro hq;try simp only [lnS]at hq)|refine sI ?_|refine qE_ ?_);conv=>whnf))
 rw [hlp]
 refine aB (λh2=> ?_) (λh2=> ?_)
 ·have hjl:j < parts.length:=by omega
  have hrow:(parts.map aI)[(j:Int).toNat]? =some (aI parts[j]):=aK hjl
  have hhit:=iE (F:= λp:List At=>decide (p.length < 1) || decide (12 < p.length)) hjl
  have hsuc:=fE (F:= λp:List At=>decide (p.length < 1) || decide (12 < p.length)) hjl hn
  generalize parts[j]=x at hrow hhit hsuc
  rw [show aI x=[.sl 6 (x.map atR)]from rfl]at hrow
  have hlx:(x.map atR).length=x.length:=List.length_map ..
  ((conv=>whnf);repeat' ((first|(intro hq;(try simp only [lnS]at hq);(try rewrite [List.length_map]))|refine sJ ?_|refine qE_ ?_|refine exL (k:=?_)| (refine⟨_,hrow, ?_⟩)|refine dwR ?_|((first|refine aB ?_ ?_|refine aC ?_ ?_)<;>intro hb<;>(first|exact ddX hb|try simp only [lnS]at hb))|(refine aA ?_ ?_<;>intro hb<;>try exact dsX hb))<;>(conv=>whnf)))
  ·rw [hhit (by rw [Bool.or_eq_true,decide_eq_true_eq,decide_eq_true_eq];omega)];rfl
  ·rw [hhit (by rw [Bool.or_eq_true,decide_eq_true_eq,decide_eq_true_eq];omega)];rfl
  ·exact⟨j+1,⟨by omega,hsuc (by rw [Bool.or_eq_false_iff,decide_eq_false_iff_not,decide_eq_false_iff_not];omega)⟩,qO,⟨qB,qB⟩⟩
 have hjl:j=parts.length:=by omega
 subst hjl
 rw [List.take_length]at hn
 have hpl: ∀p∈parts,p.length<=12:=by
  intro p hp
  have:=List.any_eq_false.1 hn p hp
  simp at this
  omega
 rw [hn,if_neg (by decide)]
 clear hn h2 hj
 ((conv=>whnf);repeat ((first |(intro hq;try simp only [lnS]at hq)|refine sI ?_|refine qE_ ?_);conv=>whnf))
 refine aG hty (λj:Nat=>([(1, .ea 2 [[.sl 1 (told.map aT), .sl 1 (parts.map aI)]] 0 0),(4, .d (.int .i64 j))],[])) (λj=>j<=parts.length/\bS parts.flatten=bS (parts.drop j).flatten) (λj=>parts.length - j) 0 ⟨by omega,rfl⟩ ⟨qB,qB⟩ ?_
 rintro j ⟨hj,hf⟩
 ((conv=>whnf);repeat ((first |(intro hq;try simp only [lnS]at hq)|refine sI ?_|refine qE_ ?_);conv=>whnf))
 rw [hlp]
 refine aB (λh2=> ?_) (λh2=> ?_)
 ·have hjl:j < parts.length:=by omega
  have hrow:(parts.map aI)[(j:Int).toNat]? =some (aI parts[j]):=aK hjl
  rw [List.drop_eq_getElem_cons hjl,List.flatten_cons]at hf
  generalize parts[j]=x at hrow hf
  rw [show aI x=[.sl 6 (x.map atR)]from rfl]at hrow
  have hlx:(x.map atR).length=x.length:=List.length_map ..
  ((conv=>whnf);repeat ((first |(intro hq;try simp only [lnS]at hq)|refine sI ?_|refine qE_ ?_);conv=>whnf))
  refine aG hty (λi:Nat=>([(1, .ea 2 [[.sl 1 (told.map aT), .sl 1 (parts.map aI)]] 0 0),(4, .d (.int .i64 j)),(5, .d (.int .i64 i))],[])) (λi=>i<=x.length/\bS parts.flatten=bS (x.drop i++(parts.drop (j+1)).flatten)) (λi=>x.length - i) 0 ⟨by omega,hf⟩ ⟨qB,qB⟩ ?_
  rintro i ⟨hi,hg⟩
  ((conv=>whnf);repeat ((first|(refine⟨_,hrow, ?_⟩) |(intro hq;try simp only [lnS]at hq)|refine sI ?_|refine qE_ ?_);conv=>whnf))
  rw [hlx]
  refine aB (λh4=> ?_) (λh4=> ?_)
  ·have hil:i < x.length:=by omega
   have hrow2:(x.map atR)[(i:Int).toNat]? =some (atR x[i]):=aK hil
   rw [List.drop_eq_getElem_cons hil,List.cons_append,bS]at hg
   generalize x[i]=y at hrow2 hg
   have ha:=aCo y
   generalize atE y=ae at ha hg
   obtain⟨kd,nm,xx,yy,lo,hi'⟩:=y
   rw [show atR ⟨kd,nm,xx,yy,lo,hi'⟩=[.int .i64 kd, .str nm, .str xx, .str yy, .int .i64 lo, .int .i64 hi']from rfl]at hrow2 ha
   ((conv=>whnf);repeat' ((first|(intro hq;(try simp only [lnS]at hq);(try rewrite [List.length_map]))|refine sJ ?_|refine qE_ ?_|refine exL (k:=?_)| (refine⟨_,hrow, ?_⟩)|(refine⟨_,hrow2, ?_⟩)|refine qT ha ?_|refine dwR ?_|((first|refine aB ?_ ?_|refine aC ?_ ?_)<;>intro hb<;>(first|exact ddX hb|try simp only [lnS]at hb))|(refine aA ?_ ?_<;>intro hb<;>try exact dsX hb))<;>(conv=>whnf)))
   ·rw [hg,if_pos hb,if_pos hb];rfl
   ·exact⟨i+1,⟨by omega,by rw [hg,if_neg (by simpa using hb)]⟩,qO,⟨qB,qB⟩⟩
  ·have hil:i=x.length:=by omega
   subst hil
   rw [List.drop_length,List.nil_append]at hg
   ((conv=>whnf);repeat ((first |(intro hq;try simp only [lnS]at hq)|refine sI ?_|refine qE_ ?_);conv=>whnf))
   exact⟨j+1,⟨by omega,hg⟩,qO,⟨qB,qB⟩⟩
 have hjl:j=parts.length:=by omega
 subst hjl
 rw [List.drop_length]at hf
 have hf:bS parts.flatten=0:=hf
 have hat: ∀p∈parts,∀a∈p,atE a=0:= λp hp a ha=>(eF _).1 hf a (List.mem_flatten.2 ⟨p,hp,ha⟩)
 rw [if_neg (by simpa using hf)]
 clear hf hj h2
 rw [aB3]
 ((conv=>whnf);repeat ((first |(intro hq;try simp only [lnS]at hq)|refine sI ?_|refine qE_ ?_);conv=>whnf))
 refine aG hty (λj:Nat=>([(1, .ea 2 [[.sl 1 (told.map aT), .sl 1 (parts.map aI)]] 0 0),(7, .d (.int .i64 j))],[])) (λj=>j<=told.length/\(told.take j).any (λt=> !lU t)=false) (λj=>told.length - j) 0 ⟨by omega,rfl⟩ ⟨qB,qB⟩ ?_
 rintro j ⟨hj,hn⟩
 ((conv=>whnf);repeat ((first |(intro hq;try simp only [lnS]at hq)|refine sI ?_|refine qE_ ?_);conv=>whnf))
 rw [hlt]
 refine aB (λh2=> ?_) (λh2=> ?_)
 ·have hjl:j < told.length:=by omega
  have hrow:(told.map aT)[(j:Int).toNat]? =some (aT told[j]):=aK hjl
  have hhit:=iE (F:= λt:List UInt8=> !lU t) hjl
  have hsuc:=fE (F:= λt:List UInt8=> !lU t) hjl hn
  generalize told[j]=x at hrow hhit hsuc
  ((conv=>whnf);repeat' ((first|(intro hq;(try simp only [lnS]at hq);(try rewrite [List.length_map]))|refine sJ ?_|refine qE_ ?_|refine exL (k:=?_)| (refine⟨_,hrow, ?_⟩)|refine qT (eH x) ?_|refine dwR ?_|((first|refine aB ?_ ?_|refine aC ?_ ?_)<;>intro hb<;>(first|exact ddX hb|try simp only [lnS]at hb))|(refine aA ?_ ?_<;>intro hb<;>try exact dsX hb))<;>(conv=>whnf)))
  ·rw [if_pos (hhit hb),if_pos (by decide)];rfl
  ·exact⟨j+1,⟨by omega,hsuc hb⟩,qO,⟨qB,qB⟩⟩
 have hjl:j=told.length:=by omega
 subst hjl
 rw [List.take_length]at hn
 have hvar: ∀t∈told,lU t=true:= λt ht=>by
  have:=List.any_eq_false.1 hn t ht
  simpa using this
 rw [if_neg (show ¬ (told.any (λt=> !lU t)=true)by rw [hn];decide)]
 clear hn h2 hj
 ((conv=>whnf);repeat ((first |(intro hq;try simp only [lnS]at hq)|refine sI ?_|refine qE_ ?_);conv=>whnf))
 refine aG hty (λj:Nat=>([(1, .ea 2 [[.sl 1 (told.map aT), .sl 1 (parts.map aI)]] 0 0),(8, .d (.int .i64 j))],[])) (λj=>j<=told.length/\(List.range j).any (aDv told parts)=false) (λj=>told.length - j) 0 ⟨by omega,rfl⟩ ⟨qB,qB⟩ ?_
 rintro j ⟨hj,hn⟩
 ((conv=>whnf);repeat ((first |(intro hq;try simp only [lnS]at hq)|refine sI ?_|refine qE_ ?_);conv=>whnf))
 rw [hlt]
 refine aB (λh2=> ?_) (λh2=> ?_)
 ·have hjl:j < told.length:=by omega
  have hrow:(told.map aT)[(j:Int).toNat]? =some (aT told[j]):=aK hjl
  have hhit:=kX (F:=aDv told parts) hjl
  have hsuc:=jY (F:=aDv told parts) hn
  have hbad:aDv told parts j=(decide (told[j]∈told.take j) || parts.any (λp=> !decide (told[j]∈bQ p))):=by
   unfold aDv
   rw [show told.getD j []=told[j]by rw [List.getD_eq_getElem?_getD,List.getElem?_eq_getElem hjl];rfl,List.contains_eq_mem]
   simp only [List.contains_eq_mem]
  have hv:=hvar told[j] (List.getElem_mem hjl)
  have hc:=jG (told.take j) told[j]
  generalize told[j]=x at hrow hbad hc hv
  rw [show aKw (told.take j)= .sl 1 ((told.take j).map aT)from rfl,List.map_take]at hc
  rw [hbad]at hhit hsuc
  (refine bI (id:=25) hty (.first 0 (.first 1 (.first 2 (.first 3 (.first 4 (.first 5 (.first 6 (.first 7 (.first 8 (.alt 9 .done .stop)))))))))) (by kernel_rfl) (by kernel_rfl) ?_)
  ((conv=>whnf);repeat' ((first|(intro hq;(try simp only [lnS]at hq);(try rewrite [List.length_map]))|refine sJ ?_|refine qE_ ?_|refine exL (k:=?_)| (refine⟨_,hrow, ?_⟩)|refine qT hc ?_|exact trivial|(refine And.intro ?_ ?_)|refine dwR ?_|((first|refine aB ?_ ?_|refine aC ?_ ?_)<;>intro hb<;>(first|exact ddX hb|try simp only [lnS]at hb))|(refine aA ?_ ?_<;>intro hb<;>try exact dsX hb))<;>(conv=>whnf)))
  ·rw [if_pos (hhit (by rw [decide_eq_true hb];rfl)),if_pos (by decide)];rfl
  ·rw [decide_eq_false hb,Bool.false_or]at hhit hsuc
   refine aG hty (λi:Nat=>([(1, .ea 2 [[.sl 1 (told.map aT), .sl 1 (parts.map aI)]] 0 0),(8, .d (.int .i64 j)),(9, .d (.int .i64 i))],[])) (λi=>i<=parts.length/\(parts.take i).any (λp=> !decide (x∈bQ p))=false) (λi=>parts.length - i) 0 ⟨by omega,rfl⟩ ⟨qB,qB⟩ ?_
   rintro i ⟨hi,hm⟩
   ((conv=>whnf);repeat ((first |(intro hq;try simp only [lnS]at hq)|refine sI ?_|refine qE_ ?_);conv=>whnf))
   rw [hlp]
   refine aB (λh4=> ?_) (λh4=> ?_)
   ·have hil:i < parts.length:=by omega
    have hrow2:(parts.map aI)[(i:Int).toNat]? =some (aI parts[i]):=aK hil
    have hhit2:=iE (F:= λp:List At=> !decide (x∈bQ p)) hil
    have hsuc2:=fE (F:= λp:List At=> !decide (x∈bQ p)) hil hm
    have hoc:=wU parts[i] x
    rw [aNc (hat _ (List.getElem_mem hil)) hv]at hoc
    generalize parts[i]=y at hrow2 hhit2 hsuc2 hoc
    rw [show aI y=[.sl 6 (y.map atR)]from rfl]at hrow2 hoc
    (refine bI (id:=30) hty (.first 0 (.first 1 (.first 2 (.first 3 (.first 4 (.first 5 (.first 6 (.first 7 (.first 8 (.first 9 (.alt 10 (.first 11 .done) .stop))))))))))) (by kernel_rfl) (by kernel_rfl) ?_)
    ((conv=>whnf);repeat' ((first|(intro hq;(try simp only [lnS]at hq);(try rewrite [List.length_map]))|refine sJ ?_|refine qE_ ?_|refine exL (k:=?_)| (refine⟨_,hrow2, ?_⟩)|(refine⟨_,hrow, ?_⟩)|refine qT hoc ?_|exact trivial|(refine And.intro ?_ ?_)|refine dwR ?_|((first|refine aB ?_ ?_|refine aC ?_ ?_)<;>intro hb<;>(first|exact ddX hb|try simp only [lnS]at hb))|(refine aA ?_ ?_<;>intro hb<;>try exact dsX hb))<;>(conv=>whnf)))
    ·rw [if_pos (hhit (hhit2 (by rw [decide_eq_false hb];rfl))),if_pos (by decide)];rfl
    ·exact⟨i+1,⟨by omega,hsuc2 (by rw [decide_eq_true hb];rfl)⟩,qO,⟨qB,qB⟩⟩
   ·have hil:i=parts.length:=by omega
    subst hil
    rw [List.take_length]at hm
    ((conv=>whnf);repeat ((first |(intro hq;try simp only [lnS]at hq)|refine sI ?_|refine qE_ ?_);conv=>whnf))
    exact⟨j+1,⟨by omega,hsuc hm⟩,qO,⟨qB,qB⟩⟩
 have hjl:j=told.length:=by omega
 subst hjl
 rw [if_neg (show ¬ ((List.range told.length).any (aDv told parts)=true)by rw [hn];decide),if_neg (by decide)]
 clear hn h2 hj
 ((conv=>whnf);repeat ((first |(intro hq;try simp only [lnS]at hq)|refine sI ?_|refine qE_ ?_);conv=>whnf))
 refine aG hty (λj:Nat=>([(1, .ea 2 [[.sl 1 (told.map aT), .sl 1 (parts.map aI)]] 0 0),(10, .d (.int .i64 j))],[])) (λj=>j<=parts.length/\(parts.take j).any (λp=>decide (8 < (bQ p).eraseDups.length))=false) (λj=>parts.length - j) 0 ⟨by omega,rfl⟩ ⟨qB,qB⟩ ?_
 rintro j ⟨hj,hm⟩
 ((conv=>whnf);repeat ((first |(intro hq;try simp only [lnS]at hq)|refine sI ?_|refine qE_ ?_);conv=>whnf))
 rw [hlp]
 refine aB (λh4=> ?_) (λh4=> ?_)
 ·have hil:j < parts.length:=by omega
  have hrow2:(parts.map aI)[(j:Int).toNat]? =some (aI parts[j]):=aK hil
  have hhit2:=iE (F:= λp:List At=>decide (8 < (bQ p).eraseDups.length)) hil
  have hsuc2:=fE (F:= λp:List At=>decide (8 < (bQ p).eraseDups.length)) hil hm
  have hv:=iK parts[j] (by have:=hpl _ (List.getElem_mem hil);omega)
  have hvl:=aCm parts[j]
  generalize parts[j]=y at hrow2 hhit2 hsuc2 hv hvl
  rw [<-hvl]at hhit2 hsuc2
  generalize cJ [] y=vy at hv hvl hhit2 hsuc2
  rw [show aI y=[.sl 6 (y.map atR)]from rfl]at hrow2 hv
  have hlv:(vy.map aT).length=vy.length:=List.length_map ..
  ((conv=>whnf);repeat' ((first|(intro hq;(try simp only [lnS]at hq);(try rewrite [List.length_map]))|refine sJ ?_|refine qE_ ?_|refine exL (k:=?_)| (refine⟨_,hrow2, ?_⟩)|refine qT hv ?_|refine dwR ?_|((first|refine aB ?_ ?_|refine aC ?_ ?_)<;>intro hb<;>(first|exact ddX hb|try simp only [lnS]at hb))|(refine aA ?_ ?_<;>intro hb<;>try exact dsX hb))<;>(conv=>whnf)))
  ·rw [if_pos (hhit2 (by rw [decide_eq_true_eq];omega))];rfl
  ·exact⟨j+1,⟨by omega,hsuc2 (by rw [decide_eq_false_iff_not];omega)⟩,qO,⟨qB,qB⟩⟩
 ·have hil:j=parts.length:=by omega
  subst hil
  rw [List.take_length]at hm
  rw [if_neg (by rw [hm];decide)]
  ((conv=>whnf);repeat ((first |(intro hq;try simp only [lnS]at hq)|refine sI ?_|refine qE_ ?_);conv=>whnf))
  rfl
end
section
open Go.Proofs Go.RowKit
set_option maxRecDepth 10000
attribute [local irreducible] aH aF Tri aD YVC bO aP
theorem aEa:Tri Tryz.prog 123 [.d .nil] [] (λr=>r= .d (.int .i64 0)):=by
 refine qG [] hty Tryz.func123 [0,2,3,4,8,17] ?_
 ((conv=>whnf);repeat' ((first|(intro hq;(try simp only [lnS]at hq);(try rewrite [List.length_map]))|refine sJ ?_|refine qE_ ?_|refine exL (k:=?_)| (refine dC hty 2 ?_)|refine dwR ?_|((first|refine aB ?_ ?_|refine aC ?_ ?_)<;>intro hb<;>(first|exact ddX hb|try simp only [lnS]at hb))|(refine aA ?_ ?_<;>intro hb<;>try exact dsX hb))<;>(conv=>whnf)))
 rfl
theorem aHp (s:List UInt8) (hn:cQ s=true):Tri Tryz.prog 80 [.d .nil, .d (.str s)] [] (λr=>r= .tup [.d (.bool true), .d (.int .i64 0)]):=by
 have hc:=fM s
 rw [if_pos hn]at hc
 refine qG [] hty Tryz.func80 [0,1,4,5,6,7,11,15,19,46] ?_
 ((conv=>whnf);repeat' ((first|(intro hq;(try simp only [lnS]at hq);(try rewrite [List.length_map]))|refine sJ ?_|refine qE_ ?_|refine exL (k:=?_)| refine qT aEa ?_|refine qT hc ?_|(refine dC hty 2 ?_)|refine dwR ?_|((first|refine aB ?_ ?_|refine aC ?_ ?_)<;>intro hb<;>(first|exact ddX hb|try simp only [lnS]at hb))|(refine aA ?_ ?_<;>intro hb<;>try exact dsX hb))<;>(conv=>whnf)))
 rfl
theorem kE (q:Qy):Tri Tryz.prog 42 [.d (.agg (qyR q)), .d .nil] [] (λr=>r= .d (.int .i64 (qE q))):=by
 have hform:=tK q
 have hok:qE q=0-> ∀p∈q.parts,∀a∈p,cQ a.name=true:=by
  intro h p hp a ha
  rw [aIa]at h
  split at h
  ·exact absurd h (by assumption)
  ·split at h
   ·exact absurd h (by assumption)
   ·rename_i h2
    exact aCe ((eF _).1 (Decidable.not_not.1 h2) a (List.mem_flatten.2 ⟨p,hp,ha⟩))
 generalize qE q=e at *
 obtain⟨told,parts⟩:=q
 dsimp only at hok
 rw [show qyR ⟨told,parts⟩=[.sl 1 (told.map aT), .sl 1 (parts.map aI)]from rfl]at *
 have hlp:(parts.map aI).length=parts.length:=List.length_map ..
 refine qG [2,10] hty Tryz.func42 [0,1,2,4,5,6,7,8,9,10,11,12,17,22,31,37,48,62,88,97] ?_
 ((conv=>whnf);repeat ((first|refine qT hform ?_ |(intro hq;try simp only [lnS]at hq)|refine sI ?_|refine qE_ ?_);conv=>whnf))
 refine aC (λh1=> ?_) (λh1=> ?_)
 ·((conv=>whnf);repeat ((first |(intro hq;try simp only [lnS]at hq)|refine sI ?_|refine qE_ ?_);conv=>whnf))
  rfl
 have h1:e=0:=by simpa using h1
 subst h1
 have hok:=hok rfl
 clear hform
 ((conv=>whnf);repeat ((first |(intro hq;try simp only [lnS]at hq)|refine sI ?_|refine qE_ ?_);conv=>whnf))
 refine dC hty 2 ?_
 ((conv=>whnf);repeat ((first |(intro hq;try simp only [lnS]at hq)|refine sI ?_|refine qE_ ?_);conv=>whnf))
 refine aG hty (λj:Nat=>([(1, .d .nil),(2, .ea 2 [[.sl 1 (told.map aT), .sl 1 (parts.map aI)]] 0 0),(8, .d (.int .i64 j))],[])) (λj=>j<=parts.length) (λj=>parts.length - j) 0 (by omega) ⟨qB,qB⟩ ?_
 rintro j hj
 ((conv=>whnf);repeat ((first |(intro hq;try simp only [lnS]at hq)|refine sI ?_|refine qE_ ?_);conv=>whnf))
 rw [hlp]
 refine aB (λh2=> ?_) (λh2=> ?_)
 ·have hjl:j < parts.length:=by omega
  have hrow:(parts.map aI)[(j:Int).toNat]? =some (aI parts[j]):=aK hjl
  have hnx:=hok _ (List.getElem_mem hjl)
  generalize parts[j]=x at hrow hnx
  rw [show aI x=[.sl 6 (x.map atR)]from rfl]at hrow
  have hlx:(x.map atR).length=x.length:=List.length_map ..
  ((conv=>whnf);repeat ((first |(intro hq;try simp only [lnS]at hq)|refine sI ?_|refine qE_ ?_);conv=>whnf))
  refine aG hty (λi:Nat=>([(1, .d .nil),(2, .ea 2 [[.sl 1 (told.map aT), .sl 1 (parts.map aI)]] 0 0),(8, .d (.int .i64 j)),(9, .d (.int .i64 i))],[])) (λi=>i<=x.length) (λi=>x.length - i) 0 (by omega) ⟨qB,qB⟩ ?_
  rintro i hi
  ((conv=>whnf);repeat ((first|(refine⟨_,hrow, ?_⟩) |(intro hq;try simp only [lnS]at hq)|refine sI ?_|refine qE_ ?_);conv=>whnf))
  rw [hlx]
  refine aB (λh4=> ?_) (λh4=> ?_)
  ·have hil:i < x.length:=by omega
   have hrow2:(x.map atR)[(i:Int).toNat]? =some (atR x[i]):=aK hil
   have hny:=hnx _ (List.getElem_mem hil)
   generalize x[i]=y at hrow2 hny
   obtain⟨kd,nm,xx,yy,lo,hi'⟩:=y
   rw [show atR ⟨kd,nm,xx,yy,lo,hi'⟩=[.int .i64 kd, .str nm, .str xx, .str yy, .int .i64 lo, .int .i64 hi']from rfl]at hrow2
   dsimp only at hny
   have hs:=aHp nm hny
   have c1:=eH xx
   have c2:=eH yy
   have c3:=jG told xx
   have c4:=jG told yy
   ((conv=>whnf);repeat' ((first|(intro hq;(try simp only [lnS]at hq);(try rewrite [List.length_map]))|refine sJ ?_|refine qE_ ?_|refine exL (k:=?_)| (refine⟨_,hrow, ?_⟩)|(refine⟨_,hrow2, ?_⟩)|refine qT hs ?_|refine qT c1 ?_|refine qT c2 ?_|refine qT c3 ?_|refine qT c4 ?_|refine dwR ?_|((first|refine aB ?_ ?_|refine aC ?_ ?_)<;>intro hb<;>(first|exact ddX hb|try simp only [lnS]at hb))|(refine aA ?_ ?_<;>intro hb<;>try exact dsX hb))<;>(conv=>whnf)))
   all_goals exact⟨i+1,by omega,qO,⟨qB,qB⟩⟩
  ·have hil:i=x.length:=by omega
   subst hil
   ((conv=>whnf);repeat ((first |(intro hq;try simp only [lnS]at hq)|refine sI ?_|refine qE_ ?_);conv=>whnf))
   exact⟨j+1,by omega,qO,⟨qB,qB⟩⟩
 ·((conv=>whnf);repeat' ((first|(intro hq;(try simp only [lnS]at hq);(try rewrite [List.length_map]))|refine sJ ?_|refine qE_ ?_|refine exL (k:=?_)|refine dwR ?_|((first|refine aB ?_ ?_|refine aC ?_ ?_)<;>intro hb<;>(first|exact ddX hb|try simp only [lnS]at hb))|(refine aA ?_ ?_<;>intro hb<;>try exact dsX hb))<;>(conv=>whnf)))
  rfl
end
section
open Go.Proofs Go.RowKit
set_option maxRecDepth 10000
attribute [local irreducible] aH aF Tri aD YVC bO aP
theorem aE2 (p:List At):(cJ [] p).Nodup/\(∀s,s∈cJ [] p↔s∈aQ p)/\(cJ [] p).length=(aQ p).length:=by
 obtain⟨h1,h2,_⟩:=jF p []
 have hn:=h1 .nil
 have hm: ∀s,s∈cJ [] p↔s∈aQ p:= λs=>by
  rw [h2,(cB p).2]
  simp
 exact⟨hn,hm,((List.perm_ext_iff_of_nodup hn (dA p).2).2 hm).length_eq⟩
def nmW (w:List Nat):List bG:=w.map λk=>nmV (k+1)
theorem aLu (p:List At) (H:List bG) (w:List Nat):lV (p.map (rpA (gV H (nmW w))))=dB p H w:=rfl
theorem sE (p:List At):Tri Tryz.prog 81 [.d (.agg (qyR ⟨[],[p]⟩))] [] (λr=>r= .tup [.d (.agg (qyR ⟨[],if ptE p=0 then [dU p]else []⟩)), .d (.int .i64 (ptE p))]):=by
 have hc:=tK ⟨[],[p]⟩
 have hok:= @aBd p
 rw [show qE ⟨[],[p]⟩=ptE p from rfl]at hc
 generalize ptE p=e at *
 have hq:qyR ⟨[],[p]⟩=[.sl 1 [], .sl 1 [[.sl 6 (p.map atR)]]]:=rfl
 rw [hq]at hc |-
 refine Tri.says ?_
 refine qG [1] hty Tryz.func81 [0,1,2,3,4,5,6,7,8,9,10,11,12,13,14,15,16,17,18,22,31,47,60,70,91,100,133] ?_
 ((conv=>whnf);repeat ((first|refine qT hc ?_ |(intro hq;try simp only [lnS]at hq)|refine sI ?_|refine qE_ ?_);conv=>whnf))
 refine aC (λh1=> ?_) (λh1=> ?_)
 ·((conv=>whnf);repeat ((first |(intro hq;try simp only [lnS]at hq)|refine sI ?_|refine qE_ ?_);conv=>whnf))
  rw [if_neg h1]
  exact⟨_,cE.pair (cE.wkd qB),rfl⟩
 ·have h1:e=0:=by simpa using h1
  subst h1
  obtain⟨⟨k1,k2⟩,_,k3⟩:=hok.1 rfl
  obtain⟨v1,v2,v3⟩:=aE2 p
  have hv:=iK p (by omega)
  have hb:=aGt v1 v2 k3
  have hHl:(cJ [] p).length<=8:=by omega
  rw [show aI p=[.sl 6 (p.map atR)]from rfl]at hv
  generalize cJ [] p=H at *
  have hHm:(H.map aT).length=H.length:=List.length_map ..
  have hor:=mW H.length hHl
  have hfm:((dS H.length).map nI).length=(dS H.length).length:=List.length_map ..
  ((conv=>whnf);repeat ((first |(intro hq;try simp only [lnS]at hq)|refine sI ?_|refine qE_ ?_);conv=>whnf))
  refine dC hty 1 ?_
  ((conv=>whnf);repeat ((first |(intro hq;try simp only [lnS]at hq)|refine sI ?_|refine qE_ ?_);conv=>whnf))
  refine dC hty 2 ?_
  ((conv=>whnf);repeat ((first|refine qT hv ?_ |(intro hq;try simp only [lnS]at hq)|refine sI ?_|refine qE_ ?_);conv=>whnf))
  refine aH.ownC 5 200 56 35 1 1 rfl rfl (cO (by with_unfolding_all exact rfl)) ?_
  refine aG hty (λk:Nat=>([(1, .ea 2 [[.sl 1 [], .sl 1 [[.sl 6 (p.map atR)]]]] 0 0),(2, .ptr 2 0),(5, .ptr 5 0),(6, .osl 26 1 []),(8, .d (.int .i64 0)),(9, .osl 50 1 ((H.take k).map aT)),(10, .d (.sl 1 (H.map aT))),(11, .d (.int .i64 k))],[(50, .own 9 1 ((H.take k).map aT).length),(26, .own 9 1 0),(200, .own 35 1 0),(5, .cells 56 [.osl 26 1 [], .osl 200 1 []]),(2, .cells 56 [.d .nil, .d .nil])])) (λk=>k<=H.length) (λk=>H.length - k) 0 (Nat.zero_le _) ⟨qB,qB⟩ ?_
  intro k hk
  ((conv=>whnf);repeat ((first |(intro hq;try simp only [lnS]at hq)|refine sI ?_|refine qE_ ?_);conv=>whnf))
  rw [hHm]
  refine aB (λh2=> ?_) (λh2=> ?_)
  ·have hkl:k < H.length:=by omega
   have hrow:(H.map aT)[((k:Nat):Int).toNat]? =some (aT H[k]):=aK hkl
   have hin:=jG [] H[k]
   rw [decide_eq_false (List.not_mem_nil)]at hin
   have hts:(H.take (k+1)).map aT=(H.take k).map aT++[aT H[k]]:=by rw [List.take_succ_eq_append_getElem hkl,List.map_append];rfl
   have htl:((H.take k).map aT).length<=8:=by rw [List.length_map,List.length_take];omega
   generalize (H.take k).map aT=acc at *
   rw [show aT H[k]=[.str H[k]]from rfl]at hrow
   ((conv=>whnf);repeat ((first |(intro hq;try simp only [lnS]at hq)|refine sI ?_|refine qE_ ?_);conv=>whnf))
   refine dwR ?_
   ((conv=>whnf);repeat ((first|(refine⟨_,hrow, ?_⟩)|(refine⟨.d (.bool _),_,[],rfl,trivial,hin, ?_⟩) |(intro hq;try simp only [lnS]at hq)|refine sI ?_|refine qE_ ?_);conv=>whnf))
   refine⟨k+1,qO,qO, ?_⟩
   dsimp only
   rw [hts]
   exact⟨qB,by repeat' (first|exact trivial|exact rfl|(rw [List.length_append];exact rfl)|refine And.intro ?_ ?_)⟩
  have hkl:k=H.length:=by omega
  subst hkl
  rw [List.take_length]
  ((conv=>whnf);repeat ((first |(intro hq;try simp only [lnS]at hq)|refine sI ?_|refine qE_ ?_);conv=>whnf))
  rw [hHm]
  ((conv=>whnf);repeat ((first|refine qT hor ?_ |(intro hq;try simp only [lnS]at hq)|refine sI ?_|refine qE_ ?_);conv=>whnf))
  refine aG hty (λj:Nat=>([(1, .ea 2 [[.sl 1 [], .sl 1 [[.sl 6 (p.map atR)]]]] 0 0),(2, .ptr 2 0),(5, .ptr 5 0),(6, .osl 26 1 []),(8, .d (.int .i64 0)),(9, .d (.sl 1 (H.map aT))),(12, .d (.sl 1 (H.map aT))),(13, .d (.sl 1 ((dS H.length).map nI))),(14, .ptr 14 0),(15, .d (.int .i64 j))],[(14, .cells 35 [.d (nS (tE p H ((dS H.length).take j)))]),(26, .own 9 1 0),(200, .own 35 1 0),(5, .cells 56 [.osl 26 1 [], .osl 200 1 []]),(2, .cells 56 [.d .nil, .d .nil])])) (λj=>j<=(dS H.length).length) (λj=>(dS H.length).length - j) 0 (Nat.zero_le _) ⟨qB,qB⟩ ?_
  intro j hj
  ((conv=>whnf);repeat ((first |(intro hq;try simp only [lnS]at hq)|refine sI ?_|refine qE_ ?_);conv=>whnf))
  rw [hfm]
  refine aB (λh3=> ?_) (λh3=> ?_)
  ·have hjl:j < (dS H.length).length:=by omega
   have hfw:=oC hHl
   have hrow:((dS H.length).map nI)[((j:Nat):Int).toNat]? =some (nI (dS H.length)[j]):=aK hjl
   have hbs:=uI p H ((dS H.length).take j) (dS H.length)[j]
   rw [<-List.take_succ_eq_append_getElem hjl]at hbs
   have hbo:(j=0/\tE p H ((dS H.length).take j)=none)\/(j≠0/\ ∃b,tE p H ((dS H.length).take j)=some b):=by
    rcases wC p H j ((dS H.length).take j) (by rw [List.length_take];omega)with h|⟨b,h,_⟩
    ·exact .inl h
    ·refine .inr ⟨λe=> ?_,b,h⟩
     rw [e]at h
     cases h
   have hwl:(dS H.length)[j].length=H.length:=lB (List.getElem_mem hjl)
   have hwm: ∀k∈(dS H.length)[j],k < H.length:= λk hk=>List.mem_range.1 ((lA (List.getElem_mem hjl)).mem_iff.1 hk)
   generalize tE p H ((dS H.length).take j)=o0 at *
   generalize (dS H.length)[j]=w at *
   rw [show nI w=[.sl 1 (w.map nR)]from rfl]at hrow
   ((conv=>whnf);repeat ((first |(intro hq;try simp only [lnS]at hq)|refine sI ?_|refine qE_ ?_);conv=>whnf))
   refine aG hty (λk:Nat=>([(1, .ea 2 [[.sl 1 [], .sl 1 [[.sl 6 (p.map atR)]]]] 0 0),(2, .ptr 2 0),(5, .ptr 5 0),(6, .osl 26 1 []),(8, .d (.int .i64 0)),(9, .d (.sl 1 (H.map aT))),(12, .d (.sl 1 (H.map aT))),(13, .d (.sl 1 ((dS H.length).map nI))),(14, .ptr 14 0),(15, .d (.int .i64 j)),(16, .osl 94 1 (((nmW w).take k).map aT)),(17, .d (.int .i64 k))],[(94, .own 9 1 (((nmW w).take k).map aT).length),(14, .cells 35 [.d (nS o0)]),(26, .own 9 1 0),(200, .own 35 1 0),(5, .cells 56 [.osl 26 1 [], .osl 200 1 []]),(2, .cells 56 [.d .nil, .d .nil])])) (λk=>k<=H.length) (λk=>H.length - k) 0 (Nat.zero_le _) ⟨qB,qB⟩ ?_
   intro k hk
   ((conv=>whnf);repeat ((first |(intro hq;try simp only [lnS]at hq)|refine sI ?_|refine qE_ ?_);conv=>whnf))
   rw [hHm]
   refine aB (λh4=> ?_) (λh4=> ?_)
   ·have hkl:k < w.length:=by omega
    have hrw:(w.map nR)[((k:Nat):Int).toNat]? =some (nR w[k]):=aK hkl
    have hwk:=hwm w[k] (List.getElem_mem hkl)
    have hnm:Tri Tryz.prog 126 [.d (.int .i64 ((w[k]:Int)+1))] [] (λr=>r= .d (.str [UInt8.ofNat (48+(w[k]+1))])):=sF (w[k]+1) (by omega)
    have hnl:k < (nmW w).length:=by unfold nmW;rw [List.length_map];exact hkl
    have hts:((nmW w).take (k+1)).map aT=((nmW w).take k).map aT++[[.str ([63,118]++[UInt8.ofNat (48+(w[k]+1))])]]:=by
     rw [List.take_succ_eq_append_getElem hnl,List.map_append,show (nmW w)[k]=nmV (w[k]+1)from List.getElem_map _]
     rfl
    have htl:(((nmW w).take k).map aT).length<=8:=by rw [List.length_map,List.length_take];omega
    generalize ((nmW w).take k).map aT=acc at *
    rw [show nR w[k]=[.int .i64 w[k]]from rfl]at hrw
    generalize w[k]=c at *
    ((conv=>whnf);repeat ((first|(refine⟨_,hrow, ?_⟩)|(refine⟨_,hrw, ?_⟩)|refine qT hnm ?_ |(intro hq;try simp only [lnS]at hq)|refine sI ?_|refine qE_ ?_);conv=>whnf))
    refine⟨k+1,qO,qO, ?_⟩
    dsimp only
    rw [hts]
    exact⟨qB,by repeat' (first|exact trivial|exact rfl|(rw [List.length_append];exact rfl)|refine And.intro ?_ ?_)⟩
   have hkl:k=H.length:=by omega
   subst hkl
   have hnl:(nmW w).length=H.length:=by unfold nmW;rw [List.length_map];exact hwl
   have hrp:=vE p H (nmW w) v1 hnl (by omega)
   have htd:=xM (p.map (rpA (gV H (nmW w)))) (by rw [List.length_map];omega)
   rw [aLu]at htd
   rw [List.take_of_length_le (by omega)]
   rw [show aI p=[.sl 6 (p.map atR)]from rfl,show aI (p.map (rpA (gV H (nmW w))))=[.sl 6 ((p.map (rpA (gV H (nmW w)))).map atR)]from rfl]at hrp
   rw [show aI (p.map (rpA (gV H (nmW w))))=[.sl 6 ((p.map (rpA (gV H (nmW w)))).map atR)]from rfl,show aI (dB p H w)=[.sl 6 ((dB p H w).map atR)]from rfl]at htd
   ((conv=>whnf);repeat ((first|refine qT (Tri.args hrp ⟨.refl _, .refl _, .osl,trivial⟩) ?_|refine qT htd ?_ |(intro hq;try simp only [lnS]at hq)|refine sI ?_|refine qE_ ?_);conv=>whnf))
   rcases hbo with⟨e0,e⟩|⟨e0,b,e⟩
   ·rw [e]at hbs
    rw [decide_eq_true (by omega)]
    ((conv=>whnf);repeat ((first |(intro hq;try simp only [lnS]at hq)|refine sI ?_|refine qE_ ?_);conv=>whnf))
    refine⟨j+1,qO,qO, ?_⟩
    dsimp only
    rw [hbs]
    exact⟨qB,qB⟩
   ·rw [e]at hbs
    rw [decide_eq_false (by omega),e]
    dsimp only at hbs
    have hls:=xO (dB p H w) b
    rw [show nS (some b)= .sl 6 (b.map atR)from rfl]
    ((conv=>whnf);repeat ((first|refine qT hls ?_ |(intro hq;try simp only [lnS]at hq)|refine sI ?_|refine qE_ ?_);conv=>whnf))
    by_cases hlt:bH bE (dB p H w) b < 0
    ·rw [if_pos hlt]at hbs
     rw [decide_eq_true hlt]
     ((conv=>whnf);repeat ((first |(intro hq;try simp only [lnS]at hq)|refine sI ?_|refine qE_ ?_);conv=>whnf))
     refine⟨j+1,qO,qO, ?_⟩
     dsimp only
     rw [hbs]
     exact⟨qB,qB⟩
    ·rw [if_neg hlt]at hbs
     rw [decide_eq_false hlt]
     ((conv=>whnf);repeat ((first |(intro hq;try simp only [lnS]at hq)|refine sI ?_|refine qE_ ?_);conv=>whnf))
     refine⟨j+1,qO,qO, ?_⟩
     dsimp only
     rw [hbs]
     exact⟨qB,qB⟩
  have hjl:j=(dS H.length).length:=by omega
  subst hjl
  rw [List.take_length,hb,show nS (some (dU p))= .sl 6 ((dU p).map atR)from rfl]
  ((conv=>whnf);repeat ((first |(intro hq;try simp only [lnS]at hq)|refine sI ?_|refine qE_ ?_);conv=>whnf))
  rw [if_pos rfl]
  exact⟨_, .refl _,rfl⟩
end
end Go.Proofs.YtdjfkmkdkclahaaGreatDoor
