/-
  Ledgers, the law: Encode and Decode match the specification.
  Conditions: none.
-/
import Derived.Test.YtdjfkmkdkclahaaGreatDoorVNz
import Derived.Test.YtdjfkmkdkclahaaGreatDoorVNt
set_option linter.unnecessarySimpa false
set_option linter.unusedSectionVars false
set_option linter.unusedSimpArgs false
set_option linter.unusedVariables false
set_option maxHeartbeats 16000000
namespace Go.Proofs.YtdjfkmkdkclahaaGreatDoor
open Go.Proofs Go.RowKit
set_option maxRecDepth 10000
attribute [local irreducible] aL aH Tri aI YVC bP aS aA3
theorem aOo (bs:List UInt8) (hbs:bs.length<=1000000):Tri Tryz.prog 26 [.d (.sl 1 (bs.map aP))] [] (λr=>r= .tup [.d (.str (eF rEn jS pK 380 bs).1.1), .d (.int .i64 (eF rEn jS pK 380 bs).1.2.1), .d (.agg (bA (eF rEn jS pK 380 bs).1.2.2)), .d (.int .i64 (eF rEn jS pK 380 bs).2)]):=
 (aL7 bs hbs).mono (λr h=>by obtain⟨y,rfl,hr⟩:=h;exact hr)
def aV2 (l:List UInt8):List D:=[.sl 1 (l.map aP)]
theorem aT9 (a:Int): ∃m:Nat,bits .and .i64 a 1073741823=(m:Int)/\m<=1073741823:=by
 refine⟨(BitVec.ofInt 64 a &&& BitVec.ofInt 64 1073741823).toNat, ?_, ?_⟩
 ·have h:(BitVec.ofInt 64 a &&& BitVec.ofInt 64 1073741823).toNat<=1073741823:=by
   rw [BitVec.toNat_and]
   exact Nat.and_le_right
  show IntKind.i64.wrap ((BitVec.ofInt 64 a &&& BitVec.ofInt 64 1073741823).toNat:Int)=_
  rw [aIq _ (by omega)]
  unfold sgN
  rw [if_pos (by omega)]
 ·rw [BitVec.toNat_and]
  exact Nat.and_le_right
theorem yU (s:List UInt8) (n:Int) (x:Ent) (at_:Int) (by_:UInt8) (raw:List UInt8):Tri Tryz.prog 5 [.d (.str s), .d (.int .i64 n), .d (.agg (bA x)), .d (.int .i64 at_), .d (.int .u8 by_.toNat), .d (.sl 1 (raw.map aP))] [] (λr=>r= .d (.bool true)):=by
 have c1:=aEx s n x
 have hb:=bX raw
 have hpl:(x.part.map atR).length=x.part.length:=List.length_map ..
 by_cases hf:¬ (x.part.length<=6/\s.length<=100/\raw.length<=1000)
 ·rw [show bA x=[.int .i64 x.no, .sl 6 (x.part.map atR)]from rfl]
  refine aG false [8,22,26] hty Tryz.func5 rfl (kp [0,1,2,3,4,5,8,12,13,14,15,16,17,19,20,21,22,23,24,25,26,27,29,44,68,74,94,95,96,97,141]) [] _ _ _ (by simp [Tryz.f5]) (by simp) ?_
  ((conv=>whnf);repeat' ((first|(intro hq;(try simp only [lnS]at hq);(try rewrite [List.length_map]))|refine sJ ?_|refine .intro _ (.intro rfl ?_)|refine exL (k:= ?_)|(refine aA [] iM trivial (λr hs=> ?_);subst hs)|refine dwR ?_|((first|refine aC ?_ ?_|refine aD ?_ ?_)<;>intro hb<;>(first|exact ddX hb|try simp only [lnS]at hb))|(refine aB ?_ ?_<;>intro hb<;>try exact dsX hb))<;>(conv=>whnf)))
  all_goals first|rfl|(exfalso;omega)
 have hf:x.part.length<=6/\s.length<=100/\raw.length<=1000:=Decidable.not_not.1 hf
 have c2:=aEk s n x (by omega)
 have hel:= @aR6 s n x hf.2.1
 rw [show bA x=[.int .i64 x.no, .sl 6 (x.part.map atR)]from rfl]at c1 c2 |-
 generalize jS (s,n,x)=we at *
 obtain⟨c,e⟩:=we
 dsimp only at c1 c2 hel
 have hcl:=bX c
 refine uH true [8,22,26] hty Tryz.func5 rfl (kp [0,1,2,3,4,5,8,12,13,14,15,16,17,19,20,21,22,23,24,25,26,27,29,44,68,74,94,95,96,97,141]) [] _ _ _ (by simp [Tryz.f5]) (by decide) ?_
 refine bD (dB hty ?_)
 ((conv=>whnf);repeat ((first|(intro hq;try simp only [lnS]at hq)|refine sI ?_|refine .intro _ (.intro rfl ?_));(conv=>whnf)))
 refine bD (dB hty ?_)
 ((conv=>whnf);repeat ((first|(refine aA [] iM trivial (λr hs=> ?_);subst hs)|(intro hq;try simp only [lnS]at hq)|refine sI ?_|refine .intro _ (.intro rfl ?_));(conv=>whnf)))
 refine bD (dB hty ?_)
 ((conv=>whnf);repeat ((first|(intro hq;try simp only [lnS]at hq)|refine sI ?_|refine .intro _ (.intro rfl ?_));(conv=>whnf)))
 rw [hpl,decide_eq_false (by omega)]
 ((conv=>whnf);repeat ((first|(intro hq;try simp only [lnS]at hq)|refine sI ?_|refine .intro _ (.intro rfl ?_));(conv=>whnf)))
 rw [decide_eq_false (by omega)]
 ((conv=>whnf);repeat ((first|(intro hq;try simp only [lnS]at hq)|refine sI ?_|refine .intro _ (.intro rfl ?_));(conv=>whnf)))
 rw [hb,decide_eq_false (by omega)]
 ((conv=>whnf);repeat ((first|(intro hq;try simp only [lnS]at hq)|refine sI ?_|refine .intro _ (.intro rfl ?_));(conv=>whnf)))
 refine bD (dB hty ?_)
 ((conv=>whnf);repeat ((first|(refine aA [] c1 trivial (λr hs=> ?_);subst hs)|(intro hq;try simp only [lnS]at hq)|refine sI ?_|refine .intro _ (.intro rfl ?_));(conv=>whnf)))
 refine bD (dB hty ?_)
 ((conv=>whnf);repeat ((first|(refine aA [] c2 trivial (λr hs=> ?_);subst hs)|(intro hq;try simp only [lnS]at hq)|refine sI ?_|refine .intro _ (.intro rfl ?_));(conv=>whnf)))
 refine bD (dB hty ?_)
 ((conv=>whnf);repeat ((first|(intro hq;try simp only [lnS]at hq)|refine sI ?_|refine .intro _ (.intro rfl ?_));(conv=>whnf)))
 rw [dT,decide_eq_true rfl]
 ((conv=>whnf);repeat ((first|(intro hq;try simp only [lnS]at hq)|refine sI ?_|refine .intro _ (.intro rfl ?_));(conv=>whnf)))
 rw [decide_eq_true rfl]
 ((conv=>whnf);repeat ((first|(intro hq;try simp only [lnS]at hq)|refine sI ?_|refine .intro _ (.intro rfl ?_));(conv=>whnf)))
 refine bD (dB hty ?_)
 ((conv=>whnf);repeat ((first|(intro hq;try simp only [lnS]at hq)|refine sI ?_|refine .intro _ (.intro rfl ?_));(conv=>whnf)))
 rename_i cpv
 refine aRu (λfr hp=> ∃(odd:List UInt8) (cp:Nat),odd.length=c.length/\Sub fr hp [(15, .d (.sl 1 (c.map aP))),(17, .mw 71 1 c.length),(5, .d (.sl 1 (raw.map aP)))] [(71, .mrow 5 1 cp (odd.map aP))]) (dB hty ?_) ?_
 ·((conv=>whnf);repeat ((first|(intro hq;try simp only [lnS]at hq)|refine sI ?_|refine .intro _ (.intro rfl ?_));(conv=>whnf)))
  rw [hcl]
  refine aC (λh1=> ?_) (λh1=> ?_)
  ·obtain⟨m,hm,hm2⟩:=aT9 at_
   have ht:(bits .and .i64 at_ 1073741823).tmod (c.length:Int)=((m % c.length:Nat):Int):=by
    rw [hm,Int.tmod_eq_emod_of_nonneg (Int.natCast_nonneg m),Int.natCast_emod]
   have hml:m % c.length < c.length:=Nat.mod_lt _ (by omega)
   have hrow:(c.map aP)[((m % c.length:Nat):Int).toNat]? =some (aP c[m % c.length]):=aO hml
   have hnn:(0:Int)<=((m % c.length:Nat):Int):=Int.natCast_nonneg _
   have hnl:((m % c.length:Nat):Int).toNat < c.length:=by rw [Int.toNat_natCast];exact hml
   ((conv=>whnf);repeat ((first|(intro hq;try simp only [lnS]at hq)|refine sI ?_|refine .intro _ (.intro rfl ?_));(conv=>whnf)))
   rw [ht]
   ((conv=>whnf);repeat ((first|(refine And.intro hnn ?_)|(refine And.intro hnl ?_)|(refine⟨_,hrow, ?_⟩)|(refine And.intro hcl.symm ?_)|(refine And.intro (rP rfl) ?_)|(intro hq;try simp only [lnS]at hq)|refine sI ?_|refine .intro _ (.intro rfl ?_));(conv=>whnf)))
   rw [aT5]
   have hs: ∀b:UInt8,(c.map aP).set ((m % c.length:Nat):Int).toNat [D.int .u8 (b.toNat:Int)]=(c.set (m % c.length) b).map aP:= λb=>by
    rw [Int.toNat_natCast,List.map_set];rfl
   rw [hs]
   exact⟨_,cpv,List.length_set ..,⟨by repeat' (first|exact trivial|exact rfl|(rw [hcl];exact rfl)|refine And.intro ?_ ?_),by repeat' (first|exact trivial|exact rfl|refine And.intro ?_ ?_)⟩⟩
  ·((conv=>whnf);repeat ((first|(intro hq;try simp only [lnS]at hq)|refine sI ?_|refine .intro _ (.intro rfl ?_));(conv=>whnf)))
   exact⟨c,cpv,rfl,⟨by repeat' (first|exact trivial|exact rfl|(rw [hcl];exact rfl)|refine And.intro ?_ ?_),by repeat' (first|exact trivial|exact rfl|refine And.intro ?_ ?_)⟩⟩
 ·rintro fr hp ⟨odd,cp,hol,hsub⟩
  refine aL.sub hsub ?_
  refine aL.froz 17 71 (hp':=[]) rfl rfl (by rw [bX];exact hol.symm) trivial rfl ?_
  have hob:=bX odd
  have htd:(((odd.map aP).length:Nat):Int).tdiv 2=((odd.length / 2:Nat):Int):=by
   rw [hob,Int.tdiv_eq_ediv_of_nonneg (Int.natCast_nonneg _),Int.natCast_ediv];rfl
  have hz:List.drop 0 (List.take ((odd.length / 2:Nat):Int).toNat (odd.map aP))=(odd.take (odd.length / 2)).map aP:=by
   rw [List.drop_zero,Int.toNat_natCast,List.map_take]
  refine dB hty ?_
  ((conv=>whnf);repeat ((first|(intro hq;try simp only [lnS]at hq)|refine sI ?_|refine .intro _ (.intro rfl ?_));(conv=>whnf)))
  rw [htd]
  ((conv=>whnf);repeat ((first|(intro hq;try simp only [lnS]at hq)|refine sI ?_|refine .intro _ (.intro rfl ?_));(conv=>whnf)))
  rw [hz]
  obtain⟨Ls,hLs⟩: ∃Ls:List (List UInt8),Ls=[c,odd,raw,odd.take (odd.length / 2)]:=⟨_,rfl⟩
  have hL4:Ls.length=4:=by rw [hLs];rfl
  have hLb: ∀l∈Ls,l.length<=1000000:=by
   intro l hl
   rw [hLs]at hl
   simp only [List.mem_cons,List.not_mem_nil,or_false]at hl
   rcases hl with rfl|rfl|rfl|rfl
   ·omega
   ·omega
   ·omega
   ·rw [List.length_take];omega
  have hLm:Ls.map aV2=[[.sl 1 (c.map aP)],[.sl 1 (odd.map aP)],[.sl 1 (raw.map aP)],[.sl 1 ((odd.take (odd.length / 2)).map aP)]]:=by rw [hLs];rfl
  refine aJ hty (λj:Nat=>([(94, .d (.sl 1 (Ls.map aV2))),(95, .d (.int .i64 4)),(96, .d (.int .i64 j))],[])) (λj=>j<=4) (λj=>4 - j) 0 (Nat.zero_le _) ⟨by rw [hLm];repeat' (first|exact trivial|exact rfl|refine And.intro ?_ ?_),trivial⟩ ?_
  intro j hj
  ((conv=>whnf);repeat ((first|(intro hq;try simp only [lnS]at hq)|refine sI ?_|refine .intro _ (.intro rfl ?_));(conv=>whnf)))
  refine aC (λh1=> ?_) (λh1=> ?_)
  ·have hjl:j < Ls.length:=by omega
   have hrow:(Ls.map aV2)[((j:Nat):Int).toNat]? =some (aV2 Ls[j]):=aO hjl
   have hlb:=hLb Ls[j] (List.getElem_mem hjl)
   generalize Ls[j]=d at *
   rw [show aV2 d=[.sl 1 (d.map aP)]from rfl]at hrow
   have d1:=aPb d hlb
   have d2:=aOo d hlb
   generalize eF rEn jS pK 380 d=res at *
   obtain⟨⟨rs,rn,⟨rno,rp⟩⟩,re⟩:=res
   dsimp only at d1 d2
   have p1:=dC rp rp
   rw [decide_eq_true rfl]at p1
   rw [show bA ⟨rno,rp⟩=[.int .i64 rno, .sl 6 (rp.map atR)]from rfl]at d1 d2
   rw [show aK rp=[.sl 6 (rp.map atR)]from rfl]at p1
   ((conv=>whnf);repeat' ((first|(intro hq;(try simp only [lnS]at hq);(try rewrite [List.length_map]))|refine sJ ?_|refine .intro _ (.intro rfl ?_)|refine exL (k:= ?_)|(refine⟨_,hrow, ?_⟩)|(refine aA [] d1 trivial (λr hs=> ?_);subst hs)|(refine aA [] d2 trivial (λr hs=> ?_);subst hs)|(refine aA [] p1 trivial (λr hs=> ?_);subst hs)|refine dwR ?_|((first|refine aC ?_ ?_|refine aD ?_ ?_)<;>intro hb<;>(first|exact ddX hb|try simp only [lnS]at hb))|(refine aB ?_ ?_<;>intro hb<;>try exact dsX hb))<;>(conv=>whnf)))
   all_goals first|exact⟨j+1,by dsimp only;omega,by dsimp only;omega,by repeat' (first|exact trivial|exact rfl|refine And.intro ?_ ?_),trivial⟩|(exfalso;simp_all;done)
  ·((conv=>whnf);repeat ((first|(intro hq;try simp only [lnS]at hq)|refine sI ?_|refine .intro _ (.intro rfl ?_));(conv=>whnf)))
   rfl
end Go.Proofs.YtdjfkmkdkclahaaGreatDoor
