/-
  Valid concepts and axioms can be written and read; plain.
  Conditions: none.
-/
import Derived.Test.YtbobcfjlbcgchaaGreatDoorWSng
import Derived.Test.YtbobcfjlbcgchaaGreatDoorWTy
import Derived.Test.YtbobcfjlbcgchaaGreatDoorWSna
import Derived.Test.YtbobcfjlbcgchaaGreatDoorWLzp
import Derived.Ground.SlsfProg
import Derived.Ground.NamesProg
import Derived.Test.YtbobcfjlbcgchaaGreatDoorWOl
set_option linter.unnecessarySimpa false
set_option linter.unusedSectionVars false
set_option linter.unusedSimpArgs false
set_option linter.unusedVariables false
set_option maxHeartbeats 32000000
namespace Go.Proofs.YtbobcfjlbcgchaaGreatDoor
section
open Go.Shelf Go.Sort
set_option maxRecDepth 10000
theorem aCw:Tryz.sortTree_ren.t 24=176:=rfl
theorem aPp: ∀w,(isAgg (Tryz.sortTree_ren.t 24)).run Tryz.prog w= .ok true w:=by
 intro w
 rw [aCw]
 obtain⟨d,i,z,h⟩:=aO (hty 176 _ rfl)
 exact h.run_isAgg w
theorem aRn: ∀w,(Go.sizeOf (Tryz.sortTree_ren.t 24)).run Tryz.prog w= .ok 7 w:=by
 intro w
 rw [aCw]
 obtain⟨d,i,z,h⟩:=aO (hty 176 _ rfl)
 exact h.run_size w
end
section
set_option maxRecDepth 10000
theorem Tri.resT {P:Program}{f:FuncId}{qs:List SV}{hp:Hp}{post post':SV->Prop}(h:Tri P f qs hp post) (hw: ∀s,post s->post' s\/ ∃g d,s= .tup g/\bB2 g d/\post' (.tup d)):Tri P f qs hp post':=by
 unfold Tri at h |-
 intro w ρ vs a b c
 refine(h w ρ vs a b c).mono ?_
 rintro e w' ⟨v,S',s,rfl,hp,l,k,o,n,m⟩
 rcases hw s hp with hp'|⟨g,d,rfl,i,hp'⟩
 ·exact⟨v,S',_,rfl,hp',l,k,o,n,m⟩
 obtain⟨us,e1,hl,t⟩:=m.tup_inv
 obtain⟨k1,y⟩:=aLc _ _ i
 refine⟨v,S',_,rfl,hp',l,k,o,n, ?_⟩
 rw [e1]
 refine .tup _ _ (by omega) λj q u z r=> ?_
 obtain⟨x,A,p⟩:=y j q z
 exact aYy p (t j x u A r)
attribute [local irreducible] aK aF Tri aH YVC cG aT
theorem bFs:Go.Sort.SWO (ltOf iG):=by
 refine⟨λx=> ?_,λx y z a b=> ?_,λx y z a b=> ?_⟩
 ·simp [ltOf,qS]
 ·simp only [ltOf,decide_eq_true_eq]at *
  exact(qR x y z).1 a b
 ·simp only [ltOf,decide_eq_false_iff_not]at *
  have a1:=eF x y
  have a2:=eF y z
  have a3:=eF x z
  have t1:=(qR x z y).1
  have c:=qR x z y
  have t3:=qR z y x
  unfold aBy at c t3
  have b1:=eF z x
  have b2:=eF z y
  omega
theorem aPb (a b:Cn):Tri Tryz.prog 176 [.d (.agg (grR a)), .d (.agg (grR b))] [] (λr=>r= .d (.bool (aDw a b))):=by
 have h:=qN a b
 rw [dK,dK]at h
 rw [dK,dK]
 refine qG [2,3] hty Tryz.func176 [0,1,2,3,4] ?_
 ((conv=>whnf);repeat' ((first|(intro c;(try simp only [lnS]at c);(try rewrite [List.length_map]))|refine sJ ?_|refine qE_ ?_|refine exL (k:=?_)| refine qT h ?_|refine dwR ?_|((first|refine aA ?_ ?_|refine aC ?_ ?_)<;>intro hb<;>(first|exact ddX hb|try simp only [lnS]at hb))|(refine aB ?_ ?_<;>intro hb<;>try exact dsX hb))<;>(conv=>whnf)))
 rfl
structure PairW (c:Cn) (e:Int) (s:SV):Prop where
 ex: ∃a,s= .tup [.d a, .d (.int .i64 e)]/\(a= .agg (cnR c)\/WkD a (.agg (cnR c)))
theorem Tri.pairW {P:Program}{f:FuncId}{qs:List SV}{hp:Hp}{c:Cn}{e:Int}(h:Tri P f qs hp (PairW c e)):Tri P f qs hp (λr=>r= .tup [.d (.agg (cnR c)), .d (.int .i64 e)]):=by
 refine Tri.resT h ?_
 rintro s ⟨a,rfl,rfl|b⟩
 ·exact .inl rfl
 ·exact .inr ⟨_,[.d (.agg (cnR c)), .d (.int .i64 e)],rfl,⟨b,by exact rfl,trivial⟩,rfl⟩
theorem aOx {c:Cn}(h:c.kind=1):bS c=[]:=if_pos h
theorem aOy {c:Cn}(h:c.kind=5):bS c=c.parts:=by rw [bS,if_neg (by omega),if_pos h]
theorem aKe {c:Cn}(h1:c.kind≠1) (h5:c.kind≠5):bS c=[c]:=by rw [bS,if_neg h1,if_neg h5]
def aJa (ps:List Cn):List Cn:=(ps.map aI).flatMap λr=>bS r.1
theorem aUo {ps:List Cn}{j:Nat}(h:j < ps.length):aJa (ps.take (j+1))=aJa (ps.take j)++bS (aI ps[j]).1:=by
 rw [aJa,List.take_succ_eq_append_getElem h,List.map_append,List.flatMap_append];simp [aJa]
theorem aUp (ps:List Cn) (j:Nat):iA (aJa (ps.take j))<=iA ps:=by
 have a:=zP ((ps.take j).map aI)
 rw [<-tZ]at a
 have h2:=wM (ps.take j)
 have h3:iA (ps.take j)<=iA ps:=eU ps j
 rw [aJa,<-tZ]
 omega
theorem jL (l:List Cn):l.length<=iA l:=rT l
theorem bDu {i z a b:Nat}(h:a=b):Wk (.mw i z a) (.mw i z b):=by subst h;exact rfl
theorem aHw {ps:List Cn}{j:Nat}(h:j < ps.length) (hn:((ps.take j).map aI).find? (λr=>decide (r.2≠0))=none) (he:¬ (aI ps[j]).2=0):kI (ps.map aI)=(c0,(aI ps[j]).2):=by
 have e1:ps.map aI=(ps.take j).map aI++aI ps[j]::(ps.drop (j+1)).map aI:=by
  rw [<-List.map_cons (f:=aI),<-List.drop_eq_getElem_cons h,<-List.map_append,List.take_append_drop]
 have e2:(ps.map aI).find? (λr=>decide (r.2≠0))=some (aI ps[j]):=by
  rw [e1,List.find?_append,hn,List.find?_cons_of_pos (by simpa using he)];rfl
 rw [kI,e2]
theorem aT3 {ps:List Cn}{j:Nat}(h:j < ps.length) (hn:((ps.take j).map aI).find? (λr=>decide (r.2≠0))=none) (he:(aI ps[j]).2=0):((ps.take (j+1)).map aI).find? (λr=>decide (r.2≠0))=none:=by
 rw [List.take_succ_eq_append_getElem h,List.map_append,List.find?_append,hn]
 simp [he]
theorem aX1 {ps:List Cn}(hn:(ps.map aI).find? (λr=>decide (r.2≠0))=none):kI (ps.map aI)=eV (nR (aJa ps)):=by
 rw [kI,hn];rfl
theorem aQi (e:Int):PairW c0 e (.tup [.d (.agg [.int .i64 0, .str [], .int .i64 0, .int .i64 0, .nil]), .d (.int .i64 e)]):=by
 refine⟨_,rfl, .inr ?_⟩
 rw [aJ]
 exact⟨rfl,rfl,rfl,rfl,rfl,trivial⟩
theorem bFf:PairW aQb 0 (.tup [.d (.agg [.int .i64 1, .str [], .int .i64 0, .int .i64 0, .nil]), .d (.int .i64 0)]):=by
 refine⟨_,rfl, .inr ?_⟩
 rw [aJ]
 exact⟨rfl,rfl,rfl,rfl,rfl,trivial⟩
theorem uJ (c:Cn) (e:Int):PairW c e (.tup [.d (.agg [.int .i64 c.kind, .str c.name, .int .i64 c.lo, .int .i64 c.hi, .sl 5 (c.parts.map cnR)]), .d (.int .i64 e)]):=by
 exact⟨_,rfl, .inl (by rw [aJ])⟩
theorem aIe {s:List Cn}{i:Nat}(h:i < s.length) (hn:(s.take i).find? (λt=>decide (t.kind=2))=none):(s[i].kind=2->s.find? (λt=>decide (t.kind=2))=some s[i])/\(¬ s[i].kind=2->(s.take (i+1)).find? (λt=>decide (t.kind=2))=none):=by
 have e1:s=s.take i++s[i]::s.drop (i+1):=by rw [<-List.drop_eq_getElem_cons h,List.take_append_drop]
 refine⟨λa=> ?_,λa=> ?_⟩
 ·have:(s.take i++s[i]::s.drop (i+1)).find? (λt=>decide (t.kind=2))=some s[i]:=by
   rw [List.find?_append,hn,List.find?_cons_of_pos (by simpa using a)];rfl
  rwa [<-e1]at this
 ·rw [List.take_succ_eq_append_getElem h,List.find?_append,hn]
  simp [a]
theorem aE2 {s:List Cn}{t:Cn}(h:s.find? (λt=>decide (t.kind=2))=some t):eV s=(t,0):=by rw [eV,h]
theorem aE3 {s:List Cn}(h:s.find? (λt=>decide (t.kind=2))=none):eV s=if s.length=0 then (aQb,0)else if s.length=1 then (s.headD c0,0)else if 8 < s.length then (c0,2)else (.mk 5 [] 0 0 s,0):=by rw [eV,h]
theorem aT9 (ps:List Cn) (hs:iA ps<=1000000) (ht: ∀p∈ps,Tri Tryz.prog 66 [.d (.agg (cnR p))] [] (λr=>r= .tup [.d (.agg (cnR (aI p).1)), .d (.int .i64 (aI p).2)])):
  Tri Tryz.prog 124 [.d (.sl 5 (ps.map cnR))] [] (PairW (kI (ps.map aI)).1 (kI (ps.map aI)).2):=by
 refine qG [6,7,10,12,14] hty Tryz.func124 [0,2,3,4,6,7,8,10,12,14,15,16,17,18,27,31,37,39,42,43,44,45,59,60,61,62,68,72,77,85,91,92,93,94] ?_
 ((conv=>whnf);repeat ((first |(intro c;try simp only [lnS]at c)|refine sI ?_|refine qE_ ?_);conv=>whnf))
 refine aK.mown 4 70 176 7 rfl (bQ (by with_unfolding_all exact rfl)) ?_
 refine aD hty (λy:Nat×Nat=>([(2, .ptr 2 0),(4, .mw 70 7 (aJa (ps.take y.1)).length),(15, .d (.sl 5 (ps.map cnR))),(16, .d (.int .i64 ps.length)),(17, .d (.int .i64 y.1))],[(70, .mrow 176 7 y.2 ((aJa (ps.take y.1)).map grR)),(2, .cells 45 [.d (.int .i64 0), .d (.str []), .d (.int .i64 0), .d (.int .i64 0), .d .nil])])) (λy=>y.1<=ps.length/\((ps.take y.1).map aI).find? (λr=>decide (r.2≠0))=none) (λy=>ps.length - y.1) (0,0) ⟨qO,rfl⟩ ⟨by repeat' (first|exact trivial|exact rfl|(rw [List.length_map];exact rfl)|refine And.intro ?_ ?_),⟨rfl,rfl,trivial⟩⟩ ?_
 rintro⟨j,cap⟩ ⟨hj,m⟩
 dsimp only at hj m
 ((conv=>whnf);repeat ((first |(intro c;try simp only [lnS]at c)|refine sI ?_|refine qE_ ?_);conv=>whnf))
 refine aA (λU=> ?_) (λU=> ?_)
 ·have q:j < ps.length:=by dsimp only at U;omega
  have f:(ps.map cnR)[(j:Int).toNat]? =some (cnR ps[j]):=bA q
  have hi:=ht ps[j] (List.getElem_mem q)
  have M:=aHw q m
  have B:=aT3 q m
  have g:=aUo q
  have A:=aUp ps (j+1)
  rw [aJ]at f hi
  have Y:aM (aI ps[j]).1<=1000000:=by
   have D:=hZ ps[j]
   have h4:=mZ (List.getElem_mem q)
   omega
  generalize (aI ps[j]).1=x at *
  generalize (aI ps[j]).2=e at *
  rw [aJ x]at hi
  ((conv=>whnf);repeat ((first|(refine⟨_,f, ?_⟩)|refine qT hi ?_ |(intro c;try simp only [lnS]at c)|refine sI ?_|refine qE_ ?_);conv=>whnf))
  refine aC (λN=> ?_) (λN=> ?_)
  ·((conv=>whnf);repeat' ((first|(intro c;(try simp only [lnS]at c);(try rewrite [List.length_map]))|refine sJ ?_|refine qE_ ?_|refine exL (k:=?_)|refine dwR ?_|((first|refine aA ?_ ?_|refine aC ?_ ?_)<;>intro hb<;>(first|exact ddX hb|try simp only [lnS]at hb))|(refine aB ?_ ?_<;>intro hb<;>try exact dsX hb))<;>(conv=>whnf)))
   rw [M N]
   exact aQi e
  ·have B:=B N
   rw [g,nA]at A
   have hlacc:=jL (aJa (ps.take j))
   ((conv=>whnf);repeat ((first |(intro c;try simp only [lnS]at c)|refine sI ?_|refine qE_ ?_);conv=>whnf))
   refine aA (λD=> ?_) (λD=> ?_)
   ·rw [aOx D,List.append_nil]at g
    ((conv=>whnf);repeat' ((first|(intro c;(try simp only [lnS]at c);(try rewrite [List.length_map]))|refine sJ ?_|refine qE_ ?_|refine exL (k:=?_)|refine dwR ?_|((first|refine aA ?_ ?_|refine aC ?_ ?_)<;>intro hb<;>(first|exact ddX hb|try simp only [lnS]at hb))|(refine aB ?_ ?_<;>intro hb<;>try exact dsX hb))<;>(conv=>whnf)))
    exact⟨(j+1,cap),⟨qO,B⟩,qO,⟨by dsimp only;rw [g];exact qB,by dsimp only;rw [g];exact⟨rfl,rfl,trivial⟩⟩⟩
   ·((conv=>whnf);repeat ((first |(intro c;try simp only [lnS]at c)|refine sI ?_|refine qE_ ?_);conv=>whnf))
    refine aA (λP=> ?_) (λP=> ?_)
    ·rw [aOy P]at g A
     have hlp:=jL x.parts
     generalize aJa (ps.take j)=acc at *
     ((conv=>whnf);repeat ((first |(intro c;try simp only [lnS]at c)|refine sI ?_|refine qE_ ?_);conv=>whnf))
     refine aD hty (λy:Nat×Nat=>([(2, .ptr 2 0),(4, .mw 70 7 (acc.length+y.1)),(15, .d (.sl 5 (ps.map cnR))),(16, .d (.int .i64 ps.length)),(17, .d (.int .i64 j)),(42, .d (.sl 5 (x.parts.map cnR))),(43, .d (.int .i64 x.parts.length)),(44, .d (.int .i64 y.1))],[(70, .mrow 176 7 y.2 ((acc++x.parts.take y.1).map grR)),(2, .cells 45 [.d (.int .i64 0), .d (.str []), .d (.int .i64 0), .d (.int .i64 0), .d .nil])])) (λy=>y.1<=x.parts.length) (λy=>x.parts.length - y.1) (0,cap) (qO) ⟨by repeat' (first|exact trivial|exact rfl|(rw [List.length_map];exact rfl)|refine And.intro ?_ ?_),⟨by dsimp only;rw [List.take_zero,List.append_nil];rfl,rfl,trivial⟩⟩ ?_
     rintro⟨i,K⟩ Q
     dsimp only at Q
     ((conv=>whnf);repeat ((first |(intro c;try simp only [lnS]at c)|refine sI ?_|refine qE_ ?_);conv=>whnf))
     refine aA (λI=> ?_) (λI=> ?_)
     ·have n:i < x.parts.length:=by dsimp only at I;omega
      have C:(x.parts.map cnR)[(i:Int).toNat]? =some (cnR x.parts[i]):=bA n
      have hps:=fK (List.getElem_mem (l:=x.parts) n)
      have z:=vF x.parts[i] (by omega)
      have E:=dK x.parts[i]
      rw [aJ]at C z
      rw [dK]at z
      have h:((acc++x.parts.take i).map grR).length=acc.length+i:=by rw [List.length_map,List.length_append,List.length_take];omega
      have u:((acc++x.parts.take i).map grR).length+1<=9223372036854775807:=by rw [h];omega
      have v:(((acc++x.parts.take i).map grR).length+1)* 96<=140737488355328:=by rw [h];omega
      ((conv=>whnf);repeat ((first|(refine⟨_,C, ?_⟩)|refine qT z ?_|(refine And.intro h.symm ?_)|(refine And.intro u ?_)|(refine And.intro v ?_) |(intro c;try simp only [lnS]at c)|refine sI ?_|refine qE_ ?_);conv=>whnf))
      rename_i cap'
      have w:(acc++x.parts.take (i+1)).map grR=(acc++x.parts.take i).map grR++[grX x.parts[i] (aM x.parts[i]) x.parts[i].parts]:=by
       rw [List.take_succ_eq_append_getElem n,<-List.append_assoc,List.map_append,List.map_cons,List.map_nil,E]
      refine⟨(i+1,cap'),qO,qO,⟨?_, ?_⟩⟩
      ·repeat' (first|exact trivial|exact bDu (by show ((acc++x.parts.take i).map grR).length+1=_;rw [h];dsimp only;omega)|exact rfl|refine And.intro ?_ ?_)
      ·dsimp only
       rw [w]
       exact⟨rfl,rfl,trivial⟩
     ·have n:i=x.parts.length:=by dsimp only at I;omega
      subst n
      rw [List.take_length,<-g]
      ((conv=>whnf);repeat' ((first|(intro c;(try simp only [lnS]at c);(try rewrite [List.length_map]))|refine sJ ?_|refine qE_ ?_|refine exL (k:=?_)|refine dwR ?_|((first|refine aA ?_ ?_|refine aC ?_ ?_)<;>intro hb<;>(first|exact ddX hb|try simp only [lnS]at hb))|(refine aB ?_ ?_<;>intro hb<;>try exact dsX hb))<;>(conv=>whnf)))
      refine⟨(j+1,K),⟨qO,B⟩,qO,⟨?_,⟨rfl,rfl,trivial⟩⟩⟩
      repeat' (first|exact trivial|exact bDu (by dsimp only;rw [g,List.length_append])|exact rfl|refine And.intro ?_ ?_)
    ·rw [aKe D P]at g A
     rw [bP]at A
     have z:=vF x Y
     have E:=dK x
     rw [aJ,E]at z
     generalize aJa (ps.take j)=acc at *
     have h:(acc.map grR).length=acc.length:=List.length_map ..
     have u:(acc.map grR).length+1<=9223372036854775807:=by rw [h];omega
     have v:((acc.map grR).length+1)* 96<=140737488355328:=by rw [h];omega
     ((conv=>whnf);repeat ((first|refine qT z ?_|(refine And.intro h.symm ?_)|(refine And.intro u ?_)|(refine And.intro v ?_) |(intro c;try simp only [lnS]at c)|refine sI ?_|refine qE_ ?_);conv=>whnf))
     rename_i cap'
     refine⟨(j+1,cap'),⟨qO,B⟩,qO,⟨?_, ?_⟩⟩
     ·repeat' (first|exact trivial|exact bDu (by show (acc.map grR).length+1=_;rw [h,g,List.length_append];rfl)|exact rfl|refine And.intro ?_ ?_)
     ·dsimp only
      rw [g,List.map_append,List.map_cons,List.map_nil,E]
      exact⟨rfl,rfl,trivial⟩
 ·have q:j=ps.length:=by dsimp only at U;omega
  subst q
  rw [List.take_length]at m
  have hacl:=jL (aJa ps)
  have A:=aUp ps ps.length
  rw [List.take_length]at A
  rw [aX1 m]
  ((conv=>whnf);repeat ((first |(intro c;try simp only [lnS]at c)|refine sI ?_|refine qE_ ?_);conv=>whnf))
  rw [List.take_length]
  refine aEw Tryz.sortTree (by decide) aPp aRn (enters_of Tryz.func126 (by kernel_rfl) rfl) (aJa ps) grR iG bFs (λx _ y _=>qN x y) (id:=70) rfl rfl (by omega) (λS hp' T=> ?_)
  ((conv=>whnf);repeat ((first |(intro c;try simp only [lnS]at c)|refine sI ?_|refine qE_ ?_);conv=>whnf))
  have R:=hp'.length_eq
  refine yE 176 (by kernel_rfl) S (by omega) (λa _ b _=>aPb a b) cap _ R.symm [(2, .cells 45 [.d (.int .i64 0), .d (.str []), .d (.int .i64 0), .d (.int .i64 0), .d .nil])] (by simp) (bBb (by with_unfolding_all exact rfl)) (by simp [gH,HObj.ids,SV.idsL,SV.ids];omega) rfl (λo=>⟨rfl,trivial⟩) (λcap'=> ?_)
  have G:aIq aDw S=nR (aJa ps):=aL0 hp' T
  rw [G]
  have Z:(nR (aJa ps)).length<=1000000:=by rw [<-G];have:=aNb aDw S;omega
  generalize nR (aJa ps)=s at Z |-
  ((conv=>whnf);repeat ((first |(intro c;try simp only [lnS]at c)|refine sI ?_|refine qE_ ?_);conv=>whnf))
  have H:s.length=(s.map grR).length:=(List.length_map ..).symm
  refine aD hty (λi:Nat=>([(2, .ptr 2 0),(4, .mw 170 7 s.length),(59, .mw 170 7 s.length),(60, .d (.int .i64 s.length)),(61, .d (.int .i64 i))],[(170, .mrow 176 7 cap' (s.map grR)),(2, .cells 45 [.d (.int .i64 0), .d (.str []), .d (.int .i64 0), .d (.int .i64 0), .d .nil])])) (λi=>i<=s.length/\(s.take i).find? (λt=>decide (t.kind=2))=none) (λi=>s.length - i) 0 ⟨by omega,rfl⟩ ⟨qB,⟨rfl,rfl,trivial⟩⟩ ?_
  rintro i ⟨hi,J⟩
  ((conv=>whnf);repeat ((first |(intro c;try simp only [lnS]at c)|refine sI ?_|refine qE_ ?_);conv=>whnf))
  refine aA (λN=> ?_) (λN=> ?_)
  ·have n:i < s.length:=by omega
   have f:(s.map grR)[(i:Int).toNat]? =some (grR s[i]):=bA n
   rw [dK]at f
   obtain⟨a2,a3⟩:=aIe n J
   ((conv=>whnf);repeat ((first|(refine And.intro H ?_)|(refine⟨_,f, ?_⟩) |(intro c;try simp only [lnS]at c)|refine sI ?_|refine qE_ ?_);conv=>whnf))
   refine aA (λD=> ?_) (λD=> ?_)
   ·((conv=>whnf);repeat' ((first|(intro c;(try simp only [lnS]at c);(try rewrite [List.length_map]))|refine sJ ?_|refine qE_ ?_|refine exL (k:=?_)|refine dwR ?_|((first|refine aA ?_ ?_|refine aC ?_ ?_)<;>intro hb<;>(first|exact ddX hb|try simp only [lnS]at hb))|(refine aB ?_ ?_<;>intro hb<;>try exact dsX hb))<;>(conv=>whnf)))
    rw [aE2 (a2 D)]
    exact uJ _ _
   ·((conv=>whnf);repeat' ((first|(intro c;(try simp only [lnS]at c);(try rewrite [List.length_map]))|refine sJ ?_|refine qE_ ?_|refine exL (k:=?_)|refine dwR ?_|((first|refine aA ?_ ?_|refine aC ?_ ?_)<;>intro hb<;>(first|exact ddX hb|try simp only [lnS]at hb))|(refine aB ?_ ?_<;>intro hb<;>try exact dsX hb))<;>(conv=>whnf)))
    exact⟨i+1,⟨by omega,a3 D⟩,qO,⟨qB,⟨rfl,rfl,trivial⟩⟩⟩
  ·have n:i=s.length:=by omega
   subst n
   rw [List.take_length]at J
   rw [aE3 J]
   ((conv=>whnf);repeat ((first |(intro c;try simp only [lnS]at c)|refine sI ?_|refine qE_ ?_);conv=>whnf))
   refine aA (λD=> ?_) (λD=> ?_)
   ·((conv=>whnf);repeat' ((first|(intro c;(try simp only [lnS]at c);(try rewrite [List.length_map]))|refine sJ ?_|refine qE_ ?_|refine exL (k:=?_)|refine dwR ?_|((first|refine aA ?_ ?_|refine aC ?_ ?_)<;>intro hb<;>(first|exact ddX hb|try simp only [lnS]at hb))|(refine aB ?_ ?_<;>intro hb<;>try exact dsX hb))<;>(conv=>whnf)))
    rw [if_pos (by omega)]
    exact bFf
   ·((conv=>whnf);repeat ((first |(intro c;try simp only [lnS]at c)|refine sI ?_|refine qE_ ?_);conv=>whnf))
    rw [if_neg (by omega)]
    refine aA (λh4=> ?_) (λh4=> ?_)
    ·have L:0 < s.length:=by omega
     have f:(s.map grR)[(0:Int).toNat]? =some (grR s[0]):=bA (i:=0) L
     have V:s.headD c0=s[0]:=by cases s with|nil=>simp at L|cons a r=>rfl
     rw [dK]at f
     ((conv=>whnf);repeat' ((first|(intro c;(try simp only [lnS]at c);(try rewrite [List.length_map]))|refine sJ ?_|refine qE_ ?_|refine exL (k:=?_)| (refine And.intro H ?_)|(refine⟨_,f, ?_⟩)|refine dwR ?_|((first|refine aA ?_ ?_|refine aC ?_ ?_)<;>intro hb<;>(first|exact ddX hb|try simp only [lnS]at hb))|(refine aB ?_ ?_<;>intro hb<;>try exact dsX hb))<;>(conv=>whnf)))
     rw [if_pos (by omega),V]
     exact uJ _ _
    ·((conv=>whnf);repeat ((first |(intro c;try simp only [lnS]at c)|refine sI ?_|refine qE_ ?_);conv=>whnf))
     rw [if_neg (by omega)]
     refine aA (λP=> ?_) (λP=> ?_)
     ·((conv=>whnf);repeat' ((first|(intro c;(try simp only [lnS]at c);(try rewrite [List.length_map]))|refine sJ ?_|refine qE_ ?_|refine exL (k:=?_)|refine dwR ?_|((first|refine aA ?_ ?_|refine aC ?_ ?_)<;>intro hb<;>(first|exact ddX hb|try simp only [lnS]at hb))|(refine aB ?_ ?_<;>intro hb<;>try exact dsX hb))<;>(conv=>whnf)))
      rw [if_pos (by omega)]
      exact aQi 2
     ·rw [if_neg (by omega)]
      ((conv=>whnf);repeat ((first |(intro c;try simp only [lnS]at c)|refine sI ?_|refine qE_ ?_);conv=>whnf))
      refine aK.mownC 2 190 45 45 5 4 rfl rfl (bQ (by with_unfolding_all exact rfl)) ?_
      refine aD hty (λy:Nat×Nat=>([(2, .ptr 2 0),(91, .mw 170 7 s.length),(92, .d (.int .i64 s.length)),(93, .d (.int .i64 y.1))],[(190, .mrow 45 5 y.2 ((s.take y.1).map cnR)),(170, .mrow 176 7 cap' (s.map grR)),(2, .cells 45 [.d (.int .i64 5), .d (.str []), .d (.int .i64 0), .d (.int .i64 0), .mw 190 5 y.1])])) (λy=>y.1<=s.length) (λy=>s.length - y.1) (0,0) (qO) ⟨qB,⟨rfl,rfl,rfl,trivial⟩⟩ ?_
      rintro⟨k,cap3⟩ hk
      dsimp only at hk
      ((conv=>whnf);repeat ((first |(intro c;try simp only [lnS]at c)|refine sI ?_|refine qE_ ?_);conv=>whnf))
      refine aA (λI=> ?_) (λI=> ?_)
      ·have F:k < s.length:=by dsimp only at I;omega
       have f:(s.map grR)[(k:Int).toNat]? =some (grR s[k]):=bA F
       have W:=aJ s[k]
       rw [dK]at f
       have h:((s.take k).map cnR).length=k:=by rw [List.length_map,List.length_take];omega
       have u:((s.take k).map cnR).length+1<=9223372036854775807:=by rw [h];omega
       have v:(((s.take k).map cnR).length+1)* 64<=140737488355328:=by rw [h];omega
       ((conv=>whnf);repeat ((first|(refine And.intro H ?_)|(refine⟨_,f, ?_⟩)|(refine And.intro h.symm ?_)|(refine And.intro u ?_)|(refine And.intro v ?_) |(intro c;try simp only [lnS]at c)|refine sI ?_|refine qE_ ?_);conv=>whnf))
       rename_i O
       have w:(s.take (k+1)).map cnR=(s.take k).map cnR++[[.int .i64 s[k].kind, .str s[k].name, .int .i64 s[k].lo, .int .i64 s[k].hi, .sl 5 (s[k].parts.map cnR)]]:=by
        rw [List.take_succ_eq_append_getElem F,List.map_append,List.map_cons,List.map_nil,W]
       refine⟨(k+1,O),qO,qO,⟨qB, ?_⟩⟩
       dsimp only
       rw [w]
       refine⟨rfl,rfl, ?_,trivial⟩
       have a1:SV.mw 190 5 (k+1)=SV.mw 190 5 (((s.take k).map cnR).length+1):=by rw [h]
       rw [a1]
       rfl
      ·have F:k=s.length:=by dsimp only at I;omega
       subst F
       rw [List.take_length]
       ((conv=>whnf);repeat' ((first|(intro c;(try simp only [lnS]at c);(try rewrite [List.length_map]))|refine sJ ?_|refine qE_ ?_|refine exL (k:=?_)|refine dwR ?_|((first|refine aA ?_ ?_|refine aC ?_ ?_)<;>intro hb<;>(first|exact ddX hb|try simp only [lnS]at hb))|(refine aB ?_ ?_<;>intro hb<;>try exact dsX hb))<;>(conv=>whnf)))
       refine⟨(List.length_map ..).symm, ?_⟩
       ((conv=>whnf);repeat ((first |(intro c;try simp only [lnS]at c)|refine sI ?_|refine qE_ ?_);conv=>whnf))
       exact uJ (.mk 5 [] 0 0 s) 0
def okC (c:Cn):Prop:= ∀x∈fT c,x.kind=6->x.parts≠[]
theorem aWr {c p:Cn}(h:okC c) (hp:p∈c.parts):okC p:=by
 intro x hx
 refine h x ?_
 rw [dO]
 refine List.mem_cons_of_mem _ ?_
 obtain⟨a,b,e⟩:=List.append_of_mem hp
 rw [e,eM,aX]
 simp [hx]
theorem aGu: ∀(c:Cn) (_:aM c<=1000000) (_:okC c),Tri Tryz.prog 66 [.d (.agg (cnR c))] [] (λr=>r= .tup [.d (.agg (cnR (aI c).1)), .d (.int .i64 (aI c).2)]):=by
 refine Cn.ind ?_
 intro c t hs j
 have l: ∀p∈c.parts,Tri Tryz.prog 66 [.d (.agg (cnR p))] [] (λr=>r= .tup [.d (.agg (cnR (aI p).1)), .d (.int .i64 (aI p).2)]):= λp hp=>
  t p hp (by have:=fK hp;omega) (aWr j hp)
 have s:=(aT9 c.parts (by have:=cP c;omega) l).pairW
 refine Tri.pairW ?_
 rw [eX]
 rw [aJ]
 refine qG [1,4] hty Tryz.func66 [0,1,2,3,4,5,7,8,24,32] ?_
 ((conv=>whnf);repeat ((first |(intro b;try simp only [lnS]at b)|refine sI ?_|refine qE_ ?_);conv=>whnf))
 refine aA (λm=> ?_) (λm=> ?_)
 ·rw [if_pos m]
  have q:c.parts≠[]:=j c (by rw [dO];simp) m
  have a:0 < c.parts.length:=List.length_pos_iff.2 q
  have e:(c.parts.map cnR)[(0:Int).toNat]? =some (cnR c.parts[0]):=bA (i:=0) a
  have hi:=l c.parts[0] (List.getElem_mem a)
  have g:uG c.name (c.parts.map aI)=if (aI c.parts[0]).2≠0\/(aI c.parts[0]).1.kind=2 then aI c.parts[0]else (.mk 6 c.name 0 0 [(aI c.parts[0]).1],0):=by
   have:c.parts.map aI=aI c.parts[0]::(c.parts.drop 1).map aI:=by
    rw [<-List.map_cons (f:=aI),<-List.drop_eq_getElem_cons a,List.drop_zero]
   rw [this,uG]
  rw [g]
  obtain⟨r,hr⟩: ∃r,r=aI c.parts[0]:=⟨_,rfl⟩
  rw [<-hr]at hi |-
  rw [aJ]at e hi
  rw [aJ r.1]at hi
  ((conv=>whnf);repeat' ((first|(intro b;(try simp only [lnS]at b);(try rewrite [List.length_map]))|refine sJ ?_|refine qE_ ?_|refine exL (k:=?_)| (refine And.intro (by simpa using a) ?_)|(refine⟨_,e, ?_⟩)|refine qT hi ?_|refine dwR ?_|((first|refine aA ?_ ?_|refine aC ?_ ?_)<;>intro hb<;>(first|exact ddX hb|try simp only [lnS]at hb))|(refine aB ?_ ?_<;>intro hb<;>try exact dsX hb))<;>(conv=>whnf)))
  ·rw [if_pos (.inl hb)]
   exact uJ _ _
  ·rw [if_pos (.inr hb)]
   exact uJ _ _
  ·rename_i n
   have u:¬ (r.2≠0\/r.1.kind=2):=by
    rintro(h|h)
    ·exact h n
    ·exact hb h
   rw [if_neg u]
   have h:=uJ (.mk 6 c.name 0 0 [r.1]) 0
   simp only [Cn.kind,Cn.name,Cn.lo,Cn.hi,Cn.parts,List.map_cons,List.map_nil]at h
   rw [aJ r.1]at h
   exact h
 ·rw [if_neg m]
  ((conv=>whnf);repeat ((first |(intro b;try simp only [lnS]at b)|refine sI ?_|refine qE_ ?_);conv=>whnf))
  refine aA (λo=> ?_) (λo=> ?_)
  ·rw [if_pos o]
   rw [aJ (kI (c.parts.map aI)).1]at s
   ((conv=>whnf);repeat' ((first|(intro b;(try simp only [lnS]at b);(try rewrite [List.length_map]))|refine sJ ?_|refine qE_ ?_|refine exL (k:=?_)| refine qT s ?_|refine dwR ?_|((first|refine aA ?_ ?_|refine aC ?_ ?_)<;>intro hb<;>(first|exact ddX hb|try simp only [lnS]at hb))|(refine aB ?_ ?_<;>intro hb<;>try exact dsX hb))<;>(conv=>whnf)))
   exact uJ _ _
  ·rw [if_neg o]
   ((conv=>whnf);repeat' ((first|(intro b;(try simp only [lnS]at b);(try rewrite [List.length_map]))|refine sJ ?_|refine qE_ ?_|refine exL (k:=?_)|refine dwR ?_|((first|refine aA ?_ ?_|refine aC ?_ ?_)<;>intro hb<;>(first|exact ddX hb|try simp only [lnS]at hb))|(refine aB ?_ ?_<;>intro hb<;>try exact dsX hb))<;>(conv=>whnf)))
   exact uJ _ _
end
section
attribute [local irreducible] aK aF Tri aH YVC cG aT
set_option maxRecDepth 10000
theorem tK: ∀{l:List Cn},eE l=0-> ∀x∈l,bM x=0
 | [],_,x,hx=>by simp at hx
 |a::l,h,x,hx=>by
  rw [eE]at h
  split at h
  ·rename_i b;exact absurd h b
  ·rename_i b
   rcases List.mem_cons.1 hx with rfl|hx
   ·simpa using b
   ·exact tK h x hx
mutual
theorem xA: ∀(c:Cn) (d n:Int),(fV c d n).1=true->(fV c d n).2=n+(aM c:Nat)
 | .mk k s lo hi ps,d,n=>by
  have h:=aDq ps d (n+1)
  have e:aM (.mk k s lo hi ps)=iA ps+1:=cP _
  rw [fV]
  split
  ·simp
  ·intro a
   rw [h a,e];omega
theorem aDq: ∀(l:List Cn) (d n:Int),(gV l d n).1=true->(gV l d n).2=n+(iA l:Nat)
 | [],d,n=>by rw [gV];intro _;simp [iA,aX]
 |c::r,d,n=>by
  have a:=xA c (d+1) n
  rw [gV]
  split
  ·rename_i hb
   have e:=aDq r d (fV c (d+1) n).2
   intro b
   rw [e b,a hb,bP];omega
  ·simp
end
theorem dJ {c:Cn}(h:bC c=0):aM c<=64/\okC c/\ ∀x∈fT c,bM x=0:=by
 unfold bC at h
 split at h
 ·simp at h
 ·rename_i a
  have a:(fV c 0 0).1=true:=by simpa using a
  have d:=tK h
  refine⟨?_,λx hx i=> ?_,d⟩
  ·have b:=xA c 0 0 a
   have h2:(fV c 0 0).2<=64:=by
    have e:=zA c 0 0
    by_cases f:(8:Int) < 0\/(64:Int) < 0+1
    ·omega
    ·rw [if_neg f]at e
     rw [e]at a |-
     exact(vJ c.parts 0 (0+1) (by omega) (by omega)).2.2 a
   omega
  ·have:=d x hx
   unfold bM at this
   rw [if_neg (by omega),i]at this
   unfold iE at this
   rw [show gA 6=⟨1,1,1,false⟩from rfl]at this
   split at this
   ·simp at this
   ·rename_i b
    intro g
    apply b
    left
    rw [g];simp
def a0:Ax:=⟨0,false,c0,c0,[],[],[],[]⟩
def bO (b:Bool) (c:Cn):Cn×Int:=if b=true then aI c else (c,0)
def sE (u:Use) (x:Ax):Ax×Int:=
 if (bO u.left x.left).2≠0 then (a0,(bO u.left x.left).2)
 else if (bO u.right x.right).2≠0 then (a0,(bO u.right x.right).2)
 else if (x.kind=2\/x.kind=3)/\0 < iG (bO u.left x.left).1 (bO u.right x.right).1 then ({ x with left:=(bO u.right x.right).1,right:=(bO u.left x.left).1 },0)
 else ({ x with left:=(bO u.left x.left).1,right:=(bO u.right x.right).1 },0)
def cB (x:Ax):Ax×Int:=if aZ x≠0 then (a0,aZ x)else sE (cC x.kind) x
structure PairA (x:Ax) (e:Int) (s:SV):Prop where
 ex: ∃a,s= .tup [.d a, .d (.int .i64 e)]/\(a= .agg (axR x)\/WkD a (.agg (axR x)))
theorem Tri.pairA {P:Program}{f:FuncId}{qs:List SV}{hp:Hp}{x:Ax}{e:Int}(h:Tri P f qs hp (PairA x e)):Tri P f qs hp (λr=>r= .tup [.d (.agg (axR x)), .d (.int .i64 e)]):=by
 refine Tri.resT h ?_
 rintro s ⟨a,rfl,rfl|b⟩
 ·exact .inl rfl
 ·exact .inr ⟨_,[.d (.agg (axR x)), .d (.int .i64 e)],rfl,⟨b,by exact rfl,trivial⟩,rfl⟩
theorem aGk (e:Int):PairA a0 e (.tup [.d (.agg [.int .i64 0, .bool false, .int .i64 0, .str [], .int .i64 0, .int .i64 0, .nil, .int .i64 0, .str [], .int .i64 0, .int .i64 0, .nil, .nil, .str [], .str [], .str []]), .d (.int .i64 e)]):=by
 refine⟨_,rfl, .inr ?_⟩
 exact⟨rfl,rfl,rfl,rfl,rfl,rfl,rfl,rfl,rfl,rfl,rfl,rfl,rfl,rfl,rfl,rfl,trivial⟩
theorem aJv (x:Ax) (e:Int):PairA x e (.tup [.d (.agg (axR x)), .d (.int .i64 e)]):=⟨_,rfl, .inl rfl⟩
theorem vV {x:Ax}(h:aZ x=0):(1<=x.kind/\x.kind<=9)/\((cC x.kind).left=true->bC x.left=0)/\((cC x.kind).right=true->bC x.right=0):=by
 unfold aZ at h
 split at h
 ·simp at h
 ·rename_i b
  refine⟨?_, ?_⟩
  ·have b:bI x=true:=by simpa using b
   unfold bI at b
   split at b
   ·cases b
   ·omega
  ·unfold vU at h
   split at h
   ·simp at h
   ·split at h
    ·rename_i a;exact absurd h a.2
    ·split at h
     ·rename_i a;exact absurd h a.2
     ·rename_i a e
      exact⟨λd=>Decidable.byContradiction λc=>a ⟨d,c⟩,λd=>Decidable.byContradiction λc=>e ⟨d,c⟩⟩
theorem aCg (x:Ax):Tri Tryz.prog 32 [.d (.agg (axR x))] NG (λr=>r= .tup [.d (.agg (axR (cB x).1)), .d (.int .i64 (cB x).2)]):=by
 refine Tri.pairA ?_
 have y:=kO x
 refine qG [1,5] hty Tryz.func32 [0,1,2,3,4,5,9,18,27,31,40,58] ?_
 unfold cB
 ((conv=>whnf);repeat ((first |(intro b;try simp only [lnS]at b)|refine sI ?_|refine qE_ ?_);conv=>whnf))
 refine aL NG y ⟨rfl,rfl,trivial⟩ (λr z=> ?_)
 subst z
 ((conv=>whnf);repeat ((first |(intro b;try simp only [lnS]at b)|refine sI ?_|refine qE_ ?_);conv=>whnf))
 refine aC (λg=> ?_) (λg=> ?_)
 ·rw [if_pos g]
  ((conv=>whnf);repeat' ((first|(intro b;(try simp only [lnS]at b);(try rewrite [List.length_map]))|refine sJ ?_|refine qE_ ?_|refine exL (k:=?_)|refine dwR ?_|((first|refine aA ?_ ?_|refine aC ?_ ?_)<;>intro hb<;>(first|exact ddX hb|try simp only [lnS]at hb))|(refine aB ?_ ?_<;>intro hb<;>try exact dsX hb))<;>(conv=>whnf)))
  exact aGk _
 ·rw [if_neg (by simpa using g)]
  obtain⟨B,hl,p⟩:=vV g
  have i:=aR0 (k:=x.kind) B
  have a:(x.kind=2\/x.kind=3)->(cC x.kind).left=true/\(cC x.kind).right=true:=by
   rintro(h|h)<;>rw [h]<;>exact⟨rfl,rfl⟩
  generalize cC x.kind=u at *
  have w:u.left=true->_:= λh=>aGu x.left (by have:=(dJ (hl h)).1;omega) (dJ (hl h)).2.1
  have tr:u.right=true->_:= λh=>aGu x.right (by have:=(dJ (p h)).1;omega) (dJ (p h)).2.1
  rw [aJ,aJ (aI x.left).1]at w
  rw [aJ,aJ (aI x.right).1]at tr
  ((conv=>whnf);repeat ((first|(refine dE (id:=91) hty rfl rfl rfl rfl rfl rfl rfl (by omega) (by omega) ?_)|(refine⟨_,i, ?_⟩) |(intro b;try simp only [lnS]at b)|refine sI ?_|refine qE_ ?_);conv=>whnf))
  have l: ∀(L R:Cn) (e f:Int),bO u.left x.left=(L,e)->bO u.right x.right=(R,f)->sE u x=if e≠0 then (a0,e)else if f≠0 then (a0,f)else if (x.kind=2\/x.kind=3)/\0 < iG L R then ({ x with left:=R,right:=L },0)else ({ x with left:=L,right:=R },0):=by
   intro L R e f g c
   unfold sE
   rw [g,c]
  cases hul:u.left
  ·have s:¬ x.kind=2/\¬ x.kind=3:=⟨λh=>by simp [hul]at a;exact a.1 h,λh=>by simp [hul]at a;exact a.2 h⟩
   have e1:bO u.left x.left=(x.left,0):=by rw [hul];rfl
   obtain⟨n,m⟩:=s
   ((conv=>whnf);repeat ((first |(intro b;try simp only [lnS]at b)|refine sI ?_|refine qE_ ?_);conv=>whnf))
   cases hur:u.right
   ·have e2:bO u.right x.right=(x.right,0):=by rw [hur];rfl
    rw [l _ _ _ _ e1 e2,if_neg (by simp),if_neg (by simp),if_neg (by omega)]
    ((conv=>whnf);repeat' ((first|(intro b;(try simp only [lnS]at b);(try rewrite [List.length_map]))|refine sJ ?_|refine qE_ ?_|refine exL (k:=?_)|refine dwR ?_|((first|refine aA ?_ ?_|refine aC ?_ ?_)<;>intro hb<;>(first|exact ddX hb|try simp only [lnS]at hb))|(refine aB ?_ ?_<;>intro hb<;>try exact dsX hb))<;>(conv=>whnf)))
    exact aJv _ _
   ·have e2:bO u.right x.right=((aI x.right).1,(aI x.right).2):=by rw [hur];rfl
    rw [l _ _ _ _ e1 e2,if_neg (by simp)]
    have hi:=tr hur
    generalize (aI x.right).1=R at *
    generalize (aI x.right).2=f at *
    ((conv=>whnf);repeat ((first|refine qT hi ?_ |(intro b;try simp only [lnS]at b)|refine sI ?_|refine qE_ ?_);conv=>whnf))
    refine aC (λc=> ?_) (λc=> ?_)
    ·((conv=>whnf);repeat' ((first|(intro b;(try simp only [lnS]at b);(try rewrite [List.length_map]))|refine sJ ?_|refine qE_ ?_|refine exL (k:=?_)|refine dwR ?_|((first|refine aA ?_ ?_|refine aC ?_ ?_)<;>intro hb<;>(first|exact ddX hb|try simp only [lnS]at hb))|(refine aB ?_ ?_<;>intro hb<;>try exact dsX hb))<;>(conv=>whnf)))
     rw [if_pos c]
     exact aGk _
    ·rw [if_neg (by simpa using c),if_neg (by omega)]
     ((conv=>whnf);repeat' ((first|(intro b;(try simp only [lnS]at b);(try rewrite [List.length_map]))|refine sJ ?_|refine qE_ ?_|refine exL (k:=?_)|refine dwR ?_|((first|refine aA ?_ ?_|refine aC ?_ ?_)<;>intro hb<;>(first|exact ddX hb|try simp only [lnS]at hb))|(refine aB ?_ ?_<;>intro hb<;>try exact dsX hb))<;>(conv=>whnf)))
     exact aJv { x with right:=R } 0
  ·have e1:bO u.left x.left=((aI x.left).1,(aI x.left).2):=by rw [hul];rfl
   have hi:=w hul
   have q:aM (aI x.left).1<=1000000:=by
    have j:=hZ x.left
    have A:=(dJ (hl hul)).1
    omega
   ((conv=>whnf);repeat ((first|refine qT hi ?_ |(intro b;try simp only [lnS]at b)|refine sI ?_|refine qE_ ?_);conv=>whnf))
   generalize (aI x.left).1=L at *
   generalize (aI x.left).2=e at *
   refine aC (λc=> ?_) (λc=> ?_)
   ·have t:sE u x=(a0,e):=by
     unfold sE
     rw [e1,if_pos c]
    rw [t]
    (repeat' first|(refine qW ?_;intros)|((conv=>whnf);first|refine dwR ?_|((first|refine aA ?_ ?_|refine aC ?_ ?_)<;>intro hb<;>(first|exact ddX hb|try simp only [lnS]at hb))|(refine aB ?_ ?_<;>intro hb<;>try exact dsX hb)))
    exact aGk _
   ·refine qX ?_;intros
    cases hur:u.right
    ·have s:¬ x.kind=2/\¬ x.kind=3:=⟨λh=>by simp [hur]at a;exact a.1 h,λh=>by simp [hur]at a;exact a.2 h⟩
     obtain⟨n,m⟩:=s
     have e2:bO u.right x.right=(x.right,0):=by rw [hur];rfl
     rw [l _ _ _ _ e1 e2,if_neg (by simpa using c),if_neg (by simp),if_neg (by omega)]
     (repeat' first|(refine qW ?_;intros)|((conv=>whnf);first|refine dwR ?_|((first|refine aA ?_ ?_|refine aC ?_ ?_)<;>intro hb<;>(first|exact ddX hb|try simp only [lnS]at hb))|(refine aB ?_ ?_<;>intro hb<;>try exact dsX hb)))
     exact aJv { x with left:=L } 0
    ·have e2:bO u.right x.right=((aI x.right).1,(aI x.right).2):=by rw [hur];rfl
     rw [l _ _ _ _ e1 e2,if_neg (by simpa using c)]
     have hj:=tr hur
     have v:aM (aI x.right).1<=1000000:=by
      have j:=hZ x.right
      have A:=(dJ (p hur)).1
      omega
     generalize (aI x.right).1=R at *
     generalize (aI x.right).2=f at *
     refine qZ ?_;intros
     refine aC (λj=> ?_) (λj=> ?_)
     ·(repeat' first|(refine qW ?_;intros)|((conv=>whnf);first|refine dwR ?_|((first|refine aA ?_ ?_|refine aC ?_ ?_)<;>intro hb<;>(first|exact ddX hb|try simp only [lnS]at hb))|(refine aB ?_ ?_<;>intro hb<;>try exact dsX hb)))
      rw [if_pos j]
      exact aGk _
     ·rw [if_neg (by simpa using j)]
      have o:=rE L R q v
      rw [aJ,aJ]at o
      (repeat' first|(refine qW ?_;intros)|((conv=>whnf);first|refine dwR ?_|((first|refine aA ?_ ?_|refine aC ?_ ?_)<;>intro hb<;>(first|exact ddX hb|try simp only [lnS]at hb))|(refine aB ?_ ?_<;>intro hb<;>try exact dsX hb)))
      all_goals first
       |(rw [if_pos ⟨by omega,by assumption⟩];exact aJv { x with left:=R,right:=L } 0)
       |(rw [if_neg (by omega)];exact aJv { x with left:=L,right:=R } 0)
end
section
theorem aCu {p:Cn}: ∀{l:List Cn},p∈l-> ∀x∈fT p,x∈aX l
 | [],h=>by simp at h
 |q::r,h=>by
  intro x hx
  rw [aX]
  rcases List.mem_cons.1 h with e|e
  ·exact List.mem_append_left _ (e ▸ hx)
  ·exact List.mem_append_right _ (aCu e x hx)
theorem aIa: ∀{l:List Cn}{d n:Int},(gV l d n).1=true-> ∀p∈l,∃m,(fV p (d+1) m).1=true
 | [],d,n,_=>by simp
 |q::r,d,n,h=>by
  rw [gV]at h
  split at h
  ·rename_i a
   intro p hp
   rcases List.mem_cons.1 hp with e|e
   ·exact⟨n,by rw [e];exact a⟩
   ·exact aIa h p e
  ·cases h
theorem rQ {s:List UInt8}(h:cA s=true):s.length<=24:=by
 unfold cA at h
 rw [Bool.and_eq_true]at h
 exact of_decide_eq_true h.1
theorem aM2 {s:List UInt8}(h:aF8 s=true):s.length<=24:=by
 unfold aF8 at h
 simp only [Bool.and_eq_true,decide_eq_true_eq]at h
 exact h.2.1
theorem aHt {s:List UInt8}(h:fU s=true):s.length<=24:=by
 unfold fU at h
 rcases Bool.or_eq_true_iff.1 h with h|h
 ·exact rQ h
 ·exact aM2 h
theorem aDv {c:Cn}(h:bM c=0):(1<=c.kind/\c.kind<=7)/\c.name.length<=24/\(-1099511627776<=c.lo/\c.lo<=1099511627776)/\(-1099511627776<=c.hi/\c.hi<=1099511627776):=by
 unfold bM at h
 split at h
 ·simp at h
 ·rename_i hk
  refine⟨by omega, ?_⟩
  generalize hn:gA c.kind=n at h
  have name:aFs n c.name=0->(¬ (n.name=0/\c.name≠[]))->c.name.length<=24:=by
   intro b d
   unfold aFs at b
   split at b
   ·rename_i a
    rcases a with a|a|a
    ·have:c.name=[]:=Decidable.byContradiction λq=>d ⟨a,q⟩
     rw [this];simp
    ·exact rQ a
    ·exact aM2 a.2
   ·simp at b
  unfold iE at h
  split at h
  ·simp at h
  ·rename_i b
   have d:¬ (n.name=0/\c.name≠[]):= λq=>b (Or.inr (Or.inr q))
   split at h
   ·split at h
    ·simp at h
    ·exact⟨name h d,by omega,by omega⟩
   ·split at h
    ·simp at h
    ·exact⟨name h d,by omega,by omega⟩
theorem aYb: ∀(k:Nat) (c:Cn) (d n:Int),d+k=9->(fV c d n).1=true->(∀x∈fT c,bM x=0)->aM c<=64->OkC k c
 | 0,c,d,n,hd,hf,_,_=>by
  rw [zA,if_pos (Or.inl (by omega))]at hf
  cases hf
 |k+1,c,d,n,hd,hf,hz,hs=>by
  obtain⟨h1,h2,h3,h4⟩:=aDv (hz c (by rw [dO];exact List.mem_cons_self ..))
  have hl:c.parts.length<=64:=by have:=cP c;have:=rT c.parts;unfold iA at *;omega
  refine⟨⟨by omega,by omega⟩,by omega,⟨by omega,by omega⟩,⟨by omega,by omega⟩,by omega,λp hp=> ?_⟩
  rw [zA]at hf
  split at hf
  ·cases hf
  ·obtain⟨m,a⟩:=aIa hf p hp
   refine aYb k p (d+1) m (by omega) a (λx hx=>hz x ?_) ?_
   ·rw [dO];exact List.mem_cons_of_mem _ (aCu hp x hx)
   ·have:=mZ hp;have:=cP c;omega
theorem aSz {c:Cn}(h:bC c=0):OkC 9 c:=by
 obtain⟨b,_,a⟩:=dJ h
 unfold bC at h
 split at h
 ·simp at h
 ·rename_i d
  exact aYb 9 c 0 0 rfl (by simpa using d) a b
theorem aT0 {c:Cn}(h:dQ c=true):OkC 9 c:=by
 obtain⟨k,n,lo,hi,ps⟩:=c
 unfold dQ at h
 simp only [Bool.and_eq_true]at h
 obtain⟨a,f,d,b,e⟩:=h
 obtain rfl:k=0:=of_decide_eq_true a
 obtain rfl:n=[]:=of_decide_eq_true f
 obtain rfl:lo=0:=of_decide_eq_true d
 obtain rfl:hi=0:=of_decide_eq_true b
 obtain rfl:ps=[]:=of_decide_eq_true e
 exact⟨⟨by decide,by decide⟩,by decide,⟨by decide,by decide⟩,⟨by decide,by decide⟩,by decide,λp hp=>by simp [Cn.parts]at hp⟩
theorem xV {x:Ax}(h:aZ x=0):(0<=x.kind/\x.kind<=255)/\(bC x.left=0\/dQ x.left=true)/\(bC x.right=0\/dQ x.right=true)/\(x.roles.length<=4/\ ∀s∈x.roles,s.length<=24)/\x.role.length<=24/\x.a.length<=24/\x.b.length<=24:=by
 obtain⟨i,hl,o⟩:=vV h
 unfold aZ at h
 split at h
 ·simp at h
 ·rename_i c
  have c:bI x=true:=by simpa using c
  unfold bI at c
  split at c
  ·cases c
  ·have g: ∀k:Int,1<=k->k<=9->(cC k).most<=4:=by
    intro k h1 h2
    have j:k=1\/k=2\/k=3\/k=4\/k=5\/k=6\/k=7\/k=8\/k=9:=by omega
    rcases j with rfl|rfl|rfl|rfl|rfl|rfl|rfl|rfl|rfl<;>decide
   have g:=g x.kind i.1 i.2
   unfold vU at h
   generalize cC x.kind=u at *
   unfold bH at c
   simp only [Bool.and_eq_true,Bool.or_eq_true,decide_eq_true_eq]at c
   obtain⟨p,n,l,r,q,s6,s7⟩:=c
   split at h
   ·simp at h
   ·rename_i d
    have d:pZ u x=true:=by simpa using d
    unfold pZ at d
    rw [Bool.and_eq_true]at d
    obtain⟨f,m⟩:=d
    have f:¬ (u.role=true/\cA x.role=false)/\¬ (u.a=true/\fU x.a=false)/\¬ (u.b=true/\fU x.b=false):=by
     revert f
     cases u.role<;>cases cA x.role<;>cases u.a<;>cases fU x.a<;>cases u.b<;>cases fU x.b<;>simp
    have q1:x.role.length<=24:=by
     rcases l with e|e
     ·exact rQ (by cases hp:cA x.role with|true=>rfl|false=>exact absurd ⟨e,hp⟩ f.1)
     ·rw [e];simp
    have q2:x.a.length<=24:=by
     rcases r with e|e
     ·exact aHt (by cases hp:fU x.a with|true=>rfl|false=>exact absurd ⟨e,hp⟩ f.2.1)
     ·rw [e];simp
    have q3:x.b.length<=24:=by
     rcases q with e|e
     ·exact aHt (by cases hp:fU x.b with|true=>rfl|false=>exact absurd ⟨e,hp⟩ f.2.2)
     ·rw [e];simp
    refine⟨⟨by omega,by omega⟩, ?_, ?_,⟨by omega,λs c=> ?_⟩,by omega,by omega,by omega⟩
    ·rcases p with e|e
     ·exact .inl (hl e)
     ·exact .inr e
    ·rcases n with e|e
     ·exact .inl (o e)
     ·exact .inr e
    ·have:=rQ (List.all_eq_true.1 m s c);omega
theorem aHn {c:Cn}(h:bC c=0\/dQ c=true):OkC 9 c:=h.elim aSz aT0
theorem aHo {x:Ax}(h:aZ x=0):OkA 9 x:=by
 obtain⟨a,b,d,⟨h4,e⟩,h6,h7,h8⟩:=xV h
 exact⟨a,aHn b,aHn d,⟨by omega,λs c=>by have:=e s c;omega⟩,by omega,by omega,by omega⟩
theorem aQr (c:Cn):(wC c).length=25+c.name.length+((c.parts.map wC).flatten).length:=by
 rw [aJj]
 unfold jE bZ gJ cU
 simp only [List.length_append,aW]
 omega
theorem bBk: ∀c:Cn,(∀x∈fT c,x.name.length<=24)->(wC c).length<=49 * aM c:=by
 refine Cn.ind ?_
 intro c g f
 have key: ∀l:List Cn,(∀p∈l,p∈c.parts)->(∀x∈aX l,x.name.length<=24)->((l.map wC).flatten).length<=49 * (aX l).length:=by
  intro l
  induction l with
  |nil=>intro _ _;simp
  |cons p r ihr=>
   intro d hx
   have e:aX (p::r)=fT p++aX r:=by rw [aX]
   rw [e]at hx |-
   have b:=g p (d p (List.mem_cons_self ..)) λx a=>hx x (List.mem_append_left _ a)
   have i:=ihr (λq j=>d q (List.mem_cons_of_mem _ j)) λx a=>hx x (List.mem_append_right _ a)
   rw [List.map_cons,List.flatten_cons,List.length_append,List.length_append]
   unfold aM at b
   omega
 have b:=key c.parts (λ_ h=>h) λx hx=>f x (by rw [dO];exact List.mem_cons_of_mem _ hx)
 have i:=f c (by rw [dO];exact List.mem_cons_self ..)
 have k:aM c=(aX c.parts).length+1:=by unfold aM;rw [dO,List.length_cons]
 rw [aQr,k]
 omega
theorem aLl {c:Cn}(h:bC c=0\/dQ c=true):(wC c).length<=3136:=by
 rcases h with h|h
 ·obtain⟨b,_,a⟩:=dJ h
  have:=bBk c λx hx=>(aDv (a x hx)).2.1
  omega
 ·obtain⟨k,n,lo,hi,ps⟩:=c
  unfold dQ at h
  simp only [Bool.and_eq_true]at h
  obtain⟨b,d,a,h4,e⟩:=h
  obtain rfl:n=[]:=of_decide_eq_true d
  obtain rfl:ps=[]:=of_decide_eq_true e
  rw [aQr]
  simp [Cn.name,Cn.parts]
theorem rW {α:Type}{w:α->List UInt8}{k:Nat}: ∀{l:List α},(∀x∈l,(w x).length<=k)->((l.map w).flatten).length<=l.length * k
 | [],_=>by simp
 |x::r,h=>by
  have h1:=h x (List.mem_cons_self ..)
  have h2:=rW (l:=r) λy a=>h y (List.mem_cons_of_mem _ a)
  rw [List.map_cons,List.flatten_cons,List.length_append,List.length_cons,Nat.add_mul]
  omega
theorem aV1 {x:Ax}(h:aZ x=0):(wA x).length<=7000:=by
 obtain⟨_,e,c,⟨b,f⟩,h6,h7,h8⟩:=xV h
 have a1:=aLl e
 have a2:=aLl c
 have d:((x.roles.map bZ).flatten).length<=x.roles.length * 28:=rW λs a=>by
  have:=f s a
  unfold bZ;rw [List.length_append,aW];omega
 have a4:x.roles.length * 28<=4 * 28:=Nat.mul_le_mul_right _ b
 unfold wA wB jE cU
 simp only [List.length_append,aW]
 unfold bZ at d |-
 simp only [List.length_append,aW]
 omega
theorem tW {l:List Ax}(h: ∀x∈l,aZ x=0):(wAs l).length<=4+l.length * 7000:=by
 have:=rW (w:=wA) λx hx=>aV1 (h x hx)
 unfold wAs cU
 rw [List.length_append,aW]
 omega
end
end Go.Proofs.YtbobcfjlbcgchaaGreatDoor
