/-
  The library's sorts, as they lie in this program. Terms: tidy and meet. Terms: Tidy and TidyAxiom. The keys of a set of strings, collected and sorted: maps.Keys, slices.AppendSeq, slices.Collect, slices.Sorted. Terms: Vocabulary. Steps of roles, plainly: those of axioms, the maps that hold them, and the graph of their numbers.
  Conditions: none.
-/
import Derived.Test.YtfhoddcminbffaaGreatDoorMSng
import Derived.Test.YtfhoddcminbffaaGreatDoorMTy
import Derived.Test.YtfhoddcminbffaaGreatDoorMSna
import Derived.Test.YtfhoddcminbffaaGreatDoorMLzp
import Derived.Ground.SlsfProg
import Derived.Ground.NamesProg
import Derived.Test.YtfhoddcminbffaaGreatDoorMA8
import Derived.Sort.KeysCollected
import Derived.Test.YtfhoddcminbffaaGreatDoorMAk
import Derived.Test.YtfhoddcminbffaaGreatDoorMPh
import Derived.Test.YtfhoddcminbffaaGreatDoorMBp
set_option linter.unnecessarySimpa false
set_option linter.unusedSectionVars false
set_option linter.unusedSimpArgs false
set_option linter.unusedVariables false
set_option maxHeartbeats 32000000
namespace Go.Proofs.YtfhoddcminbffaaGreatDoor
open Go.Proofs Go.Shelf Go.Sort
theorem xX:Tryz.sortTree_ren.t 24=152:=rfl
theorem aK4: ∀w,(isAgg (Tryz.sortTree_ren.t 24)).run Tryz.prog w= .ok true w:=by
 intro w
 rw [xX]
 obtain⟨d,i,z,h⟩:=aP (hty 152 _ rfl)
 exact h.run_isAgg w
theorem aLn: ∀w,(Go.sizeOf (Tryz.sortTree_ren.t 24)).run Tryz.prog w= .ok 7 w:=by
 intro w
 rw [xX]
 obtain⟨d,i,z,h⟩:=aP (hty 152 _ rfl)
 exact h.run_size w
end Go.Proofs.YtfhoddcminbffaaGreatDoor
namespace Go.Proofs.YtfhoddcminbffaaGreatDoor
open Go.Proofs
set_option maxRecDepth 10000
theorem Tri.resT {P:Program}{f:FuncId}{qs:List SV}{hp:Hp}{post post':SV->Prop}(h:Tri P f qs hp post) (hw: ∀s,post s->post' s\/ ∃ss ss',s= .tup ss/\aSr ss ss'/\post' (.tup ss')):Tri P f qs hp post':=by
 unfold Tri at h |-
 intro w ρ vs a b c
 refine(h w ρ vs a b c).mono ?_
 rintro e w' ⟨v,S',s,rfl,hp,h1,h2,h3,h4,hr⟩
 rcases hw s hp with hp'|⟨ss,ss',rfl,hwk,hp'⟩
 ·exact⟨v,S',_,rfl,hp',h1,h2,h3,h4,hr⟩
 obtain⟨us,e1,hl,hh⟩:=hr.tup_inv
 obtain⟨k1,k2⟩:=aG7 _ _ hwk
 refine⟨v,S',_,rfl,hp',h1,h2,h3,h4, ?_⟩
 rw [e1]
 refine .tup _ _ (by omega) λj q u hq hu=> ?_
 obtain⟨q0,r1,r2⟩:=k2 j q hq
 exact aR8 r2 (hh j q0 u r1 hu)
attribute [local irreducible] aM aJ Tri aH YVC dI bI
theorem aVw:Go.Sort.SWO (ltOf gJ):=by
 refine⟨λx=> ?_,λx y z h1 h2=> ?_,λx y z h1 h2=> ?_⟩
 ·simp [ltOf,mY]
 ·simp only [ltOf,decide_eq_true_eq]at *
  exact(mX x y z).1 h1 h2
 ·simp only [ltOf,decide_eq_false_iff_not]at *
  have a1:=dM x y
  have a2:=dM y z
  have a3:=dM x z
  have t1:=(mX x z y).1
  have t2:=mX x z y
  have t3:=mX z y x
  unfold xB at t2 t3
  have b1:=dM z x
  have b2:=dM z y
  omega
theorem aJq (a b:Cn):Tri Tryz.prog 165 [.d (.agg (grR a)), .d (.agg (grR b))] [] (λr=>r= .d (.bool (zM a b))):=by
 have h:=mU a b
 rw [cY,cY]at h
 rw [cY,cY]
 refine aF false [2,3] hty Tryz.func165 rfl (kp [0,1,2,3,4]) [] _ _ _ (by simp [Tryz.f165]) (by simp) ?_
 ((conv=>whnf);repeat' ((first|(intro hq;(try simp only [lnS]at hq);(try rewrite [List.length_map]))|refine sJ ?_|refine .intro _ (.intro rfl ?_)|refine exL (k:= ?_)|(refine aD [] h trivial (λr hs=> ?_);subst hs)|refine dwR ?_|((first|refine aB ?_ ?_|refine aC ?_ ?_)<;>intro hb<;>(first|exact ddX hb|try simp only [lnS]at hb))|(refine aA ?_ ?_<;>intro hb<;>try exact dsX hb))<;>(conv=>whnf)))
 rfl
structure PairW (c:Cn) (e:Int) (s:SV):Prop where
 ex: ∃a,s= .tup [.d a, .d (.int .i64 e)]/\(a= .agg (cnR c)\/WkD a (.agg (cnR c)))
theorem Tri.pairW {P:Program}{f:FuncId}{qs:List SV}{hp:Hp}{c:Cn}{e:Int}(h:Tri P f qs hp (PairW c e)):Tri P f qs hp (λr=>r= .tup [.d (.agg (cnR c)), .d (.int .i64 e)]):=by
 refine Tri.resT h ?_
 rintro s ⟨a,rfl,rfl|hw⟩
 ·exact .inl rfl
 ·exact .inr ⟨_,[.d (.agg (cnR c)), .d (.int .i64 e)],rfl,⟨hw,by exact rfl,trivial⟩,rfl⟩
theorem aJg {c:Cn}(h:c.kind=1):bP c=[]:=if_pos h
theorem aJh {c:Cn}(h:c.kind=5):bP c=c.parts:=by rw [bP,if_neg (by omega),if_pos h]
theorem aFc {c:Cn}(h1:c.kind≠1) (h5:c.kind≠5):bP c=[c]:=by rw [bP,if_neg h1,if_neg h5]
def aE7 (ps:List Cn):List Cn:=(ps.map aI).flatMap λr=>bP r.1
theorem aO6 {ps:List Cn}{j:Nat}(h:j < ps.length):aE7 (ps.take (j+1))=aE7 (ps.take j)++bP (aI ps[j]).1:=by
 rw [aE7,List.take_succ_eq_append_getElem h,List.map_append,List.flatMap_append];simp [aE7]
theorem aO7 (ps:List Cn) (j:Nat):gM (aE7 (ps.take j))<=gM ps:=by
 have h1:=uD ((ps.take j).map aI)
 rw [<-oY]at h1
 have h2:=qV (ps.take j)
 have h3:gM (ps.take j)<=gM ps:=eC ps j
 rw [aE7,<-oY]
 omega
theorem iJ (l:List Cn):l.length<=gM l:=rC l
theorem aUa {i z a b:Nat}(h:a=b):Wk (.mw i z a) (.mw i z b):=by subst h;exact rfl
theorem aCu {ps:List Cn}{j:Nat}(h:j < ps.length) (hn:((ps.take j).map aI).find? (λr=>decide (r.2≠0))=none) (he:¬ (aI ps[j]).2=0):iZ (ps.map aI)=(c0,(aI ps[j]).2):=by
 have e1:ps.map aI=(ps.take j).map aI++aI ps[j]::(ps.drop (j+1)).map aI:=by
  rw [<-List.map_cons (f:=aI),<-List.drop_eq_getElem_cons h,<-List.map_append,List.take_append_drop]
 have e2:(ps.map aI).find? (λr=>decide (r.2≠0))=some (aI ps[j]):=by
  rw [e1,List.find?_append,hn,List.find?_cons_of_pos (by simpa using he)];rfl
 rw [iZ,e2]
theorem aMm {ps:List Cn}{j:Nat}(h:j < ps.length) (hn:((ps.take j).map aI).find? (λr=>decide (r.2≠0))=none) (he:(aI ps[j]).2=0):((ps.take (j+1)).map aI).find? (λr=>decide (r.2≠0))=none:=by
 rw [List.take_succ_eq_append_getElem h,List.map_append,List.find?_append,hn]
 simp [he]
theorem aPs {ps:List Cn}(hn:(ps.map aI).find? (λr=>decide (r.2≠0))=none):iZ (ps.map aI)=eE (lR (aE7 ps)):=by
 rw [iZ,hn];rfl
theorem aKu (e:Int):PairW c0 e (.tup [.d (.agg [.int .i64 0, .str [], .int .i64 0, .int .i64 0, .nil]), .d (.int .i64 e)]):=by
 refine⟨_,rfl, .inr ?_⟩
 rw [aL]
 exact⟨rfl,rfl,rfl,rfl,rfl,trivial⟩
theorem aVm:PairW aKn 0 (.tup [.d (.agg [.int .i64 1, .str [], .int .i64 0, .int .i64 0, .nil]), .d (.int .i64 0)]):=by
 refine⟨_,rfl, .inr ?_⟩
 rw [aL]
 exact⟨rfl,rfl,rfl,rfl,rfl,trivial⟩
theorem pI (c:Cn) (e:Int):PairW c e (.tup [.d (.agg [.int .i64 c.kind, .str c.name, .int .i64 c.lo, .int .i64 c.hi, .sl 5 (c.parts.map cnR)]), .d (.int .i64 e)]):=by
 exact⟨_,rfl, .inl (by rw [aL])⟩
theorem aDd {s:List Cn}{i:Nat}(h:i < s.length) (hn:(s.take i).find? (λt=>decide (t.kind=2))=none):(s[i].kind=2->s.find? (λt=>decide (t.kind=2))=some s[i])/\(¬ s[i].kind=2->(s.take (i+1)).find? (λt=>decide (t.kind=2))=none):=by
 have e1:s=s.take i++s[i]::s.drop (i+1):=by rw [<-List.drop_eq_getElem_cons h,List.take_append_drop]
 refine⟨λhk=> ?_,λhk=> ?_⟩
 ·have:(s.take i++s[i]::s.drop (i+1)).find? (λt=>decide (t.kind=2))=some s[i]:=by
   rw [List.find?_append,hn,List.find?_cons_of_pos (by simpa using hk)];rfl
  rwa [<-e1]at this
 ·rw [List.take_succ_eq_append_getElem h,List.find?_append,hn]
  simp [hk]
theorem zR {s:List Cn}{t:Cn}(h:s.find? (λt=>decide (t.kind=2))=some t):eE s=(t,0):=by rw [eE,h]
theorem zS {s:List Cn}(h:s.find? (λt=>decide (t.kind=2))=none):eE s=if s.length=0 then (aKn,0)else if s.length=1 then (s.headD c0,0)else if 8 < s.length then (c0,2)else (.mk 5 [] 0 0 s,0):=by rw [eE,h]
theorem aMy (ps:List Cn) (hs:gM ps<=1000000) (ht: ∀p∈ps,Tri Tryz.prog 82 [.d (.agg (cnR p))] [] (λr=>r= .tup [.d (.agg (cnR (aI p).1)), .d (.int .i64 (aI p).2)])):
  Tri Tryz.prog 129 [.d (.sl 5 (ps.map cnR))] [] (PairW (iZ (ps.map aI)).1 (iZ (ps.map aI)).2):=by
 refine aF false [6,7,10,12,14] hty Tryz.func129 rfl (kp [0,2,3,4,6,7,8,10,12,14,15,16,17,18,27,31,37,39,42,43,44,45,59,60,61,62,68,72,77,85,91,92,93,94]) [] _ _ _ (by simp [Tryz.f129]) (by simp) ?_
 ((conv=>whnf);repeat ((first|(intro hq;try simp only [lnS]at hq)|refine sI ?_|refine .intro _ (.intro rfl ?_));(conv=>whnf)))
 refine aM.mown 4 70 152 7 rfl (bW (by with_unfolding_all exact rfl)) ?_
 refine aG hty (λy:Nat×Nat=>([(2, .ptr 2 0),(4, .mw 70 7 (aE7 (ps.take y.1)).length),(15, .d (.sl 5 (ps.map cnR))),(16, .d (.int .i64 ps.length)),(17, .d (.int .i64 y.1))],[(70, .mrow 152 7 y.2 ((aE7 (ps.take y.1)).map grR)),(2, .cells 46 [.d (.int .i64 0), .d (.str []), .d (.int .i64 0), .d (.int .i64 0), .d .nil])])) (λy=>y.1<=ps.length/\((ps.take y.1).map aI).find? (λr=>decide (r.2≠0))=none) (λy=>ps.length - y.1) (0,0) ⟨by dsimp only;omega,rfl⟩ ⟨by repeat' (first|exact trivial|exact rfl|(rw [List.length_map];exact rfl)|refine And.intro ?_ ?_),⟨rfl,rfl,trivial⟩⟩ ?_
 rintro⟨j,cap⟩ ⟨hj,hnone⟩
 dsimp only at hj hnone
 ((conv=>whnf);repeat ((first|(intro hq;try simp only [lnS]at hq)|refine sI ?_|refine .intro _ (.intro rfl ?_));(conv=>whnf)))
 refine aB (λh1=> ?_) (λh1=> ?_)
 ·have hjl:j < ps.length:=by dsimp only at h1;omega
  have hrow:(ps.map cnR)[(j:Int).toNat]? =some (cnR ps[j]):=bC hjl
  have hi:=ht ps[j] (List.getElem_mem hjl)
  have herr:=aCu hjl hnone
  have hnt:=aMm hjl hnone
  have hacc:=aO6 hjl
  have hle:=aO7 ps (j+1)
  rw [aL]at hrow hi
  have hxs:aN (aI ps[j]).1<=1000000:=by
   have h3:=gC ps[j]
   have h4:=nJ (List.getElem_mem hjl)
   omega
  generalize (aI ps[j]).1=x at *
  generalize (aI ps[j]).2=e at *
  rw [aL x]at hi
  ((conv=>whnf);repeat ((first|(refine⟨_,hrow, ?_⟩)|(refine aD [] hi trivial (λr hs=> ?_);subst hs)|(intro hq;try simp only [lnS]at hq)|refine sI ?_|refine .intro _ (.intro rfl ?_));(conv=>whnf)))
  refine aC (λh2=> ?_) (λh2=> ?_)
  ·((conv=>whnf);repeat' ((first|(intro hq;(try simp only [lnS]at hq);(try rewrite [List.length_map]))|refine sJ ?_|refine .intro _ (.intro rfl ?_)|refine exL (k:= ?_)|refine dwR ?_|((first|refine aB ?_ ?_|refine aC ?_ ?_)<;>intro hb<;>(first|exact ddX hb|try simp only [lnS]at hb))|(refine aA ?_ ?_<;>intro hb<;>try exact dsX hb))<;>(conv=>whnf)))
   rw [herr h2]
   exact aKu e
  ·have hnt:=hnt h2
   rw [hacc,kZ]at hle
   have hlacc:=iJ (aE7 (ps.take j))
   ((conv=>whnf);repeat ((first|(intro hq;try simp only [lnS]at hq)|refine sI ?_|refine .intro _ (.intro rfl ?_));(conv=>whnf)))
   refine aB (λh3=> ?_) (λh3=> ?_)
   ·rw [aJg h3,List.append_nil]at hacc
    ((conv=>whnf);repeat' ((first|(intro hq;(try simp only [lnS]at hq);(try rewrite [List.length_map]))|refine sJ ?_|refine .intro _ (.intro rfl ?_)|refine exL (k:= ?_)|refine dwR ?_|((first|refine aB ?_ ?_|refine aC ?_ ?_)<;>intro hb<;>(first|exact ddX hb|try simp only [lnS]at hb))|(refine aA ?_ ?_<;>intro hb<;>try exact dsX hb))<;>(conv=>whnf)))
    exact⟨(j+1,cap),⟨by dsimp only;omega,hnt⟩,by dsimp only;omega,⟨by dsimp only;rw [hacc];exact by repeat' (first|exact trivial|exact rfl|refine And.intro ?_ ?_),by dsimp only;rw [hacc];exact⟨rfl,rfl,trivial⟩⟩⟩
   ·((conv=>whnf);repeat ((first|(intro hq;try simp only [lnS]at hq)|refine sI ?_|refine .intro _ (.intro rfl ?_));(conv=>whnf)))
    refine aB (λh5=> ?_) (λh5=> ?_)
    ·rw [aJh h5]at hacc hle
     have hlp:=iJ x.parts
     generalize aE7 (ps.take j)=acc at *
     ((conv=>whnf);repeat ((first|(intro hq;try simp only [lnS]at hq)|refine sI ?_|refine .intro _ (.intro rfl ?_));(conv=>whnf)))
     refine aG hty (λy:Nat×Nat=>([(2, .ptr 2 0),(4, .mw 70 7 (acc.length+y.1)),(15, .d (.sl 5 (ps.map cnR))),(16, .d (.int .i64 ps.length)),(17, .d (.int .i64 j)),(42, .d (.sl 5 (x.parts.map cnR))),(43, .d (.int .i64 x.parts.length)),(44, .d (.int .i64 y.1))],[(70, .mrow 152 7 y.2 ((acc++x.parts.take y.1).map grR)),(2, .cells 46 [.d (.int .i64 0), .d (.str []), .d (.int .i64 0), .d (.int .i64 0), .d .nil])])) (λy=>y.1<=x.parts.length) (λy=>x.parts.length - y.1) (0,cap) (by dsimp only;omega) ⟨by repeat' (first|exact trivial|exact rfl|(rw [List.length_map];exact rfl)|refine And.intro ?_ ?_),⟨by dsimp only;rw [List.take_zero,List.append_nil];rfl,rfl,trivial⟩⟩ ?_
     rintro⟨i,cap2⟩ hi2
     dsimp only at hi2
     ((conv=>whnf);repeat ((first|(intro hq;try simp only [lnS]at hq)|refine sI ?_|refine .intro _ (.intro rfl ?_));(conv=>whnf)))
     refine aB (λh6=> ?_) (λh6=> ?_)
     ·have hil:i < x.parts.length:=by dsimp only at h6;omega
      have hrow2:(x.parts.map cnR)[(i:Int).toNat]? =some (cnR x.parts[i]):=bC hil
      have hps:=eP (List.getElem_mem (l:=x.parts) hil)
      have hgr:=pY x.parts[i] (by omega)
      have hgx:=cY x.parts[i]
      rw [aL]at hrow2 hgr
      rw [cY]at hgr
      have hrl:((acc++x.parts.take i).map grR).length=acc.length+i:=by rw [List.length_map,List.length_append,List.length_take];omega
      have hb63:((acc++x.parts.take i).map grR).length+1<=9223372036854775807:=by rw [hrl];omega
      have hb48:(((acc++x.parts.take i).map grR).length+1)* 96<=140737488355328:=by rw [hrl];omega
      ((conv=>whnf);repeat ((first|(refine⟨_,hrow2, ?_⟩)|(refine aD [] hgr trivial (λr hs=> ?_);subst hs)|(refine And.intro hrl.symm ?_)|(refine And.intro hb63 ?_)|(refine And.intro hb48 ?_)|(intro hq;try simp only [lnS]at hq)|refine sI ?_|refine .intro _ (.intro rfl ?_));(conv=>whnf)))
      rename_i cap'
      have hrows:(acc++x.parts.take (i+1)).map grR=(acc++x.parts.take i).map grR++[grX x.parts[i] (aN x.parts[i]) x.parts[i].parts]:=by
       rw [List.take_succ_eq_append_getElem hil,<-List.append_assoc,List.map_append,List.map_cons,List.map_nil,hgx]
      refine⟨(i+1,cap'),by dsimp only;omega,by dsimp only;omega,⟨?_, ?_⟩⟩
      ·repeat' (first|exact trivial|exact aUa (by show ((acc++x.parts.take i).map grR).length+1=_;rw [hrl];dsimp only;omega)|exact rfl|refine And.intro ?_ ?_)
      ·dsimp only
       rw [hrows]
       exact⟨rfl,rfl,trivial⟩
     ·have hil:i=x.parts.length:=by dsimp only at h6;omega
      subst hil
      rw [List.take_length,<-hacc]
      ((conv=>whnf);repeat' ((first|(intro hq;(try simp only [lnS]at hq);(try rewrite [List.length_map]))|refine sJ ?_|refine .intro _ (.intro rfl ?_)|refine exL (k:= ?_)|refine dwR ?_|((first|refine aB ?_ ?_|refine aC ?_ ?_)<;>intro hb<;>(first|exact ddX hb|try simp only [lnS]at hb))|(refine aA ?_ ?_<;>intro hb<;>try exact dsX hb))<;>(conv=>whnf)))
      refine⟨(j+1,cap2),⟨by dsimp only;omega,hnt⟩,by dsimp only;omega,⟨?_,⟨rfl,rfl,trivial⟩⟩⟩
      repeat' (first|exact trivial|exact aUa (by dsimp only;rw [hacc,List.length_append])|exact rfl|refine And.intro ?_ ?_)
    ·rw [aFc h3 h5]at hacc hle
     rw [bL]at hle
     have hgr:=pY x hxs
     have hgx:=cY x
     rw [aL,hgx]at hgr
     generalize aE7 (ps.take j)=acc at *
     have hrl:(acc.map grR).length=acc.length:=List.length_map ..
     have hb63:(acc.map grR).length+1<=9223372036854775807:=by rw [hrl];omega
     have hb48:((acc.map grR).length+1)* 96<=140737488355328:=by rw [hrl];omega
     ((conv=>whnf);repeat ((first|(refine aD [] hgr trivial (λr hs=> ?_);subst hs)|(refine And.intro hrl.symm ?_)|(refine And.intro hb63 ?_)|(refine And.intro hb48 ?_)|(intro hq;try simp only [lnS]at hq)|refine sI ?_|refine .intro _ (.intro rfl ?_));(conv=>whnf)))
     rename_i cap'
     refine⟨(j+1,cap'),⟨by dsimp only;omega,hnt⟩,by dsimp only;omega,⟨?_, ?_⟩⟩
     ·repeat' (first|exact trivial|exact aUa (by show (acc.map grR).length+1=_;rw [hrl,hacc,List.length_append];rfl)|exact rfl|refine And.intro ?_ ?_)
     ·dsimp only
      rw [hacc,List.map_append,List.map_cons,List.map_nil,hgx]
      exact⟨rfl,rfl,trivial⟩
 ·have hjl:j=ps.length:=by dsimp only at h1;omega
  subst hjl
  rw [List.take_length]at hnone
  have hacl:=iJ (aE7 ps)
  have hle:=aO7 ps ps.length
  rw [List.take_length]at hle
  rw [aPs hnone]
  ((conv=>whnf);repeat ((first|(intro hq;try simp only [lnS]at hq)|refine sI ?_|refine .intro _ (.intro rfl ?_));(conv=>whnf)))
  rw [List.take_length]
  refine aAk Tryz.sortTree (by decide) aK4 aLn (enters_of Tryz.func131 (by kernel_rfl) rfl) (aE7 ps) grR gJ aVw (λx _ y _=>mU x y) (id:=70) rfl rfl (by omega) (λl' hp' hs'=> ?_)
  ((conv=>whnf);repeat ((first|(intro hq;try simp only [lnS]at hq)|refine sI ?_|refine .intro _ (.intro rfl ?_));(conv=>whnf)))
  have hll:=hp'.length_eq
  refine sZ 165 (by kernel_rfl) l' (by omega) (λa _ b _=>aJq a b) cap _ hll.symm [(2, .cells 46 [.d (.int .i64 0), .d (.str []), .d (.int .i64 0), .d (.int .i64 0), .d .nil])] (by simp) (aT0 (by with_unfolding_all exact rfl)) (by simp [gG,HObj.ids,SV.idsL,SV.ids];omega) rfl (λo=>⟨rfl,trivial⟩) (λcap'=> ?_)
  have hset:aDo zM l'=lR (aE7 ps):=aG2 hp' hs'
  rw [hset]
  have hsl:(lR (aE7 ps)).length<=1000000:=by rw [<-hset];have:=aI2 zM l';omega
  generalize lR (aE7 ps)=s at hsl |-
  ((conv=>whnf);repeat ((first|(intro hq;try simp only [lnS]at hq)|refine sI ?_|refine .intro _ (.intro rfl ?_));(conv=>whnf)))
  have hsm:s.length=(s.map grR).length:=(List.length_map ..).symm
  refine aG hty (λi:Nat=>([(2, .ptr 2 0),(4, .mw 170 7 s.length),(59, .mw 170 7 s.length),(60, .d (.int .i64 s.length)),(61, .d (.int .i64 i))],[(170, .mrow 152 7 cap' (s.map grR)),(2, .cells 46 [.d (.int .i64 0), .d (.str []), .d (.int .i64 0), .d (.int .i64 0), .d .nil])])) (λi=>i<=s.length/\(s.take i).find? (λt=>decide (t.kind=2))=none) (λi=>s.length - i) 0 ⟨by omega,rfl⟩ ⟨by repeat' (first|exact trivial|exact rfl|refine And.intro ?_ ?_),⟨rfl,rfl,trivial⟩⟩ ?_
  rintro i ⟨hi,hin⟩
  ((conv=>whnf);repeat ((first|(intro hq;try simp only [lnS]at hq)|refine sI ?_|refine .intro _ (.intro rfl ?_));(conv=>whnf)))
  refine aB (λh2=> ?_) (λh2=> ?_)
  ·have hil:i < s.length:=by omega
   have hrow:(s.map grR)[(i:Int).toNat]? =some (grR s[i]):=bC hil
   rw [cY]at hrow
   obtain⟨hf1,hf2⟩:=aDd hil hin
   ((conv=>whnf);repeat ((first|(refine And.intro hsm ?_)|(refine⟨_,hrow, ?_⟩)|(intro hq;try simp only [lnS]at hq)|refine sI ?_|refine .intro _ (.intro rfl ?_));(conv=>whnf)))
   refine aB (λh3=> ?_) (λh3=> ?_)
   ·((conv=>whnf);repeat' ((first|(intro hq;(try simp only [lnS]at hq);(try rewrite [List.length_map]))|refine sJ ?_|refine .intro _ (.intro rfl ?_)|refine exL (k:= ?_)|refine dwR ?_|((first|refine aB ?_ ?_|refine aC ?_ ?_)<;>intro hb<;>(first|exact ddX hb|try simp only [lnS]at hb))|(refine aA ?_ ?_<;>intro hb<;>try exact dsX hb))<;>(conv=>whnf)))
    rw [zR (hf1 h3)]
    exact pI _ _
   ·((conv=>whnf);repeat' ((first|(intro hq;(try simp only [lnS]at hq);(try rewrite [List.length_map]))|refine sJ ?_|refine .intro _ (.intro rfl ?_)|refine exL (k:= ?_)|refine dwR ?_|((first|refine aB ?_ ?_|refine aC ?_ ?_)<;>intro hb<;>(first|exact ddX hb|try simp only [lnS]at hb))|(refine aA ?_ ?_<;>intro hb<;>try exact dsX hb))<;>(conv=>whnf)))
    exact⟨i+1,⟨by omega,hf2 h3⟩,by dsimp only;omega,⟨by repeat' (first|exact trivial|exact rfl|refine And.intro ?_ ?_),⟨rfl,rfl,trivial⟩⟩⟩
  ·have hil:i=s.length:=by omega
   subst hil
   rw [List.take_length]at hin
   rw [zS hin]
   ((conv=>whnf);repeat ((first|(intro hq;try simp only [lnS]at hq)|refine sI ?_|refine .intro _ (.intro rfl ?_));(conv=>whnf)))
   refine aB (λh3=> ?_) (λh3=> ?_)
   ·((conv=>whnf);repeat' ((first|(intro hq;(try simp only [lnS]at hq);(try rewrite [List.length_map]))|refine sJ ?_|refine .intro _ (.intro rfl ?_)|refine exL (k:= ?_)|refine dwR ?_|((first|refine aB ?_ ?_|refine aC ?_ ?_)<;>intro hb<;>(first|exact ddX hb|try simp only [lnS]at hb))|(refine aA ?_ ?_<;>intro hb<;>try exact dsX hb))<;>(conv=>whnf)))
    rw [if_pos (by omega)]
    exact aVm
   ·((conv=>whnf);repeat ((first|(intro hq;try simp only [lnS]at hq)|refine sI ?_|refine .intro _ (.intro rfl ?_));(conv=>whnf)))
    rw [if_neg (by omega)]
    refine aB (λh4=> ?_) (λh4=> ?_)
    ·have hl0:0 < s.length:=by omega
     have hrow:(s.map grR)[(0:Int).toNat]? =some (grR s[0]):=bC (i:=0) hl0
     have hhd:s.headD c0=s[0]:=by cases s with|nil=>simp at hl0|cons a r=>rfl
     rw [cY]at hrow
     ((conv=>whnf);repeat' ((first|(intro hq;(try simp only [lnS]at hq);(try rewrite [List.length_map]))|refine sJ ?_|refine .intro _ (.intro rfl ?_)|refine exL (k:= ?_)|(refine And.intro hsm ?_)|(refine⟨_,hrow, ?_⟩)|refine dwR ?_|((first|refine aB ?_ ?_|refine aC ?_ ?_)<;>intro hb<;>(first|exact ddX hb|try simp only [lnS]at hb))|(refine aA ?_ ?_<;>intro hb<;>try exact dsX hb))<;>(conv=>whnf)))
     rw [if_pos (by omega),hhd]
     exact pI _ _
    ·((conv=>whnf);repeat ((first|(intro hq;try simp only [lnS]at hq)|refine sI ?_|refine .intro _ (.intro rfl ?_));(conv=>whnf)))
     rw [if_neg (by omega)]
     refine aB (λh5=> ?_) (λh5=> ?_)
     ·((conv=>whnf);repeat' ((first|(intro hq;(try simp only [lnS]at hq);(try rewrite [List.length_map]))|refine sJ ?_|refine .intro _ (.intro rfl ?_)|refine exL (k:= ?_)|refine dwR ?_|((first|refine aB ?_ ?_|refine aC ?_ ?_)<;>intro hb<;>(first|exact ddX hb|try simp only [lnS]at hb))|(refine aA ?_ ?_<;>intro hb<;>try exact dsX hb))<;>(conv=>whnf)))
      rw [if_pos (by omega)]
      exact aKu 2
     ·rw [if_neg (by omega)]
      ((conv=>whnf);repeat ((first|(intro hq;try simp only [lnS]at hq)|refine sI ?_|refine .intro _ (.intro rfl ?_));(conv=>whnf)))
      refine aM.mownC 2 190 46 46 5 4 rfl rfl (bW (by with_unfolding_all exact rfl)) ?_
      refine aG hty (λy:Nat×Nat=>([(2, .ptr 2 0),(91, .mw 170 7 s.length),(92, .d (.int .i64 s.length)),(93, .d (.int .i64 y.1))],[(190, .mrow 46 5 y.2 ((s.take y.1).map cnR)),(170, .mrow 152 7 cap' (s.map grR)),(2, .cells 46 [.d (.int .i64 5), .d (.str []), .d (.int .i64 0), .d (.int .i64 0), .mw 190 5 y.1])])) (λy=>y.1<=s.length) (λy=>s.length - y.1) (0,0) (by dsimp only;omega) ⟨by repeat' (first|exact trivial|exact rfl|refine And.intro ?_ ?_),⟨rfl,rfl,rfl,trivial⟩⟩ ?_
      rintro⟨k,cap3⟩ hk
      dsimp only at hk
      ((conv=>whnf);repeat ((first|(intro hq;try simp only [lnS]at hq)|refine sI ?_|refine .intro _ (.intro rfl ?_));(conv=>whnf)))
      refine aB (λh6=> ?_) (λh6=> ?_)
      ·have hkl:k < s.length:=by dsimp only at h6;omega
       have hrow:(s.map grR)[(k:Int).toNat]? =some (grR s[k]):=bC hkl
       have hcx:=aL s[k]
       rw [cY]at hrow
       have hrl:((s.take k).map cnR).length=k:=by rw [List.length_map,List.length_take];omega
       have hb63:((s.take k).map cnR).length+1<=9223372036854775807:=by rw [hrl];omega
       have hb48:(((s.take k).map cnR).length+1)* 64<=140737488355328:=by rw [hrl];omega
       ((conv=>whnf);repeat ((first|(refine And.intro hsm ?_)|(refine⟨_,hrow, ?_⟩)|(refine And.intro hrl.symm ?_)|(refine And.intro hb63 ?_)|(refine And.intro hb48 ?_)|(intro hq;try simp only [lnS]at hq)|refine sI ?_|refine .intro _ (.intro rfl ?_));(conv=>whnf)))
       rename_i cap4
       have hrows:(s.take (k+1)).map cnR=(s.take k).map cnR++[[.int .i64 s[k].kind, .str s[k].name, .int .i64 s[k].lo, .int .i64 s[k].hi, .sl 5 (s[k].parts.map cnR)]]:=by
        rw [List.take_succ_eq_append_getElem hkl,List.map_append,List.map_cons,List.map_nil,hcx]
       refine⟨(k+1,cap4),by dsimp only;omega,by dsimp only;omega,⟨by repeat' (first|exact trivial|exact rfl|refine And.intro ?_ ?_), ?_⟩⟩
       dsimp only
       rw [hrows]
       refine⟨rfl,rfl, ?_,trivial⟩
       have hmw:SV.mw 190 5 (k+1)=SV.mw 190 5 (((s.take k).map cnR).length+1):=by rw [hrl]
       rw [hmw]
       rfl
      ·have hkl:k=s.length:=by dsimp only at h6;omega
       subst hkl
       rw [List.take_length]
       ((conv=>whnf);repeat' ((first|(intro hq;(try simp only [lnS]at hq);(try rewrite [List.length_map]))|refine sJ ?_|refine .intro _ (.intro rfl ?_)|refine exL (k:= ?_)|refine dwR ?_|((first|refine aB ?_ ?_|refine aC ?_ ?_)<;>intro hb<;>(first|exact ddX hb|try simp only [lnS]at hb))|(refine aA ?_ ?_<;>intro hb<;>try exact dsX hb))<;>(conv=>whnf)))
       refine⟨(List.length_map ..).symm, ?_⟩
       ((conv=>whnf);repeat ((first|(intro hq;try simp only [lnS]at hq)|refine sI ?_|refine .intro _ (.intro rfl ?_));(conv=>whnf)))
       exact pI (.mk 5 [] 0 0 s) 0
def okC (c:Cn):Prop:= ∀x∈fT c,x.kind=6->x.parts≠[]
theorem aPm {c p:Cn}(h:okC c) (hp:p∈c.parts):okC p:=by
 intro x hx
 refine h x ?_
 rw [fS]
 refine List.mem_cons_of_mem _ ?_
 obtain⟨a,b,e⟩:=List.append_of_mem hp
 rw [e,dR,aZ]
 simp [hx]
theorem aC1: ∀(c:Cn) (_:aN c<=1000000) (_:okC c),Tri Tryz.prog 82 [.d (.agg (cnR c))] [] (λr=>r= .tup [.d (.agg (cnR (aI c).1)), .d (.int .i64 (aI c).2)]):=by
 refine Cn.ind ?_
 intro c ih hs hok
 have ih': ∀p∈c.parts,Tri Tryz.prog 82 [.d (.agg (cnR p))] [] (λr=>r= .tup [.d (.agg (cnR (aI p).1)), .d (.int .i64 (aI p).2)]):= λp hp=>
  ih p hp (by have:=eP hp;omega) (aPm hok hp)
 have hm:=(aMy c.parts (by have:=cR c;omega) ih').pairW
 refine Tri.pairW ?_
 rw [eF]
 rw [aL]
 refine aF false [1,4] hty Tryz.func82 rfl (kp [0,1,2,3,4,5,7,8,24,32]) [] _ _ _ (by simp [Tryz.f82]) (by simp) ?_
 ((conv=>whnf);repeat ((first|(intro hq;try simp only [lnS]at hq)|refine sI ?_|refine .intro _ (.intro rfl ?_));(conv=>whnf)))
 refine aB (λh1=> ?_) (λh1=> ?_)
 ·rw [if_pos h1]
  have hne:c.parts≠[]:=hok c (by rw [fS];simp) h1
  have hl0:0 < c.parts.length:=List.length_pos_iff.2 hne
  have hrow:(c.parts.map cnR)[(0:Int).toNat]? =some (cnR c.parts[0]):=bC (i:=0) hl0
  have hi:=ih' c.parts[0] (List.getElem_mem hl0)
  have hsome:pE c.name (c.parts.map aI)=if (aI c.parts[0]).2≠0\/(aI c.parts[0]).1.kind=2 then aI c.parts[0]else (.mk 6 c.name 0 0 [(aI c.parts[0]).1],0):=by
   have:c.parts.map aI=aI c.parts[0]::(c.parts.drop 1).map aI:=by
    rw [<-List.map_cons (f:=aI),<-List.drop_eq_getElem_cons hl0,List.drop_zero]
   rw [this,pE]
  rw [hsome]
  obtain⟨r,hr⟩: ∃r,r=aI c.parts[0]:=⟨_,rfl⟩
  rw [<-hr]at hi |-
  rw [aL]at hrow hi
  rw [aL r.1]at hi
  ((conv=>whnf);repeat' ((first|(intro hq;(try simp only [lnS]at hq);(try rewrite [List.length_map]))|refine sJ ?_|refine .intro _ (.intro rfl ?_)|refine exL (k:= ?_)|(refine And.intro (by simpa using hl0) ?_)|(refine⟨_,hrow, ?_⟩)|(refine aD [] hi trivial (λr hs=> ?_);subst hs)|refine dwR ?_|((first|refine aB ?_ ?_|refine aC ?_ ?_)<;>intro hb<;>(first|exact ddX hb|try simp only [lnS]at hb))|(refine aA ?_ ?_<;>intro hb<;>try exact dsX hb))<;>(conv=>whnf)))
  ·rw [if_pos (.inl hb)]
   exact pI _ _
  ·rw [if_pos (.inr hb)]
   exact pI _ _
  ·rename_i hb0
   have hn:¬ (r.2≠0\/r.1.kind=2):=by
    rintro(h|h)
    ·exact h hb0
    ·exact hb h
   rw [if_neg hn]
   have h:=pI (.mk 6 c.name 0 0 [r.1]) 0
   simp only [Cn.kind,Cn.name,Cn.lo,Cn.hi,Cn.parts,List.map_cons,List.map_nil]at h
   rw [aL r.1]at h
   exact h
 ·rw [if_neg h1]
  ((conv=>whnf);repeat ((first|(intro hq;try simp only [lnS]at hq)|refine sI ?_|refine .intro _ (.intro rfl ?_));(conv=>whnf)))
  refine aB (λh2=> ?_) (λh2=> ?_)
  ·rw [if_pos h2]
   rw [aL (iZ (c.parts.map aI)).1]at hm
   ((conv=>whnf);repeat' ((first|(intro hq;(try simp only [lnS]at hq);(try rewrite [List.length_map]))|refine sJ ?_|refine .intro _ (.intro rfl ?_)|refine exL (k:= ?_)|(refine aD [] hm trivial (λr hs=> ?_);subst hs)|refine dwR ?_|((first|refine aB ?_ ?_|refine aC ?_ ?_)<;>intro hb<;>(first|exact ddX hb|try simp only [lnS]at hb))|(refine aA ?_ ?_<;>intro hb<;>try exact dsX hb))<;>(conv=>whnf)))
   exact pI _ _
  ·rw [if_neg h2]
   ((conv=>whnf);repeat' ((first|(intro hq;(try simp only [lnS]at hq);(try rewrite [List.length_map]))|refine sJ ?_|refine .intro _ (.intro rfl ?_)|refine exL (k:= ?_)|refine dwR ?_|((first|refine aB ?_ ?_|refine aC ?_ ?_)<;>intro hb<;>(first|exact ddX hb|try simp only [lnS]at hb))|(refine aA ?_ ?_<;>intro hb<;>try exact dsX hb))<;>(conv=>whnf)))
   exact pI _ _
end Go.Proofs.YtfhoddcminbffaaGreatDoor
namespace Go.Proofs.YtfhoddcminbffaaGreatDoor
open Go.Proofs
set_option maxRecDepth 10000
attribute [local irreducible] aM aJ Tri aH YVC dI bI
theorem oP: ∀{l:List Cn},dL l=0-> ∀x∈l,bM x=0
 | [],_,x,hx=>by simp at hx
 |a::l,h,x,hx=>by
  rw [dL]at h
  split at h
  ·rename_i h1;exact absurd h h1
  ·rename_i h1
   rcases List.mem_cons.1 hx with rfl|hx
   ·simpa using h1
   ·exact oP h x hx
mutual
theorem rH: ∀(c:Cn) (d n:Int),(fF c d n).1=true->(fF c d n).2=n+(aN c:Nat)
 | .mk k s lo hi ps,d,n=>by
  have h:=zD ps d (n+1)
  have e:aN (.mk k s lo hi ps)=gM ps+1:=cR _
  rw [fF]
  split
  ·simp
  ·intro h1
   rw [h h1,e];omega
theorem zD: ∀(l:List Cn) (d n:Int),(gH l d n).1=true->(gH l d n).2=n+(gM l:Nat)
 | [],d,n=>by rw [gH];intro _;simp [gM,aZ]
 |c::r,d,n=>by
  have h1:=rH c (d+1) n
  rw [gH]
  split
  ·rename_i hb
   have h2:=zD r d (fF c (d+1) n).2
   intro h3
   rw [h2 h3,h1 hb,bL];omega
  ·simp
end
theorem dU {c:Cn}(h:bH c=0):aN c<=64/\okC c/\ ∀x∈fT c,bM x=0:=by
 unfold bH at h
 split at h
 ·simp at h
 ·rename_i hf
  have hf:(fF c 0 0).1=true:=by simpa using hf
  have h0:=oP h
  refine⟨?_,λx hx hk=> ?_,h0⟩
  ·have h1:=rH c 0 0 hf
   have h2:(fF c 0 0).2<=64:=by
    have e:=aHs c 0 0
    by_cases h3:(8:Int) < 0\/(64:Int) < 0+1
    ·omega
    ·rw [if_neg h3]at e
     rw [e]at hf |-
     exact(qC c.parts 0 (0+1) (by omega) (by omega)).2.2 hf
   omega
  ·have:=h0 x hx
   unfold bM at this
   rw [if_neg (by omega),hk]at this
   unfold iC at this
   rw [show fH 6=⟨1,1,1,false⟩from rfl]at this
   split at this
   ·simp at this
   ·rename_i h1
    intro he
    apply h1
    left
    rw [he];simp
def a0:Ax:=⟨0,false,c0,c0,[],[],[],[]⟩
def bK (b:Bool) (c:Cn):Cn×Int:=if b=true then aI c else (c,0)
def nW (u:Use) (x:Ax):Ax×Int:=
 if (bK u.left x.left).2≠0 then (a0,(bK u.left x.left).2)
 else if (bK u.right x.right).2≠0 then (a0,(bK u.right x.right).2)
 else if (x.kind=2\/x.kind=3)/\0 < gJ (bK u.left x.left).1 (bK u.right x.right).1 then ({ x with left:=(bK u.right x.right).1,right:=(bK u.left x.left).1 },0)
 else ({ x with left:=(bK u.left x.left).1,right:=(bK u.right x.right).1 },0)
def aS (x:Ax):Ax×Int:=if bB x≠0 then (a0,bB x)else nW (bX x.kind) x
structure PairA (x:Ax) (e:Int) (s:SV):Prop where
 ex: ∃a,s= .tup [.d a, .d (.int .i64 e)]/\(a= .agg (axR x)\/WkD a (.agg (axR x)))
theorem Tri.pairA {P:Program}{f:FuncId}{qs:List SV}{hp:Hp}{x:Ax}{e:Int}(h:Tri P f qs hp (PairA x e)):Tri P f qs hp (λr=>r= .tup [.d (.agg (axR x)), .d (.int .i64 e)]):=by
 refine Tri.resT h ?_
 rintro s ⟨a,rfl,rfl|hw⟩
 ·exact .inl rfl
 ·exact .inr ⟨_,[.d (.agg (axR x)), .d (.int .i64 e)],rfl,⟨hw,by exact rfl,trivial⟩,rfl⟩
theorem aBw (e:Int):PairA a0 e (.tup [.d (.agg [.int .i64 0, .bool false, .int .i64 0, .str [], .int .i64 0, .int .i64 0, .nil, .int .i64 0, .str [], .int .i64 0, .int .i64 0, .nil, .nil, .str [], .str [], .str []]), .d (.int .i64 e)]):=by
 refine⟨_,rfl, .inr ?_⟩
 exact⟨rfl,rfl,rfl,rfl,rfl,rfl,rfl,rfl,rfl,rfl,rfl,rfl,rfl,rfl,rfl,rfl,trivial⟩
theorem aEs (x:Ax) (e:Int):PairA x e (.tup [.d (.agg (axR x)), .d (.int .i64 e)]):=⟨_,rfl, .inl rfl⟩
theorem wQ {x:Ax}(h:bB x=0):(1<=x.kind/\x.kind<=9)/\((bX x.kind).left=true->bH x.left=0)/\((bX x.kind).right=true->bH x.right=0):=by
 unfold bB at h
 split at h
 ·simp at h
 ·rename_i hs
  refine⟨?_, ?_⟩
  ·have hs:bJ x=true:=by simpa using hs
   unfold bJ at hs
   split at hs
   ·cases hs
   ·omega
  ·unfold sT at h
   split at h
   ·simp at h
   ·split at h
    ·rename_i h1;exact absurd h h1.2
    ·split at h
     ·rename_i h1;exact absurd h h1.2
     ·rename_i h1 h2
      exact⟨λhu=>Decidable.byContradiction λhn=>h1 ⟨hu,hn⟩,λhu=>Decidable.byContradiction λhn=>h2 ⟨hu,hn⟩⟩
theorem jX (x:Ax):Tri Tryz.prog 42 [.d (.agg (axR x))] NG (λr=>r= .tup [.d (.agg (axR (aS x).1)), .d (.int .i64 (aS x).2)]):=by
 refine Tri.pairA ?_
 have hc:=mZ x
 refine aF false [1,5] hty Tryz.func42 rfl (kp [0,1,2,3,4,5,9,18,27,31,40,58]) [] _ _ _ (by simp [Tryz.f42]) (by decide) ?_
 unfold aS
 ((conv=>whnf);repeat ((first|(intro hq;try simp only [lnS]at hq)|refine sI ?_|refine .intro _ (.intro rfl ?_));(conv=>whnf)))
 refine aD NG hc ⟨rfl,rfl,trivial⟩ (λr hs=> ?_)
 subst hs
 ((conv=>whnf);repeat ((first|(intro hq;try simp only [lnS]at hq)|refine sI ?_|refine .intro _ (.intro rfl ?_));(conv=>whnf)))
 refine aC (λh1=> ?_) (λh1=> ?_)
 ·rw [if_pos h1]
  ((conv=>whnf);repeat' ((first|(intro hq;(try simp only [lnS]at hq);(try rewrite [List.length_map]))|refine sJ ?_|refine .intro _ (.intro rfl ?_)|refine exL (k:= ?_)|refine dwR ?_|((first|refine aB ?_ ?_|refine aC ?_ ?_)<;>intro hb<;>(first|exact ddX hb|try simp only [lnS]at hb))|(refine aA ?_ ?_<;>intro hb<;>try exact dsX hb))<;>(conv=>whnf)))
  exact aBw _
 ·rw [if_neg (by simpa using h1)]
  obtain⟨hk,hl,hr⟩:=wQ h1
  have hrow:=aL2 (k:=x.kind) hk
  have hcmp:(x.kind=2\/x.kind=3)->(bX x.kind).left=true/\(bX x.kind).right=true:=by
   rintro(h|h)<;>rw [h]<;>exact⟨rfl,rfl⟩
  generalize bX x.kind=u at *
  have tl:u.left=true->_:= λh=>aC1 x.left (by have:=(dU (hl h)).1;omega) (dU (hl h)).2.1
  have tr:u.right=true->_:= λh=>aC1 x.right (by have:=(dU (hr h)).1;omega) (dU (hr h)).2.1
  rw [aL,aL (aI x.left).1]at tl
  rw [aL,aL (aI x.right).1]at tr
  ((conv=>whnf);repeat ((first|(refine cZ (id:=91) hty rfl rfl rfl rfl rfl rfl rfl (by omega) (by omega) ?_)|(refine⟨_,hrow, ?_⟩)|(intro hq;try simp only [lnS]at hq)|refine sI ?_|refine .intro _ (.intro rfl ?_));(conv=>whnf)))
  have hU: ∀(L R:Cn) (e f:Int),bK u.left x.left=(L,e)->bK u.right x.right=(R,f)->nW u x=if e≠0 then (a0,e)else if f≠0 then (a0,f)else if (x.kind=2\/x.kind=3)/\0 < gJ L R then ({ x with left:=R,right:=L },0)else ({ x with left:=L,right:=R },0):=by
   intro L R e f h1 h2
   unfold nW
   rw [h1,h2]
  cases hul:u.left
  ·have hn:¬ x.kind=2/\¬ x.kind=3:=⟨λh=>by simp [hul]at hcmp;exact hcmp.1 h,λh=>by simp [hul]at hcmp;exact hcmp.2 h⟩
   have e1:bK u.left x.left=(x.left,0):=by rw [hul];rfl
   obtain⟨hn2,hn3⟩:=hn
   ((conv=>whnf);repeat ((first|(intro hq;try simp only [lnS]at hq)|refine sI ?_|refine .intro _ (.intro rfl ?_));(conv=>whnf)))
   cases hur:u.right
   ·have e2:bK u.right x.right=(x.right,0):=by rw [hur];rfl
    rw [hU _ _ _ _ e1 e2,if_neg (by simp),if_neg (by simp),if_neg (by omega)]
    ((conv=>whnf);repeat' ((first|(intro hq;(try simp only [lnS]at hq);(try rewrite [List.length_map]))|refine sJ ?_|refine .intro _ (.intro rfl ?_)|refine exL (k:= ?_)|refine dwR ?_|((first|refine aB ?_ ?_|refine aC ?_ ?_)<;>intro hb<;>(first|exact ddX hb|try simp only [lnS]at hb))|(refine aA ?_ ?_<;>intro hb<;>try exact dsX hb))<;>(conv=>whnf)))
    exact aEs _ _
   ·have e2:bK u.right x.right=((aI x.right).1,(aI x.right).2):=by rw [hur];rfl
    rw [hU _ _ _ _ e1 e2,if_neg (by simp)]
    have hi:=tr hur
    generalize (aI x.right).1=R at *
    generalize (aI x.right).2=f at *
    ((conv=>whnf);repeat ((first|(refine aD [] hi trivial (λr hs=> ?_);subst hs)|(intro hq;try simp only [lnS]at hq)|refine sI ?_|refine .intro _ (.intro rfl ?_));(conv=>whnf)))
    refine aC (λh2=> ?_) (λh2=> ?_)
    ·((conv=>whnf);repeat' ((first|(intro hq;(try simp only [lnS]at hq);(try rewrite [List.length_map]))|refine sJ ?_|refine .intro _ (.intro rfl ?_)|refine exL (k:= ?_)|refine dwR ?_|((first|refine aB ?_ ?_|refine aC ?_ ?_)<;>intro hb<;>(first|exact ddX hb|try simp only [lnS]at hb))|(refine aA ?_ ?_<;>intro hb<;>try exact dsX hb))<;>(conv=>whnf)))
     rw [if_pos h2]
     exact aBw _
    ·rw [if_neg (by simpa using h2),if_neg (by omega)]
     ((conv=>whnf);repeat' ((first|(intro hq;(try simp only [lnS]at hq);(try rewrite [List.length_map]))|refine sJ ?_|refine .intro _ (.intro rfl ?_)|refine exL (k:= ?_)|refine dwR ?_|((first|refine aB ?_ ?_|refine aC ?_ ?_)<;>intro hb<;>(first|exact ddX hb|try simp only [lnS]at hb))|(refine aA ?_ ?_<;>intro hb<;>try exact dsX hb))<;>(conv=>whnf)))
     exact aEs { x with right:=R } 0
  ·have e1:bK u.left x.left=((aI x.left).1,(aI x.left).2):=by rw [hul];rfl
   have hi:=tl hul
   have hs1:aN (aI x.left).1<=1000000:=by
    have h3:=gC x.left
    have h4:=(dU (hl hul)).1
    omega
   ((conv=>whnf);repeat ((first|(refine aD [] hi trivial (λr hs=> ?_);subst hs)|(intro hq;try simp only [lnS]at hq)|refine sI ?_|refine .intro _ (.intro rfl ?_));(conv=>whnf)))
   generalize (aI x.left).1=L at *
   generalize (aI x.left).2=e at *
   refine aC (λh2=> ?_) (λh2=> ?_)
   ·have hUe:nW u x=(a0,e):=by
     unfold nW
     rw [e1,if_pos h2]
    rw [hUe]
    ((conv=>whnf);repeat' ((first|(intro hq;(try simp only [lnS]at hq);(try rewrite [List.length_map]))|refine sJ ?_|refine .intro _ (.intro rfl ?_)|refine exL (k:= ?_)|refine dwR ?_|((first|refine aB ?_ ?_|refine aC ?_ ?_)<;>intro hb<;>(first|exact ddX hb|try simp only [lnS]at hb))|(refine aA ?_ ?_<;>intro hb<;>try exact dsX hb))<;>(conv=>whnf)))
    exact aBw _
   ·((conv=>whnf);repeat ((first|(intro hq;try simp only [lnS]at hq)|refine sI ?_|refine .intro _ (.intro rfl ?_));(conv=>whnf)))
    cases hur:u.right
    ·have hn:¬ x.kind=2/\¬ x.kind=3:=⟨λh=>by simp [hur]at hcmp;exact hcmp.1 h,λh=>by simp [hur]at hcmp;exact hcmp.2 h⟩
     obtain⟨hn2,hn3⟩:=hn
     have e2:bK u.right x.right=(x.right,0):=by rw [hur];rfl
     rw [hU _ _ _ _ e1 e2,if_neg (by simpa using h2),if_neg (by simp),if_neg (by omega)]
     ((conv=>whnf);repeat' ((first|(intro hq;(try simp only [lnS]at hq);(try rewrite [List.length_map]))|refine sJ ?_|refine .intro _ (.intro rfl ?_)|refine exL (k:= ?_)|refine dwR ?_|((first|refine aB ?_ ?_|refine aC ?_ ?_)<;>intro hb<;>(first|exact ddX hb|try simp only [lnS]at hb))|(refine aA ?_ ?_<;>intro hb<;>try exact dsX hb))<;>(conv=>whnf)))
     exact aEs { x with left:=L } 0
    ·have e2:bK u.right x.right=((aI x.right).1,(aI x.right).2):=by rw [hur];rfl
     rw [hU _ _ _ _ e1 e2,if_neg (by simpa using h2)]
     have hj:=tr hur
     have hs2:aN (aI x.right).1<=1000000:=by
      have h3:=gC x.right
      have h4:=(dU (hr hur)).1
      omega
     generalize (aI x.right).1=R at *
     generalize (aI x.right).2=f at *
     ((conv=>whnf);repeat ((first|(refine aD [] hj trivial (λr hs=> ?_);subst hs)|(intro hq;try simp only [lnS]at hq)|refine sI ?_|refine .intro _ (.intro rfl ?_));(conv=>whnf)))
     refine aC (λh3=> ?_) (λh3=> ?_)
     ·((conv=>whnf);repeat' ((first|(intro hq;(try simp only [lnS]at hq);(try rewrite [List.length_map]))|refine sJ ?_|refine .intro _ (.intro rfl ?_)|refine exL (k:= ?_)|refine dwR ?_|((first|refine aB ?_ ?_|refine aC ?_ ?_)<;>intro hb<;>(first|exact ddX hb|try simp only [lnS]at hb))|(refine aA ?_ ?_<;>intro hb<;>try exact dsX hb))<;>(conv=>whnf)))
      rw [if_pos h3]
      exact aBw _
     ·rw [if_neg (by simpa using h3)]
      have hcs:=nD L R hs1 hs2
      rw [aL,aL]at hcs
      ((conv=>whnf);repeat' ((first|(intro hq;(try simp only [lnS]at hq);(try rewrite [List.length_map]))|refine sJ ?_|refine .intro _ (.intro rfl ?_)|refine exL (k:= ?_)|(refine aD [] hcs trivial (λr hs=> ?_);subst hs)|refine dwR ?_|((first|refine aB ?_ ?_|refine aC ?_ ?_)<;>intro hb<;>(first|exact ddX hb|try simp only [lnS]at hb))|(refine aA ?_ ?_<;>intro hb<;>try exact dsX hb))<;>(conv=>whnf)))
      all_goals first
       |(rw [if_pos ⟨by omega,by assumption⟩];exact aEs { x with left:=R,right:=L } 0)
       |(rw [if_neg (by omega)];exact aEs { x with left:=L,right:=R } 0)
end Go.Proofs.YtfhoddcminbffaaGreatDoor
namespace Go.Proofs.YtfhoddcminbffaaGreatDoor
open Go.Proofs
set_option maxRecDepth 10000
attribute [local irreducible] aM aJ Tri aH YVC dI bI
theorem bG:fV []=[]:=rfl
theorem aT (k:Nat) (s:SV) (r:Fr):fV ((k,s)::r)=s.ids++fV r:=rfl
theorem fU:gG []=[]:=rfl
theorem bS (k:Nat) (o:HObj) (r:Hp):gG ((k,o)::r)=(k::o.ids)++gG r:=rfl
theorem cT (t:TypeId) (cs:List SV):(HObj.cells t cs).ids=SV.idsL cs:=rfl
theorem gR (e z cap:Nat) (rows:List (List D)):(HObj.mrow e z cap rows).ids=[]:=rfl
theorem gF (e z n:Nat):(HObj.own e z n).ids=[]:=rfl
theorem gS (L:LoopI) (s:LoopAt):(HObj.loop L s).ids=fV L.fr:=rfl
theorem gT (m:Nat) (bs:List Nat) (c:Nat) (v:List Nat):(HObj.ext (aBa m bs c v)).ids=[m]:=rfl
theorem bV (v:Value):(ofV v).ids=[]:=by
 unfold ofV
 split<;>(try split)<;>rfl
theorem fO {id:Nat}{o:HObj}: ∀{hp' hp:Hp},kE hp' hp->(∀p∈hp',p.1≠id)->kE hp' ((id,o)::hp)
 | [],_,_,_=>trivial
 |(k,x)::r,hp,h,hn=>by
  refine⟨?_,fO h.2 λp hp=>hn p (List.mem_cons_of_mem _ hp)⟩
  have:k≠id:=hn (k,x) (by simp)
  show aU ((id,o)::hp) k=some x
  rw [cG (Ne.symm this)]
  exact h.1
theorem mO {hp:Hp}{p:Nat×HObj}(h:p∈hp):p.1∈gG hp:=by
 simp only [gG,List.mem_flatMap,List.mem_cons]
 exact⟨p,h, .inl rfl⟩
theorem aBh {t:Nat}: ∀{hp0:Hp}{K:Hp->Prop},t∉gG hp0->K hp0->wH hp0 t K
 | [],_,_,h=>h
 |(k,o)::r,K,hn,h=>by
  have h1:k≠t:= λe=>hn (by rw [bS];simp [e])
  have h2:t∉gG r:= λe=>hn (by rw [bS];simp [e])
  rw [wH,if_neg h1]
  exact aBh h2 h
theorem wB {x:Nat×HObj}{hp:Hp}{K:Hp->Prop}(h:kE hp (x::hp)) (hk:K hp): ∃hp'',kE hp'' (x::hp)/\K hp'':=⟨hp,h,hk⟩
theorem vS {id:Nat}: ∀{hp:Hp},id∉gG hp->aU hp id=none
 | [],_=>rfl
 |(k,o)::r,h=>by
  have h1:k≠id:= λe=>h (by rw [bS];simp [e])
  have h2:id∉gG r:= λe=>h (by rw [bS];simp [e])
  rw [cG h1]
  exact vS h2
def jR (ks:List (List UInt8)):List (List UInt8):=ks.mergeSort λx y=>decide (x<=y)
theorem aGv {α:Type}{l:List α}{vis:List Nat}(hn:vis.Nodup) (hv: ∀i∈vis,i < l.length) (ha: ∀i,i < l.length->i∈vis) (f:Nat->α) (hf: ∀i (h:i < l.length),f i=l[i]):(vis.map f).Perm l:=by
 have h1:vis.Perm (List.range l.length):=(List.perm_ext_iff_of_nodup hn List.nodup_range).2 λi=>by rw [List.mem_range];exact⟨hv i,ha i⟩
 have h2:=h1.map f
 have h3:(List.range l.length).map f=l:=by
  apply List.ext_getElem
  ·simp
  ·intro i h1 h2
   simp [hf i h2]
 rwa [h3]at h2
theorem aA5 {vis:List Nat}{n:Nat}(hn:vis.Nodup) (hv: ∀i∈vis,i < n):vis.length<=n:=by
 have h:=List.Nodup.length_le_of_subset hn (λi hi=>List.mem_range.2 (hv i hi))
 simpa using h
end Go.Proofs.YtfhoddcminbffaaGreatDoor
namespace Go.Proofs.YtfhoddcminbffaaGreatDoor
open Go.Proofs
set_option maxRecDepth 10000
attribute [local irreducible] aM aJ Tri aH YVC dI bI
def iE:List Ax->Int
 | []=>0
 |x::r=>if bB x≠0 then bB x else iE r
theorem zN {c:Cn}(h:eZ c=true):aN c=1:=by
 unfold eZ at h
 simp only [Bool.and_eq_true,decide_eq_true_eq]at h
 rw [cR,h.2.2.2.2];rfl
theorem aIk {k:Int}(h:1<=k/\k<=9):(bX k).most<=4:=by
 have:k=1\/k=2\/k=3\/k=4\/k=5\/k=6\/k=7\/k=8\/k=9:=by omega
 rcases this with h|h|h|h|h|h|h|h|h<;>rw [h]<;>decide
theorem fK {x:Ax}(h:bB x=0):aN x.left<=64/\aN x.right<=64/\x.roles.length<=4:=by
 obtain⟨hk,hl,hr⟩:=wQ h
 have hm:=aIk hk
 unfold bB at h
 split at h
 ·simp at h
 ·rename_i hs
  have hs:bJ x=true:=by simpa using hs
  unfold bJ at hs
  rw [if_neg (by omega)]at hs
  generalize bX x.kind=u at *
  unfold bA at hs
  simp only [Bool.and_eq_true,Bool.or_eq_true,decide_eq_true_eq]at hs
  refine⟨?_, ?_, ?_⟩
  ·cases hu:u.left
   ·have:eZ x.left=true:=by simp_all
    rw [zN this];omega
   ·exact(dU (hl hu)).1
  ·cases hu:u.right
   ·have:eZ x.right=true:=by simp_all
    rw [zN this];omega
   ·exact(dU (hr hu)).1
  ·omega
theorem rJ: ∀{l:List Ax}{j:Nat}(h:j < l.length),(∀x∈l.take j,bB x=0)->¬ bB l[j]=0->iE l=bB l[j]
 |x::r,0,_,_,he=>by
  have he:bB x≠0:=he
  rw [iE,if_pos he];rfl
 |x::r,j+1,h,hz,he=>by
  have h0:bB x=0:=hz x (by simp)
  rw [iE,if_neg (by simpa using h0)]
  exact rJ (by simpa using h) (λy hy=>hz y (by simp [hy])) he
theorem mR: ∀{l:List Ax},(∀x∈l,bB x=0)->iE l=0
 | [],_=>rfl
 |x::r,h=>by
  rw [iE,if_neg (by simpa using h x (by simp))]
  exact mR λy hy=>h y (by simp [hy])
theorem bR {l:List Ax}{j:Nat}(h:j < l.length):(l.map axR)[(j:Int).toNat]? =some (axR l[j]):=by
 rw [Int.toNat_natCast,List.getElem?_map,List.getElem?_eq_getElem h];rfl
end Go.Proofs.YtfhoddcminbffaaGreatDoor
namespace Go.Proofs.YtfhoddcminbffaaGreatDoor
open Go.Proofs
def aOc (x:Ax) (i:Nat):Str:=(x.roles[i]?).getD []
def vH (x:Ax):Nat:=x.roles.countP λr=>decide (r=x.role)
def eM (x:Ax) (i:Nat):Bool:=
 decide (aOc x i=x.role) && ((decide (vH x=1) && (decide (i=0) || decide (i+1=x.roles.length))) || (decide (vH x=2) && decide (x.roles.length=2)))
def iF (x:Ax) (l:List Nat):List Stp:=l.flatMap λi=>if eM x i then []else [(aOc x i,x.role,true)]
def dG (x:Ax):List Stp:=
 if x.kind=5 then (if aOc x 0=x.role then []else [(aOc x 0,x.role,false)])
 else if x.kind=6 then iF x (List.range x.roles.length)else []
def cQ (l:List Ax):List Stp:=l.flatMap dG
theorem zW (x:Ax) (l:List Nat):(iF x l).length<=l.length:=by
 induction l with
 |nil=>simp [iF]
 |cons i r ih=>
  have e:iF x (i::r)=(if eM x i then []else [(aOc x i,x.role,true)])++iF x r:=rfl
  rw [e,List.length_append,List.length_cons]
  split<;>simp<;>omega
theorem aIs (x:Ax) (h:x.roles.length<=4):(dG x).length<=4:=by
 unfold dG
 split
 ·split<;>simp
 ·split
  ·have:=zW x (List.range x.roles.length)
   rw [List.length_range]at this
   omega
  ·simp
theorem nL: ∀(l:List Ax),(∀x∈l,x.roles.length<=4)->(cQ l).length<=4 * l.length
 | [],_=>by simp [cQ]
 |x::r,h=>by
  have h1:=aIs x (h x (by simp))
  have h2:=nL r λy hy=>h y (List.mem_cons_of_mem _ hy)
  have e:cQ (x::r)=dG x++cQ r:=rfl
  rw [e,List.length_append,List.length_cons];omega
theorem oH {l:List Ax}{j:Nat}(h:j < l.length):cQ (l.take (j+1))=cQ (l.take j)++dG l[j]:=by
 rw [List.take_succ_eq_append_getElem h]
 unfold cQ
 rw [List.flatMap_append];simp
theorem wK (x:Ax) (k:Nat):iF x (List.range (k+1))=iF x (List.range k)++(if eM x k then []else [(aOc x k,x.role,true)]):=by
 rw [List.range_succ]
 unfold iF
 rw [List.flatMap_append];simp
abbrev Inn:=List (Str×Bool)×(List Nat×Nat)
def aBu (l:List (Str×Bool)):List (Str×SV):=l.map λp=>(p.1, .d (.bool p.2))
def inO (x:Inn):HObj:= .ext (xM aC2 (aBu x.1) x.2.1 x.2.2)
def kX:Nat->List (Str×Inn)->List (Str×SV)
 |_,[]=>[]
 |n,(k,_)::r=>(k, .xv (1000+n) nQ)::kX (n+1) r
def hpO:Nat->List (Str×Inn)->Hp
 |_,[]=>[]
 |n,(_,x)::r=>(1000+n,inO x)::hpO (n+1) r
def xI (k:Str):List (Str×Inn)->Option Nat
 | []=>none
 |(k',_)::r=>if k=k' then some 0 else (xI k r).map (· +1)
theorem uT {k:Str}: ∀{M:List (Str×Inn)}{i:Nat},xI k M=some i-> ∃x,M[i]? =some (k,x)
 |(k',x)::r,i,h=>by
  rw [xI]at h
  split at h
  ·rename_i e
   cases h
   exact⟨x,by rw [e];rfl⟩
  ·cases hp:xI k r with
   |none=>rw [hp]at h;cases h
   |some j=>
    rw [hp]at h
    cases h
    obtain⟨y,hy⟩:=uT hp
    exact⟨y,by simpa using hy⟩
theorem uU {k:Str}: ∀{M:List (Str×Inn)},xI k M=none↔k∉M.map (·.1)
 | []=>by simp [xI]
 |(k',x)::r=>by
  rw [xI]
  split
  ·rename_i e;simp [e]
  ·rename_i e
   rw [Option.map_eq_none_iff,uU]
   simp [e]
theorem mK (k:Str): ∀(n:Nat) (M:List (Str×Inn)),mL (kX n M) k=(xI k M).map λi=>SV.xv (1000+(n+i)) nQ
 |_,[]=>rfl
 |n,(k',x)::r=>by
  rw [kX,mL,xI]
  split
  ·rfl
  ·rw [mK k (n+1) r]
   cases xI k r with
   |none=>rfl
   |some i=>simp [Nat.add_comm,Nat.add_left_comm]
theorem aHy: ∀(n:Nat) (M:List (Str×Inn)),(kX n M).length=M.length
 |_,[]=>rfl
 |n,(k,x)::r=>by rw [kX,List.length_cons,List.length_cons,aHy]
theorem aDi: ∀(n:Nat) (M:List (Str×Inn)),(kX n M).map (·.1)=M.map (·.1)
 |_,[]=>rfl
 |n,(k,x)::r=>by rw [kX,List.map_cons,List.map_cons,aDi]
theorem aG0: ∀(n:Nat) (M:List (Str×Inn)),∀k∈aOe (kX n M),1000+n<=k/\k < 1000+n+M.length
 |_,[],k,h=>by simp [kX,aOe]at h
 |n,(a,x)::r,k,h=>by
  have e:aOe (kX n ((a,x)::r))=[1000+n]++aOe (kX (n+1) r):=rfl
  rw [e]at h
  rw [List.length_cons]
  rcases List.mem_append.1 h with h|h
  ·simp at h;omega
  ·have:=aG0 (n+1) r k h;omega
theorem aCr {k:Str}: ∀(n:Nat) (M:List (Str×Inn)) (x:Inn),xI k M=none->vB (kX n M) k (.xv (1000+(n+M.length)) nQ)=kX n (M++[(k,x)])
 |_,[],_,_=>rfl
 |n,(k',y)::r,x,h=>by
  rw [xI]at h
  split at h
  ·cases h
  ·rename_i e
   rw [Option.map_eq_none_iff]at h
   rw [kX,vB,if_neg e,List.cons_append,kX,List.length_cons,show n+(r.length+1)=n+1+r.length by omega,aCr (n+1) r x h]
theorem aHx: ∀(n:Nat) (M:List (Str×Inn)) (i:Nat) (k:Str) (x y:Inn),M[i]? =some (k,x)->kX n (M.set i (k,y))=kX n M
 |_,[],_,_,_,_,h=>by cases h
 |n,(k',z)::r,0,k,x,y,h=>by
  simp at h
  obtain⟨rfl,rfl⟩:=h
  rfl
 |n,(k',z)::r,i+1,k,x,y,h=>by
  rw [List.set_cons_succ,kX,kX,aHx (n+1) r i k x y (by simpa using h)]
theorem vR: ∀(n:Nat) (M:List (Str×Inn)) (i:Nat) (p:Str×Inn) (rest:Hp),M[i]? =some p->aU (hpO n M++rest) (1000+(n+i))=some (inO p.2)
 |_,[],_,_,_,h=>by cases h
 |n,(k,x)::r,0,p,rest,h=>by
  simp at h;subst h
  rw [hpO,List.cons_append,Nat.add_zero]
  exact fE
 |n,(k,x)::r,i+1,p,rest,h=>by
  rw [hpO,List.cons_append]
  refine aO ?_ (by omega)
  rw [show n+(i+1)=n+1+i by omega]
  exact vR (n+1) r i p rest (by simpa using h)
theorem aFu: ∀(n:Nat) (M:List (Str×Inn)) (d:Nat) (rest:Hp),(d < 1000+n\/1000+n+M.length<=d)->aU (hpO n M++rest) d=aU rest d
 |_,[],_,_,_=>rfl
 |n,(k,x)::r,d,rest,h=>by
  rw [hpO,List.cons_append]
  refine aO (aFu (n+1) r d rest ?_) ?_
  ·rw [List.length_cons]at h;omega
  ·rw [List.length_cons]at h;omega
theorem aNc: ∀(n:Nat) (M:List (Str×Inn)) (i:Nat) (k:Str) (y:Inn) (rest:Hp),i < M.length->hY (hpO n M++rest) (1000+(n+i)) (inO y)=hpO n (M.set i (k,y))++rest
 |_,[],_,_,_,_,h=>by simp at h
 |n,(k',z)::r,0,k,y,rest,h=>by
  rw [List.set_cons_zero,hpO,hpO,List.cons_append,Nat.add_zero n,aEq];rfl
 |n,(k',z)::r,i+1,k,y,rest,h=>by
  rw [List.set_cons_succ,hpO,hpO,List.cons_append,uG (by omega),show n+(i+1)=n+1+i by omega,aNc (n+1) r i k y rest (by simpa using h)];rfl
theorem aHi: ∀(n:Nat) (M:List (Str×Inn)) (k:Str) (x:Inn),hpO n (M++[(k,x)])=hpO n M++[(1000+(n+M.length),inO x)]
 |_,[],_,_=>rfl
 |n,(k',z)::r,k,x=>by
  rw [List.cons_append,hpO,hpO,aHi (n+1) r k x,List.length_cons,show n+(r.length+1)=n+1+r.length by omega];rfl
theorem aBd: ∀(n:Nat) (M:List (Str×Inn)) (p:Nat×HObj),p∈hpO n M-> ∃i q,M[i]? =some q/\p=(1000+(n+i),inO q.2)
 |_,[],_,h=>by simp [hpO]at h
 |n,(k,x)::r,p,h=>by
  rw [hpO]at h
  rcases List.mem_cons.1 h with rfl|h
  ·exact⟨0,_,rfl,rfl⟩
  ·obtain⟨i,q,h1,rfl⟩:=aBd (n+1) r p h
   exact⟨i+1,q,by simpa using h1,by rw [show n+(i+1)=n+1+i by omega]⟩
theorem aNa (l:List (Str×Bool)):aOe (aBu l)=[]:=by
 induction l with
 |nil=>rfl
 |cons p r ih=>simpa [aBu,aOe,SV.ids]using ih
theorem aS8 (x:Inn):(inO x).ids=[]:=aNa x.1
theorem aNd (n:Nat) (M:List (Str×Inn)): ∀k∈gG (hpO n M),1000+n<=k/\k < 1000+n+M.length:=by
 intro k hk
 simp only [gG,List.mem_flatMap,List.mem_cons]at hk
 obtain⟨p,hp,hk⟩:=hk
 obtain⟨i,q,h1,rfl⟩:=aBd n M p hp
 have hi:=(List.getElem?_eq_some_iff.1 h1).1
 rcases hk with rfl|hk
 ·dsimp only;omega
 ·dsimp only at hk
  rw [aS8]at hk;cases hk
theorem aHh (a b:Hp):gG (a++b)=gG a++gG b:=List.flatMap_append
def ME (M:List (Str×Inn)) (a b:Str) (t:Bool):Prop:= ∃(i:Nat) (x:Inn),M[i]? =some (a,x)/\mL x.1 b=some t
def aE6 (x:Inn) (s:Str) (t:Bool) (g:List Nat×Nat):Inn:=(vB x.1 s (((mL x.1 s).getD false) || t),g)
structure MInv (T:List Stp) (M:List (Str×Inn)):Prop where
 nd:(M.map (·.1)).Nodup
 le:M.length<=T.length
 lei: ∀p∈M,p.2.1.length<=T.length
 sound: ∀a b t,ME M a b t-> ∃t',(a,b,t')∈T/\(t=true->t'=true)
 full: ∀a b t,(a,b,t)∈T-> ∃t',ME M a b t'/\(t=true->t'=true)
theorem MInv.nil:MInv [] [] where
 nd:= .nil
 le:=Nat.le_refl _
 lei:=by simp
 sound:=by
  rintro a b t ⟨i,x,h,_⟩
  cases h
 full:=by simp
theorem vD {β:Type}(l:List (Str×β)) (k k':Str) (v:β):mL (vB l k v) k'=if k'=k then some v else mL l k':=by
 induction l with
 |nil=>rfl
 |cons p r ih=>
  obtain⟨q,w⟩:=p
  rw [vB]
  by_cases h:k=q
  ·subst h
   rw [if_pos rfl,mL,mL]
   split<;>rfl
  ·rw [if_neg h,mL,mL,ih]
   by_cases h2:k'=q
   ·subst h2
    rw [if_pos rfl,if_pos rfl,if_neg (Ne.symm h)]
   ·rw [if_neg h2,if_neg h2]
theorem aPr {β:Type}(l:List (Str×β)) (k:Str) (v:β):(vB l k v).length<=l.length+1:=by
 induction l with
 |nil=>simp [vB]
 |cons p r ih=>
  obtain⟨q,w⟩:=p
  rw [vB]
  split
  ·simp
  ·simp only [List.length_cons];omega
theorem aB2 {M:List (Str×Inn)}(h:(M.map (·.1)).Nodup) {i j:Nat}{a:Str}{x y:Inn}(hi:M[i]? =some (a,x)) (hj:M[j]? =some (a,y)):i=j:=by
 have h1:(M.map (·.1))[i]? =some a:=by rw [List.getElem?_map,hi];rfl
 have h2:(M.map (·.1))[j]? =some a:=by rw [List.getElem?_map,hj];rfl
 obtain⟨l1,e1⟩:=List.getElem?_eq_some_iff.1 h1
 obtain⟨l2,e2⟩:=List.getElem?_eq_some_iff.1 h2
 exact(List.getElem_inj h).1 (e1.trans e2.symm)
theorem aTb (a b:Bool):(b=true->(a || b)=true):=by cases a<;>cases b<;>decide
theorem MInv.new {T:List Stp}{M:List (Str×Inn)}(h:MInv T M) {r s:Str}(t:Bool) (g:List Nat×Nat) (hr:xI r M=none):MInv (T++[(r,s,t)]) (M++[(r,([(s,t)],g))]):=by
 have hr':=uU.1 hr
 have hME: ∀a b u,ME (M++[(r,([(s,t)],g))]) a b u↔ME M a b u\/(a=r/\b=s/\u=t):=by
  intro a b u
  constructor
  ·rintro⟨i,x,h1,h2⟩
   rw [List.getElem?_append]at h1
   split at h1
   ·exact .inl ⟨i,x,h1,h2⟩
   ·rename_i hi
    have hl:=(List.getElem?_eq_some_iff.1 h1).1
    simp only [List.length_singleton]at hl
    rw [show i - M.length=0 by omega]at h1
    simp at h1
    obtain⟨rfl,rfl⟩:=h1
    simp only [mL]at h2
    split at h2
    ·rename_i e
     cases h2
     exact .inr ⟨rfl,e,rfl⟩
    ·cases h2
  ·rintro(⟨i,x,h1,h2⟩|⟨rfl,rfl,rfl⟩)
   ·have hi:=(List.getElem?_eq_some_iff.1 h1).1
    exact⟨i,x,by rw [List.getElem?_append_left hi];exact h1,h2⟩
   ·exact⟨M.length,([(b,u)],g),by simp,by simp [mL]⟩
 refine⟨?_,by simp;exact h.le, ?_, ?_, ?_⟩
 ·rw [List.map_append,List.nodup_append]
  refine⟨h.nd,by simp,λa ha b hb=> ?_⟩
  simp at hb
  subst hb
  exact λe=>hr' (e ▸ ha)
 ·intro p hp
  rw [List.length_append,List.length_singleton]
  rcases List.mem_append.1 hp with hp|hp
  ·have:=h.lei p hp;omega
  ·simp at hp;subst hp;simp
 ·intro a b u hu
  rcases(hME a b u).1 hu with hu|⟨rfl,rfl,rfl⟩
  ·obtain⟨t',h1,h2⟩:=h.sound a b u hu
   exact⟨t',List.mem_append_left _ h1,h2⟩
  ·exact⟨u,by simp,id⟩
 ·intro a b u hu
  rcases List.mem_append.1 hu with hu|hu
  ·obtain⟨t',h1,h2⟩:=h.full a b u hu
   exact⟨t',(hME a b t').2 (.inl h1),h2⟩
  ·simp at hu
   obtain⟨rfl,rfl,rfl⟩:=hu
   exact⟨u,(hME _ _ _).2 (.inr ⟨rfl,rfl,rfl⟩),id⟩
theorem MInv.upd {T:List Stp}{M:List (Str×Inn)}(h:MInv T M) {r s:Str}(t:Bool) (g:List Nat×Nat) {i:Nat}{x:Inn}(hi:M[i]? =some (r,x)):MInv (T++[(r,s,t)]) (M.set i (r,aE6 x s t g)):=by
 have hil:=(List.getElem?_eq_some_iff.1 hi).1
 have hkeys:(M.set i (r,aE6 x s t g)).map (·.1)=M.map (·.1):=by
  rw [List.map_set]
  apply List.ext_getElem?
  intro j
  rw [List.getElem?_set]
  split
  ·rename_i e
   subst e
   rw [List.length_map,if_pos hil,List.getElem?_map,hi];rfl
  ·rfl
 have hME: ∀a b u,ME (M.set i (r,aE6 x s t g)) a b u↔(a=r/\b=s/\u=(((mL x.1 s).getD false) || t))\/(¬ (a=r/\b=s)/\ME M a b u):=by
  intro a b u
  constructor
  ·rintro⟨j,y,h1,h2⟩
   rw [List.getElem?_set]at h1
   split at h1
   ·rename_i e
    subst e
    try rw [if_pos hil]at h1
    simp at h1
    obtain⟨rfl,rfl⟩:=h1
    rw [aE6,vD]at h2
    split at h2
    ·rename_i e
     cases h2
     exact .inl ⟨rfl,e,rfl⟩
    ·rename_i e
     exact .inr ⟨λh=>e h.2,i,x,hi,h2⟩
   ·rename_i e
    refine .inr ⟨λh'=> ?_,j,y,h1,h2⟩
    obtain⟨rfl,_⟩:=h'
    exact e (aB2 h.nd hi h1)
  ·rintro(⟨rfl,rfl,rfl⟩|⟨hn,j,y,h1,h2⟩)
   ·exact⟨i,_,by rw [List.getElem?_set_self hil],by rw [aE6,vD,if_pos rfl]⟩
   ·by_cases e:i=j
    ·subst e
     rw [hi]at h1
     simp at h1
     obtain⟨rfl,rfl⟩:=h1
     refine⟨i,_,by rw [List.getElem?_set_self hil], ?_⟩
     rw [aE6,vD,if_neg λe=>hn ⟨rfl,e⟩]
     exact h2
    ·exact⟨j,y,by rw [List.getElem?_set_ne e];exact h1,h2⟩
 refine⟨by rw [hkeys];exact h.nd,by rw [List.length_set,List.length_append];have:=h.le;omega, ?_, ?_, ?_⟩
 ·intro p hp
  rw [List.length_append,List.length_singleton]
  rcases List.mem_or_eq_of_mem_set hp with hp|rfl
  ·have:=h.lei p hp;omega
  ·have h1:=h.lei _ (List.mem_of_getElem? hi)
   have h2:=aPr x.1 s (((mL x.1 s).getD false) || t)
   show (vB x.1 s _).length<=_
   dsimp only at h1
   omega
 ·intro a b u hu
  rcases(hME a b u).1 hu with⟨rfl,rfl,rfl⟩|⟨hn,hu⟩
  ·cases hx:mL x.1 b with
   |none=>exact⟨t,by simp,by simp⟩
   |some v=>
    obtain⟨t',h1,h2⟩:=h.sound a b v ⟨i,x,hi,hx⟩
    cases t with
    |true=>exact⟨true,by simp,by simp⟩
    |false=>exact⟨t',List.mem_append_left _ h1,by simpa using h2⟩
  ·obtain⟨t',h1,h2⟩:=h.sound a b u hu
   exact⟨t',List.mem_append_left _ h1,h2⟩
 ·intro a b u hu
  rcases List.mem_append.1 hu with hu|hu
  ·obtain⟨t',⟨j,y,h1,h3⟩,h2⟩:=h.full a b u hu
   by_cases e:a=r/\b=s
   ·obtain⟨rfl,rfl⟩:=e
    have hj:=aB2 h.nd hi h1
    subst hj
    rw [hi]at h1
    simp at h1
    subst h1
    refine⟨_,(hME _ _ _).2 (.inl ⟨rfl,rfl,rfl⟩),λhu=> ?_⟩
    rw [h3]
    simp [h2 hu]
   ·exact⟨t',(hME _ _ _).2 (.inr ⟨e,j,y,h1,h3⟩),h2⟩
  ·simp at hu
   obtain⟨rfl,rfl,rfl⟩:=hu
   exact⟨_,(hME _ _ _).2 (.inl ⟨rfl,rfl,rfl⟩),aTb _ _⟩
theorem MInv.circ {T:List Stp}{M:List (Str×Inn)}(h:MInv T M):jO (ET T)↔jO (ME M):=
 ⟨jO.mono λa b t=>h.full a b t,jO.mono λa b t=>h.sound a b t⟩
structure GOk (M:List (Str×Inn)) (R:List Str) (G:Adj):Prop where
 len:G.length=R.length
 nd:R.Nodup
 mem: ∀a,a∈R↔a∈M.map (·.1)
 sound: ∀i j t,EG G i j t->j < R.length/\ ∃a b,R[i]? =some a/\R[j]? =some b/\ME M a b t
 full: ∀i j t a b,R[i]? =some a->R[j]? =some b->ME M a b t->EG G i j t
theorem GOk.circ {M:List (Str×Inn)}{R:List Str}{G:Adj}(h:GOk M R G):jO (ME M)↔jO (EG G):=by
 have key: ∀{a b:Str} {t:Bool},ME M a b t->a∈R:=by
  rintro a b t ⟨i,x,h1,_⟩
  exact(h.mem a).2 (List.mem_map.2 ⟨_,List.mem_of_getElem? h1,rfl⟩)
 have at_: ∀{a:Str},a∈R->R[R.idxOf a]? =some a:=by
  intro a ha
  have hl:=List.idxOf_lt_length_of_mem ha
  rw [List.getElem?_eq_getElem hl,List.getElem_idxOf hl]
 constructor
 ·intro hc
  refine jO.map (λa=>R.idxOf a) ?_ hc.dom
  rintro a b t ⟨h1,c,u,h2⟩
  exact h.full _ _ t a b (at_ (key h1)) (at_ (key h2)) h1
 ·refine jO.map (λi=>(R[i]?).getD []) ?_
  intro i j t he
  obtain⟨_,a,b,h1,h2,h3⟩:=h.sound i j t he
  show ME M ((R[i]?).getD []) ((R[j]?).getD []) t
  rw [h1,h2]
  exact h3
open Classical in
noncomputable def eG (l:List Ax):Int:=if iE l≠0 then iE l else if jO (ET (cQ l))then 60 else 0
end Go.Proofs.YtfhoddcminbffaaGreatDoor
