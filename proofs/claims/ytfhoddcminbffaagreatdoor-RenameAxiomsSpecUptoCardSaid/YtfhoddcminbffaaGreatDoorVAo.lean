/-
  The library's sorts, as they lie in this program. Terms: tidy and meet. Terms: Tidy and TidyAxiom.
  Conditions: none.
-/
import Derived.Test.YtfhoddcminbffaaGreatDoorVSng
import Derived.Test.YtfhoddcminbffaaGreatDoorVTy
import Derived.Test.YtfhoddcminbffaaGreatDoorVSw
import Derived.Test.YtfhoddcminbffaaGreatDoorVLzp
import Derived.Ground.SlsfProg
import Derived.Ground.NamesProg
import Derived.Test.YtfhoddcminbffaaGreatDoorVAm
set_option linter.unnecessarySimpa false
set_option linter.unusedSectionVars false
set_option linter.unusedSimpArgs false
set_option linter.unusedVariables false
set_option maxHeartbeats 32000000
namespace Go.Proofs.YtfhoddcminbffaaGreatDoor
open Go.Proofs Go.Shelf Go.Sort
theorem tE:Tryz.sortTree_ren.t 24=152:=rfl
theorem aD1: ∀w,(isAgg (Tryz.sortTree_ren.t 24)).run Tryz.prog w= .ok true w:=by
 intro w
 rw [tE]
 obtain⟨d,i,z,h⟩:=aP (hty 152 _ rfl)
 exact h.run_isAgg w
theorem aEe: ∀w,(Go.sizeOf (Tryz.sortTree_ren.t 24)).run Tryz.prog w= .ok 7 w:=by
 intro w
 rw [tE]
 obtain⟨d,i,z,h⟩:=aP (hty 152 _ rfl)
 exact h.run_size w
end Go.Proofs.YtfhoddcminbffaaGreatDoor
namespace Go.Proofs.YtfhoddcminbffaaGreatDoor
open Go.Proofs
set_option maxRecDepth 10000
theorem Tri.resT {P:Program}{f:FuncId}{qs:List SV}{hp:Hp}{post post':SV->Prop}(h:Tri P f qs hp post) (hw: ∀s,post s->post' s\/ ∃ss ss',s= .tup ss/\aKe ss ss'/\post' (.tup ss')):Tri P f qs hp post':=by
 unfold Tri at h |-
 intro w ρ vs a b c
 refine(h w ρ vs a b c).mono ?_
 rintro e w' ⟨v,S',s,rfl,hp,h1,h2,h3,h4,hr⟩
 rcases hw s hp with hp'|⟨ss,ss',rfl,hwk,hp'⟩
 ·exact⟨v,S',_,rfl,hp',h1,h2,h3,h4,hr⟩
 obtain⟨us,e1,hl,hh⟩:=hr.tup_inv
 obtain⟨k1,k2⟩:=aGa _ _ hwk
 refine⟨v,S',_,rfl,hp',h1,h2,h3,h4, ?_⟩
 rw [e1]
 refine .tup _ _ (by omega) λj q u hq hu=> ?_
 obtain⟨q0,r1,r2⟩:=k2 j q hq
 exact aL8 r2 (hh j q0 u r1 hu)
attribute [local irreducible] aV aM Tri aI YVC dQ bN
theorem aMu:Go.Sort.SWO (ltOf fX):=by
 refine⟨λx=> ?_,λx y z h1 h2=> ?_,λx y z h1 h2=> ?_⟩
 ·simp [ltOf,nI]
 ·simp only [ltOf,decide_eq_true_eq]at *
  exact(lR x y z).1 h1 h2
 ·simp only [ltOf,decide_eq_false_iff_not]at *
  have a1:=dK x y
  have a2:=dK y z
  have a3:=dK x z
  have t1:=(lR x z y).1
  have t2:=lR x z y
  have t3:=lR z y x
  unfold sK at t2 t3
  have b1:=dK z x
  have b2:=dK z y
  omega
theorem aCq (a b:Cn):Tri Tryz.prog 165 [.d (.agg (grR a)), .d (.agg (grR b))] [] (λr=>r= .d (.bool (uF a b))):=by
 have h:=kH a b
 rw [cJ,cJ]at h
 rw [cJ,cJ]
 refine aH false [2,3] hty Tryz.func165 rfl (kp [0,1,2,3,4]) [] _ _ _ (by simp [Tryz.f165]) (by simp) ?_
 ((conv=>whnf);repeat' ((first|(intro hq;(try simp only [lnS]at hq);(try rewrite [List.length_map]))|refine sJ ?_|refine .intro _ (.intro rfl ?_)|refine exL (k:= ?_)|(refine aG [] h trivial (λr hs=> ?_);subst hs)|refine dwR ?_|((first|refine aD ?_ ?_|refine aF ?_ ?_)<;>intro hb<;>(first|exact ddX hb|try simp only [lnS]at hb))|(refine aC ?_ ?_<;>intro hb<;>try exact dsX hb))<;>(conv=>whnf)))
 rfl
structure PairW (c:Cn) (e:Int) (s:SV):Prop where
 ex: ∃a,s= .tup [.d a, .d (.int .i64 e)]/\(a= .agg (cnR c)\/WkD a (.agg (cnR c)))
theorem Tri.pairW {P:Program}{f:FuncId}{qs:List SV}{hp:Hp}{c:Cn}{e:Int}(h:Tri P f qs hp (PairW c e)):Tri P f qs hp (λr=>r= .tup [.d (.agg (cnR c)), .d (.int .i64 e)]):=by
 refine Tri.resT h ?_
 rintro s ⟨a,rfl,rfl|hw⟩
 ·exact .inl rfl
 ·exact .inr ⟨_,[.d (.agg (cnR c)), .d (.int .i64 e)],rfl,⟨hw,by exact rfl,trivial⟩,rfl⟩
theorem aCg {c:Cn}(h:c.kind=1):dJ c=[]:=if_pos h
theorem aCh {c:Cn}(h:c.kind=5):dJ c=c.parts:=by rw [dJ,if_neg (by omega),if_pos h]
theorem zT {c:Cn}(h1:c.kind≠1) (h5:c.kind≠5):dJ c=[c]:=by rw [dJ,if_neg h1,if_neg h5]
def yO (ps:List Cn):List Cn:=(ps.map aL).flatMap λr=>dJ r.1
theorem aG7 {ps:List Cn}{j:Nat}(h:j < ps.length):yO (ps.take (j+1))=yO (ps.take j)++dJ (aL ps[j]).1:=by
 rw [yO,List.take_succ_eq_append_getElem h,List.map_append,List.flatMap_append];simp [yO]
theorem aG8 (ps:List Cn) (j:Nat):fS (yO (ps.take j))<=fS ps:=by
 have h1:=qG ((ps.take j).map aL)
 rw [<-mA]at h1
 have h2:=nS (ps.take j)
 have h3:fS (ps.take j)<=fS ps:=dC ps j
 rw [yO,<-mA]
 omega
theorem fM (l:List Cn):l.length<=fS l:=kS l
theorem wkMw {i z a b:Nat}(h:a=b):Wk (.mw i z a) (.mw i z b):=by subst h;exact rfl
theorem xN {ps:List Cn}{j:Nat}(h:j < ps.length) (hn:((ps.take j).map aL).find? (λr=>decide (r.2≠0))=none) (he:¬ (aL ps[j]).2=0):hY (ps.map aL)=(c0,(aL ps[j]).2):=by
 have e1:ps.map aL=(ps.take j).map aL++aL ps[j]::(ps.drop (j+1)).map aL:=by
  rw [<-List.map_cons (f:=aL),<-List.drop_eq_getElem_cons h,<-List.map_append,List.take_append_drop]
 have e2:(ps.map aL).find? (λr=>decide (r.2≠0))=some (aL ps[j]):=by
  rw [e1,List.find?_append,hn,List.find?_cons_of_pos (by simpa using he)];rfl
 rw [hY,e2]
theorem aF1 {ps:List Cn}{j:Nat}(h:j < ps.length) (hn:((ps.take j).map aL).find? (λr=>decide (r.2≠0))=none) (he:(aL ps[j]).2=0):((ps.take (j+1)).map aL).find? (λr=>decide (r.2≠0))=none:=by
 rw [List.take_succ_eq_append_getElem h,List.map_append,List.find?_append,hn]
 simp [he]
theorem aHr {ps:List Cn}(hn:(ps.map aL).find? (λr=>decide (r.2≠0))=none):hY (ps.map aL)=hZ (sM (yO ps)):=by
 rw [hY,hn];rfl
theorem aDm (e:Int):PairW c0 e (.tup [.d (.agg [.int .i64 0, .str [], .int .i64 0, .int .i64 0, .nil]), .d (.int .i64 e)]):=by
 refine⟨_,rfl, .inr ?_⟩
 rw [aJ]
 exact⟨rfl,rfl,rfl,rfl,rfl,trivial⟩
theorem aMm:PairW aGf 0 (.tup [.d (.agg [.int .i64 1, .str [], .int .i64 0, .int .i64 0, .nil]), .d (.int .i64 0)]):=by
 refine⟨_,rfl, .inr ?_⟩
 rw [aJ]
 exact⟨rfl,rfl,rfl,rfl,rfl,trivial⟩
theorem mE (c:Cn) (e:Int):PairW c e (.tup [.d (.agg [.int .i64 c.kind, .str c.name, .int .i64 c.lo, .int .i64 c.hi, .sl 5 (c.parts.map cnR)]), .d (.int .i64 e)]):=by
 exact⟨_,rfl, .inl (by rw [aJ])⟩
theorem xY {s:List Cn}{i:Nat}(h:i < s.length) (hn:(s.take i).find? (λt=>decide (t.kind=2))=none):(s[i].kind=2->s.find? (λt=>decide (t.kind=2))=some s[i])/\(¬ s[i].kind=2->(s.take (i+1)).find? (λt=>decide (t.kind=2))=none):=by
 have e1:s=s.take i++s[i]::s.drop (i+1):=by rw [<-List.drop_eq_getElem_cons h,List.take_append_drop]
 refine⟨λhk=> ?_,λhk=> ?_⟩
 ·have:(s.take i++s[i]::s.drop (i+1)).find? (λt=>decide (t.kind=2))=some s[i]:=by
   rw [List.find?_append,hn,List.find?_cons_of_pos (by simpa using hk)];rfl
  rwa [<-e1]at this
 ·rw [List.take_succ_eq_append_getElem h,List.find?_append,hn]
  simp [hk]
theorem uJ {s:List Cn}{t:Cn}(h:s.find? (λt=>decide (t.kind=2))=some t):hZ s=(t,0):=by rw [hZ,h]
theorem uK {s:List Cn}(h:s.find? (λt=>decide (t.kind=2))=none):hZ s=if s.length=0 then (aGf,0)else if s.length=1 then (s.headD c0,0)else if 8 < s.length then (c0,2)else (.mk 5 [] 0 0 s,0):=by rw [hZ,h]
theorem aF5 (ps:List Cn) (hs:fS ps<=1000000) (ht: ∀p∈ps,Tri Tryz.prog 82 [.d (.agg (cnR p))] [] (λr=>r= .tup [.d (.agg (cnR (aL p).1)), .d (.int .i64 (aL p).2)])):
  Tri Tryz.prog 129 [.d (.sl 5 (ps.map cnR))] [] (PairW (hY (ps.map aL)).1 (hY (ps.map aL)).2):=by
 refine aH false [6,7,10,12,14] hty Tryz.func129 rfl (kp [0,2,3,4,6,7,8,10,12,14,15,16,17,18,27,31,37,39,42,43,44,45,59,60,61,62,68,72,77,85,91,92,93,94]) [] _ _ _ (by simp [Tryz.f129]) (by simp) ?_
 ((conv=>whnf);repeat ((first|(intro hq;try simp only [lnS]at hq)|refine sI ?_|refine .intro _ (.intro rfl ?_));(conv=>whnf)))
 refine aV.mown 4 70 152 7 rfl (dV (by with_unfolding_all exact rfl)) ?_
 refine aK hty (λy:Nat×Nat=>([(2, .ptr 2 0),(4, .mw 70 7 (yO (ps.take y.1)).length),(15, .d (.sl 5 (ps.map cnR))),(16, .d (.int .i64 ps.length)),(17, .d (.int .i64 y.1))],[(70, .mrow 152 7 y.2 ((yO (ps.take y.1)).map grR)),(2, .cells 46 [.d (.int .i64 0), .d (.str []), .d (.int .i64 0), .d (.int .i64 0), .d .nil])])) (λy=>y.1<=ps.length/\((ps.take y.1).map aL).find? (λr=>decide (r.2≠0))=none) (λy=>ps.length - y.1) (0,0) ⟨by dsimp only;omega,rfl⟩ ⟨by repeat' (first|exact trivial|exact rfl|(rw [List.length_map];exact rfl)|refine And.intro ?_ ?_),⟨rfl,rfl,trivial⟩⟩ ?_
 rintro⟨j,cap⟩ ⟨hj,hnone⟩
 dsimp only at hj hnone
 ((conv=>whnf);repeat ((first|(intro hq;try simp only [lnS]at hq)|refine sI ?_|refine .intro _ (.intro rfl ?_));(conv=>whnf)))
 refine aD (λh1=> ?_) (λh1=> ?_)
 ·have hjl:j < ps.length:=by dsimp only at h1;omega
  have hrow:(ps.map cnR)[(j:Int).toNat]? =some (cnR ps[j]):=aS hjl
  have hi:=ht ps[j] (List.getElem_mem hjl)
  have herr:=xN hjl hnone
  have hnt:=aF1 hjl hnone
  have hacc:=aG7 hjl
  have hle:=aG8 ps (j+1)
  rw [aJ]at hrow hi
  have hxs:aQ (aL ps[j]).1<=1000000:=by
   have h3:=fE ps[j]
   have h4:=kM (List.getElem_mem hjl)
   omega
  generalize (aL ps[j]).1=x at *
  generalize (aL ps[j]).2=e at *
  rw [aJ x]at hi
  ((conv=>whnf);repeat ((first|(refine⟨_,hrow, ?_⟩)|(refine aG [] hi trivial (λr hs=> ?_);subst hs)|(intro hq;try simp only [lnS]at hq)|refine sI ?_|refine .intro _ (.intro rfl ?_));(conv=>whnf)))
  refine aF (λh2=> ?_) (λh2=> ?_)
  ·((conv=>whnf);repeat' ((first|(intro hq;(try simp only [lnS]at hq);(try rewrite [List.length_map]))|refine sJ ?_|refine .intro _ (.intro rfl ?_)|refine exL (k:= ?_)|refine dwR ?_|((first|refine aD ?_ ?_|refine aF ?_ ?_)<;>intro hb<;>(first|exact ddX hb|try simp only [lnS]at hb))|(refine aC ?_ ?_<;>intro hb<;>try exact dsX hb))<;>(conv=>whnf)))
   rw [herr h2]
   exact aDm e
  ·have hnt:=hnt h2
   rw [hacc,iX]at hle
   have hlacc:=fM (yO (ps.take j))
   ((conv=>whnf);repeat ((first|(intro hq;try simp only [lnS]at hq)|refine sI ?_|refine .intro _ (.intro rfl ?_));(conv=>whnf)))
   refine aD (λh3=> ?_) (λh3=> ?_)
   ·rw [aCg h3,List.append_nil]at hacc
    ((conv=>whnf);repeat' ((first|(intro hq;(try simp only [lnS]at hq);(try rewrite [List.length_map]))|refine sJ ?_|refine .intro _ (.intro rfl ?_)|refine exL (k:= ?_)|refine dwR ?_|((first|refine aD ?_ ?_|refine aF ?_ ?_)<;>intro hb<;>(first|exact ddX hb|try simp only [lnS]at hb))|(refine aC ?_ ?_<;>intro hb<;>try exact dsX hb))<;>(conv=>whnf)))
    exact⟨(j+1,cap),⟨by dsimp only;omega,hnt⟩,by dsimp only;omega,⟨by dsimp only;rw [hacc];exact by repeat' (first|exact trivial|exact rfl|refine And.intro ?_ ?_),by dsimp only;rw [hacc];exact⟨rfl,rfl,trivial⟩⟩⟩
   ·((conv=>whnf);repeat ((first|(intro hq;try simp only [lnS]at hq)|refine sI ?_|refine .intro _ (.intro rfl ?_));(conv=>whnf)))
    refine aD (λh5=> ?_) (λh5=> ?_)
    ·rw [aCh h5]at hacc hle
     have hlp:=fM x.parts
     generalize yO (ps.take j)=acc at *
     ((conv=>whnf);repeat ((first|(intro hq;try simp only [lnS]at hq)|refine sI ?_|refine .intro _ (.intro rfl ?_));(conv=>whnf)))
     refine aK hty (λy:Nat×Nat=>([(2, .ptr 2 0),(4, .mw 70 7 (acc.length+y.1)),(15, .d (.sl 5 (ps.map cnR))),(16, .d (.int .i64 ps.length)),(17, .d (.int .i64 j)),(42, .d (.sl 5 (x.parts.map cnR))),(43, .d (.int .i64 x.parts.length)),(44, .d (.int .i64 y.1))],[(70, .mrow 152 7 y.2 ((acc++x.parts.take y.1).map grR)),(2, .cells 46 [.d (.int .i64 0), .d (.str []), .d (.int .i64 0), .d (.int .i64 0), .d .nil])])) (λy=>y.1<=x.parts.length) (λy=>x.parts.length - y.1) (0,cap) (by dsimp only;omega) ⟨by repeat' (first|exact trivial|exact rfl|(rw [List.length_map];exact rfl)|refine And.intro ?_ ?_),⟨by dsimp only;rw [List.take_zero,List.append_nil];rfl,rfl,trivial⟩⟩ ?_
     rintro⟨i,cap2⟩ hi2
     dsimp only at hi2
     ((conv=>whnf);repeat ((first|(intro hq;try simp only [lnS]at hq)|refine sI ?_|refine .intro _ (.intro rfl ?_));(conv=>whnf)))
     refine aD (λh6=> ?_) (λh6=> ?_)
     ·have hil:i < x.parts.length:=by dsimp only at h6;omega
      have hrow2:(x.parts.map cnR)[(i:Int).toNat]? =some (cnR x.parts[i]):=aS hil
      have hps:=cT (List.getElem_mem (l:=x.parts) hil)
      have hgr:=mW x.parts[i] (by omega)
      have hgx:=cJ x.parts[i]
      rw [aJ]at hrow2 hgr
      rw [cJ]at hgr
      have hrl:((acc++x.parts.take i).map grR).length=acc.length+i:=by rw [List.length_map,List.length_append,List.length_take];omega
      have hb63:((acc++x.parts.take i).map grR).length+1<=9223372036854775807:=by rw [hrl];omega
      have hb48:(((acc++x.parts.take i).map grR).length+1)* 96<=140737488355328:=by rw [hrl];omega
      ((conv=>whnf);repeat ((first|(refine⟨_,hrow2, ?_⟩)|(refine aG [] hgr trivial (λr hs=> ?_);subst hs)|(refine And.intro hrl.symm ?_)|(refine And.intro hb63 ?_)|(refine And.intro hb48 ?_)|(intro hq;try simp only [lnS]at hq)|refine sI ?_|refine .intro _ (.intro rfl ?_));(conv=>whnf)))
      rename_i cap'
      have hrows:(acc++x.parts.take (i+1)).map grR=(acc++x.parts.take i).map grR++[grX x.parts[i] (aQ x.parts[i]) x.parts[i].parts]:=by
       rw [List.take_succ_eq_append_getElem hil,<-List.append_assoc,List.map_append,List.map_cons,List.map_nil,hgx]
      refine⟨(i+1,cap'),by dsimp only;omega,by dsimp only;omega,⟨?_, ?_⟩⟩
      ·repeat' (first|exact trivial|exact wkMw (by show ((acc++x.parts.take i).map grR).length+1=_;rw [hrl];dsimp only;omega)|exact rfl|refine And.intro ?_ ?_)
      ·dsimp only
       rw [hrows]
       exact⟨rfl,rfl,trivial⟩
     ·have hil:i=x.parts.length:=by dsimp only at h6;omega
      subst hil
      rw [List.take_length,<-hacc]
      ((conv=>whnf);repeat' ((first|(intro hq;(try simp only [lnS]at hq);(try rewrite [List.length_map]))|refine sJ ?_|refine .intro _ (.intro rfl ?_)|refine exL (k:= ?_)|refine dwR ?_|((first|refine aD ?_ ?_|refine aF ?_ ?_)<;>intro hb<;>(first|exact ddX hb|try simp only [lnS]at hb))|(refine aC ?_ ?_<;>intro hb<;>try exact dsX hb))<;>(conv=>whnf)))
      refine⟨(j+1,cap2),⟨by dsimp only;omega,hnt⟩,by dsimp only;omega,⟨?_,⟨rfl,rfl,trivial⟩⟩⟩
      repeat' (first|exact trivial|exact wkMw (by dsimp only;rw [hacc,List.length_append])|exact rfl|refine And.intro ?_ ?_)
    ·rw [zT h3 h5]at hacc hle
     rw [bH]at hle
     have hgr:=mW x hxs
     have hgx:=cJ x
     rw [aJ,hgx]at hgr
     generalize yO (ps.take j)=acc at *
     have hrl:(acc.map grR).length=acc.length:=List.length_map ..
     have hb63:(acc.map grR).length+1<=9223372036854775807:=by rw [hrl];omega
     have hb48:((acc.map grR).length+1)* 96<=140737488355328:=by rw [hrl];omega
     ((conv=>whnf);repeat ((first|(refine aG [] hgr trivial (λr hs=> ?_);subst hs)|(refine And.intro hrl.symm ?_)|(refine And.intro hb63 ?_)|(refine And.intro hb48 ?_)|(intro hq;try simp only [lnS]at hq)|refine sI ?_|refine .intro _ (.intro rfl ?_));(conv=>whnf)))
     rename_i cap'
     refine⟨(j+1,cap'),⟨by dsimp only;omega,hnt⟩,by dsimp only;omega,⟨?_, ?_⟩⟩
     ·repeat' (first|exact trivial|exact wkMw (by show (acc.map grR).length+1=_;rw [hrl,hacc,List.length_append];rfl)|exact rfl|refine And.intro ?_ ?_)
     ·dsimp only
      rw [hacc,List.map_append,List.map_cons,List.map_nil,hgx]
      exact⟨rfl,rfl,trivial⟩
 ·have hjl:j=ps.length:=by dsimp only at h1;omega
  subst hjl
  rw [List.take_length]at hnone
  have hacl:=fM (yO ps)
  have hle:=aG8 ps ps.length
  rw [List.take_length]at hle
  rw [aHr hnone]
  ((conv=>whnf);repeat ((first|(intro hq;try simp only [lnS]at hq)|refine sI ?_|refine .intro _ (.intro rfl ?_));(conv=>whnf)))
  rw [List.take_length]
  refine vD Tryz.sortTree (by decide) aD1 aEe (enters_of Tryz.func131 (by kernel_rfl) rfl) (yO ps) grR fX aMu (λx _ y _=>kH x y) (id:=70) rfl rfl (by omega) (λl' hp' hs'=> ?_)
  ((conv=>whnf);repeat ((first|(intro hq;try simp only [lnS]at hq)|refine sI ?_|refine .intro _ (.intro rfl ?_));(conv=>whnf)))
  have hll:=hp'.length_eq
  refine pD 165 (by kernel_rfl) l' (by omega) (λa _ b _=>aCq a b) cap _ hll.symm [(2, .cells 46 [.d (.int .i64 0), .d (.str []), .d (.int .i64 0), .d (.int .i64 0), .d .nil])] (by simp) (aKc (by with_unfolding_all exact rfl)) (by simp [iL,HObj.ids,SV.idsL,SV.ids];omega) rfl (λo=>⟨rfl,trivial⟩) (λcap'=> ?_)
  have hset:oV uF l'=sM (yO ps):=aAa hp' hs'
  rw [hset]
  have hsl:(sM (yO ps)).length<=1000000:=by rw [<-hset];have:=nF uF l';omega
  generalize sM (yO ps)=s at hsl |-
  ((conv=>whnf);repeat ((first|(intro hq;try simp only [lnS]at hq)|refine sI ?_|refine .intro _ (.intro rfl ?_));(conv=>whnf)))
  have hsm:s.length=(s.map grR).length:=(List.length_map ..).symm
  refine aK hty (λi:Nat=>([(2, .ptr 2 0),(4, .mw 170 7 s.length),(59, .mw 170 7 s.length),(60, .d (.int .i64 s.length)),(61, .d (.int .i64 i))],[(170, .mrow 152 7 cap' (s.map grR)),(2, .cells 46 [.d (.int .i64 0), .d (.str []), .d (.int .i64 0), .d (.int .i64 0), .d .nil])])) (λi=>i<=s.length/\(s.take i).find? (λt=>decide (t.kind=2))=none) (λi=>s.length - i) 0 ⟨by omega,rfl⟩ ⟨by repeat' (first|exact trivial|exact rfl|refine And.intro ?_ ?_),⟨rfl,rfl,trivial⟩⟩ ?_
  rintro i ⟨hi,hin⟩
  ((conv=>whnf);repeat ((first|(intro hq;try simp only [lnS]at hq)|refine sI ?_|refine .intro _ (.intro rfl ?_));(conv=>whnf)))
  refine aD (λh2=> ?_) (λh2=> ?_)
  ·have hil:i < s.length:=by omega
   have hrow:(s.map grR)[(i:Int).toNat]? =some (grR s[i]):=aS hil
   rw [cJ]at hrow
   obtain⟨hf1,hf2⟩:=xY hil hin
   ((conv=>whnf);repeat ((first|(refine And.intro hsm ?_)|(refine⟨_,hrow, ?_⟩)|(intro hq;try simp only [lnS]at hq)|refine sI ?_|refine .intro _ (.intro rfl ?_));(conv=>whnf)))
   refine aD (λh3=> ?_) (λh3=> ?_)
   ·((conv=>whnf);repeat' ((first|(intro hq;(try simp only [lnS]at hq);(try rewrite [List.length_map]))|refine sJ ?_|refine .intro _ (.intro rfl ?_)|refine exL (k:= ?_)|refine dwR ?_|((first|refine aD ?_ ?_|refine aF ?_ ?_)<;>intro hb<;>(first|exact ddX hb|try simp only [lnS]at hb))|(refine aC ?_ ?_<;>intro hb<;>try exact dsX hb))<;>(conv=>whnf)))
    rw [uJ (hf1 h3)]
    exact mE _ _
   ·((conv=>whnf);repeat' ((first|(intro hq;(try simp only [lnS]at hq);(try rewrite [List.length_map]))|refine sJ ?_|refine .intro _ (.intro rfl ?_)|refine exL (k:= ?_)|refine dwR ?_|((first|refine aD ?_ ?_|refine aF ?_ ?_)<;>intro hb<;>(first|exact ddX hb|try simp only [lnS]at hb))|(refine aC ?_ ?_<;>intro hb<;>try exact dsX hb))<;>(conv=>whnf)))
    exact⟨i+1,⟨by omega,hf2 h3⟩,by dsimp only;omega,⟨by repeat' (first|exact trivial|exact rfl|refine And.intro ?_ ?_),⟨rfl,rfl,trivial⟩⟩⟩
  ·have hil:i=s.length:=by omega
   subst hil
   rw [List.take_length]at hin
   rw [uK hin]
   ((conv=>whnf);repeat ((first|(intro hq;try simp only [lnS]at hq)|refine sI ?_|refine .intro _ (.intro rfl ?_));(conv=>whnf)))
   refine aD (λh3=> ?_) (λh3=> ?_)
   ·((conv=>whnf);repeat' ((first|(intro hq;(try simp only [lnS]at hq);(try rewrite [List.length_map]))|refine sJ ?_|refine .intro _ (.intro rfl ?_)|refine exL (k:= ?_)|refine dwR ?_|((first|refine aD ?_ ?_|refine aF ?_ ?_)<;>intro hb<;>(first|exact ddX hb|try simp only [lnS]at hb))|(refine aC ?_ ?_<;>intro hb<;>try exact dsX hb))<;>(conv=>whnf)))
    rw [if_pos (by omega)]
    exact aMm
   ·((conv=>whnf);repeat ((first|(intro hq;try simp only [lnS]at hq)|refine sI ?_|refine .intro _ (.intro rfl ?_));(conv=>whnf)))
    rw [if_neg (by omega)]
    refine aD (λh4=> ?_) (λh4=> ?_)
    ·have hl0:0 < s.length:=by omega
     have hrow:(s.map grR)[(0:Int).toNat]? =some (grR s[0]):=aS (i:=0) hl0
     have hhd:s.headD c0=s[0]:=by cases s with|nil=>simp at hl0|cons a r=>rfl
     rw [cJ]at hrow
     ((conv=>whnf);repeat' ((first|(intro hq;(try simp only [lnS]at hq);(try rewrite [List.length_map]))|refine sJ ?_|refine .intro _ (.intro rfl ?_)|refine exL (k:= ?_)|(refine And.intro hsm ?_)|(refine⟨_,hrow, ?_⟩)|refine dwR ?_|((first|refine aD ?_ ?_|refine aF ?_ ?_)<;>intro hb<;>(first|exact ddX hb|try simp only [lnS]at hb))|(refine aC ?_ ?_<;>intro hb<;>try exact dsX hb))<;>(conv=>whnf)))
     rw [if_pos (by omega),hhd]
     exact mE _ _
    ·((conv=>whnf);repeat ((first|(intro hq;try simp only [lnS]at hq)|refine sI ?_|refine .intro _ (.intro rfl ?_));(conv=>whnf)))
     rw [if_neg (by omega)]
     refine aD (λh5=> ?_) (λh5=> ?_)
     ·((conv=>whnf);repeat' ((first|(intro hq;(try simp only [lnS]at hq);(try rewrite [List.length_map]))|refine sJ ?_|refine .intro _ (.intro rfl ?_)|refine exL (k:= ?_)|refine dwR ?_|((first|refine aD ?_ ?_|refine aF ?_ ?_)<;>intro hb<;>(first|exact ddX hb|try simp only [lnS]at hb))|(refine aC ?_ ?_<;>intro hb<;>try exact dsX hb))<;>(conv=>whnf)))
      rw [if_pos (by omega)]
      exact aDm 2
     ·rw [if_neg (by omega)]
      ((conv=>whnf);repeat ((first|(intro hq;try simp only [lnS]at hq)|refine sI ?_|refine .intro _ (.intro rfl ?_));(conv=>whnf)))
      refine aV.mownC 2 190 46 46 5 4 rfl rfl (dV (by with_unfolding_all exact rfl)) ?_
      refine aK hty (λy:Nat×Nat=>([(2, .ptr 2 0),(91, .mw 170 7 s.length),(92, .d (.int .i64 s.length)),(93, .d (.int .i64 y.1))],[(190, .mrow 46 5 y.2 ((s.take y.1).map cnR)),(170, .mrow 152 7 cap' (s.map grR)),(2, .cells 46 [.d (.int .i64 5), .d (.str []), .d (.int .i64 0), .d (.int .i64 0), .mw 190 5 y.1])])) (λy=>y.1<=s.length) (λy=>s.length - y.1) (0,0) (by dsimp only;omega) ⟨by repeat' (first|exact trivial|exact rfl|refine And.intro ?_ ?_),⟨rfl,rfl,rfl,trivial⟩⟩ ?_
      rintro⟨k,cap3⟩ hk
      dsimp only at hk
      ((conv=>whnf);repeat ((first|(intro hq;try simp only [lnS]at hq)|refine sI ?_|refine .intro _ (.intro rfl ?_));(conv=>whnf)))
      refine aD (λh6=> ?_) (λh6=> ?_)
      ·have hkl:k < s.length:=by dsimp only at h6;omega
       have hrow:(s.map grR)[(k:Int).toNat]? =some (grR s[k]):=aS hkl
       have hcx:=aJ s[k]
       rw [cJ]at hrow
       have hrl:((s.take k).map cnR).length=k:=by rw [List.length_map,List.length_take];omega
       have hb63:((s.take k).map cnR).length+1<=9223372036854775807:=by rw [hrl];omega
       have hb48:(((s.take k).map cnR).length+1)* 64<=140737488355328:=by rw [hrl];omega
       ((conv=>whnf);repeat ((first|(refine And.intro hsm ?_)|(refine⟨_,hrow, ?_⟩)|(refine And.intro hrl.symm ?_)|(refine And.intro hb63 ?_)|(refine And.intro hb48 ?_)|(intro hq;try simp only [lnS]at hq)|refine sI ?_|refine .intro _ (.intro rfl ?_));(conv=>whnf)))
       rename_i cap4
       have hrows:(s.take (k+1)).map cnR=(s.take k).map cnR++[[.int .i64 s[k].kind, .str s[k].name, .int .i64 s[k].lo, .int .i64 s[k].hi, .sl 5 (s[k].parts.map cnR)]]:=by
        rw [List.take_succ_eq_append_getElem hkl,List.map_append,List.map_cons,List.map_nil,hcx]
       refine⟨(k+1,cap4),by dsimp only;omega,by dsimp only;omega,⟨by repeat' (first|exact trivial|exact rfl|refine And.intro ?_ ?_), ?_⟩⟩
       dsimp only
       rw [hrows]
       refine⟨rfl,rfl, ?_,trivial⟩
       have hmw:SV.mw 190 5 (k+1)=SV.mw 190 5 (((s.take k).map cnR).length+1):=by rw [hrl]
       rw [hmw]
       rfl
      ·have hkl:k=s.length:=by dsimp only at h6;omega
       subst hkl
       rw [List.take_length]
       ((conv=>whnf);repeat' ((first|(intro hq;(try simp only [lnS]at hq);(try rewrite [List.length_map]))|refine sJ ?_|refine .intro _ (.intro rfl ?_)|refine exL (k:= ?_)|refine dwR ?_|((first|refine aD ?_ ?_|refine aF ?_ ?_)<;>intro hb<;>(first|exact ddX hb|try simp only [lnS]at hb))|(refine aC ?_ ?_<;>intro hb<;>try exact dsX hb))<;>(conv=>whnf)))
       refine⟨(List.length_map ..).symm, ?_⟩
       ((conv=>whnf);repeat ((first|(intro hq;try simp only [lnS]at hq)|refine sI ?_|refine .intro _ (.intro rfl ?_));(conv=>whnf)))
       exact mE (.mk 5 [] 0 0 s) 0
def okC (c:Cn):Prop:= ∀x∈eO c,x.kind=6->x.parts≠[]
theorem aHn {c p:Cn}(h:okC c) (hp:p∈c.parts):okC p:=by
 intro x hx
 refine h x ?_
 rw [eN]
 refine List.mem_cons_of_mem _ ?_
 obtain⟨a,b,e⟩:=List.append_of_mem hp
 rw [e,cW,bC]
 simp [hx]
theorem wL: ∀(c:Cn) (_:aQ c<=1000000) (_:okC c),Tri Tryz.prog 82 [.d (.agg (cnR c))] [] (λr=>r= .tup [.d (.agg (cnR (aL c).1)), .d (.int .i64 (aL c).2)]):=by
 refine Cn.ind ?_
 intro c ih hs hok
 have ih': ∀p∈c.parts,Tri Tryz.prog 82 [.d (.agg (cnR p))] [] (λr=>r= .tup [.d (.agg (cnR (aL p).1)), .d (.int .i64 (aL p).2)]):= λp hp=>
  ih p hp (by have:=cT hp;omega) (aHn hok hp)
 have hm:=(aF5 c.parts (by have:=bY c;omega) ih').pairW
 refine Tri.pairW ?_
 rw [fZ]
 rw [aJ]
 refine aH false [1,4] hty Tryz.func82 rfl (kp [0,1,2,3,4,5,7,8,24,32]) [] _ _ _ (by simp [Tryz.f82]) (by simp) ?_
 ((conv=>whnf);repeat ((first|(intro hq;try simp only [lnS]at hq)|refine sI ?_|refine .intro _ (.intro rfl ?_));(conv=>whnf)))
 refine aD (λh1=> ?_) (λh1=> ?_)
 ·rw [if_pos h1]
  have hne:c.parts≠[]:=hok c (by rw [eN];simp) h1
  have hl0:0 < c.parts.length:=List.length_pos_iff.2 hne
  have hrow:(c.parts.map cnR)[(0:Int).toNat]? =some (cnR c.parts[0]):=aS (i:=0) hl0
  have hi:=ih' c.parts[0] (List.getElem_mem hl0)
  have hsome:pA c.name (c.parts.map aL)=if (aL c.parts[0]).2≠0\/(aL c.parts[0]).1.kind=2 then aL c.parts[0]else (.mk 6 c.name 0 0 [(aL c.parts[0]).1],0):=by
   have:c.parts.map aL=aL c.parts[0]::(c.parts.drop 1).map aL:=by
    rw [<-List.map_cons (f:=aL),<-List.drop_eq_getElem_cons hl0,List.drop_zero]
   rw [this,pA]
  rw [hsome]
  obtain⟨r,hr⟩: ∃r,r=aL c.parts[0]:=⟨_,rfl⟩
  rw [<-hr]at hi |-
  rw [aJ]at hrow hi
  rw [aJ r.1]at hi
  ((conv=>whnf);repeat' ((first|(intro hq;(try simp only [lnS]at hq);(try rewrite [List.length_map]))|refine sJ ?_|refine .intro _ (.intro rfl ?_)|refine exL (k:= ?_)|(refine And.intro (by simpa using hl0) ?_)|(refine⟨_,hrow, ?_⟩)|(refine aG [] hi trivial (λr hs=> ?_);subst hs)|refine dwR ?_|((first|refine aD ?_ ?_|refine aF ?_ ?_)<;>intro hb<;>(first|exact ddX hb|try simp only [lnS]at hb))|(refine aC ?_ ?_<;>intro hb<;>try exact dsX hb))<;>(conv=>whnf)))
  ·rw [if_pos (.inl hb)]
   exact mE _ _
  ·rw [if_pos (.inr hb)]
   exact mE _ _
  ·rename_i hb0
   have hn:¬ (r.2≠0\/r.1.kind=2):=by
    rintro(h|h)
    ·exact h hb0
    ·exact hb h
   rw [if_neg hn]
   have h:=mE (.mk 6 c.name 0 0 [r.1]) 0
   simp only [Cn.kind,Cn.name,Cn.lo,Cn.hi,Cn.parts,List.map_cons,List.map_nil]at h
   rw [aJ r.1]at h
   exact h
 ·rw [if_neg h1]
  ((conv=>whnf);repeat ((first|(intro hq;try simp only [lnS]at hq)|refine sI ?_|refine .intro _ (.intro rfl ?_));(conv=>whnf)))
  refine aD (λh2=> ?_) (λh2=> ?_)
  ·rw [if_pos h2]
   rw [aJ (hY (c.parts.map aL)).1]at hm
   ((conv=>whnf);repeat' ((first|(intro hq;(try simp only [lnS]at hq);(try rewrite [List.length_map]))|refine sJ ?_|refine .intro _ (.intro rfl ?_)|refine exL (k:= ?_)|(refine aG [] hm trivial (λr hs=> ?_);subst hs)|refine dwR ?_|((first|refine aD ?_ ?_|refine aF ?_ ?_)<;>intro hb<;>(first|exact ddX hb|try simp only [lnS]at hb))|(refine aC ?_ ?_<;>intro hb<;>try exact dsX hb))<;>(conv=>whnf)))
   exact mE _ _
  ·rw [if_neg h2]
   ((conv=>whnf);repeat' ((first|(intro hq;(try simp only [lnS]at hq);(try rewrite [List.length_map]))|refine sJ ?_|refine .intro _ (.intro rfl ?_)|refine exL (k:= ?_)|refine dwR ?_|((first|refine aD ?_ ?_|refine aF ?_ ?_)<;>intro hb<;>(first|exact ddX hb|try simp only [lnS]at hb))|(refine aC ?_ ?_<;>intro hb<;>try exact dsX hb))<;>(conv=>whnf)))
   exact mE _ _
end Go.Proofs.YtfhoddcminbffaaGreatDoor
namespace Go.Proofs.YtfhoddcminbffaaGreatDoor
open Go.Proofs
set_option maxRecDepth 10000
attribute [local irreducible] aV aM Tri aI YVC dQ bN
theorem lP: ∀{l:List Cn},cU l=0-> ∀x∈l,bJ x=0
 | [],_,x,hx=>by simp at hx
 |a::l,h,x,hx=>by
  rw [cU]at h
  split at h
  ·rename_i h1;exact absurd h h1
  ·rename_i h1
   rcases List.mem_cons.1 hx with rfl|hx
   ·simpa using h1
   ·exact lP h x hx
mutual
theorem nX: ∀(c:Cn) (d n:Int),(dW c d n).1=true->(dW c d n).2=n+(aQ c:Nat)
 | .mk k s lo hi ps,d,n=>by
  have h:=uB ps d (n+1)
  have e:aQ (.mk k s lo hi ps)=fS ps+1:=bY _
  rw [dW]
  split
  ·simp
  ·intro h1
   rw [h h1,e];omega
theorem uB: ∀(l:List Cn) (d n:Int),(fF l d n).1=true->(fF l d n).2=n+(fS l:Nat)
 | [],d,n=>by rw [fF];intro _;simp [fS,bC]
 |c::r,d,n=>by
  have h1:=nX c (d+1) n
  rw [fF]
  split
  ·rename_i hb
   have h2:=uB r d (dW c (d+1) n).2
   intro h3
   rw [h2 h3,h1 hb,bH];omega
  ·simp
end
theorem cX {c:Cn}(h:bI c=0):aQ c<=64/\okC c/\ ∀x∈eO c,bJ x=0:=by
 unfold bI at h
 split at h
 ·simp at h
 ·rename_i hf
  have hf:(dW c 0 0).1=true:=by simpa using hf
  have h0:=lP h
  refine⟨?_,λx hx hk=> ?_,h0⟩
  ·have h1:=nX c 0 0 hf
   have h2:(dW c 0 0).2<=64:=by
    have e:=aBb c 0 0
    by_cases h3:(8:Int) < 0\/(64:Int) < 0+1
    ·omega
    ·rw [if_neg h3]at e
     rw [e]at hf |-
     exact(mZ c.parts 0 (0+1) (by omega) (by omega)).2.2 hf
   omega
  ·have:=h0 x hx
   unfold bJ at this
   rw [if_neg (by omega),hk]at this
   unfold fW at this
   rw [show eD 6=⟨1,1,1,false⟩from rfl]at this
   split at this
   ·simp at this
   ·rename_i h1
    intro he
    apply h1
    left
    rw [he];simp
def a0:Ax:=⟨0,false,c0,c0,[],[],[],[]⟩
def fV (b:Bool) (c:Cn):Cn×Int:=if b=true then aL c else (c,0)
def wN (u:Use) (x:Ax):Ax×Int:=
 if (fV u.left x.left).2≠0 then (a0,(fV u.left x.left).2)
 else if (fV u.right x.right).2≠0 then (a0,(fV u.right x.right).2)
 else if (x.kind=2\/x.kind=3)/\0 < fX (fV u.left x.left).1 (fV u.right x.right).1 then ({ x with left:=(fV u.right x.right).1,right:=(fV u.left x.left).1 },0)
 else ({ x with left:=(fV u.left x.left).1,right:=(fV u.right x.right).1 },0)
def bO (x:Ax):Ax×Int:=if bK x≠0 then (a0,bK x)else wN (cK x.kind) x
structure PairA (x:Ax) (e:Int) (s:SV):Prop where
 ex: ∃a,s= .tup [.d a, .d (.int .i64 e)]/\(a= .agg (axR x)\/WkD a (.agg (axR x)))
theorem Tri.pairA {P:Program}{f:FuncId}{qs:List SV}{hp:Hp}{x:Ax}{e:Int}(h:Tri P f qs hp (PairA x e)):Tri P f qs hp (λr=>r= .tup [.d (.agg (axR x)), .d (.int .i64 e)]):=by
 refine Tri.resT h ?_
 rintro s ⟨a,rfl,rfl|hw⟩
 ·exact .inl rfl
 ·exact .inr ⟨_,[.d (.agg (axR x)), .d (.int .i64 e)],rfl,⟨hw,by exact rfl,trivial⟩,rfl⟩
theorem wI (e:Int):PairA a0 e (.tup [.d (.agg [.int .i64 0, .bool false, .int .i64 0, .str [], .int .i64 0, .int .i64 0, .nil, .int .i64 0, .str [], .int .i64 0, .int .i64 0, .nil, .nil, .str [], .str [], .str []]), .d (.int .i64 e)]):=by
 refine⟨_,rfl, .inr ?_⟩
 exact⟨rfl,rfl,rfl,rfl,rfl,rfl,rfl,rfl,rfl,rfl,rfl,rfl,rfl,rfl,rfl,rfl,trivial⟩
theorem zC (x:Ax) (e:Int):PairA x e (.tup [.d (.agg (axR x)), .d (.int .i64 e)]):=⟨_,rfl, .inl rfl⟩
theorem rX {x:Ax}(h:bK x=0):(1<=x.kind/\x.kind<=9)/\((cK x.kind).left=true->bI x.left=0)/\((cK x.kind).right=true->bI x.right=0):=by
 unfold bK at h
 split at h
 ·simp at h
 ·rename_i hs
  refine⟨?_, ?_⟩
  ·have hs:bE x=true:=by simpa using hs
   unfold bE at hs
   split at hs
   ·cases hs
   ·omega
  ·unfold oW at h
   split at h
   ·simp at h
   ·split at h
    ·rename_i h1;exact absurd h h1.2
    ·split at h
     ·rename_i h1;exact absurd h h1.2
     ·rename_i h1 h2
      exact⟨λhu=>Decidable.byContradiction λhn=>h1 ⟨hu,hn⟩,λhu=>Decidable.byContradiction λhn=>h2 ⟨hu,hn⟩⟩
theorem sY (x:Ax):Tri Tryz.prog 42 [.d (.agg (axR x))] NG (λr=>r= .tup [.d (.agg (axR (bO x).1)), .d (.int .i64 (bO x).2)]):=by
 refine Tri.pairA ?_
 have hc:=kI x
 refine aH false [1,5] hty Tryz.func42 rfl (kp [0,1,2,3,4,5,9,18,27,31,40,58]) [] _ _ _ (by simp [Tryz.f42]) (by decide) ?_
 unfold bO
 ((conv=>whnf);repeat ((first|(intro hq;try simp only [lnS]at hq)|refine sI ?_|refine .intro _ (.intro rfl ?_));(conv=>whnf)))
 refine aG NG hc ⟨rfl,rfl,trivial⟩ (λr hs=> ?_)
 subst hs
 ((conv=>whnf);repeat ((first|(intro hq;try simp only [lnS]at hq)|refine sI ?_|refine .intro _ (.intro rfl ?_));(conv=>whnf)))
 refine aF (λh1=> ?_) (λh1=> ?_)
 ·rw [if_pos h1]
  ((conv=>whnf);repeat' ((first|(intro hq;(try simp only [lnS]at hq);(try rewrite [List.length_map]))|refine sJ ?_|refine .intro _ (.intro rfl ?_)|refine exL (k:= ?_)|refine dwR ?_|((first|refine aD ?_ ?_|refine aF ?_ ?_)<;>intro hb<;>(first|exact ddX hb|try simp only [lnS]at hb))|(refine aC ?_ ?_<;>intro hb<;>try exact dsX hb))<;>(conv=>whnf)))
  exact wI _
 ·rw [if_neg (by simpa using h1)]
  obtain⟨hk,hl,hr⟩:=rX h1
  have hrow:=aDu (k:=x.kind) hk
  have hcmp:(x.kind=2\/x.kind=3)->(cK x.kind).left=true/\(cK x.kind).right=true:=by
   rintro(h|h)<;>rw [h]<;>exact⟨rfl,rfl⟩
  generalize cK x.kind=u at *
  have tl:u.left=true->_:= λh=>wL x.left (by have:=(cX (hl h)).1;omega) (cX (hl h)).2.1
  have tr:u.right=true->_:= λh=>wL x.right (by have:=(cX (hr h)).1;omega) (cX (hr h)).2.1
  rw [aJ,aJ (aL x.left).1]at tl
  rw [aJ,aJ (aL x.right).1]at tr
  ((conv=>whnf);repeat ((first|(refine cM (id:=91) hty rfl rfl rfl rfl rfl rfl rfl (by omega) (by omega) ?_)|(refine⟨_,hrow, ?_⟩)|(intro hq;try simp only [lnS]at hq)|refine sI ?_|refine .intro _ (.intro rfl ?_));(conv=>whnf)))
  have hU: ∀(L R:Cn) (e f:Int),fV u.left x.left=(L,e)->fV u.right x.right=(R,f)->wN u x=if e≠0 then (a0,e)else if f≠0 then (a0,f)else if (x.kind=2\/x.kind=3)/\0 < fX L R then ({ x with left:=R,right:=L },0)else ({ x with left:=L,right:=R },0):=by
   intro L R e f h1 h2
   unfold wN
   rw [h1,h2]
  cases hul:u.left
  ·have hn:¬ x.kind=2/\¬ x.kind=3:=⟨λh=>by simp [hul]at hcmp;exact hcmp.1 h,λh=>by simp [hul]at hcmp;exact hcmp.2 h⟩
   have e1:fV u.left x.left=(x.left,0):=by rw [hul];rfl
   obtain⟨hn2,hn3⟩:=hn
   ((conv=>whnf);repeat ((first|(intro hq;try simp only [lnS]at hq)|refine sI ?_|refine .intro _ (.intro rfl ?_));(conv=>whnf)))
   cases hur:u.right
   ·have e2:fV u.right x.right=(x.right,0):=by rw [hur];rfl
    rw [hU _ _ _ _ e1 e2,if_neg (by simp),if_neg (by simp),if_neg (by omega)]
    ((conv=>whnf);repeat' ((first|(intro hq;(try simp only [lnS]at hq);(try rewrite [List.length_map]))|refine sJ ?_|refine .intro _ (.intro rfl ?_)|refine exL (k:= ?_)|refine dwR ?_|((first|refine aD ?_ ?_|refine aF ?_ ?_)<;>intro hb<;>(first|exact ddX hb|try simp only [lnS]at hb))|(refine aC ?_ ?_<;>intro hb<;>try exact dsX hb))<;>(conv=>whnf)))
    exact zC _ _
   ·have e2:fV u.right x.right=((aL x.right).1,(aL x.right).2):=by rw [hur];rfl
    rw [hU _ _ _ _ e1 e2,if_neg (by simp)]
    have hi:=tr hur
    generalize (aL x.right).1=R at *
    generalize (aL x.right).2=f at *
    ((conv=>whnf);repeat ((first|(refine aG [] hi trivial (λr hs=> ?_);subst hs)|(intro hq;try simp only [lnS]at hq)|refine sI ?_|refine .intro _ (.intro rfl ?_));(conv=>whnf)))
    refine aF (λh2=> ?_) (λh2=> ?_)
    ·((conv=>whnf);repeat' ((first|(intro hq;(try simp only [lnS]at hq);(try rewrite [List.length_map]))|refine sJ ?_|refine .intro _ (.intro rfl ?_)|refine exL (k:= ?_)|refine dwR ?_|((first|refine aD ?_ ?_|refine aF ?_ ?_)<;>intro hb<;>(first|exact ddX hb|try simp only [lnS]at hb))|(refine aC ?_ ?_<;>intro hb<;>try exact dsX hb))<;>(conv=>whnf)))
     rw [if_pos h2]
     exact wI _
    ·rw [if_neg (by simpa using h2),if_neg (by omega)]
     ((conv=>whnf);repeat' ((first|(intro hq;(try simp only [lnS]at hq);(try rewrite [List.length_map]))|refine sJ ?_|refine .intro _ (.intro rfl ?_)|refine exL (k:= ?_)|refine dwR ?_|((first|refine aD ?_ ?_|refine aF ?_ ?_)<;>intro hb<;>(first|exact ddX hb|try simp only [lnS]at hb))|(refine aC ?_ ?_<;>intro hb<;>try exact dsX hb))<;>(conv=>whnf)))
     exact zC { x with right:=R } 0
  ·have e1:fV u.left x.left=((aL x.left).1,(aL x.left).2):=by rw [hul];rfl
   have hi:=tl hul
   have hs1:aQ (aL x.left).1<=1000000:=by
    have h3:=fE x.left
    have h4:=(cX (hl hul)).1
    omega
   ((conv=>whnf);repeat ((first|(refine aG [] hi trivial (λr hs=> ?_);subst hs)|(intro hq;try simp only [lnS]at hq)|refine sI ?_|refine .intro _ (.intro rfl ?_));(conv=>whnf)))
   generalize (aL x.left).1=L at *
   generalize (aL x.left).2=e at *
   refine aF (λh2=> ?_) (λh2=> ?_)
   ·have hUe:wN u x=(a0,e):=by
     unfold wN
     rw [e1,if_pos h2]
    rw [hUe]
    ((conv=>whnf);repeat' ((first|(intro hq;(try simp only [lnS]at hq);(try rewrite [List.length_map]))|refine sJ ?_|refine .intro _ (.intro rfl ?_)|refine exL (k:= ?_)|refine dwR ?_|((first|refine aD ?_ ?_|refine aF ?_ ?_)<;>intro hb<;>(first|exact ddX hb|try simp only [lnS]at hb))|(refine aC ?_ ?_<;>intro hb<;>try exact dsX hb))<;>(conv=>whnf)))
    exact wI _
   ·((conv=>whnf);repeat ((first|(intro hq;try simp only [lnS]at hq)|refine sI ?_|refine .intro _ (.intro rfl ?_));(conv=>whnf)))
    cases hur:u.right
    ·have hn:¬ x.kind=2/\¬ x.kind=3:=⟨λh=>by simp [hur]at hcmp;exact hcmp.1 h,λh=>by simp [hur]at hcmp;exact hcmp.2 h⟩
     obtain⟨hn2,hn3⟩:=hn
     have e2:fV u.right x.right=(x.right,0):=by rw [hur];rfl
     rw [hU _ _ _ _ e1 e2,if_neg (by simpa using h2),if_neg (by simp),if_neg (by omega)]
     ((conv=>whnf);repeat' ((first|(intro hq;(try simp only [lnS]at hq);(try rewrite [List.length_map]))|refine sJ ?_|refine .intro _ (.intro rfl ?_)|refine exL (k:= ?_)|refine dwR ?_|((first|refine aD ?_ ?_|refine aF ?_ ?_)<;>intro hb<;>(first|exact ddX hb|try simp only [lnS]at hb))|(refine aC ?_ ?_<;>intro hb<;>try exact dsX hb))<;>(conv=>whnf)))
     exact zC { x with left:=L } 0
    ·have e2:fV u.right x.right=((aL x.right).1,(aL x.right).2):=by rw [hur];rfl
     rw [hU _ _ _ _ e1 e2,if_neg (by simpa using h2)]
     have hj:=tr hur
     have hs2:aQ (aL x.right).1<=1000000:=by
      have h3:=fE x.right
      have h4:=(cX (hr hur)).1
      omega
     generalize (aL x.right).1=R at *
     generalize (aL x.right).2=f at *
     ((conv=>whnf);repeat ((first|(refine aG [] hj trivial (λr hs=> ?_);subst hs)|(intro hq;try simp only [lnS]at hq)|refine sI ?_|refine .intro _ (.intro rfl ?_));(conv=>whnf)))
     refine aF (λh3=> ?_) (λh3=> ?_)
     ·((conv=>whnf);repeat' ((first|(intro hq;(try simp only [lnS]at hq);(try rewrite [List.length_map]))|refine sJ ?_|refine .intro _ (.intro rfl ?_)|refine exL (k:= ?_)|refine dwR ?_|((first|refine aD ?_ ?_|refine aF ?_ ?_)<;>intro hb<;>(first|exact ddX hb|try simp only [lnS]at hb))|(refine aC ?_ ?_<;>intro hb<;>try exact dsX hb))<;>(conv=>whnf)))
      rw [if_pos h3]
      exact wI _
     ·rw [if_neg (by simpa using h3)]
      have hcs:=yQ L R hs1 hs2
      rw [aJ,aJ]at hcs
      ((conv=>whnf);repeat' ((first|(intro hq;(try simp only [lnS]at hq);(try rewrite [List.length_map]))|refine sJ ?_|refine .intro _ (.intro rfl ?_)|refine exL (k:= ?_)|(refine aG [] hcs trivial (λr hs=> ?_);subst hs)|refine dwR ?_|((first|refine aD ?_ ?_|refine aF ?_ ?_)<;>intro hb<;>(first|exact ddX hb|try simp only [lnS]at hb))|(refine aC ?_ ?_<;>intro hb<;>try exact dsX hb))<;>(conv=>whnf)))
      all_goals first
       |(rw [if_pos ⟨by omega,by assumption⟩];exact zC { x with left:=R,right:=L } 0)
       |(rw [if_neg (by omega)];exact zC { x with left:=L,right:=R } 0)
end Go.Proofs.YtfhoddcminbffaaGreatDoor
