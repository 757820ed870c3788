/-
  The library's sorts, as they lie in this program. Terms: tidy and meet. Terms: Tidy and TidyAxiom. Valid concepts and axioms can be written and read; plain.
  Conditions: none.
-/
import Derived.Test.YtbobcfjlbcgchaaGreatDoorVSng
import Derived.Test.YtbobcfjlbcgchaaGreatDoorVTy
import Derived.Test.YtbobcfjlbcgchaaGreatDoorVSna
import Derived.Test.YtbobcfjlbcgchaaGreatDoorVLzp
import Derived.Ground.SlsfProg
import Derived.Ground.NamesProg
import Derived.Test.YtbobcfjlbcgchaaGreatDoorVOs
set_option linter.unnecessarySimpa false
set_option linter.unusedSectionVars false
set_option linter.unusedSimpArgs false
set_option linter.unusedVariables false
set_option maxHeartbeats 32000000
namespace Go.Proofs.YtbobcfjlbcgchaaGreatDoor
open Go.Proofs Go.Shelf Go.Sort
set_option maxRecDepth 10000
theorem zD:Tryz.sortTree_ren.t 24=176:=rfl
theorem aJv: ∀w,(isAgg (Tryz.sortTree_ren.t 24)).run Tryz.prog w= .ok true w:=by
 intro w
 rw [zD]
 obtain⟨d,i,z,h⟩:=aM (hty 176 _ rfl)
 exact h.run_isAgg w
theorem aLs: ∀w,(Go.sizeOf (Tryz.sortTree_ren.t 24)).run Tryz.prog w= .ok 7 w:=by
 intro w
 rw [zD]
 obtain⟨d,i,z,h⟩:=aM (hty 176 _ rfl)
 exact h.run_size w
end Go.Proofs.YtbobcfjlbcgchaaGreatDoor
namespace Go.Proofs.YtbobcfjlbcgchaaGreatDoor
open Go.Proofs
set_option maxRecDepth 10000
theorem Tri.resT {P:Program}{f:FuncId}{qs:List SV}{hp:Hp}{post post':SV->Prop}(h:Tri P f qs hp post) (hw: ∀s,post s->post' s\/ ∃ss ss',s= .tup ss/\aUh ss ss'/\post' (.tup ss')):Tri P f qs hp post':=by
 unfold Tri at h |-
 intro w ρ vs a b c
 refine(h w ρ vs a b c).mono ?_
 rintro e w' ⟨v,S',s,rfl,hp,h1,h2,h3,h4,hr⟩
 rcases hw s hp with hp'|⟨ss,ss',rfl,hwk,hp'⟩
 ·exact⟨v,S',_,rfl,hp',h1,h2,h3,h4,hr⟩
 obtain⟨us,e1,hl,hh⟩:=hr.tup_inv
 obtain⟨k1,k2⟩:=aOf _ _ hwk
 refine⟨v,S',_,rfl,hp',h1,h2,h3,h4, ?_⟩
 rw [e1]
 refine .tup _ _ (by omega) λj q u hq hu=> ?_
 obtain⟨q0,r1,r2⟩:=k2 j q hq
 exact aW5 r2 (hh j q0 u r1 hu)
attribute [local irreducible] aJ aF Tri aG YVC bS aQ
theorem aYi:Go.Sort.SWO (ltOf iT):=by
 refine⟨λx=> ?_,λx y z h1 h2=> ?_,λx y z h1 h2=> ?_⟩
 ·simp [ltOf,mW]
 ·simp only [ltOf,decide_eq_true_eq]at *
  exact(mV x y z).1 h1 h2
 ·simp only [ltOf,decide_eq_false_iff_not]at *
  have a1:=dJ x y
  have a2:=dJ y z
  have a3:=dJ x z
  have t1:=(mV x z y).1
  have t2:=mV x z y
  have t3:=mV z y x
  unfold yC at t2 t3
  have b1:=dJ z x
  have b2:=dJ z y
  omega
theorem aJh (a b:Cn):Tri Tryz.prog 176 [.d (.agg (grR a)), .d (.agg (grR b))] [] (λr=>r= .d (.bool (aA2 a b))):=by
 have h:=mS a b
 rw [cW,cW]at h
 rw [cW,cW]
 refine aH false [2,3] hty Tryz.func176 rfl (kp [0,1,2,3,4]) [] _ _ _ (by simp [Tryz.f176]) (by simp) ?_
 ((conv=>whnf);repeat' ((first|(intro hq;(try simp only [lnS]at hq);(try rewrite [List.length_map]))|refine sJ ?_|refine .intro _ (.intro rfl ?_)|refine exL (k:= ?_)|(refine aD [] h trivial (λr hs=> ?_);subst hs)|refine dwR ?_|((first|refine aA ?_ ?_|refine aC ?_ ?_)<;>intro hb<;>(first|exact ddX hb|try simp only [lnS]at hb))|(refine aB ?_ ?_<;>intro hb<;>try exact dsX hb))<;>(conv=>whnf)))
 rfl
structure PairW (c:Cn) (e:Int) (s:SV):Prop where
 ex: ∃a,s= .tup [.d a, .d (.int .i64 e)]/\(a= .agg (cnR c)\/WkD a (.agg (cnR c)))
theorem Tri.pairW {P:Program}{f:FuncId}{qs:List SV}{hp:Hp}{c:Cn}{e:Int}(h:Tri P f qs hp (PairW c e)):Tri P f qs hp (λr=>r= .tup [.d (.agg (cnR c)), .d (.int .i64 e)]):=by
 refine Tri.resT h ?_
 rintro s ⟨a,rfl,rfl|hw⟩
 ·exact .inl rfl
 ·exact .inr ⟨_,[.d (.agg (cnR c)), .d (.int .i64 e)],rfl,⟨hw,by exact rfl,trivial⟩,rfl⟩
theorem aJ0 {c:Cn}(h:c.kind=1):bN c=[]:=if_pos h
theorem aJ1 {c:Cn}(h:c.kind=5):bN c=c.parts:=by rw [bN,if_neg (by omega),if_pos h]
theorem aF4 {c:Cn}(h1:c.kind≠1) (h5:c.kind≠5):bN c=[c]:=by rw [bN,if_neg h1,if_neg h5]
def aE7 (ps:List Cn):List Cn:=(ps.map aL).flatMap λr=>bN r.1
theorem aOc {ps:List Cn}{j:Nat}(h:j < ps.length):aE7 (ps.take (j+1))=aE7 (ps.take j)++bN (aL ps[j]).1:=by
 rw [aE7,List.take_succ_eq_append_getElem h,List.map_append,List.flatMap_append];simp [aE7]
theorem aOd (ps:List Cn) (j:Nat):lR (aE7 (ps.take j))<=lR ps:=by
 have h1:=vJ ((ps.take j).map aL)
 rw [<-pZ]at h1
 have h2:=rY (ps.take j)
 have h3:lR (ps.take j)<=lR ps:=oE ps j
 rw [aE7,<-pZ]
 omega
theorem aBf (l:List Cn):l.length<=lR l:=sM l
theorem aWn {i z a b:Nat}(h:a=b):Wk (.mw i z a) (.mw i z b):=by subst h;exact rfl
theorem aN3 {ps:List Cn}{j:Nat}(h:j < ps.length) (hn:((ps.take j).map aL).find? (λr=>decide (r.2≠0))=none) (he:¬ (aL ps[j]).2=0):jV (ps.map aL)=(c0,(aL ps[j]).2):=by
 have e1:ps.map aL=(ps.take j).map aL++aL ps[j]::(ps.drop (j+1)).map aL:=by
  rw [<-List.map_cons (f:=aL),<-List.drop_eq_getElem_cons h,<-List.map_append,List.take_append_drop]
 have e2:(ps.map aL).find? (λr=>decide (r.2≠0))=some (aL ps[j]):=by
  rw [e1,List.find?_append,hn,List.find?_cons_of_pos (by simpa using he)];rfl
 rw [jV,e2]
theorem aMu {ps:List Cn}{j:Nat}(h:j < ps.length) (hn:((ps.take j).map aL).find? (λr=>decide (r.2≠0))=none) (he:(aL ps[j]).2=0):((ps.take (j+1)).map aL).find? (λr=>decide (r.2≠0))=none:=by
 rw [List.take_succ_eq_append_getElem h,List.map_append,List.find?_append,hn]
 simp [he]
theorem aQg {ps:List Cn}(hn:(ps.map aL).find? (λr=>decide (r.2≠0))=none):jV (ps.map aL)=eG (lH (aE7 ps)):=by
 rw [jV,hn];rfl
theorem aUj (e:Int):PairW c0 e (.tup [.d (.agg [.int .i64 0, .str [], .int .i64 0, .int .i64 0, .nil]), .d (.int .i64 e)]):=by
 refine⟨_,rfl, .inr ?_⟩
 rw [aT]
 exact⟨rfl,rfl,rfl,rfl,rfl,trivial⟩
theorem aYh:PairW aKj 0 (.tup [.d (.agg [.int .i64 1, .str [], .int .i64 0, .int .i64 0, .nil]), .d (.int .i64 0)]):=by
 refine⟨_,rfl, .inr ?_⟩
 rw [aT]
 exact⟨rfl,rfl,rfl,rfl,rfl,trivial⟩
theorem aCd (c:Cn) (e:Int):PairW c e (.tup [.d (.agg [.int .i64 c.kind, .str c.name, .int .i64 c.lo, .int .i64 c.hi, .sl 5 (c.parts.map cnR)]), .d (.int .i64 e)]):=by
 exact⟨_,rfl, .inl (by rw [aT])⟩
theorem aNp {s:List Cn}{i:Nat}(h:i < s.length) (hn:(s.take i).find? (λt=>decide (t.kind=2))=none):(s[i].kind=2->s.find? (λt=>decide (t.kind=2))=some s[i])/\(¬ s[i].kind=2->(s.take (i+1)).find? (λt=>decide (t.kind=2))=none):=by
 have e1:s=s.take i++s[i]::s.drop (i+1):=by rw [<-List.drop_eq_getElem_cons h,List.take_append_drop]
 refine⟨λhk=> ?_,λhk=> ?_⟩
 ·have:(s.take i++s[i]::s.drop (i+1)).find? (λt=>decide (t.kind=2))=some s[i]:=by
   rw [List.find?_append,hn,List.find?_cons_of_pos (by simpa using hk)];rfl
  rwa [<-e1]at this
 ·rw [List.take_succ_eq_append_getElem h,List.find?_append,hn]
  simp [hk]
theorem aK5 {s:List Cn}{t:Cn}(h:s.find? (λt=>decide (t.kind=2))=some t):eG s=(t,0):=by rw [eG,h]
theorem aK7 {s:List Cn}(h:s.find? (λt=>decide (t.kind=2))=none):eG s=if s.length=0 then (aKj,0)else if s.length=1 then (s.headD c0,0)else if 8 < s.length then (c0,2)else (.mk 5 [] 0 0 s,0):=by rw [eG,h]
theorem aN2 (ps:List Cn) (hs:lR ps<=1000000) (ht: ∀p∈ps,Tri Tryz.prog 66 [.d (.agg (cnR p))] [] (λr=>r= .tup [.d (.agg (cnR (aL p).1)), .d (.int .i64 (aL p).2)])):
  Tri Tryz.prog 124 [.d (.sl 5 (ps.map cnR))] [] (PairW (jV (ps.map aL)).1 (jV (ps.map aL)).2):=by
 refine aH false [6,7,10,12,14] hty Tryz.func124 rfl (kp [0,2,3,4,6,7,8,10,12,14,15,16,17,18,27,31,37,39,42,43,44,45,59,60,61,62,68,72,77,85,91,92,93,94]) [] _ _ _ (by simp [Tryz.f124]) (by simp) ?_
 ((conv=>whnf);repeat ((first|(intro hq;try simp only [lnS]at hq)|refine sI ?_|refine .intro _ (.intro rfl ?_));(conv=>whnf)))
 refine aJ.mown 4 70 176 7 rfl (bY (by with_unfolding_all exact rfl)) ?_
 refine aK hty (λy:Nat×Nat=>([(2, .ptr 2 0),(4, .mw 70 7 (aE7 (ps.take y.1)).length),(15, .d (.sl 5 (ps.map cnR))),(16, .d (.int .i64 ps.length)),(17, .d (.int .i64 y.1))],[(70, .mrow 176 7 y.2 ((aE7 (ps.take y.1)).map grR)),(2, .cells 45 [.d (.int .i64 0), .d (.str []), .d (.int .i64 0), .d (.int .i64 0), .d .nil])])) (λy=>y.1<=ps.length/\((ps.take y.1).map aL).find? (λr=>decide (r.2≠0))=none) (λy=>ps.length - y.1) (0,0) ⟨by dsimp only;omega,rfl⟩ ⟨by repeat' (first|exact trivial|exact rfl|(rw [List.length_map];exact rfl)|refine And.intro ?_ ?_),⟨rfl,rfl,trivial⟩⟩ ?_
 rintro⟨j,cap⟩ ⟨hj,hnone⟩
 dsimp only at hj hnone
 ((conv=>whnf);repeat ((first|(intro hq;try simp only [lnS]at hq)|refine sI ?_|refine .intro _ (.intro rfl ?_));(conv=>whnf)))
 refine aA (λh1=> ?_) (λh1=> ?_)
 ·have hjl:j < ps.length:=by dsimp only at h1;omega
  have hrow:(ps.map cnR)[(j:Int).toNat]? =some (cnR ps[j]):=bV hjl
  have hi:=ht ps[j] (List.getElem_mem hjl)
  have herr:=aN3 hjl hnone
  have hnt:=aMu hjl hnone
  have hacc:=aOc hjl
  have hle:=aOd ps (j+1)
  rw [aT]at hrow hi
  have hxs:bB (aL ps[j]).1<=1000000:=by
   have h3:=jO ps[j]
   have h4:=aG7 (List.getElem_mem hjl)
   omega
  generalize (aL ps[j]).1=x at *
  generalize (aL ps[j]).2=e at *
  rw [aT x]at hi
  ((conv=>whnf);repeat ((first|(refine⟨_,hrow, ?_⟩)|(refine aD [] hi trivial (λr hs=> ?_);subst hs)|(intro hq;try simp only [lnS]at hq)|refine sI ?_|refine .intro _ (.intro rfl ?_));(conv=>whnf)))
  refine aC (λh2=> ?_) (λh2=> ?_)
  ·((conv=>whnf);repeat' ((first|(intro hq;(try simp only [lnS]at hq);(try rewrite [List.length_map]))|refine sJ ?_|refine .intro _ (.intro rfl ?_)|refine exL (k:= ?_)|refine dwR ?_|((first|refine aA ?_ ?_|refine aC ?_ ?_)<;>intro hb<;>(first|exact ddX hb|try simp only [lnS]at hb))|(refine aB ?_ ?_<;>intro hb<;>try exact dsX hb))<;>(conv=>whnf)))
   rw [herr h2]
   exact aUj e
  ·have hnt:=hnt h2
   rw [hacc,vK]at hle
   have hlacc:=aBf (aE7 (ps.take j))
   ((conv=>whnf);repeat ((first|(intro hq;try simp only [lnS]at hq)|refine sI ?_|refine .intro _ (.intro rfl ?_));(conv=>whnf)))
   refine aA (λh3=> ?_) (λh3=> ?_)
   ·rw [aJ0 h3,List.append_nil]at hacc
    ((conv=>whnf);repeat' ((first|(intro hq;(try simp only [lnS]at hq);(try rewrite [List.length_map]))|refine sJ ?_|refine .intro _ (.intro rfl ?_)|refine exL (k:= ?_)|refine dwR ?_|((first|refine aA ?_ ?_|refine aC ?_ ?_)<;>intro hb<;>(first|exact ddX hb|try simp only [lnS]at hb))|(refine aB ?_ ?_<;>intro hb<;>try exact dsX hb))<;>(conv=>whnf)))
    exact⟨(j+1,cap),⟨by dsimp only;omega,hnt⟩,by dsimp only;omega,⟨by dsimp only;rw [hacc];exact by repeat' (first|exact trivial|exact rfl|refine And.intro ?_ ?_),by dsimp only;rw [hacc];exact⟨rfl,rfl,trivial⟩⟩⟩
   ·((conv=>whnf);repeat ((first|(intro hq;try simp only [lnS]at hq)|refine sI ?_|refine .intro _ (.intro rfl ?_));(conv=>whnf)))
    refine aA (λh5=> ?_) (λh5=> ?_)
    ·rw [aJ1 h5]at hacc hle
     have hlp:=aBf x.parts
     generalize aE7 (ps.take j)=acc at *
     ((conv=>whnf);repeat ((first|(intro hq;try simp only [lnS]at hq)|refine sI ?_|refine .intro _ (.intro rfl ?_));(conv=>whnf)))
     refine aK hty (λy:Nat×Nat=>([(2, .ptr 2 0),(4, .mw 70 7 (acc.length+y.1)),(15, .d (.sl 5 (ps.map cnR))),(16, .d (.int .i64 ps.length)),(17, .d (.int .i64 j)),(42, .d (.sl 5 (x.parts.map cnR))),(43, .d (.int .i64 x.parts.length)),(44, .d (.int .i64 y.1))],[(70, .mrow 176 7 y.2 ((acc++x.parts.take y.1).map grR)),(2, .cells 45 [.d (.int .i64 0), .d (.str []), .d (.int .i64 0), .d (.int .i64 0), .d .nil])])) (λy=>y.1<=x.parts.length) (λy=>x.parts.length - y.1) (0,cap) (by dsimp only;omega) ⟨by repeat' (first|exact trivial|exact rfl|(rw [List.length_map];exact rfl)|refine And.intro ?_ ?_),⟨by dsimp only;rw [List.take_zero,List.append_nil];rfl,rfl,trivial⟩⟩ ?_
     rintro⟨i,cap2⟩ hi2
     dsimp only at hi2
     ((conv=>whnf);repeat ((first|(intro hq;try simp only [lnS]at hq)|refine sI ?_|refine .intro _ (.intro rfl ?_));(conv=>whnf)))
     refine aA (λh6=> ?_) (λh6=> ?_)
     ·have hil:i < x.parts.length:=by dsimp only at h6;omega
      have hrow2:(x.parts.map cnR)[(i:Int).toNat]? =some (cnR x.parts[i]):=bV hil
      have hps:=sE (List.getElem_mem (l:=x.parts) hil)
      have hgr:=rG x.parts[i] (by omega)
      have hgx:=cW x.parts[i]
      rw [aT]at hrow2 hgr
      rw [cW]at hgr
      have hrl:((acc++x.parts.take i).map grR).length=acc.length+i:=by rw [List.length_map,List.length_append,List.length_take];omega
      have hb63:((acc++x.parts.take i).map grR).length+1<=9223372036854775807:=by rw [hrl];omega
      have hb48:(((acc++x.parts.take i).map grR).length+1)* 96<=140737488355328:=by rw [hrl];omega
      ((conv=>whnf);repeat ((first|(refine⟨_,hrow2, ?_⟩)|(refine aD [] hgr trivial (λr hs=> ?_);subst hs)|(refine And.intro hrl.symm ?_)|(refine And.intro hb63 ?_)|(refine And.intro hb48 ?_)|(intro hq;try simp only [lnS]at hq)|refine sI ?_|refine .intro _ (.intro rfl ?_));(conv=>whnf)))
      rename_i cap'
      have hrows:(acc++x.parts.take (i+1)).map grR=(acc++x.parts.take i).map grR++[grX x.parts[i] (bB x.parts[i]) x.parts[i].parts]:=by
       rw [List.take_succ_eq_append_getElem hil,<-List.append_assoc,List.map_append,List.map_cons,List.map_nil,hgx]
      refine⟨(i+1,cap'),by dsimp only;omega,by dsimp only;omega,⟨?_, ?_⟩⟩
      ·repeat' (first|exact trivial|exact aWn (by show ((acc++x.parts.take i).map grR).length+1=_;rw [hrl];dsimp only;omega)|exact rfl|refine And.intro ?_ ?_)
      ·dsimp only
       rw [hrows]
       exact⟨rfl,rfl,trivial⟩
     ·have hil:i=x.parts.length:=by dsimp only at h6;omega
      subst hil
      rw [List.take_length,<-hacc]
      ((conv=>whnf);repeat' ((first|(intro hq;(try simp only [lnS]at hq);(try rewrite [List.length_map]))|refine sJ ?_|refine .intro _ (.intro rfl ?_)|refine exL (k:= ?_)|refine dwR ?_|((first|refine aA ?_ ?_|refine aC ?_ ?_)<;>intro hb<;>(first|exact ddX hb|try simp only [lnS]at hb))|(refine aB ?_ ?_<;>intro hb<;>try exact dsX hb))<;>(conv=>whnf)))
      refine⟨(j+1,cap2),⟨by dsimp only;omega,hnt⟩,by dsimp only;omega,⟨?_,⟨rfl,rfl,trivial⟩⟩⟩
      repeat' (first|exact trivial|exact aWn (by dsimp only;rw [hacc,List.length_append])|exact rfl|refine And.intro ?_ ?_)
    ·rw [aF4 h3 h5]at hacc hle
     rw [bW]at hle
     have hgr:=rG x hxs
     have hgx:=cW x
     rw [aT,hgx]at hgr
     generalize aE7 (ps.take j)=acc at *
     have hrl:(acc.map grR).length=acc.length:=List.length_map ..
     have hb63:(acc.map grR).length+1<=9223372036854775807:=by rw [hrl];omega
     have hb48:((acc.map grR).length+1)* 96<=140737488355328:=by rw [hrl];omega
     ((conv=>whnf);repeat ((first|(refine aD [] hgr trivial (λr hs=> ?_);subst hs)|(refine And.intro hrl.symm ?_)|(refine And.intro hb63 ?_)|(refine And.intro hb48 ?_)|(intro hq;try simp only [lnS]at hq)|refine sI ?_|refine .intro _ (.intro rfl ?_));(conv=>whnf)))
     rename_i cap'
     refine⟨(j+1,cap'),⟨by dsimp only;omega,hnt⟩,by dsimp only;omega,⟨?_, ?_⟩⟩
     ·repeat' (first|exact trivial|exact aWn (by show (acc.map grR).length+1=_;rw [hrl,hacc,List.length_append];rfl)|exact rfl|refine And.intro ?_ ?_)
     ·dsimp only
      rw [hacc,List.map_append,List.map_cons,List.map_nil,hgx]
      exact⟨rfl,rfl,trivial⟩
 ·have hjl:j=ps.length:=by dsimp only at h1;omega
  subst hjl
  rw [List.take_length]at hnone
  have hacl:=aBf (aE7 ps)
  have hle:=aOd ps ps.length
  rw [List.take_length]at hle
  rw [aQg hnone]
  ((conv=>whnf);repeat ((first|(intro hq;try simp only [lnS]at hq)|refine sI ?_|refine .intro _ (.intro rfl ?_));(conv=>whnf)))
  rw [List.take_length]
  refine aAt Tryz.sortTree (by decide) aJv aLs (enters_of Tryz.func126 (by kernel_rfl) rfl) (aE7 ps) grR iT aYi (λx _ y _=>mS x y) (id:=70) rfl rfl (by omega) (λl' hp' hs'=> ?_)
  ((conv=>whnf);repeat ((first|(intro hq;try simp only [lnS]at hq)|refine sI ?_|refine .intro _ (.intro rfl ?_));(conv=>whnf)))
  have hll:=hp'.length_eq
  refine uA 176 (by kernel_rfl) l' (by omega) (λa _ b _=>aJh a b) cap _ hll.symm [(2, .cells 45 [.d (.int .i64 0), .d (.str []), .d (.int .i64 0), .d (.int .i64 0), .d .nil])] (by simp) (aUg (by with_unfolding_all exact rfl)) (by simp [fG,HObj.ids,SV.idsL,SV.ids];omega) rfl (λo=>⟨rfl,trivial⟩) (λcap'=> ?_)
  have hset:aDq aA2 l'=lH (aE7 ps):=aFq hp' hs'
  rw [hset]
  have hsl:(lH (aE7 ps)).length<=1000000:=by rw [<-hset];have:=aHr aA2 l';omega
  generalize lH (aE7 ps)=s at hsl |-
  ((conv=>whnf);repeat ((first|(intro hq;try simp only [lnS]at hq)|refine sI ?_|refine .intro _ (.intro rfl ?_));(conv=>whnf)))
  have hsm:s.length=(s.map grR).length:=(List.length_map ..).symm
  refine aK hty (λi:Nat=>([(2, .ptr 2 0),(4, .mw 170 7 s.length),(59, .mw 170 7 s.length),(60, .d (.int .i64 s.length)),(61, .d (.int .i64 i))],[(170, .mrow 176 7 cap' (s.map grR)),(2, .cells 45 [.d (.int .i64 0), .d (.str []), .d (.int .i64 0), .d (.int .i64 0), .d .nil])])) (λi=>i<=s.length/\(s.take i).find? (λt=>decide (t.kind=2))=none) (λi=>s.length - i) 0 ⟨by omega,rfl⟩ ⟨by repeat' (first|exact trivial|exact rfl|refine And.intro ?_ ?_),⟨rfl,rfl,trivial⟩⟩ ?_
  rintro i ⟨hi,hin⟩
  ((conv=>whnf);repeat ((first|(intro hq;try simp only [lnS]at hq)|refine sI ?_|refine .intro _ (.intro rfl ?_));(conv=>whnf)))
  refine aA (λh2=> ?_) (λh2=> ?_)
  ·have hil:i < s.length:=by omega
   have hrow:(s.map grR)[(i:Int).toNat]? =some (grR s[i]):=bV hil
   rw [cW]at hrow
   obtain⟨hf1,hf2⟩:=aNp hil hin
   ((conv=>whnf);repeat ((first|(refine And.intro hsm ?_)|(refine⟨_,hrow, ?_⟩)|(intro hq;try simp only [lnS]at hq)|refine sI ?_|refine .intro _ (.intro rfl ?_));(conv=>whnf)))
   refine aA (λh3=> ?_) (λh3=> ?_)
   ·((conv=>whnf);repeat' ((first|(intro hq;(try simp only [lnS]at hq);(try rewrite [List.length_map]))|refine sJ ?_|refine .intro _ (.intro rfl ?_)|refine exL (k:= ?_)|refine dwR ?_|((first|refine aA ?_ ?_|refine aC ?_ ?_)<;>intro hb<;>(first|exact ddX hb|try simp only [lnS]at hb))|(refine aB ?_ ?_<;>intro hb<;>try exact dsX hb))<;>(conv=>whnf)))
    rw [aK5 (hf1 h3)]
    exact aCd _ _
   ·((conv=>whnf);repeat' ((first|(intro hq;(try simp only [lnS]at hq);(try rewrite [List.length_map]))|refine sJ ?_|refine .intro _ (.intro rfl ?_)|refine exL (k:= ?_)|refine dwR ?_|((first|refine aA ?_ ?_|refine aC ?_ ?_)<;>intro hb<;>(first|exact ddX hb|try simp only [lnS]at hb))|(refine aB ?_ ?_<;>intro hb<;>try exact dsX hb))<;>(conv=>whnf)))
    exact⟨i+1,⟨by omega,hf2 h3⟩,by dsimp only;omega,⟨by repeat' (first|exact trivial|exact rfl|refine And.intro ?_ ?_),⟨rfl,rfl,trivial⟩⟩⟩
  ·have hil:i=s.length:=by omega
   subst hil
   rw [List.take_length]at hin
   rw [aK7 hin]
   ((conv=>whnf);repeat ((first|(intro hq;try simp only [lnS]at hq)|refine sI ?_|refine .intro _ (.intro rfl ?_));(conv=>whnf)))
   refine aA (λh3=> ?_) (λh3=> ?_)
   ·((conv=>whnf);repeat' ((first|(intro hq;(try simp only [lnS]at hq);(try rewrite [List.length_map]))|refine sJ ?_|refine .intro _ (.intro rfl ?_)|refine exL (k:= ?_)|refine dwR ?_|((first|refine aA ?_ ?_|refine aC ?_ ?_)<;>intro hb<;>(first|exact ddX hb|try simp only [lnS]at hb))|(refine aB ?_ ?_<;>intro hb<;>try exact dsX hb))<;>(conv=>whnf)))
    rw [if_pos (by omega)]
    exact aYh
   ·((conv=>whnf);repeat ((first|(intro hq;try simp only [lnS]at hq)|refine sI ?_|refine .intro _ (.intro rfl ?_));(conv=>whnf)))
    rw [if_neg (by omega)]
    refine aA (λh4=> ?_) (λh4=> ?_)
    ·have hl0:0 < s.length:=by omega
     have hrow:(s.map grR)[(0:Int).toNat]? =some (grR s[0]):=bV (i:=0) hl0
     have hhd:s.headD c0=s[0]:=by cases s with|nil=>simp at hl0|cons a r=>rfl
     rw [cW]at hrow
     ((conv=>whnf);repeat' ((first|(intro hq;(try simp only [lnS]at hq);(try rewrite [List.length_map]))|refine sJ ?_|refine .intro _ (.intro rfl ?_)|refine exL (k:= ?_)|(refine And.intro hsm ?_)|(refine⟨_,hrow, ?_⟩)|refine dwR ?_|((first|refine aA ?_ ?_|refine aC ?_ ?_)<;>intro hb<;>(first|exact ddX hb|try simp only [lnS]at hb))|(refine aB ?_ ?_<;>intro hb<;>try exact dsX hb))<;>(conv=>whnf)))
     rw [if_pos (by omega),hhd]
     exact aCd _ _
    ·((conv=>whnf);repeat ((first|(intro hq;try simp only [lnS]at hq)|refine sI ?_|refine .intro _ (.intro rfl ?_));(conv=>whnf)))
     rw [if_neg (by omega)]
     refine aA (λh5=> ?_) (λh5=> ?_)
     ·((conv=>whnf);repeat' ((first|(intro hq;(try simp only [lnS]at hq);(try rewrite [List.length_map]))|refine sJ ?_|refine .intro _ (.intro rfl ?_)|refine exL (k:= ?_)|refine dwR ?_|((first|refine aA ?_ ?_|refine aC ?_ ?_)<;>intro hb<;>(first|exact ddX hb|try simp only [lnS]at hb))|(refine aB ?_ ?_<;>intro hb<;>try exact dsX hb))<;>(conv=>whnf)))
      rw [if_pos (by omega)]
      exact aUj 2
     ·rw [if_neg (by omega)]
      ((conv=>whnf);repeat ((first|(intro hq;try simp only [lnS]at hq)|refine sI ?_|refine .intro _ (.intro rfl ?_));(conv=>whnf)))
      refine aJ.mownC 2 190 45 45 5 4 rfl rfl (bY (by with_unfolding_all exact rfl)) ?_
      refine aK hty (λy:Nat×Nat=>([(2, .ptr 2 0),(91, .mw 170 7 s.length),(92, .d (.int .i64 s.length)),(93, .d (.int .i64 y.1))],[(190, .mrow 45 5 y.2 ((s.take y.1).map cnR)),(170, .mrow 176 7 cap' (s.map grR)),(2, .cells 45 [.d (.int .i64 5), .d (.str []), .d (.int .i64 0), .d (.int .i64 0), .mw 190 5 y.1])])) (λy=>y.1<=s.length) (λy=>s.length - y.1) (0,0) (by dsimp only;omega) ⟨by repeat' (first|exact trivial|exact rfl|refine And.intro ?_ ?_),⟨rfl,rfl,rfl,trivial⟩⟩ ?_
      rintro⟨k,cap3⟩ hk
      dsimp only at hk
      ((conv=>whnf);repeat ((first|(intro hq;try simp only [lnS]at hq)|refine sI ?_|refine .intro _ (.intro rfl ?_));(conv=>whnf)))
      refine aA (λh6=> ?_) (λh6=> ?_)
      ·have hkl:k < s.length:=by dsimp only at h6;omega
       have hrow:(s.map grR)[(k:Int).toNat]? =some (grR s[k]):=bV hkl
       have hcx:=aT s[k]
       rw [cW]at hrow
       have hrl:((s.take k).map cnR).length=k:=by rw [List.length_map,List.length_take];omega
       have hb63:((s.take k).map cnR).length+1<=9223372036854775807:=by rw [hrl];omega
       have hb48:(((s.take k).map cnR).length+1)* 64<=140737488355328:=by rw [hrl];omega
       ((conv=>whnf);repeat ((first|(refine And.intro hsm ?_)|(refine⟨_,hrow, ?_⟩)|(refine And.intro hrl.symm ?_)|(refine And.intro hb63 ?_)|(refine And.intro hb48 ?_)|(intro hq;try simp only [lnS]at hq)|refine sI ?_|refine .intro _ (.intro rfl ?_));(conv=>whnf)))
       rename_i cap4
       have hrows:(s.take (k+1)).map cnR=(s.take k).map cnR++[[.int .i64 s[k].kind, .str s[k].name, .int .i64 s[k].lo, .int .i64 s[k].hi, .sl 5 (s[k].parts.map cnR)]]:=by
        rw [List.take_succ_eq_append_getElem hkl,List.map_append,List.map_cons,List.map_nil,hcx]
       refine⟨(k+1,cap4),by dsimp only;omega,by dsimp only;omega,⟨by repeat' (first|exact trivial|exact rfl|refine And.intro ?_ ?_), ?_⟩⟩
       dsimp only
       rw [hrows]
       refine⟨rfl,rfl, ?_,trivial⟩
       have hmw:SV.mw 190 5 (k+1)=SV.mw 190 5 (((s.take k).map cnR).length+1):=by rw [hrl]
       rw [hmw]
       rfl
      ·have hkl:k=s.length:=by dsimp only at h6;omega
       subst hkl
       rw [List.take_length]
       ((conv=>whnf);repeat' ((first|(intro hq;(try simp only [lnS]at hq);(try rewrite [List.length_map]))|refine sJ ?_|refine .intro _ (.intro rfl ?_)|refine exL (k:= ?_)|refine dwR ?_|((first|refine aA ?_ ?_|refine aC ?_ ?_)<;>intro hb<;>(first|exact ddX hb|try simp only [lnS]at hb))|(refine aB ?_ ?_<;>intro hb<;>try exact dsX hb))<;>(conv=>whnf)))
       refine⟨(List.length_map ..).symm, ?_⟩
       ((conv=>whnf);repeat ((first|(intro hq;try simp only [lnS]at hq)|refine sI ?_|refine .intro _ (.intro rfl ?_));(conv=>whnf)))
       exact aCd (.mk 5 [] 0 0 s) 0
def okC (c:Cn):Prop:= ∀x∈gG c,x.kind=6->x.parts≠[]
theorem aQ4 {c p:Cn}(h:okC c) (hp:p∈c.parts):okC p:=by
 intro x hx
 refine h x ?_
 rw [eP]
 refine List.mem_cons_of_mem _ ?_
 obtain⟨a,b,e⟩:=List.append_of_mem hp
 rw [e,dN,bM]
 simp [hx]
theorem aC7: ∀(c:Cn) (_:bB c<=1000000) (_:okC c),Tri Tryz.prog 66 [.d (.agg (cnR c))] [] (λr=>r= .tup [.d (.agg (cnR (aL c).1)), .d (.int .i64 (aL c).2)]):=by
 refine Cn.ind ?_
 intro c ih hs hok
 have ih': ∀p∈c.parts,Tri Tryz.prog 66 [.d (.agg (cnR p))] [] (λr=>r= .tup [.d (.agg (cnR (aL p).1)), .d (.int .i64 (aL p).2)]):= λp hp=>
  ih p hp (by have:=sE hp;omega) (aQ4 hok hp)
 have hm:=(aN2 c.parts (by have:=eJ c;omega) ih').pairW
 refine Tri.pairW ?_
 rw [gT]
 rw [aT]
 refine aH false [1,4] hty Tryz.func66 rfl (kp [0,1,2,3,4,5,7,8,24,32]) [] _ _ _ (by simp [Tryz.f66]) (by simp) ?_
 ((conv=>whnf);repeat ((first|(intro hq;try simp only [lnS]at hq)|refine sI ?_|refine .intro _ (.intro rfl ?_));(conv=>whnf)))
 refine aA (λh1=> ?_) (λh1=> ?_)
 ·rw [if_pos h1]
  have hne:c.parts≠[]:=hok c (by rw [eP];simp) h1
  have hl0:0 < c.parts.length:=List.length_pos_iff.2 hne
  have hrow:(c.parts.map cnR)[(0:Int).toNat]? =some (cnR c.parts[0]):=bV (i:=0) hl0
  have hi:=ih' c.parts[0] (List.getElem_mem hl0)
  have hsome:vN c.name (c.parts.map aL)=if (aL c.parts[0]).2≠0\/(aL c.parts[0]).1.kind=2 then aL c.parts[0]else (.mk 6 c.name 0 0 [(aL c.parts[0]).1],0):=by
   have:c.parts.map aL=aL c.parts[0]::(c.parts.drop 1).map aL:=by
    rw [<-List.map_cons (f:=aL),<-List.drop_eq_getElem_cons hl0,List.drop_zero]
   rw [this,vN]
  rw [hsome]
  obtain⟨r,hr⟩: ∃r,r=aL c.parts[0]:=⟨_,rfl⟩
  rw [<-hr]at hi |-
  rw [aT]at hrow hi
  rw [aT r.1]at hi
  ((conv=>whnf);repeat' ((first|(intro hq;(try simp only [lnS]at hq);(try rewrite [List.length_map]))|refine sJ ?_|refine .intro _ (.intro rfl ?_)|refine exL (k:= ?_)|(refine And.intro (by simpa using hl0) ?_)|(refine⟨_,hrow, ?_⟩)|(refine aD [] hi trivial (λr hs=> ?_);subst hs)|refine dwR ?_|((first|refine aA ?_ ?_|refine aC ?_ ?_)<;>intro hb<;>(first|exact ddX hb|try simp only [lnS]at hb))|(refine aB ?_ ?_<;>intro hb<;>try exact dsX hb))<;>(conv=>whnf)))
  ·rw [if_pos (.inl hb)]
   exact aCd _ _
  ·rw [if_pos (.inr hb)]
   exact aCd _ _
  ·rename_i hb0
   have hn:¬ (r.2≠0\/r.1.kind=2):=by
    rintro(h|h)
    ·exact h hb0
    ·exact hb h
   rw [if_neg hn]
   have h:=aCd (.mk 6 c.name 0 0 [r.1]) 0
   simp only [Cn.kind,Cn.name,Cn.lo,Cn.hi,Cn.parts,List.map_cons,List.map_nil]at h
   rw [aT r.1]at h
   exact h
 ·rw [if_neg h1]
  ((conv=>whnf);repeat ((first|(intro hq;try simp only [lnS]at hq)|refine sI ?_|refine .intro _ (.intro rfl ?_));(conv=>whnf)))
  refine aA (λh2=> ?_) (λh2=> ?_)
  ·rw [if_pos h2]
   rw [aT (jV (c.parts.map aL)).1]at hm
   ((conv=>whnf);repeat' ((first|(intro hq;(try simp only [lnS]at hq);(try rewrite [List.length_map]))|refine sJ ?_|refine .intro _ (.intro rfl ?_)|refine exL (k:= ?_)|(refine aD [] hm trivial (λr hs=> ?_);subst hs)|refine dwR ?_|((first|refine aA ?_ ?_|refine aC ?_ ?_)<;>intro hb<;>(first|exact ddX hb|try simp only [lnS]at hb))|(refine aB ?_ ?_<;>intro hb<;>try exact dsX hb))<;>(conv=>whnf)))
   exact aCd _ _
  ·rw [if_neg h2]
   ((conv=>whnf);repeat' ((first|(intro hq;(try simp only [lnS]at hq);(try rewrite [List.length_map]))|refine sJ ?_|refine .intro _ (.intro rfl ?_)|refine exL (k:= ?_)|refine dwR ?_|((first|refine aA ?_ ?_|refine aC ?_ ?_)<;>intro hb<;>(first|exact ddX hb|try simp only [lnS]at hb))|(refine aB ?_ ?_<;>intro hb<;>try exact dsX hb))<;>(conv=>whnf)))
   exact aCd _ _
end Go.Proofs.YtbobcfjlbcgchaaGreatDoor
namespace Go.Proofs.YtbobcfjlbcgchaaGreatDoor
open Go.Proofs
set_option maxRecDepth 10000
attribute [local irreducible] aJ aF Tri aG YVC bS aQ
theorem pO: ∀{l:List Cn},jZ l=0-> ∀x∈l,bR x=0
 | [],_,x,hx=>by simp at hx
 |a::l,h,x,hx=>by
  rw [jZ]at h
  split at h
  ·rename_i h1;exact absurd h h1
  ·rename_i h1
   rcases List.mem_cons.1 hx with rfl|hx
   ·simpa using h1
   ·exact pO h x hx
mutual
theorem sP: ∀(c:Cn) (d n:Int),(gN c d n).1=true->(gN c d n).2=n+(bB c:Nat)
 | .mk k s lo hi ps,d,n=>by
  have h:=aA1 ps d (n+1)
  have e:bB (.mk k s lo hi ps)=lR ps+1:=eJ _
  rw [gN]
  split
  ·simp
  ·intro h1
   rw [h h1,e];omega
theorem aA1: ∀(l:List Cn) (d n:Int),(jY l d n).1=true->(jY l d n).2=n+(lR l:Nat)
 | [],d,n=>by rw [jY];intro _;simp [lR,bM]
 |c::r,d,n=>by
  have h1:=sP c (d+1) n
  rw [jY]
  split
  ·rename_i hb
   have h2:=aA1 r d (gN c (d+1) n).2
   intro h3
   rw [h2 h3,h1 hb,bW];omega
  ·simp
end
theorem dQ {c:Cn}(h:bK c=0):bB c<=64/\okC c/\ ∀x∈gG c,bR x=0:=by
 unfold bK at h
 split at h
 ·simp at h
 ·rename_i hf
  have hf:(gN c 0 0).1=true:=by simpa using hf
  have h0:=pO h
  refine⟨?_,λx hx hk=> ?_,h0⟩
  ·have h1:=sP c 0 0 hf
   have h2:(gN c 0 0).2<=64:=by
    have e:=aHh c 0 0
    by_cases h3:(8:Int) < 0\/(64:Int) < 0+1
    ·omega
    ·rw [if_neg h3]at e
     rw [e]at hf |-
     exact(rJ c.parts 0 (0+1) (by omega) (by omega)).2.2 hf
   omega
  ·have:=h0 x hx
   unfold bR at this
   rw [if_neg (by omega),hk]at this
   unfold gO at this
   rw [show gP 6=⟨1,1,1,false⟩from rfl]at this
   split at this
   ·simp at this
   ·rename_i h1
    intro he
    apply h1
    left
    rw [he];simp
def a0:Ax:=⟨0,false,c0,c0,[],[],[],[]⟩
def bG (b:Bool) (c:Cn):Cn×Int:=if b=true then aL c else (c,0)
def oH (u:Use) (x:Ax):Ax×Int:=
 if (bG u.left x.left).2≠0 then (a0,(bG u.left x.left).2)
 else if (bG u.right x.right).2≠0 then (a0,(bG u.right x.right).2)
 else if (x.kind=2\/x.kind=3)/\0 < iT (bG u.left x.left).1 (bG u.right x.right).1 then ({ x with left:=(bG u.right x.right).1,right:=(bG u.left x.left).1 },0)
 else ({ x with left:=(bG u.left x.left).1,right:=(bG u.right x.right).1 },0)
def cJ (x:Ax):Ax×Int:=if bL x≠0 then (a0,bL x)else oH (dB x.kind) x
structure PairA (x:Ax) (e:Int) (s:SV):Prop where
 ex: ∃a,s= .tup [.d a, .d (.int .i64 e)]/\(a= .agg (axR x)\/WkD a (.agg (axR x)))
theorem Tri.pairA {P:Program}{f:FuncId}{qs:List SV}{hp:Hp}{x:Ax}{e:Int}(h:Tri P f qs hp (PairA x e)):Tri P f qs hp (λr=>r= .tup [.d (.agg (axR x)), .d (.int .i64 e)]):=by
 refine Tri.resT h ?_
 rintro s ⟨a,rfl,rfl|hw⟩
 ·exact .inl rfl
 ·exact .inr ⟨_,[.d (.agg (axR x)), .d (.int .i64 e)],rfl,⟨hw,by exact rfl,trivial⟩,rfl⟩
theorem aOn (e:Int):PairA a0 e (.tup [.d (.agg [.int .i64 0, .bool false, .int .i64 0, .str [], .int .i64 0, .int .i64 0, .nil, .int .i64 0, .str [], .int .i64 0, .int .i64 0, .nil, .nil, .str [], .str [], .str []]), .d (.int .i64 e)]):=by
 refine⟨_,rfl, .inr ?_⟩
 exact⟨rfl,rfl,rfl,rfl,rfl,rfl,rfl,rfl,rfl,rfl,rfl,rfl,rfl,rfl,rfl,rfl,trivial⟩
theorem aM3 (x:Ax) (e:Int):PairA x e (.tup [.d (.agg (axR x)), .d (.int .i64 e)]):=⟨_,rfl, .inl rfl⟩
theorem xW {x:Ax}(h:bL x=0):(1<=x.kind/\x.kind<=9)/\((dB x.kind).left=true->bK x.left=0)/\((dB x.kind).right=true->bK x.right=0):=by
 unfold bL at h
 split at h
 ·simp at h
 ·rename_i hs
  refine⟨?_, ?_⟩
  ·have hs:bC x=true:=by simpa using hs
   unfold bC at hs
   split at hs
   ·cases hs
   ·omega
  ·unfold xV at h
   split at h
   ·simp at h
   ·split at h
    ·rename_i h1;exact absurd h h1.2
    ·split at h
     ·rename_i h1;exact absurd h h1.2
     ·rename_i h1 h2
      exact⟨λhu=>Decidable.byContradiction λhn=>h1 ⟨hu,hn⟩,λhu=>Decidable.byContradiction λhn=>h2 ⟨hu,hn⟩⟩
theorem oG (x:Ax):Tri Tryz.prog 32 [.d (.agg (axR x))] NG (λr=>r= .tup [.d (.agg (axR (cJ x).1)), .d (.int .i64 (cJ x).2)]):=by
 refine Tri.pairA ?_
 have hc:=iO x
 refine aH false [1,5] hty Tryz.func32 rfl (kp [0,1,2,3,4,5,9,18,27,31,40,58]) [] _ _ _ (by simp [Tryz.f32]) (by decide) ?_
 unfold cJ
 ((conv=>whnf);repeat ((first|(intro hq;try simp only [lnS]at hq)|refine sI ?_|refine .intro _ (.intro rfl ?_));(conv=>whnf)))
 refine aD NG hc ⟨rfl,rfl,trivial⟩ (λr hs=> ?_)
 subst hs
 ((conv=>whnf);repeat ((first|(intro hq;try simp only [lnS]at hq)|refine sI ?_|refine .intro _ (.intro rfl ?_));(conv=>whnf)))
 refine aC (λh1=> ?_) (λh1=> ?_)
 ·rw [if_pos h1]
  ((conv=>whnf);repeat' ((first|(intro hq;(try simp only [lnS]at hq);(try rewrite [List.length_map]))|refine sJ ?_|refine .intro _ (.intro rfl ?_)|refine exL (k:= ?_)|refine dwR ?_|((first|refine aA ?_ ?_|refine aC ?_ ?_)<;>intro hb<;>(first|exact ddX hb|try simp only [lnS]at hb))|(refine aB ?_ ?_<;>intro hb<;>try exact dsX hb))<;>(conv=>whnf)))
  exact aOn _
 ·rw [if_neg (by simpa using h1)]
  obtain⟨hk,hl,hr⟩:=xW h1
  have hrow:=aL8 (k:=x.kind) hk
  have hcmp:(x.kind=2\/x.kind=3)->(dB x.kind).left=true/\(dB x.kind).right=true:=by
   rintro(h|h)<;>rw [h]<;>exact⟨rfl,rfl⟩
  generalize dB x.kind=u at *
  have tl:u.left=true->_:= λh=>aC7 x.left (by have:=(dQ (hl h)).1;omega) (dQ (hl h)).2.1
  have tr:u.right=true->_:= λh=>aC7 x.right (by have:=(dQ (hr h)).1;omega) (dQ (hr h)).2.1
  rw [aT,aT (aL x.left).1]at tl
  rw [aT,aT (aL x.right).1]at tr
  ((conv=>whnf);repeat ((first|(refine cR (id:=91) hty rfl rfl rfl rfl rfl rfl rfl (by omega) (by omega) ?_)|(refine⟨_,hrow, ?_⟩)|(intro hq;try simp only [lnS]at hq)|refine sI ?_|refine .intro _ (.intro rfl ?_));(conv=>whnf)))
  have hU: ∀(L R:Cn) (e f:Int),bG u.left x.left=(L,e)->bG u.right x.right=(R,f)->oH u x=if e≠0 then (a0,e)else if f≠0 then (a0,f)else if (x.kind=2\/x.kind=3)/\0 < iT L R then ({ x with left:=R,right:=L },0)else ({ x with left:=L,right:=R },0):=by
   intro L R e f h1 h2
   unfold oH
   rw [h1,h2]
  cases hul:u.left
  ·have hn:¬ x.kind=2/\¬ x.kind=3:=⟨λh=>by simp [hul]at hcmp;exact hcmp.1 h,λh=>by simp [hul]at hcmp;exact hcmp.2 h⟩
   have e1:bG u.left x.left=(x.left,0):=by rw [hul];rfl
   obtain⟨hn2,hn3⟩:=hn
   ((conv=>whnf);repeat ((first|(intro hq;try simp only [lnS]at hq)|refine sI ?_|refine .intro _ (.intro rfl ?_));(conv=>whnf)))
   cases hur:u.right
   ·have e2:bG u.right x.right=(x.right,0):=by rw [hur];rfl
    rw [hU _ _ _ _ e1 e2,if_neg (by simp),if_neg (by simp),if_neg (by omega)]
    ((conv=>whnf);repeat' ((first|(intro hq;(try simp only [lnS]at hq);(try rewrite [List.length_map]))|refine sJ ?_|refine .intro _ (.intro rfl ?_)|refine exL (k:= ?_)|refine dwR ?_|((first|refine aA ?_ ?_|refine aC ?_ ?_)<;>intro hb<;>(first|exact ddX hb|try simp only [lnS]at hb))|(refine aB ?_ ?_<;>intro hb<;>try exact dsX hb))<;>(conv=>whnf)))
    exact aM3 _ _
   ·have e2:bG u.right x.right=((aL x.right).1,(aL x.right).2):=by rw [hur];rfl
    rw [hU _ _ _ _ e1 e2,if_neg (by simp)]
    have hi:=tr hur
    generalize (aL x.right).1=R at *
    generalize (aL x.right).2=f at *
    ((conv=>whnf);repeat ((first|(refine aD [] hi trivial (λr hs=> ?_);subst hs)|(intro hq;try simp only [lnS]at hq)|refine sI ?_|refine .intro _ (.intro rfl ?_));(conv=>whnf)))
    refine aC (λh2=> ?_) (λh2=> ?_)
    ·((conv=>whnf);repeat' ((first|(intro hq;(try simp only [lnS]at hq);(try rewrite [List.length_map]))|refine sJ ?_|refine .intro _ (.intro rfl ?_)|refine exL (k:= ?_)|refine dwR ?_|((first|refine aA ?_ ?_|refine aC ?_ ?_)<;>intro hb<;>(first|exact ddX hb|try simp only [lnS]at hb))|(refine aB ?_ ?_<;>intro hb<;>try exact dsX hb))<;>(conv=>whnf)))
     rw [if_pos h2]
     exact aOn _
    ·rw [if_neg (by simpa using h2),if_neg (by omega)]
     ((conv=>whnf);repeat' ((first|(intro hq;(try simp only [lnS]at hq);(try rewrite [List.length_map]))|refine sJ ?_|refine .intro _ (.intro rfl ?_)|refine exL (k:= ?_)|refine dwR ?_|((first|refine aA ?_ ?_|refine aC ?_ ?_)<;>intro hb<;>(first|exact ddX hb|try simp only [lnS]at hb))|(refine aB ?_ ?_<;>intro hb<;>try exact dsX hb))<;>(conv=>whnf)))
     exact aM3 { x with right:=R } 0
  ·have e1:bG u.left x.left=((aL x.left).1,(aL x.left).2):=by rw [hul];rfl
   have hi:=tl hul
   have hs1:bB (aL x.left).1<=1000000:=by
    have h3:=jO x.left
    have h4:=(dQ (hl hul)).1
    omega
   ((conv=>whnf);repeat ((first|(refine aD [] hi trivial (λr hs=> ?_);subst hs)|(intro hq;try simp only [lnS]at hq)|refine sI ?_|refine .intro _ (.intro rfl ?_));(conv=>whnf)))
   generalize (aL x.left).1=L at *
   generalize (aL x.left).2=e at *
   refine aC (λh2=> ?_) (λh2=> ?_)
   ·have hUe:oH u x=(a0,e):=by
     unfold oH
     rw [e1,if_pos h2]
    rw [hUe]
    ((conv=>whnf);repeat' ((first|(intro hq;(try simp only [lnS]at hq);(try rewrite [List.length_map]))|refine sJ ?_|refine .intro _ (.intro rfl ?_)|refine exL (k:= ?_)|refine dwR ?_|((first|refine aA ?_ ?_|refine aC ?_ ?_)<;>intro hb<;>(first|exact ddX hb|try simp only [lnS]at hb))|(refine aB ?_ ?_<;>intro hb<;>try exact dsX hb))<;>(conv=>whnf)))
    exact aOn _
   ·((conv=>whnf);repeat ((first|(intro hq;try simp only [lnS]at hq)|refine sI ?_|refine .intro _ (.intro rfl ?_));(conv=>whnf)))
    cases hur:u.right
    ·have hn:¬ x.kind=2/\¬ x.kind=3:=⟨λh=>by simp [hur]at hcmp;exact hcmp.1 h,λh=>by simp [hur]at hcmp;exact hcmp.2 h⟩
     obtain⟨hn2,hn3⟩:=hn
     have e2:bG u.right x.right=(x.right,0):=by rw [hur];rfl
     rw [hU _ _ _ _ e1 e2,if_neg (by simpa using h2),if_neg (by simp),if_neg (by omega)]
     ((conv=>whnf);repeat' ((first|(intro hq;(try simp only [lnS]at hq);(try rewrite [List.length_map]))|refine sJ ?_|refine .intro _ (.intro rfl ?_)|refine exL (k:= ?_)|refine dwR ?_|((first|refine aA ?_ ?_|refine aC ?_ ?_)<;>intro hb<;>(first|exact ddX hb|try simp only [lnS]at hb))|(refine aB ?_ ?_<;>intro hb<;>try exact dsX hb))<;>(conv=>whnf)))
     exact aM3 { x with left:=L } 0
    ·have e2:bG u.right x.right=((aL x.right).1,(aL x.right).2):=by rw [hur];rfl
     rw [hU _ _ _ _ e1 e2,if_neg (by simpa using h2)]
     have hj:=tr hur
     have hs2:bB (aL x.right).1<=1000000:=by
      have h3:=jO x.right
      have h4:=(dQ (hr hur)).1
      omega
     generalize (aL x.right).1=R at *
     generalize (aL x.right).2=f at *
     ((conv=>whnf);repeat ((first|(refine aD [] hj trivial (λr hs=> ?_);subst hs)|(intro hq;try simp only [lnS]at hq)|refine sI ?_|refine .intro _ (.intro rfl ?_));(conv=>whnf)))
     refine aC (λh3=> ?_) (λh3=> ?_)
     ·((conv=>whnf);repeat' ((first|(intro hq;(try simp only [lnS]at hq);(try rewrite [List.length_map]))|refine sJ ?_|refine .intro _ (.intro rfl ?_)|refine exL (k:= ?_)|refine dwR ?_|((first|refine aA ?_ ?_|refine aC ?_ ?_)<;>intro hb<;>(first|exact ddX hb|try simp only [lnS]at hb))|(refine aB ?_ ?_<;>intro hb<;>try exact dsX hb))<;>(conv=>whnf)))
      rw [if_pos h3]
      exact aOn _
     ·rw [if_neg (by simpa using h3)]
      have hcs:=nB L R hs1 hs2
      rw [aT,aT]at hcs
      ((conv=>whnf);repeat' ((first|(intro hq;(try simp only [lnS]at hq);(try rewrite [List.length_map]))|refine sJ ?_|refine .intro _ (.intro rfl ?_)|refine exL (k:= ?_)|(refine aD [] hcs trivial (λr hs=> ?_);subst hs)|refine dwR ?_|((first|refine aA ?_ ?_|refine aC ?_ ?_)<;>intro hb<;>(first|exact ddX hb|try simp only [lnS]at hb))|(refine aB ?_ ?_<;>intro hb<;>try exact dsX hb))<;>(conv=>whnf)))
      all_goals first
       |(rw [if_pos ⟨by omega,by assumption⟩];exact aM3 { x with left:=R,right:=L } 0)
       |(rw [if_neg (by omega)];exact aM3 { x with left:=L,right:=R } 0)
end Go.Proofs.YtbobcfjlbcgchaaGreatDoor
namespace Go.Proofs.YtbobcfjlbcgchaaGreatDoor
open Go.Proofs
theorem nJ {s:List UInt8}(h:dE s=true):s.length<=24:=by
 unfold dE at h
 rw [Bool.and_eq_true]at h
 exact of_decide_eq_true h.1
theorem aGm {s:List UInt8}(h:aOj s=true):s.length<=24:=by
 unfold aOj at h
 simp only [Bool.and_eq_true,decide_eq_true_eq]at h
 exact h.2.1
theorem aCv {s:List UInt8}(h:fH s=true):s.length<=24:=by
 unfold fH at h
 rcases Bool.or_eq_true_iff.1 h with h|h
 ·exact nJ h
 ·exact aGm h
theorem aK1 {c:Cn}(h:bR c=0):(1<=c.kind/\c.kind<=7)/\c.name.length<=24/\(-1099511627776<=c.lo/\c.lo<=1099511627776)/\(-1099511627776<=c.hi/\c.hi<=1099511627776):=by
 unfold bR at h
 split at h
 ·simp at h
 ·rename_i hk
  refine⟨by omega, ?_⟩
  generalize hn:gP c.kind=n at h
  have name:aBc n c.name=0->(¬ (n.name=0/\c.name≠[]))->c.name.length<=24:=by
   intro h1 h2
   unfold aBc at h1
   split at h1
   ·rename_i h3
    rcases h3 with h3|h3|h3
    ·have:c.name=[]:=Decidable.byContradiction λq=>h2 ⟨h3,q⟩
     rw [this];simp
    ·exact nJ h3
    ·exact aGm h3.2
   ·simp at h1
  unfold gO at h
  split at h
  ·simp at h
  ·rename_i h1
   have h2:¬ (n.name=0/\c.name≠[]):= λq=>h1 (Or.inr (Or.inr q))
   split at h
   ·split at h
    ·simp at h
    ·exact⟨name h h2,by omega,by omega⟩
   ·split at h
    ·simp at h
    ·exact⟨name h h2,by omega,by omega⟩
theorem aE2 {x:Ax}(h:bL x=0):(0<=x.kind/\x.kind<=255)/\(bK x.left=0\/fF x.left=true)/\(bK x.right=0\/fF x.right=true)/\(x.roles.length<=4/\ ∀s∈x.roles,s.length<=24)/\x.role.length<=24/\x.a.length<=24/\x.b.length<=24:=by
 obtain⟨hk,hl,hr⟩:=xW h
 unfold bL at h
 split at h
 ·simp at h
 ·rename_i hs
  have hs:bC x=true:=by simpa using hs
  unfold bC at hs
  split at hs
  ·cases hs
  ·have hm: ∀k:Int,1<=k->k<=9->(dB k).most<=4:=by
    intro k h1 h2
    have h9:k=1\/k=2\/k=3\/k=4\/k=5\/k=6\/k=7\/k=8\/k=9:=by omega
    rcases h9 with rfl|rfl|rfl|rfl|rfl|rfl|rfl|rfl|rfl<;>decide
   have hm:=hm x.kind hk.1 hk.2
   unfold xV at h
   generalize dB x.kind=u at *
   unfold bI at hs
   simp only [Bool.and_eq_true,Bool.or_eq_true,decide_eq_true_eq]at hs
   obtain⟨s1,s2,s3,s4,s5,s6,s7⟩:=hs
   split at h
   ·simp at h
   ·rename_i hn
    have hn:oF u x=true:=by simpa using hn
    unfold oF at hn
    rw [Bool.and_eq_true]at hn
    obtain⟨n1,n2⟩:=hn
    have n1:¬ (u.role=true/\dE x.role=false)/\¬ (u.a=true/\fH x.a=false)/\¬ (u.b=true/\fH x.b=false):=by
     revert n1
     cases u.role<;>cases dE x.role<;>cases u.a<;>cases fH x.a<;>cases u.b<;>cases fH x.b<;>simp
    have q1:x.role.length<=24:=by
     rcases s3 with e|e
     ·exact nJ (by cases hp:dE x.role with|true=>rfl|false=>exact absurd ⟨e,hp⟩ n1.1)
     ·rw [e];simp
    have q2:x.a.length<=24:=by
     rcases s4 with e|e
     ·exact aCv (by cases hp:fH x.a with|true=>rfl|false=>exact absurd ⟨e,hp⟩ n1.2.1)
     ·rw [e];simp
    have q3:x.b.length<=24:=by
     rcases s5 with e|e
     ·exact aCv (by cases hp:fH x.b with|true=>rfl|false=>exact absurd ⟨e,hp⟩ n1.2.2)
     ·rw [e];simp
    refine⟨⟨by omega,by omega⟩, ?_, ?_,⟨by omega,λs hs=> ?_⟩,by omega,by omega,by omega⟩
    ·rcases s1 with e|e
     ·exact .inl (hl e)
     ·exact .inr e
    ·rcases s2 with e|e
     ·exact .inl (hr e)
     ·exact .inr e
    ·have:=nJ (List.all_eq_true.1 n2 s hs);omega
theorem aL0 (c:Cn):(wC c).length=25+c.name.length+((c.parts.map wC).flatten).length:=by
 rw [aS6]
 unfold aEd lC lG iA
 simp only [List.length_append,bH]
 omega
theorem aUp: ∀c:Cn,(∀x∈gG c,x.name.length<=24)->(wC c).length<=49 * bB c:=by
 refine Cn.ind ?_
 intro c ih hn
 have key: ∀l:List Cn,(∀p∈l,p∈c.parts)->(∀x∈bM l,x.name.length<=24)->((l.map wC).flatten).length<=49 * (bM l).length:=by
  intro l
  induction l with
  |nil=>intro _ _;simp
  |cons p r ihr=>
   intro hs hx
   have e:bM (p::r)=gG p++bM r:=by rw [bM]
   rw [e]at hx |-
   have h1:=ih p (hs p (List.mem_cons_self ..)) λx hx'=>hx x (List.mem_append_left _ hx')
   have h2:=ihr (λq hq=>hs q (List.mem_cons_of_mem _ hq)) λx hx'=>hx x (List.mem_append_right _ hx')
   rw [List.map_cons,List.flatten_cons,List.length_append,List.length_append]
   unfold bB at h1
   omega
 have h1:=key c.parts (λ_ h=>h) λx hx=>hn x (by rw [eP];exact List.mem_cons_of_mem _ hx)
 have h2:=hn c (by rw [eP];exact List.mem_cons_self ..)
 have h3:bB c=(bM c.parts).length+1:=by unfold bB;rw [eP,List.length_cons]
 rw [aL0,h3]
 omega
theorem aG2 {c:Cn}(h:bK c=0\/fF c=true):(wC c).length<=3136:=by
 rcases h with h|h
 ·obtain⟨h1,_,h3⟩:=dQ h
  have:=aUp c λx hx=>(aK1 (h3 x hx)).2.1
  omega
 ·obtain⟨k,n,lo,hi,ps⟩:=c
  unfold fF at h
  simp only [Bool.and_eq_true]at h
  obtain⟨h1,h2,h3,h4,h5⟩:=h
  obtain rfl:n=[]:=of_decide_eq_true h2
  obtain rfl:ps=[]:=of_decide_eq_true h5
  rw [aL0]
  simp [Cn.name,Cn.parts]
theorem nM {α:Type}{w:α->List UInt8}{k:Nat}: ∀{l:List α},(∀x∈l,(w x).length<=k)->((l.map w).flatten).length<=l.length * k
 | [],_=>by simp
 |x::r,h=>by
  have h1:=h x (List.mem_cons_self ..)
  have h2:=nM (l:=r) λy hy=>h y (List.mem_cons_of_mem _ hy)
  rw [List.map_cons,List.flatten_cons,List.length_append,List.length_cons,Nat.add_mul]
  omega
theorem aOr {x:Ax}(h:bL x=0):(wA x).length<=7000:=by
 obtain⟨_,h2,h3,⟨h4,h5⟩,h6,h7,h8⟩:=aE2 h
 have a1:=aG2 h2
 have a2:=aG2 h3
 have a3:((x.roles.map lC).flatten).length<=x.roles.length * 28:=nM λs hs=>by
  have:=h5 s hs
  unfold lC;rw [List.length_append,bH];omega
 have a4:x.roles.length * 28<=4 * 28:=Nat.mul_le_mul_right _ h4
 unfold wA wB aEd iA
 simp only [List.length_append,bH]
 unfold lC at a3 |-
 simp only [List.length_append,bH]
 omega
theorem vE {l:List Ax}(h: ∀x∈l,bL x=0):(wAs l).length<=4+l.length * 7000:=by
 have:=nM (w:=wA) λx hx=>aOr (h x hx)
 unfold wAs iA
 rw [List.length_append,bH]
 omega
end Go.Proofs.YtbobcfjlbcgchaaGreatDoor
