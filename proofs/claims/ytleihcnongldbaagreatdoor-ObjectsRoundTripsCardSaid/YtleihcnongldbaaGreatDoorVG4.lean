/-
  The reference of objects: lists, concepts and axioms in bytes. Terms: the reference's order, Strings, Size and Compare. The walk through the reference's keyword. Names: the walks through the reference's functions that tell which strings are names.
  Conditions: none.
-/
import Derived.Test.YtleihcnongldbaaGreatDoorVSyd
import Derived.Test.YtleihcnongldbaaGreatDoorVOx
import Derived.Test.YtleihcnongldbaaGreatDoorVSyb
import Derived.Test.YtleihcnongldbaaGreatDoorVSw
set_option linter.unnecessarySimpa false
set_option linter.unusedSectionVars false
set_option linter.unusedSimpArgs false
set_option linter.unusedVariables false
set_option maxHeartbeats 8000000
namespace Go.Proofs.YtleihcnongldbaaGreatDoor
open Go.Proofs Go.RowKit
set_option maxRecDepth 10000
attribute [local irreducible] aO aH Tri aG YVC cL bB aJu
end Go.Proofs.YtleihcnongldbaaGreatDoor
namespace Go.Proofs.YtleihcnongldbaaGreatDoor
open Go.Proofs
set_option maxRecDepth 10000
attribute [local irreducible] aO aH Tri aG YVC cL bB
theorem cW (a b:Int):Tri Tryz.prog 139 [.d (.int .i64 a), .d (.int .i64 b)] [] (λr=>r= .d (.int .i64 (jX a b))):=by
 refine aJ hty Tryz.func139 rfl (kp [0,1,4,7,10]) [] _ _ _ (by simp [Tryz.f139]) (by simp) ?_
 ((conv=>whnf);repeat' ((first|(intro hq;(try simp only [lnS]at hq);(try rewrite [List.length_map]))|refine sJ ?_|refine .intro _ (.intro rfl ?_)|refine exL (k:= ?_)|refine dwR ?_|((first|refine aB ?_ ?_|refine aC ?_ ?_)<;>intro hb<;>(first|exact ddX hb|try simp only [lnS]at hb))|(refine aA ?_ ?_<;>intro hb<;>try exact dsX hb))<;>(conv=>whnf)))
 all_goals (refine iF (Eq.symm ?_);unfold jX;simp_all<;>omega)
theorem dU (a b:List UInt8):Tri Tryz.prog 142 [.d (.str a), .d (.str b)] [] (λr=>r= .d (.int .i64 (fB a b))):=by
 refine aJ hty Tryz.func142 rfl (kp [0,1,4,7,10]) [] _ _ _ (by simp [Tryz.f142]) (by simp) ?_
 ((conv=>whnf);repeat' ((first|(intro hq;(try simp only [lnS]at hq);(try rewrite [List.length_map]))|refine sJ ?_|refine .intro _ (.intro rfl ?_)|refine exL (k:= ?_)|refine dwR ?_|((first|refine aB ?_ ?_|refine aC ?_ ?_)<;>intro hb<;>(first|exact ddX hb|try simp only [lnS]at hb))|(refine aA ?_ ?_<;>intro hb<;>try exact dsX hb))<;>(conv=>whnf)))
 all_goals (
  refine iF (Eq.symm ?_)
  have hr:=pR a b
  have hz:=dH a b)
 ·rw [fC,decide_eq_true_eq]at hb
  omega
 ·rename_i hb0
  rw [fC,decide_eq_false_iff_not]at hb0
  have:fB a b≠0:= λq=>by rw [hz.1 q]at hb;simp at hb
  omega
 ·rename_i hb0
  rw [fC,decide_eq_false_iff_not]at hb0
  rw [fC,decide_eq_false hb0]at hb
  exact hz.2 (by simpa using hb)
theorem mA: ∀(c:Cn) (_:bW c<=1000000),Tri Tryz.prog 159 [.d (.agg (cnR c))] [] (λr=>r= .d (.int .i64 (bW c))):=by
 refine Cn.ind ?_
 intro c ih hs
 have hsz:=aBb c
 rw [bG]
 refine aF false [1] hty Tryz.func159 rfl (kp [0,1,2,3,4,9]) [] _ _ _ (by simp [Tryz.f159]) (by simp) ?_
 ((conv=>whnf);repeat ((first|(intro hq;try simp only [lnS]at hq)|refine sI ?_|refine .intro _ (.intro rfl ?_));(conv=>whnf)))
 refine aL hty (λj:Nat=>([(1, .ea 5 [[.int .i64 c.kind, .str c.name, .int .i64 c.lo, .int .i64 c.hi, .sl 5 (c.parts.map cnR)]] 0 0),(3, .d (.int .i64 ((bM (c.parts.take j)).length+1:Nat))),(4, .d (.int .i64 j))],[])) (λj=>j<=c.parts.length) (λj=>c.parts.length - j) 0 (by omega) ⟨by repeat' (first|exact trivial|exact rfl|exact⟨rfl,rfl⟩|refine And.intro ?_ ?_),trivial⟩ ?_
 intro j hj
 ((conv=>whnf);repeat ((first|(intro hq;try simp only [lnS]at hq)|refine sI ?_|refine .intro _ (.intro rfl ?_));(conv=>whnf)))
 refine aB (λh1=> ?_) (λh1=> ?_)
 ·have hjl:j < c.parts.length:=by simp only [List.length_map]at h1;omega
  have hrow':(c.parts.map cnR)[(j:Int).toNat]? =some (cnR c.parts[j]):=aZ hjl
  have hp:=pJ (List.getElem_mem (l:=c.parts) hjl)
  have hi:=ih c.parts[j] (List.getElem_mem hjl) (by omega)
  have hnl:=sD hjl
  have hle:=uB c.parts (j+1)
  rw [bG]at hrow' hi
  ((conv=>whnf);repeat' ((first|(intro hq;(try simp only [lnS]at hq);(try rewrite [List.length_map]))|refine sJ ?_|refine .intro _ (.intro rfl ?_)|refine exL (k:= ?_)|(refine⟨_,hrow', ?_⟩)|(refine aD [] hi trivial (λr hs=> ?_);subst hs)|refine dwR ?_|((first|refine aB ?_ ?_|refine aC ?_ ?_)<;>intro hb<;>(first|exact ddX hb|try simp only [lnS]at hb))|(refine aA ?_ ?_<;>intro hb<;>try exact dsX hb))<;>(conv=>whnf)))
  refine⟨j+1,by dsimp only;omega,by dsimp only;omega,⟨?_,trivial⟩⟩
  dsimp only
  rw [hnl]
  repeat' (first|exact trivial|exact rfl|exact aM6 (by omega)|exact⟨rfl,rfl⟩|refine And.intro ?_ ?_)
 ·have hjl:j=c.parts.length:=by simp only [List.length_map]at h1;omega
  subst hjl
  rw [List.take_length,<-hsz]
  ((conv=>whnf);repeat' ((first|(intro hq;(try simp only [lnS]at hq);(try rewrite [List.length_map]))|refine sJ ?_|refine .intro _ (.intro rfl ?_)|refine exL (k:= ?_)|refine dwR ?_|((first|refine aB ?_ ?_|refine aC ?_ ?_)<;>intro hb<;>(first|exact ddX hb|try simp only [lnS]at hb))|(refine aA ?_ ?_<;>intro hb<;>try exact dsX hb))<;>(conv=>whnf)))
  rfl
theorem aIk {l m:List Cn}{j:Nat}(h1:j<=l.length) (h2:j<=m.length) (h:¬ (j < l.length/\j < m.length)):pP (l.drop j) (m.drop j)=jX l.length m.length:=by
 unfold jX
 by_cases hl:j < l.length
 ·have hm:m.drop j=[]:=List.drop_eq_nil_of_le (by omega)
  rw [List.drop_eq_getElem_cons hl,hm,pP,if_neg (by omega),if_pos (by omega)]
 ·have hm:l.drop j=[]:=List.drop_eq_nil_of_le (by omega)
  rw [hm]
  by_cases hm:j < m.length
  ·rw [List.drop_eq_getElem_cons hm,pP,if_pos (by omega)]
  ·rw [show m.drop j=[]from List.drop_eq_nil_of_le (by omega),pP,if_neg (by omega),if_neg (by omega)]
theorem nY: ∀(c d:Cn) (_:bW c<=1000000) (_:bW d<=1000000),Tri Tryz.prog 141 [.d (.agg (cnR c)), .d (.agg (cnR d))] [] (λr=>r= .d (.int .i64 (tP c d))):=by
 refine Cn.ind ?_
 intro c ih d hs hsd
 have s1:=mA c hs
 have s2:=mA d hsd
 have o0:=cW (bW c) (bW d)
 have o1:=cW c.kind d.kind
 have o2:=dU c.name d.name
 have o3:=cW c.lo d.lo
 have o4:=cW c.hi d.hi
 have o5:=cW c.parts.length d.parts.length
 rw [aG0,aAw,bG,bG]
 rw [bG]at s1 s2
 generalize jX (bW c) (bW d)=n0 at o0 |-
 generalize jX c.kind d.kind=n1 at o1 |-
 generalize fB c.name d.name=n2 at o2 |-
 generalize jX c.lo d.lo=n3 at o3 |-
 generalize jX c.hi d.hi=n4 at o4 |-
 refine aF false [2,3] hty Tryz.func141 rfl (kp [0,1,2,3,4,5,6,13,20,27,34,55,70]) [] _ _ _ (by simp [Tryz.f141]) (by simp) ?_
 ((conv=>whnf);repeat' ((first|(intro hq;(try simp only [lnS]at hq);(try rewrite [List.length_map]))|refine sJ ?_|refine .intro _ (.intro rfl ?_)|refine exL (k:= ?_)|(refine⟨.d (.int .i64 _),_,[],rfl,trivial,s1, ?_⟩)|(refine⟨.d (.int .i64 _),_,[],rfl,trivial,s2, ?_⟩)|(refine⟨.d (.int .i64 _),_,[],rfl,trivial,o0, ?_⟩)|(refine aD [] o1 trivial (λr hs=> ?_);subst hs)|(refine aD [] o2 trivial (λr hs=> ?_);subst hs)|(refine aD [] o3 trivial (λr hs=> ?_);subst hs)|(refine aD [] o4 trivial (λr hs=> ?_);subst hs)|refine dwR ?_|((first|refine aB ?_ ?_|refine aC ?_ ?_)<;>intro hb<;>(first|exact ddX hb|try simp only [lnS]at hb))|(refine aA ?_ ?_<;>intro hb<;>try exact dsX hb))<;>(conv=>whnf)))
 ·refine aL hty (λy:Nat×Int=>([(2, .ea 5 [[.int .i64 c.kind, .str c.name, .int .i64 c.lo, .int .i64 c.hi, .sl 5 (c.parts.map cnR)]] 0 0),(3, .ea 5 [[.int .i64 d.kind, .str d.name, .int .i64 d.lo, .int .i64 d.hi, .sl 5 (d.parts.map cnR)]] 0 0),(5, .d (.int .i64 y.2)),(6, .d (.int .i64 y.1))],[])) (λy=>y.1<=c.parts.length/\y.1<=d.parts.length/\(if y.2≠0 then y.2 else pP (c.parts.drop y.1) (d.parts.drop y.1))=(if n4≠0 then n4 else pP c.parts d.parts)) (λy=>c.parts.length - y.1) (0,n4) ⟨by dsimp only;omega,by dsimp only;omega,rfl⟩ ⟨by repeat' (first|exact trivial|exact rfl|exact⟨rfl,rfl⟩|refine And.intro ?_ ?_),trivial⟩ ?_
  rintro⟨j,n⟩ ⟨hj,hjd,hn⟩
  dsimp only at hj hjd hn
  have hgoal:(if orF [n0,n1,n2,n3,n4]≠0 then orF [n0,n1,n2,n3,n4]else pP c.parts d.parts)=(if n4≠0 then n4 else pP c.parts d.parts):=by
   simp only [orF, *]
   split<;>simp_all
  rw [hgoal]
  clear hgoal o0 o1 o2 o3 o4 s1 s2
  by_cases hlt:n=0/\j < c.parts.length/\j < d.parts.length
  ·obtain⟨rfl,h1,h2⟩:=hlt
   have hrow:(c.parts.map cnR)[(j:Int).toNat]? =some (cnR c.parts[j]):=aZ h1
   have hrow2:(d.parts.map cnR)[(j:Int).toNat]? =some (cnR d.parts[j]):=aZ h2
   have hp:=pJ (List.getElem_mem (l:=c.parts) h1)
   have hp2:=pJ (List.getElem_mem (l:=d.parts) h2)
   have hcall:=ih c.parts[j] (List.getElem_mem h1) d.parts[j] (by omega) (by omega)
   rw [if_neg (by simp),List.drop_eq_getElem_cons h1,List.drop_eq_getElem_cons h2,pP]at hn
   generalize c.parts[j]=x at hrow hn hcall
   generalize d.parts[j]=z at hrow2 hn hcall
   rw [bG]at hrow hrow2
   rw [bG,bG]at hcall
   ((conv=>whnf);repeat' ((first|(intro hq;(try simp only [lnS]at hq);(try rewrite [List.length_map]))|refine sJ ?_|refine .intro _ (.intro rfl ?_)|refine exL (k:= ?_)|(refine⟨_,hrow, ?_⟩)|(refine⟨_,hrow2, ?_⟩)|(refine⟨.d (.int .i64 _),_,[],rfl,trivial,hcall, ?_⟩)|refine dwR ?_|((first|refine aB ?_ ?_|refine aC ?_ ?_)<;>intro hb<;>(first|exact ddX hb|try simp only [lnS]at hb))|(refine aA ?_ ?_<;>intro hb<;>try exact dsX hb))<;>(conv=>whnf)))
   exact⟨(j+1,tP x z),⟨by dsimp only;omega,by dsimp only;omega,hn⟩,by dsimp only;omega,by repeat' (first|exact trivial|exact rfl|refine And.intro ?_ ?_),trivial⟩
  ·by_cases hn0:n=0
   ·subst hn0
    have hlt2:¬ (j < c.parts.length/\j < d.parts.length):= λh=>hlt ⟨rfl,h⟩
    rw [if_neg (by simp),aIk hj hjd hlt2]at hn
    rw [<-hn]
    ((conv=>whnf);repeat' ((first|(intro hq;(try simp only [lnS]at hq);(try rewrite [List.length_map]))|refine sJ ?_|refine .intro _ (.intro rfl ?_)|refine exL (k:= ?_)|(refine aD [] o5 trivial (λr hs=> ?_);subst hs)|refine dwR ?_|((first|refine aB ?_ ?_|refine aC ?_ ?_)<;>intro hb<;>(first|exact ddX hb|try simp only [lnS]at hb))|(refine aA ?_ ?_<;>intro hb<;>try exact dsX hb))<;>(conv=>whnf)))
    all_goals rfl
   ·rw [if_pos hn0]at hn
    ((conv=>whnf);repeat' ((first|(intro hq;(try simp only [lnS]at hq);(try rewrite [List.length_map]))|refine sJ ?_|refine .intro _ (.intro rfl ?_)|refine exL (k:= ?_)|refine dwR ?_|((first|refine aB ?_ ?_|refine aC ?_ ?_)<;>intro hb<;>(first|exact ddX hb|try simp only [lnS]at hb))|(refine aA ?_ ?_<;>intro hb<;>try exact dsX hb))<;>(conv=>whnf)))
    exact iF hn
 all_goals
  refine aL hty (λ_:Unit=>([(2, .ea 5 [[.int .i64 c.kind, .str c.name, .int .i64 c.lo, .int .i64 c.hi, .sl 5 (c.parts.map cnR)]] 0 0),(3, .ea 5 [[.int .i64 d.kind, .str d.name, .int .i64 d.lo, .int .i64 d.hi, .sl 5 (d.parts.map cnR)]] 0 0),(5, .d (.int .i64 _)),(6, .d (.int .i64 0))],[])) (λ_=>True) (λ_=>0) () trivial ⟨by repeat' (first|exact trivial|exact rfl|exact⟨rfl,rfl⟩|refine And.intro ?_ ?_),trivial⟩ ?_
  rintro⟨⟩ _
  ((conv=>whnf);repeat' ((first|(intro hq;(try simp only [lnS]at hq);(try rewrite [List.length_map]))|refine sJ ?_|refine .intro _ (.intro rfl ?_)|refine exL (k:= ?_)|refine dwR ?_|((first|refine aB ?_ ?_|refine aC ?_ ?_)<;>intro hb<;>(first|exact ddX hb|try simp only [lnS]at hb))|(refine aA ?_ ?_<;>intro hb<;>try exact dsX hb))<;>(conv=>whnf)))
  refine iF (Eq.symm ?_)
  simp [orF, *]
end Go.Proofs.YtleihcnongldbaaGreatDoor
namespace Go.Proofs.YtleihcnongldbaaGreatDoor
open Go.Proofs
set_option maxRecDepth 10000
attribute [local irreducible] aO aH Tri aG
end Go.Proofs.YtleihcnongldbaaGreatDoor
namespace Go.Proofs.YtleihcnongldbaaGreatDoor
open Go.Proofs
set_option maxRecDepth 10000
attribute [local irreducible] aO aH Tri aG
end Go.Proofs.YtleihcnongldbaaGreatDoor
