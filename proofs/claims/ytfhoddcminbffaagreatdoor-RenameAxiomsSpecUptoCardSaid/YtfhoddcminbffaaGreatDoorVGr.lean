/-
  Terms: order, repetition and grouping of parts do not change the canonical form (plainly). Terms: the reference's order, Strings, Size and Compare. The walk through the reference's keyword.
  Conditions: none.
-/
import Derived.Test.YtfhoddcminbffaaGreatDoorVBt
import Derived.Test.YtfhoddcminbffaaGreatDoorVAc
import Derived.Test.YtfhoddcminbffaaGreatDoorVSw
set_option linter.unnecessarySimpa false
set_option linter.unusedSectionVars false
set_option linter.unusedSimpArgs false
set_option linter.unusedVariables false
set_option maxHeartbeats 8000000
namespace Go.Proofs.YtfhoddcminbffaaGreatDoor
open Go.Proofs
theorem aFr (s:List Cn):(hZ s).2=0\/(hZ s).2=2:=by
 unfold hZ
 split
 ·exact .inl rfl
 ·split
  ·exact .inl rfl
  ·split
   ·exact .inl rfl
   ·split
    ·exact .inr rfl
    ·exact .inl rfl
theorem aE4: ∀c:Cn,(aL c).2=0\/(aL c).2=2:=by
 refine Cn.ind ?_
 intro c ih
 rw [fZ]
 split
 ·cases hps:c.parts with
  |nil=>exact .inl rfl
  |cons p r=>
   simp only [List.map_cons,pA]
   have:=ih p (by rw [hps];simp)
   split
   ·exact this
   ·exact .inl rfl
 ·split
  ·unfold hY
   split
   ·rename_i r hr
    have h1:=List.mem_of_find?_eq_some hr
    obtain⟨p,hp,rfl⟩:=List.mem_map.1 h1
    exact ih p hp
   ·exact aFr _
  ·exact .inl rfl
def aFh (l:List Cn):List Cn:=(l.map aL).flatMap λr=>dJ r.1
theorem xM {x:Cn}{l:List Cn}:x∈aFh l↔ ∃p∈l,x∈dJ (aL p).1:=by
 unfold aFh
 rw [List.mem_flatMap]
 constructor
 ·rintro⟨r,hr,hx⟩
  obtain⟨p,hp,rfl⟩:=List.mem_map.1 hr
  exact⟨p,hp,hx⟩
 ·rintro⟨p,hp,hx⟩
  exact⟨_,List.mem_map_of_mem hp,hx⟩
theorem aAy {l:List Cn}(h: ∃p∈l,(aL p).2≠0):hY (l.map aL)=(c0,2):=by
 unfold hY
 split
 ·rename_i r hr
  have h1:=List.mem_of_find?_eq_some hr
  have h2:=List.find?_some hr
  obtain⟨p,hp,rfl⟩:=List.mem_map.1 h1
  simp only [decide_eq_true_eq]at h2
  rw [(aE4 p).resolve_left h2]
 ·rename_i hn
  obtain⟨p,hp,h⟩:=h
  have:=List.find?_eq_none.1 hn (aL p) (List.mem_map_of_mem hp)
  simp only [decide_eq_true_eq,ne_eq,Classical.not_not]at this
  exact absurd this h
theorem zY {l:List Cn}(h: ∀p∈l,(aL p).2=0):hY (l.map aL)=hZ (sM (aFh l)):=by
 unfold hY
 split
 ·rename_i r hr
  have h1:=List.mem_of_find?_eq_some hr
  have h2:=List.find?_some hr
  obtain⟨p,hp,rfl⟩:=List.mem_map.1 h1
  simp only [decide_eq_true_eq]at h2
  exact absurd (h p hp) h2
 ·rfl
theorem aF4 {l:List Cn}(h:(hY (l.map aL)).2=0): ∀p∈l,(aL p).2=0:= λp hp=>Classical.byContradiction λh'=>by
 rw [aAy ⟨p,hp,h'⟩]at h
 exact absurd h (by decide)
theorem aFe: ∀c:Cn,(aL c).2=0-> ∀m∈dJ (aL c).1,m.kind≠1/\m.kind≠5:=by
 refine Cn.ind ?_
 intro c ih h0
 have self: ∀x:Cn,x.kind≠5-> ∀m∈dJ x,m.kind≠1/\m.kind≠5:= λx h5 m hm=>by
  unfold dJ at hm
  split at hm
  ·simp at hm
  ·rename_i h1
   have hm:m∈[x]:=by simpa only [if_neg h5]using hm
   simp only [List.mem_singleton]at hm
   subst hm
   exact⟨h1,h5⟩
 rw [fZ]at h0 |-
 split
 ·rename_i h6
  rw [if_pos h6]at h0
  cases hps:c.parts with
  |nil=>exact self _ (by show (0:Int)≠5;decide)
  |cons p r=>
   rw [hps]at h0
   simp only [List.map_cons,pA]at h0 |-
   split
   ·rename_i hb
    rw [if_pos hb]at h0
    have h2:(aL p).1.kind=2:=by rcases hb with hb|hb;exact absurd h0 hb;exact hb
    exact self _ (by rw [h2];decide)
   ·exact self _ (by show (6:Int)≠5;decide)
 ·rename_i h6
  rw [if_neg h6]at h0
  split
  ·rename_i h5
   rw [if_pos h5]at h0
   have hz:=aF4 h0
   rw [zY hz]at h0 |-
   have hS: ∀m∈sM (aFh c.parts),m.kind≠1/\m.kind≠5:= λm hm=>by
    rw [pO,xM]at hm
    obtain⟨p,hp,hm⟩:=hm
    exact ih p hp (hz p hp) m hm
   generalize sM (aFh c.parts)=s at h0 hS |-
   unfold hZ at h0 |-
   split
   ·rename_i t ht
    have:=List.find?_some ht
    simp only [decide_eq_true_eq]at this
    exact self _ (by show t.kind≠5;rw [this];decide)
   ·rename_i hn
    rw [hn]at h0
    simp only at h0
    split
    ·exact self _ (by show (1:Int)≠5;decide)
    ·rename_i e0
     rw [if_neg e0]at h0
     split
     ·rename_i e1
      match s,e1,hS with
      | [x],_,hS=>exact self x (hS x (by simp)).2
     ·rename_i e1
      rw [if_neg e1]at h0
      split
      ·rename_i e2;rw [if_pos e2]at h0;exact absurd h0 (by decide)
      ·intro m hm
       rw [show dJ (.mk 5 [] 0 0 s)=s from rfl]at hm
       exact hS m hm
  ·rename_i h5;exact self c h5
end Go.Proofs.YtfhoddcminbffaaGreatDoor
namespace Go.Proofs.YtfhoddcminbffaaGreatDoor
open Go.Proofs
set_option maxRecDepth 10000
attribute [local irreducible] aV aM Tri aI YVC dQ bN
theorem dI (a b:Int):Tri Tryz.prog 107 [.d (.int .i64 a), .d (.int .i64 b)] [] (λr=>r= .d (.int .i64 (iV a b))):=by
 refine aN hty Tryz.func107 rfl (kp [0,1,4,7,10]) [] _ _ _ (by simp [Tryz.f107]) (by simp) ?_
 ((conv=>whnf);repeat' ((first|(intro hq;(try simp only [lnS]at hq);(try rewrite [List.length_map]))|refine sJ ?_|refine .intro _ (.intro rfl ?_)|refine exL (k:= ?_)|refine dwR ?_|((first|refine aD ?_ ?_|refine aF ?_ ?_)<;>intro hb<;>(first|exact ddX hb|try simp only [lnS]at hb))|(refine aC ?_ ?_<;>intro hb<;>try exact dsX hb))<;>(conv=>whnf)))
 all_goals (refine bZ (Eq.symm ?_);unfold iV;simp_all<;>omega)
theorem eK (a b:List UInt8):Tri Tryz.prog 109 [.d (.str a), .d (.str b)] [] (λr=>r= .d (.int .i64 (fR a b))):=by
 refine aN hty Tryz.func109 rfl (kp [0,1,4,7,10]) [] _ _ _ (by simp [Tryz.f109]) (by simp) ?_
 ((conv=>whnf);repeat' ((first|(intro hq;(try simp only [lnS]at hq);(try rewrite [List.length_map]))|refine sJ ?_|refine .intro _ (.intro rfl ?_)|refine exL (k:= ?_)|refine dwR ?_|((first|refine aD ?_ ?_|refine aF ?_ ?_)<;>intro hb<;>(first|exact ddX hb|try simp only [lnS]at hb))|(refine aC ?_ ?_<;>intro hb<;>try exact dsX hb))<;>(conv=>whnf)))
 all_goals (
  refine bZ (Eq.symm ?_)
  have hr:=oB a b
  have hz:=dU a b)
 ·rw [eG,decide_eq_true_eq]at hb
  omega
 ·rename_i hb0
  rw [eG,decide_eq_false_iff_not]at hb0
  have:fR a b≠0:= λq=>by rw [hz.1 q]at hb;simp at hb
  omega
 ·rename_i hb0
  rw [eG,decide_eq_false_iff_not]at hb0
  rw [eG,decide_eq_false hb0]at hb
  exact hz.2 (by simpa using hb)
theorem iI: ∀(c:Cn) (_:aQ c<=1000000),Tri Tryz.prog 135 [.d (.agg (cnR c))] [] (λr=>r= .d (.int .i64 (aQ c))):=by
 refine Cn.ind ?_
 intro c ih hs
 have hsz:=kO c
 rw [aJ]
 refine aH false [1] hty Tryz.func135 rfl (kp [0,1,2,3,4,9]) [] _ _ _ (by simp [Tryz.f135]) (by simp) ?_
 ((conv=>whnf);repeat ((first|(intro hq;try simp only [lnS]at hq)|refine sI ?_|refine .intro _ (.intro rfl ?_));(conv=>whnf)))
 refine aK hty (λj:Nat=>([(1, .ea 5 [[.int .i64 c.kind, .str c.name, .int .i64 c.lo, .int .i64 c.hi, .sl 5 (c.parts.map cnR)]] 0 0),(3, .d (.int .i64 ((bC (c.parts.take j)).length+1:Nat))),(4, .d (.int .i64 j))],[])) (λj=>j<=c.parts.length) (λj=>c.parts.length - j) 0 (by omega) ⟨by repeat' (first|exact trivial|exact rfl|exact⟨rfl,rfl⟩|refine And.intro ?_ ?_),trivial⟩ ?_
 intro j hj
 ((conv=>whnf);repeat ((first|(intro hq;try simp only [lnS]at hq)|refine sI ?_|refine .intro _ (.intro rfl ?_));(conv=>whnf)))
 refine aD (λh1=> ?_) (λh1=> ?_)
 ·have hjl:j < c.parts.length:=by simp only [List.length_map]at h1;omega
  have hrow':(c.parts.map cnR)[(j:Int).toNat]? =some (cnR c.parts[j]):=aS hjl
  have hp:=cT (List.getElem_mem (l:=c.parts) hjl)
  have hi:=ih c.parts[j] (List.getElem_mem hjl) (by omega)
  have hnl:=jW hjl
  have hle:=dC c.parts (j+1)
  rw [aJ]at hrow' hi
  ((conv=>whnf);repeat' ((first|(intro hq;(try simp only [lnS]at hq);(try rewrite [List.length_map]))|refine sJ ?_|refine .intro _ (.intro rfl ?_)|refine exL (k:= ?_)|(refine⟨_,hrow', ?_⟩)|(refine aG [] hi trivial (λr hs=> ?_);subst hs)|refine dwR ?_|((first|refine aD ?_ ?_|refine aF ?_ ?_)<;>intro hb<;>(first|exact ddX hb|try simp only [lnS]at hb))|(refine aC ?_ ?_<;>intro hb<;>try exact dsX hb))<;>(conv=>whnf)))
  refine⟨j+1,by dsimp only;omega,by dsimp only;omega,⟨?_,trivial⟩⟩
  dsimp only
  rw [hnl]
  repeat' (first|exact trivial|exact rfl|exact aIo (by omega)|exact⟨rfl,rfl⟩|refine And.intro ?_ ?_)
 ·have hjl:j=c.parts.length:=by simp only [List.length_map]at h1;omega
  subst hjl
  rw [List.take_length,<-hsz]
  ((conv=>whnf);repeat' ((first|(intro hq;(try simp only [lnS]at hq);(try rewrite [List.length_map]))|refine sJ ?_|refine .intro _ (.intro rfl ?_)|refine exL (k:= ?_)|refine dwR ?_|((first|refine aD ?_ ?_|refine aF ?_ ?_)<;>intro hb<;>(first|exact ddX hb|try simp only [lnS]at hb))|(refine aC ?_ ?_<;>intro hb<;>try exact dsX hb))<;>(conv=>whnf)))
  rfl
theorem aIa {l m:List Cn}{j:Nat}(h1:j<=l.length) (h2:j<=m.length) (h:¬ (j < l.length/\j < m.length)):fO (l.drop j) (m.drop j)=iV l.length m.length:=by
 unfold iV
 by_cases hl:j < l.length
 ·have hm:m.drop j=[]:=List.drop_eq_nil_of_le (by omega)
  rw [List.drop_eq_getElem_cons hl,hm,fO,if_neg (by omega),if_pos (by omega)]
 ·have hm:l.drop j=[]:=List.drop_eq_nil_of_le (by omega)
  rw [hm]
  by_cases hm:j < m.length
  ·rw [List.drop_eq_getElem_cons hm,fO,if_pos (by omega)]
  ·rw [show m.drop j=[]from List.drop_eq_nil_of_le (by omega),fO,if_neg (by omega),if_neg (by omega)]
theorem gD: ∀(c d:Cn) (_:aQ c<=1000000) (_:aQ d<=1000000),Tri Tryz.prog 92 [.d (.agg (cnR c)), .d (.agg (cnR d))] [] (λr=>r= .d (.int .i64 (fX c d))):=by
 refine Cn.ind ?_
 intro c ih d hs hsd
 have s1:=iI c hs
 have s2:=iI d hsd
 have o0:=dI (aQ c) (aQ d)
 have o1:=dI c.kind d.kind
 have o2:=eK c.name d.name
 have o3:=dI c.lo d.lo
 have o4:=dI c.hi d.hi
 have o5:=dI c.parts.length d.parts.length
 rw [aAc,mU,aJ,aJ]
 rw [aJ]at s1 s2
 generalize iV (aQ c) (aQ d)=n0 at o0 |-
 generalize iV c.kind d.kind=n1 at o1 |-
 generalize fR c.name d.name=n2 at o2 |-
 generalize iV c.lo d.lo=n3 at o3 |-
 generalize iV c.hi d.hi=n4 at o4 |-
 refine aH false [2,3] hty Tryz.func92 rfl (kp [0,1,2,3,4,5,6,13,20,27,34,55,70]) [] _ _ _ (by simp [Tryz.f92]) (by simp) ?_
 ((conv=>whnf);repeat' ((first|(intro hq;(try simp only [lnS]at hq);(try rewrite [List.length_map]))|refine sJ ?_|refine .intro _ (.intro rfl ?_)|refine exL (k:= ?_)|(refine⟨.d (.int .i64 _),_,[],rfl,trivial,s1, ?_⟩)|(refine⟨.d (.int .i64 _),_,[],rfl,trivial,s2, ?_⟩)|(refine⟨.d (.int .i64 _),_,[],rfl,trivial,o0, ?_⟩)|(refine aG [] o1 trivial (λr hs=> ?_);subst hs)|(refine aG [] o2 trivial (λr hs=> ?_);subst hs)|(refine aG [] o3 trivial (λr hs=> ?_);subst hs)|(refine aG [] o4 trivial (λr hs=> ?_);subst hs)|refine dwR ?_|((first|refine aD ?_ ?_|refine aF ?_ ?_)<;>intro hb<;>(first|exact ddX hb|try simp only [lnS]at hb))|(refine aC ?_ ?_<;>intro hb<;>try exact dsX hb))<;>(conv=>whnf)))
 ·refine aK hty (λy:Nat×Int=>([(2, .ea 5 [[.int .i64 c.kind, .str c.name, .int .i64 c.lo, .int .i64 c.hi, .sl 5 (c.parts.map cnR)]] 0 0),(3, .ea 5 [[.int .i64 d.kind, .str d.name, .int .i64 d.lo, .int .i64 d.hi, .sl 5 (d.parts.map cnR)]] 0 0),(5, .d (.int .i64 y.2)),(6, .d (.int .i64 y.1))],[])) (λy=>y.1<=c.parts.length/\y.1<=d.parts.length/\(if y.2≠0 then y.2 else fO (c.parts.drop y.1) (d.parts.drop y.1))=(if n4≠0 then n4 else fO c.parts d.parts)) (λy=>c.parts.length - y.1) (0,n4) ⟨by dsimp only;omega,by dsimp only;omega,rfl⟩ ⟨by repeat' (first|exact trivial|exact rfl|exact⟨rfl,rfl⟩|refine And.intro ?_ ?_),trivial⟩ ?_
  rintro⟨j,n⟩ ⟨hj,hjd,hn⟩
  dsimp only at hj hjd hn
  have hgoal:(if orF [n0,n1,n2,n3,n4]≠0 then orF [n0,n1,n2,n3,n4]else fO c.parts d.parts)=(if n4≠0 then n4 else fO c.parts d.parts):=by
   simp only [orF, *]
   split<;>simp_all
  rw [hgoal]
  clear hgoal o0 o1 o2 o3 o4 s1 s2
  by_cases hlt:n=0/\j < c.parts.length/\j < d.parts.length
  ·obtain⟨rfl,h1,h2⟩:=hlt
   have hrow:(c.parts.map cnR)[(j:Int).toNat]? =some (cnR c.parts[j]):=aS h1
   have hrow2:(d.parts.map cnR)[(j:Int).toNat]? =some (cnR d.parts[j]):=aS h2
   have hp:=cT (List.getElem_mem (l:=c.parts) h1)
   have hp2:=cT (List.getElem_mem (l:=d.parts) h2)
   have hcall:=ih c.parts[j] (List.getElem_mem h1) d.parts[j] (by omega) (by omega)
   rw [if_neg (by simp),List.drop_eq_getElem_cons h1,List.drop_eq_getElem_cons h2,fO]at hn
   generalize c.parts[j]=x at hrow hn hcall
   generalize d.parts[j]=z at hrow2 hn hcall
   rw [aJ]at hrow hrow2
   rw [aJ,aJ]at hcall
   ((conv=>whnf);repeat' ((first|(intro hq;(try simp only [lnS]at hq);(try rewrite [List.length_map]))|refine sJ ?_|refine .intro _ (.intro rfl ?_)|refine exL (k:= ?_)|(refine⟨_,hrow, ?_⟩)|(refine⟨_,hrow2, ?_⟩)|(refine⟨.d (.int .i64 _),_,[],rfl,trivial,hcall, ?_⟩)|refine dwR ?_|((first|refine aD ?_ ?_|refine aF ?_ ?_)<;>intro hb<;>(first|exact ddX hb|try simp only [lnS]at hb))|(refine aC ?_ ?_<;>intro hb<;>try exact dsX hb))<;>(conv=>whnf)))
   exact⟨(j+1,fX x z),⟨by dsimp only;omega,by dsimp only;omega,hn⟩,by dsimp only;omega,by repeat' (first|exact trivial|exact rfl|refine And.intro ?_ ?_),trivial⟩
  ·by_cases hn0:n=0
   ·subst hn0
    have hlt2:¬ (j < c.parts.length/\j < d.parts.length):= λh=>hlt ⟨rfl,h⟩
    rw [if_neg (by simp),aIa hj hjd hlt2]at hn
    rw [<-hn]
    ((conv=>whnf);repeat' ((first|(intro hq;(try simp only [lnS]at hq);(try rewrite [List.length_map]))|refine sJ ?_|refine .intro _ (.intro rfl ?_)|refine exL (k:= ?_)|(refine aG [] o5 trivial (λr hs=> ?_);subst hs)|refine dwR ?_|((first|refine aD ?_ ?_|refine aF ?_ ?_)<;>intro hb<;>(first|exact ddX hb|try simp only [lnS]at hb))|(refine aC ?_ ?_<;>intro hb<;>try exact dsX hb))<;>(conv=>whnf)))
    all_goals rfl
   ·rw [if_pos hn0]at hn
    ((conv=>whnf);repeat' ((first|(intro hq;(try simp only [lnS]at hq);(try rewrite [List.length_map]))|refine sJ ?_|refine .intro _ (.intro rfl ?_)|refine exL (k:= ?_)|refine dwR ?_|((first|refine aD ?_ ?_|refine aF ?_ ?_)<;>intro hb<;>(first|exact ddX hb|try simp only [lnS]at hb))|(refine aC ?_ ?_<;>intro hb<;>try exact dsX hb))<;>(conv=>whnf)))
    exact bZ hn
 all_goals
  refine aK hty (λ_:Unit=>([(2, .ea 5 [[.int .i64 c.kind, .str c.name, .int .i64 c.lo, .int .i64 c.hi, .sl 5 (c.parts.map cnR)]] 0 0),(3, .ea 5 [[.int .i64 d.kind, .str d.name, .int .i64 d.lo, .int .i64 d.hi, .sl 5 (d.parts.map cnR)]] 0 0),(5, .d (.int .i64 _)),(6, .d (.int .i64 0))],[])) (λ_=>True) (λ_=>0) () trivial ⟨by repeat' (first|exact trivial|exact rfl|exact⟨rfl,rfl⟩|refine And.intro ?_ ?_),trivial⟩ ?_
  rintro⟨⟩ _
  ((conv=>whnf);repeat' ((first|(intro hq;(try simp only [lnS]at hq);(try rewrite [List.length_map]))|refine sJ ?_|refine .intro _ (.intro rfl ?_)|refine exL (k:= ?_)|refine dwR ?_|((first|refine aD ?_ ?_|refine aF ?_ ?_)<;>intro hb<;>(first|exact ddX hb|try simp only [lnS]at hb))|(refine aC ?_ ?_<;>intro hb<;>try exact dsX hb))<;>(conv=>whnf)))
  refine bZ (Eq.symm ?_)
  simp [orF, *]
end Go.Proofs.YtfhoddcminbffaaGreatDoor
namespace Go.Proofs.YtfhoddcminbffaaGreatDoor
open Go.Proofs
set_option maxRecDepth 10000
attribute [local irreducible] aV aM Tri aI
theorem vK (s:List UInt8):Tri Tryz.prog 168 [.d (.str s)] [] (λr=>r= .d (.bool (kwF s))):=by
 refine aN hty Tryz.func168 rfl (kp [0,2,3,4]) [] _ _ _ (by simp [Tryz.f168]) (by simp) ?_
 ((conv=>whnf);repeat' ((first|(intro hq;try simp only [lnS]at hq)|refine sJ ?_|refine .intro _ (.intro rfl ?_)|refine exL (k:= ?_)|refine dwR ?_|((first|refine aD ?_ ?_|refine aF ?_ ?_)<;>intro hb<;>(first|exact ddX hb|try simp only [lnS]at hb))|(refine aC ?_ ?_<;>intro hb<;>try exact dsX hb))<;>(conv=>whnf)))
 all_goals first|(rename_i hb;subst hb;rfl)|skip
 have:kwF s=false:=by simp [kwF,kws, *]
 rw [this];rfl
end Go.Proofs.YtfhoddcminbffaaGreatDoor
