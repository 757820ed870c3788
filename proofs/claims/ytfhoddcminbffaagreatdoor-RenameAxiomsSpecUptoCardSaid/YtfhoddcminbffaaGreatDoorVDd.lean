/-
  Terms: the reference's form. Terms: the reference's bare, Empty, fields, CheckAxiom.
  Conditions: none.
-/
import Derived.Test.YtfhoddcminbffaaGreatDoorVEa
import Derived.Test.YtfhoddcminbffaaGreatDoorVBt
import Derived.Test.YtfhoddcminbffaaGreatDoorVDc
set_option linter.unnecessarySimpa false
set_option linter.unusedSectionVars false
set_option linter.unusedSimpArgs false
set_option linter.unusedVariables false
set_option maxHeartbeats 16000000
namespace Go.Proofs.YtfhoddcminbffaaGreatDoor
open Go.Proofs
set_option maxRecDepth 10000
attribute [local irreducible] aV aM Tri aI YVC dQ bN
theorem aGt: ∀c:Cn,(aL c).2≠0->(aL c).1=c0:=by
 refine Cn.ind ?_
 intro c ih h
 rw [fZ]at h |-
 split at h
 ·rename_i h6
  rw [if_pos h6]
  cases hp:c.parts with
  |nil=>rfl
  |cons p r=>
   rw [hp]at h
   have e:pA c.name ((p::r).map aL)=if (aL p).2≠0\/(aL p).1.kind=2 then aL p else (.mk 6 c.name 0 0 [(aL p).1],0):=rfl
   rw [e]at h |-
   split at h
   ·rename_i h1
    rw [if_pos h1]
    exact ih p (by rw [hp];simp) h
   ·exact absurd rfl h
 ·rename_i h6
  rw [if_neg h6]
  split at h
  ·rename_i h5
   rw [if_pos h5]
   by_cases hb: ∃p∈c.parts,(aL p).2≠0
   ·rw [aAy hb]
   ·have hb: ∀p∈c.parts,(aL p).2=0:= λp hp=>Classical.byContradiction λh'=>hb ⟨p,hp,h'⟩
    rw [zY hb]at h |-
    unfold hZ at h |-
    split at h
    ·exact absurd rfl h
    ·split at h
     ·exact absurd rfl h
     ·split at h
      ·exact absurd rfl h
      ·split at h
       ·rename_i hf h1 h2 h3
        rw [if_neg h1,if_neg h2,if_pos h3]
       ·exact absurd rfl h
  ·exact absurd rfl h
theorem kE {c:Cn}(h:bJ c=0):(c.kind≠5->c.kind≠6->c.parts=[])/\(c.kind=6->c.parts.length=1):=by
 unfold bJ at h
 split at h
 ·simp at h
 ·rename_i hk
  unfold fW at h
  split at h
  ·simp at h
  ·rename_i hn
   have hn1:¬ ((c.parts.length:Int) < (eD c.kind).least):= λe=>hn (.inl e)
   have hn2:¬ ((eD c.kind).most < c.parts.length):= λe=>hn (.inr (.inl e))
   refine⟨λh5 h6=> ?_,λh6=> ?_⟩
   ·have hk7:c.kind=1\/c.kind=2\/c.kind=3\/c.kind=4\/c.kind=7:=by omega
    have hm:(eD c.kind).most=0:=by rcases hk7 with e|e|e|e|e<;>rw [e]<;>rfl
    rw [hm]at hn2
    exact List.length_eq_zero_iff.1 (by omega)
   ·rw [h6]at hn1 hn2
    have e1:(eD 6).least=1:=rfl
    have e2:(eD 6).most=1:=rfl
    omega
theorem aHy {ps:List Cn}(h: ∀p∈ps,(aL p).2=0):hZ (dG [] ((ps.map λp=>(aL p).1).flatMap pF))=hY (ps.map aL):=by
 rw [zY h]
 congr 1
 refine aEj (qL _ _ .nil) λx=> ?_
 rw [wV,xM,List.mem_flatMap]
 simp only [List.not_mem_nil,false_or]
 constructor
 ·rintro⟨⟨t,ht,hx⟩,hk⟩
  obtain⟨p,hp,rfl⟩:=List.mem_map.1 ht
  refine⟨p,hp, ?_⟩
  unfold pF at hx
  unfold dJ
  split at hx
  ·rename_i h5
   rw [if_neg (by omega),if_pos h5];exact hx
  ·rename_i h5
   simp only [List.mem_singleton]at hx
   rw [hx]at hk
   rw [if_neg hk,if_neg h5,hx];simp
 ·rintro⟨p,hp,hx⟩
  have hf:=aFe p (h p hp) x hx
  refine⟨⟨_,List.mem_map_of_mem hp, ?_⟩,hf.1⟩
  unfold dJ at hx
  unfold pF
  split at hx
  ·simp at hx
  ·split at hx
   ·rename_i h5
    rw [if_pos h5];exact hx
   ·rename_i h5
    rw [if_neg h5];exact hx
theorem aB9: ∀ps:List Cn,fS (ps.map λp=>(aL p).1)<=fS ps
 | []=>by simp
 |c::r=>by
  have h1:=aB9 r
  have h2:=fE c
  rw [List.map_cons,bH,bH];omega
theorem aM2 {c:Cn}(h:c.parts=[]):PairW c 0 (.tup [.d (.agg [.int .i64 c.kind, .str c.name, .int .i64 c.lo, .int .i64 c.hi, .nil]), .d (.int .i64 0)]):=by
 refine⟨_,rfl, .inr ?_⟩
 rw [aJ,h]
 exact⟨rfl,rfl,rfl,rfl,rfl,trivial⟩
def sF (c:Cn):Prop:=Tri Tryz.prog 91 [.d (.agg (cnR c))] [] (λr=>r= .tup [.d (.agg (cnR (aL c).1)), .d (.int .i64 (aL c).2)])
theorem aBa {c:Cn}(hf:bJ c=0) {j:Nat}(hjl:j < c.parts.length) (hz: ∀p∈c.parts.take j,(aL p).2=0) (h:(aL c.parts[j]).2≠0):aL c=(c0,(aL c.parts[j]).2):=by
 obtain⟨hp0,hp6⟩:=kE hf
 have hnone:((c.parts.take j).map aL).find? (λr=>decide (r.2≠0))=none:=List.find?_eq_none.2 λr hr=>by
  obtain⟨p,hp,rfl⟩:=List.mem_map.1 hr
  simp [hz p hp]
 rw [fZ]
 by_cases h6:c.kind=6
 ·rw [if_pos h6]
  have hl1:=hp6 h6
  have hj0:j=0:=by omega
  subst hj0
  have e:c.parts.map aL=aL c.parts[0]::(c.parts.drop 1).map aL:=by
   rw [<-List.map_cons (f:=aL),<-List.drop_eq_getElem_cons hjl,List.drop_zero]
  rw [e,pA,if_pos (.inl h)]
  exact Prod.ext (aGt _ h) rfl
 ·rw [if_neg h6]
  by_cases h5:c.kind=5
  ·rw [if_pos h5]
   exact xN hjl hnone h
  ·have:=hp0 h5 h6
   rw [this]at hjl
   simp at hjl
theorem aEp (c:Cn) (hs:aQ c<=1000000) (hf:bJ c=0) (hk:c.kind=5) (ih: ∀p∈c.parts,sF p):sF c:=by
 unfold sF
 have hlp:=fM c.parts
 have hsz:=bY c
 have hk5:c.kind=5:=hk
 refine Tri.pairW ?_
 rw [aJ]
 refine aH false [1,6] hty Tryz.func91 rfl (kp [0,1,2,3,4,5,6,7,13,26,35,42,47]) [] _ _ _ (by simp [Tryz.f91]) (by simp) ?_
 ((conv=>whnf);repeat ((first|(intro hq;try simp only [lnS]at hq)|refine sI ?_|refine .intro _ (.intro rfl ?_));(conv=>whnf)))
 refine aK hty (λj:Nat=>([(1, .ea 5 [[.int .i64 c.kind, .str c.name, .int .i64 c.lo, .int .i64 c.hi, .sl 5 (c.parts.map cnR)]] 0 0),(2, .ptr 2 0),(4, .osl 8 5 (((c.parts.take j).map λp=>(aL p).1).map cnR)),(5, .d (.int .i64 j))],[(8, .own 46 5 (((c.parts.take j).map λp=>(aL p).1).map cnR).length),(2, .cells 46 [.d (.int .i64 0), .d (.str []), .d (.int .i64 0), .d (.int .i64 0), .d .nil])])) (λj=>j<=c.parts.length/\ ∀p∈c.parts.take j,(aL p).2=0) (λj=>c.parts.length - j) 0 ⟨by omega,by simp⟩ ⟨by repeat' (first|exact trivial|exact rfl|refine And.intro ?_ ?_),by repeat' (first|exact trivial|exact rfl|refine And.intro ?_ ?_)⟩ ?_
 rintro j ⟨hj,hz⟩
 ((conv=>whnf);repeat ((first|(intro hq;try simp only [lnS]at hq)|refine sI ?_|refine .intro _ (.intro rfl ?_));(conv=>whnf)))
 refine aD (λh1=> ?_) (λh1=> ?_)
 ·have hjl:j < c.parts.length:=by have h1:(j:Int) < ((c.parts.map cnR).length:Nat):=h1;rw [List.length_map]at h1;omega
  have hrow:(c.parts.map cnR)[(j:Int).toNat]? =some (cnR c.parts[j]):=aS hjl
  have hi:=ih c.parts[j] (List.getElem_mem hjl)
  unfold sF at hi
  have htk:((c.parts.take (j+1)).map λp=>(aL p).1)=((c.parts.take j).map λp=>(aL p).1)++[(aL c.parts[j]).1]:=by rw [List.take_succ_eq_append_getElem hjl,List.map_append];rfl
  have hz2:(aL c.parts[j]).2=0-> ∀p∈c.parts.take (j+1),(aL p).2=0:= λh p hp=>by
   rw [List.take_succ_eq_append_getElem hjl]at hp
   rcases List.mem_append.1 hp with hp|hp
   ·exact hz p hp
   ·simp only [List.mem_singleton]at hp;rw [hp];exact h
  have hbad:=aBa hf hjl hz
  have hll:((c.parts.take j).map λp=>(aL p).1).length=j:=by rw [List.length_map,List.length_take];omega
  clear ih hz hf hk
  generalize ((c.parts.take j).map λp=>(aL p).1)=L at *
  generalize c.parts[j]=x at *
  generalize aL c=R at *
  generalize (aL x).1=t at *
  generalize (aL x).2=e at *
  have htr:=aJ t
  rw [aJ]at hrow hi
  rw [aJ t]at hi
  ((conv=>whnf);repeat ((first|(refine⟨_,hrow, ?_⟩)|(refine aG [] hi trivial (λr hs=> ?_);subst hs)|(intro hq;try simp only [lnS]at hq)|refine sI ?_|refine .intro _ (.intro rfl ?_));(conv=>whnf)))
  refine aF (λh2=> ?_) (λh2=> ?_)
  ·((conv=>whnf);repeat ((first|(intro hq;try simp only [lnS]at hq)|refine sI ?_|refine .intro _ (.intro rfl ?_));(conv=>whnf)))
   rw [hbad h2]
   exact aDm e
  ·have h2:e=0:=by simpa using h2
   ((conv=>whnf);repeat ((first|(refine And.intro (by simp only [List.length_replicate,List.length_set,List.length_map,List.length_append,List.length_cons,List.length_nil];omega) ?_)|(intro hq;try simp only [lnS]at hq)|refine sI ?_|refine .intro _ (.intro rfl ?_));(conv=>whnf)))
   refine⟨j+1,⟨by omega,hz2 h2⟩,by dsimp only;omega, ?_⟩
   dsimp only
   rw [htk,List.map_append,List.map_singleton,htr,List.length_append]
   exact⟨by repeat' (first|exact trivial|exact rfl|refine And.intro ?_ ?_),by repeat' (first|exact trivial|exact rfl|refine And.intro ?_ ?_)⟩
 have hjl:j=c.parts.length:=by have h1:¬ (j:Int) < ((c.parts.map cnR).length:Nat):=h1;rw [List.length_map]at h1;omega
 subst hjl
 rw [List.take_length]at hz |-
 have hcj:=(aCd (c.parts.map λp=>(aL p).1) (by have:=aB9 c.parts;omega)).pairW
 rw [aHy hz]at hcj
 have hcj:=Tri.osl (id:=8) hcj
 rw [fZ,if_neg (by omega),if_pos hk5]
 rw [aJ (hY (c.parts.map aL)).1]at hcj
 generalize hY (c.parts.map aL)=M at *
 clear ih hz hf
 ((conv=>whnf);repeat ((first|(intro hq;try simp only [lnS]at hq)|refine sI ?_|refine .intro _ (.intro rfl ?_));(conv=>whnf)))
 refine aD (λh5=> ?_) (λh5=> ?_)
 ·((conv=>whnf);repeat ((first|(refine aG [] hcj trivial (λr hs=> ?_);subst hs)|(intro hq;try simp only [lnS]at hq)|refine sI ?_|refine .intro _ (.intro rfl ?_));(conv=>whnf)))
  exact mE _ _
 ·exact absurd hk5 h5
theorem aCb (c:Cn) (hs:aQ c<=1000000) (hf:bJ c=0) (hk:c.kind=6) (hps: ∀p∈c.parts,Okn p) (ih: ∀p∈c.parts,sF p):sF c:=by
 unfold sF
 have hlp:=fM c.parts
 have hsz:=bY c
 have hk6:c.kind=6:=hk
 have hl1:=(kE hf).2 hk
 refine Tri.pairW ?_
 rw [aJ]
 refine aH false [1,6] hty Tryz.func91 rfl (kp [0,1,2,3,4,5,6,7,13,26,35,42,47]) [] _ _ _ (by simp [Tryz.f91]) (by simp) ?_
 ((conv=>whnf);repeat ((first|(intro hq;try simp only [lnS]at hq)|refine sI ?_|refine .intro _ (.intro rfl ?_));(conv=>whnf)))
 refine aK hty (λj:Nat=>([(1, .ea 5 [[.int .i64 c.kind, .str c.name, .int .i64 c.lo, .int .i64 c.hi, .sl 5 (c.parts.map cnR)]] 0 0),(2, .ptr 2 0),(4, .osl 8 5 (((c.parts.take j).map λp=>(aL p).1).map cnR)),(5, .d (.int .i64 j))],[(8, .own 46 5 (((c.parts.take j).map λp=>(aL p).1).map cnR).length),(2, .cells 46 [.d (.int .i64 0), .d (.str []), .d (.int .i64 0), .d (.int .i64 0), .d .nil])])) (λj=>j<=c.parts.length/\ ∀p∈c.parts.take j,(aL p).2=0) (λj=>c.parts.length - j) 0 ⟨by omega,by simp⟩ ⟨by repeat' (first|exact trivial|exact rfl|refine And.intro ?_ ?_),by repeat' (first|exact trivial|exact rfl|refine And.intro ?_ ?_)⟩ ?_
 rintro j ⟨hj,hz⟩
 ((conv=>whnf);repeat ((first|(intro hq;try simp only [lnS]at hq)|refine sI ?_|refine .intro _ (.intro rfl ?_));(conv=>whnf)))
 refine aD (λh1=> ?_) (λh1=> ?_)
 ·have hjl:j < c.parts.length:=by have h1:(j:Int) < ((c.parts.map cnR).length:Nat):=h1;rw [List.length_map]at h1;omega
  have hrow:(c.parts.map cnR)[(j:Int).toNat]? =some (cnR c.parts[j]):=aS hjl
  have hi:=ih c.parts[j] (List.getElem_mem hjl)
  unfold sF at hi
  have htk:((c.parts.take (j+1)).map λp=>(aL p).1)=((c.parts.take j).map λp=>(aL p).1)++[(aL c.parts[j]).1]:=by rw [List.take_succ_eq_append_getElem hjl,List.map_append];rfl
  have hz2:(aL c.parts[j]).2=0-> ∀p∈c.parts.take (j+1),(aL p).2=0:= λh p hp=>by
   rw [List.take_succ_eq_append_getElem hjl]at hp
   rcases List.mem_append.1 hp with hp|hp
   ·exact hz p hp
   ·simp only [List.mem_singleton]at hp;rw [hp];exact h
  have hbad:=aBa hf hjl hz
  have hll:((c.parts.take j).map λp=>(aL p).1).length=j:=by rw [List.length_map,List.length_take];omega
  clear ih hz hf hk
  generalize ((c.parts.take j).map λp=>(aL p).1)=L at *
  generalize c.parts[j]=x at *
  generalize aL c=R at *
  generalize (aL x).1=t at *
  generalize (aL x).2=e at *
  have htr:=aJ t
  rw [aJ]at hrow hi
  rw [aJ t]at hi
  ((conv=>whnf);repeat ((first|(refine⟨_,hrow, ?_⟩)|(refine aG [] hi trivial (λr hs=> ?_);subst hs)|(intro hq;try simp only [lnS]at hq)|refine sI ?_|refine .intro _ (.intro rfl ?_));(conv=>whnf)))
  refine aF (λh2=> ?_) (λh2=> ?_)
  ·((conv=>whnf);repeat ((first|(intro hq;try simp only [lnS]at hq)|refine sI ?_|refine .intro _ (.intro rfl ?_));(conv=>whnf)))
   rw [hbad h2]
   exact aDm e
  ·have h2:e=0:=by simpa using h2
   ((conv=>whnf);repeat ((first|(refine And.intro (by simp only [List.length_replicate,List.length_set,List.length_map,List.length_append,List.length_cons,List.length_nil];omega) ?_)|(intro hq;try simp only [lnS]at hq)|refine sI ?_|refine .intro _ (.intro rfl ?_));(conv=>whnf)))
   refine⟨j+1,⟨by omega,hz2 h2⟩,by dsimp only;omega, ?_⟩
   dsimp only
   rw [htk,List.map_append,List.map_singleton,htr,List.length_append]
   exact⟨by repeat' (first|exact trivial|exact rfl|refine And.intro ?_ ?_),by repeat' (first|exact trivial|exact rfl|refine And.intro ?_ ?_)⟩
 have hjl:j=c.parts.length:=by have h1:¬ (j:Int) < ((c.parts.map cnR).length:Nat):=h1;rw [List.length_map]at h1;omega
 subst hjl
 rw [List.take_length]at hz |-
 obtain⟨p,hp⟩:=List.length_eq_one_iff.1 hl1
 have hz0:=hz p (by rw [hp];simp)
 have e:pA c.name (c.parts.map aL)=if (aL p).2≠0\/(aL p).1.kind=2 then aL p else (.mk 6 c.name 0 0 [(aL p).1],0):=by rw [hp];rfl
 have hml:(c.parts.map λp=>(aL p).1).map cnR=[cnR (aL p).1]:=by rw [hp];rfl
 rw [fZ,if_pos hk6,e,hml]
 have hzp:aL p=((aL p).1,0):=Prod.ext rfl hz0
 have hk7:(aL p).1.kind=2\/(aL p).1.kind=1\/(aL p).1.kind=3\/(aL p).1.kind=4\/(aL p).1.kind=5\/(aL p).1.kind=6\/(aL p).1.kind=7:=by
  have h1:=(jA _).1 (wM p (hps p (by rw [hp];simp)) hz0).ok
  have h2:=h1.1
  unfold bJ at h2
  split at h2
  ·simp at h2
  ·omega
 generalize (aL p).1=t at *
 have htr:=aJ t
 clear ih hz hf e hml
 rw [htr]
 have hl0:(0:Int).toNat < [[D.int .i64 t.kind, .str t.name, .int .i64 t.lo, .int .i64 t.hi, .sl 5 (t.parts.map cnR)]].length:=Nat.le.refl
 have hrow:[[D.int .i64 t.kind, .str t.name, .int .i64 t.lo, .int .i64 t.hi, .sl 5 (t.parts.map cnR)]][(0:Int).toNat]? =some [D.int .i64 t.kind, .str t.name, .int .i64 t.lo, .int .i64 t.hi, .sl 5 (t.parts.map cnR)]:=rfl
 have hrowsE:[[D.int .i64 t.kind, .str t.name, .int .i64 t.lo, .int .i64 t.hi, .sl 5 (t.parts.map cnR)]]=[t].map cnR:=by rw [List.map_singleton,htr]
 generalize [[D.int .i64 t.kind, .str t.name, .int .i64 t.lo, .int .i64 t.hi, .sl 5 (t.parts.map cnR)]]=rows at *
 ((conv=>whnf);repeat ((first|(intro hq;try simp only [lnS]at hq)|refine sI ?_|refine .intro _ (.intro rfl ?_));(conv=>whnf)))
 refine aD (λh5=> ?_) (λh5=> ?_)
 ·exact absurd (hk6.symm.trans h5) (by decide)
 ((conv=>whnf);repeat ((first|(intro hq;try simp only [lnS]at hq)|refine sI ?_|refine .intro _ (.intro rfl ?_));(conv=>whnf)))
 refine aD (λh6=> ?_) (λh6=> ?_)
 ·rcases hk7 with hk|hk
  ·rw [hk]at hrow
   rw [if_pos (.inr hk),hzp]
   ((conv=>whnf);repeat ((first|(refine And.intro hl0 ?_)|(refine⟨_,hrow, ?_⟩)|(intro hq;try simp only [lnS]at hq)|refine sI ?_|refine .intro _ (.intro rfl ?_));(conv=>whnf)))
   have h:=mE t 0
   rw [hk]at h
   exact h
  ·rw [if_neg (by rintro(h|h);exact h hz0;omega)]
   rcases hk with hk|hk|hk|hk|hk|hk
   all_goals
    rw [hk]at hrow
    ((conv=>whnf);repeat ((first|(refine And.intro hl0 ?_)|(refine⟨_,hrow, ?_⟩)|(intro hq;try simp only [lnS]at hq)|refine sI ?_|refine .intro _ (.intro rfl ?_));(conv=>whnf)))
    rw [hrowsE]
    exact mE (.mk 6 c.name 0 0 [t]) 0
 ·exact absurd hk6 h6
theorem aCc (c:Cn) (h5:c.kind≠5) (h6:c.kind≠6) (hp:c.parts=[]):sF c:=by
 unfold sF
 have hv:aL c=(c,0):=by rw [fZ,if_neg h6,if_neg h5]
 rw [hv]
 refine Tri.pairW ?_
 rw [aJ,hp,List.map_nil]
 refine aH false [1,6] hty Tryz.func91 rfl (kp [0,1,2,3,4,5,6,7,13,26,35,42,47]) [] _ _ _ (by simp [Tryz.f91]) (by simp) ?_
 ((conv=>whnf);repeat ((first|(intro hq;try simp only [lnS]at hq)|refine sI ?_|refine .intro _ (.intro rfl ?_));(conv=>whnf)))
 refine aK hty (λ_:Unit=>([(1, .ea 5 [[.int .i64 c.kind, .str c.name, .int .i64 c.lo, .int .i64 c.hi, .sl 5 []]] 0 0),(2, .ptr 2 0),(5, .d (.int .i64 0))],[(2, .cells 46 [.d (.int .i64 0), .d (.str []), .d (.int .i64 0), .d (.int .i64 0), .d .nil])])) (λ_=>True) (λ_=>0) () trivial ⟨by repeat' (first|exact trivial|exact rfl|refine And.intro ?_ ?_),by repeat' (first|exact trivial|exact rfl|refine And.intro ?_ ?_)⟩ ?_
 rintro _ _
 ((conv=>whnf);repeat ((first|(intro hq;try simp only [lnS]at hq)|refine sI ?_|refine .intro _ (.intro rfl ?_));(conv=>whnf)))
 refine aD (λhb=> ?_) (λhb=> ?_)
 ·exact absurd hb h5
 ((conv=>whnf);repeat ((first|(intro hq;try simp only [lnS]at hq)|refine sI ?_|refine .intro _ (.intro rfl ?_));(conv=>whnf)))
 refine aD (λhb=> ?_) (λhb=> ?_)
 ·exact absurd hb h6
 ((conv=>whnf);repeat ((first|(intro hq;try simp only [lnS]at hq)|refine sI ?_|refine .intro _ (.intro rfl ?_));(conv=>whnf)))
 exact aM2 hp
theorem aCa: ∀(c:Cn) (_:aQ c<=1000000) (_:Okn c),Tri Tryz.prog 91 [.d (.agg (cnR c))] [] (λr=>r= .tup [.d (.agg (cnR (aL c).1)), .d (.int .i64 (aL c).2)]):=by
 refine Cn.ind ?_
 intro c ih hs hok
 obtain⟨hf,hps⟩:=(jA c).1 hok
 have hih: ∀p∈c.parts,sF p:= λp hp=>ih p hp (by have:=cT hp;omega) (hps p hp)
 by_cases h5:c.kind=5
 ·exact aEp c hs hf h5 hih
 ·by_cases h6:c.kind=6
  ·exact aCb c hs hf h6 hps hih
  ·exact aCc c h5 h6 ((kE hf).1 h5 h6)
end Go.Proofs.YtfhoddcminbffaaGreatDoor
namespace Go.Proofs.YtfhoddcminbffaaGreatDoor
open Go.Proofs
set_option maxRecDepth 10000
attribute [local irreducible] aV aM Tri aI YVC dQ bN
theorem aHe {c:Cn}(h:Okn c) (h5:c.kind≠5) (h6:c.kind≠6):c.parts=[]:=by
 have hf:=((jA c).1 h).1
 have hk:1<=c.kind/\c.kind<=7:=by
  unfold bJ at hf
  split at hf
  ·exact absurd hf (by decide)
  ·omega
 rw [rP]at hf
 have hs:lE c=true:=by
  cases e:lE c
  ·rw [e,if_pos rfl]at hf;exact absurd hf (by decide)
  ·rfl
 unfold lE at hs
 have hl:c.parts.length=0:=by
  rw [if_neg h5,if_neg h6]at hs
  by_cases k1:c.kind=1\/c.kind=2
  ·rw [if_pos k1]at hs;simp only [Bool.and_eq_true,decide_eq_true_eq]at hs;omega
  ·rw [if_neg k1]at hs
   by_cases k2:c.kind=3\/c.kind=4
   ·rw [if_pos k2]at hs;simp only [Bool.and_eq_true,decide_eq_true_eq]at hs;omega
   ·rw [if_neg k2]at hs
    by_cases k3:c.kind=7
    ·rw [if_pos k3]at hs;simp only [Bool.and_eq_true,decide_eq_true_eq]at hs;omega
    ·omega
 exact List.eq_nil_of_length_eq_zero hl
theorem tO: ∀(c:Cn) (_:Okn c),Tri Tryz.prog 90 [.d (.agg (cnR c))] [] (λr=>r= .d (.bool (bU c))):=by
 refine Cn.ind ?_
 intro c ih hok
 have hp:=((jA c).1 hok).2
 have hB:bU c=if c.kind=4 then true else if c.kind=6 then false else lU c.parts:=by
  rw [gL]
  by_cases h4:c.kind=4
  ·rw [if_pos h4,if_pos h4]
  ·rw [if_neg h4,if_neg h4]
   by_cases h5:c.kind=5
   ·rw [if_pos h5,if_neg (by omega)]
   ·rw [if_neg h5]
    by_cases h6:c.kind=6
    ·rw [if_pos h6]
    ·rw [if_neg h6,aHe hok h5 h6];rfl
 rw [hB]
 clear hB hok
 rw [aJ]
 refine aH false [1] hty Tryz.func90 rfl (kp [0,1,2,3,6,9,14,22]) [] _ _ _ (by simp [Tryz.f90]) (by simp) ?_
 ((conv=>whnf);repeat' ((first|(intro hq;(try simp only [lnS]at hq);(try rewrite [List.length_map]))|refine sJ ?_|refine .intro _ (.intro rfl ?_)|refine exL (k:= ?_)|refine dwR ?_|((first|refine aD ?_ ?_|refine aF ?_ ?_)<;>intro hb<;>(first|exact ddX hb|try simp only [lnS]at hb))|(refine aC ?_ ?_<;>intro hb<;>try exact dsX hb))<;>(conv=>whnf)))
 ·rw [if_pos (by assumption)];rfl
 ·rw [if_neg (by assumption),if_pos (by assumption)];rfl
 ·rw [if_neg (by assumption),if_neg (by assumption)]
  refine aK hty (λj:Nat=>([(1, .ea 5 [[.int .i64 c.kind, .str c.name, .int .i64 c.lo, .int .i64 c.hi, .sl 5 (c.parts.map cnR)]] 0 0),(2, .d (.bool false)),(3, .d (.int .i64 j))],[])) (λj=>j<=c.parts.length/\lU c.parts=lU (c.parts.drop j)) (λj=>c.parts.length - j) 0 ⟨by omega,rfl⟩ ⟨by repeat' (first|exact trivial|exact rfl|exact⟨rfl,rfl⟩|refine And.intro ?_ ?_),trivial⟩ ?_
  rintro j ⟨hj,hn⟩
  ((conv=>whnf);repeat ((first|(intro hq;try simp only [lnS]at hq)|refine sI ?_|refine .intro _ (.intro rfl ?_));(conv=>whnf)))
  refine aD (λh1=> ?_) (λh1=> ?_)
  ·have hjl:j < c.parts.length:=by simp only [List.length_map]at h1;omega
   have hrow':(c.parts.map cnR)[(j:Int).toNat]? =some (cnR c.parts[j]):=aS hjl
   have hi:=ih c.parts[j] (List.getElem_mem hjl) (hp _ (List.getElem_mem hjl))
   rw [List.drop_eq_getElem_cons hjl,lU]at hn
   generalize c.parts[j]=x at hrow' hi hn
   rw [aJ]at hrow' hi
   generalize bU x=b at hi hn
   ((conv=>whnf);repeat' ((first|(intro hq;(try simp only [lnS]at hq);(try rewrite [List.length_map]))|refine sJ ?_|refine .intro _ (.intro rfl ?_)|refine exL (k:= ?_)|(refine⟨_,hrow', ?_⟩)|(refine aG [] hi trivial (λr hs=> ?_);subst hs)|refine dwR ?_|((first|refine aD ?_ ?_|refine aF ?_ ?_)<;>intro hb<;>(first|exact ddX hb|try simp only [lnS]at hb))|(refine aC ?_ ?_<;>intro hb<;>try exact dsX hb))<;>(conv=>whnf)))
   ·rw [if_pos (by assumption)]at hn
    exact bA hn.symm
   ·rw [if_neg (by rw [(by assumption:b=false)];decide)]at hn
    exact⟨j+1,⟨by omega,hn⟩,by dsimp only;omega,by repeat' (first|exact trivial|exact rfl|refine And.intro ?_ ?_),trivial⟩
  ·have hjl:j=c.parts.length:=by simp only [List.length_map]at h1;omega
   subst hjl
   rw [List.drop_length]at hn
   ((conv=>whnf);repeat' ((first|(intro hq;(try simp only [lnS]at hq);(try rewrite [List.length_map]))|refine sJ ?_|refine .intro _ (.intro rfl ?_)|refine exL (k:= ?_)|refine dwR ?_|((first|refine aD ?_ ?_|refine aF ?_ ?_)<;>intro hb<;>(first|exact ddX hb|try simp only [lnS]at hb))|(refine aC ?_ ?_<;>intro hb<;>try exact dsX hb))<;>(conv=>whnf)))
   exact bA hn.symm
theorem qQ (c:Cn):Tri Tryz.prog 86 [.d (.agg (cnR c))] [] (λr=>r= .d (.bool (eF c))):=by
 rw [aJ]
 have hE:eF c=(decide (c.kind=0) && (decide (c.name=[]) && (decide (c.lo=0) && (decide (c.hi=0) && decide (c.parts.length=0))))):=by
  unfold eF
  congr 4
  simp [List.length_eq_zero_iff]
 rw [hE]
 clear hE
 refine aH false [1] hty Tryz.func86 rfl (kp [0,1,2]) [] _ _ _ (by simp [Tryz.f86]) (by simp) ?_
 ((conv=>whnf);repeat' ((first|(intro hq;(try simp only [lnS]at hq);(try rewrite [List.length_map]))|refine sJ ?_|refine .intro _ (.intro rfl ?_)|refine exL (k:= ?_)|refine dwR ?_|((first|refine aD ?_ ?_|refine aF ?_ ?_)<;>intro hb<;>(first|exact ddX hb|try simp only [lnS]at hb))|(refine aC ?_ ?_<;>intro hb<;>try exact dsX hb))<;>(conv=>whnf)))
 all_goals (refine bA (Eq.symm ?_);simp_all<;>first|omega|(rw [Bool.eq_iff_iff];simp<;>omega))
theorem aDv {k:Int}(h:k < 1\/9 < k):cK k=⟨false,false,false,false,false,0,0⟩:=by
 unfold cK
 rcases h with h|h
 ·rw [show k.toNat=0 by omega];rfl
 ·rw [List.getD,List.getElem?_eq_none (show gM.length<=k.toNat by show 10<=k.toNat;omega)];rfl
def aMt (u:Use):SV:= .tup [.d (.bool u.left), .d (.bool u.right), .d (.bool u.role), .d (.bool u.a), .d (.bool u.b), .d (.int .i64 u.least), .d (.int .i64 u.most)]
theorem oO (k:Int):Tri Tryz.prog 85 [.d (.int .i64 k)] [] (λr=>r=aMt (cK k)):=by
 refine aH false [] hty Tryz.func85 rfl (kp [0,2,3,4,5,6,7,8,9,10,14,16,18,20,22,24]) [] _ _ _ (by simp [Tryz.f85]) (by simp) ?_
 ((conv=>whnf);repeat' ((first|(intro hq;(try simp only [lnS]at hq);(try rewrite [List.length_map]))|refine sJ ?_|refine .intro _ (.intro rfl ?_)|refine exL (k:= ?_)|refine dwR ?_|((first|refine aD ?_ ?_|refine aF ?_ ?_)<;>intro hb<;>(first|exact ddX hb|try simp only [lnS]at hb))|(refine aC ?_ ?_<;>intro hb<;>try exact dsX hb))<;>(conv=>whnf)))
 all_goals first
  |(subst_vars;rfl)
  |(rw [aDv (by omega)];rfl)
end Go.Proofs.YtfhoddcminbffaaGreatDoor
