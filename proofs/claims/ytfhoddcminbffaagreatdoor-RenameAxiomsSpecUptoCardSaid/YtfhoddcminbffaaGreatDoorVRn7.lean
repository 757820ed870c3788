/-
  Rename, reference: concepts and axioms with other names, Axioms. RenameAxiomsSpec, walked.
  Conditions: none.
-/
import Derived.Test.YtfhoddcminbffaaGreatDoorVRq
import Derived.Test.YtfhoddcminbffaaGreatDoorVRn2
set_option linter.unnecessarySimpa false
set_option linter.unusedSectionVars false
set_option linter.unusedSimpArgs false
set_option linter.unusedVariables false
set_option maxHeartbeats 32000000
namespace Go.Proofs.YtfhoddcminbffaaGreatDoor
open Go.Proofs
set_option maxRecDepth 10000
attribute [local irreducible] aV aM Tri aI YVC dQ bN
def wG (l:List Rn) (c:Cn):Prop:=Tri Tryz.prog 93 [.d (rnL l), .d (.agg (cnR c))] [] (λr=>r= .d (.agg (cnR (cI (aO l) c))))
theorem mI (l:List Rn): ∀(c:Cn) (_:aQ c<=1048576),wG l c:=by
 refine Cn.ind ?_
 intro c ih hs
 replace ih: ∀p∈c.parts,wG l p:= λp hp=>ih p hp (by have:=cT hp;omega)
 have hlp:=fM c.parts
 have hsz:=bY c
 have hnm: ∀k s,Tri Tryz.prog 16 [.d (rnL l), .d (.int .i64 k), .d (.str s)] [] (λr=>r= .d (.str (aO l k s))):= λk s=>lK l k s
 obtain⟨g,hg⟩: ∃g,g=aO l:=⟨_,rfl⟩
 rw [<-hg]at hnm
 have hln:c.parts.length<=1048576:=by omega
 clear hs hlp hsz
 unfold wG
 rw [<-hg]
 obtain⟨k,n,lo,hi,ps⟩:=c
 dsimp only [Cn.parts]at ih hln
 rw [aJ,zN,aJ]
 dsimp only [Cn.kind,Cn.name,Cn.lo,Cn.hi,Cn.parts]
 refine aH false [] hty Tryz.func93 rfl (kp [0,1,3,4,5,6,8,9,16,23,30,42]) [] _ _ _ (by simp [Tryz.f93]) (by simp) ?_
 ((conv=>whnf);repeat ((first|(intro hq;try simp only [lnS]at hq)|refine sI ?_|refine .intro _ (.intro rfl ?_));(conv=>whnf)))
 refine aD (λh3=> ?_) (λh3=> ?_)
 ·have h3:k=3:=h3
  have e:vL g k n=g 1 n:=by unfold vL;rw [if_pos h3]
  have c1:=hnm 1 n
  rw [e]
  generalize g 1 n=nm at *
  clear e hnm
  ((conv=>whnf);repeat ((first|(refine aG [] c1 trivial (λr hs=> ?_);subst hs)|(intro hq;try simp only [lnS]at hq)|refine sI ?_|refine .intro _ (.intro rfl ?_));(conv=>whnf)))
  refine aK hty (λj:Nat=>([(0, .d (rnL l)),(3, .ptr 3 0),(4, .ptr 4 0),(5, .osl 37 5 (((ps.take j).map (cI g)).map cnR)),(6, .d (.int .i64 j))],[(37, .own 46 5 (((ps.take j).map (cI g)).map cnR).length),(4, .cells 46 [.d (.int .i64 0), .d (.str []), .d (.int .i64 0), .d (.int .i64 0), .d .nil]),(3, .cells 46 [.d (.int .i64 k), .d (.str nm), .d (.int .i64 lo), .d (.int .i64 hi), .d (.sl 5 (ps.map cnR))])])) (λj=>j<=ps.length) (λj=>ps.length - j) 0 (by omega) ⟨by repeat' (first|exact trivial|exact rfl|refine And.intro ?_ ?_),by repeat' (first|exact trivial|exact rfl|refine And.intro ?_ ?_)⟩ ?_
  rintro j hj
  ((conv=>whnf);repeat ((first|(intro hq;try simp only [lnS]at hq)|refine sI ?_|refine .intro _ (.intro rfl ?_));(conv=>whnf)))
  refine aD (λh9=> ?_) (λh9=> ?_)
  ·have hjl:j < ps.length:=by have h9:(j:Int) < ((ps.map cnR).length:Nat):=h9;rw [List.length_map]at h9;omega
   have hrow:(ps.map cnR)[(j:Int).toNat]? =some (cnR ps[j]):=aS hjl
   have hi:=ih ps[j] (List.getElem_mem hjl)
   unfold wG at hi
   rw [<-hg]at hi
   have htk:(ps.take (j+1)).map (cI g)=(ps.take j).map (cI g)++[cI g ps[j]]:=by rw [List.take_succ_eq_append_getElem hjl,List.map_append];rfl
   have hll:((ps.take j).map (cI g)).length=j:=by rw [List.length_map,List.length_take];omega
   clear ih
   generalize (ps.take j).map (cI g)=L at *
   generalize ps[j]=x at *
   generalize cI g x=t at *
   have htr:=aJ t
   rw [aJ]at hrow hi
   rw [aJ t]at hi
   ((conv=>whnf);repeat ((first|(refine⟨_,hrow, ?_⟩)|(refine aG [] hi trivial (λr hs=> ?_);subst hs)|(refine And.intro (by simp only [List.length_replicate,List.length_set,List.length_map,List.length_append,List.length_cons,List.length_nil];omega) ?_)|(intro hq;try simp only [lnS]at hq)|refine sI ?_|refine .intro _ (.intro rfl ?_));(conv=>whnf)))
   refine⟨j+1,by omega,by dsimp only;omega, ?_⟩
   dsimp only
   rw [htk,List.map_append,List.map_singleton,htr,List.length_append]
   exact⟨by repeat' (first|exact trivial|exact rfl|refine And.intro ?_ ?_),by repeat' (first|exact trivial|exact rfl|refine And.intro ?_ ?_)⟩
  ·have hjl:j=ps.length:=by have h9:¬ (j:Int) < ((ps.map cnR).length:Nat):=h9;rw [List.length_map]at h9;omega
   subst hjl
   rw [List.take_length]
   ((conv=>whnf);repeat ((first|(intro hq;try simp only [lnS]at hq)|refine sI ?_|refine .intro _ (.intro rfl ?_));(conv=>whnf)))
   rfl
 have h3:¬ k=3:=h3
 ((conv=>whnf);repeat ((first|(intro hq;try simp only [lnS]at hq)|refine sI ?_|refine .intro _ (.intro rfl ?_));(conv=>whnf)))
 refine aD (λh6=> ?_) (λh6=> ?_)
 ·have h6:k=6:=h6
  have e:vL g k n=g 2 n:=by unfold vL;rw [if_neg h3,if_pos h6]
  have c1:=hnm 2 n
  rw [e]
  generalize g 2 n=nm at *
  clear e hnm
  ((conv=>whnf);repeat ((first|(refine aG [] c1 trivial (λr hs=> ?_);subst hs)|(intro hq;try simp only [lnS]at hq)|refine sI ?_|refine .intro _ (.intro rfl ?_));(conv=>whnf)))
  refine aK hty (λj:Nat=>([(0, .d (rnL l)),(3, .ptr 3 0),(4, .ptr 4 0),(5, .osl 37 5 (((ps.take j).map (cI g)).map cnR)),(6, .d (.int .i64 j))],[(37, .own 46 5 (((ps.take j).map (cI g)).map cnR).length),(4, .cells 46 [.d (.int .i64 0), .d (.str []), .d (.int .i64 0), .d (.int .i64 0), .d .nil]),(3, .cells 46 [.d (.int .i64 k), .d (.str nm), .d (.int .i64 lo), .d (.int .i64 hi), .d (.sl 5 (ps.map cnR))])])) (λj=>j<=ps.length) (λj=>ps.length - j) 0 (by omega) ⟨by repeat' (first|exact trivial|exact rfl|refine And.intro ?_ ?_),by repeat' (first|exact trivial|exact rfl|refine And.intro ?_ ?_)⟩ ?_
  rintro j hj
  ((conv=>whnf);repeat ((first|(intro hq;try simp only [lnS]at hq)|refine sI ?_|refine .intro _ (.intro rfl ?_));(conv=>whnf)))
  refine aD (λh9=> ?_) (λh9=> ?_)
  ·have hjl:j < ps.length:=by have h9:(j:Int) < ((ps.map cnR).length:Nat):=h9;rw [List.length_map]at h9;omega
   have hrow:(ps.map cnR)[(j:Int).toNat]? =some (cnR ps[j]):=aS hjl
   have hi:=ih ps[j] (List.getElem_mem hjl)
   unfold wG at hi
   rw [<-hg]at hi
   have htk:(ps.take (j+1)).map (cI g)=(ps.take j).map (cI g)++[cI g ps[j]]:=by rw [List.take_succ_eq_append_getElem hjl,List.map_append];rfl
   have hll:((ps.take j).map (cI g)).length=j:=by rw [List.length_map,List.length_take];omega
   clear ih
   generalize (ps.take j).map (cI g)=L at *
   generalize ps[j]=x at *
   generalize cI g x=t at *
   have htr:=aJ t
   rw [aJ]at hrow hi
   rw [aJ t]at hi
   ((conv=>whnf);repeat ((first|(refine⟨_,hrow, ?_⟩)|(refine aG [] hi trivial (λr hs=> ?_);subst hs)|(refine And.intro (by simp only [List.length_replicate,List.length_set,List.length_map,List.length_append,List.length_cons,List.length_nil];omega) ?_)|(intro hq;try simp only [lnS]at hq)|refine sI ?_|refine .intro _ (.intro rfl ?_));(conv=>whnf)))
   refine⟨j+1,by omega,by dsimp only;omega, ?_⟩
   dsimp only
   rw [htk,List.map_append,List.map_singleton,htr,List.length_append]
   exact⟨by repeat' (first|exact trivial|exact rfl|refine And.intro ?_ ?_),by repeat' (first|exact trivial|exact rfl|refine And.intro ?_ ?_)⟩
  ·have hjl:j=ps.length:=by have h9:¬ (j:Int) < ((ps.map cnR).length:Nat):=h9;rw [List.length_map]at h9;omega
   subst hjl
   rw [List.take_length]
   ((conv=>whnf);repeat ((first|(intro hq;try simp only [lnS]at hq)|refine sI ?_|refine .intro _ (.intro rfl ?_));(conv=>whnf)))
   rfl
 have h6:¬ k=6:=h6
 ((conv=>whnf);repeat ((first|(intro hq;try simp only [lnS]at hq)|refine sI ?_|refine .intro _ (.intro rfl ?_));(conv=>whnf)))
 refine aD (λh7=> ?_) (λh7=> ?_)
 ·have h7:k=7:=h7
  have e:vL g k n=g 3 n:=by unfold vL;rw [if_neg h3,if_neg h6,if_pos h7]
  have c1:=hnm 3 n
  rw [e]
  generalize g 3 n=nm at *
  clear e hnm
  ((conv=>whnf);repeat ((first|(refine aG [] c1 trivial (λr hs=> ?_);subst hs)|(intro hq;try simp only [lnS]at hq)|refine sI ?_|refine .intro _ (.intro rfl ?_));(conv=>whnf)))
  refine aK hty (λj:Nat=>([(0, .d (rnL l)),(3, .ptr 3 0),(4, .ptr 4 0),(5, .osl 37 5 (((ps.take j).map (cI g)).map cnR)),(6, .d (.int .i64 j))],[(37, .own 46 5 (((ps.take j).map (cI g)).map cnR).length),(4, .cells 46 [.d (.int .i64 0), .d (.str []), .d (.int .i64 0), .d (.int .i64 0), .d .nil]),(3, .cells 46 [.d (.int .i64 k), .d (.str nm), .d (.int .i64 lo), .d (.int .i64 hi), .d (.sl 5 (ps.map cnR))])])) (λj=>j<=ps.length) (λj=>ps.length - j) 0 (by omega) ⟨by repeat' (first|exact trivial|exact rfl|refine And.intro ?_ ?_),by repeat' (first|exact trivial|exact rfl|refine And.intro ?_ ?_)⟩ ?_
  rintro j hj
  ((conv=>whnf);repeat ((first|(intro hq;try simp only [lnS]at hq)|refine sI ?_|refine .intro _ (.intro rfl ?_));(conv=>whnf)))
  refine aD (λh9=> ?_) (λh9=> ?_)
  ·have hjl:j < ps.length:=by have h9:(j:Int) < ((ps.map cnR).length:Nat):=h9;rw [List.length_map]at h9;omega
   have hrow:(ps.map cnR)[(j:Int).toNat]? =some (cnR ps[j]):=aS hjl
   have hi:=ih ps[j] (List.getElem_mem hjl)
   unfold wG at hi
   rw [<-hg]at hi
   have htk:(ps.take (j+1)).map (cI g)=(ps.take j).map (cI g)++[cI g ps[j]]:=by rw [List.take_succ_eq_append_getElem hjl,List.map_append];rfl
   have hll:((ps.take j).map (cI g)).length=j:=by rw [List.length_map,List.length_take];omega
   clear ih
   generalize (ps.take j).map (cI g)=L at *
   generalize ps[j]=x at *
   generalize cI g x=t at *
   have htr:=aJ t
   rw [aJ]at hrow hi
   rw [aJ t]at hi
   ((conv=>whnf);repeat ((first|(refine⟨_,hrow, ?_⟩)|(refine aG [] hi trivial (λr hs=> ?_);subst hs)|(refine And.intro (by simp only [List.length_replicate,List.length_set,List.length_map,List.length_append,List.length_cons,List.length_nil];omega) ?_)|(intro hq;try simp only [lnS]at hq)|refine sI ?_|refine .intro _ (.intro rfl ?_));(conv=>whnf)))
   refine⟨j+1,by omega,by dsimp only;omega, ?_⟩
   dsimp only
   rw [htk,List.map_append,List.map_singleton,htr,List.length_append]
   exact⟨by repeat' (first|exact trivial|exact rfl|refine And.intro ?_ ?_),by repeat' (first|exact trivial|exact rfl|refine And.intro ?_ ?_)⟩
  ·have hjl:j=ps.length:=by have h9:¬ (j:Int) < ((ps.map cnR).length:Nat):=h9;rw [List.length_map]at h9;omega
   subst hjl
   rw [List.take_length]
   ((conv=>whnf);repeat ((first|(intro hq;try simp only [lnS]at hq)|refine sI ?_|refine .intro _ (.intro rfl ?_));(conv=>whnf)))
   rfl
 have h7:¬ k=7:=h7
 ((conv=>whnf);repeat ((first|(intro hq;try simp only [lnS]at hq)|refine sI ?_|refine .intro _ (.intro rfl ?_));(conv=>whnf)))
 refine aD (λh4=> ?_) (λh4=> ?_)
 ·have h4:k=4:=h4
  have e:vL g k n=g 4 n:=by unfold vL;rw [if_neg h3,if_neg h6,if_neg h7,if_pos h4]
  have c1:=hnm 4 n
  rw [e]
  generalize g 4 n=nm at *
  clear e hnm
  ((conv=>whnf);repeat ((first|(refine aG [] c1 trivial (λr hs=> ?_);subst hs)|(intro hq;try simp only [lnS]at hq)|refine sI ?_|refine .intro _ (.intro rfl ?_));(conv=>whnf)))
  refine aK hty (λj:Nat=>([(0, .d (rnL l)),(3, .ptr 3 0),(4, .ptr 4 0),(5, .osl 37 5 (((ps.take j).map (cI g)).map cnR)),(6, .d (.int .i64 j))],[(37, .own 46 5 (((ps.take j).map (cI g)).map cnR).length),(4, .cells 46 [.d (.int .i64 0), .d (.str []), .d (.int .i64 0), .d (.int .i64 0), .d .nil]),(3, .cells 46 [.d (.int .i64 k), .d (.str nm), .d (.int .i64 lo), .d (.int .i64 hi), .d (.sl 5 (ps.map cnR))])])) (λj=>j<=ps.length) (λj=>ps.length - j) 0 (by omega) ⟨by repeat' (first|exact trivial|exact rfl|refine And.intro ?_ ?_),by repeat' (first|exact trivial|exact rfl|refine And.intro ?_ ?_)⟩ ?_
  rintro j hj
  ((conv=>whnf);repeat ((first|(intro hq;try simp only [lnS]at hq)|refine sI ?_|refine .intro _ (.intro rfl ?_));(conv=>whnf)))
  refine aD (λh9=> ?_) (λh9=> ?_)
  ·have hjl:j < ps.length:=by have h9:(j:Int) < ((ps.map cnR).length:Nat):=h9;rw [List.length_map]at h9;omega
   have hrow:(ps.map cnR)[(j:Int).toNat]? =some (cnR ps[j]):=aS hjl
   have hi:=ih ps[j] (List.getElem_mem hjl)
   unfold wG at hi
   rw [<-hg]at hi
   have htk:(ps.take (j+1)).map (cI g)=(ps.take j).map (cI g)++[cI g ps[j]]:=by rw [List.take_succ_eq_append_getElem hjl,List.map_append];rfl
   have hll:((ps.take j).map (cI g)).length=j:=by rw [List.length_map,List.length_take];omega
   clear ih
   generalize (ps.take j).map (cI g)=L at *
   generalize ps[j]=x at *
   generalize cI g x=t at *
   have htr:=aJ t
   rw [aJ]at hrow hi
   rw [aJ t]at hi
   ((conv=>whnf);repeat ((first|(refine⟨_,hrow, ?_⟩)|(refine aG [] hi trivial (λr hs=> ?_);subst hs)|(refine And.intro (by simp only [List.length_replicate,List.length_set,List.length_map,List.length_append,List.length_cons,List.length_nil];omega) ?_)|(intro hq;try simp only [lnS]at hq)|refine sI ?_|refine .intro _ (.intro rfl ?_));(conv=>whnf)))
   refine⟨j+1,by omega,by dsimp only;omega, ?_⟩
   dsimp only
   rw [htk,List.map_append,List.map_singleton,htr,List.length_append]
   exact⟨by repeat' (first|exact trivial|exact rfl|refine And.intro ?_ ?_),by repeat' (first|exact trivial|exact rfl|refine And.intro ?_ ?_)⟩
  ·have hjl:j=ps.length:=by have h9:¬ (j:Int) < ((ps.map cnR).length:Nat):=h9;rw [List.length_map]at h9;omega
   subst hjl
   rw [List.take_length]
   ((conv=>whnf);repeat ((first|(intro hq;try simp only [lnS]at hq)|refine sI ?_|refine .intro _ (.intro rfl ?_));(conv=>whnf)))
   rfl
 have h4:¬ k=4:=h4
 have e:vL g k n=n:=by unfold vL;rw [if_neg h3,if_neg h6,if_neg h7,if_neg h4]
 rw [e]
 obtain⟨nm,hnm2⟩: ∃nm,nm=n:=⟨_,rfl⟩
 rw [<-hnm2]
 clear e hnm
 ((conv=>whnf);repeat ((first|(intro hq;try simp only [lnS]at hq)|refine sI ?_|refine .intro _ (.intro rfl ?_));(conv=>whnf)))
 refine aK hty (λj:Nat=>([(0, .d (rnL l)),(3, .ptr 3 0),(4, .ptr 4 0),(5, .osl 37 5 (((ps.take j).map (cI g)).map cnR)),(6, .d (.int .i64 j))],[(37, .own 46 5 (((ps.take j).map (cI g)).map cnR).length),(4, .cells 46 [.d (.int .i64 0), .d (.str []), .d (.int .i64 0), .d (.int .i64 0), .d .nil]),(3, .cells 46 [.d (.int .i64 k), .d (.str nm), .d (.int .i64 lo), .d (.int .i64 hi), .d (.sl 5 (ps.map cnR))])])) (λj=>j<=ps.length) (λj=>ps.length - j) 0 (by omega) ⟨by repeat' (first|exact trivial|exact rfl|refine And.intro ?_ ?_),by repeat' (first|exact trivial|exact rfl|refine And.intro ?_ ?_)⟩ ?_
 rintro j hj
 ((conv=>whnf);repeat ((first|(intro hq;try simp only [lnS]at hq)|refine sI ?_|refine .intro _ (.intro rfl ?_));(conv=>whnf)))
 refine aD (λh9=> ?_) (λh9=> ?_)
 ·have hjl:j < ps.length:=by have h9:(j:Int) < ((ps.map cnR).length:Nat):=h9;rw [List.length_map]at h9;omega
  have hrow:(ps.map cnR)[(j:Int).toNat]? =some (cnR ps[j]):=aS hjl
  have hi:=ih ps[j] (List.getElem_mem hjl)
  unfold wG at hi
  rw [<-hg]at hi
  have htk:(ps.take (j+1)).map (cI g)=(ps.take j).map (cI g)++[cI g ps[j]]:=by rw [List.take_succ_eq_append_getElem hjl,List.map_append];rfl
  have hll:((ps.take j).map (cI g)).length=j:=by rw [List.length_map,List.length_take];omega
  clear ih
  generalize (ps.take j).map (cI g)=L at *
  generalize ps[j]=x at *
  generalize cI g x=t at *
  have htr:=aJ t
  rw [aJ]at hrow hi
  rw [aJ t]at hi
  ((conv=>whnf);repeat ((first|(refine⟨_,hrow, ?_⟩)|(refine aG [] hi trivial (λr hs=> ?_);subst hs)|(refine And.intro (by simp only [List.length_replicate,List.length_set,List.length_map,List.length_append,List.length_cons,List.length_nil];omega) ?_)|(intro hq;try simp only [lnS]at hq)|refine sI ?_|refine .intro _ (.intro rfl ?_));(conv=>whnf)))
  refine⟨j+1,by omega,by dsimp only;omega, ?_⟩
  dsimp only
  rw [htk,List.map_append,List.map_singleton,htr,List.length_append]
  exact⟨by repeat' (first|exact trivial|exact rfl|refine And.intro ?_ ?_),by repeat' (first|exact trivial|exact rfl|refine And.intro ?_ ?_)⟩
 ·have hjl:j=ps.length:=by have h9:¬ (j:Int) < ((ps.map cnR).length:Nat):=h9;rw [List.length_map]at h9;omega
  subst hjl
  rw [List.take_length]
  ((conv=>whnf);repeat ((first|(intro hq;try simp only [lnS]at hq)|refine sI ?_|refine .intro _ (.intro rfl ?_));(conv=>whnf)))
  rfl
theorem vN (l:List Rn) (x:Ax) (h1:aQ x.left<=1000000) (h2:aQ x.right<=1000000) (h3:x.roles.length<=1000000):Tri Tryz.prog 46 [.d (rnL l), .d (.agg (axR x))] [] (λr=>r= .d (.agg (axR (gE (aO l) x)))):=by
 have cl:=mI l x.left (by omega)
 have cr:=mI l x.right (by omega)
 unfold wG at cl cr
 have hnm: ∀k s,Tri Tryz.prog 16 [.d (rnL l), .d (.int .i64 k), .d (.str s)] [] (λr=>r= .d (.str (aO l k s))):= λk s=>lK l k s
 obtain⟨g,hg⟩: ∃g,g=aO l:=⟨_,rfl⟩
 rw [<-hg]at cl cr hnm |-
 have hv : axR (gE g x) = [.int .i64 x.kind, .bool x.isopen, .int .i64 (cI g x.left).kind, .str (cI g x.left).name, .int .i64 (cI g x.left).lo, .int .i64 (cI g x.left).hi, .sl 5 ((cI g x.left).parts.map cnR),
  .int .i64 (cI g x.right).kind, .str (cI g x.right).name, .int .i64 (cI g x.right).lo, .int .i64 (cI g x.right).hi, .sl 5 ((cI g x.right).parts.map cnR), .sl 1 ((x.roles.map (g 2)).map dR), .str (g 2 x.role), .str (g 4 x.a), .str (g 4 x.b)]:=rfl
 rw [hv]
 clear hv hg
 rw [aJ,aJ (cI g x.left)]at cl
 rw [aJ,aJ (cI g x.right)]at cr
 generalize cI g x.left=L at *
 generalize cI g x.right=R at *
 have c3:=hnm 2 x.role
 have c4:=hnm 4 x.a
 have c5:=hnm 4 x.b
 generalize g 2 x.role=w1 at *
 generalize g 4 x.a=w2 at *
 generalize g 4 x.b=w3 at *
 have hrl:(x.roles.map dR).length=x.roles.length:=List.length_map ..
 clear h1 h2
 refine aH false [] hty Tryz.func46 rfl (kp [0,1,3,4,5,6,22]) [] _ _ _ (by simp [Tryz.f46]) (by simp) ?_
 ((conv=>whnf);repeat ((first|(refine aG [] cl trivial (λr hs=> ?_);subst hs)|(intro hq;try simp only [lnS]at hq)|refine sI ?_|refine .intro _ (.intro rfl ?_));(conv=>whnf)))
 ((conv=>whnf);repeat ((first|(refine aG [] cr trivial (λr hs=> ?_);subst hs)|(intro hq;try simp only [lnS]at hq)|refine sI ?_|refine .intro _ (.intro rfl ?_));(conv=>whnf)))
 ((conv=>whnf);repeat ((first|(intro hq;try simp only [lnS]at hq)|refine sI ?_|refine .intro _ (.intro rfl ?_));(conv=>whnf)))
 refine aK hty (λj:Nat=>([(0, .d (rnL l)),(3, .ptr 3 0),(4, .ptr 4 0),(5, .osl 17 1 (((x.roles.take j).map (g 2)).map dR)),(6, .d (.int .i64 j))],[(17, .own 9 1 (((x.roles.take j).map (g 2)).map dR).length),(4, .cells 48 [.d (.int .i64 0), .d (.bool false), .d (.int .i64 0), .d (.str []), .d (.int .i64 0), .d (.int .i64 0), .d .nil, .d (.int .i64 0), .d (.str []), .d (.int .i64 0), .d (.int .i64 0), .d .nil, .d .nil, .d (.str []), .d (.str []), .d (.str [])]),(3, .cells 48 [.d (.int .i64 x.kind), .d (.bool x.isopen), .d (.int .i64 L.kind), .d (.str L.name), .d (.int .i64 L.lo), .d (.int .i64 L.hi), .d (.sl 5 (L.parts.map cnR)), .d (.int .i64 R.kind), .d (.str R.name), .d (.int .i64 R.lo), .d (.int .i64 R.hi), .d (.sl 5 (R.parts.map cnR)), .d (.sl 1 (x.roles.map dR)), .d (.str x.role), .d (.str x.a), .d (.str x.b)])])) (λj=>j<=x.roles.length) (λj=>x.roles.length - j) 0 (by omega) ⟨by repeat' (first|exact trivial|exact rfl|refine And.intro ?_ ?_),by repeat' (first|exact trivial|exact rfl|refine And.intro ?_ ?_)⟩ ?_
 rintro j hj
 ((conv=>whnf);repeat ((first|(intro hq;try simp only [lnS]at hq)|refine sI ?_|refine .intro _ (.intro rfl ?_));(conv=>whnf)))
 refine aD (λh9=> ?_) (λh9=> ?_)
 ·have hjl:j < x.roles.length:=by have h9:(j:Int) < ((x.roles.map dR).length:Nat):=h9;rw [hrl]at h9;omega
  have hrow:(x.roles.map dR)[(j:Int).toNat]? =some (dR x.roles[j]):=aS hjl
  have cn:=hnm 2 x.roles[j]
  have htk:((x.roles.take (j+1)).map (g 2)).map dR=((x.roles.take j).map (g 2)).map dR++[dR (g 2 x.roles[j])]:=by rw [List.take_succ_eq_append_getElem hjl,List.map_append,List.map_append];rfl
  have hll:((x.roles.take j).map (g 2)).length=j:=by rw [List.length_map,List.length_take];omega
  generalize g 2 x.roles[j]=w at *
  generalize (x.roles.take j).map (g 2)=Q at *
  generalize x.roles[j]=s at *
  ((conv=>whnf);repeat ((first|(refine⟨_,hrow, ?_⟩)|(refine aG [] cn trivial (λr hs=> ?_);subst hs)|(refine And.intro (by simp only [List.length_replicate,List.length_set,List.length_map,List.length_append,List.length_cons,List.length_nil];omega) ?_)|(intro hq;try simp only [lnS]at hq)|refine sI ?_|refine .intro _ (.intro rfl ?_));(conv=>whnf)))
  refine⟨j+1,by omega,by dsimp only;omega, ?_⟩
  dsimp only
  rw [htk,List.length_append]
  exact⟨by repeat' (first|exact trivial|exact rfl|refine And.intro ?_ ?_),by repeat' (first|exact trivial|exact rfl|refine And.intro ?_ ?_)⟩
 ·have hjl:j=x.roles.length:=by have h9:¬ (j:Int) < ((x.roles.map dR).length:Nat):=h9;rw [hrl]at h9;omega
  subst hjl
  rw [List.take_length]
  ((conv=>whnf);repeat ((first|(refine aG [] c3 trivial (λr hs=> ?_);subst hs)|(intro hq;try simp only [lnS]at hq)|refine sI ?_|refine .intro _ (.intro rfl ?_));(conv=>whnf)))
  ((conv=>whnf);repeat ((first|(refine aG [] c4 trivial (λr hs=> ?_);subst hs)|(intro hq;try simp only [lnS]at hq)|refine sI ?_|refine .intro _ (.intro rfl ?_));(conv=>whnf)))
  ((conv=>whnf);repeat ((first|(refine aG [] c5 trivial (λr hs=> ?_);subst hs)|(intro hq;try simp only [lnS]at hq)|refine sI ?_|refine .intro _ (.intro rfl ?_));(conv=>whnf)))
  rfl
theorem sR (l:List Rn) (xs:List Ax) (hs: ∀x∈xs,aQ x.left<=1000000/\aQ x.right<=1000000) (hx:xs.length<=1000000):Tri Tryz.prog 10 [.d (rnL l), .d (.sl 16 (xs.map axR))] [] (λr=>r= .tup [.d (.sl 16 ((lW l xs).1.map axR)), .d (.int .i64 (lW l xs).2)]):=by
 refine Tri.pairS ?_
 have ck:=oK l
 have hrl:(xs.map axR).length=xs.length:=List.length_map ..
 refine aH false [11] hty Tryz.func10 rfl (kp [0,1,4,5,6,7,8,9,10,11,12,16,21,30,36,50]) [] _ _ _ (by simp [Tryz.f10]) (by simp) ?_
 ((conv=>whnf);repeat ((first|(refine aG [] ck trivial (λr hs=> ?_);subst hs)|(intro hq;try simp only [lnS]at hq)|refine sI ?_|refine .intro _ (.intro rfl ?_));(conv=>whnf)))
 refine aF (λh1=> ?_) (λh1=> ?_)
 ·have hv:lW l xs=([],cD l):=by unfold lW;rw [if_pos h1]
  rw [hv]
  ((conv=>whnf);repeat' ((first|(intro hq;(try simp only [lnS]at hq);(try rewrite [List.length_map]))|refine sJ ?_|refine .intro _ (.intro rfl ?_)|refine exL (k:= ?_)|refine dwR ?_|((first|refine aD ?_ ?_|refine aF ?_ ?_)<;>intro hb<;>(first|exact ddX hb|try simp only [lnS]at hb))|(refine aC ?_ ?_<;>intro hb<;>try exact dsX hb))<;>(conv=>whnf)))
  exact aHo _ _
 have h0:cD l=0:=by simpa using h1
 clear h1 ck
 ((conv=>whnf);repeat ((first|(intro hq;try simp only [lnS]at hq)|refine sI ?_|refine .intro _ (.intro rfl ?_));(conv=>whnf)))
 refine aK hty (λj:Nat=>([(0, .d (rnL l)),(1, .d (.sl 16 (xs.map axR))),(7, .d (.int .i64 j))],[])) (λj=>j<=xs.length/\ ∀x∈xs.take j,bK x=0) (λj=>xs.length - j) 0 ⟨by omega,by simp⟩ ⟨by repeat' (first|exact trivial|exact rfl|refine And.intro ?_ ?_),by repeat' (first|exact trivial|exact rfl|refine And.intro ?_ ?_)⟩ ?_
 rintro j ⟨hj,hz⟩
 ((conv=>whnf);repeat ((first|(intro hq;try simp only [lnS]at hq)|refine sI ?_|refine .intro _ (.intro rfl ?_));(conv=>whnf)))
 refine aD (λh1=> ?_) (λh1=> ?_)
 ·have hjl:j < xs.length:=by have h1:(j:Int) < ((xs.map axR).length:Nat):=h1;rw [hrl]at h1;omega
  have hrow:=pY hjl
  have hq:=hs _ (List.getElem_mem hjl)
  have c:=jI xs[j] hq.1 hq.2
  have hv:bK xs[j]≠0->lW l xs=([],bK xs[j]):= λh2=>by
   unfold lW
   rw [if_neg (λq=>q h0),nY hjl hz h2,if_pos h2]
  have hz2:bK xs[j]=0-> ∀x∈xs.take (j+1),bK x=0:= λh x hx=>by
   rw [List.take_succ_eq_append_getElem hjl]at hx
   rcases List.mem_append.1 hx with hx|hx
   ·exact hz x hx
   ·simp only [List.mem_singleton]at hx;subst hx;exact h
  clear hq hz
  generalize bK xs[j]=e at *
  generalize xs[j]=x at *
  ((conv=>whnf);repeat ((first|(refine⟨_,hrow, ?_⟩)|(refine aG [] c trivial (λr hs=> ?_);subst hs)|(intro hq;try simp only [lnS]at hq)|refine sI ?_|refine .intro _ (.intro rfl ?_));(conv=>whnf)))
  refine aF (λh2=> ?_) (λh2=> ?_)
  ·rw [hv h2]
   ((conv=>whnf);repeat' ((first|(intro hq;(try simp only [lnS]at hq);(try rewrite [List.length_map]))|refine sJ ?_|refine .intro _ (.intro rfl ?_)|refine exL (k:= ?_)|refine dwR ?_|((first|refine aD ?_ ?_|refine aF ?_ ?_)<;>intro hb<;>(first|exact ddX hb|try simp only [lnS]at hb))|(refine aC ?_ ?_<;>intro hb<;>try exact dsX hb))<;>(conv=>whnf)))
   exact aHo _ _
  ·((conv=>whnf);repeat' ((first|(intro hq;(try simp only [lnS]at hq);(try rewrite [List.length_map]))|refine sJ ?_|refine .intro _ (.intro rfl ?_)|refine exL (k:= ?_)|refine dwR ?_|((first|refine aD ?_ ?_|refine aF ?_ ?_)<;>intro hb<;>(first|exact ddX hb|try simp only [lnS]at hb))|(refine aC ?_ ?_<;>intro hb<;>try exact dsX hb))<;>(conv=>whnf)))
   exact⟨j+1,⟨by omega,hz2 (by simpa using h2)⟩,by dsimp only;omega,⟨by repeat' (first|exact trivial|exact rfl|refine And.intro ?_ ?_),by repeat' (first|exact trivial|exact rfl|refine And.intro ?_ ?_)⟩⟩
 have hjl:j=xs.length:=by have h1:¬ (j:Int) < ((xs.map axR).length:Nat):=h1;rw [hrl]at h1;omega
 subst hjl
 rw [List.take_length]at hz
 have hv:lW l xs=wO (aO l) xs:=by
  unfold lW
  rw [if_neg (λq=>q h0),rO hz,if_neg (by simp)]
 rw [hv]
 clear hv h1 hj
 ((conv=>whnf);repeat ((first|(intro hq;try simp only [lnS]at hq)|refine sI ?_|refine .intro _ (.intro rfl ?_));(conv=>whnf)))
 refine aK hty (λj:Nat=>([(0, .d (rnL l)),(1, .d (.sl 16 (xs.map axR))),(9, .osl 32 16 ((xs.take j).map λx=>axR (bO (gE (aO l) x)).1)),(10, .d (.int .i64 j))],[(32, .own 48 16 ((xs.take j).map λx=>axR (bO (gE (aO l) x)).1).length)])) (λj=>j<=xs.length/\ ∀x∈xs.take j,(bO (gE (aO l) x)).2=0) (λj=>xs.length - j) 0 ⟨by omega,by simp⟩ ⟨by repeat' (first|exact trivial|exact rfl|refine And.intro ?_ ?_),by repeat' (first|exact trivial|exact rfl|refine And.intro ?_ ?_)⟩ ?_
 rintro j ⟨hj,ht⟩
 ((conv=>whnf);repeat ((first|(intro hq;try simp only [lnS]at hq)|refine sI ?_|refine .intro _ (.intro rfl ?_));(conv=>whnf)))
 refine aD (λh1=> ?_) (λh1=> ?_)
 ·have hjl:j < xs.length:=by have h1:(j:Int) < ((xs.map axR).length:Nat):=h1;rw [hrl]at h1;omega
  have hrow:=pY hjl
  obtain⟨b1,b2,b3⟩:=kY (hz xs[j] (List.getElem_mem hjl))
  have ca:=vN l xs[j] (by omega) (by omega) (by omega)
  have s1:aQ (gE (aO l) xs[j]).left<=1000000:=by show aQ (cI (aO l) xs[j].left)<=_;rw [wZ];omega
  have s2:aQ (gE (aO l) xs[j]).right<=1000000:=by show aQ (cI (aO l) xs[j].right)<=_;rw [wZ];omega
  have ct:=qP (gE (aO l) xs[j]) s1 s2
  have herr:=yV (g:=aO l) hjl ht
  have hlt:((xs.take j).map λx=>axR (bO (gE (aO l) x)).1).length=j:=by rw [List.length_map,List.length_take];omega
  have hrows:((xs.take (j+1)).map λx=>axR (bO (gE (aO l) x)).1)=((xs.take j).map λx=>axR (bO (gE (aO l) x)).1)++[axR (bO (gE (aO l) xs[j])).1]:=by
   rw [List.take_succ_eq_append_getElem hjl,List.map_append,List.map_cons,List.map_nil]
  have htk:(bO (gE (aO l) xs[j])).2=0-> ∀x∈xs.take (j+1),(bO (gE (aO l) x)).2=0:=by
   intro h2 x hx
   rw [List.take_succ_eq_append_getElem hjl]at hx
   rcases List.mem_append.1 hx with hx|hx
   ·exact ht x hx
   ·simp at hx;subst hx;exact h2
  have hb63:((xs.take j).map λx=>axR (bO (gE (aO l) x)).1).length+1<=9223372036854775807:=by rw [hlt];omega
  have hb48:(((xs.take j).map λx=>axR (bO (gE (aO l) x)).1).length+1)* 216<=140737488355328:=by rw [hlt];omega
  clear s1 s2 b1 b2 b3 ht
  generalize xs[j]=x at *
  generalize gE (aO l) x=X at *
  generalize (bO X).1=T at *
  generalize (bO X).2=e at *
  generalize ((xs.take j).map λx=>axR (bO (gE (aO l) x)).1)=rows at *
  ((conv=>whnf);repeat ((first|(refine⟨_,hrow, ?_⟩)|(refine aG [] ca trivial (λr hs=> ?_);subst hs)|(refine aG [] ct trivial (λr hs=> ?_);subst hs)|(intro hq;try simp only [lnS]at hq)|refine sI ?_|refine .intro _ (.intro rfl ?_));(conv=>whnf)))
  refine aF (λh2=> ?_) (λh2=> ?_)
  ·rw [herr (by simpa using h2)]
   ((conv=>whnf);repeat' ((first|(intro hq;(try simp only [lnS]at hq);(try rewrite [List.length_map]))|refine sJ ?_|refine .intro _ (.intro rfl ?_)|refine exL (k:= ?_)|refine dwR ?_|((first|refine aD ?_ ?_|refine aF ?_ ?_)<;>intro hb<;>(first|exact ddX hb|try simp only [lnS]at hb))|(refine aC ?_ ?_<;>intro hb<;>try exact dsX hb))<;>(conv=>whnf)))
   exact aHo _ _
  ·((conv=>whnf);repeat ((first|(refine And.intro hb63 ?_)|(refine And.intro hb48 ?_)|(intro hq;try simp only [lnS]at hq)|refine sI ?_|refine .intro _ (.intro rfl ?_));(conv=>whnf)))
   refine⟨j+1,⟨by omega,htk (by simpa using h2)⟩,by dsimp only;omega, ?_⟩
   dsimp only
   rw [hrows,List.length_append]
   exact⟨by repeat' (first|exact trivial|exact rfl|refine And.intro ?_ ?_),by repeat' (first|exact trivial|exact rfl|refine And.intro ?_ ?_)⟩
 ·have hjl:j=xs.length:=by have h1:¬ (j:Int) < ((xs.map axR).length:Nat):=h1;rw [hrl]at h1;omega
  subst hjl
  rw [List.take_length]at ht |-
  rw [uW ht]
  rw [show (xs.map λx=>axR (bO (gE (aO l) x)).1)=(xs.map λx=>(bO (gE (aO l) x)).1).map axR by rw [List.map_map];rfl]
  ((conv=>whnf);repeat' ((first|(intro hq;(try simp only [lnS]at hq);(try rewrite [List.length_map]))|refine sJ ?_|refine .intro _ (.intro rfl ?_)|refine exL (k:= ?_)|refine dwR ?_|((first|refine aD ?_ ?_|refine aF ?_ ?_)<;>intro hb<;>(first|exact ddX hb|try simp only [lnS]at hb))|(refine aC ?_ ?_<;>intro hb<;>try exact dsX hb))<;>(conv=>whnf)))
  exact aJd _ _ _
end Go.Proofs.YtfhoddcminbffaaGreatDoor
namespace Go.Proofs.YtfhoddcminbffaaGreatDoor
open Go.Proofs
set_option maxRecDepth 10000
attribute [local irreducible] aV aM Tri aI YVC dQ bN
theorem aAf (l:List Rn) (xs:List Ax) (kind:Int) (name:List UInt8) (hsm: ∀x∈xs,aQ x.left<=1000000/\aQ x.right<=1000000):Tri Tryz.prog 3 [.d (rnL l), .d (.sl 16 (xs.map axR)), .d (.int .i64 kind), .d (.str name)] NG (λr=>r= .d (.bool true)):=by
 have hfew:=aF8 (l.map rnR) (xs.map axR)
 have hfx:aFl (l.map rnR).length (xs.map axR).length=true->l.length<=20/\xs.length<=20:=by
  intro h
  unfold aFl at h
  simp only [List.length_map,Bool.and_eq_true,decide_eq_true_eq]at h
  exact h
 generalize aFl (l.map rnR).length (xs.map axR).length=fw at hfew hfx
 have hfew:Tri Tryz.prog 8 [.d (rnL l), .d (.sl 16 (xs.map axR))] [] (λr=>r= .d (.bool fw)):=hfew
 refine aH false [] hty Tryz.func3 rfl (kp [0,1,2,3,8,9,10,11,12,14,16,18,27,55,57,58,59,60,67,68,69,70,81]) [] _ _ _ (by simp [Tryz.f3]) (by decide) ?_
 ((conv=>whnf);repeat ((first|(intro hq;try simp only [lnS]at hq)|refine sI ?_|refine .intro _ (.intro rfl ?_));(conv=>whnf)))
 refine aG NG aC4 ⟨rfl,rfl,trivial⟩ (λr hs=> ?_)
 subst hs
 ((conv=>whnf);repeat ((first|(intro hq;try simp only [lnS]at hq)|refine sI ?_|refine .intro _ (.intro rfl ?_));(conv=>whnf)))
 refine aG [] hfew trivial (λr hs=> ?_)
 subst hs
 cases fw with
 |false=>
  ((conv=>whnf);repeat' ((first|(intro hq;(try simp only [lnS]at hq);(try rewrite [List.length_map]))|refine sJ ?_|refine .intro _ (.intro rfl ?_)|refine exL (k:= ?_)|refine dwR ?_|((first|refine aD ?_ ?_|refine aF ?_ ?_)<;>intro hb<;>(first|exact ddX hb|try simp only [lnS]at hb))|(refine aC ?_ ?_<;>intro hb<;>try exact dsX hb))<;>(conv=>whnf)))
  all_goals rfl
 |true=>
  obtain⟨hl20,hx20⟩:=hfx rfl
  ((conv=>whnf);repeat ((first|(intro hq;try simp only [lnS]at hq)|refine sI ?_|refine .intro _ (.intro rfl ?_));(conv=>whnf)))
  refine aD (λh0=> ?_) (λh0=> ?_)
  ·((conv=>whnf);repeat' ((first|(intro hq;(try simp only [lnS]at hq);(try rewrite [List.length_map]))|refine sJ ?_|refine .intro _ (.intro rfl ?_)|refine exL (k:= ?_)|refine dwR ?_|((first|refine aD ?_ ?_|refine aF ?_ ?_)<;>intro hb<;>(first|exact ddX hb|try simp only [lnS]at hb))|(refine aC ?_ ?_<;>intro hb<;>try exact dsX hb))<;>(conv=>whnf)))
   all_goals rfl
  have ka:=mG l xs (by omega)
  have kb:=sR l xs hsm (by omega)
  have kc:=cV l
  have kd:=oK l
  have hS:=aL6 (l:=l) (xs:=xs)
  have ks:=aCr (lW l xs).1 hS
  generalize (lW l xs).1=Y at *
  generalize (lW l xs).2=eY at *
  generalize cD l=eC at *
  clear hfew hfx hS hsm
  ((conv=>whnf);repeat' ((first|(intro hq;(try simp only [lnS]at hq);(try rewrite [List.length_map]))|refine sJ ?_|refine .intro _ (.intro rfl ?_)|refine exL (k:= ?_)|(refine aG NG ka ⟨rfl,rfl,trivial⟩ (λr hs=> ?_);subst hs)|(refine aG [] kb trivial (λr hs=> ?_);subst hs)|(refine aG [] ks trivial (λr hs=> ?_);subst hs)|(refine aG [] kc trivial (λr hs=> ?_);subst hs)|(refine aG [] kd trivial (λr hs=> ?_);subst hs)|refine dwR ?_|((first|refine aD ?_ ?_|refine aF ?_ ?_)<;>intro hb<;>(first|exact ddX hb|try simp only [lnS]at hb))|(refine aC ?_ ?_<;>intro hb<;>try exact dsX hb))<;>(conv=>whnf)))
  all_goals try (exfalso;first|contradiction|omega|(simp at *;done))
  refine aK hty (λj:Nat=>([(0, .d (rnL l)),(3, .d (.str name)),(57, .d (.sl 1 [[.int .i64 kind],[.int .i64 1],[.int .i64 2],[.int .i64 3],[.int .i64 4]])),(58, .d (.int .i64 5)),(59, .d (.int .i64 j))],NG)) (λj=>j<=5) (λj=>5 - j) 0 (by omega) ⟨by repeat' (first|exact trivial|exact rfl|exact⟨rfl,rfl⟩|refine And.intro ?_ ?_),⟨rfl,rfl,trivial⟩⟩ ?_
  intro j hj
  ((conv=>whnf);repeat ((first|(intro hq;try simp only [lnS]at hq)|refine sI ?_|refine .intro _ (.intro rfl ?_));(conv=>whnf)))
  refine aD (λh1=> ?_) (λh1=> ?_)
  ·have hj5:j < 5:=by omega
   obtain⟨k,hrow⟩: ∃k:Int,([[.int .i64 kind],[.int .i64 1],[.int .i64 2],[.int .i64 3],[.int .i64 4]]:List (List D))[(j:Int).toNat]? =some [.int .i64 k]:=by
    have h9:j=0\/j=1\/j=2\/j=3\/j=4:=by omega
    rcases h9 with rfl|rfl|rfl|rfl|rfl<;>exact⟨_,rfl⟩
   ((conv=>whnf);repeat ((first|(refine⟨_,hrow, ?_⟩)|(intro hq;try simp only [lnS]at hq)|refine sI ?_|refine .intro _ (.intro rfl ?_));(conv=>whnf)))
   refine bX false [5] hty Tryz.func14 rfl (kp [0,2,3,5,7,8,9,10]) 200 (by simp [Tryz.f14]) ?_
   ((conv=>whnf);repeat ((first|(intro hq;try simp only [lnS]at hq)|refine sI ?_|refine .intro _ (.intro rfl ?_));(conv=>whnf)))
   refine aK hty (λi:Nat=>([(3, .osl 206 1 ((tU (l.take i)).map dR)),(7, .d (rnL l)),(8, .d (.int .i64 l.length)),(9, .d (.int .i64 i))],(206, .own 9 1 ((tU (l.take i)).map dR).length)::NG)) (λi=>i<=l.length) (λi=>l.length - i) 0 (by omega) ⟨by repeat' (first|exact trivial|exact rfl|(rw [List.length_map];exact rfl)|refine And.intro ?_ ?_),⟨rfl,rfl,rfl,trivial⟩⟩ ?_
   rintro i hi
   ((conv=>whnf);repeat ((first|(intro hq;try simp only [lnS]at hq)|refine sI ?_|refine .intro _ (.intro rfl ?_));(conv=>whnf)))
   refine aD (λh2=> ?_) (λh2=> ?_)
   ·have hjl:i < l.length:=by omega
    have hrow:(l.map rnR)[(i:Int).toNat]? =some (rnR l[i]):=aS hjl
    have hnt:=aF2 hjl
    have hln:=aAw (l.take i)
    have hlt:(l.take i).length<=1000:=by rw [List.length_take];omega
    generalize l[i]=x at hrow hnt
    have hrows:(tU (l.take (i+1))).map dR=(tU (l.take i)).map dR++[dR x.old,dR x.new]:=by rw [hnt,List.map_append];rfl
    ((conv=>whnf);repeat' ((first|(intro hq;(try simp only [lnS]at hq);(try rewrite [List.length_map]))|refine sJ ?_|refine .intro _ (.intro rfl ?_)|refine exL (k:= ?_)|(refine⟨_,hrow, ?_⟩)|refine dwR ?_|((first|refine aD ?_ ?_|refine aF ?_ ?_)<;>intro hb<;>(first|exact ddX hb|try simp only [lnS]at hb))|(refine aC ?_ ?_<;>intro hb<;>try exact dsX hb))<;>(conv=>whnf)))
    refine⟨i+1,by dsimp only;omega,by dsimp only;omega, ?_⟩
    dsimp only
    rw [hrows,List.length_append]
    exact⟨by repeat' (first|exact trivial|exact rfl|refine And.intro ?_ ?_),by repeat' (first|exact trivial|exact rfl|refine And.intro ?_ ?_)⟩
   have hjl:i=l.length:=by omega
   subst hjl
   rw [List.take_length]
   have hnl:=aAw l
   ((conv=>whnf);repeat' ((first|(intro hq;(try simp only [lnS]at hq);(try rewrite [List.length_map]))|refine sJ ?_|refine .intro _ (.intro rfl ?_)|refine exL (k:= ?_)|refine dwR ?_|((first|refine aD ?_ ?_|refine aF ?_ ?_)<;>intro hb<;>(first|exact ddX hb|try simp only [lnS]at hb))|(refine aC ?_ ?_<;>intro hb<;>try exact dsX hb))<;>(conv=>whnf)))
   have hrows:((tU l).map dR++[dR name])=(tU l++[name]).map dR:=by rw [List.map_append];rfl
   have hget: ∀i:Nat,i < ((tU l).map dR++[dR name]).length-> ∃s,((tU l).map dR++[dR name])[(i:Int).toNat]? =some (dR s):=by
    intro i hi
    rw [hrows,List.length_map]at hi
    rw [hrows]
    exact⟨_,aS hi⟩
   refine aK hty (λi:Nat=>([(0, .d (rnL l)),(3, .d (.str name)),(14, .d (.int .i64 k)),(57, .d (.sl 1 [[.int .i64 kind],[.int .i64 1],[.int .i64 2],[.int .i64 3],[.int .i64 4]])),(58, .d (.int .i64 5)),(59, .d (.int .i64 j)),(67, .d (.sl 1 ((tU l).map dR++[dR name]))),(68, .d (.int .i64 (((tU l).map dR++[dR name]).length:Nat))),(69, .d (.int .i64 i))],NG)) (λi=>i<=((tU l).map dR++[dR name]).length) (λi=>((tU l).map dR++[dR name]).length - i) 0 (by omega) ⟨by repeat' (first|exact trivial|exact rfl|exact⟨rfl,rfl⟩|refine And.intro ?_ ?_),⟨rfl,rfl,trivial⟩⟩ ?_
   intro i hi
   ((conv=>whnf);repeat ((first|(intro hq;try simp only [lnS]at hq)|refine sI ?_|refine .intro _ (.intro rfl ?_));(conv=>whnf)))
   refine aD (λh3=> ?_) (λh3=> ?_)
   ·have hil:i < ((tU l).map dR++[dR name]).length:=by omega
    obtain⟨s,hrow⟩:=hget i hil
    have hbd:((tU l).map dR++[dR name]).length<=50:=by rw [hrows,List.length_map,List.length_append,hnl,List.length_singleton];omega
    generalize ((tU l).map dR++[dR name])=rows at *
    have c1:=zL l k s
    have c2:=lK l k s
    generalize aO l k s=u at c1 c2
    ((conv=>whnf);repeat' ((first|(intro hq;(try simp only [lnS]at hq);(try rewrite [List.length_map]))|refine sJ ?_|refine .intro _ (.intro rfl ?_)|refine exL (k:= ?_)|(refine⟨_,hrow, ?_⟩)|(refine aG [] c1 trivial (λr hs=> ?_);subst hs)|(refine aG [] c2 trivial (λr hs=> ?_);subst hs)|refine dwR ?_|((first|refine aD ?_ ?_|refine aF ?_ ?_)<;>intro hb<;>(first|exact ddX hb|try simp only [lnS]at hb))|(refine aC ?_ ?_<;>intro hb<;>try exact dsX hb))<;>(conv=>whnf)))
    all_goals first
     |exact⟨i+1,by dsimp only;omega,by dsimp only;omega,by repeat' (first|exact trivial|exact rfl|refine And.intro ?_ ?_),⟨rfl,rfl,trivial⟩⟩
     |(exfalso;simp at hb;done)
     |(exfalso;rename_i hb9;simp at hb9;done)
   ·((conv=>whnf);repeat' ((first|(intro hq;(try simp only [lnS]at hq);(try rewrite [List.length_map]))|refine sJ ?_|refine .intro _ (.intro rfl ?_)|refine exL (k:= ?_)|refine dwR ?_|((first|refine aD ?_ ?_|refine aF ?_ ?_)<;>intro hb<;>(first|exact ddX hb|try simp only [lnS]at hb))|(refine aC ?_ ?_<;>intro hb<;>try exact dsX hb))<;>(conv=>whnf)))
    exact⟨j+1,by dsimp only;omega,by dsimp only;omega,by repeat' (first|exact trivial|exact rfl|refine And.intro ?_ ?_),⟨rfl,rfl,trivial⟩⟩
  ·((conv=>whnf);repeat' ((first|(intro hq;(try simp only [lnS]at hq);(try rewrite [List.length_map]))|refine sJ ?_|refine .intro _ (.intro rfl ?_)|refine exL (k:= ?_)|refine dwR ?_|((first|refine aD ?_ ?_|refine aF ?_ ?_)<;>intro hb<;>(first|exact ddX hb|try simp only [lnS]at hb))|(refine aC ?_ ?_<;>intro hb<;>try exact dsX hb))<;>(conv=>whnf)))
   rfl
end Go.Proofs.YtfhoddcminbffaaGreatDoor
