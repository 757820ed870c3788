/-
  Terms: the reference's insert and conjunction.
  Conditions: none.
-/
import Derived.Test.YtfhoddcminbffaaGreatDoorVDb
import Derived.Test.YtfhoddcminbffaaGreatDoorVDc
import Derived.Test.YtfhoddcminbffaaGreatDoorVGr
import Derived.Test.YtfhoddcminbffaaGreatDoorVAo
import Derived.Test.YtfhoddcminbffaaGreatDoorVSyd
import Derived.Test.YtfhoddcminbffaaGreatDoorVRea
set_option linter.unnecessarySimpa false
set_option linter.unusedSectionVars false
set_option linter.unusedSimpArgs false
set_option linter.unusedVariables false
set_option maxHeartbeats 8000000
namespace Go.Proofs.YtfhoddcminbffaaGreatDoor
open Go.Proofs
set_option maxRecDepth 10000
attribute [local irreducible] aV aM Tri aI YVC dQ bN
def aB3 (done:Bool) (c:Cn) (l:List Cn):List Cn:=if done then l else pT c l
theorem oN (l:List Cn) (c:Cn) (hc:aQ c<=1000000) (hl: ∀d∈l,aQ d<=1000000) (hn:l.length<=1000000):Tri Tryz.prog 172 [.d (.sl 5 (l.map cnR)), .d (.agg (cnR c))] [] (λr=>r= .d (.sl 5 ((pT c l).map cnR))):=by
 have hcr:=aJ c
 rw [aJ c]
 refine aH false [3] hty Tryz.func172 rfl (kp [0,1,3,4,5,6,7,8,13,23,29,42]) [] _ _ _ (by simp [Tryz.f172]) (by simp) ?_
 ((conv=>whnf);repeat ((first|(intro hq;try simp only [lnS]at hq)|refine sI ?_|refine .intro _ (.intro rfl ?_));(conv=>whnf)))
 refine aK hty (λy:Nat×Bool×List Cn=>([(0, .d (.sl 5 (l.map cnR))),(3, .ea 5 [[.int .i64 c.kind, .str c.name, .int .i64 c.lo, .int .i64 c.hi, .sl 5 (c.parts.map cnR)]] 0 0),(5, .osl 9 5 (y.2.2.map cnR)),(6, .d (.bool y.2.1)),(7, .d (.int .i64 y.1))],[(9, .own 46 5 (y.2.2.map cnR).length)])) (λy=>(y.1<=l.length/\y.2.2.length<=y.1+(if y.2.1 then 1 else 0))/\y.2.2++aB3 y.2.1 c (l.drop y.1)=pT c l) (λy=>l.length - y.1) (0,false,[]) ⟨⟨by dsimp only;omega,by simp⟩,rfl⟩ ⟨by repeat' (first|exact trivial|exact rfl|refine And.intro ?_ ?_),by repeat' (first|exact trivial|exact rfl|refine And.intro ?_ ?_)⟩ ?_
 rintro⟨j,dn,out⟩ ⟨⟨hj,ho⟩,hinv⟩
 dsimp only at hj ho hinv
 ((conv=>whnf);repeat ((first|(intro hq;try simp only [lnS]at hq)|refine sI ?_|refine .intro _ (.intro rfl ?_));(conv=>whnf)))
 refine aD (λh1=> ?_) (λh1=> ?_)
 ·have hjl:j < l.length:=by have h1:(j:Int) < ((l.map cnR).length:Nat):=h1;rw [List.length_map]at h1;omega
  have hrow:(l.map cnR)[(j:Int).toNat]? =some (cnR l[j]):=aS hjl
  have hcmp:=gD c l[j] hc (hl _ (List.getElem_mem hjl))
  rw [List.drop_eq_getElem_cons hjl]at hinv
  generalize l[j]=d at hrow hcmp hinv
  have hdr:=aJ d
  rw [aJ,aJ]at hcmp
  rw [aJ]at hrow
  have hins:pT c (d::l.drop (j+1))=if fX c d < 0 then c::d::l.drop (j+1)else if fX c d=0 then d::l.drop (j+1)else d::pT c (l.drop (j+1)):=rfl
  generalize fX c d=n at hcmp hins
  have ho2:out.length<=j+1:=by split at ho<;>omega
  ((conv=>whnf);repeat' ((first|(intro hq;(try simp only [lnS]at hq);(try rewrite [List.length_map]))|refine sJ ?_|refine .intro _ (.intro rfl ?_)|refine exL (k:= ?_)|(refine⟨_,hrow, ?_⟩)|(refine⟨.d (.int .i64 _),_,[],rfl,trivial,hcmp, ?_⟩)|(refine And.intro (by simp only [List.length_replicate,List.length_set,List.length_map,List.length_append,List.length_cons,List.length_nil];omega) ?_)|refine dwR ?_|((first|refine aD ?_ ?_|refine aF ?_ ?_)<;>intro hb<;>(first|exact ddX hb|try simp only [lnS]at hb))|(refine aC ?_ ?_<;>intro hb<;>try exact dsX hb))<;>(conv=>whnf)))
  ·rename_i hb0
   have hins2:aB3 dn c (d::l.drop (j+1))=d::aB3 true c (l.drop (j+1)):=by
    cases dn
    ·rw [aB3,if_neg (by decide),hins,if_neg hb,if_pos hb0];rfl
    ·rfl
   rw [hins2]at hinv
   refine⟨(j+1,true,out++[d]),⟨⟨by dsimp only;omega,by dsimp only;rw [List.length_append,List.length_singleton];first|omega|(simp at ho |-;omega)|(simp at ho |-;split at ho<;>omega)⟩,by dsimp only;rw [List.append_assoc];exact hinv⟩,by dsimp only;omega, ?_⟩
   dsimp only
   rw [List.map_append,List.map_singleton,hdr,List.length_append]
   exact⟨by repeat' (first|exact trivial|exact rfl|refine And.intro ?_ ?_),by repeat' (first|exact trivial|exact rfl|refine And.intro ?_ ?_)⟩
  ·rename_i hb0 hb1
   have hdn:dn=false:=by simpa using hb
   subst hdn
   have hins2:aB3 false c (d::l.drop (j+1))=c::d::aB3 true c (l.drop (j+1)):=by rw [aB3,if_neg (by decide),hins,if_pos hb1];rfl
   rw [hins2]at hinv
   refine⟨(j+1,true,out++[c]++[d]),⟨⟨by dsimp only;omega,by dsimp only;simp only [List.length_append,List.length_singleton]at *;simp at ho |-;omega⟩,by dsimp only;rw [List.append_assoc,List.append_assoc];exact hinv⟩,by dsimp only;omega, ?_⟩
   dsimp only
   rw [List.map_append,List.map_append,List.map_singleton,List.map_singleton,hdr,hcr]
   simp only [List.length_append]
   exact⟨by repeat' (first|exact trivial|exact rfl|refine And.intro ?_ ?_),by repeat' (first|exact trivial|exact rfl|refine And.intro ?_ ?_)⟩
  ·rename_i hb0 hb1
   have hdn:dn=true:=by simpa using hb
   subst hdn
   rw [show aB3 true c (d::l.drop (j+1))=d::aB3 true c (l.drop (j+1))from rfl]at hinv
   refine⟨(j+1,true,out++[d]),⟨⟨by dsimp only;omega,by dsimp only;rw [List.length_append,List.length_singleton];first|omega|(simp at ho |-;omega)|(simp at ho |-;split at ho<;>omega)⟩,by dsimp only;rw [List.append_assoc];exact hinv⟩,by dsimp only;omega, ?_⟩
   dsimp only
   rw [List.map_append,List.map_singleton,hdr,List.length_append]
   exact⟨by repeat' (first|exact trivial|exact rfl|refine And.intro ?_ ?_),by repeat' (first|exact trivial|exact rfl|refine And.intro ?_ ?_)⟩
  ·rename_i hb0
   have hins2:aB3 dn c (d::l.drop (j+1))=d::aB3 dn c (l.drop (j+1)):=by
    cases dn
    ·rw [aB3,if_neg (by decide),hins,if_neg hb,if_neg hb0];rfl
    ·rfl
   rw [hins2]at hinv
   refine⟨(j+1,dn,out++[d]),⟨⟨by dsimp only;omega,by dsimp only;rw [List.length_append,List.length_singleton];first|omega|(simp at ho |-;omega)|(simp at ho |-;split at ho<;>omega)⟩,by dsimp only;rw [List.append_assoc];exact hinv⟩,by dsimp only;omega, ?_⟩
   dsimp only
   rw [List.map_append,List.map_singleton,hdr,List.length_append]
   exact⟨by repeat' (first|exact trivial|exact rfl|refine And.intro ?_ ?_),by repeat' (first|exact trivial|exact rfl|refine And.intro ?_ ?_)⟩
 ·have hjl:j=l.length:=by have h1:¬ (j:Int) < ((l.map cnR).length:Nat):=h1;rw [List.length_map]at h1;omega
  have ho2:out.length<=j+1:=by split at ho<;>omega
  subst hjl
  rw [List.drop_length]at hinv
  ((conv=>whnf);repeat' ((first|(intro hq;(try simp only [lnS]at hq);(try rewrite [List.length_map]))|refine sJ ?_|refine .intro _ (.intro rfl ?_)|refine exL (k:= ?_)|(refine And.intro (by simp only [List.length_replicate,List.length_set,List.length_map,List.length_append,List.length_cons,List.length_nil];omega) ?_)|refine dwR ?_|((first|refine aD ?_ ?_|refine aF ?_ ?_)<;>intro hb<;>(first|exact ddX hb|try simp only [lnS]at hb))|(refine aC ?_ ?_<;>intro hb<;>try exact dsX hb))<;>(conv=>whnf)))
  ·have hdn:dn=false:=by simpa using hb
   subst hdn
   rw [<-hinv]
   refine congrArg (λq=>SV.d (.sl 5 q)) ?_
   simp [aB3,pT,hcr]
  ·have hdn:dn=true:=by simpa using hb
   subst hdn
   rw [<-hinv,show aB3 true c []=[]from rfl,List.append_nil]
   rfl
def pF (c:Cn):List Cn:=if c.kind=5 then c.parts else [c]
def dG (s l:List Cn):List Cn:=l.foldl (λr t=>if t.kind=1 then r else pT t r) s
theorem qM (s l m:List Cn):dG s (l++m)=dG (dG s l) m:=List.foldl_append
theorem tM {s l:List Cn}{j:Nat}(h:j < l.length):dG s (l.take (j+1))=if l[j].kind=1 then dG s (l.take j)else pT l[j] (dG s (l.take j)):=by
 rw [List.take_succ_eq_append_getElem h,qM];rfl
theorem qL: ∀(l s:List Cn),aDl s->aDl (dG s l)
 | [],s,h=>h
 |c::r,s,h=>by
  show aDl (dG (if c.kind=1 then s else pT c s) r)
  split
  ·exact qL r s h
  ·exact qL r _ (vA h)
theorem wV {x:Cn}: ∀(l s:List Cn),x∈dG s l↔x∈s\/x∈l/\x.kind≠1
 | [],s=>by simp [dG]
 |c::r,s=>by
  have ih:=wV (x:=x) r (if c.kind=1 then s else pT c s)
  show x∈dG (if c.kind=1 then s else pT c s) r↔_
  rw [ih]
  split
  ·rename_i h1
   constructor
   ·rintro(h|⟨h,hk⟩)
    ·exact .inl h
    ·exact .inr ⟨by simp [h],hk⟩
   ·rintro(h|⟨h,hk⟩)
    ·exact .inl h
    ·rcases List.mem_cons.1 h with rfl|h
     ·exact absurd h1 hk
     ·exact .inr ⟨h,hk⟩
  ·rename_i h1
   rw [pP]
   constructor
   ·rintro((rfl|h)|⟨h,hk⟩)
    ·exact .inr ⟨by simp,h1⟩
    ·exact .inl h
    ·exact .inr ⟨by simp [h],hk⟩
   ·rintro(h|⟨h,hk⟩)
    ·exact .inl (.inr h)
    ·rcases List.mem_cons.1 h with rfl|h
     ·exact .inl (.inl rfl)
     ·exact .inr ⟨h,hk⟩
theorem jQ: ∀(l s:List Cn),fS (dG s l)<=fS s+fS l
 | [],s=>by simp [dG]
 |c::r,s=>by
  have ih:=jQ r (if c.kind=1 then s else pT c s)
  show fS (dG (if c.kind=1 then s else pT c s) r)<=_
  rw [bH]
  split at ih
  ·rename_i h1;rw [if_pos h1];omega
  ·rename_i h1;rw [if_neg h1]
   have:=uY c s
   omega
theorem aKn (c:Cn):fS (pF c)<=aQ c:=by
 unfold pF
 split
 ·have:=bY c;omega
 ·rw [bH,gB];omega
theorem zU: ∀l:List Cn,fS (l.flatMap pF)<=fS l
 | []=>by simp
 |c::r=>by
  have h1:=zU r
  have h2:=aKn c
  rw [List.flatMap_cons,iX,bH];omega
theorem aCd (l:List Cn) (hl:fS l<=1000000):Tri Tryz.prog 137 [.d (.sl 5 (l.map cnR))] [] (PairW (hZ (dG [] (l.flatMap pF))).1 (hZ (dG [] (l.flatMap pF))).2):=by
 have hln:=fM l
 refine aH false [] hty Tryz.func137 rfl (kp [0,2,3,4,5,6,7,8,13,26,35,43,53,61,68,72,78]) [] _ _ _ (by simp [Tryz.f137]) (by simp) ?_
 ((conv=>whnf);repeat ((first|(intro hq;try simp only [lnS]at hq)|refine sI ?_|refine .intro _ (.intro rfl ?_));(conv=>whnf)))
 refine aK hty (λj:Nat=>([(0, .d (.sl 5 (l.map cnR))),(2, .ptr 2 0),(4, .d (.sl 5 ((dG [] ((l.take j).flatMap pF)).map cnR))),(5, .d (.int .i64 j))],[(2, .cells 46 [.d (.int .i64 0), .d (.str []), .d (.int .i64 0), .d (.int .i64 0), .d .nil])])) (λj=>j<=l.length) (λj=>l.length - j) 0 (by omega) ⟨by repeat' (first|exact trivial|exact rfl|refine And.intro ?_ ?_),by repeat' (first|exact trivial|exact rfl|refine And.intro ?_ ?_)⟩ ?_
 rintro j hj
 ((conv=>whnf);repeat ((first|(intro hq;try simp only [lnS]at hq)|refine sI ?_|refine .intro _ (.intro rfl ?_));(conv=>whnf)))
 refine aD (λh1=> ?_) (λh1=> ?_)
 ·have hjl:j < l.length:=by have h1:(j:Int) < ((l.map cnR).length:Nat):=h1;rw [List.length_map]at h1;omega
  have hrow:(l.map cnR)[(j:Int).toNat]? =some (cnR l[j]):=aS hjl
  have hft:(l.take (j+1)).flatMap pF=(l.take j).flatMap pF++pF l[j]:=by rw [List.take_succ_eq_append_getElem hjl,List.flatMap_append];simp
  have hsm:=zU (l.take (j+1))
  have hst:fS (l.take (j+1))<=fS l:=dC l (j+1)
  rw [hft,iX]at hsm
  have hrs:=jQ ((l.take j).flatMap pF) []
  rw [gB]at hrs
  generalize l[j]=x at *
  have hxr:=aJ x
  rw [aJ]at hrow
  generalize (l.take j).flatMap pF=done at *
  ((conv=>whnf);repeat ((first|(refine⟨_,hrow, ?_⟩)|(intro hq;try simp only [lnS]at hq)|refine sI ?_|refine .intro _ (.intro rfl ?_));(conv=>whnf)))
  refine aD (λh5=> ?_) (λh5=> ?_)
  ·have hp5:pF x=x.parts:=if_pos h5
   ((conv=>whnf);repeat ((first|(refine⟨_,hrow, ?_⟩)|(intro hq;try simp only [lnS]at hq)|refine sI ?_|refine .intro _ (.intro rfl ?_));(conv=>whnf)))
   refine aK hty (λk:Nat=>([(0, .d (.sl 5 (l.map cnR))),(2, .ptr 2 0),(4, .d (.sl 5 ((dG (dG [] done) ((pF x).take k)).map cnR))),(5, .d (.int .i64 j)),(6, .d (.sl 5 ((pF x).map cnR))),(7, .d (.int .i64 k))],[(2, .cells 46 [.d (.int .i64 0), .d (.str []), .d (.int .i64 0), .d (.int .i64 0), .d .nil])])) (λk=>k<=(pF x).length) (λk=>(pF x).length - k) 0 (by omega) ?_ ?_
   ·rw [hp5]
    try rw [List.map_singleton,hxr]
    exact⟨by repeat' (first|exact trivial|exact rfl|refine And.intro ?_ ?_),by repeat' (first|exact trivial|exact rfl|refine And.intro ?_ ?_)⟩
   rintro k hk
   generalize pF x=ps at *
   have hks:=jQ (ps.take k) (dG [] done)
   have hkt:fS (ps.take k)<=fS ps:=dC ps k
   have hlr:=fM (dG (dG [] done) (ps.take k))
   ((conv=>whnf);repeat ((first|(intro hq;try simp only [lnS]at hq)|refine sI ?_|refine .intro _ (.intro rfl ?_));(conv=>whnf)))
   refine aD (λh2=> ?_) (λh2=> ?_)
   ·have hkl:k < ps.length:=by have h2:(k:Int) < ((ps.map cnR).length:Nat):=h2;rw [List.length_map]at h2;omega
    have hrow2:(ps.map cnR)[(k:Int).toNat]? =some (cnR ps[k]):=aS hkl
    have hsn:=tM (s:=dG [] done) hkl
    have hsz:=kM (List.getElem_mem hkl)
    have hin:=oN (dG (dG [] done) (ps.take k)) ps[k] (by omega) (λd hd=>by have:=kM hd;omega) (by omega)
    generalize ps[k]=y at *
    have hyr:=aJ y
    rw [aJ]at hrow2 hin
    ((conv=>whnf);repeat ((first|(refine⟨_,hrow2, ?_⟩)|(intro hq;try simp only [lnS]at hq)|refine sI ?_|refine .intro _ (.intro rfl ?_));(conv=>whnf)))
    refine aF (λh3=> ?_) (λh3=> ?_)
    ·((conv=>whnf);repeat ((first|(refine⟨_,hrow2, ?_⟩)|(intro hq;try simp only [lnS]at hq)|refine sI ?_|refine .intro _ (.intro rfl ?_));(conv=>whnf)))
     refine aG [] hin trivial (λr hs=> ?_)
     subst hs
     ((conv=>whnf);repeat' ((first|(intro hq;(try simp only [lnS]at hq);(try rewrite [List.length_map]))|refine sJ ?_|refine .intro _ (.intro rfl ?_)|refine exL (k:= ?_)|refine dwR ?_|((first|refine aD ?_ ?_|refine aF ?_ ?_)<;>intro hb<;>(first|exact ddX hb|try simp only [lnS]at hb))|(refine aC ?_ ?_<;>intro hb<;>try exact dsX hb))<;>(conv=>whnf)))
     rw [if_neg h3]at hsn
     rw [<-hsn]
     exact⟨k+1,by omega,by dsimp only;omega,⟨by repeat' (first|exact trivial|exact rfl|refine And.intro ?_ ?_),by repeat' (first|exact trivial|exact rfl|refine And.intro ?_ ?_)⟩⟩
    ·((conv=>whnf);repeat' ((first|(intro hq;(try simp only [lnS]at hq);(try rewrite [List.length_map]))|refine sJ ?_|refine .intro _ (.intro rfl ?_)|refine exL (k:= ?_)|refine dwR ?_|((first|refine aD ?_ ?_|refine aF ?_ ?_)<;>intro hb<;>(first|exact ddX hb|try simp only [lnS]at hb))|(refine aC ?_ ?_<;>intro hb<;>try exact dsX hb))<;>(conv=>whnf)))
     rw [if_pos (by simpa using h3)]at hsn
     rw [<-hsn]
     exact⟨k+1,by omega,by dsimp only;omega,⟨by repeat' (first|exact trivial|exact rfl|refine And.intro ?_ ?_),by repeat' (first|exact trivial|exact rfl|refine And.intro ?_ ?_)⟩⟩
   ·have hkl:k=ps.length:=by have h2:¬ (k:Int) < ((ps.map cnR).length:Nat):=h2;rw [List.length_map]at h2;omega
    subst hkl
    rw [List.take_length,<-qM,<-hft]
    ((conv=>whnf);repeat' ((first|(intro hq;(try simp only [lnS]at hq);(try rewrite [List.length_map]))|refine sJ ?_|refine .intro _ (.intro rfl ?_)|refine exL (k:= ?_)|refine dwR ?_|((first|refine aD ?_ ?_|refine aF ?_ ?_)<;>intro hb<;>(first|exact ddX hb|try simp only [lnS]at hb))|(refine aC ?_ ?_<;>intro hb<;>try exact dsX hb))<;>(conv=>whnf)))
    exact⟨j+1,by omega,by dsimp only;omega,⟨by repeat' (first|exact trivial|exact rfl|refine And.intro ?_ ?_),by repeat' (first|exact trivial|exact rfl|refine And.intro ?_ ?_)⟩⟩
  ·have hp5:pF x=[x]:=if_neg h5
   ((conv=>whnf);repeat ((first|(refine⟨_,hrow, ?_⟩)|(intro hq;try simp only [lnS]at hq)|refine sI ?_|refine .intro _ (.intro rfl ?_));(conv=>whnf)))
   refine aK hty (λk:Nat=>([(0, .d (.sl 5 (l.map cnR))),(2, .ptr 2 0),(4, .d (.sl 5 ((dG (dG [] done) ((pF x).take k)).map cnR))),(5, .d (.int .i64 j)),(6, .d (.sl 5 ((pF x).map cnR))),(7, .d (.int .i64 k))],[(2, .cells 46 [.d (.int .i64 0), .d (.str []), .d (.int .i64 0), .d (.int .i64 0), .d .nil])])) (λk=>k<=(pF x).length) (λk=>(pF x).length - k) 0 (by omega) ?_ ?_
   ·rw [hp5]
    try rw [List.map_singleton,hxr]
    exact⟨by repeat' (first|exact trivial|exact rfl|refine And.intro ?_ ?_),by repeat' (first|exact trivial|exact rfl|refine And.intro ?_ ?_)⟩
   rintro k hk
   generalize pF x=ps at *
   have hks:=jQ (ps.take k) (dG [] done)
   have hkt:fS (ps.take k)<=fS ps:=dC ps k
   have hlr:=fM (dG (dG [] done) (ps.take k))
   ((conv=>whnf);repeat ((first|(intro hq;try simp only [lnS]at hq)|refine sI ?_|refine .intro _ (.intro rfl ?_));(conv=>whnf)))
   refine aD (λh2=> ?_) (λh2=> ?_)
   ·have hkl:k < ps.length:=by have h2:(k:Int) < ((ps.map cnR).length:Nat):=h2;rw [List.length_map]at h2;omega
    have hrow2:(ps.map cnR)[(k:Int).toNat]? =some (cnR ps[k]):=aS hkl
    have hsn:=tM (s:=dG [] done) hkl
    have hsz:=kM (List.getElem_mem hkl)
    have hin:=oN (dG (dG [] done) (ps.take k)) ps[k] (by omega) (λd hd=>by have:=kM hd;omega) (by omega)
    generalize ps[k]=y at *
    have hyr:=aJ y
    rw [aJ]at hrow2 hin
    ((conv=>whnf);repeat ((first|(refine⟨_,hrow2, ?_⟩)|(intro hq;try simp only [lnS]at hq)|refine sI ?_|refine .intro _ (.intro rfl ?_));(conv=>whnf)))
    refine aF (λh3=> ?_) (λh3=> ?_)
    ·((conv=>whnf);repeat ((first|(refine⟨_,hrow2, ?_⟩)|(intro hq;try simp only [lnS]at hq)|refine sI ?_|refine .intro _ (.intro rfl ?_));(conv=>whnf)))
     refine aG [] hin trivial (λr hs=> ?_)
     subst hs
     ((conv=>whnf);repeat' ((first|(intro hq;(try simp only [lnS]at hq);(try rewrite [List.length_map]))|refine sJ ?_|refine .intro _ (.intro rfl ?_)|refine exL (k:= ?_)|refine dwR ?_|((first|refine aD ?_ ?_|refine aF ?_ ?_)<;>intro hb<;>(first|exact ddX hb|try simp only [lnS]at hb))|(refine aC ?_ ?_<;>intro hb<;>try exact dsX hb))<;>(conv=>whnf)))
     rw [if_neg h3]at hsn
     rw [<-hsn]
     exact⟨k+1,by omega,by dsimp only;omega,⟨by repeat' (first|exact trivial|exact rfl|refine And.intro ?_ ?_),by repeat' (first|exact trivial|exact rfl|refine And.intro ?_ ?_)⟩⟩
    ·((conv=>whnf);repeat' ((first|(intro hq;(try simp only [lnS]at hq);(try rewrite [List.length_map]))|refine sJ ?_|refine .intro _ (.intro rfl ?_)|refine exL (k:= ?_)|refine dwR ?_|((first|refine aD ?_ ?_|refine aF ?_ ?_)<;>intro hb<;>(first|exact ddX hb|try simp only [lnS]at hb))|(refine aC ?_ ?_<;>intro hb<;>try exact dsX hb))<;>(conv=>whnf)))
     rw [if_pos (by simpa using h3)]at hsn
     rw [<-hsn]
     exact⟨k+1,by omega,by dsimp only;omega,⟨by repeat' (first|exact trivial|exact rfl|refine And.intro ?_ ?_),by repeat' (first|exact trivial|exact rfl|refine And.intro ?_ ?_)⟩⟩
   ·have hkl:k=ps.length:=by have h2:¬ (k:Int) < ((ps.map cnR).length:Nat):=h2;rw [List.length_map]at h2;omega
    subst hkl
    rw [List.take_length,<-qM,<-hft]
    ((conv=>whnf);repeat' ((first|(intro hq;(try simp only [lnS]at hq);(try rewrite [List.length_map]))|refine sJ ?_|refine .intro _ (.intro rfl ?_)|refine exL (k:= ?_)|refine dwR ?_|((first|refine aD ?_ ?_|refine aF ?_ ?_)<;>intro hb<;>(first|exact ddX hb|try simp only [lnS]at hb))|(refine aC ?_ ?_<;>intro hb<;>try exact dsX hb))<;>(conv=>whnf)))
    exact⟨j+1,by omega,by dsimp only;omega,⟨by repeat' (first|exact trivial|exact rfl|refine And.intro ?_ ?_),by repeat' (first|exact trivial|exact rfl|refine And.intro ?_ ?_)⟩⟩
 have hjl:j=l.length:=by have h1:¬ (j:Int) < ((l.map cnR).length:Nat):=h1;rw [List.length_map]at h1;omega
 subst hjl
 rw [List.take_length]
 have hrs:=jQ (l.flatMap pF) []
 have hps:=zU l
 rw [gB]at hrs
 have hsl:=fM (dG [] (l.flatMap pF))
 generalize dG [] (l.flatMap pF)=s at *
 ((conv=>whnf);repeat ((first|(intro hq;try simp only [lnS]at hq)|refine sI ?_|refine .intro _ (.intro rfl ?_));(conv=>whnf)))
 refine aK hty (λi:Nat=>([(2, .ptr 2 0),(4, .d (.sl 5 (s.map cnR))),(8, .d (.int .i64 i))],[(2, .cells 46 [.d (.int .i64 0), .d (.str []), .d (.int .i64 0), .d (.int .i64 0), .d .nil])])) (λi=>i<=s.length/\(s.take i).find? (λt=>decide (t.kind=2))=none) (λi=>s.length - i) 0 ⟨by omega,rfl⟩ ⟨by repeat' (first|exact trivial|exact rfl|refine And.intro ?_ ?_),by repeat' (first|exact trivial|exact rfl|refine And.intro ?_ ?_)⟩ ?_
 rintro i ⟨hi,hin⟩
 ((conv=>whnf);repeat ((first|(intro hq;try simp only [lnS]at hq)|refine sI ?_|refine .intro _ (.intro rfl ?_));(conv=>whnf)))
 refine aD (λh2=> ?_) (λh2=> ?_)
 ·have hil:i < s.length:=by have h2:(i:Int) < ((s.map cnR).length:Nat):=h2;rw [List.length_map]at h2;omega
  have hrow:(s.map cnR)[(i:Int).toNat]? =some (cnR s[i]):=aS hil
  rw [aJ]at hrow
  obtain⟨hf1,hf2⟩:=xY hil hin
  ((conv=>whnf);repeat ((first|(refine⟨_,hrow, ?_⟩)|(intro hq;try simp only [lnS]at hq)|refine sI ?_|refine .intro _ (.intro rfl ?_));(conv=>whnf)))
  refine aD (λh3=> ?_) (λh3=> ?_)
  ·((conv=>whnf);repeat' ((first|(intro hq;(try simp only [lnS]at hq);(try rewrite [List.length_map]))|refine sJ ?_|refine .intro _ (.intro rfl ?_)|refine exL (k:= ?_)|(refine⟨_,hrow, ?_⟩)|refine dwR ?_|((first|refine aD ?_ ?_|refine aF ?_ ?_)<;>intro hb<;>(first|exact ddX hb|try simp only [lnS]at hb))|(refine aC ?_ ?_<;>intro hb<;>try exact dsX hb))<;>(conv=>whnf)))
   rw [uJ (hf1 h3)]
   exact mE _ _
  ·((conv=>whnf);repeat' ((first|(intro hq;(try simp only [lnS]at hq);(try rewrite [List.length_map]))|refine sJ ?_|refine .intro _ (.intro rfl ?_)|refine exL (k:= ?_)|refine dwR ?_|((first|refine aD ?_ ?_|refine aF ?_ ?_)<;>intro hb<;>(first|exact ddX hb|try simp only [lnS]at hb))|(refine aC ?_ ?_<;>intro hb<;>try exact dsX hb))<;>(conv=>whnf)))
   exact⟨i+1,⟨by omega,hf2 h3⟩,by dsimp only;omega,⟨by repeat' (first|exact trivial|exact rfl|refine And.intro ?_ ?_),by repeat' (first|exact trivial|exact rfl|refine And.intro ?_ ?_)⟩⟩
 ·have hil:i=s.length:=by have h2:¬ (i:Int) < ((s.map cnR).length:Nat):=h2;rw [List.length_map]at h2;omega
  subst hil
  rw [List.take_length]at hin
  rw [uK hin]
  have hsm:(s.map cnR).length=s.length:=List.length_map ..
  ((conv=>whnf);repeat ((first|(intro hq;try simp only [lnS]at hq)|refine sI ?_|refine .intro _ (.intro rfl ?_));(conv=>whnf)))
  refine aD (λh3=> ?_) (λh3=> ?_)
  ·((conv=>whnf);repeat' ((first|(intro hq;(try simp only [lnS]at hq);(try rewrite [List.length_map]))|refine sJ ?_|refine .intro _ (.intro rfl ?_)|refine exL (k:= ?_)|refine dwR ?_|((first|refine aD ?_ ?_|refine aF ?_ ?_)<;>intro hb<;>(first|exact ddX hb|try simp only [lnS]at hb))|(refine aC ?_ ?_<;>intro hb<;>try exact dsX hb))<;>(conv=>whnf)))
   rw [if_pos (by omega)]
   exact aMm
  ·((conv=>whnf);repeat ((first|(intro hq;try simp only [lnS]at hq)|refine sI ?_|refine .intro _ (.intro rfl ?_));(conv=>whnf)))
   rw [if_neg (by omega)]
   refine aD (λh4=> ?_) (λh4=> ?_)
   ·have hl0:0 < s.length:=by omega
    have hrow:(s.map cnR)[(0:Int).toNat]? =some (cnR s[0]):=aS (i:=0) hl0
    have hhd:s.headD c0=s[0]:=by cases s with|nil=>simp at hl0|cons a r=>rfl
    rw [aJ]at hrow
    ((conv=>whnf);repeat' ((first|(intro hq;(try simp only [lnS]at hq);(try rewrite [List.length_map]))|refine sJ ?_|refine .intro _ (.intro rfl ?_)|refine exL (k:= ?_)|(refine⟨_,hrow, ?_⟩)|refine dwR ?_|((first|refine aD ?_ ?_|refine aF ?_ ?_)<;>intro hb<;>(first|exact ddX hb|try simp only [lnS]at hb))|(refine aC ?_ ?_<;>intro hb<;>try exact dsX hb))<;>(conv=>whnf)))
    rw [if_pos (by omega),hhd]
    exact mE _ _
   ·((conv=>whnf);repeat ((first|(intro hq;try simp only [lnS]at hq)|refine sI ?_|refine .intro _ (.intro rfl ?_));(conv=>whnf)))
    rw [if_neg (by omega)]
    refine aD (λh5=> ?_) (λh5=> ?_)
    ·((conv=>whnf);repeat' ((first|(intro hq;(try simp only [lnS]at hq);(try rewrite [List.length_map]))|refine sJ ?_|refine .intro _ (.intro rfl ?_)|refine exL (k:= ?_)|refine dwR ?_|((first|refine aD ?_ ?_|refine aF ?_ ?_)<;>intro hb<;>(first|exact ddX hb|try simp only [lnS]at hb))|(refine aC ?_ ?_<;>intro hb<;>try exact dsX hb))<;>(conv=>whnf)))
     rw [if_pos (by omega)]
     exact aDm 2
    ·rw [if_neg (by omega)]
     ((conv=>whnf);repeat' ((first|(intro hq;(try simp only [lnS]at hq);(try rewrite [List.length_map]))|refine sJ ?_|refine .intro _ (.intro rfl ?_)|refine exL (k:= ?_)|refine dwR ?_|((first|refine aD ?_ ?_|refine aF ?_ ?_)<;>intro hb<;>(first|exact ddX hb|try simp only [lnS]at hb))|(refine aC ?_ ?_<;>intro hb<;>try exact dsX hb))<;>(conv=>whnf)))
     exact mE (.mk 5 [] 0 0 s) 0
end Go.Proofs.YtfhoddcminbffaaGreatDoor
