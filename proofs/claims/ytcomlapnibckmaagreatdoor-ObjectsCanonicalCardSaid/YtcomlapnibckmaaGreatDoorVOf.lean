/-
  Valid concepts and axioms can be written and read; plain. Terms: has, within of the law; FewAxioms of the reference. Terms: within of the law. Terms: vocabularies are sorted without repetition, and are within one another as the law says. What encoding axioms, commits and alignments answers, and that both readers read it again; plain.
  Conditions: none.
-/
import Derived.Test.YtcomlapnibckmaaGreatDoorVAo
import Derived.Test.YtcomlapnibckmaaGreatDoorVOl
import Derived.Test.YtcomlapnibckmaaGreatDoorVSyi
import Derived.Test.YtcomlapnibckmaaGreatDoorVAc
import Derived.Test.YtcomlapnibckmaaGreatDoorVBu
set_option linter.unnecessarySimpa false
set_option linter.unusedSectionVars false
set_option linter.unusedSimpArgs false
set_option linter.unusedVariables false
set_option maxHeartbeats 4000000
namespace Go.Proofs.YtcomlapnibckmaaGreatDoor
open Go.Proofs
theorem iU {s:List UInt8}(h:fA s=true):s.length<=24:=by
 unfold fA at h
 rw [Bool.and_eq_true]at h
 exact of_decide_eq_true h.1
theorem wW {s:List UInt8}(h:aCx s=true):s.length<=24:=by
 unfold aCx at h
 simp only [Bool.and_eq_true,decide_eq_true_eq]at h
 exact h.2.1
theorem oG {s:List UInt8}(h:eF s=true):s.length<=24:=by
 unfold eF at h
 rcases Bool.or_eq_true_iff.1 h with h|h
 ·exact iU h
 ·exact wW h
theorem zS {c:Cn}(h:cV c=0):(1<=c.kind/\c.kind<=7)/\c.name.length<=24/\(-1099511627776<=c.lo/\c.lo<=1099511627776)/\(-1099511627776<=c.hi/\c.hi<=1099511627776):=by
 unfold cV at h
 split at h
 ·simp at h
 ·rename_i hk
  refine⟨by omega, ?_⟩
  generalize hn:oF c.kind=n at h
  have name:zC n c.name=0->(¬ (n.name=0/\c.name≠[]))->c.name.length<=24:=by
   intro h1 h2
   unfold zC at h1
   split at h1
   ·rename_i h3
    rcases h3 with h3|h3|h3
    ·have:c.name=[]:=Decidable.byContradiction λq=>h2 ⟨h3,q⟩
     rw [this];simp
    ·exact iU h3
    ·exact wW h3.2
   ·simp at h1
  unfold oZ at h
  split at h
  ·simp at h
  ·rename_i h1
   have h2:¬ (n.name=0/\c.name≠[]):= λq=>h1 (Or.inr (Or.inr q))
   split at h
   ·split at h
    ·simp at h
    ·exact⟨name h h2,by omega,by omega⟩
   ·split at h
    ·simp at h
    ·exact⟨name h h2,by omega,by omega⟩
theorem uT {x:Ax}(h:cP x=0):(0<=x.kind/\x.kind<=255)/\(cI x.left=0\/nC x.left=true)/\(cI x.right=0\/nC x.right=true)/\(x.roles.length<=4/\ ∀s∈x.roles,s.length<=24)/\x.role.length<=24/\x.a.length<=24/\x.b.length<=24:=by
 obtain⟨hk,hl,hr⟩:=aC0 h
 unfold cP at h
 split at h
 ·simp at h
 ·rename_i hs
  have hs:bA x=true:=by simpa using hs
  unfold bA at hs
  split at hs
  ·cases hs
  ·have hm: ∀k:Int,1<=k->k<=9->(pO k).most<=4:=by
    intro k h1 h2
    have h9:k=1\/k=2\/k=3\/k=4\/k=5\/k=6\/k=7\/k=8\/k=9:=by omega
    rcases h9 with rfl|rfl|rfl|rfl|rfl|rfl|rfl|rfl|rfl<;>decide
   have hm:=hm x.kind hk.1 hk.2
   unfold rH at h
   generalize pO x.kind=u at *
   unfold bG at hs
   simp only [Bool.and_eq_true,Bool.or_eq_true,decide_eq_true_eq]at hs
   obtain⟨s1,s2,s3,s4,s5,s6,s7⟩:=hs
   split at h
   ·simp at h
   ·rename_i hn
    have hn:mY u x=true:=by simpa using hn
    unfold mY at hn
    rw [Bool.and_eq_true]at hn
    obtain⟨n1,n2⟩:=hn
    have n1:¬ (u.role=true/\fA x.role=false)/\¬ (u.a=true/\eF x.a=false)/\¬ (u.b=true/\eF x.b=false):=by
     revert n1
     cases u.role<;>cases fA x.role<;>cases u.a<;>cases eF x.a<;>cases u.b<;>cases eF x.b<;>simp
    have q1:x.role.length<=24:=by
     rcases s3 with e|e
     ·exact iU (by cases hp:fA x.role with|true=>rfl|false=>exact absurd ⟨e,hp⟩ n1.1)
     ·rw [e];simp
    have q2:x.a.length<=24:=by
     rcases s4 with e|e
     ·exact oG (by cases hp:eF x.a with|true=>rfl|false=>exact absurd ⟨e,hp⟩ n1.2.1)
     ·rw [e];simp
    have q3:x.b.length<=24:=by
     rcases s5 with e|e
     ·exact oG (by cases hp:eF x.b with|true=>rfl|false=>exact absurd ⟨e,hp⟩ n1.2.2)
     ·rw [e];simp
    refine⟨⟨by omega,by omega⟩, ?_, ?_,⟨by omega,λs hs=> ?_⟩,by omega,by omega,by omega⟩
    ·rcases s1 with e|e
     ·exact .inl (hl e)
     ·exact .inr e
    ·rcases s2 with e|e
     ·exact .inl (hr e)
     ·exact .inr e
    ·have:=iU (List.all_eq_true.1 n2 s hs);omega
theorem aA9 (c:Cn):(wC c).length=25+c.name.length+((c.parts.map wC).flatten).length:=by
 rw [aEv]
 unfold uY dO gD bP
 simp only [List.length_append,aT]
 omega
theorem aGj: ∀c:Cn,(∀x∈eK c,x.name.length<=24)->(wC c).length<=49 * nF c:=by
 refine Cn.ind ?_
 intro c ih hn
 have key: ∀l:List Cn,(∀p∈l,p∈c.parts)->(∀x∈bZ l,x.name.length<=24)->((l.map wC).flatten).length<=49 * (bZ l).length:=by
  intro l
  induction l with
  |nil=>intro _ _;simp
  |cons p r ihr=>
   intro hs hx
   have e:bZ (p::r)=eK p++bZ r:=by rw [bZ]
   rw [e]at hx |-
   have h1:=ih p (hs p (List.mem_cons_self ..)) λx hx'=>hx x (List.mem_append_left _ hx')
   have h2:=ihr (λq hq=>hs q (List.mem_cons_of_mem _ hq)) λx hx'=>hx x (List.mem_append_right _ hx')
   rw [List.map_cons,List.flatten_cons,List.length_append,List.length_append]
   unfold nF at h1
   omega
 have h1:=key c.parts (λ_ h=>h) λx hx=>hn x (by rw [iV];exact List.mem_cons_of_mem _ hx)
 have h2:=hn c (by rw [iV];exact List.mem_cons_self ..)
 have h3:nF c=(bZ c.parts).length+1:=by unfold nF;rw [iV,List.length_cons]
 rw [aA9,h3]
 omega
theorem wR {c:Cn}(h:cI c=0\/nC c=true):(wC c).length<=3136:=by
 rcases h with h|h
 ·obtain⟨h1,_,h3⟩:=wE h
  have:=aGj c λx hx=>(zS (h3 x hx)).2.1
  omega
 ·obtain⟨k,n,lo,hi,ps⟩:=c
  unfold nC at h
  simp only [Bool.and_eq_true]at h
  obtain⟨h1,h2,h3,h4,h5⟩:=h
  obtain rfl:n=[]:=of_decide_eq_true h2
  obtain rfl:ps=[]:=of_decide_eq_true h5
  rw [aA9]
  simp [Cn.name,Cn.parts]
theorem eM {α:Type}{w:α->List UInt8}{k:Nat}: ∀{l:List α},(∀x∈l,(w x).length<=k)->((l.map w).flatten).length<=l.length * k
 | [],_=>by simp
 |x::r,h=>by
  have h1:=h x (List.mem_cons_self ..)
  have h2:=eM (l:=r) λy hy=>h y (List.mem_cons_of_mem _ hy)
  rw [List.map_cons,List.flatten_cons,List.length_append,List.length_cons,Nat.add_mul]
  omega
theorem aCg {x:Ax}(h:cP x=0):(wA x).length<=7000:=by
 obtain⟨_,h2,h3,⟨h4,h5⟩,h6,h7,h8⟩:=uT h
 have a1:=wR h2
 have a2:=wR h3
 have a3:((x.roles.map dO).flatten).length<=x.roles.length * 28:=eM λs hs=>by
  have:=h5 s hs
  unfold dO;rw [List.length_append,aT];omega
 have a4:x.roles.length * 28<=4 * 28:=Nat.mul_le_mul_right _ h4
 unfold wA wB uY bP
 simp only [List.length_append,aT]
 unfold dO at a3 |-
 simp only [List.length_append,aT]
 omega
theorem tL {l:List Ax}(h: ∀x∈l,cP x=0):(wAs l).length<=4+l.length * 7000:=by
 have:=eM (w:=wA) λx hx=>aCg (h x hx)
 unfold wAs bP
 rw [List.length_append,aT]
 omega
end Go.Proofs.YtcomlapnibckmaaGreatDoor
namespace Go.Proofs.YtcomlapnibckmaaGreatDoor
open Go.Proofs
set_option maxRecDepth 10000
attribute [local irreducible] aN aH Tri aF YVC cM bB
theorem pR (l:List Ax) (n:Int) (hl: ∀x∈l,SzAx x):Tri Tryz.prog 40 [.d (.sl 16 (l.map axR)), .d (.int .i64 n)] [] (λr=>r= .d (.bool (decide ((l.length:Int)<=n) && l.all aBp))):=by
 refine aK hty Tryz.func40 rfl (kp [0,1,4,5,9,13,21]) [] _ _ _ (by simp [Tryz.f40]) (by simp) ?_
 ((conv=>whnf);repeat' ((first|(intro hq;(try simp only [lnS]at hq);(try rewrite [List.length_map]))|refine sJ ?_|refine .intro _ (.intro rfl ?_)|refine exL (k:= ?_)|refine dwR ?_|((first|refine aB ?_ ?_|refine aC ?_ ?_)<;>intro hb<;>(first|exact ddX hb|try simp only [lnS]at hb))|(refine aA ?_ ?_<;>intro hb<;>try exact dsX hb))<;>(conv=>whnf)))
 ·refine aV (Eq.symm ?_)
  rw [decide_eq_false (by omega),Bool.false_and]
 ·have hle:(l.length:Int)<=n:=by omega
  rw [decide_eq_true hle,Bool.true_and]
  refine aQ hty (λj:Nat=>([(0, .d (.sl 16 (l.map axR))),(1, .d (.int .i64 n)),(4, .d (.bool false)),(5, .d (.int .i64 j))],[])) (λj=>j<=l.length/\l.all aBp=(l.drop j).all aBp) (λj=>l.length - j) 0 ⟨by omega,rfl⟩ ⟨by repeat' (first|exact trivial|exact rfl|(rw [List.length_map];exact rfl)|refine And.intro ?_ ?_),trivial⟩ ?_
  rintro j ⟨hj,hn⟩
  ((conv=>whnf);repeat ((first|(intro hq;try simp only [lnS]at hq)|refine sI ?_|refine .intro _ (.intro rfl ?_));(conv=>whnf)))
  refine aB (λh1=> ?_) (λh1=> ?_)
  ·have hjl:j < l.length:=by simp only [List.length_map]at h1;omega
   have hrow:(l.map axR)[(j:Int).toNat]? =some (axR l[j]):=bH hjl
   have hc:=tC l[j] (hl _ (List.getElem_mem hjl))
   rw [List.drop_eq_getElem_cons hjl,List.all_cons]at hn
   generalize l[j]=x at hrow hn hc
   ((conv=>whnf);repeat' ((first|(intro hq;(try simp only [lnS]at hq);(try rewrite [List.length_map]))|refine sJ ?_|refine .intro _ (.intro rfl ?_)|refine exL (k:= ?_)|(refine⟨_,hrow, ?_⟩)|(refine aD [] hc trivial (λr hs=> ?_);subst hs)|refine dwR ?_|((first|refine aB ?_ ?_|refine aC ?_ ?_)<;>intro hb<;>(first|exact ddX hb|try simp only [lnS]at hb))|(refine aA ?_ ?_<;>intro hb<;>try exact dsX hb))<;>(conv=>whnf)))
   ·refine aV (Eq.symm ?_)
    rw [hn];simp_all
   ·refine⟨j+1,⟨by omega, ?_⟩,by dsimp only;omega,by repeat' (first|exact trivial|exact rfl|refine And.intro ?_ ?_),trivial⟩
    rw [hn];simp_all
  ·have hjl:j=l.length:=by simp only [List.length_map]at h1;omega
   subst hjl
   ((conv=>whnf);repeat' ((first|(intro hq;(try simp only [lnS]at hq);(try rewrite [List.length_map]))|refine sJ ?_|refine .intro _ (.intro rfl ?_)|refine exL (k:= ?_)|refine dwR ?_|((first|refine aB ?_ ?_|refine aC ?_ ?_)<;>intro hb<;>(first|exact ddX hb|try simp only [lnS]at hb))|(refine aA ?_ ?_<;>intro hb<;>try exact dsX hb))<;>(conv=>whnf)))
   refine aV (Eq.symm ?_)
   rw [hn,List.drop_length];rfl
end Go.Proofs.YtcomlapnibckmaaGreatDoor
namespace Go.Proofs.YtcomlapnibckmaaGreatDoor
open Go.Proofs
set_option maxRecDepth 10000
attribute [local irreducible] aN aH Tri aF YVC cM bB
end Go.Proofs.YtcomlapnibckmaaGreatDoor
namespace Go.Proofs.YtcomlapnibckmaaGreatDoor
open Go.Proofs
theorem iY: ∀(l:List Ax),cT l=0↔ ∀x∈l,cP x=0
 | []=>by simp [cT]
 |x::r=>by
  rw [cT]
  have:=iY r
  split<;>rename_i h
  ·simp [h]
  ·have h:cP x=0:=by simpa using h
   simp [h,this]
end Go.Proofs.YtcomlapnibckmaaGreatDoor
namespace Go.Proofs.YtcomlapnibckmaaGreatDoor
open Go.Proofs
def aEi (l:List Ax):Int:=if cT l≠0 then cT l else if 1024 < l.length then 2 else 0
def tF (l:List Ax):List UInt8×Int:=if aEi l=0 then (wAs l,0)else ([],aEi l)
def tY (no:Int) (l:List Int):Bool:=l.all (λp=>decide (1<=p) && decide (p < no)) && (match l with| [a,b]=> !decide (b=a)|_=>true)
def cmE (c:Cm):Int:=if c.no < 1\/1024 < c.no\/2 < c.parents.length then 1 else if tY c.no c.parents=true then (if 65536 < c.message.length then 2 else 0)else 1
def rJ (c:Cm):List UInt8×Int:=if cmE c=0 then (wCm c,0)else ([],cmE c)
def alE (a:Al):Int:=if 24 < a.name.length then 1 else if cT a.axioms≠0 then cT a.axioms else if 128 < a.axioms.length\/256 < a.parts.length\/256 < a.path.length then 2 else 0
def uX (a:Al):List UInt8×Int:=if alE a=0 then (wAl a,0)else ([],alE a)
section
variable {α β:Type}
end
end Go.Proofs.YtcomlapnibckmaaGreatDoor
