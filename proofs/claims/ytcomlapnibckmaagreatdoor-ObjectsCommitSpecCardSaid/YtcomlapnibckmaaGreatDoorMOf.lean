/-
  Valid concepts and axioms can be written and read; plain. Terms: has, within of the law; FewAxioms of the reference. Terms: within of the law. Terms: vocabularies are sorted without repetition, and are within one another as the law says. What encoding axioms, commits and alignments answers, and that both readers read it again; plain.
  Conditions: none.
-/
import Derived.Test.YtcomlapnibckmaaGreatDoorMAo
import Derived.Test.YtcomlapnibckmaaGreatDoorMOl
import Derived.Test.YtcomlapnibckmaaGreatDoorMSyi
import Derived.Test.YtcomlapnibckmaaGreatDoorMAc
import Derived.Test.YtcomlapnibckmaaGreatDoorMBu
set_option linter.unnecessarySimpa false
set_option linter.unusedSectionVars false
set_option linter.unusedSimpArgs false
set_option linter.unusedVariables false
set_option maxHeartbeats 4000000
namespace Go.Proofs.YtcomlapnibckmaaGreatDoor
open Go.Proofs
theorem iW {s:List UInt8}(h:dT s=true):s.length<=24:=by
 unfold dT at h
 rw [Bool.and_eq_true]at h
 exact of_decide_eq_true h.1
theorem uU {s:List UInt8}(h:aBm s=true):s.length<=24:=by
 unfold aBm at h
 simp only [Bool.and_eq_true,decide_eq_true_eq]at h
 exact h.2.1
theorem sH {s:List UInt8}(h:jU s=true):s.length<=24:=by
 unfold jU at h
 rcases Bool.or_eq_true_iff.1 h with h|h
 ·exact iW h
 ·exact uU h
theorem xT {c:Cn}(h:cO c=0):(1<=c.kind/\c.kind<=7)/\c.name.length<=24/\(-1099511627776<=c.lo/\c.lo<=1099511627776)/\(-1099511627776<=c.hi/\c.hi<=1099511627776):=by
 unfold cO at h
 split at h
 ·simp at h
 ·rename_i hk
  refine⟨by omega, ?_⟩
  generalize hn:nD c.kind=n at h
  have name:xD n c.name=0->(¬ (n.name=0/\c.name≠[]))->c.name.length<=24:=by
   intro h1 h2
   unfold xD at h1
   split at h1
   ·rename_i h3
    rcases h3 with h3|h3|h3
    ·have:c.name=[]:=Decidable.byContradiction λq=>h2 ⟨h3,q⟩
     rw [this];simp
    ·exact iW h3
    ·exact uU h3.2
   ·simp at h1
  unfold nQ at h
  split at h
  ·simp at h
  ·rename_i h1
   have h2:¬ (n.name=0/\c.name≠[]):= λq=>h1 (Or.inr (Or.inr q))
   split at h
   ·split at h
    ·simp at h
    ·exact⟨name h h2,by omega,by omega⟩
   ·split at h
    ·simp at h
    ·exact⟨name h h2,by omega,by omega⟩
theorem sZ {x:Ax}(h:cJ x=0):(0<=x.kind/\x.kind<=255)/\(cD x.left=0\/lU x.left=true)/\(cD x.right=0\/lU x.right=true)/\(x.roles.length<=4/\ ∀s∈x.roles,s.length<=24)/\x.role.length<=24/\x.a.length<=24/\x.b.length<=24:=by
 obtain⟨hk,hl,hr⟩:=aAu h
 unfold cJ at h
 split at h
 ·simp at h
 ·rename_i hs
  have hs:aZ x=true:=by simpa using hs
  unfold aZ at hs
  split at hs
  ·cases hs
  ·have hm: ∀k:Int,1<=k->k<=9->(oF k).most<=4:=by
    intro k h1 h2
    have h9:k=1\/k=2\/k=3\/k=4\/k=5\/k=6\/k=7\/k=8\/k=9:=by omega
    rcases h9 with rfl|rfl|rfl|rfl|rfl|rfl|rfl|rfl|rfl<;>decide
   have hm:=hm x.kind hk.1 hk.2
   unfold pT at h
   generalize oF x.kind=u at *
   unfold bE at hs
   simp only [Bool.and_eq_true,Bool.or_eq_true,decide_eq_true_eq]at hs
   obtain⟨s1,s2,s3,s4,s5,s6,s7⟩:=hs
   split at h
   ·simp at h
   ·rename_i hn
    have hn:lP u x=true:=by simpa using hn
    unfold lP at hn
    rw [Bool.and_eq_true]at hn
    obtain⟨n1,n2⟩:=hn
    have n1:¬ (u.role=true/\dT x.role=false)/\¬ (u.a=true/\jU x.a=false)/\¬ (u.b=true/\jU x.b=false):=by
     revert n1
     cases u.role<;>cases dT x.role<;>cases u.a<;>cases jU x.a<;>cases u.b<;>cases jU x.b<;>simp
    have q1:x.role.length<=24:=by
     rcases s3 with e|e
     ·exact iW (by cases hp:dT x.role with|true=>rfl|false=>exact absurd ⟨e,hp⟩ n1.1)
     ·rw [e];simp
    have q2:x.a.length<=24:=by
     rcases s4 with e|e
     ·exact sH (by cases hp:jU x.a with|true=>rfl|false=>exact absurd ⟨e,hp⟩ n1.2.1)
     ·rw [e];simp
    have q3:x.b.length<=24:=by
     rcases s5 with e|e
     ·exact sH (by cases hp:jU x.b with|true=>rfl|false=>exact absurd ⟨e,hp⟩ n1.2.2)
     ·rw [e];simp
    refine⟨⟨by omega,by omega⟩, ?_, ?_,⟨by omega,λs hs=> ?_⟩,by omega,by omega,by omega⟩
    ·rcases s1 with e|e
     ·exact .inl (hl e)
     ·exact .inr e
    ·rcases s2 with e|e
     ·exact .inl (hr e)
     ·exact .inr e
    ·have:=iW (List.all_eq_true.1 n2 s hs);omega
theorem yJ (c:Cn):(wC c).length=25+c.name.length+((c.parts.map wC).flatten).length:=by
 rw [aDt]
 unfold tG dJ cQ cV
 simp only [List.length_append,aQ]
 omega
theorem aFk: ∀c:Cn,(∀x∈dM c,x.name.length<=24)->(wC c).length<=49 * lY c:=by
 refine Cn.ind ?_
 intro c ih hn
 have key: ∀l:List Cn,(∀p∈l,p∈c.parts)->(∀x∈bR l,x.name.length<=24)->((l.map wC).flatten).length<=49 * (bR l).length:=by
  intro l
  induction l with
  |nil=>intro _ _;simp
  |cons p r ihr=>
   intro hs hx
   have e:bR (p::r)=dM p++bR r:=by rw [bR]
   rw [e]at hx |-
   have h1:=ih p (hs p (List.mem_cons_self ..)) λx hx'=>hx x (List.mem_append_left _ hx')
   have h2:=ihr (λq hq=>hs q (List.mem_cons_of_mem _ hq)) λx hx'=>hx x (List.mem_append_right _ hx')
   rw [List.map_cons,List.flatten_cons,List.length_append,List.length_append]
   unfold lY at h1
   omega
 have h1:=key c.parts (λ_ h=>h) λx hx=>hn x (by rw [iY];exact List.mem_cons_of_mem _ hx)
 have h2:=hn c (by rw [iY];exact List.mem_cons_self ..)
 have h3:lY c=(bR c.parts).length+1:=by unfold lY;rw [iY,List.length_cons]
 rw [yJ,h3]
 omega
theorem uO {c:Cn}(h:cD c=0\/lU c=true):(wC c).length<=3136:=by
 rcases h with h|h
 ·obtain⟨h1,_,h3⟩:=uH h
  have:=aFk c λx hx=>(xT (h3 x hx)).2.1
  omega
 ·obtain⟨k,n,lo,hi,ps⟩:=c
  unfold lU at h
  simp only [Bool.and_eq_true]at h
  obtain⟨h1,h2,h3,h4,h5⟩:=h
  obtain rfl:n=[]:=of_decide_eq_true h2
  obtain rfl:ps=[]:=of_decide_eq_true h5
  rw [yJ]
  simp [Cn.name,Cn.parts]
theorem fS {α:Type}{w:α->List UInt8}{k:Nat}: ∀{l:List α},(∀x∈l,(w x).length<=k)->((l.map w).flatten).length<=l.length * k
 | [],_=>by simp
 |x::r,h=>by
  have h1:=h x (List.mem_cons_self ..)
  have h2:=fS (l:=r) λy hy=>h y (List.mem_cons_of_mem _ hy)
  rw [List.map_cons,List.flatten_cons,List.length_append,List.length_cons,Nat.add_mul]
  omega
theorem aB6 {x:Ax}(h:cJ x=0):(wA x).length<=7000:=by
 obtain⟨_,h2,h3,⟨h4,h5⟩,h6,h7,h8⟩:=sZ h
 have a1:=uO h2
 have a2:=uO h3
 have a3:((x.roles.map dJ).flatten).length<=x.roles.length * 28:=fS λs hs=>by
  have:=h5 s hs
  unfold dJ;rw [List.length_append,aQ];omega
 have a4:x.roles.length * 28<=4 * 28:=Nat.mul_le_mul_right _ h4
 unfold wA wB tG cV
 simp only [List.length_append,aQ]
 unfold dJ at a3 |-
 simp only [List.length_append,aQ]
 omega
theorem rQ {l:List Ax}(h: ∀x∈l,cJ x=0):(wAs l).length<=4+l.length * 7000:=by
 have:=fS (w:=wA) λx hx=>aB6 (h x hx)
 unfold wAs cV
 rw [List.length_append,aQ]
 omega
end Go.Proofs.YtcomlapnibckmaaGreatDoor
namespace Go.Proofs.YtcomlapnibckmaaGreatDoor
open Go.Proofs
set_option maxRecDepth 10000
attribute [local irreducible] aL aG Tri aD YVC cP bB
theorem oJ (l:List Ax) (n:Int) (hl: ∀x∈l,SzAx x):Tri Tryz.prog 40 [.d (.sl 16 (l.map axR)), .d (.int .i64 n)] [] (λr=>r= .d (.bool (decide ((l.length:Int)<=n) && l.all aAg))):=by
 refine aM hty Tryz.func40 rfl (kp [0,1,4,5,9,13,21]) [] _ _ _ (by simp [Tryz.f40]) (by simp) ?_
 ((conv=>whnf);repeat' ((first|(intro hq;(try simp only [lnS]at hq);(try rewrite [List.length_map]))|refine sJ ?_|refine .intro _ (.intro rfl ?_)|refine exL (k:= ?_)|refine dwR ?_|((first|refine aB ?_ ?_|refine aC ?_ ?_)<;>intro hb<;>(first|exact ddX hb|try simp only [lnS]at hb))|(refine aA ?_ ?_<;>intro hb<;>try exact dsX hb))<;>(conv=>whnf)))
 ·refine bH (Eq.symm ?_)
  rw [decide_eq_false (by omega),Bool.false_and]
 ·have hle:(l.length:Int)<=n:=by omega
  rw [decide_eq_true hle,Bool.true_and]
  refine aR hty (λj:Nat=>([(0, .d (.sl 16 (l.map axR))),(1, .d (.int .i64 n)),(4, .d (.bool false)),(5, .d (.int .i64 j))],[])) (λj=>j<=l.length/\l.all aAg=(l.drop j).all aAg) (λj=>l.length - j) 0 ⟨by omega,rfl⟩ ⟨by repeat' (first|exact trivial|exact rfl|(rw [List.length_map];exact rfl)|refine And.intro ?_ ?_),trivial⟩ ?_
  rintro j ⟨hj,hn⟩
  ((conv=>whnf);repeat ((first|(intro hq;try simp only [lnS]at hq)|refine sI ?_|refine .intro _ (.intro rfl ?_));(conv=>whnf)))
  refine aB (λh1=> ?_) (λh1=> ?_)
  ·have hjl:j < l.length:=by simp only [List.length_map]at h1;omega
   have hrow:(l.map axR)[(j:Int).toNat]? =some (axR l[j]):=cC hjl
   have hc:=rI l[j] (hl _ (List.getElem_mem hjl))
   rw [List.drop_eq_getElem_cons hjl,List.all_cons]at hn
   generalize l[j]=x at hrow hn hc
   ((conv=>whnf);repeat' ((first|(intro hq;(try simp only [lnS]at hq);(try rewrite [List.length_map]))|refine sJ ?_|refine .intro _ (.intro rfl ?_)|refine exL (k:= ?_)|(refine⟨_,hrow, ?_⟩)|(refine aE [] hc trivial (λr hs=> ?_);subst hs)|refine dwR ?_|((first|refine aB ?_ ?_|refine aC ?_ ?_)<;>intro hb<;>(first|exact ddX hb|try simp only [lnS]at hb))|(refine aA ?_ ?_<;>intro hb<;>try exact dsX hb))<;>(conv=>whnf)))
   ·refine bH (Eq.symm ?_)
    rw [hn];simp_all
   ·refine⟨j+1,⟨by omega, ?_⟩,by dsimp only;omega,by repeat' (first|exact trivial|exact rfl|refine And.intro ?_ ?_),trivial⟩
    rw [hn];simp_all
  ·have hjl:j=l.length:=by simp only [List.length_map]at h1;omega
   subst hjl
   ((conv=>whnf);repeat' ((first|(intro hq;(try simp only [lnS]at hq);(try rewrite [List.length_map]))|refine sJ ?_|refine .intro _ (.intro rfl ?_)|refine exL (k:= ?_)|refine dwR ?_|((first|refine aB ?_ ?_|refine aC ?_ ?_)<;>intro hb<;>(first|exact ddX hb|try simp only [lnS]at hb))|(refine aA ?_ ?_<;>intro hb<;>try exact dsX hb))<;>(conv=>whnf)))
   refine bH (Eq.symm ?_)
   rw [hn,List.drop_length];rfl
end Go.Proofs.YtcomlapnibckmaaGreatDoor
namespace Go.Proofs.YtcomlapnibckmaaGreatDoor
open Go.Proofs
set_option maxRecDepth 10000
attribute [local irreducible] aL aG Tri aD YVC cP bB
end Go.Proofs.YtcomlapnibckmaaGreatDoor
namespace Go.Proofs.YtcomlapnibckmaaGreatDoor
open Go.Proofs
theorem jA: ∀(l:List Ax),cN l=0↔ ∀x∈l,cJ x=0
 | []=>by simp [cN]
 |x::r=>by
  rw [cN]
  have:=jA r
  split<;>rename_i h
  ·simp [h]
  ·have h:cJ x=0:=by simpa using h
   simp [h,this]
end Go.Proofs.YtcomlapnibckmaaGreatDoor
namespace Go.Proofs.YtcomlapnibckmaaGreatDoor
open Go.Proofs
def aDg (l:List Ax):Int:=if cN l≠0 then cN l else if 1024 < l.length then 2 else 0
def vX (l:List Ax):List UInt8×Int:=if aDg l=0 then (wAs l,0)else ([],aDg l)
theorem aCy {α:Type}{E:α->Int}{w:α->List UInt8}{x:α}{d:List UInt8}(h:(if E x=0 then (w x,0)else ([],E x):List UInt8×Int)=(d,0)):E x=0/\w x=d:=by
 split at h
 ·rename_i e
  injection h with h _
  exact⟨e,h⟩
 ·rename_i e
  injection h with _ h
  exact absurd h e
def jT (no:Int) (l:List Int):Bool:=l.all (λp=>decide (1<=p) && decide (p < no)) && (match l with| [a,b]=> !decide (b=a)|_=>true)
def cmE (c:Cm):Int:=if c.no < 1\/1024 < c.no\/2 < c.parents.length then 1 else if jT c.no c.parents=true then (if 65536 < c.message.length then 2 else 0)else 1
def jQ (c:Cm):List UInt8×Int:=if cmE c=0 then (wCm c,0)else ([],cmE c)
theorem aDe {c:Cm}(h:cmE c=0):aId c:=by
 unfold cmE at h
 split at h
 ·simp at h
 ·rename_i h1
  split at h
  ·rename_i h2
   split at h
   ·simp at h
   ·unfold jT at h2
    rw [Bool.and_eq_true,List.all_eq_true]at h2
    refine⟨⟨by omega,by omega⟩,⟨by omega,λz hz=> ?_⟩,by omega⟩
    have h3:=h2.1 z hz
    rw [Bool.and_eq_true,decide_eq_true_eq,decide_eq_true_eq]at h3
    exact⟨by omega,by omega⟩
  ·simp at h
theorem aFu {c:Cm}{d:List UInt8}(h:jQ c=(d,0)) (e:List UInt8):rCm (d++e)=some (c,e):=by
 obtain⟨h1,rfl⟩:=aCy h
 exact aE9 (aDe h1) e
def aEb:Rd Cm:=bV rK λn=>bV (uX 8 rK) λps=>bV tY λb=>kL oZ λm=>⟨n,ps,b,m⟩
theorem aB5 (z:Int):8<=(cQ z).length:=by unfold cQ;rw [aQ];omega
theorem aEa {c:Cm}{d:List UInt8}(h:jQ c=(d,0)) (e:List UInt8):aEb (d++e)=some (c,e):=by
 obtain⟨h1,rfl⟩:=aCy h
 obtain⟨a,⟨b1,b2⟩,f⟩:=aDe h1
 unfold aEb wCm
 simp only [List.append_assoc]
 rw [aU (mG a.1 a.2 _),aU (wS (by omega) aB5 (λz hz=>mG (b2 z hz).1 (b2 z hz).2) b1 _),aU (uY _ _),bU (uV f e)]
def alE (a:Al):Int:=if 24 < a.name.length then 1 else if cN a.axioms≠0 then cN a.axioms else if 128 < a.axioms.length\/256 < a.parts.length\/256 < a.path.length then 2 else 0
def xZ (a:Al):List UInt8×Int:=if alE a=0 then (wAl a,0)else ([],alE a)
section
variable {α β:Type}
end
end Go.Proofs.YtcomlapnibckmaaGreatDoor
