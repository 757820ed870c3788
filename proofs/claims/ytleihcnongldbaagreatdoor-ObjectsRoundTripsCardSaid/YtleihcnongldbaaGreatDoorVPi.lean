/-
  Valid concepts and axioms can be written and read; plain. Terms: has, within of the law; FewAxioms of the reference. Terms: within of the law. Terms: vocabularies are sorted without repetition, and are within one another as the law says. What encoding axioms, commits and alignments answers, and that both readers read it again; plain. The reference of objects: axioms in bytes, and what encoding them answers.
  Conditions: none.
-/
import Derived.Test.YtleihcnongldbaaGreatDoorVBr
import Derived.Test.YtleihcnongldbaaGreatDoorVOl
import Derived.Test.YtleihcnongldbaaGreatDoorVSyi
import Derived.Test.YtleihcnongldbaaGreatDoorVSyb
import Derived.Test.YtleihcnongldbaaGreatDoorVBu
import Derived.Test.YtleihcnongldbaaGreatDoorVG4
import Derived.Test.YtleihcnongldbaaGreatDoorVDe
set_option linter.unnecessarySimpa false
set_option linter.unusedSectionVars false
set_option linter.unusedSimpArgs false
set_option linter.unusedVariables false
set_option maxHeartbeats 4000000
namespace Go.Proofs.YtleihcnongldbaaGreatDoor
open Go.Proofs
theorem uQ {p:Cn}: ∀{l:List Cn},p∈l-> ∀x∈eN p,x∈bM l
 | [],h=>by simp at h
 |q::r,h=>by
  intro x hx
  rw [bM]
  rcases List.mem_cons.1 h with e|e
  ·exact List.mem_append_left _ (e ▸ hx)
  ·exact List.mem_append_right _ (uQ e x hx)
theorem zM: ∀{l:List Cn}{d n:Int},(iX l d n).1=true-> ∀p∈l,∃m,(fN p (d+1) m).1=true
 | [],d,n,_=>by simp
 |q::r,d,n,h=>by
  rw [iX]at h
  split at h
  ·rename_i h1
   intro p hp
   rcases List.mem_cons.1 hp with e|e
   ·exact⟨n,by rw [e];exact h1⟩
   ·exact zM h p e
  ·cases h
theorem mB {s:List UInt8}(h:fX s=true):s.length<=24:=by
 unfold fX at h
 rw [Bool.and_eq_true]at h
 exact of_decide_eq_true h.1
theorem aBd {s:List UInt8}(h:aHe s=true):s.length<=24:=by
 unfold aHe at h
 simp only [Bool.and_eq_true,decide_eq_true_eq]at h
 exact h.2.1
theorem sG {s:List UInt8}(h:eZ s=true):s.length<=24:=by
 unfold eZ at h
 rcases Bool.or_eq_true_iff.1 h with h|h
 ·exact mB h
 ·exact aBd h
theorem vM {c:Cn}(h:cX c=0):(1<=c.kind/\c.kind<=7)/\c.name.length<=24/\(-1099511627776<=c.lo/\c.lo<=1099511627776)/\(-1099511627776<=c.hi/\c.hi<=1099511627776):=by
 unfold cX at h
 split at h
 ·simp at h
 ·rename_i hk
  refine⟨by omega, ?_⟩
  generalize hn:sE c.kind=n at h
  have name:aD3 n c.name=0->(¬ (n.name=0/\c.name≠[]))->c.name.length<=24:=by
   intro h1 h2
   unfold aD3 at h1
   split at h1
   ·rename_i h3
    rcases h3 with h3|h3|h3
    ·have:c.name=[]:=Decidable.byContradiction λq=>h2 ⟨h3,q⟩
     rw [this];simp
    ·exact mB h3
    ·exact aBd h3.2
   ·simp at h1
  unfold tB at h
  split at h
  ·simp at h
  ·rename_i h1
   have h2:¬ (n.name=0/\c.name≠[]):= λq=>h1 (Or.inr (Or.inr q))
   split at h
   ·split at h
    ·simp at h
    ·exact⟨name h h2,by omega,by omega⟩
   ·split at h
    ·simp at h
    ·exact⟨name h h2,by omega,by omega⟩
theorem aJ8: ∀(k:Nat) (c:Cn) (d n:Int),d+k=9->(fN c d n).1=true->(∀x∈eN c,cX x=0)->bW c<=64->OkC k c
 | 0,c,d,n,hd,hf,_,_=>by
  rw [rD,if_pos (Or.inl (by omega))]at hf
  cases hf
 |k+1,c,d,n,hd,hf,hz,hs=>by
  obtain⟨h1,h2,h3,h4⟩:=vM (hz c (by rw [eV];exact List.mem_cons_self ..))
  have hl:c.parts.length<=64:=by have:=nN c;have:=vH c.parts;unfold aH8 at *;omega
  refine⟨⟨by omega,by omega⟩,by omega,⟨by omega,by omega⟩,⟨by omega,by omega⟩,by omega,λp hp=> ?_⟩
  rw [rD]at hf
  split at hf
  ·cases hf
  ·obtain⟨m,hm⟩:=zM hf p hp
   refine aJ8 k p (d+1) m (by omega) hm (λx hx=>hz x ?_) ?_
   ·rw [eV];exact List.mem_cons_of_mem _ (uQ hp x hx)
   ·have:=aH7 hp;have:=nN c;omega
theorem aF7 {c:Cn}(h:cD c=0):OkC 9 c:=by
 obtain⟨h1,_,h3⟩:=jD h
 unfold cD at h
 split at h
 ·simp at h
 ·rename_i hf
  exact aJ8 9 c 0 0 rfl (by simpa using hf) h3 h1
theorem aF8 {c:Cn}(h:gG c=true):OkC 9 c:=by
 obtain⟨k,n,lo,hi,ps⟩:=c
 unfold gG at h
 simp only [Bool.and_eq_true]at h
 obtain⟨h1,h2,h3,h4,h5⟩:=h
 obtain rfl:k=0:=of_decide_eq_true h1
 obtain rfl:n=[]:=of_decide_eq_true h2
 obtain rfl:lo=0:=of_decide_eq_true h3
 obtain rfl:hi=0:=of_decide_eq_true h4
 obtain rfl:ps=[]:=of_decide_eq_true h5
 exact⟨⟨by decide,by decide⟩,by decide,⟨by decide,by decide⟩,⟨by decide,by decide⟩,by decide,λp hp=>by simp [Cn.parts]at hp⟩
theorem qK {x:Ax}(h:cJ x=0):(0<=x.kind/\x.kind<=255)/\(cD x.left=0\/gG x.left=true)/\(cD x.right=0\/gG x.right=true)/\(x.roles.length<=4/\ ∀s∈x.roles,s.length<=24)/\x.role.length<=24/\x.a.length<=24/\x.b.length<=24:=by
 obtain⟨hk,hl,hr⟩:=aA2 h
 unfold cJ at h
 split at h
 ·simp at h
 ·rename_i hs
  have hs:bE x=true:=by simpa using hs
  unfold bE at hs
  split at hs
  ·cases hs
  ·have hm: ∀k:Int,1<=k->k<=9->(qM k).most<=4:=by
    intro k h1 h2
    have h9:k=1\/k=2\/k=3\/k=4\/k=5\/k=6\/k=7\/k=8\/k=9:=by omega
    rcases h9 with rfl|rfl|rfl|rfl|rfl|rfl|rfl|rfl|rfl<;>decide
   have hm:=hm x.kind hk.1 hk.2
   unfold vV at h
   generalize qM x.kind=u at *
   unfold bN at hs
   simp only [Bool.and_eq_true,Bool.or_eq_true,decide_eq_true_eq]at hs
   obtain⟨s1,s2,s3,s4,s5,s6,s7⟩:=hs
   split at h
   ·simp at h
   ·rename_i hn
    have hn:qB u x=true:=by simpa using hn
    unfold qB at hn
    rw [Bool.and_eq_true]at hn
    obtain⟨n1,n2⟩:=hn
    have n1:¬ (u.role=true/\fX x.role=false)/\¬ (u.a=true/\eZ x.a=false)/\¬ (u.b=true/\eZ x.b=false):=by
     revert n1
     cases u.role<;>cases fX x.role<;>cases u.a<;>cases eZ x.a<;>cases u.b<;>cases eZ x.b<;>simp
    have q1:x.role.length<=24:=by
     rcases s3 with e|e
     ·exact mB (by cases hp:fX x.role with|true=>rfl|false=>exact absurd ⟨e,hp⟩ n1.1)
     ·rw [e];simp
    have q2:x.a.length<=24:=by
     rcases s4 with e|e
     ·exact sG (by cases hp:eZ x.a with|true=>rfl|false=>exact absurd ⟨e,hp⟩ n1.2.1)
     ·rw [e];simp
    have q3:x.b.length<=24:=by
     rcases s5 with e|e
     ·exact sG (by cases hp:eZ x.b with|true=>rfl|false=>exact absurd ⟨e,hp⟩ n1.2.2)
     ·rw [e];simp
    refine⟨⟨by omega,by omega⟩, ?_, ?_,⟨by omega,λs hs=> ?_⟩,by omega,by omega,by omega⟩
    ·rcases s1 with e|e
     ·exact .inl (hl e)
     ·exact .inr e
    ·rcases s2 with e|e
     ·exact .inl (hr e)
     ·exact .inr e
    ·have:=mB (List.all_eq_true.1 n2 s hs);omega
theorem zB {c:Cn}(h:cD c=0\/gG c=true):OkC 9 c:=h.elim aF7 aF8
theorem zC {x:Ax}(h:cJ x=0):OkA 9 x:=by
 obtain⟨h1,h2,h3,⟨h4,h5⟩,h6,h7,h8⟩:=qK h
 exact⟨h1,zB h2,zB h3,⟨by omega,λs hs=>by have:=h5 s hs;omega⟩,by omega,by omega,by omega⟩
theorem aE2 (c:Cn):(wC c).length=25+c.name.length+((c.parts.map wC).flatten).length:=by
 rw [aGq]
 unfold vY dO gN bO
 simp only [List.length_append,aT]
 omega
theorem aM7: ∀c:Cn,(∀x∈eN c,x.name.length<=24)->(wC c).length<=49 * bW c:=by
 refine Cn.ind ?_
 intro c ih hn
 have key: ∀l:List Cn,(∀p∈l,p∈c.parts)->(∀x∈bM l,x.name.length<=24)->((l.map wC).flatten).length<=49 * (bM l).length:=by
  intro l
  induction l with
  |nil=>intro _ _;simp
  |cons p r ihr=>
   intro hs hx
   have e:bM (p::r)=eN p++bM r:=by rw [bM]
   rw [e]at hx |-
   have h1:=ih p (hs p (List.mem_cons_self ..)) λx hx'=>hx x (List.mem_append_left _ hx')
   have h2:=ihr (λq hq=>hs q (List.mem_cons_of_mem _ hq)) λx hx'=>hx x (List.mem_append_right _ hx')
   rw [List.map_cons,List.flatten_cons,List.length_append,List.length_append]
   unfold bW at h1
   omega
 have h1:=key c.parts (λ_ h=>h) λx hx=>hn x (by rw [eV];exact List.mem_cons_of_mem _ hx)
 have h2:=hn c (by rw [eV];exact List.mem_cons_self ..)
 have h3:bW c=(bM c.parts).length+1:=by unfold bW;rw [eV,List.length_cons]
 rw [aE2,h3]
 omega
theorem aB8 {c:Cn}(h:cD c=0\/gG c=true):(wC c).length<=3136:=by
 rcases h with h|h
 ·obtain⟨h1,_,h3⟩:=jD h
  have:=aM7 c λx hx=>(vM (h3 x hx)).2.1
  omega
 ·obtain⟨k,n,lo,hi,ps⟩:=c
  unfold gG at h
  simp only [Bool.and_eq_true]at h
  obtain⟨h1,h2,h3,h4,h5⟩:=h
  obtain rfl:n=[]:=of_decide_eq_true h2
  obtain rfl:ps=[]:=of_decide_eq_true h5
  rw [aE2]
  simp [Cn.name,Cn.parts]
theorem eX {α:Type}{w:α->List UInt8}{k:Nat}: ∀{l:List α},(∀x∈l,(w x).length<=k)->((l.map w).flatten).length<=l.length * k
 | [],_=>by simp
 |x::r,h=>by
  have h1:=h x (List.mem_cons_self ..)
  have h2:=eX (l:=r) λy hy=>h y (List.mem_cons_of_mem _ hy)
  rw [List.map_cons,List.flatten_cons,List.length_append,List.length_cons,Nat.add_mul]
  omega
theorem aGs {x:Ax}(h:cJ x=0):(wA x).length<=7000:=by
 obtain⟨_,h2,h3,⟨h4,h5⟩,h6,h7,h8⟩:=qK h
 have a1:=aB8 h2
 have a2:=aB8 h3
 have a3:((x.roles.map dO).flatten).length<=x.roles.length * 28:=eX λs hs=>by
  have:=h5 s hs
  unfold dO;rw [List.length_append,aT];omega
 have a4:x.roles.length * 28<=4 * 28:=Nat.mul_le_mul_right _ h4
 unfold wA wB vY bO
 simp only [List.length_append,aT]
 unfold dO at a3 |-
 simp only [List.length_append,aT]
 omega
theorem nK {l:List Ax}(h: ∀x∈l,cJ x=0):(wAs l).length<=4+l.length * 7000:=by
 have:=eX (w:=wA) λx hx=>aGs (h x hx)
 unfold wAs bO
 rw [List.length_append,aT]
 omega
end Go.Proofs.YtleihcnongldbaaGreatDoor
namespace Go.Proofs.YtleihcnongldbaaGreatDoor
open Go.Proofs
set_option maxRecDepth 10000
attribute [local irreducible] aO aH Tri aG YVC cL bB
theorem mW (l:List Ax) (n:Int) (hl: ∀x∈l,SzAx x):Tri Tryz.prog 27 [.d (.sl 16 (l.map axR)), .d (.int .i64 n)] [] (λr=>r= .d (.bool (decide ((l.length:Int)<=n) && l.all uD))):=by
 refine aJ hty Tryz.func27 rfl (kp [0,1,4,5,9,13,21]) [] _ _ _ (by simp [Tryz.f27]) (by simp) ?_
 ((conv=>whnf);repeat' ((first|(intro hq;(try simp only [lnS]at hq);(try rewrite [List.length_map]))|refine sJ ?_|refine .intro _ (.intro rfl ?_)|refine exL (k:= ?_)|refine dwR ?_|((first|refine aB ?_ ?_|refine aC ?_ ?_)<;>intro hb<;>(first|exact ddX hb|try simp only [lnS]at hb))|(refine aA ?_ ?_<;>intro hb<;>try exact dsX hb))<;>(conv=>whnf)))
 ·refine aX (Eq.symm ?_)
  rw [decide_eq_false (by omega),Bool.false_and]
 ·have hle:(l.length:Int)<=n:=by omega
  rw [decide_eq_true hle,Bool.true_and]
  refine aL hty (λj:Nat=>([(0, .d (.sl 16 (l.map axR))),(1, .d (.int .i64 n)),(4, .d (.bool false)),(5, .d (.int .i64 j))],[])) (λj=>j<=l.length/\l.all uD=(l.drop j).all uD) (λj=>l.length - j) 0 ⟨by omega,rfl⟩ ⟨by repeat' (first|exact trivial|exact rfl|(rw [List.length_map];exact rfl)|refine And.intro ?_ ?_),trivial⟩ ?_
  rintro j ⟨hj,hn⟩
  ((conv=>whnf);repeat ((first|(intro hq;try simp only [lnS]at hq)|refine sI ?_|refine .intro _ (.intro rfl ?_));(conv=>whnf)))
  refine aB (λh1=> ?_) (λh1=> ?_)
  ·have hjl:j < l.length:=by simp only [List.length_map]at h1;omega
   have hrow:(l.map axR)[(j:Int).toNat]? =some (axR l[j]):=aZ hjl
   have hc:=yF l[j] (hl _ (List.getElem_mem hjl))
   rw [List.drop_eq_getElem_cons hjl,List.all_cons]at hn
   generalize l[j]=x at hrow hn hc
   ((conv=>whnf);repeat' ((first|(intro hq;(try simp only [lnS]at hq);(try rewrite [List.length_map]))|refine sJ ?_|refine .intro _ (.intro rfl ?_)|refine exL (k:= ?_)|(refine⟨_,hrow, ?_⟩)|(refine aD [] hc trivial (λr hs=> ?_);subst hs)|refine dwR ?_|((first|refine aB ?_ ?_|refine aC ?_ ?_)<;>intro hb<;>(first|exact ddX hb|try simp only [lnS]at hb))|(refine aA ?_ ?_<;>intro hb<;>try exact dsX hb))<;>(conv=>whnf)))
   ·refine aX (Eq.symm ?_)
    rw [hn];simp_all
   ·refine⟨j+1,⟨by omega, ?_⟩,by dsimp only;omega,by repeat' (first|exact trivial|exact rfl|refine And.intro ?_ ?_),trivial⟩
    rw [hn];simp_all
  ·have hjl:j=l.length:=by simp only [List.length_map]at h1;omega
   subst hjl
   ((conv=>whnf);repeat' ((first|(intro hq;(try simp only [lnS]at hq);(try rewrite [List.length_map]))|refine sJ ?_|refine .intro _ (.intro rfl ?_)|refine exL (k:= ?_)|refine dwR ?_|((first|refine aB ?_ ?_|refine aC ?_ ?_)<;>intro hb<;>(first|exact ddX hb|try simp only [lnS]at hb))|(refine aA ?_ ?_<;>intro hb<;>try exact dsX hb))<;>(conv=>whnf)))
   refine aX (Eq.symm ?_)
   rw [hn,List.drop_length];rfl
end Go.Proofs.YtleihcnongldbaaGreatDoor
namespace Go.Proofs.YtleihcnongldbaaGreatDoor
open Go.Proofs
set_option maxRecDepth 10000
attribute [local irreducible] aO aH Tri aG YVC cL bB
end Go.Proofs.YtleihcnongldbaaGreatDoor
namespace Go.Proofs.YtleihcnongldbaaGreatDoor
open Go.Proofs
theorem dN: ∀(l:List Ax),dD l=0↔ ∀x∈l,cJ x=0
 | []=>by simp [dD]
 |x::r=>by
  rw [dD]
  have:=dN r
  split<;>rename_i h
  ·simp [h]
  ·have h:cJ x=0:=by simpa using h
   simp [h,this]
end Go.Proofs.YtleihcnongldbaaGreatDoor
namespace Go.Proofs.YtleihcnongldbaaGreatDoor
open Go.Proofs
def aGg (l:List Ax):Int:=if dD l≠0 then dD l else if 1024 < l.length then 2 else 0
def fF (l:List Ax):List UInt8×Int:=if aGg l=0 then (wAs l,0)else ([],aGg l)
theorem aB3 {l:List Ax}(h:aGg l=0):(∀x∈l,cJ x=0)/\l.length<=1024:=by
 unfold aGg at h
 split at h
 ·exact absurd h (by assumption)
 ·rename_i h1
  split at h
  ·simp at h
  ·exact⟨(dN l).1 (Decidable.not_not.1 h1),by omega⟩
theorem mQ {α:Type}{E:α->Int}{w:α->List UInt8}{x:α}{d:List UInt8}(h:(if E x=0 then (w x,0)else ([],E x):List UInt8×Int)=(d,0)):E x=0/\w x=d:=by
 split at h
 ·rename_i e
  injection h with h _
  exact⟨e,h⟩
 ·rename_i e
  injection h with _ h
  exact absurd h e
theorem aJ4 {l:List Ax}{d:List UInt8}(h:fF l=(d,0)) (e:List UInt8):rAs 9 (d++e)=some (l,e):=by
 obtain⟨h1,rfl⟩:=mQ h
 obtain⟨h2,h3⟩:=aB3 h1
 exact aEz (λx hx=>zC (h2 x hx)) (by omega) e
def xF (no:Int) (l:List Int):Bool:=l.all (λp=>decide (1<=p) && decide (p < no)) && (match l with| [a,b]=> !decide (b=a)|_=>true)
def cmE (c:Cm):Int:=if c.no < 1\/1024 < c.no\/2 < c.parents.length then 1 else if xF c.no c.parents=true then (if 65536 < c.message.length then 2 else 0)else 1
def fI (c:Cm):List UInt8×Int:=if cmE c=0 then (wCm c,0)else ([],cmE c)
theorem aN7 {c:Cm}(h:cmE c=0):aPv c:=by
 unfold cmE at h
 split at h
 ·simp at h
 ·rename_i h1
  split at h
  ·rename_i h2
   split at h
   ·simp at h
   ·unfold xF at h2
    rw [Bool.and_eq_true,List.all_eq_true]at h2
    refine⟨⟨by omega,by omega⟩,⟨by omega,λz hz=> ?_⟩,by omega⟩
    have h3:=h2.1 z hz
    rw [Bool.and_eq_true,decide_eq_true_eq,decide_eq_true_eq]at h3
    exact⟨by omega,by omega⟩
  ·simp at h
theorem aJ3 {c:Cm}{d:List UInt8}(h:fI c=(d,0)) (e:List UInt8):rCm (d++e)=some (c,e):=by
 obtain⟨h1,rfl⟩:=mQ h
 exact aKs (aN7 h1) e
def alE (a:Al):Int:=if 24 < a.name.length then 1 else if dD a.axioms≠0 then dD a.axioms else if 128 < a.axioms.length\/256 < a.parts.length\/256 < a.path.length then 2 else 0
def fG (a:Al):List UInt8×Int:=if alE a=0 then (wAl a,0)else ([],alE a)
theorem aNn {a:Al}(h:alE a=0) (hi:InI a.index):aPw 9 a:=by
 unfold alE at h
 split at h
 ·simp at h
 ·split at h
  ·exact absurd h (by assumption)
  ·rename_i h1
   split at h
   ·simp at h
   ·exact⟨by omega,⟨by omega,λx hx=>zC ((dN _).1 (Decidable.not_not.1 h1) x hx)⟩,hi,by omega,by omega⟩
theorem yN {α:Type}(w:α->List UInt8) (l:List α):4<=(bO w l).length:=by unfold bO;rw [List.length_append,aT];omega
section
variable {α β:Type}
theorem aHi {b c:List UInt8}{z:Int}(h:yW b=some (z,c)):InI z:=by
 obtain⟨n,h1,rfl⟩:=nV h
 obtain⟨l,h2,rfl⟩:=nV h1
 have hl:l.length=8:=by
  unfold jN at h2
  split at h2
  ·injection h2 with h2;injection h2 with h2 _
   rw [<-h2,List.length_take];omega
  ·cases h2
 exact aKn (tK 8 l hl)
theorem aKu {m:Nat}{b c:List UInt8}{a:Al}(h:rAl m b=some (a,c)):InI a.index:=by
 obtain⟨_,_,_,h⟩:=fW h
 obtain⟨_,_,_,h⟩:=fW h
 obtain⟨_,_,_,h⟩:=fW h
 obtain⟨_,_,_,h⟩:=fW h
 obtain⟨_,_,h1,h⟩:=fW h
 obtain⟨_,_,_,h⟩:=fW h
 obtain⟨_,_,rfl⟩:=nV h
 exact aHi h1
theorem aIf {Q:α->Prop}{rd:Rd α}{wr:α->List UInt8×Int}{zero:α}{bad:Int}{b c:List UInt8}{x:α}(hq: ∀b y c,rd b=some (y,c)->Q y) (enc: ∀y d,Q y->wr y=(d,0)-> ∀e,rd (d++e)=some (y,e)) (hx:Q x) (h:wr x=(b++c,0)) (hc:c≠[]):cZ rd wr zero bad b=(zero,bad):=by
 unfold cZ
 split
 ·rename_i y h1
  split
  ·rename_i h2
   have h3:=enc y b (hq _ _ _ h1) h2 c
   have h4:=enc x _ hx h []
   rw [List.append_nil,h3]at h4
   injection h4 with h4;injection h4 with _ h4
   exact absurd h4 hc
  ·rfl
 ·rfl
end
theorem aJ5 {a:Al}{d:List UInt8}(hi:InI a.index) (h:fG a=(d,0)) (e:List UInt8):rAl 9 (d++e)=some (a,e):=by
 obtain⟨h1,rfl⟩:=mQ h
 exact aKv (aNn h1 hi) e
end Go.Proofs.YtleihcnongldbaaGreatDoor
namespace Go.Proofs.YtleihcnongldbaaGreatDoor
open Go.Proofs Go.RowKit
set_option maxRecDepth 10000
attribute [local irreducible] aO aH Tri aG YVC cL bB aJu
end Go.Proofs.YtleihcnongldbaaGreatDoor
