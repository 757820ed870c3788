/-
  Valid concepts and axioms can be written and read; plain. Terms: has, within of the law; FewAxioms of the reference. Terms: within of the law. Terms: vocabularies are sorted without repetition, and are within one another as the law says. What encoding axioms, commits and alignments answers, and that both readers read it again; plain. The reference of objects: axioms in bytes, and what encoding them answers.
  Conditions: none.
-/
import Derived.Test.YtleihcnongldbaaGreatDoorWBu
import Derived.Test.YtleihcnongldbaaGreatDoorWOn
import Derived.Test.YtleihcnongldbaaGreatDoorWSyi
import Derived.Test.YtleihcnongldbaaGreatDoorWG4
import Derived.Test.YtleihcnongldbaaGreatDoorWDe
set_option linter.unnecessarySimpa false
set_option linter.unusedSectionVars false
set_option linter.unusedSimpArgs false
set_option linter.unusedVariables false
set_option maxHeartbeats 32000000
namespace Go.Proofs.YtleihcnongldbaaGreatDoor
open Go.Proofs
theorem zS {p:Cn}: ∀{l:List Cn},p∈l-> ∀x∈eJ p,x∈bD l
 | [],h=>by simp at h
 |q::r,h=>by
  intro x hx
  rw [bD]
  rcases List.mem_cons.1 h with e|e
  ·exact List.mem_append_left _ (e ▸ hx)
  ·exact List.mem_append_right _ (zS e x hx)
theorem aDd: ∀{l:List Cn}{d n:Int},(fO l d n).1=true-> ∀p∈l,∃m,(eK p (d+1) m).1=true
 | [],d,n,_=>by simp
 |q::r,d,n,h=>by
  rw [fO]at h
  split at h
  ·rename_i h1
   intro p hp
   rcases List.mem_cons.1 hp with e|e
   ·exact⟨n,by rw [e];exact h1⟩
   ·exact aDd h p e
  ·cases h
theorem oU {s:List UInt8}(h:dD s=true):s.length<=24:=by
 unfold dD at h
 rw [Bool.and_eq_true]at h
 exact of_decide_eq_true h.1
theorem aFo {s:List UInt8}(h:aBe s=true):s.length<=24:=by
 unfold aBe at h
 simp only [Bool.and_eq_true,decide_eq_true_eq]at h
 exact h.2.1
theorem xM {s:List UInt8}(h:dM s=true):s.length<=24:=by
 unfold dM at h
 rcases Bool.or_eq_true_iff.1 h with h|h
 ·exact oU h
 ·exact aFo h
theorem aAk {c:Cn}(h:cS c=0):(1<=c.kind/\c.kind<=7)/\c.name.length<=24/\(-1099511627776<=c.lo/\c.lo<=1099511627776)/\(-1099511627776<=c.hi/\c.hi<=1099511627776):=by
 unfold cS at h
 split at h
 ·simp at h
 ·rename_i hk
  refine⟨by omega, ?_⟩
  generalize hn:iK c.kind=n at h
  have name:aEv n c.name=0->(¬ (n.name=0/\c.name≠[]))->c.name.length<=24:=by
   intro h1 h2
   unfold aEv at h1
   split at h1
   ·rename_i h3
    rcases h3 with h3|h3|h3
    ·have:c.name=[]:=Decidable.byContradiction λq=>h2 ⟨h3,q⟩
     rw [this];simp
    ·exact oU h3
    ·exact aFo h3.2
   ·simp at h1
  unfold rE at h
  split at h
  ·simp at h
  ·rename_i h1
   have h2:¬ (n.name=0/\c.name≠[]):= λq=>h1 (Or.inr (Or.inr q))
   split at h
   ·split at h
    ·simp at h
    ·exact⟨name h h2,by omega,by omega⟩
   ·split at h
    ·simp at h
    ·exact⟨name h h2,by omega,by omega⟩
theorem aOp: ∀(k:Nat) (c:Cn) (d n:Int),d+k=9->(eK c d n).1=true->(∀x∈eJ c,cS x=0)->bH c<=64->OkC k c
 | 0,c,d,n,hd,hf,_,_=>by
  rw [vX,if_pos (Or.inl (by omega))]at hf
  cases hf
 |k+1,c,d,n,hd,hf,hz,hs=>by
  obtain⟨h1,h2,h3,h4⟩:=aAk (hz c (by rw [eD];exact List.mem_cons_self ..))
  have hl:c.parts.length<=64:=by have:=kA c;have:=aAd c.parts;unfold aEc at *;omega
  refine⟨⟨by omega,by omega⟩,by omega,⟨by omega,by omega⟩,⟨by omega,by omega⟩,by omega,λp hp=> ?_⟩
  rw [vX]at hf
  split at hf
  ·cases hf
  ·obtain⟨m,hm⟩:=aDd hf p hp
   refine aOp k p (d+1) m (by omega) hm (λx hx=>hz x ?_) ?_
   ·rw [eD];exact List.mem_cons_of_mem _ (zS hp x hx)
   ·have:=aMh hp;have:=kA c;omega
theorem aK8 {c:Cn}(h:cA c=0):OkC 9 c:=by
 obtain⟨h1,_,h3⟩:=mO h
 unfold cA at h
 split at h
 ·simp at h
 ·rename_i hf
  exact aOp 9 c 0 0 rfl (by simpa using hf) h3 h1
theorem aK9 {c:Cn}(h:fC c=true):OkC 9 c:=by
 obtain⟨k,n,lo,hi,ps⟩:=c
 unfold fC at h
 simp only [Bool.and_eq_true]at h
 obtain⟨h1,h2,h3,h4,h5⟩:=h
 obtain rfl:k=0:=of_decide_eq_true h1
 obtain rfl:n=[]:=of_decide_eq_true h2
 obtain rfl:lo=0:=of_decide_eq_true h3
 obtain rfl:hi=0:=of_decide_eq_true h4
 obtain rfl:ps=[]:=of_decide_eq_true h5
 exact⟨⟨by decide,by decide⟩,by decide,⟨by decide,by decide⟩,⟨by decide,by decide⟩,by decide,λp hp=>by simp [Cn.parts]at hp⟩
theorem uY {x:Ax}(h:cD x=0):(0<=x.kind/\x.kind<=255)/\(cA x.left=0\/fC x.left=true)/\(cA x.right=0\/fC x.right=true)/\(x.roles.length<=4/\ ∀s∈x.roles,s.length<=24)/\x.role.length<=24/\x.a.length<=24/\x.b.length<=24:=by
 obtain⟨hk,hl,hr⟩:=aDw h
 unfold cD at h
 split at h
 ·simp at h
 ·rename_i hs
  have hs:bJ x=true:=by simpa using hs
  unfold bJ at hs
  split at hs
  ·cases hs
  ·have hm: ∀k:Int,1<=k->k<=9->(gT k).most<=4:=by
    intro k h1 h2
    have h9:k=1\/k=2\/k=3\/k=4\/k=5\/k=6\/k=7\/k=8\/k=9:=by omega
    rcases h9 with rfl|rfl|rfl|rfl|rfl|rfl|rfl|rfl|rfl<;>decide
   have hm:=hm x.kind hk.1 hk.2
   unfold uX at h
   generalize gT x.kind=u at *
   unfold bU at hs
   simp only [Bool.and_eq_true,Bool.or_eq_true,decide_eq_true_eq]at hs
   obtain⟨s1,s2,s3,s4,s5,s6,s7⟩:=hs
   split at h
   ·simp at h
   ·rename_i hn
    have hn:sG u x=true:=by simpa using hn
    unfold sG at hn
    rw [Bool.and_eq_true]at hn
    obtain⟨n1,n2⟩:=hn
    have n1:¬ (u.role=true/\dD x.role=false)/\¬ (u.a=true/\dM x.a=false)/\¬ (u.b=true/\dM x.b=false):=by
     revert n1
     cases u.role<;>cases dD x.role<;>cases u.a<;>cases dM x.a<;>cases u.b<;>cases dM x.b<;>simp
    have q1:x.role.length<=24:=by
     rcases s3 with e|e
     ·exact oU (by cases hp:dD x.role with|true=>rfl|false=>exact absurd ⟨e,hp⟩ n1.1)
     ·rw [e];simp
    have q2:x.a.length<=24:=by
     rcases s4 with e|e
     ·exact xM (by cases hp:dM x.a with|true=>rfl|false=>exact absurd ⟨e,hp⟩ n1.2.1)
     ·rw [e];simp
    have q3:x.b.length<=24:=by
     rcases s5 with e|e
     ·exact xM (by cases hp:dM x.b with|true=>rfl|false=>exact absurd ⟨e,hp⟩ n1.2.2)
     ·rw [e];simp
    refine⟨⟨by omega,by omega⟩, ?_, ?_,⟨by omega,λs hs=> ?_⟩,by omega,by omega,by omega⟩
    ·rcases s1 with e|e
     ·exact .inl (hl e)
     ·exact .inr e
    ·rcases s2 with e|e
     ·exact .inl (hr e)
     ·exact .inr e
    ·have:=oU (List.all_eq_true.1 n2 s hs);omega
theorem aD0 {c:Cn}(h:cA c=0\/fC c=true):OkC 9 c:=h.elim aK8 aK9
theorem aKa {x:Ax}(h:cD x=0):OkA 9 x:=by
 obtain⟨h1,h2,h3,⟨h4,h5⟩,h6,h7,h8⟩:=uY h
 exact⟨h1,aD0 h2,aD0 h3,⟨by omega,λs hs=>by have:=h5 s hs;omega⟩,by omega,by omega,by omega⟩
theorem aIn (c:Cn):(wC c).length=25+c.name.length+((c.parts.map wC).flatten).length:=by
 rw [aE4]
 unfold eG bC dI aX
 simp only [List.length_append,aP]
 omega
theorem aRv: ∀c:Cn,(∀x∈eJ c,x.name.length<=24)->(wC c).length<=49 * bH c:=by
 refine Cn.ind ?_
 intro c ih hn
 have key: ∀l:List Cn,(∀p∈l,p∈c.parts)->(∀x∈bD l,x.name.length<=24)->((l.map wC).flatten).length<=49 * (bD l).length:=by
  intro l
  induction l with
  |nil=>intro _ _;simp
  |cons p r ihr=>
   intro hs hx
   have e:bD (p::r)=eJ p++bD r:=by rw [bD]
   rw [e]at hx |-
   have h1:=ih p (hs p (List.mem_cons_self ..)) λx hx'=>hx x (List.mem_append_left _ hx')
   have h2:=ihr (λq hq=>hs q (List.mem_cons_of_mem _ hq)) λx hx'=>hx x (List.mem_append_right _ hx')
   rw [List.map_cons,List.flatten_cons,List.length_append,List.length_append]
   unfold bH at h1
   omega
 have h1:=key c.parts (λ_ h=>h) λx hx=>hn x (by rw [eD];exact List.mem_cons_of_mem _ hx)
 have h2:=hn c (by rw [eD];exact List.mem_cons_self ..)
 have h3:bH c=(bD c.parts).length+1:=by unfold bH;rw [eD,List.length_cons]
 rw [aIn,h3]
 omega
theorem aFi {c:Cn}(h:cA c=0\/fC c=true):(wC c).length<=3136:=by
 rcases h with h|h
 ·obtain⟨h1,_,h3⟩:=mO h
  have:=aRv c λx hx=>(aAk (h3 x hx)).2.1
  omega
 ·obtain⟨k,n,lo,hi,ps⟩:=c
  unfold fC at h
  simp only [Bool.and_eq_true]at h
  obtain⟨h1,h2,h3,h4,h5⟩:=h
  obtain rfl:n=[]:=of_decide_eq_true h2
  obtain rfl:ps=[]:=of_decide_eq_true h5
  rw [aIn]
  simp [Cn.name,Cn.parts]
theorem eX {α:Type}{w:α->List UInt8}{k:Nat}: ∀{l:List α},(∀x∈l,(w x).length<=k)->((l.map w).flatten).length<=l.length * k
 | [],_=>by simp
 |x::r,h=>by
  have h1:=h x (List.mem_cons_self ..)
  have h2:=eX (l:=r) λy hy=>h y (List.mem_cons_of_mem _ hy)
  rw [List.map_cons,List.flatten_cons,List.length_append,List.length_cons,Nat.add_mul]
  omega
theorem aLz {x:Ax}(h:cD x=0):(wA x).length<=7000:=by
 obtain⟨_,h2,h3,⟨h4,h5⟩,h6,h7,h8⟩:=uY h
 have a1:=aFi h2
 have a2:=aFi h3
 have a3:((x.roles.map bC).flatten).length<=x.roles.length * 28:=eX λs hs=>by
  have:=h5 s hs
  unfold bC;rw [List.length_append,aP];omega
 have a4:x.roles.length * 28<=4 * 28:=Nat.mul_le_mul_right _ h4
 unfold wA wB eG aX
 simp only [List.length_append,aP]
 unfold bC at a3 |-
 simp only [List.length_append,aP]
 omega
theorem wM {l:List Ax}(h: ∀x∈l,cD x=0):(wAs l).length<=4+l.length * 7000:=by
 have:=eX (w:=wA) λx hx=>aLz (h x hx)
 unfold wAs aX
 rw [List.length_append,aP]
 omega
end Go.Proofs.YtleihcnongldbaaGreatDoor
namespace Go.Proofs.YtleihcnongldbaaGreatDoor
open Go.Proofs
set_option maxRecDepth 10000
attribute [local irreducible] aN aJ Tri aI YVC cP bE
theorem qJ (l:List Ax) (n:Int) (hl: ∀x∈l,SzAx x):Tri Tryz.prog 27 [.d (.sl 16 (l.map axR)), .d (.int .i64 n)] [] (λr=>r= .d (.bool (decide ((l.length:Int)<=n) && l.all aC1))):=by
 refine aF hty Tryz.func27 rfl (kp [0,1,4,5,9,13,21]) [] _ _ _ (by simp [Tryz.f27]) (by simp) ?_
 ((conv=>whnf);repeat' ((first|(intro hq;(try simp only [lnS]at hq);(try rewrite [List.length_map]))|refine sJ ?_|refine .intro _ (.intro rfl ?_)|refine exL (k:= ?_)|refine dwR ?_|((first|refine aB ?_ ?_|refine aC ?_ ?_)<;>intro hb<;>(first|exact ddX hb|try simp only [lnS]at hb))|(refine aA ?_ ?_<;>intro hb<;>try exact dsX hb))<;>(conv=>whnf)))
 ·refine aQ (Eq.symm ?_)
  rw [decide_eq_false (by omega),Bool.false_and]
 ·have hle:(l.length:Int)<=n:=by omega
  rw [decide_eq_true hle,Bool.true_and]
  refine aH hty (λj:Nat=>([(0, .d (.sl 16 (l.map axR))),(1, .d (.int .i64 n)),(4, .d (.bool false)),(5, .d (.int .i64 j))],[])) (λj=>j<=l.length/\l.all aC1=(l.drop j).all aC1) (λj=>l.length - j) 0 ⟨by omega,rfl⟩ ⟨by repeat' (first|exact trivial|exact rfl|(rw [List.length_map];exact rfl)|refine And.intro ?_ ?_),trivial⟩ ?_
  rintro j ⟨hj,hn⟩
  ((conv=>whnf);repeat ((first|(intro hq;try simp only [lnS]at hq)|refine sI ?_|refine .intro _ (.intro rfl ?_));(conv=>whnf)))
  refine aB (λh1=> ?_) (λh1=> ?_)
  ·have hjl:j < l.length:=by simp only [List.length_map]at h1;omega
   have hrow:(l.map axR)[(j:Int).toNat]? =some (axR l[j]):=aS hjl
   have hc:=aCc l[j] (hl _ (List.getElem_mem hjl))
   rw [List.drop_eq_getElem_cons hjl,List.all_cons]at hn
   generalize l[j]=x at hrow hn hc
   ((conv=>whnf);repeat' ((first|(intro hq;(try simp only [lnS]at hq);(try rewrite [List.length_map]))|refine sJ ?_|refine .intro _ (.intro rfl ?_)|refine exL (k:= ?_)|(refine⟨_,hrow, ?_⟩)|(refine aD [] hc trivial (λr hs=> ?_);subst hs)|refine dwR ?_|((first|refine aB ?_ ?_|refine aC ?_ ?_)<;>intro hb<;>(first|exact ddX hb|try simp only [lnS]at hb))|(refine aA ?_ ?_<;>intro hb<;>try exact dsX hb))<;>(conv=>whnf)))
   ·refine aQ (Eq.symm ?_)
    rw [hn];simp_all
   ·refine⟨j+1,⟨by omega, ?_⟩,by dsimp only;omega,by repeat' (first|exact trivial|exact rfl|refine And.intro ?_ ?_),trivial⟩
    rw [hn];simp_all
  ·have hjl:j=l.length:=by simp only [List.length_map]at h1;omega
   subst hjl
   ((conv=>whnf);repeat' ((first|(intro hq;(try simp only [lnS]at hq);(try rewrite [List.length_map]))|refine sJ ?_|refine .intro _ (.intro rfl ?_)|refine exL (k:= ?_)|refine dwR ?_|((first|refine aB ?_ ?_|refine aC ?_ ?_)<;>intro hb<;>(first|exact ddX hb|try simp only [lnS]at hb))|(refine aA ?_ ?_<;>intro hb<;>try exact dsX hb))<;>(conv=>whnf)))
   refine aQ (Eq.symm ?_)
   rw [hn,List.drop_length];rfl
end Go.Proofs.YtleihcnongldbaaGreatDoor
namespace Go.Proofs.YtleihcnongldbaaGreatDoor
open Go.Proofs
set_option maxRecDepth 10000
attribute [local irreducible] aN aJ Tri aI YVC cP bE
end Go.Proofs.YtleihcnongldbaaGreatDoor
namespace Go.Proofs.YtleihcnongldbaaGreatDoor
open Go.Proofs
theorem fB: ∀(l:List Ax),cO l=0↔ ∀x∈l,cD x=0
 | []=>by simp [cO]
 |x::r=>by
  rw [cO]
  have:=fB r
  split<;>rename_i h
  ·simp [h]
  ·have h:cD x=0:=by simpa using h
   simp [h,this]
end Go.Proofs.YtleihcnongldbaaGreatDoor
namespace Go.Proofs.YtleihcnongldbaaGreatDoor
open Go.Proofs
def aP3 (l:List Ax):Int:=if cO l≠0 then cO l else if 1024 < l.length then 2 else 0
def aGr (l:List Ax):List UInt8×Int:=if aP3 l=0 then (wAs l,0)else ([],aP3 l)
theorem aCh {α:Type}{E:α->Int}{w:α->List UInt8}{x:α}{d:List UInt8}(h:(if E x=0 then (w x,0)else ([],E x):List UInt8×Int)=(d,0)):E x=0/\w x=d:=by
 split at h
 ·rename_i e
  injection h with h _
  exact⟨e,h⟩
 ·rename_i e
  injection h with _ h
  exact absurd h e
def aCx (no:Int) (l:List Int):Bool:=l.all (λp=>decide (1<=p) && decide (p < no)) && (match l with| [a,b]=> !decide (b=a)|_=>true)
def cmE (c:Cm):Int:=if c.no < 1\/1024 < c.no\/2 < c.parents.length then 1 else if aCx c.no c.parents=true then (if 65536 < c.message.length then 2 else 0)else 1
def aIa (c:Cm):List UInt8×Int:=if cmE c=0 then (wCm c,0)else ([],cmE c)
theorem vK (z:Int):8<=(dI z).length:=by unfold dI;rw [aP];omega
def alE (a:Al):Int:=if 24 < a.name.length then 1 else if cO a.axioms≠0 then cO a.axioms else if 128 < a.axioms.length\/256 < a.parts.length\/256 < a.path.length then 2 else 0
def lR (a:Al):List UInt8×Int:=if alE a=0 then (wAl a,0)else ([],alE a)
theorem aP5 {a:Al}(h:alE a=0) (hi:InI a.index):aVd 9 a:=by
 unfold alE at h
 split at h
 ·simp at h
 ·split at h
  ·exact absurd h (by assumption)
  ·rename_i h1
   split at h
   ·simp at h
   ·exact⟨by omega,⟨by omega,λx hx=>aKa ((fB _).1 (Decidable.not_not.1 h1) x hx)⟩,hi,by omega,by omega⟩
def rB':Rd Bool:= λb=>(aEn b).bind λp=>if 1 < p.1 then none else some (decide (p.1=1),p.2)
def rC':Nat->Rd Cn
 | 0=> λ_=>none
 |k+1=>bZ aEn λkd=>bZ uL λn=>bZ aEp λlo=>bZ aEp λhi=>qH (nN 25 (rC' k)) (Cn.mk kd n lo hi)
theorem vJ (z:Int):(eG z).length=1:=aP ..
theorem gS (s:List UInt8):4<=(bC s).length:=by unfold bC;rw [List.length_append,aP];omega
theorem wK {α:Type}(w:α->List UInt8) (l:List α):4<=(aX w l).length:=by unfold aX;rw [List.length_append,aP];omega
theorem aIm (c:Cn):25<=(wC c).length:=by
 rw [aE4]
 have h1:=vJ c.kind
 have h2:=gS c.name
 have h3:=vK c.lo
 have h4:=vK c.hi
 have h5:=wK wC c.parts
 simp only [List.length_append]
 omega
theorem aEr: ∀(k:Nat) (c:Cn),OkC k c-> ∀d,rC' k (wC c++d)=some (c,d)
 | 0,_,h=>h.elim
 |k+1,c,h=>by
  obtain⟨⟨a1,a2⟩,b,⟨c1,c2⟩,⟨d1,d2⟩,e,f⟩:=h
  intro d
  rw [aE4]
  simp only [List.append_assoc]
  show bZ aEn _ _=_
  rw [aK (gV a1 a2 _),aK (dC b _),aK (iY c1 c2 _),aK (iY d1 d2 _),bR (eZ (by omega) aIm (λp hp=>aEr k p (f p hp)) e d)]
  cases c;rfl
theorem aQ9 (o:Bool) (c:List UInt8):rB' (wB o++c)=some (o,c):=by
 unfold rB' wB
 cases o
 ·rw [gV (by decide) (by decide) c];rfl
 ·rw [gV (by decide) (by decide) c];rfl
def rA':Rd Ax:=bZ aEn λk=>bZ rB' λo=>bZ (rC' 9) λl=>bZ (rC' 9) λr=>bZ (nN 4 uL) λrs=>bZ uL λs1=>bZ uL λs2=>qH uL λs3=>⟨k,o,l,r,rs,s1,s2,s3⟩
def aUi:Rd (List Ax):=nN 68 rA'
theorem aQe {x:Ax}(h:OkA 9 x) (c:List UInt8):rA' (wA x++c)=some (x,c):=by
 obtain⟨⟨a1,a2⟩,b,d,⟨e1,e2⟩,f,g,i⟩:=h
 unfold wA rA'
 simp only [List.append_assoc]
 rw [aK (gV a1 a2 _),aK (aQ9 _ _),aK (aEr _ _ b _),aK (aEr _ _ d _),aK (eZ (by omega) gS (λs hs=>dC (e2 s hs)) e1 _),aK (dC f _),aK (dC g _),bR (dC i c)]
theorem aRw (x:Ax):68<=(wA x).length:=by
 unfold wA wB
 have h1:=vJ x.kind
 have h2:=vJ (if x.isopen=true then 1 else 0)
 have h3:=aIm x.left
 have h4:=aIm x.right
 have h5:=wK bC x.roles
 have h6:=gS x.role
 have h7:=gS x.a
 have h8:=gS x.b
 simp only [List.length_append]
 omega
theorem aMs {l:List Ax}(h: ∀x∈l,OkA 9 x) (hl:l.length < 4294967296) (c:List UInt8):aUi (wAs l++c)=some (l,c):=
 eZ (by omega) aRw (λx hx=>aQe (h x hx)) hl c
def aMv:Rd Al:=bZ uL λn=>bZ vD λb=>bZ aUi λl=>bZ vD λp=>bZ aEp λi=>bZ (nN 32 vD) λx=>qH (nN 32 vD) λy=>⟨n,b,l,p,i,x,y⟩
theorem aFh (d:Dig):32<=(fE d).length:=by obtain⟨l,h⟩:=d;show 32<=l.length;omega
theorem aMu {a:Al}(h:aVd 9 a) (d:List UInt8):aMv (wAl a++d)=some (a,d):=by
 obtain⟨a1,⟨c1,c2⟩,f,g,i⟩:=h
 unfold aMv wAl
 simp only [List.append_assoc]
 rw [aK (dC a1 _),aK (iZ _ _),aK (aMs c2 c1 _),aK (iZ _ _),aK (iY f.1 f.2 _),aK (eZ (by omega) aFh (λs _=>iZ s) g _),bR (eZ (by omega) aFh (λs _=>iZ s) i d)]
section
variable {α β:Type}
theorem aFr {b c:List UInt8}{z:Int}(h:aEp b=some (z,c)):InI z:=by
 obtain⟨n,h1,rfl⟩:=oS h
 obtain⟨l,h2,rfl⟩:=oS h1
 have hl:l.length=8:=by
  unfold iT at h2
  split at h2
  ·injection h2 with h2;injection h2 with h2 _
   rw [<-h2,List.length_take];omega
  ·cases h2
 exact aQ2 (tD 8 l hl)
theorem aQb {m:Nat}{b c:List UInt8}{a:Al}(h:rAl m b=some (a,c)):InI a.index:=by
 obtain⟨_,_,_,h⟩:=dJ h
 obtain⟨_,_,_,h⟩:=dJ h
 obtain⟨_,_,_,h⟩:=dJ h
 obtain⟨_,_,_,h⟩:=dJ h
 obtain⟨_,_,h1,h⟩:=dJ h
 obtain⟨_,_,_,h⟩:=dJ h
 obtain⟨_,_,rfl⟩:=oS h
 exact aFr h1
theorem aMt {b c:List UInt8}{a:Al}(h:aMv b=some (a,c)):InI a.index:=by
 obtain⟨_,_,_,h⟩:=dJ h
 obtain⟨_,_,_,h⟩:=dJ h
 obtain⟨_,_,_,h⟩:=dJ h
 obtain⟨_,_,_,h⟩:=dJ h
 obtain⟨_,_,h1,h⟩:=dJ h
 obtain⟨_,_,_,h⟩:=dJ h
 obtain⟨_,_,rfl⟩:=oS h
 exact aFr h1
theorem aNv {Q:α->Prop}{rd rd':Rd α}{wr:α->List UInt8×Int}{zero:α}{bad:Int}(hq: ∀b y c,rd b=some (y,c)->Q y) (hq': ∀b y c,rd' b=some (y,c)->Q y)
  (h: ∀y d,Q y->wr y=(d,0)->rd d=some (y,[])) (h': ∀y d,Q y->wr y=(d,0)->rd' d=some (y,[])) (b:List UInt8):eM rd wr zero bad b=eM rd' wr zero bad b:=by
 have key: ∀r:Rd α,(∀b y c,r b=some (y,c)->Q y)->(∀y d,Q y->wr y=(d,0)->r d=some (y,[]))->(∀y,Q y->wr y=(b,0)->eM r wr zero bad b=(y,0))/\((∀y,Q y->wr y≠(b,0))->eM r wr zero bad b=(zero,bad)):=by
  intro r hq hr
  refine⟨λy q hy=>yL hy (hr y b q hy),λhn=> ?_⟩
  unfold eM
  split
  ·rename_i x h1
   rw [if_neg (hn _ (hq _ _ _ h1))]
  ·rfl
 by_cases hy: ∃y,Q y/\wr y=(b,0)
 ·obtain⟨y,q,hy⟩:=hy
  rw [(key rd hq h).1 y q hy,(key rd' hq' h').1 y q hy]
 ·have hn: ∀y,Q y->wr y≠(b,0):= λy q e=>hy ⟨y,q,e⟩
  rw [(key rd hq h).2 hn,(key rd' hq' h').2 hn]
end
theorem aSf {a:Al}{d:List UInt8}(hi:InI a.index) (h:lR a=(d,0)) (e:List UInt8):rAl 9 (d++e)=some (a,e):=by
 obtain⟨h1,rfl⟩:=aCh h
 exact aQc (aP5 h1 hi) e
theorem aQd {a:Al}{d:List UInt8}(hi:InI a.index) (h:lR a=(d,0)) (e:List UInt8):aMv (d++e)=some (a,e):=by
 obtain⟨h1,rfl⟩:=aCh h
 exact aMu (aP5 h1 hi) e
end Go.Proofs.YtleihcnongldbaaGreatDoor
namespace Go.Proofs.YtleihcnongldbaaGreatDoor
open Go.Proofs Go.RowKit
set_option maxRecDepth 10000
attribute [local irreducible] aN aJ Tri aI YVC cP bE vH
theorem aMq (x:Ax) (hx:(wA x).length<=100000000000000):vH Tryz.prog 87 [.d (.agg (axR x))] 5 (wA x):=by
 obtain⟨kd,op,le,ri,rs,s1,s2,s3⟩:=x
 have hla:(wA ⟨kd,op,le,ri,rs,s1,s2,s3⟩).length=1+(1+((wC le).length+((wC ri).length+((aX bC rs).length+((bC s1).length+((bC s2).length+(bC s3).length)))))):=by
  unfold wA;simp only [List.length_append,aO,eN]
 rw [hla]at hx
 have hfin:wA ⟨kd,op,le,ri,rs,s1,s2,s3⟩=eG kd++wB op++wC le++wC ri++aX bC rs++bC s1++bC s2++bC s3:=by
  unfold wA;simp only [dY]
 rw [hfin]
 have hle:=(zY le (by omega)).tri
 have hri:=(zY ri (by omega)).tri
 rw [bA]at hle hri
 have hrs:=(aFq rs (by omega)).tri
 have h1:=(lW s1 (rW s1 0 (by omega))).tri
 have h2:=(lW s2 (rW s2 0 (by omega))).tri
 have h3:=(lW s3 (rW s3 0 (by omega))).tri
 have hu1:2+((wC le).map aM).length=((eG kd++wB op++wC le).map aM).length:=by rw [fN,bO (eG kd++wB op),List.length_append,aO,eN]
 have a63:2+((wC le).map aM).length<=9223372036854775807:=by rw [bO];omega
 have a48:(2+((wC le).map aM).length)* 1<=140737488355328:=by rw [bO];omega
 have hq1:(eG kd++wB op++wC le).length=2+(wC le).length:=by simp only [List.length_append,aO,eN]
 have b63:=zM hq1 (q:=wC ri) rfl (by omega)
 have b48:=zN hq1 (q:=wC ri) rfl (by omega)
 have c63:((eG kd++wB op++wC le).map aM++(wC ri).map aM).length+((aX bC rs).map aM).length<=9223372036854775807:=by rw [List.length_append];simp only [bO,hq1];omega
 have c48:(((eG kd++wB op++wC le).map aM++(wC ri).map aM).length+((aX bC rs).map aM).length)* 1<=140737488355328:=by rw [List.length_append];simp only [bO,hq1];omega
 have hq2:(eG kd++wB op++wC le++wC ri++aX bC rs).length=2+(wC le).length+(wC ri).length+(aX bC rs).length:=by simp only [List.length_append,aO,eN]
 have d63:=zM hq2 (q:=bC s1) rfl (by omega)
 have d48:=zN hq2 (q:=bC s1) rfl (by omega)
 have e63:((eG kd++wB op++wC le++wC ri++aX bC rs).map aM++(bC s1).map aM).length+((bC s2).map aM).length<=9223372036854775807:=by rw [List.length_append];simp only [bO,hq2];omega
 have e48:(((eG kd++wB op++wC le++wC ri++aX bC rs).map aM++(bC s1).map aM).length+((bC s2).map aM).length)* 1<=140737488355328:=by rw [List.length_append];simp only [bO,hq2];omega
 have f63:((eG kd++wB op++wC le++wC ri++aX bC rs++bC s1++bC s2).map aM).length+((bC s3).map aM).length<=9223372036854775807:=by simp only [bO,List.length_append,aO,eN];omega
 have f48:(((eG kd++wB op++wC le++wC ri++aX bC rs++bC s1++bC s2).map aM).length+((bC s3).map aM).length)* 1<=140737488355328:=by simp only [bO,List.length_append,aO,eN];omega
 refine nA ?_
 refine aG false [1] hty Tryz.func87 rfl (kp [0,1,2,3,4,6]) 100 (by simp [Tryz.f87]) ?_
 cases op
 ·skip
  ((conv=>whnf);repeat ((first|(intro hq;try simp only [lnS]at hq)|refine sI ?_|refine .intro _ (.intro rfl ?_));(conv=>whnf)))
  refine aN.mid [(1, .ea 16 [[.int .i64 kd, .bool false, .int .i64 le.kind, .str le.name, .int .i64 le.lo, .int .i64 le.hi, .sl 5 (le.parts.map cnR), .int .i64 ri.kind, .str ri.name, .int .i64 ri.lo, .int .i64 ri.hi, .sl 5 (ri.parts.map cnR), .sl 1 (rs.map bL), .str s1, .str s2, .str s3]] 0 0),(4, .osl 111 1 ([[.int .u8 (IntKind.u8.wrap kd)],[.int .u8 0]]++(wC le).map aM))] [(111, .own 5 1 (2+((wC le).map aM).length))] ?_ ?_
  ·(refine bI (id:=4) hty (.first 0 (.first 1 (.first 2 (.first 3 (.first 5 (.first 6 (.alt 4 (.alt 7 (.alt 8 (.first 9 .done) .stop) .stop) (.alt 7 (.alt 4 (.alt 8 (.first 9 .done) .stop) .stop) .stop)))))))) (by kernel_rfl) (by kernel_rfl) ?_)
   ((conv=>whnf);repeat' ((first|(intro hq;(try simp only [lnS]at hq);(try rewrite [List.length_map]))|refine sJ ?_|refine .intro _ (.intro rfl ?_)|refine exL (k:= ?_)|(refine And.intro a63 ?_)|(refine And.intro a48 ?_)|(refine aD [] hle trivial (λr hs=> ?_);subst hs)|exact trivial|(refine And.intro ?_ ?_)|refine dwR ?_|((first|refine aB ?_ ?_|refine aC ?_ ?_)<;>intro hb<;>(first|exact ddX hb|try simp only [lnS]at hb))|(refine aA ?_ ?_<;>intro hb<;>try exact dsX hb))<;>(conv=>whnf)))
   all_goals exact⟨by repeat' (first|exact trivial|exact rfl|refine And.intro ?_ ?_),by repeat' (first|exact trivial|exact rfl|refine And.intro ?_ ?_)⟩
  rw [show [[D.int .u8 (IntKind.u8.wrap kd)],[.int .u8 0]]=(eG kd++wB false).map aM by rw [aLc];rfl,<-bM,hu1]
  ((conv=>whnf);repeat ((first|(intro hq;try simp only [lnS]at hq)|refine sI ?_|refine .intro _ (.intro rfl ?_));(conv=>whnf)))
  refine aN.mid [(1, .ea 16 [[.int .i64 kd, .bool false, .int .i64 le.kind, .str le.name, .int .i64 le.lo, .int .i64 le.hi, .sl 5 (le.parts.map cnR), .int .i64 ri.kind, .str ri.name, .int .i64 ri.lo, .int .i64 ri.hi, .sl 5 (ri.parts.map cnR), .sl 1 (rs.map bL), .str s1, .str s2, .str s3]] 0 0),(4, .osl 111 1 ((eG kd++wB false++wC le).map aM++(wC ri).map aM++(aX bC rs).map aM))] [(111, .own 5 1 (((eG kd++wB false++wC le).map aM++(wC ri).map aM).length+((aX bC rs).map aM).length))] ?_ ?_
  ·(refine bI (id:=5) hty (.first 0 (.first 1 (.first 2 (.first 5 (.first 6 (.alt 3 (.alt 4 (.alt 7 (.alt 8 (.first 9 .done) .stop) .stop) .stop) .stop)))))) (by kernel_rfl) (by kernel_rfl) ?_)
   ((conv=>whnf);repeat' ((first|(intro hq;(try simp only [lnS]at hq);(try rewrite [List.length_map]))|refine sJ ?_|refine .intro _ (.intro rfl ?_)|refine exL (k:= ?_)|(refine And.intro b63 ?_)|(refine And.intro b48 ?_)|(refine And.intro c63 ?_)|(refine And.intro c48 ?_)|(refine aD [] hri trivial (λr hs=> ?_);subst hs)|(refine aD [] hrs trivial (λr hs=> ?_);subst hs)|exact trivial|(refine And.intro ?_ ?_)|refine dwR ?_|((first|refine aB ?_ ?_|refine aC ?_ ?_)<;>intro hb<;>(first|exact ddX hb|try simp only [lnS]at hb))|(refine aA ?_ ?_<;>intro hb<;>try exact dsX hb))<;>(conv=>whnf)))
   all_goals exact⟨by repeat' (first|exact trivial|exact rfl|refine And.intro ?_ ?_),by repeat' (first|exact trivial|exact rfl|refine And.intro ?_ ?_)⟩
  rw [<-bM,<-bM,<-fN]
  clear a63 a48 b63 b48 c63 c48
  generalize eG kd++wB false++wC le++wC ri++aX bC rs=q at *
  ((conv=>whnf);repeat ((first|(intro hq;try simp only [lnS]at hq)|refine sI ?_|refine .intro _ (.intro rfl ?_));(conv=>whnf)))
  refine aN.mid [(1, .ea 16 [[.int .i64 kd, .bool false, .int .i64 le.kind, .str le.name, .int .i64 le.lo, .int .i64 le.hi, .sl 5 (le.parts.map cnR), .int .i64 ri.kind, .str ri.name, .int .i64 ri.lo, .int .i64 ri.hi, .sl 5 (ri.parts.map cnR), .sl 1 (rs.map bL), .str s1, .str s2, .str s3]] 0 0),(4, .osl 111 1 (q.map aM++(bC s1).map aM++(bC s2).map aM))] [(111, .own 5 1 ((q.map aM++(bC s1).map aM).length+((bC s2).map aM).length))] ?_ ?_
  ·(refine bI (id:=6) hty (.first 0 (.first 1 (.first 2 (.first 5 (.first 6 (.alt 3 (.alt 4 (.alt 7 (.alt 8 (.first 9 .done) .stop) .stop) .stop) .stop)))))) (by kernel_rfl) (by kernel_rfl) ?_)
   ((conv=>whnf);repeat' ((first|(intro hq;(try simp only [lnS]at hq);(try rewrite [List.length_map]))|refine sJ ?_|refine .intro _ (.intro rfl ?_)|refine exL (k:= ?_)|(refine And.intro d63 ?_)|(refine And.intro d48 ?_)|(refine And.intro e63 ?_)|(refine And.intro e48 ?_)|(refine aD [] h1 trivial (λr hs=> ?_);subst hs)|(refine aD [] h2 trivial (λr hs=> ?_);subst hs)|exact trivial|(refine And.intro ?_ ?_)|refine dwR ?_|((first|refine aB ?_ ?_|refine aC ?_ ?_)<;>intro hb<;>(first|exact ddX hb|try simp only [lnS]at hb))|(refine aA ?_ ?_<;>intro hb<;>try exact dsX hb))<;>(conv=>whnf)))
   all_goals exact⟨by repeat' (first|exact trivial|exact rfl|refine And.intro ?_ ?_),by repeat' (first|exact trivial|exact rfl|refine And.intro ?_ ?_)⟩
  rw [<-bM,<-bM,<-fN]
  ((conv=>whnf);repeat ((first|(refine And.intro f63 ?_)|(refine And.intro f48 ?_)|(refine aD [] h3 trivial (λr hs=> ?_);subst hs)|(intro hq;try simp only [lnS]at hq)|refine sI ?_|refine .intro _ (.intro rfl ?_));(conv=>whnf)))
  refine .inl ⟨111,_, ?_,rfl, ?_⟩
  ·rw [<-bM];rfl
  ·rw [List.length_append,bO,bO]
 ·skip
  ((conv=>whnf);repeat ((first|(intro hq;try simp only [lnS]at hq)|refine sI ?_|refine .intro _ (.intro rfl ?_));(conv=>whnf)))
  refine aN.mid [(1, .ea 16 [[.int .i64 kd, .bool true, .int .i64 le.kind, .str le.name, .int .i64 le.lo, .int .i64 le.hi, .sl 5 (le.parts.map cnR), .int .i64 ri.kind, .str ri.name, .int .i64 ri.lo, .int .i64 ri.hi, .sl 5 (ri.parts.map cnR), .sl 1 (rs.map bL), .str s1, .str s2, .str s3]] 0 0),(4, .osl 111 1 ([[.int .u8 (IntKind.u8.wrap kd)],[.int .u8 1]]++(wC le).map aM))] [(111, .own 5 1 (2+((wC le).map aM).length))] ?_ ?_
  ·(refine bI (id:=4) hty (.first 0 (.first 1 (.first 2 (.first 3 (.first 5 (.first 6 (.alt 4 (.alt 7 (.alt 8 (.first 9 .done) .stop) .stop) (.alt 7 (.alt 4 (.alt 8 (.first 9 .done) .stop) .stop) .stop)))))))) (by kernel_rfl) (by kernel_rfl) ?_)
   ((conv=>whnf);repeat' ((first|(intro hq;(try simp only [lnS]at hq);(try rewrite [List.length_map]))|refine sJ ?_|refine .intro _ (.intro rfl ?_)|refine exL (k:= ?_)|(refine And.intro a63 ?_)|(refine And.intro a48 ?_)|(refine aD [] hle trivial (λr hs=> ?_);subst hs)|exact trivial|(refine And.intro ?_ ?_)|refine dwR ?_|((first|refine aB ?_ ?_|refine aC ?_ ?_)<;>intro hb<;>(first|exact ddX hb|try simp only [lnS]at hb))|(refine aA ?_ ?_<;>intro hb<;>try exact dsX hb))<;>(conv=>whnf)))
   all_goals exact⟨by repeat' (first|exact trivial|exact rfl|refine And.intro ?_ ?_),by repeat' (first|exact trivial|exact rfl|refine And.intro ?_ ?_)⟩
  rw [show [[D.int .u8 (IntKind.u8.wrap kd)],[.int .u8 1]]=(eG kd++wB true).map aM by rw [aLc];rfl,<-bM,hu1]
  ((conv=>whnf);repeat ((first|(intro hq;try simp only [lnS]at hq)|refine sI ?_|refine .intro _ (.intro rfl ?_));(conv=>whnf)))
  refine aN.mid [(1, .ea 16 [[.int .i64 kd, .bool true, .int .i64 le.kind, .str le.name, .int .i64 le.lo, .int .i64 le.hi, .sl 5 (le.parts.map cnR), .int .i64 ri.kind, .str ri.name, .int .i64 ri.lo, .int .i64 ri.hi, .sl 5 (ri.parts.map cnR), .sl 1 (rs.map bL), .str s1, .str s2, .str s3]] 0 0),(4, .osl 111 1 ((eG kd++wB true++wC le).map aM++(wC ri).map aM++(aX bC rs).map aM))] [(111, .own 5 1 (((eG kd++wB true++wC le).map aM++(wC ri).map aM).length+((aX bC rs).map aM).length))] ?_ ?_
  ·(refine bI (id:=5) hty (.first 0 (.first 1 (.first 2 (.first 5 (.first 6 (.alt 3 (.alt 4 (.alt 7 (.alt 8 (.first 9 .done) .stop) .stop) .stop) .stop)))))) (by kernel_rfl) (by kernel_rfl) ?_)
   ((conv=>whnf);repeat' ((first|(intro hq;(try simp only [lnS]at hq);(try rewrite [List.length_map]))|refine sJ ?_|refine .intro _ (.intro rfl ?_)|refine exL (k:= ?_)|(refine And.intro b63 ?_)|(refine And.intro b48 ?_)|(refine And.intro c63 ?_)|(refine And.intro c48 ?_)|(refine aD [] hri trivial (λr hs=> ?_);subst hs)|(refine aD [] hrs trivial (λr hs=> ?_);subst hs)|exact trivial|(refine And.intro ?_ ?_)|refine dwR ?_|((first|refine aB ?_ ?_|refine aC ?_ ?_)<;>intro hb<;>(first|exact ddX hb|try simp only [lnS]at hb))|(refine aA ?_ ?_<;>intro hb<;>try exact dsX hb))<;>(conv=>whnf)))
   all_goals exact⟨by repeat' (first|exact trivial|exact rfl|refine And.intro ?_ ?_),by repeat' (first|exact trivial|exact rfl|refine And.intro ?_ ?_)⟩
  rw [<-bM,<-bM,<-fN]
  clear a63 a48 b63 b48 c63 c48
  generalize eG kd++wB true++wC le++wC ri++aX bC rs=q at *
  ((conv=>whnf);repeat ((first|(intro hq;try simp only [lnS]at hq)|refine sI ?_|refine .intro _ (.intro rfl ?_));(conv=>whnf)))
  refine aN.mid [(1, .ea 16 [[.int .i64 kd, .bool true, .int .i64 le.kind, .str le.name, .int .i64 le.lo, .int .i64 le.hi, .sl 5 (le.parts.map cnR), .int .i64 ri.kind, .str ri.name, .int .i64 ri.lo, .int .i64 ri.hi, .sl 5 (ri.parts.map cnR), .sl 1 (rs.map bL), .str s1, .str s2, .str s3]] 0 0),(4, .osl 111 1 (q.map aM++(bC s1).map aM++(bC s2).map aM))] [(111, .own 5 1 ((q.map aM++(bC s1).map aM).length+((bC s2).map aM).length))] ?_ ?_
  ·(refine bI (id:=6) hty (.first 0 (.first 1 (.first 2 (.first 5 (.first 6 (.alt 3 (.alt 4 (.alt 7 (.alt 8 (.first 9 .done) .stop) .stop) .stop) .stop)))))) (by kernel_rfl) (by kernel_rfl) ?_)
   ((conv=>whnf);repeat' ((first|(intro hq;(try simp only [lnS]at hq);(try rewrite [List.length_map]))|refine sJ ?_|refine .intro _ (.intro rfl ?_)|refine exL (k:= ?_)|(refine And.intro d63 ?_)|(refine And.intro d48 ?_)|(refine And.intro e63 ?_)|(refine And.intro e48 ?_)|(refine aD [] h1 trivial (λr hs=> ?_);subst hs)|(refine aD [] h2 trivial (λr hs=> ?_);subst hs)|exact trivial|(refine And.intro ?_ ?_)|refine dwR ?_|((first|refine aB ?_ ?_|refine aC ?_ ?_)<;>intro hb<;>(first|exact ddX hb|try simp only [lnS]at hb))|(refine aA ?_ ?_<;>intro hb<;>try exact dsX hb))<;>(conv=>whnf)))
   all_goals exact⟨by repeat' (first|exact trivial|exact rfl|refine And.intro ?_ ?_),by repeat' (first|exact trivial|exact rfl|refine And.intro ?_ ?_)⟩
  rw [<-bM,<-bM,<-fN]
  ((conv=>whnf);repeat ((first|(refine And.intro f63 ?_)|(refine And.intro f48 ?_)|(refine aD [] h3 trivial (λr hs=> ?_);subst hs)|(intro hq;try simp only [lnS]at hq)|refine sI ?_|refine .intro _ (.intro rfl ?_));(conv=>whnf)))
  refine .inl ⟨111,_, ?_,rfl, ?_⟩
  ·rw [<-bM];rfl
  ·rw [List.length_append,bO,bO]
theorem aJs (l:List Ax) (hl:(aX wA l).length<=100000000000000):vH Tryz.prog 46 [.d (.sl 16 (l.map axR))] 5 (aX wA l):=by
 rw [cV]at hl
 have hn:=dW (w:=wA) (Nat.le_refl 1) aIp l
 have hlr:(l.map axR).length=l.length:=List.length_map ..
 have hB:=oT l.length (by omega)
 refine nA ?_
 refine aG false [] hty Tryz.func46 rfl (kp [0,2,3,4,12]) 100 (by simp [Tryz.f46]) ?_
 ((conv=>whnf);repeat ((first|(intro hq;try simp only [lnS]at hq)|refine sI ?_|refine .intro _ (.intro rfl ?_));(conv=>whnf)))
 rw [hlr]
 refine iO hB 200 (bW (by with_unfolding_all exact rfl)) ?_
 ((conv=>whnf);repeat ((first|(intro hq;try simp only [lnS]at hq)|refine sI ?_|refine .intro _ (.intro rfl ?_));(conv=>whnf)))
 refine aH hty (λj:Nat=>([(0, .d (.sl 16 (l.map axR))),(3, .osl 200 1 ((beN 4 l.length++((l.take j).map wA).flatten).map aM)),(4, .d (.int .i64 j))],[(200, .own 5 1 ((beN 4 l.length++((l.take j).map wA).flatten).map aM).length)])) (λj=>j<=l.length) (λj=>l.length - j) 0 (by omega) ⟨by dsimp only;rw [List.take_zero,List.map_nil,List.flatten_nil,List.append_nil];exact by repeat' (first|exact trivial|exact rfl|refine And.intro ?_ ?_),by dsimp only;rw [List.take_zero,List.map_nil,List.flatten_nil,List.append_nil];exact⟨rfl,trivial⟩⟩ ?_
 intro j hj
 ((conv=>whnf);repeat ((first|(intro hq;try simp only [lnS]at hq)|refine sI ?_|refine .intro _ (.intro rfl ?_));(conv=>whnf)))
 rw [hlr]
 refine aB (λh1=> ?_) (λh1=> ?_)
 ·have hjl:j < l.length:=by omega
  have hrow:(l.map axR)[((j:Nat):Int).toNat]? =some (axR l[j]):=aS hjl
  have hnx:beN 4 l.length++((l.take (j+1)).map wA).flatten=beN 4 l.length++((l.take j).map wA).flatten++wA l[j]:=by rw [cM (w:=wA) hjl,List.append_assoc]
  have hle:=iM (w:=wA) l (j+1)
  rw [cM (w:=wA) hjl,List.length_append]at hle
  have hqq:(beN 4 l.length++((l.take j).map wA).flatten).length=4+(((l.take j).map wA).flatten).length:=by rw [List.length_append,aP]
  have hb63:=zM hqq (q:=wA l[j]) rfl (by omega)
  have hb48:=zN hqq (q:=wA l[j]) rfl (by omega)
  have hx:=(aMq l[j] (by omega)).tri
  generalize beN 4 l.length++((l.take j).map wA).flatten=q at *
  ((conv=>whnf);repeat ((first|(refine⟨_,hrow, ?_⟩)|(refine And.intro hb63 ?_)|(refine And.intro hb48 ?_)|(refine aD [] hx trivial (λr hs=> ?_);subst hs)|(intro hq;try simp only [lnS]at hq)|refine sI ?_|refine .intro _ (.intro rfl ?_));(conv=>whnf)))
  refine⟨j+1,by dsimp only;omega,by dsimp only;omega, ?_⟩
  dsimp only
  rw [hnx,bM,List.length_append]
  exact⟨by repeat' (first|exact trivial|exact rfl|refine And.intro ?_ ?_),by repeat' (first|exact trivial|exact rfl|refine And.intro ?_ ?_)⟩
 ·have hjl:j=l.length:=by omega
  subst hjl
  rw [List.take_length]
  ((conv=>whnf);repeat ((first|(intro hq;try simp only [lnS]at hq)|refine sI ?_|refine .intro _ (.intro rfl ?_));(conv=>whnf)))
  exact .inl ⟨200,_,rfl,rfl,bO _⟩
theorem rU (l:List Ax) (m:Nat) (hs: ∀x∈l,bH x.left<=1000000/\bH x.right<=1000000) (hm:m<=1000000):Tri Tryz.prog 45 [.d (.sl 16 (l.map axR)), .d (.int .i64 m)] [] (λr=>r= .d (.int .i64 (if cO l≠0 then cO l else if m < l.length then 2 else 0))):=by
 refine Tri.len 0 rfl λhlen=> ?_
 have hlr:(l.map axR).length=l.length:=List.length_map ..
 rw [hlr]at hlen
 refine aE false [] hty Tryz.func45 rfl (kp [0,1,4,5,6,10,19,24]) [] _ _ _ (by simp [Tryz.f45]) (by simp) ?_
 ((conv=>whnf);repeat ((first|(intro hq;try simp only [lnS]at hq)|refine sI ?_|refine .intro _ (.intro rfl ?_));(conv=>whnf)))
 refine aH hty (λj:Nat=>([(0, .d (.sl 16 (l.map axR))),(1, .d (.int .i64 m)),(5, .d (.int .i64 j))],[])) (λj=>j<=l.length/\ ∀x∈l.take j,cD x=0) (λj=>l.length - j) 0 ⟨by omega,by simp⟩ ⟨by repeat' (first|exact trivial|exact rfl|refine And.intro ?_ ?_),by repeat' (first|exact trivial|exact rfl|refine And.intro ?_ ?_)⟩ ?_
 rintro j ⟨hj,hz⟩
 ((conv=>whnf);repeat ((first|(intro hq;try simp only [lnS]at hq)|refine sI ?_|refine .intro _ (.intro rfl ?_));(conv=>whnf)))
 rw [hlr]
 refine aB (λh1=> ?_) (λh1=> ?_)
 ·have hjl:j < l.length:=by omega
  have hrow:(l.map axR)[((j:Nat):Int).toNat]? =some (axR l[j]):=aS hjl
  have hsz:=hs l[j] (List.getElem_mem hjl)
  have hc:=vE l[j] hsz.1 hsz.2
  have herr:=tW hjl hz
  have hnx:cD l[j]=0-> ∀x∈l.take (j+1),cD x=0:=by
   intro h0 x hx
   rw [List.take_succ_eq_append_getElem hjl]at hx
   rcases List.mem_append.1 hx with hx|hx
   ·exact hz x hx
   ·simp at hx;subst hx;exact h0
  generalize l[j]=x at *
  ((conv=>whnf);repeat ((first|(refine⟨_,hrow, ?_⟩)|(refine aD [] hc trivial (λr hs=> ?_);subst hs)|(intro hq;try simp only [lnS]at hq)|refine sI ?_|refine .intro _ (.intro rfl ?_));(conv=>whnf)))
  refine aC (λh2=> ?_) (λh2=> ?_)
  ·rw [if_pos (by rw [herr h2];exact h2),herr h2]
   ((conv=>whnf);repeat ((first|(intro hq;try simp only [lnS]at hq)|refine sI ?_|refine .intro _ (.intro rfl ?_));(conv=>whnf)))
   rfl
  ·have h2:cD x=0:=by simpa using h2
   rw [h2]
   ((conv=>whnf);repeat ((first|(intro hq;try simp only [lnS]at hq)|refine sI ?_|refine .intro _ (.intro rfl ?_));(conv=>whnf)))
   exact⟨j+1,⟨by omega,hnx h2⟩,by dsimp only;omega,⟨by repeat' (first|exact trivial|exact rfl|refine And.intro ?_ ?_),by repeat' (first|exact trivial|exact rfl|refine And.intro ?_ ?_)⟩⟩
 ·have hjl:j=l.length:=by omega
  subst hjl
  rw [List.take_length]at hz
  rw [if_neg (by rw [(fB l).2 hz];simp)]
  ((conv=>whnf);repeat ((first|(intro hq;try simp only [lnS]at hq)|refine sI ?_|refine .intro _ (.intro rfl ?_));(conv=>whnf)))
  rw [hlr]
  refine aB (λh3=> ?_) (λh3=> ?_)
  ·rw [if_pos (by omega)]
   ((conv=>whnf);repeat ((first|(intro hq;try simp only [lnS]at hq)|refine sI ?_|refine .intro _ (.intro rfl ?_));(conv=>whnf)))
   rfl
  ·rw [if_neg (by omega)]
   ((conv=>whnf);repeat ((first|(intro hq;try simp only [lnS]at hq)|refine sI ?_|refine .intro _ (.intro rfl ?_));(conv=>whnf)))
   rfl
end Go.Proofs.YtleihcnongldbaaGreatDoor
