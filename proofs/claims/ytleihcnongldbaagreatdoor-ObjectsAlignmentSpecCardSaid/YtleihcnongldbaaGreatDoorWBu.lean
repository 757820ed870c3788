/-
  The library's sorts, as they lie in this program. Terms: tidy and meet. Terms: Tidy and TidyAxiom. The keys of a set of strings, collected and sorted: maps.Keys, slices.AppendSeq, slices.Collect, slices.Sorted. Terms: Vocabulary. Terms: the vocabulary, plainly: whose names it holds. Terms: tidying keeps a concept valid and adds no names. Terms: what a valid concept and a valid axiom are; tidying keeps axioms valid. Terms: the reference's bare, Empty, fields, CheckAxiom. Terms: tidying keeps an axiom valid and adds no names; the names of valid axioms are names.
  Conditions: none.
-/
import Derived.Test.YtleihcnongldbaaGreatDoorWSng
import Derived.Test.YtleihcnongldbaaGreatDoorWTy
import Derived.Test.YtleihcnongldbaaGreatDoorWSna
import Derived.Test.YtleihcnongldbaaGreatDoorWLzp
import Derived.Ground.SlsfProg
import Derived.Ground.NamesProg
import Derived.Test.YtleihcnongldbaaGreatDoorWA8
import Derived.Sort.KeysCollected
import Derived.Test.YtleihcnongldbaaGreatDoorWSyi
import Derived.Test.YtleihcnongldbaaGreatDoorWSne
set_option linter.unnecessarySimpa false
set_option linter.unusedSectionVars false
set_option linter.unusedSimpArgs false
set_option linter.unusedVariables false
set_option maxHeartbeats 4000000
namespace Go.Proofs.YtleihcnongldbaaGreatDoor
open Go.Proofs Go.Shelf Go.Sort
set_option maxRecDepth 10000
end Go.Proofs.YtleihcnongldbaaGreatDoor
namespace Go.Proofs.YtleihcnongldbaaGreatDoor
open Go.Proofs
set_option maxRecDepth 10000
theorem Tri.resT {P:Program}{f:FuncId}{qs:List SV}{hp:Hp}{post post':SV->Prop}(h:Tri P f qs hp post) (hw: ∀s,post s->post' s\/ ∃ss ss',s= .tup ss/\aRq ss ss'/\post' (.tup ss')):Tri P f qs hp post':=by
 unfold Tri at h |-
 intro w ρ vs a b c
 refine(h w ρ vs a b c).mono ?_
 rintro e w' ⟨v,S',s,rfl,hp,h1,h2,h3,h4,hr⟩
 rcases hw s hp with hp'|⟨ss,ss',rfl,hwk,hp'⟩
 ·exact⟨v,S',_,rfl,hp',h1,h2,h3,h4,hr⟩
 obtain⟨us,e1,hl,hh⟩:=hr.tup_inv
 obtain⟨k1,k2⟩:=aLn _ _ hwk
 refine⟨v,S',_,rfl,hp',h1,h2,h3,h4, ?_⟩
 rw [e1]
 refine .tup _ _ (by omega) λj q u hq hu=> ?_
 obtain⟨q0,r1,r2⟩:=k2 j q hq
 exact aTm r2 (hh j q0 u r1 hu)
attribute [local irreducible] aN aJ Tri aI YVC cP bE
theorem aU2 {i z a b:Nat}(h:a=b):Wk (.mw i z a) (.mw i z b):=by subst h;exact rfl
def okC (c:Cn):Prop:= ∀x∈eJ c,x.kind=6->x.parts≠[]
end Go.Proofs.YtleihcnongldbaaGreatDoor
namespace Go.Proofs.YtleihcnongldbaaGreatDoor
open Go.Proofs
set_option maxRecDepth 10000
attribute [local irreducible] aN aJ Tri aI YVC cP bE
theorem rD: ∀{l:List Cn},dL l=0-> ∀x∈l,cS x=0
 | [],_,x,hx=>by simp at hx
 |a::l,h,x,hx=>by
  rw [dL]at h
  split at h
  ·rename_i h1;exact absurd h h1
  ·rename_i h1
   rcases List.mem_cons.1 hx with rfl|hx
   ·simpa using h1
   ·exact rD h x hx
mutual
theorem tV: ∀(c:Cn) (d n:Int),(eK c d n).1=true->(eK c d n).2=n+(bH c:Nat)
 | .mk k s lo hi ps,d,n=>by
  have h:=aAg ps d (n+1)
  have e:bH (.mk k s lo hi ps)=aEc ps+1:=kA _
  rw [eK]
  split
  ·simp
  ·intro h1
   rw [h h1,e];omega
theorem aAg: ∀(l:List Cn) (d n:Int),(fO l d n).1=true->(fO l d n).2=n+(aEc l:Nat)
 | [],d,n=>by rw [fO];intro _;simp [aEc,bD]
 |c::r,d,n=>by
  have h1:=tV c (d+1) n
  rw [fO]
  split
  ·rename_i hb
   have h2:=aAg r d (eK c (d+1) n).2
   intro h3
   rw [h2 h3,h1 hb,wV];omega
  ·simp
end
theorem mO {c:Cn}(h:cA c=0):bH c<=64/\okC c/\ ∀x∈eJ c,cS x=0:=by
 unfold cA at h
 split at h
 ·simp at h
 ·rename_i hf
  have hf:(eK c 0 0).1=true:=by simpa using hf
  have h0:=rD h
  refine⟨?_,λx hx hk=> ?_,h0⟩
  ·have h1:=tV c 0 0 hf
   have h2:(eK c 0 0).2<=64:=by
    have e:=vX c 0 0
    by_cases h3:(8:Int) < 0\/(64:Int) < 0+1
    ·omega
    ·rw [if_neg h3]at e
     rw [e]at hf |-
     exact(sT c.parts 0 (0+1) (by omega) (by omega)).2.2 hf
   omega
  ·have:=h0 x hx
   unfold cS at this
   rw [if_neg (by omega),hk]at this
   unfold rE at this
   rw [show iK 6=⟨1,1,1,false⟩from rfl]at this
   split at this
   ·simp at this
   ·rename_i h1
    intro he
    apply h1
    left
    rw [he];simp
def a0:Ax:=⟨0,false,c0,c0,[],[],[],[]⟩
theorem aDw {x:Ax}(h:cD x=0):(1<=x.kind/\x.kind<=9)/\((gT x.kind).left=true->cA x.left=0)/\((gT x.kind).right=true->cA x.right=0):=by
 unfold cD at h
 split at h
 ·simp at h
 ·rename_i hs
  refine⟨?_, ?_⟩
  ·have hs:bJ x=true:=by simpa using hs
   unfold bJ at hs
   split at hs
   ·cases hs
   ·omega
  ·unfold uX at h
   split at h
   ·simp at h
   ·split at h
    ·rename_i h1;exact absurd h h1.2
    ·split at h
     ·rename_i h1;exact absurd h h1.2
     ·rename_i h1 h2
      exact⟨λhu=>Decidable.byContradiction λhn=>h1 ⟨hu,hn⟩,λhu=>Decidable.byContradiction λhn=>h2 ⟨hu,hn⟩⟩
end Go.Proofs.YtleihcnongldbaaGreatDoor
namespace Go.Proofs.YtleihcnongldbaaGreatDoor
open Go.Proofs
set_option maxRecDepth 10000
attribute [local irreducible] aN aJ Tri aI YVC cP bE
def aJe (ks:List (List UInt8)):List (List UInt8):=ks.mergeSort λx y=>decide (x<=y)
end Go.Proofs.YtleihcnongldbaaGreatDoor
namespace Go.Proofs.YtleihcnongldbaaGreatDoor
open Go.Proofs
set_option maxRecDepth 10000
attribute [local irreducible] aN aJ Tri aI YVC cP bE
def cO:List Ax->Int
 | []=>0
 |x::r=>if cD x≠0 then cD x else cO r
theorem aAl {c:Cn}(h:fC c=true):bH c=1:=by
 unfold fC at h
 simp only [Bool.and_eq_true,decide_eq_true_eq]at h
 rw [kA,h.2.2.2.2];rfl
theorem aH2 {k:Int}(h:1<=k/\k<=9):(gT k).most<=4:=by
 have:k=1\/k=2\/k=3\/k=4\/k=5\/k=6\/k=7\/k=8\/k=9:=by omega
 rcases this with h|h|h|h|h|h|h|h|h<;>rw [h]<;>decide
theorem aI8 {x:Ax}(h:cD x=0):bH x.left<=64/\bH x.right<=64/\x.roles.length<=4:=by
 obtain⟨hk,hl,hr⟩:=aDw h
 have hm:=aH2 hk
 unfold cD at h
 split at h
 ·simp at h
 ·rename_i hs
  have hs:bJ x=true:=by simpa using hs
  unfold bJ at hs
  rw [if_neg (by omega)]at hs
  generalize gT x.kind=u at *
  unfold bU at hs
  simp only [Bool.and_eq_true,Bool.or_eq_true,decide_eq_true_eq]at hs
  refine⟨?_, ?_, ?_⟩
  ·cases hu:u.left
   ·have:fC x.left=true:=by simp_all
    rw [aAl this];omega
   ·exact(mO (hl hu)).1
  ·cases hu:u.right
   ·have:fC x.right=true:=by simp_all
    rw [aAl this];omega
   ·exact(mO (hr hu)).1
  ·omega
structure PairN (v:Nm) (e:Int) (s:SV):Prop where
 ex: ∃a,s= .tup [.d a, .d (.int .i64 e)]/\(a= .agg (nmR v)\/WkD a (.agg (nmR v)))
theorem Tri.pairN {P:Program}{f:FuncId}{qs:List SV}{hp:Hp}{v:Nm}{e:Int}(h:Tri P f qs hp (PairN v e)):Tri P f qs hp (λr=>r= .tup [.d (.agg (nmR v)), .d (.int .i64 e)]):=by
 refine Tri.resT h ?_
 rintro s ⟨a,rfl,rfl|hw⟩
 ·exact .inl rfl
 ·exact .inr ⟨_,[.d (.agg (nmR v)), .d (.int .i64 e)],rfl,⟨hw,by exact rfl,trivial⟩,rfl⟩
theorem tW: ∀{l:List Ax}{j:Nat}(h:j < l.length),(∀x∈l.take j,cD x=0)->¬ cD l[j]=0->cO l=cD l[j]
 |x::r,0,_,_,he=>by
  have he:cD x≠0:=he
  rw [cO,if_pos he];rfl
 |x::r,j+1,h,hz,he=>by
  have h0:cD x=0:=hz x (by simp)
  rw [cO,if_neg (by simpa using h0)]
  exact tW (by simpa using h) (λy hy=>hz y (by simp [hy])) he
end Go.Proofs.YtleihcnongldbaaGreatDoor
namespace Go.Proofs.YtleihcnongldbaaGreatDoor
open Go.Proofs
def aVs (k:Int) (c:Cn) (s:List UInt8):Prop:= ∃n∈eJ c,n.kind=k/\n.name=s
end Go.Proofs.YtleihcnongldbaaGreatDoor
namespace Go.Proofs.YtleihcnongldbaaGreatDoor
open Go.Proofs
def Okn (c:Cn):Prop:= ∀x∈eJ c,cS x=0
theorem tT {x:Cn}: ∀{l:List Cn},x∈bD l↔ ∃p∈l,x∈eJ p
 | []=>by simp [bD]
 |c::r=>by rw [bD,List.mem_append,tT];simp
theorem aK2 (c:Cn):Okn c↔cS c=0/\ ∀p∈c.parts,Okn p:=by
 unfold Okn
 rw [eD]
 constructor
 ·intro h
  exact⟨h c (by simp),λp hp x hx=>h x (List.mem_cons_of_mem _ (tT.2 ⟨p,hp,hx⟩))⟩
 ·rintro⟨h1,h2⟩ x hx
  rcases List.mem_cons.1 hx with rfl|hx
  ·exact h1
  ·obtain⟨p,hp,hx⟩:=tT.1 hx
   exact h2 p hp x hx
theorem aLf (c:Cn):jV c=if c.kind=4 then true else if c.kind=5 then yV c.parts else false:=by cases c;rw [jV];rfl
def aLr (t c:Cn):Prop:= ∀k s,k≠1->k≠5->aVs k t s->aVs k c s
structure Keep (c t:Cn):Prop where
 ok:Okn t
 dep:eT t<=eT c
 nam:aLr t c
 bare:jV t=true->jV c=true
structure Part (c m:Cn):Prop where
 ok:Okn m
 dep:eT m+1<=eT c
 nam:aLr m c
 bare:jV m=true->jV c=true
theorem Part.keep {c m:Cn}(h:Part c m):Keep c m:=⟨h.ok,by have:=h.dep;omega,h.nam,h.bare⟩
end Go.Proofs.YtleihcnongldbaaGreatDoor
namespace Go.Proofs.YtleihcnongldbaaGreatDoor
open Go.Proofs
theorem aHz: ∀(l:List Cn),dL l=0↔ ∀x∈l,cS x=0:= λl=>
 ⟨λh=>rD h,λh=>by have:=mK l [] h;rw [List.append_nil]at this;rw [this];rfl⟩
mutual
theorem aDf: ∀(c:Cn) (d n:Int),((eK c d n).1=true↔d+eT c<=8/\n+bH c<=64)
 | .mk k s lo hi ps,d,n=>by
  have e:bH (.mk k s lo hi ps)=aEc ps+1:=kA _
  rw [eK,eT,e]
  split
  ·rename_i h
   simp only [Bool.false_eq_true,false_iff]
   omega
  ·rename_i h
   rw [aDe ps d (n+1) (by omega) (by omega)]
   omega
theorem aDe: ∀(l:List Cn) (d n:Int),d<=8->n<=64->((fO l d n).1=true↔d+eQ l<=8/\n+aEc l<=64)
 | [],d,n,hd,hn=>by
  rw [fO,eQ,aMg]
  simp only [true_iff]
  omega
 |c::r,d,n,hd,hn=>by
  have h1:=aDf c (d+1) n
  have h2:=tV c (d+1) n
  rw [fO,eQ,wV]
  split
  ·rename_i hb
   rw [hb]at h1
   have h1:=h1.1 rfl
   rw [h2 hb,aDe r d _ hd (by omega)]
   omega
  ·rename_i hb
   have h1:¬ (d+1+eT c<=8/\n+bH c<=64):= λh=>hb (h1.2 h)
   simp only [Bool.false_eq_true,false_iff]
   omega
end
theorem uW (c:Cn):cA c=0↔eT c<=8/\bH c<=64/\Okn c:=by
 have h:=aDf c 0 0
 unfold cA
 split
 ·rename_i hf
  rw [hf]at h
  constructor
  ·intro h;exact absurd h (by decide)
  ·rintro⟨h1,h2,_⟩
   exact absurd (h.2 ⟨by omega,by omega⟩) (by decide)
 ·rename_i hf
  have hf:(eK c 0 0).1=true:=by simpa using hf
  have h1:=h.1 hf
  rw [aHz]
  exact⟨λh=>⟨by omega,by omega,h⟩,λh=>h.2.2⟩
end Go.Proofs.YtleihcnongldbaaGreatDoor
namespace Go.Proofs.YtleihcnongldbaaGreatDoor
open Go.Proofs
set_option maxRecDepth 10000
attribute [local irreducible] aN aJ Tri aI YVC cP bE
theorem aN3 {c:Cn}(h:Okn c) (h5:c.kind≠5) (h6:c.kind≠6):c.parts=[]:=by
 have hf:=((aK2 c).1 h).1
 have hk:1<=c.kind/\c.kind<=7:=by
  unfold cS at hf
  split at hf
  ·exact absurd hf (by decide)
  ·omega
 rw [yD]at hf
 have hs:qB c=true:=by
  cases e:qB c
  ·rw [e,if_pos rfl]at hf;exact absurd hf (by decide)
  ·rfl
 unfold qB at hs
 have hl:c.parts.length=0:=by
  rw [if_neg h5,if_neg h6]at hs
  by_cases k1:c.kind=1\/c.kind=2
  ·rw [if_pos k1]at hs;simp only [Bool.and_eq_true,decide_eq_true_eq]at hs;omega
  ·rw [if_neg k1]at hs
   by_cases k2:c.kind=3\/c.kind=4
   ·rw [if_pos k2]at hs;simp only [Bool.and_eq_true,decide_eq_true_eq]at hs;omega
   ·rw [if_neg k2]at hs
    by_cases k3:c.kind=7
    ·rw [if_pos k3]at hs;simp only [Bool.and_eq_true,decide_eq_true_eq]at hs;omega
    ·omega
 exact List.eq_nil_of_length_eq_zero hl
theorem aA0: ∀(c:Cn) (_:Okn c),Tri Tryz.prog 120 [.d (.agg (cnR c))] [] (λr=>r= .d (.bool (jV c))):=by
 refine Cn.ind ?_
 intro c ih hok
 have hp:=((aK2 c).1 hok).2
 have hB:jV c=if c.kind=4 then true else if c.kind=6 then false else yV c.parts:=by
  rw [aLf]
  by_cases h4:c.kind=4
  ·rw [if_pos h4,if_pos h4]
  ·rw [if_neg h4,if_neg h4]
   by_cases h5:c.kind=5
   ·rw [if_pos h5,if_neg (by omega)]
   ·rw [if_neg h5]
    by_cases h6:c.kind=6
    ·rw [if_pos h6]
    ·rw [if_neg h6,aN3 hok h5 h6];rfl
 rw [hB]
 clear hB hok
 rw [bA]
 refine aE false [1] hty Tryz.func120 rfl (kp [0,1,2,3,6,9,14,22]) [] _ _ _ (by simp [Tryz.f120]) (by simp) ?_
 ((conv=>whnf);repeat' ((first|(intro hq;(try simp only [lnS]at hq);(try rewrite [List.length_map]))|refine sJ ?_|refine .intro _ (.intro rfl ?_)|refine exL (k:= ?_)|refine dwR ?_|((first|refine aB ?_ ?_|refine aC ?_ ?_)<;>intro hb<;>(first|exact ddX hb|try simp only [lnS]at hb))|(refine aA ?_ ?_<;>intro hb<;>try exact dsX hb))<;>(conv=>whnf)))
 ·rw [if_pos (by assumption)];rfl
 ·rw [if_neg (by assumption),if_pos (by assumption)];rfl
 ·rw [if_neg (by assumption),if_neg (by assumption)]
  refine aH hty (λj:Nat=>([(1, .ea 5 [[.int .i64 c.kind, .str c.name, .int .i64 c.lo, .int .i64 c.hi, .sl 5 (c.parts.map cnR)]] 0 0),(2, .d (.bool false)),(3, .d (.int .i64 j))],[])) (λj=>j<=c.parts.length/\yV c.parts=yV (c.parts.drop j)) (λj=>c.parts.length - j) 0 ⟨by omega,rfl⟩ ⟨by repeat' (first|exact trivial|exact rfl|exact⟨rfl,rfl⟩|refine And.intro ?_ ?_),trivial⟩ ?_
  rintro j ⟨hj,hn⟩
  ((conv=>whnf);repeat ((first|(intro hq;try simp only [lnS]at hq)|refine sI ?_|refine .intro _ (.intro rfl ?_));(conv=>whnf)))
  refine aB (λh1=> ?_) (λh1=> ?_)
  ·have hjl:j < c.parts.length:=by simp only [List.length_map]at h1;omega
   have hrow':(c.parts.map cnR)[(j:Int).toNat]? =some (cnR c.parts[j]):=aS hjl
   have hi:=ih c.parts[j] (List.getElem_mem hjl) (hp _ (List.getElem_mem hjl))
   rw [List.drop_eq_getElem_cons hjl,yV]at hn
   generalize c.parts[j]=x at hrow' hi hn
   rw [bA]at hrow' hi
   generalize jV x=b at hi hn
   ((conv=>whnf);repeat' ((first|(intro hq;(try simp only [lnS]at hq);(try rewrite [List.length_map]))|refine sJ ?_|refine .intro _ (.intro rfl ?_)|refine exL (k:= ?_)|(refine⟨_,hrow', ?_⟩)|(refine aD [] hi trivial (λr hs=> ?_);subst hs)|refine dwR ?_|((first|refine aB ?_ ?_|refine aC ?_ ?_)<;>intro hb<;>(first|exact ddX hb|try simp only [lnS]at hb))|(refine aA ?_ ?_<;>intro hb<;>try exact dsX hb))<;>(conv=>whnf)))
   ·rw [if_pos (by assumption)]at hn
    exact aQ hn.symm
   ·rw [if_neg (by rw [(by assumption:b=false)];decide)]at hn
    exact⟨j+1,⟨by omega,hn⟩,by dsimp only;omega,by repeat' (first|exact trivial|exact rfl|refine And.intro ?_ ?_),trivial⟩
  ·have hjl:j=c.parts.length:=by simp only [List.length_map]at h1;omega
   subst hjl
   rw [List.drop_length]at hn
   ((conv=>whnf);repeat' ((first|(intro hq;(try simp only [lnS]at hq);(try rewrite [List.length_map]))|refine sJ ?_|refine .intro _ (.intro rfl ?_)|refine exL (k:= ?_)|refine dwR ?_|((first|refine aB ?_ ?_|refine aC ?_ ?_)<;>intro hb<;>(first|exact ddX hb|try simp only [lnS]at hb))|(refine aA ?_ ?_<;>intro hb<;>try exact dsX hb))<;>(conv=>whnf)))
   exact aQ hn.symm
theorem xE (c:Cn):Tri Tryz.prog 116 [.d (.agg (cnR c))] [] (λr=>r= .d (.bool (fC c))):=by
 rw [bA]
 have hE:fC c=(decide (c.kind=0) && (decide (c.name=[]) && (decide (c.lo=0) && (decide (c.hi=0) && decide (c.parts.length=0))))):=by
  unfold fC
  congr 4
  simp [List.length_eq_zero_iff]
 rw [hE]
 clear hE
 refine aE false [1] hty Tryz.func116 rfl (kp [0,1,2]) [] _ _ _ (by simp [Tryz.f116]) (by simp) ?_
 ((conv=>whnf);repeat' ((first|(intro hq;(try simp only [lnS]at hq);(try rewrite [List.length_map]))|refine sJ ?_|refine .intro _ (.intro rfl ?_)|refine exL (k:= ?_)|refine dwR ?_|((first|refine aB ?_ ?_|refine aC ?_ ?_)<;>intro hb<;>(first|exact ddX hb|try simp only [lnS]at hb))|(refine aA ?_ ?_<;>intro hb<;>try exact dsX hb))<;>(conv=>whnf)))
 all_goals (refine aQ (Eq.symm ?_);simp_all<;>first|omega|(rw [Bool.eq_iff_iff];simp<;>omega))
theorem aIz {k:Int}(h:k < 1\/9 < k):gT k=⟨false,false,false,false,false,0,0⟩:=by
 unfold gT
 rcases h with h|h
 ·rw [show k.toNat=0 by omega];rfl
 ·rw [List.getD,List.getElem?_eq_none (show iS.length<=k.toNat by show 10<=k.toNat;omega)];rfl
def aVy (u:Use):SV:= .tup [.d (.bool u.left), .d (.bool u.right), .d (.bool u.role), .d (.bool u.a), .d (.bool u.b), .d (.int .i64 u.least), .d (.int .i64 u.most)]
theorem uM (k:Int):Tri Tryz.prog 115 [.d (.int .i64 k)] [] (λr=>r=aVy (gT k)):=by
 refine aE false [] hty Tryz.func115 rfl (kp [0,2,3,4,5,6,7,8,9,10,14,16,18,20,22,24]) [] _ _ _ (by simp [Tryz.f115]) (by simp) ?_
 ((conv=>whnf);repeat' ((first|(intro hq;(try simp only [lnS]at hq);(try rewrite [List.length_map]))|refine sJ ?_|refine .intro _ (.intro rfl ?_)|refine exL (k:= ?_)|refine dwR ?_|((first|refine aB ?_ ?_|refine aC ?_ ?_)<;>intro hb<;>(first|exact ddX hb|try simp only [lnS]at hb))|(refine aA ?_ ?_<;>intro hb<;>try exact dsX hb))<;>(conv=>whnf)))
 all_goals first
  |(subst_vars;rfl)
  |(rw [aIz (by omega)];rfl)
end Go.Proofs.YtleihcnongldbaaGreatDoor
namespace Go.Proofs.YtleihcnongldbaaGreatDoor
open Go.Proofs
end Go.Proofs.YtleihcnongldbaaGreatDoor
