/-
  The library's sorts, as they lie in this program. Terms: tidy and meet. Terms: Tidy and TidyAxiom. The keys of a set of strings, collected and sorted: maps.Keys, slices.AppendSeq, slices.Collect, slices.Sorted. Terms: Vocabulary. Terms: the vocabulary, plainly: whose names it holds.
  Conditions: none.
-/
import Derived.Test.YtleihcnongldbaaGreatDoorVSng
import Derived.Test.YtleihcnongldbaaGreatDoorVTy
import Derived.Test.YtleihcnongldbaaGreatDoorVSw
import Derived.Test.YtleihcnongldbaaGreatDoorVLzp
import Derived.Ground.SlsfProg
import Derived.Ground.NamesProg
import Derived.Test.YtleihcnongldbaaGreatDoorVA1
import Derived.Sort.KeysCollected
import Derived.Test.YtleihcnongldbaaGreatDoorVSyi
set_option linter.unnecessarySimpa false
set_option linter.unusedSectionVars false
set_option linter.unusedSimpArgs false
set_option linter.unusedVariables false
namespace Go.Proofs.YtleihcnongldbaaGreatDoor
open Go.Proofs Go.Shelf Go.Sort
set_option maxRecDepth 10000
end Go.Proofs.YtleihcnongldbaaGreatDoor
namespace Go.Proofs.YtleihcnongldbaaGreatDoor
open Go.Proofs
set_option maxRecDepth 10000
theorem Tri.resT {P:Program}{f:FuncId}{qs:List SV}{hp:Hp}{post post':SV->Prop}(h:Tri P f qs hp post) (hw: ∀s,post s->post' s\/ ∃ss ss',s= .tup ss/\aM2 ss ss'/\post' (.tup ss')):Tri P f qs hp post':=by
 unfold Tri at h |-
 intro w ρ vs a b c
 refine(h w ρ vs a b c).mono ?_
 rintro e w' ⟨v,S',s,rfl,hp,h1,h2,h3,h4,hr⟩
 rcases hw s hp with hp'|⟨ss,ss',rfl,hwk,hp'⟩
 ·exact⟨v,S',_,rfl,hp',h1,h2,h3,h4,hr⟩
 obtain⟨us,e1,hl,hh⟩:=hr.tup_inv
 obtain⟨k1,k2⟩:=aGc _ _ hwk
 refine⟨v,S',_,rfl,hp',h1,h2,h3,h4, ?_⟩
 rw [e1]
 refine .tup _ _ (by omega) λj q u hq hu=> ?_
 obtain⟨q0,r1,r2⟩:=k2 j q hq
 exact aNo r2 (hh j q0 u r1 hu)
attribute [local irreducible] aO aH Tri aG YVC cL bB
theorem aO5 {i z a b:Nat}(h:a=b):Wk (.mw i z a) (.mw i z b):=by subst h;exact rfl
def okC (c:Cn):Prop:= ∀x∈eN c,x.kind=6->x.parts≠[]
end Go.Proofs.YtleihcnongldbaaGreatDoor
namespace Go.Proofs.YtleihcnongldbaaGreatDoor
open Go.Proofs
set_option maxRecDepth 10000
attribute [local irreducible] aO aH Tri aG YVC cL bB
theorem sZ: ∀{l:List Cn},jI l=0-> ∀x∈l,cX x=0
 | [],_,x,hx=>by simp at hx
 |a::l,h,x,hx=>by
  rw [jI]at h
  split at h
  ·rename_i h1;exact absurd h h1
  ·rename_i h1
   rcases List.mem_cons.1 hx with rfl|hx
   ·simpa using h1
   ·exact sZ h x hx
mutual
theorem vK: ∀(c:Cn) (d n:Int),(fN c d n).1=true->(fN c d n).2=n+(bW c:Nat)
 | .mk k s lo hi ps,d,n=>by
  have h:=vJ ps d (n+1)
  have e:bW (.mk k s lo hi ps)=aH8 ps+1:=nN _
  rw [fN]
  split
  ·simp
  ·intro h1
   rw [h h1,e];omega
theorem vJ: ∀(l:List Cn) (d n:Int),(iX l d n).1=true->(iX l d n).2=n+(aH8 l:Nat)
 | [],d,n=>by rw [iX];intro _;simp [aH8,bM]
 |c::r,d,n=>by
  have h1:=vK c (d+1) n
  rw [iX]
  split
  ·rename_i hb
   have h2:=vJ r d (fN c (d+1) n).2
   intro h3
   rw [h2 h3,h1 hb,aEk];omega
  ·simp
end
theorem jD {c:Cn}(h:cD c=0):bW c<=64/\okC c/\ ∀x∈eN c,cX x=0:=by
 unfold cD at h
 split at h
 ·simp at h
 ·rename_i hf
  have hf:(fN c 0 0).1=true:=by simpa using hf
  have h0:=sZ h
  refine⟨?_,λx hx hk=> ?_,h0⟩
  ·have h1:=vK c 0 0 hf
   have h2:(fN c 0 0).2<=64:=by
    have e:=rD c 0 0
    by_cases h3:(8:Int) < 0\/(64:Int) < 0+1
    ·omega
    ·rw [if_neg h3]at e
     rw [e]at hf |-
     exact(oM c.parts 0 (0+1) (by omega) (by omega)).2.2 hf
   omega
  ·have:=h0 x hx
   unfold cX at this
   rw [if_neg (by omega),hk]at this
   unfold tB at this
   rw [show sE 6=⟨1,1,1,false⟩from rfl]at this
   split at this
   ·simp at this
   ·rename_i h1
    intro he
    apply h1
    left
    rw [he];simp
def a0:Ax:=⟨0,false,c0,c0,[],[],[],[]⟩
theorem aA2 {x:Ax}(h:cJ x=0):(1<=x.kind/\x.kind<=9)/\((qM x.kind).left=true->cD x.left=0)/\((qM x.kind).right=true->cD x.right=0):=by
 unfold cJ at h
 split at h
 ·simp at h
 ·rename_i hs
  refine⟨?_, ?_⟩
  ·have hs:bE x=true:=by simpa using hs
   unfold bE at hs
   split at hs
   ·cases hs
   ·omega
  ·unfold vV at h
   split at h
   ·simp at h
   ·split at h
    ·rename_i h1;exact absurd h h1.2
    ·split at h
     ·rename_i h1;exact absurd h h1.2
     ·rename_i h1 h2
      exact⟨λhu=>Decidable.byContradiction λhn=>h1 ⟨hu,hn⟩,λhu=>Decidable.byContradiction λhn=>h2 ⟨hu,hn⟩⟩
end Go.Proofs.YtleihcnongldbaaGreatDoor
namespace Go.Proofs.YtleihcnongldbaaGreatDoor
open Go.Proofs
set_option maxRecDepth 10000
attribute [local irreducible] aO aH Tri aG YVC cL bB
def aEm (ks:List (List UInt8)):List (List UInt8):=ks.mergeSort λx y=>decide (x<=y)
end Go.Proofs.YtleihcnongldbaaGreatDoor
namespace Go.Proofs.YtleihcnongldbaaGreatDoor
open Go.Proofs
set_option maxRecDepth 10000
attribute [local irreducible] aO aH Tri aG YVC cL bB
def dD:List Ax->Int
 | []=>0
 |x::r=>if cJ x≠0 then cJ x else dD r
theorem vN {c:Cn}(h:gG c=true):bW c=1:=by
 unfold gG at h
 simp only [Bool.and_eq_true,decide_eq_true_eq]at h
 rw [nN,h.2.2.2.2];rfl
theorem aCm {k:Int}(h:1<=k/\k<=9):(qM k).most<=4:=by
 have:k=1\/k=2\/k=3\/k=4\/k=5\/k=6\/k=7\/k=8\/k=9:=by omega
 rcases this with h|h|h|h|h|h|h|h|h<;>rw [h]<;>decide
theorem aDq {x:Ax}(h:cJ x=0):bW x.left<=64/\bW x.right<=64/\x.roles.length<=4:=by
 obtain⟨hk,hl,hr⟩:=aA2 h
 have hm:=aCm hk
 unfold cJ at h
 split at h
 ·simp at h
 ·rename_i hs
  have hs:bE x=true:=by simpa using hs
  unfold bE at hs
  rw [if_neg (by omega)]at hs
  generalize qM x.kind=u at *
  unfold bN at hs
  simp only [Bool.and_eq_true,Bool.or_eq_true,decide_eq_true_eq]at hs
  refine⟨?_, ?_, ?_⟩
  ·cases hu:u.left
   ·have:gG x.left=true:=by simp_all
    rw [vN this];omega
   ·exact(jD (hl hu)).1
  ·cases hu:u.right
   ·have:gG x.right=true:=by simp_all
    rw [vN this];omega
   ·exact(jD (hr hu)).1
  ·omega
structure PairN (v:Nm) (e:Int) (s:SV):Prop where
 ex: ∃a,s= .tup [.d a, .d (.int .i64 e)]/\(a= .agg (nmR v)\/WkD a (.agg (nmR v)))
theorem Tri.pairN {P:Program}{f:FuncId}{qs:List SV}{hp:Hp}{v:Nm}{e:Int}(h:Tri P f qs hp (PairN v e)):Tri P f qs hp (λr=>r= .tup [.d (.agg (nmR v)), .d (.int .i64 e)]):=by
 refine Tri.resT h ?_
 rintro s ⟨a,rfl,rfl|hw⟩
 ·exact .inl rfl
 ·exact .inr ⟨_,[.d (.agg (nmR v)), .d (.int .i64 e)],rfl,⟨hw,by exact rfl,trivial⟩,rfl⟩
theorem vL: ∀{l:List Ax}{j:Nat}(h:j < l.length),(∀x∈l.take j,cJ x=0)->¬ cJ l[j]=0->dD l=cJ l[j]
 |x::r,0,_,_,he=>by
  have he:cJ x≠0:=he
  rw [dD,if_pos he];rfl
 |x::r,j+1,h,hz,he=>by
  have h0:cJ x=0:=hz x (by simp)
  rw [dD,if_neg (by simpa using h0)]
  exact vL (by simpa using h) (λy hy=>hz y (by simp [hy])) he
end Go.Proofs.YtleihcnongldbaaGreatDoor
namespace Go.Proofs.YtleihcnongldbaaGreatDoor
open Go.Proofs
def aPr (k:Int) (c:Cn) (s:List UInt8):Prop:= ∃n∈eN c,n.kind=k/\n.name=s
end Go.Proofs.YtleihcnongldbaaGreatDoor
