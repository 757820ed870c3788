/-
  The library's sorts, as they lie in this program. Terms: tidy and meet. Terms: Tidy and TidyAxiom.
  Conditions: none.
-/
import Derived.Test.YtcomlapnibckmaaGreatDoorMSng
import Derived.Test.YtcomlapnibckmaaGreatDoorMTy
import Derived.Test.YtcomlapnibckmaaGreatDoorMSw
import Derived.Test.YtcomlapnibckmaaGreatDoorMLzp
import Derived.Ground.SlsfProg
import Derived.Ground.NamesProg
import Derived.Test.YtcomlapnibckmaaGreatDoorMAm
set_option linter.unnecessarySimpa false
set_option linter.unusedSectionVars false
set_option linter.unusedSimpArgs false
set_option linter.unusedVariables false
namespace Go.Proofs.YtcomlapnibckmaaGreatDoor
open Go.Proofs Go.Shelf Go.Sort
set_option maxRecDepth 10000
end Go.Proofs.YtcomlapnibckmaaGreatDoor
namespace Go.Proofs.YtcomlapnibckmaaGreatDoor
open Go.Proofs
set_option maxRecDepth 10000
theorem Tri.resT {P:Program}{f:FuncId}{qs:List SV}{hp:Hp}{post post':SV->Prop}(h:Tri P f qs hp post) (hw: ∀s,post s->post' s\/ ∃ss ss',s= .tup ss/\aFf ss ss'/\post' (.tup ss')):Tri P f qs hp post':=by
 unfold Tri at h |-
 intro w ρ vs a b c
 refine(h w ρ vs a b c).mono ?_
 rintro e w' ⟨v,S',s,rfl,hp,h1,h2,h3,h4,hr⟩
 rcases hw s hp with hp'|⟨ss,ss',rfl,hwk,hp'⟩
 ·exact⟨v,S',_,rfl,hp',h1,h2,h3,h4,hr⟩
 obtain⟨us,e1,hl,hh⟩:=hr.tup_inv
 obtain⟨k1,k2⟩:=aAz _ _ hwk
 refine⟨v,S',_,rfl,hp',h1,h2,h3,h4, ?_⟩
 rw [e1]
 refine .tup _ _ (by omega) λj q u hq hu=> ?_
 obtain⟨q0,r1,r2⟩:=k2 j q hq
 exact aGk r2 (hh j q0 u r1 hu)
attribute [local irreducible] aL aG Tri aD YVC cP bB
def okC (c:Cn):Prop:= ∀x∈dM c,x.kind=6->x.parts≠[]
end Go.Proofs.YtcomlapnibckmaaGreatDoor
namespace Go.Proofs.YtcomlapnibckmaaGreatDoor
open Go.Proofs
set_option maxRecDepth 10000
attribute [local irreducible] aL aG Tri aD YVC cP bB
theorem nP: ∀{l:List Cn},fV l=0-> ∀x∈l,cO x=0
 | [],_,x,hx=>by simp at hx
 |a::l,h,x,hx=>by
  rw [fV]at h
  split at h
  ·rename_i h1;exact absurd h h1
  ·rename_i h1
   rcases List.mem_cons.1 hx with rfl|hx
   ·simpa using h1
   ·exact nP h x hx
mutual
theorem pL: ∀(c:Cn) (d n:Int),(eF c d n).1=true->(eF c d n).2=n+(lY c:Nat)
 | .mk k s lo hi ps,d,n=>by
  have h:=pK ps d (n+1)
  have e:lY (.mk k s lo hi ps)=aE0 ps+1:=zD _
  rw [eF]
  split
  ·simp
  ·intro h1
   rw [h h1,e];omega
theorem pK: ∀(l:List Cn) (d n:Int),(iM l d n).1=true->(iM l d n).2=n+(aE0 l:Nat)
 | [],d,n=>by rw [iM];intro _;simp [aE0,bR]
 |c::r,d,n=>by
  have h1:=pL c (d+1) n
  rw [iM]
  split
  ·rename_i hb
   have h2:=pK r d (eF c (d+1) n).2
   intro h3
   rw [h2 h3,h1 hb,zA];omega
  ·simp
end
theorem uH {c:Cn}(h:cD c=0):lY c<=64/\okC c/\ ∀x∈dM c,cO x=0:=by
 unfold cD at h
 split at h
 ·simp at h
 ·rename_i hf
  have hf:(eF c 0 0).1=true:=by simpa using hf
  have h0:=nP h
  refine⟨?_,λx hx hk=> ?_,h0⟩
  ·have h1:=pL c 0 0 hf
   have h2:(eF c 0 0).2<=64:=by
    have e:=vH c 0 0
    by_cases h3:(8:Int) < 0\/(64:Int) < 0+1
    ·omega
    ·rw [if_neg h3]at e
     rw [e]at hf |-
     exact(kU c.parts 0 (0+1) (by omega) (by omega)).2.2 hf
   omega
  ·have:=h0 x hx
   unfold cO at this
   rw [if_neg (by omega),hk]at this
   unfold nQ at this
   rw [show nD 6=⟨1,1,1,false⟩from rfl]at this
   split at this
   ·simp at this
   ·rename_i h1
    intro he
    apply h1
    left
    rw [he];simp
theorem aAu {x:Ax}(h:cJ x=0):(1<=x.kind/\x.kind<=9)/\((oF x.kind).left=true->cD x.left=0)/\((oF x.kind).right=true->cD x.right=0):=by
 unfold cJ at h
 split at h
 ·simp at h
 ·rename_i hs
  refine⟨?_, ?_⟩
  ·have hs:aZ x=true:=by simpa using hs
   unfold aZ at hs
   split at hs
   ·cases hs
   ·omega
  ·unfold pT at h
   split at h
   ·simp at h
   ·split at h
    ·rename_i h1;exact absurd h h1.2
    ·split at h
     ·rename_i h1;exact absurd h h1.2
     ·rename_i h1 h2
      exact⟨λhu=>Decidable.byContradiction λhn=>h1 ⟨hu,hn⟩,λhu=>Decidable.byContradiction λhn=>h2 ⟨hu,hn⟩⟩
end Go.Proofs.YtcomlapnibckmaaGreatDoor
