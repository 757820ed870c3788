/-
  The library's sorts, as they lie in this program. Terms: tidy and meet. Terms: Tidy and TidyAxiom.
  Conditions: none.
-/
import Derived.Test.YtcomlapnibckmaaGreatDoorVSng
import Derived.Test.YtcomlapnibckmaaGreatDoorVTy
import Derived.Test.YtcomlapnibckmaaGreatDoorVSw
import Derived.Test.YtcomlapnibckmaaGreatDoorVLzp
import Derived.Ground.SlsfProg
import Derived.Ground.NamesProg
import Derived.Test.YtcomlapnibckmaaGreatDoorVAm
set_option linter.unnecessarySimpa false
set_option linter.unusedSectionVars false
set_option linter.unusedSimpArgs false
set_option linter.unusedVariables false
namespace Go.Proofs.YtcomlapnibckmaaGreatDoor
open Go.Proofs Go.Shelf Go.Sort
set_option maxRecDepth 10000
end Go.Proofs.YtcomlapnibckmaaGreatDoor
namespace Go.Proofs.YtcomlapnibckmaaGreatDoor
open Go.Proofs
set_option maxRecDepth 10000
theorem Tri.resT {P:Program}{f:FuncId}{qs:List SV}{hp:Hp}{post post':SV->Prop}(h:Tri P f qs hp post) (hw: ∀s,post s->post' s\/ ∃ss ss',s= .tup ss/\aGd ss ss'/\post' (.tup ss')):Tri P f qs hp post':=by
 unfold Tri at h |-
 intro w ρ vs a b c
 refine(h w ρ vs a b c).mono ?_
 rintro e w' ⟨v,S',s,rfl,hp,h1,h2,h3,h4,hr⟩
 rcases hw s hp with hp'|⟨ss,ss',rfl,hwk,hp'⟩
 ·exact⟨v,S',_,rfl,hp',h1,h2,h3,h4,hr⟩
 obtain⟨us,e1,hl,hh⟩:=hr.tup_inv
 obtain⟨k1,k2⟩:=aC6 _ _ hwk
 refine⟨v,S',_,rfl,hp',h1,h2,h3,h4, ?_⟩
 rw [e1]
 refine .tup _ _ (by omega) λj q u hq hu=> ?_
 obtain⟨q0,r1,r2⟩:=k2 j q hq
 exact aHh r2 (hh j q0 u r1 hu)
attribute [local irreducible] aN aH Tri aF YVC cM bB
theorem aHw {i z a b:Nat}(h:a=b):Wk (.mw i z a) (.mw i z b):=by subst h;exact rfl
def okC (c:Cn):Prop:= ∀x∈eK c,x.kind=6->x.parts≠[]
end Go.Proofs.YtcomlapnibckmaaGreatDoor
namespace Go.Proofs.YtcomlapnibckmaaGreatDoor
open Go.Proofs
set_option maxRecDepth 10000
attribute [local irreducible] aN aH Tri aF YVC cM bB
theorem oY: ∀{l:List Cn},gT l=0-> ∀x∈l,cV x=0
 | [],_,x,hx=>by simp at hx
 |a::l,h,x,hx=>by
  rw [gT]at h
  split at h
  ·rename_i h1;exact absurd h h1
  ·rename_i h1
   rcases List.mem_cons.1 hx with rfl|hx
   ·simpa using h1
   ·exact oY h x hx
mutual
theorem qV: ∀(c:Cn) (d n:Int),(fL c d n).1=true->(fL c d n).2=n+(nF c:Nat)
 | .mk k s lo hi ps,d,n=>by
  have h:=qU ps d (n+1)
  have e:nF (.mk k s lo hi ps)=aF5 ps+1:=aAs _
  rw [fL]
  split
  ·simp
  ·intro h1
   rw [h h1,e];omega
theorem qU: ∀(l:List Cn) (d n:Int),(iL l d n).1=true->(iL l d n).2=n+(aF5 l:Nat)
 | [],d,n=>by rw [iL];intro _;simp [aF5,bZ]
 |c::r,d,n=>by
  have h1:=qV c (d+1) n
  rw [iL]
  split
  ·rename_i hb
   have h2:=qU r d (fL c (d+1) n).2
   intro h3
   rw [h2 h3,h1 hb,aAn];omega
  ·simp
end
theorem wE {c:Cn}(h:cI c=0):nF c<=64/\okC c/\ ∀x∈eK c,cV x=0:=by
 unfold cI at h
 split at h
 ·simp at h
 ·rename_i hf
  have hf:(fL c 0 0).1=true:=by simpa using hf
  have h0:=oY h
  refine⟨?_,λx hx hk=> ?_,h0⟩
  ·have h1:=qV c 0 0 hf
   have h2:(fL c 0 0).2<=64:=by
    have e:=xO c 0 0
    by_cases h3:(8:Int) < 0\/(64:Int) < 0+1
    ·omega
    ·rw [if_neg h3]at e
     rw [e]at hf |-
     exact(lX c.parts 0 (0+1) (by omega) (by omega)).2.2 hf
   omega
  ·have:=h0 x hx
   unfold cV at this
   rw [if_neg (by omega),hk]at this
   unfold oZ at this
   rw [show oF 6=⟨1,1,1,false⟩from rfl]at this
   split at this
   ·simp at this
   ·rename_i h1
    intro he
    apply h1
    left
    rw [he];simp
def a0:Ax:=⟨0,false,c0,c0,[],[],[],[]⟩
theorem aC0 {x:Ax}(h:cP x=0):(1<=x.kind/\x.kind<=9)/\((pO x.kind).left=true->cI x.left=0)/\((pO x.kind).right=true->cI x.right=0):=by
 unfold cP at h
 split at h
 ·simp at h
 ·rename_i hs
  refine⟨?_, ?_⟩
  ·have hs:bA x=true:=by simpa using hs
   unfold bA at hs
   split at hs
   ·cases hs
   ·omega
  ·unfold rH at h
   split at h
   ·simp at h
   ·split at h
    ·rename_i h1;exact absurd h h1.2
    ·split at h
     ·rename_i h1;exact absurd h h1.2
     ·rename_i h1 h2
      exact⟨λhu=>Decidable.byContradiction λhn=>h1 ⟨hu,hn⟩,λhu=>Decidable.byContradiction λhn=>h2 ⟨hu,hn⟩⟩
end Go.Proofs.YtcomlapnibckmaaGreatDoor
