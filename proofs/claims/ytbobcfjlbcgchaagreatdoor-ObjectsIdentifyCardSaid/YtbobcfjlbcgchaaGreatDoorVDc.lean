/-
  Rename: other names in concepts and axioms, plainly. Terms: order, repetition and grouping of parts do not change the canonical form (plainly). Terms: the reference's order, Strings, Size and Compare. The walk through the reference's keyword. Names: the walks through the reference's functions that tell which strings are names. Terms: the reference's Depth, shape, named, walk, CheckConcept.
  Conditions: none.
-/
import Derived.Test.YtbobcfjlbcgchaaGreatDoorVA1
import Derived.Test.YtbobcfjlbcgchaaGreatDoorVOf
import Derived.Test.YtbobcfjlbcgchaaGreatDoorVAk
import Derived.Test.YtbobcfjlbcgchaaGreatDoorVSna
set_option linter.unnecessarySimpa false
set_option linter.unusedSectionVars false
set_option linter.unusedSimpArgs false
set_option linter.unusedVariables false
namespace Go.Proofs.YtbobcfjlbcgchaaGreatDoor
open Go.Proofs
def aOk (g:Int->List UInt8->List UInt8) (k:Int) (n:List UInt8):List UInt8:=
 if k=3 then g 1 n else if k=6 then g 2 n else if k=7 then g 3 n else if k=4 then g 4 n else n
mutual
def cM (g:Int->List UInt8->List UInt8):Cn->Cn
 | .mk k n lo hi ps=> .mk k (aOk g k n) lo hi (aWb g ps)
def aWb (g:Int->List UInt8->List UInt8):List Cn->List Cn
 | []=>[]
 |c::r=>cM g c::aWb g r
end
theorem aGn (g:Int->List UInt8->List UInt8): ∀l,aWb g l=l.map (cM g)
 | []=>rfl
 |c::r=>by rw [aWb,aGn g r];rfl
theorem jI (g:Int->List UInt8->List UInt8) (c:Cn):cM g c= .mk c.kind (aOk g c.kind c.name) c.lo c.hi (c.parts.map (cM g)):=by
 cases c;rw [cM,aGn];rfl
theorem cO (g:Int->List UInt8->List UInt8) (c:Cn):(cM g c).kind=c.kind:=by rw [jI];rfl
theorem cQ (g:Int->List UInt8->List UInt8) (c:Cn):(cM g c).parts=c.parts.map (cM g):=by rw [jI];rfl
theorem aMh (g:Int->List UInt8->List UInt8) (c:Cn):(cM g c).name=aOk g c.kind c.name:=by rw [jI];rfl
def yA (g:Int->List UInt8->List UInt8) (x:Ax):Ax:={ x with left:=cM g x.left,right:=cM g x.right,roles:=x.roles.map (g 2),role:=g 2 x.role,a:=g 4 x.a,b:=g 4 x.b }
end Go.Proofs.YtbobcfjlbcgchaaGreatDoor
namespace Go.Proofs.YtbobcfjlbcgchaaGreatDoor
open Go.Proofs
theorem aO0 (s:List Cn):(eG s).2=0\/(eG s).2=2:=by
 unfold eG
 split
 ·exact .inl rfl
 ·split
  ·exact .inl rfl
  ·split
   ·exact .inl rfl
   ·split
    ·exact .inr rfl
    ·exact .inl rfl
theorem aLg: ∀c:Cn,(aL c).2=0\/(aL c).2=2:=by
 refine Cn.ind ?_
 intro c ih
 rw [gT]
 split
 ·cases hps:c.parts with
  |nil=>exact .inl rfl
  |cons p r=>
   simp only [List.map_cons,vN]
   have:=ih p (by rw [hps];simp)
   split
   ·exact this
   ·exact .inl rfl
 ·split
  ·unfold jV
   split
   ·rename_i r hr
    have h1:=List.mem_of_find?_eq_some hr
    obtain⟨p,hp,rfl⟩:=List.mem_map.1 h1
    exact ih p hp
   ·exact aO0 _
  ·exact .inl rfl
def iR (l:List Cn):List Cn:=(l.map aL).flatMap λr=>bN r.1
theorem dH {x:Cn}{l:List Cn}:x∈iR l↔ ∃p∈l,x∈bN (aL p).1:=by
 unfold iR
 rw [List.mem_flatMap]
 constructor
 ·rintro⟨r,hr,hx⟩
  obtain⟨p,hp,rfl⟩:=List.mem_map.1 hr
  exact⟨p,hp,hx⟩
 ·rintro⟨p,hp,hx⟩
  exact⟨_,List.mem_map_of_mem hp,hx⟩
theorem aQf {l:List Cn}(h: ∃p∈l,(aL p).2≠0):jV (l.map aL)=(c0,2):=by
 unfold jV
 split
 ·rename_i r hr
  have h1:=List.mem_of_find?_eq_some hr
  have h2:=List.find?_some hr
  obtain⟨p,hp,rfl⟩:=List.mem_map.1 h1
  simp only [decide_eq_true_eq]at h2
  rw [(aLg p).resolve_left h2]
 ·rename_i hn
  obtain⟨p,hp,h⟩:=h
  have:=List.find?_eq_none.1 hn (aL p) (List.mem_map_of_mem hp)
  simp only [decide_eq_true_eq,ne_eq,Classical.not_not]at this
  exact absurd this h
theorem kS {l:List Cn}(h: ∀p∈l,(aL p).2=0):jV (l.map aL)=eG (lH (iR l)):=by
 unfold jV
 split
 ·rename_i r hr
  have h1:=List.mem_of_find?_eq_some hr
  have h2:=List.find?_some hr
  obtain⟨p,hp,rfl⟩:=List.mem_map.1 h1
  simp only [decide_eq_true_eq]at h2
  exact absurd (h p hp) h2
 ·rfl
theorem jU {l:List Cn}(h:(jV (l.map aL)).2=0): ∀p∈l,(aL p).2=0:= λp hp=>Classical.byContradiction λh'=>by
 rw [aQf ⟨p,hp,h'⟩]at h
 exact absurd h (by decide)
theorem xD: ∀c:Cn,(aL c).2=0-> ∀m∈bN (aL c).1,m.kind≠1/\m.kind≠5:=by
 refine Cn.ind ?_
 intro c ih h0
 have self: ∀x:Cn,x.kind≠5-> ∀m∈bN x,m.kind≠1/\m.kind≠5:= λx h5 m hm=>by
  unfold bN at hm
  split at hm
  ·simp at hm
  ·rename_i h1
   have hm:m∈[x]:=by simpa only [if_neg h5]using hm
   simp only [List.mem_singleton]at hm
   subst hm
   exact⟨h1,h5⟩
 rw [gT]at h0 |-
 split
 ·rename_i h6
  rw [if_pos h6]at h0
  cases hps:c.parts with
  |nil=>exact self _ (by show (0:Int)≠5;decide)
  |cons p r=>
   rw [hps]at h0
   simp only [List.map_cons,vN]at h0 |-
   split
   ·rename_i hb
    rw [if_pos hb]at h0
    have h2:(aL p).1.kind=2:=by rcases hb with hb|hb;exact absurd h0 hb;exact hb
    exact self _ (by rw [h2];decide)
   ·exact self _ (by show (6:Int)≠5;decide)
 ·rename_i h6
  rw [if_neg h6]at h0
  split
  ·rename_i h5
   rw [if_pos h5]at h0
   have hz:=jU h0
   rw [kS hz]at h0 |-
   have hS: ∀m∈lH (iR c.parts),m.kind≠1/\m.kind≠5:= λm hm=>by
    rw [dG,dH]at hm
    obtain⟨p,hp,hm⟩:=hm
    exact ih p hp (hz p hp) m hm
   generalize lH (iR c.parts)=s at h0 hS |-
   unfold eG at h0 |-
   split
   ·rename_i t ht
    have:=List.find?_some ht
    simp only [decide_eq_true_eq]at this
    exact self _ (by show t.kind≠5;rw [this];decide)
   ·rename_i hn
    rw [hn]at h0
    simp only at h0
    split
    ·exact self _ (by show (1:Int)≠5;decide)
    ·rename_i e0
     rw [if_neg e0]at h0
     split
     ·rename_i e1
      match s,e1,hS with
      | [x],_,hS=>exact self x (hS x (by simp)).2
     ·rename_i e1
      rw [if_neg e1]at h0
      split
      ·rename_i e2;rw [if_pos e2]at h0;exact absurd h0 (by decide)
      ·intro m hm
       rw [show bN (.mk 5 [] 0 0 s)=s from rfl]at hm
       exact hS m hm
  ·rename_i h5;exact self c h5
theorem xS {c:Cn}(h:Okn c) (hk:c.kind=2):c= .mk 2 [] 0 0 []:=by
 have hf:=((gL c).1 h).1
 rw [kA hk (by decide),gI rfl]at hf
 obtain⟨⟨_,h2,h3⟩,⟨h4,h5⟩,_⟩:=hf
 obtain⟨k,n,lo,hi,ps⟩:=c
 have q1:k=2:=hk
 have q2:(ps.length:Int)<=0:=h2
 have q3:n=[]:=h3 rfl
 have q4:lo=0:=h4
 have q5:hi=0:=h5
 have q6:ps=[]:=List.eq_nil_of_length_eq_zero (by omega)
 rw [q1,q3,q4,q5,q6]
theorem zO {c m:Cn}(h:Okn c) (hm:m∈bN c):Okn m:=by
 unfold bN at hm
 split at hm
 ·simp at hm
 ·split at hm
  ·exact((gL c).1 h).2 m hm
  ·simp only [List.mem_singleton]at hm;subst hm;exact h
theorem aDt {s:List Cn}(hs: ∀m∈s,Okn m) (h: ∃t∈s,t.kind=2):eG s=(.mk 2 [] 0 0 [],0):=by
 unfold eG
 split
 ·rename_i t ht
  have h1:=List.find?_some ht
  simp only [decide_eq_true_eq]at h1
  rw [xS (hs t (List.mem_of_find?_eq_some ht)) h1]
 ·rename_i hn
  obtain⟨t,ht,hk⟩:=h
  have:=List.find?_eq_none.1 hn t ht
  simp only [decide_eq_true_eq]at this
  exact absurd hk this
end Go.Proofs.YtbobcfjlbcgchaaGreatDoor
namespace Go.Proofs.YtbobcfjlbcgchaaGreatDoor
open Go.Proofs
set_option maxRecDepth 10000
attribute [local irreducible] aJ aF Tri aG YVC bS aQ
end Go.Proofs.YtbobcfjlbcgchaaGreatDoor
namespace Go.Proofs.YtbobcfjlbcgchaaGreatDoor
open Go.Proofs
set_option maxRecDepth 10000
attribute [local irreducible] aJ aF Tri aG
end Go.Proofs.YtbobcfjlbcgchaaGreatDoor
namespace Go.Proofs.YtbobcfjlbcgchaaGreatDoor
open Go.Proofs
set_option maxRecDepth 10000
attribute [local irreducible] aJ aF Tri aG
end Go.Proofs.YtbobcfjlbcgchaaGreatDoor
namespace Go.Proofs.YtbobcfjlbcgchaaGreatDoor
open Go.Proofs
set_option maxRecDepth 10000
attribute [local irreducible] aJ aF Tri aG YVC bS aQ
def qI (c:Cn):Bool:=
 if c.kind=1\/c.kind=2 then decide (c.lo=0) && (decide (c.hi=0) && (decide (c.name=[]) && decide (c.parts.length=0)))
 else if c.kind=3\/c.kind=4 then decide (c.lo=0) && (decide (c.hi=0) && decide (c.parts.length=0))
 else if c.kind=5 then decide (c.lo=0) && (decide (c.hi=0) && (decide (c.name=[]) && (decide (2<=c.parts.length) && decide (c.parts.length<=8))))
 else if c.kind=6 then decide (c.lo=0) && (decide (c.hi=0) && decide (c.parts.length=1))
 else if c.kind=7 then decide (c.parts.length=0) && (decide (-1099511627776<=c.lo) && (decide (c.lo<=c.hi) && decide (c.hi<=1099511627776)))
 else false
def wH (c:Cn):Bool:=if c.kind=3\/c.kind=6\/c.kind=7 then dE c.name else if c.kind=4 then fH c.name else true
theorem aFm (c:Cn):bR c=if qI c=false then 21 else if wH c=false then 20 else 0:=by
 by_cases h:c.kind < 1\/7 < c.kind
 ·have e:qI c=false:=by
   unfold qI
   rw [if_neg (by omega),if_neg (by omega),if_neg (by omega),if_neg (by omega),if_neg (by omega)]
  rw [e,if_pos rfl,bR,if_pos h]
 ·have hk:c.kind=1\/c.kind=2\/c.kind=3\/c.kind=4\/c.kind=5\/c.kind=6\/c.kind=7:=by omega
  have hE:bR c=gO (gP c.kind) c:=by rw [bR,if_neg h]
  rw [hE]
  clear hE h
  have n1:gP 1=⟨0,0,0,false⟩:=rfl
  have n2:gP 2=⟨0,0,0,false⟩:=rfl
  have n3:gP 3=⟨1,0,0,false⟩:=rfl
  have n4:gP 4=⟨2,0,0,false⟩:=rfl
  have n5:gP 5=⟨0,2,8,false⟩:=rfl
  have n6:gP 6=⟨1,1,1,false⟩:=rfl
  have n7:gP 7=⟨1,0,0,true⟩:=rfl
  unfold qI wH gO aBc fH
  generalize c.parts.length=m
  rcases hk with hk|hk|hk|hk|hk|hk|hk<;>rw [hk]<;>simp only [n1,n2,n3,n4,n5,n6,n7]
  all_goals
   cases dE c.name<;>cases aOj c.name<;>simp
   all_goals (repeat' split)<;>simp_all<;>omega
end Go.Proofs.YtbobcfjlbcgchaaGreatDoor
