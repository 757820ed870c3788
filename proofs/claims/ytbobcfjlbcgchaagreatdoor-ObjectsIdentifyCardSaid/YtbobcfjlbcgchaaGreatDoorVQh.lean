/-
  Rename: other names in concepts, plainly; tidying and renaming. Rename: lists of renamings made one by one: two renamings together, what undoes one; plainly. Rename: other names in axioms, plainly; tidying and renaming of axioms and lists of axioms. Rename: the laws of axioms with other names, plainly. Bases, plainly: what New makes of axioms, what Check says, and what that means. Base: alike, equal, role axioms, Find, Same, Open.
  Conditions: none.
-/
import Derived.Test.YtbobcfjlbcgchaaGreatDoorVDc
import Derived.Test.YtbobcfjlbcgchaaGreatDoorVQs
import Derived.Test.YtbobcfjlbcgchaaGreatDoorVOf
import Derived.Test.YtbobcfjlbcgchaaGreatDoorVQf
import Derived.Test.YtbobcfjlbcgchaaGreatDoorVOe
set_option linter.unnecessarySimpa false
set_option linter.unusedSectionVars false
set_option linter.unusedSimpArgs false
set_option linter.unusedVariables false
set_option maxHeartbeats 4000000
namespace Go.Proofs.YtbobcfjlbcgchaaGreatDoor
open Go.Proofs
structure RenOK (g:Int->List UInt8->List UInt8):Prop where
 plain: ∀k s,dE s=true->dE (g k s)=true
 name: ∀k s,fH s=true->fH (g k s)=true
theorem aLx (k:Int) (n:List UInt8) (lo hi:Int) (ps:List Cn):qI (.mk k n lo hi ps)=
 if k=1\/k=2 then decide (lo=0) && (decide (hi=0) && (decide (n=[]) && decide (ps.length=0)))
 else if k=3\/k=4 then decide (lo=0) && (decide (hi=0) && decide (ps.length=0))
 else if k=5 then decide (lo=0) && (decide (hi=0) && (decide (n=[]) && (decide (2<=ps.length) && decide (ps.length<=8))))
 else if k=6 then decide (lo=0) && (decide (hi=0) && decide (ps.length=1))
 else if k=7 then decide (ps.length=0) && (decide (-1099511627776<=lo) && (decide (lo<=hi) && decide (hi<=1099511627776)))
 else false:=rfl
theorem aMx (k:Int) (n:List UInt8) (lo hi:Int) (ps:List Cn):wH (.mk k n lo hi ps)=if k=3\/k=6\/k=7 then dE n else if k=4 then fH n else true:=rfl
theorem aF0 {g:Int->List UInt8->List UInt8}(hg:RenOK g) {c:Cn}(h:bR c=0):bR (cM g c)=0:=by
 rw [aFm]at h |-
 have h1:qI c=true:=by
  cases e:qI c
  ·rw [e,if_pos rfl]at h;cases h
  ·rfl
 rw [h1,if_neg (by decide)]at h
 have h2:wH c=true:=by
  cases e:wH c
  ·rw [e,if_pos rfl]at h;cases h
  ·rfl
 have s1:qI (cM g c)=true:=by
  rw [jI]
  obtain⟨k,n,lo,hi,ps⟩:=c
  show qI (.mk k (aOk g k n) lo hi (ps.map (cM g)))=true
  rw [aLx]at h1 |-
  simp only [List.length_map,aOk]at h1 |-
  by_cases k1:k=1
  ·subst k1;simpa using h1
  by_cases k2:k=2
  ·subst k2;simpa using h1
  by_cases k3:k=3
  ·subst k3;simpa using h1
  by_cases k4:k=4
  ·subst k4;simpa using h1
  by_cases k5:k=5
  ·subst k5;simpa using h1
  by_cases k6:k=6
  ·subst k6;simpa using h1
  by_cases k7:k=7
  ·subst k7;simpa using h1
  simp [k1,k2,k3,k4,k5,k6,k7]at h1
 have s2:wH (cM g c)=true:=by
  rw [jI]
  obtain⟨k,n,lo,hi,ps⟩:=c
  show wH (.mk k (aOk g k n) lo hi (ps.map (cM g)))=true
  rw [aMx]at h2 |-
  simp only [aOk]at h2 |-
  by_cases k3:k=3
  ·subst k3
   have h2:dE n=true:=by simpa using h2
   simpa using hg.plain _ _ h2
  by_cases k6:k=6
  ·subst k6
   have h2:dE n=true:=by simpa using h2
   simpa using hg.plain _ _ h2
  by_cases k7:k=7
  ·subst k7
   have h2:dE n=true:=by simpa using h2
   simpa using hg.plain _ _ h2
  by_cases k4:k=4
  ·subst k4
   have h2:fH n=true:=by simpa using h2
   simpa using hg.name _ _ h2
  simp [k3,k4,k6,k7]
 rw [s1,s2];simp
theorem uJ {g:Int->List UInt8->List UInt8}(hg:RenOK g): ∀c:Cn,Okn c->Okn (cM g c):=by
 refine Cn.ind ?_
 intro c ih h
 rw [gL]at h |-
 refine⟨aF0 hg h.1,λp hp=> ?_⟩
 rw [cQ]at hp
 obtain⟨q,hq,rfl⟩:=List.mem_map.1 hp
 exact ih q hq (h.2 q hq)
theorem aMg (g:Int->List UInt8->List UInt8): ∀c:Cn,bB (cM g c)=bB c:=by
 refine Cn.ind ?_
 intro c ih
 rw [eJ,eJ,cQ]
 congr 1
 revert ih
 generalize c.parts=l
 induction l with
 |nil=>intro _;rfl
 |cons x r ihr=>
  intro ih
  rw [List.map_cons,bW,bW,ih x (by simp),ihr λq hq=>ih q (by simp [hq])]
theorem aIx (g:Int->List UInt8->List UInt8): ∀c:Cn,dV (cM g c)=dV c:=by
 refine Cn.ind ?_
 intro c ih
 rw [kC,kC,cQ]
 revert ih
 generalize c.parts=l
 induction l with
 |nil=>intro _;rfl
 |cons x r ihr=>
  intro ih
  rw [List.map_cons,gQ,gQ,ih x (by simp),ihr λq hq=>ih q (by simp [hq])]
theorem tG {g:Int->List UInt8->List UInt8}(hg:RenOK g) {c:Cn}(h:bK c=0):bK (cM g c)=0:=by
 obtain⟨h1,h2,h3⟩:=(gJ c).1 h
 exact(gJ _).2 ⟨by rw [aIx];exact h1,by rw [aMg];exact h2,uJ hg c h3⟩
mutual
def aRs:Cn->Bool
 | .mk k _ _ _ ps=>if k=2 then true else if k=5\/k=6 then aOm ps else false
def aOm:List Cn->Bool
 | []=>false
 |c::r=>aRs c || aOm r
end
theorem nP: ∀l,aOm l=true↔ ∃p∈l,aRs p=true
 | []=>by simp [aOm]
 |c::r=>by rw [aOm,Bool.or_eq_true,nP r];simp
theorem xT (c:Cn):aRs c=if c.kind=2 then true else if c.kind=5\/c.kind=6 then aOm c.parts else false:=by cases c;rw [aRs];rfl
theorem aGo (g:Int->List UInt8->List UInt8): ∀c:Cn,aRs (cM g c)=aRs c:=by
 refine Cn.ind ?_
 intro c ih
 rw [xT,xT,cO,cQ]
 have:aOm (c.parts.map (cM g))=aOm c.parts:=by
  rw [Bool.eq_iff_iff,nP,nP]
  constructor
  ·rintro⟨p,hp,h⟩
   obtain⟨q,hq,rfl⟩:=List.mem_map.1 hp
   exact⟨q,hq,by rw [<-ih q hq];exact h⟩
  ·rintro⟨q,hq,h⟩
   exact⟨_,List.mem_map_of_mem hq,by rw [ih q hq];exact h⟩
 rw [this]
theorem uR {s:List Cn}(hb: ∀t∈s,t.kind≠2) (h0:(eG s).2=0):(s=[]/\(eG s).1=aKj)\/(∃x,s=[x]/\(eG s).1=x)\/((eG s).1= .mk 5 [] 0 0 s/\2<=s.length/\s.length<=8):=by
 have hn:s.find? (λt=>decide (t.kind=2))=none:=List.find?_eq_none.2 λt ht hk=>hb t ht (by simpa using hk)
 unfold eG at h0 |-
 rw [hn]at h0 |-
 simp only at h0 |-
 split
 ·rename_i e;exact .inl ⟨List.eq_nil_of_length_eq_zero e,rfl⟩
 ·rename_i e0
  rw [if_neg e0]at h0
  split
  ·rename_i e1
   obtain⟨x,rfl⟩:=List.length_eq_one_iff.1 e1
   exact .inr (.inl ⟨x,rfl,rfl⟩)
  ·rename_i e1
   rw [if_neg e1]at h0
   split
   ·rename_i e2;rw [if_pos e2]at h0;cases h0
   ·exact .inr (.inr ⟨rfl,by omega,by omega⟩)
theorem pQ {s:List Cn}(h:s.length<=8):(eG s).2=0:=by
 unfold eG
 split
 ·rfl
 ·split
  ·rfl
  ·split
   ·rfl
   ·rw [if_neg (by omega)]
theorem fR {c:Cn}(hk:c.kind=5):aL c=jV (c.parts.map aL):=by rw [gT,if_neg (by omega),if_pos hk]
theorem gA {c:Cn}(h5:c.kind≠5) (h6:c.kind≠6):aL c=(c,0):=by rw [gT,if_neg h6,if_neg h5]
theorem iC {c p:Cn}(hk:c.kind=6) (hp:c.parts=[p]):aL c=if (aL p).2≠0\/(aL p).1.kind=2 then aL p else (.mk 6 c.name 0 0 [(aL p).1],0):=by
 rw [gT,if_pos hk,hp];rfl
theorem aGx {c:Cn}(h:Okn c) (hk:c.kind=6): ∃p,c.parts=[p]/\Okn p:=by
 have hf:=((gL c).1 h).1
 rw [kA hk (by decide),gI rfl]at hf
 have h1:(1:Int)<=(c.parts.length:Int):=hf.1.1
 have h2:(c.parts.length:Int)<=1:=hf.1.2.1
 obtain⟨p,hp⟩:=List.length_eq_one_iff.1 (show c.parts.length=1 by omega)
 exact⟨p,hp,((gL c).1 h).2 p (by rw [hp];simp)⟩
theorem oL {c:Cn}(h0:(aL c).2=0) (hk:(aL c).1.kind≠2): ∀m∈bN (aL c).1,m.kind≠2:=by
 have self: ∀x:Cn,x.kind≠2->x.kind≠5-> ∀m∈bN x,m.kind≠2:= λx h2 h5 m hm=>by
  unfold bN at hm
  split at hm
  ·simp at hm
  ·have hm:m∈[x]:=by simpa only [if_neg h5]using hm
   simp only [List.mem_singleton]at hm
   subst hm;exact h2
 by_cases h5:c.kind=5
 ·rw [fR h5]at h0 hk |-
  have hz:=jU h0
  rw [kS hz]at h0 hk |-
  have hfl: ∀m∈lH (iR c.parts),m.kind≠1/\m.kind≠5:= λm hm=>by
   rw [dG,dH]at hm
   obtain⟨p,hp,hm⟩:=hm
   exact xD p (hz p hp) m hm
  generalize lH (iR c.parts)=s at h0 hk hfl |-
  by_cases hb: ∃t∈s,t.kind=2
  ·exfalso
   unfold eG at hk
   split at hk
   ·rename_i t ht
    have:=List.find?_some ht
    simp only [decide_eq_true_eq]at this
    exact hk this
   ·rename_i hn
    obtain⟨t,ht,e⟩:=hb
    have:=List.find?_eq_none.1 hn t ht
    simp [e]at this
  ·have hb: ∀t∈s,t.kind≠2:= λt ht e=>hb ⟨t,ht,e⟩
   rcases uR hb h0 with⟨rfl,e⟩|⟨x,rfl,e⟩|⟨e,_⟩<;>rw [e]
   ·exact self _ (by show (1:Int)≠2;decide) (by show (1:Int)≠5;decide)
   ·exact self _ (hb x (by simp)) (hfl x (by simp)).2
   ·intro m hm
    rw [show bN (.mk 5 [] 0 0 s)=s from rfl]at hm
    exact hb m hm
 ·by_cases h6:c.kind=6
  ·refine self _ hk ?_
   rw [gT,if_pos h6]at h0 hk |-
   cases hp:c.parts with
   |nil=>show (0:Int)≠5;decide
   |cons p r=>
    rw [hp]at h0 hk
    simp only [List.map_cons,vN]at h0 hk |-
    split
    ·rename_i hb
     rw [if_pos hb]at h0 hk
     exfalso
     rcases hb with hb|hb
     ·exact hb h0
     ·exact hk hb
    ·show (6:Int)≠5;decide
  ·rw [gA h5 h6]at hk |-
   exact self _ hk h5
theorem aMm {c:Cn}(h5:c.kind=5) (h0:(aL c).2=0) (hk:(aL c).1.kind≠2) (x:Cn):x∈bN (aL c).1↔ ∃p∈c.parts,x∈bN (aL p).1:=by
 have hnb:=oL h0 hk
 rw [fR h5]at h0 hk hnb |-
 have hz:=jU h0
 rw [kS hz]at h0 hk hnb |-
 rw [<-dH,<-dG (l:=iR c.parts)]
 have hfl: ∀m∈lH (iR c.parts),m.kind≠1/\m.kind≠5:= λm hm=>by
  rw [dG,dH]at hm
  obtain⟨p,hp,hm⟩:=hm
  exact xD p (hz p hp) m hm
 generalize lH (iR c.parts)=s at h0 hk hnb hfl |-
 have hb: ∀t∈s,t.kind≠2:= λt ht e=>by
  unfold eG at hk
  split at hk
  ·rename_i t ht
   have:=List.find?_some ht
   simp only [decide_eq_true_eq]at this
   exact hk this
  ·rename_i hn
   have:=List.find?_eq_none.1 hn t ht
   simp [e]at this
 rcases uR hb h0 with⟨rfl,e⟩|⟨y,rfl,e⟩|⟨e,_⟩<;>rw [e]
 ·simp [bN,aKj,Cn.kind]
 ·have:=hfl y (by simp)
  unfold bN
  rw [if_neg this.1,if_neg this.2]
 ·rfl
theorem nE: ∀c:Cn,Okn c->(aL c).2=0->((aL c).1.kind=2↔aRs c=true):=by
 refine Cn.ind ?_
 intro c ih hok h0
 have hp:=((gL c).1 hok).2
 rw [xT]
 by_cases h5:c.kind=5
 ·rw [if_neg (by omega),if_pos (.inl h5),nP]
  have h0':=h0
  rw [fR h5]at h0'
  have hz:=jU h0'
  constructor
  ·intro hk
   refine Classical.byContradiction λhn=> ?_
   have hn: ∀p∈c.parts,(aL p).1.kind≠2:= λp hpm e=>hn ⟨p,hpm,(ih p hpm (hp p hpm) (hz p hpm)).1 e⟩
   rw [fR h5,kS hz]at hk
   rw [kS hz]at h0'
   have hb: ∀t∈lH (iR c.parts),t.kind≠2:= λt ht=>by
    rw [dG,dH]at ht
    obtain⟨p,hpm,ht⟩:=ht
    exact oL (hz p hpm) (hn p hpm) t ht
   rcases uR hb h0' with⟨e1,e⟩|⟨y,e1,e⟩|⟨e,_⟩<;>rw [e]at hk
   ·exact absurd hk (by show (1:Int)≠2;decide)
   ·exact hb y (by rw [e1];simp) hk
   ·exact absurd hk (by show (5:Int)≠2;decide)
  ·rintro⟨p,hpm,hb⟩
   have hk:=(ih p hpm (hp p hpm) (hz p hpm)).2 hb
   rw [fR h5,kS hz]
   have e := aDt (s := lH (iR c.parts)) (λm hm => by
    rw [dG,dH]at hm
    obtain⟨q,hq,hm⟩:=hm
    exact zO (lQ q (hp q hq) (hz q hq)).ok hm) ⟨(aL p).1,by
     rw [dG,dH]
     refine⟨p,hpm, ?_⟩
     unfold bN
     rw [if_neg (by omega),if_neg (by omega)];simp,hk⟩
   rw [e];rfl
 ·by_cases h6:c.kind=6
  ·obtain⟨p,hps,hpo⟩:=aGx hok h6
   have hpm:p∈c.parts:=by rw [hps];simp
   rw [if_neg (by omega),if_pos (.inr h6),hps]
   have h0':=h0
   rw [iC h6 hps]at h0' |-
   have hl:aOm [p]=aRs p:=by simp [aOm]
   rw [hl]
   split
   ·rename_i hb
    rw [if_pos hb]at h0'
    exact ih p hpm hpo h0'
   ·rename_i hb
    have h1:(aL p).2=0:=by omega
    rw [<-ih p hpm hpo h1]
    constructor
    ·intro e;exact absurd e (by show (6:Int)≠2;decide)
    ·intro e;exact absurd (.inr e) hb
  ·rw [gA h5 h6]
   split
   ·rename_i h2;simp [h2]
   ·rename_i h2
    rw [if_neg (by omega)]
    simp [h2]
theorem aOz {g:Int->List UInt8->List UInt8}(hg:RenOK g): ∀c:Cn,Okn c->(aL c).2=0->(aL (cM g c)).2=0/\aL (cM g (aL c).1)=aL (cM g c):=by
 refine Cn.ind ?_
 intro c ih hok h0
 have hp:=((gL c).1 hok).2
 have hbotr:cM g (.mk 2 [] 0 0 [])= .mk 2 [] 0 0 []:=by rw [jI];rfl
 by_cases h5:c.kind=5
 ·have h0':=h0
  rw [fR h5]at h0'
  have hz:=jU h0'
  have hrz: ∀p∈c.parts,(aL (cM g p)).2=0:= λp hpm=>(ih p hpm (hp p hpm) (hz p hpm)).1
  have hre: ∀p∈c.parts,aL (cM g (aL p).1)=aL (cM g p):= λp hpm=>(ih p hpm (hp p hpm) (hz p hpm)).2
  have hr5:(cM g c).kind=5:=by rw [cO];exact h5
  have hzr: ∀p∈(cM g c).parts,(aL p).2=0:= λq hq=>by
   rw [cQ]at hq
   obtain⟨p,hpm,rfl⟩:=List.mem_map.1 hq
   exact hrz p hpm
  have hR:aL (cM g c)=eG (lH (iR (cM g c).parts)):=by rw [fR hr5,kS hzr]
  have hC:aL c=eG (lH (iR c.parts)):=by rw [fR h5,kS hz]
  by_cases hb:(aL c).1.kind=2
  ·have hcb:=(nE c hok h0).1 hb
   have e1:(aL c).1= .mk 2 [] 0 0 []:=xS (lQ c hok h0).ok hb
   -- a part is empty
   rw [xT,if_neg (by omega),if_pos (.inl h5),nP]at hcb
   obtain⟨p,hpm,hpb⟩:=hcb
   have hk:(aL (cM g p)).1.kind=2:=(nE _ (uJ hg p (hp p hpm)) (hrz p hpm)).2 (by rw [aGo];exact hpb)
   have e2:aL (cM g c)=(.mk 2 [] 0 0 [],0):=by
    rw [hR]
    refine aDt (λm hm=> ?_) ⟨(aL (cM g p)).1, ?_,hk⟩
    ·rw [dG,dH]at hm
     obtain⟨q,hq,hm⟩:=hm
     have hq':=hq
     rw [cQ]at hq
     obtain⟨q0,hq0,rfl⟩:=List.mem_map.1 hq
     exact zO (lQ _ (uJ hg q0 (hp q0 hq0)) (hrz q0 hq0)).ok hm
    ·rw [dG,dH]
     refine⟨cM g p,by rw [cQ];exact List.mem_map_of_mem hpm, ?_⟩
     unfold bN
     rw [if_neg (by omega),if_neg (by omega)];simp
   rw [e2,e1,hbotr]
   exact⟨rfl,gA (by show (2:Int)≠5;decide) (by show (2:Int)≠6;decide)⟩
  ·-- no part is empty
   have hnb : ∀ p ∈ c.parts, (aL p).1.kind ≠ 2 := λp hpm e => hb ((nE c hok h0).2 (by
    rw [xT,if_neg (by omega),if_pos (.inl h5),nP]
    exact⟨p,hpm,(nE p (hp p hpm) (hz p hpm)).1 e⟩))
   have hnr: ∀p∈c.parts,(aL (cM g p)).1.kind≠2:= λp hpm e=>by
    have h1:=(nE _ (uJ hg p (hp p hpm)) (hrz p hpm)).1 e
    rw [aGo]at h1
    exact hnb p hpm ((nE p (hp p hpm) (hz p hpm)).2 h1)
   obtain⟨S,hS⟩: ∃S,S=lH (iR c.parts):=⟨_,rfl⟩
   have hSm: ∀x,x∈S↔ ∃p∈c.parts,x∈bN (aL p).1:= λx=>by rw [hS,dG,dH]
   have hSb: ∀t∈S,t.kind≠2:= λt ht=>by
    obtain⟨p,hpm,ht⟩:=(hSm t).1 ht
    exact oL (hz p hpm) (hnb p hpm) t ht
   have hSk: ∀t∈S,t.kind≠1/\t.kind≠5:= λt ht=>by
    obtain⟨p,hpm,ht⟩:=(hSm t).1 ht
    exact xD p (hz p hpm) t ht
   -- the parts of the forms, renamed
   have hpart: ∀p∈c.parts,(∀q∈bN (aL p).1,(aL (cM g q)).2=0)/\ ∀x,x∈bN (aL (cM g p)).1↔ ∃q∈bN (aL p).1,x∈bN (aL (cM g q)).1:=by
    intro p hpm
    have e:=hre p hpm
    have z:=hrz p hpm
    have nb:=hnr p hpm
    rw [<-e]at z nb |-
    generalize (aL p).1=t at z nb |-
    unfold bN
    by_cases h1:t.kind=1
    ·rw [if_pos h1]
     refine⟨by simp,λx=> ?_⟩
     rw [gA (by rw [cO];omega) (by rw [cO];omega),if_pos (by rw [cO];exact h1)]
     simp
    ·rw [if_neg h1]
     by_cases ht5:t.kind=5
     ·rw [if_pos ht5]
      have hr5:(cM g t).kind=5:=by rw [cO];exact ht5
      have z':=z
      rw [fR hr5]at z'
      have hz':=jU z'
      rw [cQ]at hz'
      refine⟨λq hq=>hz' _ (List.mem_map_of_mem hq),λx=> ?_⟩
      have:=aMm hr5 z nb x
      unfold bN at this
      rw [this,cQ]
      constructor
      ·rintro⟨q,hq,hx⟩
       obtain⟨q0,hq0,rfl⟩:=List.mem_map.1 hq
       exact⟨q0,hq0,hx⟩
      ·rintro⟨q,hq,hx⟩
       exact⟨_,List.mem_map_of_mem hq,hx⟩
     ·rw [if_neg ht5]
      refine⟨λq hq=> ?_,λx=> ?_⟩
      ·simp only [List.mem_singleton]at hq
       subst hq;exact z
      ·simp
   have hSz: ∀q∈S,(aL (cM g q)).2=0:= λq hq=>by
    obtain⟨p,hpm,hq⟩:=(hSm q).1 hq
    exact(hpart p hpm).1 q hq
   have hU: ∀x,x∈iR (cM g c).parts↔x∈iR (S.map (cM g)):= λx=>by
    rw [dH,dH,cQ]
    constructor
    ·rintro⟨p,hpm,hx⟩
     obtain⟨p0,hp0,rfl⟩:=List.mem_map.1 hpm
     obtain⟨q,hq,hx⟩:=((hpart p0 hp0).2 x).1 hx
     exact⟨cM g q,List.mem_map_of_mem ((hSm q).2 ⟨p0,hp0,hq⟩),hx⟩
    ·rintro⟨q,hq,hx⟩
     obtain⟨q0,hq0,rfl⟩:=List.mem_map.1 hq
     obtain⟨p0,hp0,hq1⟩:=(hSm q0).1 hq0
     exact⟨cM g p0,List.mem_map_of_mem hp0,((hpart p0 hp0).2 x).2 ⟨q0,hq1,hx⟩⟩
   have hRS:aL (cM g c)=eG (lH (iR (S.map (cM g)))):=by rw [hR,aIq hU]
   -- each stands for one
   have hone: ∀q∈S,bN (aL (cM g q)).1=[(aL (cM g q)).1]:= λq hq=>by
    have hk:=hSk q hq
    have hk2:=hSb q hq
    have z:=hSz q hq
    by_cases h6:q.kind=6
    ·have hr6:(cM g q).kind=6:=by rw [cO];exact h6
     have:(aL (cM g q)).1.kind=6\/(aL (cM g q)).1.kind=2\/(aL (cM g q)).1.kind=0:=by
      rw [gT,if_pos hr6]at z |-
      cases hps:(cM g q).parts with
      |nil=>exact .inr (.inr rfl)
      |cons u r=>
       rw [hps]at z
       simp only [List.map_cons,vN]at z |-
       split
       ·rename_i hb2
        rw [if_pos hb2]at z
        rcases hb2 with hb2|hb2
        ·exact absurd z hb2
        ·exact .inr (.inl hb2)
       ·exact .inl rfl
     unfold bN
     rw [if_neg (by omega),if_neg (by omega)]
    ·rw [gA (by rw [cO];exact hk.2) (by rw [cO];exact h6)]
     unfold bN
     rw [if_neg (by rw [cO];exact hk.1),if_neg (by rw [cO];exact hk.2)]
   have hlen:(lH (iR (S.map (cM g)))).length<=S.length:=by
    have h1: ∀x∈lH (iR (S.map (cM g))),x∈S.map λq=>(aL (cM g q)).1:= λx hx=>by
     rw [dG,dH]at hx
     obtain⟨q,hq,hx⟩:=hx
     obtain⟨q0,hq0,rfl⟩:=List.mem_map.1 hq
     rw [hone q0 hq0,List.mem_singleton]at hx
     exact List.mem_map.2 ⟨q0,hq0,hx.symm⟩
    have:=List.Nodup.length_le_of_subset (aLp (qH _)) h1
    rwa [List.length_map]at this
   rw [hC,<-hS]at h0
   have hcS:(aL c).1=(eG S).1:=by rw [hC,<-hS]
   rw [hcS,hRS]
   rcases uR hSb h0 with⟨e1,e⟩|⟨x,e1,e⟩|⟨e,l2,l8⟩
   ·rw [e,e1]
    refine⟨pQ (by show (0:Nat)<=8;decide), ?_⟩
    rw [jI];rfl
   ·rw [e,e1]
    rw [e1]at hlen
    simp only [List.length_cons,List.length_nil]at hlen
    refine⟨pQ (by omega), ?_⟩
    have hx:x∈S:=by rw [e1];simp
    have z:=hSz x hx
    have e3:iR ([x].map (cM g))=[(aL (cM g x)).1]:=by
     have:=hone x hx
     simp [iR,this]
    rw [e3]
    have e4:lH [(aL (cM g x)).1]=[(aL (cM g x)).1]:=aM0 (by simp [aKs])
    rw [e4]
    unfold eG
    rw [show aL (cM g x)=((aL (cM g x)).1,0)from Prod.ext rfl z]
    split
    ·rename_i t ht
     have:=List.mem_of_find?_eq_some ht
     simp only [List.mem_singleton]at this
     rw [this]
    ·rfl
   ·rw [e]
    refine⟨pQ (by omega), ?_⟩
    rw [fR (by rw [cO];rfl),cQ]
    show jV ((S.map (cM g)).map aL)=_
    refine kS λq hq=> ?_
    obtain⟨q0,hq0,rfl⟩:=List.mem_map.1 hq
    exact hSz q0 hq0
 ·by_cases h6:c.kind=6
  ·obtain⟨p,hps,hpo⟩:=aGx hok h6
   have hpm:p∈c.parts:=by rw [hps];simp
   have hr6:(cM g c).kind=6:=by rw [cO];exact h6
   have hrp:(cM g c).parts=[cM g p]:=by rw [cQ,hps];rfl
   have h0':=h0
   rw [iC h6 hps]at h0'
   have hpz:(aL p).2=0:=by
    refine Classical.byContradiction λhn=> ?_
    rw [if_pos (.inl hn)]at h0'
    exact hn h0'
   obtain⟨i1,i2⟩:=ih p hpm hpo hpz
   have hz2:(aL (cM g c)).2=0:=by
    rw [iC hr6 hrp]
    split
    ·exact i1
    ·rfl
   refine⟨hz2, ?_⟩
   rw [iC h6 hps]
   split
   ·rename_i hb
    have hk:(aL p).1.kind=2:=hb.resolve_left (by omega)
    rw [i2,iC hr6 hrp,if_pos]
    right
    rw [<-i2,xS (lQ p hpo hpz).ok hk,hbotr,gA (by show (2:Int)≠5;decide) (by show (2:Int)≠6;decide)]
    rfl
   ·rename_i hb
    have e1:cM g (.mk 6 c.name 0 0 [(aL p).1])= .mk 6 (aOk g 6 c.name) 0 0 [cM g (aL p).1]:=by rw [jI];rfl
    rw [e1,iC (p:=cM g (aL p).1) rfl rfl,i2,iC hr6 hrp,aMh,h6]
    rfl
  ·rw [gA h5 h6,gA (by rw [cO];exact h5) (by rw [cO];exact h6)]
   exact⟨rfl,rfl⟩
end Go.Proofs.YtbobcfjlbcgchaaGreatDoor
namespace Go.Proofs.YtbobcfjlbcgchaaGreatDoor
open Go.Proofs
end Go.Proofs.YtbobcfjlbcgchaaGreatDoor
namespace Go.Proofs.YtbobcfjlbcgchaaGreatDoor
open Go.Proofs
theorem aSp (g:Int->List UInt8->List UInt8):cM g c0=c0:=by rw [jI];rfl
theorem zM {g:Int->List UInt8->List UInt8}{c:Cn}(h:fF c=true):fF (cM g c)=true:=by
 have e:=aQo h
 subst e
 rw [aSp];rfl
theorem aCh (g:Int->List UInt8->List UInt8): ∀c:Cn,cC (cM g c)=cC c:=by
 refine Cn.ind ?_
 intro c ih
 rw [aBs,aBs,cO,cQ]
 have:sV (c.parts.map (cM g))=sV c.parts:=by
  rw [Bool.eq_iff_iff,kG,kG]
  constructor
  ·rintro⟨p,hp,h⟩
   obtain⟨q,hq,rfl⟩:=List.mem_map.1 hp
   exact⟨q,hq,by rw [<-ih q hq];exact h⟩
  ·rintro⟨q,hq,h⟩
   exact⟨_,List.mem_map_of_mem hq,by rw [ih q hq];exact h⟩
 rw [this]
structure RenG (g:Int->List UInt8->List UInt8):Prop where
 ok:RenOK g
 nil: ∀k,g k []=[]
theorem aMe {g:Int->List UInt8->List UInt8}(hg:RenG g) {x:Ax}(h:bL x=0):bL (yA g x)=0:=by
 rw [kI]at h |-
 obtain⟨hk,hs,hn,hl,hr,hb⟩:=h
 have hkk:(yA g x).kind=x.kind:=rfl
 rw [hkk]
 generalize dB x.kind=u at *
 refine⟨hk, ?_, ?_,λh=>tG hg.ok (hl h),λh=>tG hg.ok (hr h), ?_⟩
 ·unfold bI at hs |-
  simp only [Bool.and_eq_true,Bool.or_eq_true,decide_eq_true_eq]at hs |-
  obtain⟨s1,s2,s3,s4,s5,s6,s7⟩:=hs
  refine⟨s1.imp id zM,s2.imp id zM,s3.imp id λe=> ?_,s4.imp id λe=> ?_,s5.imp id λe=> ?_, ?_, ?_⟩
  ·show g 2 x.role=[]
   rw [e,hg.nil]
  ·show g 4 x.a=[]
   rw [e,hg.nil]
  ·show g 4 x.b=[]
   rw [e,hg.nil]
  ·show u.least<=((x.roles.map (g 2)).length:Int)
   rw [List.length_map];exact s6
  ·show ((x.roles.map (g 2)).length:Int)<=u.most
   rw [List.length_map];exact s7
 ·have hn:(!((u.role && !dE x.role) || ((u.a && !fH x.a) || (u.b && !fH x.b))) && x.roles.all dE)=true:=hn
  show (!((u.role && !dE (g 2 x.role)) || ((u.a && !fH (g 4 x.a)) || (u.b && !fH (g 4 x.b)))) && (x.roles.map (g 2)).all dE)=true
  have h1:=hg.ok.plain 2 x.role
  have h2:=hg.ok.name 4 x.a
  have h3:=hg.ok.name 4 x.b
  rw [Bool.and_eq_true]at hn |-
  refine⟨?_, ?_⟩
  ·have hn:=hn.1
   revert hn h1 h2 h3
   cases u.role<;>cases u.a<;>cases u.b<;>cases dE x.role<;>cases fH x.a<;>cases fH x.b<;>simp<;>intros<;>simp_all
  ·rw [List.all_eq_true]at hn |-
   intro s hs
   obtain⟨r,hr,rfl⟩:=List.mem_map.1 hs
   exact hg.ok.plain 2 r (hn.2 r hr)
 ·have hb:(if x.kind=2 then (cC x.left || cC x.right)else if x.kind=1\/x.kind=4\/x.kind=8 then cC x.right else false)=false:=hb
  show (if x.kind=2 then (cC (cM g x.left) || cC (cM g x.right))else if x.kind=1\/x.kind=4\/x.kind=8 then cC (cM g x.right)else false)=false
  rw [aCh,aCh]
  exact hb
theorem aGe {g:Int->List UInt8->List UInt8}(hg:RenG g) {b:Bool}{c:Cn}(h:b=true->bK c=0) (h0:(bG b c).2=0):
  (bG b (cM g c)).2=0/\bG b (cM g (bG b c).1)=bG b (cM g c):=by
 unfold bG at h0 |-
 cases b with
 |false=>exact⟨rfl,rfl⟩
 |true=>
  simp only [if_true]at h0 |-
  exact aOz hg.ok c ((gJ c).1 (h rfl)).2.2 h0
theorem uF {x:Ax}(h:bL x=0):cJ x=oH (dB x.kind) x:=by unfold cJ;rw [if_neg (by omega)]
theorem aWs {k:Int}(h:k=2\/k=3):(dB k).left=(dB k).right:=by
 rcases h with h|h<;>rw [h]<;>rfl
theorem uE {u:Use}{x:Ax}(h1:(bG u.left x.left).2=0) (h2:(bG u.right x.right).2=0):oH u x=if (x.kind=2\/x.kind=3)/\0 < iT (bG u.left x.left).1 (bG u.right x.right).1 then ({ x with left:=(bG u.right x.right).1,right:=(bG u.left x.left).1 },0)else ({ x with left:=(bG u.left x.left).1,right:=(bG u.right x.right).1 },0):=by
 unfold oH
 rw [if_neg (by omega),if_neg (by omega)]
theorem aIi {u:Use}{x:Ax}(h:(oH u x).2=0):(bG u.left x.left).2=0/\(bG u.right x.right).2=0:=by
 unfold oH at h
 split at h
 ·rename_i h1;exact absurd h h1
 ·rename_i h1
  split at h
  ·rename_i h2;exact absurd h h2
  ·rename_i h2;exact⟨by omega,by omega⟩
theorem aLh {g:Int->List UInt8->List UInt8}(hg:RenG g) {x:Ax}(h0:(cJ x).2=0):(cJ (yA g x)).2=0/\cJ (yA g (cJ x).1)=cJ (yA g x):=by
 obtain⟨hE,hE2,_⟩:=aKd h0
 have ho:=(kI x).1 hE
 have hR:=aMe hg hE
 have hR2:=aMe hg hE2
 have hu:(yA g x).kind=x.kind:=rfl
 rw [uF hE]at h0
 rw [uF hR,uF hR2,uF hE,hu]
 have hk23:= λh=>aWs (k:=x.kind) h
 obtain⟨z1,z2⟩:=aIi h0
 obtain⟨l1,l2⟩:=aGe hg ho.left z1
 obtain⟨r1,r2⟩:=aGe hg ho.right z2
 have eR:=uE (u:=dB x.kind) (x:=yA g x) l1 r1
 have e0:=uE z1 z2
 have hz:(oH (dB x.kind) (yA g x)).2=0:=by
  rw [eR];split<;>rfl
 refine⟨hz, ?_⟩
 have kk:(oH (dB x.kind) x).1.kind=x.kind:=by rw [e0];split<;>rfl
 have kk2:(yA g (oH (dB x.kind) x).1).kind=x.kind:=kk
 rw [kk2]
 generalize dB x.kind=u at *
 have el:(yA g x).left=cM g x.left:=rfl
 have er:(yA g x).right=cM g x.right:=rfl
 have ek:(yA g x).kind=x.kind:=rfl
 rw [eR,el,er,ek]
 rw [e0]
 split
 ·rename_i hc
  have hsame:=hk23 hc.1
  -- swapped: the sides come the other way round
  have f1:(bG u.left (cM g (bG u.right x.right).1))=bG u.right (cM g x.right):=by rw [hsame];exact r2
  have f2:(bG u.right (cM g (bG u.left x.left).1))=bG u.left (cM g x.left):=by rw [<-hsame];exact l2
  generalize hL:bG u.left (cM g x.left)=L at *
  generalize hRr:bG u.right (cM g x.right)=R at *
  obtain⟨L,le⟩:=L
  obtain⟨R,re⟩:=R
  dsimp only at l1 r1
  subst l1 r1
  rw [uE (u:=u) (x:=yA g { x with left:=(bG u.right x.right).1,right:=(bG u.left x.left).1 }) (by show (bG u.left (cM g (bG u.right x.right).1)).2=0;rw [f1]) (by show (bG u.right (cM g (bG u.left x.left).1)).2=0;rw [f2])]
  show (if (x.kind=2\/x.kind=3)/\0 < iT (bG u.left (cM g (bG u.right x.right).1)).1 (bG u.right (cM g (bG u.left x.left).1)).1 then _ else _)=_
  have a1:=dJ L R
  have g1:(yA g { x with left:=(bG u.right x.right).1,right:=(bG u.left x.left).1 }).left=cM g (bG u.right x.right).1:=rfl
  have g2:(yA g { x with left:=(bG u.right x.right).1,right:=(bG u.left x.left).1 }).right=cM g (bG u.left x.left).1:=rfl
  rw [g1,g2,f1,f2]
  dsimp only
  by_cases c1:0 < iT R L
  ·rw [if_pos ⟨hc.1,c1⟩,if_neg (λh=>by have:=h.2;omega)]
   rfl
  ·rw [if_neg (λh=>c1 h.2)]
   by_cases c2:0 < iT L R
   ·rw [if_pos ⟨hc.1,c2⟩]
    rfl
   ·have e:L=R:=mU.1 (by omega)
    rw [if_neg (λh=>c2 h.2),e]
    rfl
 ·rename_i hc
  rw [uE (u:=u) (x:=yA g { x with left:=(bG u.left x.left).1,right:=(bG u.right x.right).1 }) (by show (bG u.left (cM g (bG u.left x.left).1)).2=0;rw [l2];exact l1) (by show (bG u.right (cM g (bG u.right x.right).1)).2=0;rw [r2];exact r1)]
  have g1:(yA g { x with left:=(bG u.left x.left).1,right:=(bG u.right x.right).1 }).left=cM g (bG u.left x.left).1:=rfl
  have g2:(yA g { x with left:=(bG u.left x.left).1,right:=(bG u.right x.right).1 }).right=cM g (bG u.right x.right).1:=rfl
  have g3:(yA g { x with left:=(bG u.left x.left).1,right:=(bG u.right x.right).1 }).kind=x.kind:=rfl
  rw [g1,g2,g3,l2,r2]
  rfl
theorem aCg {g:Int->List UInt8->List UInt8}: ∀c:Cn,(∀s,(nZ 3 c s->g 1 s=s)/\(nZ 6 c s->g 2 s=s)/\(nZ 7 c s->g 3 s=s)/\(nZ 4 c s->g 4 s=s))->cM g c=c:=by
 refine Cn.ind ?_
 intro c ih h
 have hp:c.parts.map (cM g)=c.parts:=by
  have: ∀p∈c.parts,cM g p=p:= λp hp=>ih p hp λs=>
   ⟨λhk=>(h s).1 ((dP 3 c s).2 (.inr ⟨p,hp,hk⟩)),λhk=>(h s).2.1 ((dP 6 c s).2 (.inr ⟨p,hp,hk⟩)),λhk=>(h s).2.2.1 ((dP 7 c s).2 (.inr ⟨p,hp,hk⟩)),λhk=>(h s).2.2.2 ((dP 4 c s).2 (.inr ⟨p,hp,hk⟩))⟩
  exact(List.map_congr_left this).trans (List.map_id' _)
 have hn:aOk g c.kind c.name=c.name:=by
  unfold aOk
  split
  ·rename_i hk;exact(h c.name).1 ((dP 3 c _).2 (.inl ⟨hk,rfl⟩))
  ·split
   ·rename_i hk;exact(h c.name).2.1 ((dP 6 c _).2 (.inl ⟨hk,rfl⟩))
   ·split
    ·rename_i hk;exact(h c.name).2.2.1 ((dP 7 c _).2 (.inl ⟨hk,rfl⟩))
    ·split
     ·rename_i hk;exact(h c.name).2.2.2 ((dP 4 c _).2 (.inl ⟨hk,rfl⟩))
     ·rfl
 rw [jI,hp,hn]
 cases c;rfl
theorem aMd {g:Int->List UInt8->List UInt8}{x:Ax}(h1: ∀s,axA x s->g 1 s=s) (h2: ∀s,axB x s->g 2 s=s) (h3: ∀s,axC x s->g 3 s=s) (h4: ∀s,axD x s->g 4 s=s):yA g x=x:=by
 have el:cM g x.left=x.left:=aCg _ λs=>⟨λh=>h1 s (.inl h),λh=>h2 s (.inl h),λh=>h3 s (.inl h),λh=>h4 s (.inl h)⟩
 have er:cM g x.right=x.right:=aCg _ λs=>⟨λh=>h1 s (.inr h),λh=>h2 s (.inr (.inl h)),λh=>h3 s (.inr h),λh=>h4 s (.inr (.inl h))⟩
 have eo:x.roles.map (g 2)=x.roles:=(List.map_congr_left λs hs=>h2 s (.inr (.inr (.inl hs)))).trans (List.map_id' _)
 unfold yA
 rw [el,er,eo,h2 x.role (.inr (.inr (.inr rfl))),h4 x.a (.inr (.inr (.inl rfl))),h4 x.b (.inr (.inr (.inr rfl)))]
theorem aMf (x:Ax):yA (λ_ s=>s) x=x:=aMd (λ_ _=>rfl) (λ_ _=>rfl) (λ_ _=>rfl) λ_ _=>rfl
theorem aSq:RenG λ_ s=>s:=⟨⟨λ_ _ h=>h,λ_ _ h=>h⟩,λ_=>rfl⟩
theorem aEh {x:Ax}(h0:(cJ x).2=0):cJ (cJ x).1=((cJ x).1,0):=by
 have h:=(aLh aSq h0).2
 rw [aMf,aMf]at h
 rw [h]
 exact Prod.ext rfl h0
end Go.Proofs.YtbobcfjlbcgchaaGreatDoor
namespace Go.Proofs.YtbobcfjlbcgchaaGreatDoor
open Go.Proofs
end Go.Proofs.YtbobcfjlbcgchaaGreatDoor
namespace Go.Proofs.YtbobcfjlbcgchaaGreatDoor
open Go.Proofs
theorem eZ (x:Ax):cS x x=0:=by have:=kX.anti x x;omega
theorem aO5 (x:Ax):¬ cS x x < 0:=by rw [eZ];omega
theorem uS {x y z:Ax}(h1:cS x y < 0) (h2:cS y z < 0):cS x z < 0:=(kX.t3 x y z).1 h1 h2
def erA (x:Ax):Ax:={ x with isopen:=false }
theorem eD {x y:Ax}:cS x y=0↔erA x=erA y:=by
 rw [aK9]
 constructor
 ·intro h;rw [h];rfl
 ·intro h
  obtain⟨k,o,l,r,rs,ro,a,b⟩:=x
  obtain⟨k',o',l',r',rs',ro',a',b'⟩:=y
  simp only [erA,Ax.mk.injEq]at h |-
  obtain⟨h1,_,h2⟩:=h
  exact⟨h1,trivial,h2⟩
theorem aRp (x y:Ax):cS (erA x) (erA y)=cS x y:=rfl
theorem aHk {x y:Ax}(h:erA x=erA y) (ho:x.isopen=y.isopen):x=y:=by
 obtain⟨k,o,l,r,rs,ro,a,b⟩:=x
 obtain⟨k',o',l',r',rs',ro',a',b'⟩:=y
 simp only [erA,Ax.mk.injEq]at h |-
 obtain⟨h1,_,h2⟩:=h
 exact⟨h1,ho,h2⟩
theorem mT {x y x' y':Ax}(h1:erA x=erA x') (h2:erA y=erA y'):cS x y=cS x' y':=by rw [<-aRp,h1,h2,aRp]
def eqA (x y:Ax):Bool:=decide (x.isopen=y.isopen) && decide (cS x y=0)
theorem aFo {x y:Ax}:eqA x y=true↔x=y:=by
 unfold eqA
 rw [Bool.and_eq_true,decide_eq_true_eq,decide_eq_true_eq,eD]
 exact⟨λh=>aHk h.2 h.1,λh=>by rw [h];exact⟨rfl,rfl⟩⟩
abbrev aRz (l:List Ax):Prop:=l.Pairwise λx y=>cS x y < 0
theorem aEl {l m:List Ax}(h1:aRz l) (h2:aRz m) (h: ∀x,x∈l↔x∈m):l=m:=aCk (R:= λx y=>cS x y < 0) aO5 (λx y z=>uS) h1 h2 h
structure NewOf (tl b:List Ax):Prop where
 str:aRz b
 mem: ∀x∈b,∃y∈tl,cS x y=0
 all: ∀y∈tl,∃x∈b,cS x y=0
 opn: ∀x∈b,(x.isopen=true↔ ∃y∈tl,cS x y=0/\y.isopen=true)
theorem NewOf.congr {tl tl' b:List Ax}(h:NewOf tl b) (he: ∀x,x∈tl↔x∈tl'):NewOf tl' b where
 str:=h.str
 mem:= λx hx=>by obtain⟨y,h1,h2⟩:=h.mem x hx;exact⟨y,(he y).1 h1,h2⟩
 all:= λy hy=>h.all y ((he y).2 hy)
 opn:= λx hx=>(h.opn x hx).trans ⟨λ⟨y,h1,h2⟩=>⟨y,(he y).1 h1,h2⟩,λ⟨y,h1,h2⟩=>⟨y,(he y).2 h1,h2⟩⟩
theorem NewOf.sub {tl b b':List Ax}(h:NewOf tl b) (h':NewOf tl b'): ∀x∈b,x∈b':=by
 intro x hx
 obtain⟨y,hy,e⟩:=h.mem x hx
 obtain⟨x',hx',e'⟩:=h'.all y hy
 have he:erA x=erA x':=(eD.1 e).trans (eD.1 e').symm
 have ho:x.isopen=x'.isopen:=by
  rw [Bool.eq_iff_iff,h.opn x hx,h'.opn x' hx']
  exact⟨λ⟨z,h1,h2,h3⟩=>⟨z,h1,by rw [eD,<-he];exact eD.1 h2,h3⟩,λ⟨z,h1,h2,h3⟩=>⟨z,h1,by rw [eD,he];exact eD.1 h2,h3⟩⟩
 rw [aHk he ho]
 exact hx'
theorem NewOf.unique {tl b b':List Ax}(h:NewOf tl b) (h':NewOf tl b'):b=b':=aEl h.str h'.str λx=>⟨h.sub h' x,h'.sub h x⟩
def mL (b:List Ax) (a:Ax):List Ax:=
 match b.getLast? with
 |some z=>if cS z a=0 then b.dropLast++[{ z with isopen:=z.isopen || a.isopen }]else b++[a]
 |none=>[a]
def jS (l:List Ax):List Ax:=l.foldl mL []
theorem zV (l:List Ax) (a:Ax):jS (l++[a])=mL (jS l) a:=by simp [jS]
theorem aJf {l:List Ax}{j:Nat}(h:j < l.length):jS (l.take (j+1))=mL (jS (l.take j)) l[j]:=by
 rw [List.take_succ_eq_append_getElem h,zV]
theorem aMz (b:List Ax) (a:Ax):(mL b a).length<=b.length+1:=by
 unfold mL
 split
 ·split
  ·simp only [List.length_append,List.length_dropLast,List.length_singleton];omega
  ·simp
 ·simp
theorem aN1: ∀(l:List Ax),(jS l).length<=l.length:=by
 intro l
 have key: ∀(l b:List Ax),(l.foldl mL b).length<=b.length+l.length:=by
  intro l
  induction l with
  |nil=>intro b;simp
  |cons a r ih=>
   intro b
   have h1:=ih (mL b a)
   have h2:=aMz b a
   rw [List.foldl_cons,List.length_cons];omega
 have:=key l []
 simpa [jS]using this
theorem aH7: ∀(n:Nat) (l:List Ax),l.length=n->(l.Pairwise λx y=>¬ cS y x < 0)->NewOf l (jS l):=by
 intro n
 induction n with
 |zero=>
  intro l hl _
  have:l=[]:=List.length_eq_zero_iff.1 hl
  subst this
  exact⟨.nil,by simp [jS],by simp,by simp [jS]⟩
 |succ n ih=>
  intro l hl hs
  obtain⟨l',a,rfl⟩: ∃l' a,l=l'++[a]:=by
   rcases List.eq_nil_or_concat l with h|⟨l',a,h⟩
   ·rw [h]at hl;simp at hl
   ·exact⟨l',a,by rw [h,List.concat_eq_append]⟩
  rw [List.pairwise_append]at hs
  obtain⟨s1,_,s2⟩:=hs
  have h:=ih l' (by simpa using hl) s1
  rw [zV]
  generalize jS l'=b at h
  -- all of b is at most a
  have hle: ∀x∈b,cS x a<=0:=by
   intro x hx
   obtain⟨y,hy,e⟩:=h.mem x hx
   have h1:=s2 y hy a (by simp)
   have h2:=kX.anti y a
   rw [mT (eD.1 e) rfl]
   omega
  unfold mL
  rcases List.eq_nil_or_concat b with hb|⟨b0,z,hb⟩
  ·subst hb
   have hl':l'=[]:=by
    cases l' with
    |nil=>rfl
    |cons y r=>obtain⟨x,hx,_⟩:=h.all y (by simp);cases hx
   subst hl'
   refine⟨by simp,λx hx=>⟨a,by simp, ?_⟩,λy hy=>⟨a,by simp, ?_⟩,λx hx=> ?_⟩
   ·simp at hx;subst hx;exact eZ _
   ·simp at hy;subst hy;exact eZ _
   ·simp at hx;subst hx
    simp [eZ]
  ·rw [List.concat_eq_append]at hb
   subst hb
   simp only [List.getLast?_append,List.getLast?_singleton,Option.some_or,List.dropLast_concat]
   have hst:=h.str
   rw [aRz,List.pairwise_append]at hst
   obtain⟨t1,_,t2⟩:=hst
   by_cases hz:cS z a=0
   ·rw [if_pos hz]
    have hez:erA { z with isopen:=z.isopen || a.isopen }=erA z:=rfl
    have hza:erA z=erA a:=eD.1 hz
    refine⟨?_, ?_, ?_, ?_⟩
    ·rw [aRz,List.pairwise_append]
     exact⟨t1,by simp,λx hx y hy=>by simp at hy;subst hy;exact t2 x hx z (by simp)⟩
    ·intro x hx
     rcases List.mem_append.1 hx with hx|hx
     ·obtain⟨y,hy,e⟩:=h.mem x (List.mem_append_left _ hx)
      exact⟨y,List.mem_append_left _ hy,e⟩
     ·simp at hx;subst hx
      exact⟨a,by simp,hz⟩
    ·intro y hy
     rcases List.mem_append.1 hy with hy|hy
     ·obtain⟨x,hx,e⟩:=h.all y hy
      rcases List.mem_append.1 hx with hx|hx
      ·exact⟨x,List.mem_append_left _ hx,e⟩
      ·simp at hx;subst hx
       exact⟨_,List.mem_append_right _ (List.mem_singleton.2 rfl),e⟩
     ·simp at hy;subst hy
      exact⟨_,List.mem_append_right _ (List.mem_singleton.2 rfl),hz⟩
    ·intro x hx
     rcases List.mem_append.1 hx with hx2|hx
     ·rw [h.opn x (List.mem_append_left _ hx2)]
      constructor
      ·rintro⟨y,h1,h2,h3⟩;exact⟨y,List.mem_append_left _ h1,h2,h3⟩
      ·rintro⟨y,h1,h2,h3⟩
       rcases List.mem_append.1 h1 with h1|h1
       ·exact⟨y,h1,h2,h3⟩
       ·simp at h1;subst h1
        have h4:=t2 x hx2 z (by simp)
        rw [mT rfl hza]at h4
        omega
     ·simp at hx;subst hx
      have h1:=h.opn z (by simp)
      constructor
      ·intro ho
       rcases Bool.or_eq_true _ _ ▸ ho with ho|ho
       ·obtain⟨y,q1,q2,q3⟩:=h1.1 ho
        exact⟨y,List.mem_append_left _ q1,q2,q3⟩
       ·exact⟨a,by simp,hz,ho⟩
      ·rintro⟨y,q1,q2,q3⟩
       show (z.isopen || a.isopen)=true
       rw [Bool.or_eq_true]
       rcases List.mem_append.1 q1 with q1|q1
       ·exact .inl (h1.2 ⟨y,q1,q2,q3⟩)
       ·simp at q1;subst q1;exact .inr q3
   ·rw [if_neg hz]
    have hlt:cS z a < 0:=by have:=hle z (by simp);omega
    have hall: ∀x∈b0++[z],cS x a < 0:=by
     intro x hx
     rcases List.mem_append.1 hx with hx|hx
     ·exact uS (t2 x hx z (by simp)) hlt
     ·simp at hx;subst hx;exact hlt
    refine⟨?_, ?_, ?_, ?_⟩
    ·rw [aRz,List.pairwise_append]
     exact⟨h.str,by simp,λx hx y hy=>by simp at hy;subst hy;exact hall x hx⟩
    ·intro x hx
     rcases List.mem_append.1 hx with hx|hx
     ·obtain⟨y,hy,e⟩:=h.mem x hx
      exact⟨y,List.mem_append_left _ hy,e⟩
     ·simp at hx;subst hx
      exact⟨x,by simp,eZ _⟩
    ·intro y hy
     rcases List.mem_append.1 hy with hy|hy
     ·obtain⟨x,hx,e⟩:=h.all y hy
      exact⟨x,List.mem_append_left _ hx,e⟩
     ·simp at hy;subst hy
      exact⟨y,by simp,eZ _⟩
    ·intro x hx
     rcases List.mem_append.1 hx with hx2|hx
     ·rw [h.opn x hx2]
      constructor
      ·rintro⟨y,h1,h2,h3⟩;exact⟨y,List.mem_append_left _ h1,h2,h3⟩
      ·rintro⟨y,h1,h2,h3⟩
       rcases List.mem_append.1 h1 with h1|h1
       ·exact⟨y,h1,h2,h3⟩
       ·simp at h1;subst h1
        have:=hall x hx2;omega
     ·simp at hx;subst hx
      constructor
      ·intro ho;exact⟨x,by simp,eZ _,ho⟩
      ·rintro⟨y,h1,h2,h3⟩
       rcases List.mem_append.1 h1 with h1|h1
       ·obtain⟨x',q1,q2⟩:=h.all y h1
        have h4:=hall x' q1
        rw [mT ((eD.1 q2).trans (eD.1 h2).symm) rfl,eZ]at h4
        omega
       ·simp at h1;subst h1;exact h3
theorem aSk (l:List Ax):(l.mergeSort λx y=>decide (cS x y<=0)).Pairwise λx y=>¬ cS y x < 0:=by
 have h := List.pairwise_mergeSort (le := λx y => decide (cS x y <= 0)) (λa b c h1 h2 => by
  have h1:=of_decide_eq_true h1
  have h2:=of_decide_eq_true h2
  refine decide_eq_true ?_
  rcases Int.lt_or_eq_of_le h1 with h1|h1
  ·rcases Int.lt_or_eq_of_le h2 with h2|h2
   ·have:=uS h1 h2;omega
   ·rw [<-mT rfl (eD.1 h2)];omega
  ·rw [mT (eD.1 h1) rfl];exact h2) (λa b=>by
  have:=kX.anti a b
  by_cases h:cS a b<=0
  ·simp [h]
  ·have:cS b a<=0:=by omega
   simp [this]) l
 refine h.imp λ{x y} h=> ?_
 have h:=of_decide_eq_true h
 have:=kX.anti x y
 omega
def aKo (tl:List Ax):List Ax:=jS (tl.mergeSort λx y=>decide (cS x y<=0))
theorem aBb (tl:List Ax):NewOf tl (aKo tl):=(aH7 _ _ rfl (aSk tl)).congr λx=>(List.mergeSort_perm tl _).mem_iff
theorem aQ8 {tl S:List Ax}(hp:S.Perm tl) (hs:S.Pairwise λx y=>¬ cS y x < 0):jS S=aKo tl:=
 ((aH7 _ _ rfl hs).congr λx=>hp.mem_iff).unique (aBb tl)
theorem aT9 {tl tl':List Ax}(h: ∀x,x∈tl↔x∈tl'):aKo tl=aKo tl':=((aBb tl).congr h).unique (aBb tl')
def aIu (x:Ax):Bool:=decide (x.kind=5) || (decide (x.kind=6) || decide (x.kind=7))
def lE:List Ax->Int
 | []=>0
 |x::r=>if (cJ x).2≠0 then (cJ x).2 else if eqA x (cJ x).1=false then 22 else lE r
def iF:List Ax->Bool
 |x::y::r=>decide (cS x y= -1) && iF (y::r)
 |_=>true
def iG (x:Ax):Bool:=aIu x && !x.isopen
noncomputable def dT (l:List Ax):Int:=
 if lE l≠0 then lE l else if iF l=false then 70 else if 1024 < l.length then 2 else if l.any iG=true then 71 else lW l
theorem nN: ∀(l:List Ax),lE l=0↔ ∀x∈l,cJ x=(x,0)
 | []=>by simp [lE]
 |x::r=>by
  rw [lE]
  have ih:=nN r
  constructor
  ·intro h y hy
   split at h
   ·rename_i h1;exact absurd h h1
   ·rename_i h1
    split at h
    ·simp at h
    ·rename_i h2
     rcases List.mem_cons.1 hy with rfl|hy
     ·have:=aFo.1 (by simpa using h2:eqA y (cJ y).1=true)
      exact Prod.ext this.symm (by simpa using h1)
     ·exact ih.1 h y hy
  ·intro h
   have hx:=h x (by simp)
   rw [if_neg (by rw [hx];simp),if_neg (by rw [hx,aFo.2 rfl];simp)]
   exact ih.2 λy hy=>h y (List.mem_cons_of_mem _ hy)
theorem oI: ∀(l:List Ax),iF l=true↔aRz l
 | []=>by simp [iF]
 | [x]=>by simp [iF]
 |x::y::r=>by
  rw [iF,Bool.and_eq_true,decide_eq_true_eq,oI (y::r)]
  constructor
  ·rintro⟨h1,h2⟩
   refine List.pairwise_cons.2 ⟨λz hz=> ?_,h2⟩
   rcases List.mem_cons.1 hz with rfl|hz
   ·omega
   ·exact uS (by omega) ((List.pairwise_cons.1 h2).1 z hz)
  ·intro h
   obtain⟨h1,h2⟩:=List.pairwise_cons.1 h
   have:=h1 y (by simp)
   have:=kX.rng x y
   exact⟨by omega,h2⟩
structure BaseOk (l:List Ax):Prop where
 tidy: ∀x∈l,cJ x=(x,0)
 str:aRz l
 few:l.length<=1024
 open_: ∀x∈l,aIu x=true->x.isopen=true
 circ:¬ nR (ET (gB l))
theorem fK {x:Ax}(h:(cJ x).2=0):bL x=0:=by
 unfold cJ at h
 split at h
 ·rename_i h1;exact absurd h h1
 ·rename_i h1;simpa using h1
theorem vU {l:List Ax}(h: ∀x∈l,bL x=0):lW l=0↔¬ nR (ET (gB l)):=by
 unfold lW
 rw [if_neg (by rw [xG h];simp)]
 split
 ·rename_i h1;simp [h1]
 ·rename_i h1;simp [h1]
theorem sT (l:List Ax):dT l=0↔BaseOk l:=by
 unfold dT
 constructor
 ·intro h
  split at h
  ·rename_i h1;exact absurd h h1
  ·rename_i h1
   have h1:=(nN l).1 (by simpa using h1)
   split at h
   ·simp at h
   ·rename_i h2
    have h2:=(oI l).1 (by simpa using h2)
    split at h
    ·simp at h
    ·rename_i h3
     split at h
     ·simp at h
     ·rename_i h4
      refine⟨h1,h2,by omega,λx hx hr=> ?_,(vU λx hx=>fK (by rw [h1 x hx])).1 h⟩
      refine Decidable.byContradiction λho=>h4 (List.any_eq_true.2 ⟨x,hx, ?_⟩)
      unfold iG
      rw [hr]
      simpa using ho
 ·rintro⟨h1,h2,h3,h4,h5⟩
  rw [if_neg (by rw [(nN l).2 h1];simp),if_neg (by rw [(oI l).2 h2];simp),if_neg (by omega),if_neg ?_]
  ·exact(vU λx hx=>fK (by rw [h1 x hx])).2 h5
  ·intro h
   obtain⟨x,hx,hs⟩:=List.any_eq_true.1 h
   unfold iG at hs
   rw [Bool.and_eq_true]at hs
   have:=h4 x hx hs.1
   rw [this]at hs
   exact absurd hs.2 (by decide)
def aC8:List Ax->Int
 | []=>0
 |x::r=>if (cJ x).2≠0 then (cJ x).2 else aC8 r
def rZ (l:List Ax):List Ax:=l.map λx=>(cJ x).1
noncomputable def uM (l:List Ax):List Ax×Int:=
 if aC8 l≠0 then ([],aC8 l)else if dT (aKo (rZ l))≠0 then ([],dT (aKo (rZ l)))else (aKo (rZ l),0)
theorem qA: ∀(l:List Ax),aC8 l=0↔ ∀x∈l,(cJ x).2=0
 | []=>by simp [aC8]
 |x::r=>by
  rw [aC8]
  have ih:=qA r
  constructor
  ·intro h y hy
   split at h
   ·rename_i h1;exact absurd h h1
   ·rename_i h1
    rcases List.mem_cons.1 hy with rfl|hy
    ·simpa using h1
    ·exact ih.1 h y hy
  ·intro h
   rw [if_neg (by simp [h x (by simp)])]
   exact ih.2 λy hy=>h y (List.mem_cons_of_mem _ hy)
theorem aG4: ∀{l:List Ax}{j:Nat}(h:j < l.length),(∀x∈l.take j,(cJ x).2=0)->(cJ l[j]).2≠0->aC8 l=(cJ l[j]).2
 |x::r,0,_,_,h=>by rw [aC8];exact if_pos h
 |x::r,j+1,hl,hz,h=>by
  rw [aC8,if_neg (by simp [hz x (by simp)])]
  exact aG4 (l:=r) (j:=j) (by simpa using hl) (λy hy=>hz y (by rw [List.take_succ_cons];exact List.mem_cons_of_mem _ hy)) h
theorem aV9 {l:List Ax}(h:(uM l).2=0):(∀x∈l,(cJ x).2=0)/\BaseOk (uM l).1/\NewOf (rZ l) (uM l).1:=by
 unfold uM at h |-
 split at h
 ·rename_i h1;exact absurd h h1
 ·rename_i h1
  split at h
  ·rename_i h2;exact absurd h h2
  ·rename_i h2
   rw [if_neg h1,if_neg h2]
   exact⟨(qA l).1 (by simpa using h1),(sT _).1 (by simpa using h2),aBb _⟩
end Go.Proofs.YtbobcfjlbcgchaaGreatDoor
namespace Go.Proofs.YtbobcfjlbcgchaaGreatDoor
open Go.Proofs
set_option maxRecDepth 10000
attribute [local irreducible] aJ aF Tri aG YVC bS aQ
abbrev aR2 (l:List Ax):D:= .agg [.sl 16 (l.map axR)]
theorem aLq {x:Ax}(h:bL x=0):SmA x:=by
 obtain⟨h1,h2,h3⟩:=sW h
 exact⟨by omega,by omega,by omega⟩
theorem aGc {x:Ax}(h:(cJ x).2=0):SmA (cJ x).1:=aLq (fK (by rw [aEh h]))
theorem aD3 (x y:Ax) (hx:SmA x) (hy:SmA y):Tri Tryz.prog 35 [.d (.agg (axR x)), .d (.agg (axR y))] [] (λr=>r= .d (.bool (decide (cS x y=0)))):=by
 have c:=fQ x y hx.1 hx.2.1 hx.2.2 hy.1 hy.2.1 hy.2.2
 refine aH false [2,3] hty Tryz.func35 rfl (kp [0,1,2,3,4]) [] _ _ _ (by simp [Tryz.f35]) (by simp) ?_
 generalize cS x y=v at *
 ((conv=>whnf);repeat' ((first|(intro hq;(try simp only [lnS]at hq);(try rewrite [List.length_map]))|refine sJ ?_|refine .intro _ (.intro rfl ?_)|refine exL (k:= ?_)|(refine aD [] c trivial (λr hs=> ?_);subst hs)|refine dwR ?_|((first|refine aA ?_ ?_|refine aC ?_ ?_)<;>intro hb<;>(first|exact ddX hb|try simp only [lnS]at hb))|(refine aB ?_ ?_<;>intro hb<;>try exact dsX hb))<;>(conv=>whnf)))
 rfl
theorem aK2 (x y:Ax) (hx:SmA x) (hy:SmA y):Tri Tryz.prog 58 [.d (.agg (axR x)), .d (.agg (axR y))] [] (λr=>r= .d (.bool (eqA x y))):=by
 have c:=aD3 x y hx hy
 have hv:eqA x y=(decide (x.isopen=y.isopen) && decide (cS x y=0)):=rfl
 rw [hv]
 generalize decide (cS x y=0)=v at *
 clear hv
 obtain⟨k,o,a1,a2,a3,a4,a5,a6⟩:=x
 obtain⟨k',o',b1,b2,b3,b4,b5,b6⟩:=y
 cases o<;>cases o'
 all_goals
  refine aH false [2,3] hty Tryz.func58 rfl (kp [0,1,2,3,4]) [] _ _ _ (by simp [Tryz.f58]) (by simp) ?_
  ((conv=>whnf);repeat' ((first|(intro hq;(try simp only [lnS]at hq);(try rewrite [List.length_map]))|refine sJ ?_|refine .intro _ (.intro rfl ?_)|refine exL (k:= ?_)|(refine aD [] c trivial (λr hs=> ?_);subst hs)|refine dwR ?_|((first|refine aA ?_ ?_|refine aC ?_ ?_)<;>intro hb<;>(first|exact ddX hb|try simp only [lnS]at hb))|(refine aB ?_ ?_<;>intro hb<;>try exact dsX hb))<;>(conv=>whnf)))
 all_goals rfl
theorem aFe (x:Ax):Tri Tryz.prog 59 [.d (.agg (axR x))] [] (λr=>r= .d (.bool (aIu x))):=by
 unfold aIu
 refine aH false [1] hty Tryz.func59 rfl (kp [0,1,2]) [] _ _ _ (by simp [Tryz.f59]) (by simp) ?_
 ((conv=>whnf);repeat' ((first|(intro hq;(try simp only [lnS]at hq);(try rewrite [List.length_map]))|refine sJ ?_|refine .intro _ (.intro rfl ?_)|refine exL (k:= ?_)|refine dwR ?_|((first|refine aA ?_ ?_|refine aC ?_ ?_)<;>intro hb<;>(first|exact ddX hb|try simp only [lnS]at hb))|(refine aB ?_ ?_<;>intro hb<;>try exact dsX hb))<;>(conv=>whnf)))
 all_goals (refine bQ ?_;simp [*])
end Go.Proofs.YtbobcfjlbcgchaaGreatDoor
