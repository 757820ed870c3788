/-
  BasePartsSpec, walked.
  Conditions: none.
-/
import Derived.Test.YtfhoddcminbffaaGreatDoorMJla
import Derived.Test.YtfhoddcminbffaaGreatDoorMJq
set_option linter.unnecessarySimpa false
set_option linter.unusedSectionVars false
set_option linter.unusedSimpArgs false
set_option linter.unusedVariables false
set_option maxHeartbeats 32000000
namespace Go.Proofs.YtfhoddcminbffaaGreatDoor
open Go.Proofs
set_option maxRecDepth 10000
attribute [local irreducible] aM aJ Tri aH YVC dI bI
theorem aSc {a b c:List Ax}(h:aBv [a,b,c]=true):(a.length<=14/\ ∀x∈a,SmA x)/\(b.length<=14/\ ∀x∈b,SmA x)/\(c.length<=14/\ ∀x∈c,SmA x):=by
 have h1: ∀l∈[a,b,c],aBv [l]=true:= λl hl=>by
  unfold aBv at h |-
  rw [List.all_cons,List.all_nil,Bool.and_true]
  exact List.all_eq_true.1 h l hl
 exact⟨zK (h1 a (by simp)),zK (h1 b (by simp)),zK (h1 c (by simp))⟩
theorem aN6 {l:List Ax}{w:List Int}(h: ∀x∈l,SmA x): ∀x∈(pV l w).1,SmA x:=by
 unfold pV
 split
 ·simp
 ·split
  ·simp
  ·rename_i h1 h2
   intro x hx
   obtain⟨i,hi,rfl⟩:=List.mem_map.1 hx
   obtain⟨i1,i2⟩:=vP (n:=l.length) (w:=w) (last:= -1) (by decide) (by simpa using h2) i hi
   have hk:i.toNat < l.length:=by omega
   unfold xJ
   rw [List.getElem?_eq_getElem hk]
   exact h _ (List.getElem_mem hk)
theorem aMg {l:List Ax}(h: ∀x∈l,SmA x): ∀x∈opL l,SmA x:= λx hx=>h x (List.mem_filter.1 hx).1
theorem xK (b c:List Ax) (w:List Int) (a:Ax) (sb: ∀x∈b,SzAx x) (sc: ∀x∈c,SzAx x) (sa:SzAx a):Tri Tryz.prog 5 [.d (hZ b), .d (hZ c), .d (.sl 1 (w.map jZ)), .d (.agg (axR a))] NG (λr=>r= .d (.bool true)):=by
 have cf := wP [b, c, [a]] (λm hm => by
  simp at hm
  rcases hm with rfl|rfl|rfl
  ·exact sb
  ·exact sc
  ·intro x hx;simp at hx;subst hx;exact sa)
 have cf:= λ(id:Nat)=>Tri.osl (id:=id) cf
 have hfl:=aSc (a:=b) (b:=c) (c:=[a])
 generalize aBv [b,c,[a]]=few at *
 refine aF false [4,5,7,9,11] hty Tryz.func5 rfl (kp [0,1,2,3,4,5,7,8,9,10,11,12,13,14,15,16,18,32]) [] _ _ _ (by simp [Tryz.f5]) (by decide) ?_
 ((conv=>whnf);repeat ((first|(intro hq;try simp only [lnS]at hq)|refine sI ?_|refine .intro _ (.intro rfl ?_));(conv=>whnf)))
 refine aD NG rR ⟨rfl,rfl,trivial⟩ (λr hs=> ?_)
 subst hs
 ((conv=>whnf);repeat ((first|(intro hq;try simp only [lnS]at hq)|refine sI ?_|refine .intro _ (.intro rfl ?_));(conv=>whnf)))
 refine aD [] (cf _) trivial (λr hs=> ?_)
 subst hs
 cases few
 ·((conv=>whnf);repeat' ((first|(intro hq;(try simp only [lnS]at hq);(try rewrite [List.length_map]))|refine sJ ?_|refine .intro _ (.intro rfl ?_)|refine exL (k:= ?_)|refine dwR ?_|((first|refine aB ?_ ?_|refine aC ?_ ?_)<;>intro hb<;>(first|exact ddX hb|try simp only [lnS]at hb))|(refine aA ?_ ?_<;>intro hb<;>try exact dsX hb))<;>(conv=>whnf)))
  rfl
 obtain⟨⟨lb,hb⟩,⟨lc,hc⟩,_,ha⟩:=hfl rfl
 have ha:=ha a (by simp)
 clear cf hfl
 have hrw:(w.map jZ).length=w.length:=List.length_map ..
 ((conv=>whnf);repeat ((first|(intro hq;try simp only [lnS]at hq)|refine sI ?_|refine .intro _ (.intro rfl ?_));(conv=>whnf)))
 refine aB (λh1=> ?_) (λh1=> ?_)
 ·((conv=>whnf);repeat' ((first|(intro hq;(try simp only [lnS]at hq);(try rewrite [List.length_map]))|refine sJ ?_|refine .intro _ (.intro rfl ?_)|refine exL (k:= ?_)|refine dwR ?_|((first|refine aB ?_ ?_|refine aC ?_ ?_)<;>intro hb<;>(first|exact ddX hb|try simp only [lnS]at hb))|(refine aA ?_ ?_<;>intro hb<;>try exact dsX hb))<;>(conv=>whnf)))
  rfl
 have hw:w.length<=30:=by have h1:¬ (30:Int) < ((w.map jZ).length:Nat):=h1;rw [hrw]at h1;omega
 clear h1
 have c1:=aD2 b w (by omega)
 have c2:=aF6 b w hb (by omega) (by omega)
 have c3:=aDe b a hb
 have c4:=aF7 b a hb ha
 have c5:=aMf b (by omega)
 have c6:=aF4 b (by omega)
 have s1:=eJ (opL b) (opL b) (aMg hb) (aMg hb)
 have s2:=eJ (pV b w).1 (pV b w).1 (aN6 hb) (aN6 hb)
 have s3:=yC b c hb hc
 have s4:=eJ b c hb hc
 have s5:=yC b b hb hb
 rw [lH.2 rfl]at s1 s2 s5
 generalize eqL b c=q at *
 generalize opL b=o at *
 generalize (pV b w).1=k1 at *
 generalize (pV b w).2=k2 at *
 generalize (xP b a).1=f1 at *
 generalize (xP b a).2=f2 at *
 ((conv=>whnf);repeat ((first|(refine aD NG c1 ⟨rfl,rfl,trivial⟩ (λr hs=> ?_);subst hs)|(refine aD [] c2 trivial (λr hs=> ?_);subst hs)|(refine aD NG c3 ⟨rfl,rfl,trivial⟩ (λr hs=> ?_);subst hs)|(refine aD [] c4 trivial (λr hs=> ?_);subst hs)|(intro hq;try simp only [lnS]at hq)|refine sI ?_|refine .intro _ (.intro rfl ?_));(conv=>whnf)))
 cases f2<;>cases q
 all_goals
  (refine fG (id:=9) hty (.first 0 (.first 2 (.alt 1 (.alt 3 (.alt 4 (.first 5 (.first 6 (.first 7 (.alt 8 (.first 9 (.first 10 (.first 11 (.first 12 (.first 13 (.first 14 (.first 15 (.first 16 (.first 17 (.first 18 (.first 19 (.first 20 (.first 21 (.first 22 (.first 23 (.first 24 (.first 25 (.first 26 (.first 27 (.first 29 (.first 30 (.alt 28 (.alt 31 (.first 32 (.first 33 (.first 34 (.first 35 (.first 36 (.alt 37 (.first 38 (.first 39 .done)) .stop)))))) .stop) .stop)))))))))))))))))))))) .stop)))) .stop) .stop) .stop))) (by kernel_rfl) (by kernel_rfl) ?_)
  ((conv=>whnf);repeat' ((first|exact trivial|refine zZ ?_ ?_|refine eqN rfl ?_|refine leN rfl ?_|refine ltN rfl ?_|(refine aD [] c5 trivial (λr hs=> ?_);subst hs)|(refine aD [] c6 trivial (λr hs=> ?_);subst hs)|(refine aD [] s1 trivial (λr hs=> ?_);subst hs)|(refine aD [] s2 trivial (λr hs=> ?_);subst hs)|(refine aD [] s3 trivial (λr hs=> ?_);subst hs)|(refine aD [] s4 trivial (λr hs=> ?_);subst hs)|(refine aD [] s5 trivial (λr hs=> ?_);subst hs)|refine sJ ?_|rw [decide_eq_true (Eq.refl k2)]|rw [decide_eq_true (Eq.refl f1)]|(refine Exists.intro _ (And.intro rfl ?_)))<;>(conv=>whnf)))
  all_goals first|rfl|(refine aX ?_;simp)
end Go.Proofs.YtfhoddcminbffaaGreatDoor
