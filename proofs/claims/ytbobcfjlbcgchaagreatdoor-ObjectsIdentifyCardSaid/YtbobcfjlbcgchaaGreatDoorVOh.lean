/-
  Readers that do not stop: a flag says that something was wrong; plain. The reference of objects: its reader reads numbers, texts and digests. The reference of objects: its reader reads digests. The reference of objects: its reader reads lists of texts and of digests. The ID of a base: objects.ID and the reference's. The hash's constants and the terms' tables, as they are laid. What encoding a query answers, and that both readers read it again; plain.
  Conditions: none.
-/
import Derived.Test.YtbobcfjlbcgchaaGreatDoorVOs
import Derived.Test.YtbobcfjlbcgchaaGreatDoorVBp
import Derived.Test.YtbobcfjlbcgchaaGreatDoorVAk
import Derived.Test.YtbobcfjlbcgchaaGreatDoorVSyx
import Derived.Test.YtbobcfjlbcgchaaGreatDoorVOy
import Derived.Test.YtbobcfjlbcgchaaGreatDoorVSyc
import Derived.Test.YtbobcfjlbcgchaaGreatDoorVDd
import Derived.Test.YtbobcfjlbcgchaaGreatDoorVPi
import Derived.Test.YtbobcfjlbcgchaaGreatDoorVYb
import Derived.Test.YtbobcfjlbcgchaaGreatDoorVOf
set_option linter.unnecessarySimpa false
set_option linter.unusedSectionVars false
set_option linter.unusedSimpArgs false
set_option linter.unusedVariables false
set_option maxHeartbeats 16000000
namespace Go.Proofs.YtbobcfjlbcgchaaGreatDoor
open Go.Proofs
abbrev RS:=List UInt8×Bool
abbrev Tr (α:Type):=RS->α×RS
section
variable {α β:Type}
def aY5 (t:Tr α) (f:α->β):Tr β:= λs=>(f (t s).1,(t s).2)
def aSd (t:Tr α) (f:α->Tr β):Tr β:= λs=>f (t s).1 (t s).2
structure Sim (t:Tr α) (r:Rd α):Prop where
 bad: ∀b,(t (b,true)).2.2=true
 ok: ∀b x c,r b=some (x,c)->t (b,false)=(x,(c,false))
 no: ∀b,r b=none->(t (b,false)).2.2=true
theorem Sim.map {t:Tr α}{r:Rd α}(h:Sim t r) (f:α->β):Sim (aY5 t f) (tH r f):=by
 refine⟨λb=>h.bad b,λb x c e=> ?_,λb e=> ?_⟩
 ·obtain⟨y,h1,rfl⟩:=aGr e
  unfold aY5;rw [h.ok b y c h1]
 ·refine h.no b ?_
  unfold tH at e
  exact Option.map_eq_none_iff.1 e
theorem Sim.bind {t:Tr α}{r:Rd α}{f:α->Tr β}{g:α->Rd β}(h:Sim t r) (k: ∀x,Sim (f x) (g x)):Sim (aSd t f) (dW r g):=by
 have kb: ∀x (s:RS),s.2=true->(f x s).2.2=true:=by
  rintro x ⟨b,d⟩ hs
  have hs:d=true:=hs
  subst hs
  exact(k x).bad b
 refine⟨λb=>kb _ _ (h.bad b),λb x c e=> ?_,λb e=> ?_⟩
 ·obtain⟨y,d,h1,h2⟩:=aMk e
  unfold aSd;rw [h.ok b y d h1]
  exact(k y).ok d x c h2
 ·cases h1:r b with
  |none=>exact kb _ _ (h.no b h1)
  |some p=>
   obtain⟨y,d⟩:=p
   rw [cY h1]at e
   unfold aSd;rw [h.ok b y d h1]
   exact(k y).no d e
end
end Go.Proofs.YtbobcfjlbcgchaaGreatDoor
namespace Go.Proofs.YtbobcfjlbcgchaaGreatDoor
open Go.Proofs Go.RowKit
set_option maxRecDepth 10000
attribute [local irreducible] aJ aF Tri aG YVC bS aQ
abbrev rfO (s:RS):HObj:= .cells 77 [.d (.sl 1 (s.1.map bE)), .d (.bool s.2)]
abbrev aYl:Pin:=⟨[3],λ_ _=>False,[]⟩
def RfT {α:Type}(f:FuncId) (ex:List SV) (t:Tr α) (e:α->SV):Prop:= ∀s:RS,s.1.length<=1000000->
 aF Tryz.prog aYl [] [(3,rfO s)] f (.ptr 3 0::ex) (λr h=>r=e (t s).1/\aN h 3=some (rfO (t s).2))
theorem RfT.call {α:Type}{f:FuncId}{ex:List SV}{t:Tr α}{e:α->SV}(h:RfT f ex t e) (hx:SV.idsL ex=[]) (he: ∀x,(e x).ids=[]) {pin:Pin}{fr:Fr}{hp:Hp}{i:Nat}{K:SV->Hp->Prop}(s:RS) (hb:s.1.length<=1000000) (hg:aN hp i=some (rfO s))
  (hok:gK hp i (rfO (t s).2) (K (e (t s).1))):aF Tryz.prog pin fr hp f (.ptr i 0::ex) K:=by
 have hs: ∀b,(rfO b).sim:= λb s hs=>by
  simp at hs
  rcases hs with rfl|rfl<;>exact rfl
 refine pT (λ_=>i) [3] [(3,rfO s)] (h s hb) (aRt hg rfl (hs s)) (λk hk=>hk) (by rw [List.map_cons,aB1 hx];rfl) ?_ ?_ ?_
 ·intro s hs
  rcases List.mem_cons.1 hs with rfl|hs
  ·trivial
  ·exact aAv hx s hs
 ·rintro r h1 ⟨rfl,e3⟩
  refine⟨aLv (he _), ?_,_,aTf hg e3 (hs _) (λh=>h) rfl rfl, ?_⟩
  ·intro j hj
   rw [he]at hj
   cases hj
  ·rw [aMc (he _)]
   rw [dM]at hok
   exact hok
 ·exact λh1 h2=>h2.elim
end Go.Proofs.YtbobcfjlbcgchaaGreatDoor
namespace Go.Proofs.YtbobcfjlbcgchaaGreatDoor
open Go.Proofs Go.RowKit
set_option maxRecDepth 10000
attribute [local irreducible] aJ aF Tri aG YVC bS aQ
end Go.Proofs.YtbobcfjlbcgchaaGreatDoor
namespace Go.Proofs.YtbobcfjlbcgchaaGreatDoor
open Go.Proofs Go.RowKit
set_option maxRecDepth 10000
attribute [local irreducible] aJ aF Tri aG YVC bS aQ
def mkD (y:Nat->UInt8):Dig:=⟨[y 0,y 1,y 2,y 3,y 4,y 5,y 6,y 7,y 8,y 9,y 10,y 11,y 12,y 13,y 14,y 15,y 16,y 17,y 18,y 19,y 20,y 21,y 22,y 23,y 24,y 25,y 26,y 27,y 28,y 29,y 30,y 31],rfl⟩
theorem aRm (d:Dig): ∃y,d=mkD y:=by
 obtain⟨l,h⟩:=d
 obtain⟨y0,y1,y2,y3,y4,y5,y6,y7,y8,y9,y10,y11,y12,y13,y14,y15,y16,y17,y18,y19,y20,y21,y22,y23,y24,y25,y26,y27,y28,y29,y30,y31,rfl⟩:=aBg h
 exact⟨λi=>[y0,y1,y2,y3,y4,y5,y6,y7,y8,y9,y10,y11,y12,y13,y14,y15,y16,y17,y18,y19,y20,y21,y22,y23,y24,y25,y26,y27,y28,y29,y30,y31].getD i 0,rfl⟩
end Go.Proofs.YtbobcfjlbcgchaaGreatDoor
namespace Go.Proofs.YtbobcfjlbcgchaaGreatDoor
open Go.Proofs Go.RowKit
set_option maxRecDepth 10000
attribute [local irreducible] aJ aF Tri aG YVC bS aQ aAd
def aFt:List UInt8:=[98,97,115,101]
noncomputable def idF (l:List Ax):Dig×Int:=if dT l=0 then (aRb aFt (wAs l),0)else (aRn,dT l)
theorem aR1 {l:List Ax}(h:dT l=0):aKr l=0:=by
 have h:=(sT l).1 h
 have h1:=(fO l).2 λx hx=>fK (x:=x) (by rw [h.tidy x hx])
 have:=h.few
 unfold aKr
 rw [if_neg (by rw [h1];simp),if_neg (by omega)]
theorem aO9 {l:List Ax}(h:dT l=0):aEc l=(wAs l,0)/\(wAs l).length<=8000000:=by
 have h1:=aR1 h
 obtain⟨h2,h3⟩:=aTw h1
 have h4:=vE h2
 have:l.length * 7000<=1024 * 7000:=Nat.mul_le_mul_right _ h3
 refine⟨?_,by omega⟩
 unfold aEc
 rw [if_pos h1]
def NK:Hp:=KG++NG
theorem aQ6 (l:List Ax):Tri Tryz.prog 11 [.d (aR2 l)] NK (λr=>r= .tup [.d (.agg (tX (idF l).1)), .d (.int .i64 (idF l).2)]):=by
 have c1:=xU l
 have c2:=gF l
 by_cases h:dT l=0
 ·obtain⟨e1,e2⟩:=aO9 h
  have c3:=vH aFt (wAs l) (by decide) (by omega)
  have hi:idF l=(aRb aFt (wAs l),0):=by unfold idF;rw [if_pos h]
  rw [h]at c1
  rw [e1]at c2
  rw [hi]
  clear hi e1 e2 h
  generalize aRb aFt (wAs l)=v at *
  obtain⟨y,rfl⟩:=aRm v
  generalize wAs l=c at *
  refine aH false [] hty Tryz.func11 rfl (kp [0,1,2,3,4,8,18]) [] _ _ _ (by simp [Tryz.f11]) (by decide) ?_
  ((conv=>whnf);repeat ((first|(refine aD NG c1 ⟨rfl,rfl,trivial⟩ (λr hs=> ?_);subst hs)|(refine aD NG c2 ⟨rfl,rfl,trivial⟩ (λr hs=> ?_);subst hs)|(refine aD KG c3 ⟨rfl,trivial⟩ (λr hs=> ?_);subst hs)|(intro hq;try simp only [lnS]at hq)|refine sI ?_|refine .intro _ (.intro rfl ?_));(conv=>whnf)))
  rfl
 ·have hi:idF l=(aRn,dT l):=by unfold idF;rw [if_neg h]
  rw [hi]
  generalize dT l=q at *
  refine aH false [] hty Tryz.func11 rfl (kp [0,1,2,3,4,8,18]) [] _ _ _ (by simp [Tryz.f11]) (by decide) ?_
  ((conv=>whnf);repeat ((first|(refine aD NG c1 ⟨rfl,rfl,trivial⟩ (λr hs=> ?_);subst hs)|(intro hq;try simp only [lnS]at hq)|refine sI ?_|refine .intro _ (.intro rfl ?_));(conv=>whnf)))
  refine aC (λh2=> ?_) (λh2=> ?_)
  ·((conv=>whnf);repeat ((first|(intro hq;try simp only [lnS]at hq)|refine sI ?_|refine .intro _ (.intro rfl ?_));(conv=>whnf)))
   rfl
  ·exact absurd h2 h
end Go.Proofs.YtbobcfjlbcgchaaGreatDoor
namespace Go.Proofs.YtbobcfjlbcgchaaGreatDoor
open Go.Proofs Go.RowKit Go.ChangeShapes
set_option maxRecDepth 100000
def aN7:List (String×DataW Unit):=[("veilstone/digest.constants",Rows.laid_veilstone_digest_constants),("veilstone/terms.needs",Rows.laid_veilstone_terms_needs),("veilstone/terms.uses",Rows.laid_veilstone_terms_uses)]
theorem aXl:Tryz.prog.globalNamed "veilstone/digest.constants" =some 1:=by kernel_rfl
theorem aWu:(Tryz.prog.globals[(1:Nat)]?).map (·.type)=some 183:=by kernel_rfl
def FTK:List TypeId:=183::126::FT
theorem flK:Fl Tryz.prog (· ∈FTK):=aVk (by kernel_rfl)
theorem aJb {W:World}(h:laidMetH Tryz.prog aN7 W): ∀ρ:Env,ρ.S=below W-> ∀id o,aN NK id=some o->RO W ρ id o:=by
 rw [MakeChecks.laidMetH_plain _ _ _ (by kernel_rfl)]at h
 obtain⟨ps,⟨g2,t2,cs2,f2,p2,q2,hg2,ht2,hv2,hd2,⟨g0,t0,cs0,f0,p0,q0,hg0,ht0,hv0,hd0,⟨g1,t1,cs1,f1,p1,q1,hg1,ht1,hv1,hd1,_,_⟩,_⟩,_⟩,_,_⟩:=h
 obtain rfl:=Option.some.inj (aXl.symm.trans hg2)
 obtain rfl:=Option.some.inj (aVj.symm.trans hg0)
 obtain rfl:=Option.some.inj (aXk.symm.trans hg1)
 obtain rfl:=Option.some.inj (aWu.symm.trans ht2)
 obtain rfl:=Option.some.inj (aUr.symm.trans ht0)
 obtain rfl:=Option.some.inj (aWt.symm.trans ht1)
 have v2:=lO (z:=1) (rows:=aAw.map aNb) flK hg2 (by decide) hv2 hd2 (by intro r hr;obtain⟨x,_,rfl⟩:=List.mem_map.1 hr;rfl) (by kernel_rfl)
 have v0:=lO (z:=4) (rows:=aMw.map aQa) fl hg0 (by decide) hv0 hd0 (by intro r hr;obtain⟨x,_,rfl⟩:=List.mem_map.1 hr;rfl) (by kernel_rfl)
 have v1:=lO (z:=7) (rows:=iQ.map aS9) fl hg1 (by decide) hv1 hd1 (by intro r hr;obtain⟨x,_,rfl⟩:=List.mem_map.1 hr;rfl) (by kernel_rfl)
 intro ρ hS id o ho
 rw [<-hS]at v0 v1 v2
 simp only [NK,KG,NG,List.cons_append,List.nil_append,aN]at ho
 split at ho
 ·injection ho with ho;subst ho;exact v2
 ·split at ho
  ·injection ho with ho;subst ho;exact v0
  ·split at ho
   ·injection ho with ho;subst ho;exact v1
   ·cases ho
end Go.Proofs.YtbobcfjlbcgchaaGreatDoor
namespace Go.Proofs.YtbobcfjlbcgchaaGreatDoor
open Go.Proofs
end Go.Proofs.YtbobcfjlbcgchaaGreatDoor
