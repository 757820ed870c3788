/-
  The reference's readers of concepts, axioms, queries and alignments, which do not stop; plain. The reference of objects: its reader reads concepts and axioms. The reference of objects: Axioms and Commit. Objects: decoding axioms, queries and alignments; the readers. Arguments that say less; rows made here handed to a callee for good. Objects: Alignment as the program writes it; ReadCommit; Query of the empty query.
  Conditions: none.
-/
import Derived.Test.YtbobcfjlbcgchaaGreatDoorVOh
import Derived.Test.YtbobcfjlbcgchaaGreatDoorVA8
import Derived.Test.YtbobcfjlbcgchaaGreatDoorVYb
import Derived.Test.YtbobcfjlbcgchaaGreatDoorVQf
import Derived.Test.YtbobcfjlbcgchaaGreatDoorVPi
import Derived.Test.YtbobcfjlbcgchaaGreatDoorVOy
import Derived.Test.YtbobcfjlbcgchaaGreatDoorVSna
import Derived.Test.YtbobcfjlbcgchaaGreatDoorVSyc
import Derived.Test.YtbobcfjlbcgchaaGreatDoorVSyx
set_option linter.unnecessarySimpa false
set_option linter.unusedSectionVars false
set_option linter.unusedSimpArgs false
set_option linter.unusedVariables false
set_option maxHeartbeats 32000000
namespace Go.Proofs.YtbobcfjlbcgchaaGreatDoor
open Go.Proofs
section
variable {α β:Type}
end
end Go.Proofs.YtbobcfjlbcgchaaGreatDoor
namespace Go.Proofs.YtbobcfjlbcgchaaGreatDoor
open Go.Proofs Go.RowKit
set_option maxRecDepth 10000
attribute [local irreducible] aJ aF Tri aG YVC bS aQ
end Go.Proofs.YtbobcfjlbcgchaaGreatDoor
namespace Go.Proofs.YtbobcfjlbcgchaaGreatDoor
open Go.Proofs Go.RowKit
set_option maxRecDepth 10000
attribute [local irreducible] aJ aF Tri aG YVC bS aQ aAd
end Go.Proofs.YtbobcfjlbcgchaaGreatDoor
namespace Go.Proofs.YtbobcfjlbcgchaaGreatDoor
open Go.Proofs Go.RowKit
set_option maxRecDepth 10000
attribute [local irreducible] aJ aF Tri aG YVC bS aQ
def qy0:Qy:=⟨[],[]⟩
theorem aBn (wr:Qy->List UInt8×Int) (bs:List UInt8) (hb:bs.length<=1000000) (hwr: ∀x c,rQy bs=some (x,c)->Tri Tryz.prog 39 [.d (.agg (qyR x))] NG (λr=>r= .tup [.d (.sl 1 ((wr x).1.map bE)), .d (.int .i64 (wr x).2)])):
  Tri Tryz.prog 37 [.d (.sl 1 (bs.map bE)), .fn 38 [] [], .fn 39 [] []] NG (λr=> ∃x,x=(tY rQy wr qy0 280 bs).1/\r= .tup [.d (.agg (qyR x)), .d (.int .i64 (tY rQy wr qy0 280 bs).2)]):=by
 have hlb:=uC bs
 have hsl:List.drop 0 (List.take (((bs.map bE).length:Nat):Int).toNat (bs.map bE))=bs.map bE:=by rw [List.drop_zero,Int.toNat_natCast,List.take_of_length_le (Nat.le_refl _)]
 refine Tri.says ?_
 refine aLd false [] hty Tryz.func37 rfl Tryz.func76 rfl rfl rfl rfl rfl rfl rfl (by kernel_rfl) (by decide) (by decide) (by decide) (by decide) rfl (by kernel_rfl) (ms:= #[]) (d:=11) (x:=6) (y:=7) (tx:=52) (ty:=26) rfl rfl rfl rfl rfl rfl (by decide) (by decide) (kp [0,1,2,6,7,8,9,10,44]) (kp [0,1,2,4]) [] _ _ _ 2 (tY rQy wr qy0 280 bs=(qy0,280)) (by simp [Tryz.f37]) (by decide) ?_ ?_
 ·((conv=>whnf);repeat ((first|(intro hq;try simp only [lnS]at hq)|refine sI ?_|refine .intro _ (.intro rfl ?_));(conv=>whnf)))
  rw [hsl]
  refine RdT.call aSy rfl (λ_=>rfl) bs hb rfl (λx c e1=> ?_) (λe1 b=>⟨aDr e1,rfl,rfl,⟨_,rfl,rfl⟩,_,rfl⟩)
  have hw:=hwr x c e1
  have hd:=xO (wr:=wr) (zero:=qy0) (bad:=280) e1
  generalize tY rQy wr qy0 280 bs=res at *
  generalize wr x=ae at *
  obtain⟨a,e⟩:=ae
  have heq:=mY a bs
  obtain⟨tl,pl⟩:=x
  ((conv=>whnf);repeat ((first|(refine aD NG hw ⟨rfl,rfl,trivial⟩ (λr hs=> ?_);subst hs)|(intro hq;try simp only [lnS]at hq)|refine sI ?_|refine .intro _ (.intro rfl ?_));(conv=>whnf)))
  refine aC (λh2=> ?_) (λh2=> ?_)
  ·have hr:res=(qy0,280):=by rw [hd,if_neg];rintro⟨_,h⟩;injection h with h3 h4;exact h2 h4
   ((conv=>whnf);repeat ((first|(refine fZ hty rfl (by with_unfolding_all exact rfl) rfl rfl ?_)|(intro hq;try simp only [lnS]at hq)|refine sI ?_|refine .intro _ (.intro rfl ?_));(conv=>whnf)))
   exact⟨⟨_,rfl,rfl⟩,_,rfl⟩
  have h2:e=0:=by simpa using h2
  subst h2
  ((conv=>whnf);repeat ((first|(intro hq;try simp only [lnS]at hq)|refine sI ?_|refine .intro _ (.intro rfl ?_));(conv=>whnf)))
  refine aA (λh3=> ?_) (λh3=> ?_)
  ·have hr:res=(qy0,280):=by rw [hd,if_neg];rintro⟨h,_⟩;subst h;simp at h3
   ((conv=>whnf);repeat ((first|(refine fZ hty rfl (by with_unfolding_all exact rfl) rfl rfl ?_)|(intro hq;try simp only [lnS]at hq)|refine sI ?_|refine .intro _ (.intro rfl ?_));(conv=>whnf)))
   exact⟨⟨_,rfl,rfl⟩,_,rfl⟩
  have h3:c=[]:=by
   rw [uC]at h3
   exact List.length_eq_zero_iff.1 (by omega)
  subst h3
  ((conv=>whnf);repeat ((first|(refine aD [] heq trivial (λr hs=> ?_);subst hs)|(intro hq;try simp only [lnS]at hq)|refine sI ?_|refine .intro _ (.intro rfl ?_));(conv=>whnf)))
  by_cases h4:a=bs
  ·subst h4
   rw [decide_eq_true rfl]
   rw [if_pos ⟨rfl,rfl⟩]at hd
   subst hd
   ((conv=>whnf);repeat ((first|(intro hq;try simp only [lnS]at hq)|refine sI ?_|refine .intro _ (.intro rfl ?_));(conv=>whnf)))
   exact⟨_, .refl _,_,rfl,rfl⟩
  ·have hr:res=(qy0,280):=by rw [hd,if_neg];rintro⟨_,h⟩;injection h with h5 h6;exact h4 h5
   rw [decide_eq_false h4]
   ((conv=>whnf);repeat ((first|(refine fZ hty rfl (by with_unfolding_all exact rfl) rfl rfl ?_)|(intro hq;try simp only [lnS]at hq)|refine sI ?_|refine .intro _ (.intro rfl ?_));(conv=>whnf)))
   exact⟨⟨_,rfl,rfl⟩,_,rfl⟩
 ·intro hr vx vy hcx
  rw [hr]
  obtain⟨s0,vx0,rfl,h0x⟩:=aBo hcx
  obtain⟨s1,vx1,rfl,h1x⟩:=aBo h0x
  obtain rfl:=List.length_eq_zero_iff.1 h1x
  ((conv=>whnf);repeat ((first|(intro hq;try simp only [lnS]at hq)|refine sI ?_|refine .intro _ (.intro rfl ?_));(conv=>whnf)))
  exact⟨_,gR.pair (gR.wkd (by repeat' (first|exact trivial|exact rfl|refine And.intro ?_ ?_))),_,rfl,rfl⟩
theorem yE (wr:Qy->List UInt8×Int) (bs:List UInt8) (hb:bs.length<=1000000) (hwr: ∀x c,rQy bs=some (x,c)->Tri Tryz.prog 39 [.d (.agg (qyR x))] NG (λr=>r= .tup [.d (.sl 1 ((wr x).1.map bE)), .d (.int .i64 (wr x).2)])):
  Tri Tryz.prog 16 [.d (.sl 1 (bs.map bE))] NG (λr=> ∃x,x=(tY rQy wr qy0 280 bs).1/\r= .tup [.d (.agg (qyR x)), .d (.int .i64 (tY rQy wr qy0 280 bs).2)]):=by
 have hd:=aBn wr bs hb hwr
 generalize tY rQy wr qy0 280 bs=res at *
 refine aH false [] hty Tryz.func16 rfl (kp [0,2,3]) [] _ _ _ (by simp [Tryz.f16]) (by decide) ?_
 ((conv=>whnf);repeat ((first|(intro hq;try simp only [lnS]at hq)|refine sI ?_|refine .intro _ (.intro rfl ?_));(conv=>whnf)))
 refine aD NG hd ⟨rfl,rfl,trivial⟩ (λr hs=> ?_)
 obtain⟨x,hx0,rfl⟩:=hs
 obtain⟨tl,pl⟩:=x
 ((conv=>whnf);repeat ((first|(intro hq;try simp only [lnS]at hq)|refine sI ?_|refine .intro _ (.intro rfl ?_));(conv=>whnf)))
 rw [<-hx0]
 rfl
theorem yM (wr:List Ax->List UInt8×Int) (bs:List UInt8) (hb:bs.length<=1000000) (hwr: ∀x c,(rAs 9) bs=some (x,c)->Tri Tryz.prog 7 [.d (.sl 16 (x.map axR))] NG (λr=>r= .tup [.d (.sl 1 ((wr x).1.map bE)), .d (.int .i64 (wr x).2)])):
  Tri Tryz.prog 24 [.d (.sl 1 (bs.map bE)), .fn 25 [] [], .fn 7 [] []] NG (λr=> ∃x,x=(tY (rAs 9) wr ([]:List Ax) 280 bs).1/\r= .tup [.d (.sl 16 (x.map axR)), .d (.int .i64 (tY (rAs 9) wr ([]:List Ax) 280 bs).2)]):=by
 have hlb:=uC bs
 have hsl:List.drop 0 (List.take (((bs.map bE).length:Nat):Int).toNat (bs.map bE))=bs.map bE:=by rw [List.drop_zero,Int.toNat_natCast,List.take_of_length_le (Nat.le_refl _)]
 refine Tri.says ?_
 refine aLd false [] hty Tryz.func24 rfl Tryz.func52 rfl rfl rfl rfl rfl rfl rfl (by kernel_rfl) (by decide) (by decide) (by decide) (by decide) rfl (by kernel_rfl) (ms:= #[]) (d:=11) (x:=6) (y:=7) (tx:=22) (ty:=26) rfl rfl rfl rfl rfl rfl (by decide) (by decide) (kp [0,1,2,6,7,8,9,10,44]) (kp [0,1,2,4]) [] _ _ _ 1 (tY (rAs 9) wr ([]:List Ax) 280 bs=(([]:List Ax),280)) (by simp [Tryz.f24]) (by decide) ?_ ?_
 ·((conv=>whnf);repeat ((first|(intro hq;try simp only [lnS]at hq)|refine sI ?_|refine .intro _ (.intro rfl ?_));(conv=>whnf)))
  rw [hsl]
  refine RdT.call aR3 rfl (λ_=>rfl) bs hb rfl (λx c e1=> ?_) (λe1 b=>⟨aDr e1,rfl,rfl,⟨_,rfl,rfl⟩,_,rfl⟩)
  have hw:=hwr x c e1
  have hd:=xO (wr:=wr) (zero:=([]:List Ax)) (bad:=280) e1
  generalize tY (rAs 9) wr ([]:List Ax) 280 bs=res at *
  generalize wr x=ae at *
  obtain⟨a,e⟩:=ae
  have heq:=mY a bs
  ((conv=>whnf);repeat ((first|(refine aD NG hw ⟨rfl,rfl,trivial⟩ (λr hs=> ?_);subst hs)|(intro hq;try simp only [lnS]at hq)|refine sI ?_|refine .intro _ (.intro rfl ?_));(conv=>whnf)))
  refine aC (λh2=> ?_) (λh2=> ?_)
  ·have hr:res=(([]:List Ax),280):=by rw [hd,if_neg];rintro⟨_,h⟩;injection h with h3 h4;exact h2 h4
   ((conv=>whnf);repeat ((first|(refine fZ hty rfl (by with_unfolding_all exact rfl) rfl rfl ?_)|(intro hq;try simp only [lnS]at hq)|refine sI ?_|refine .intro _ (.intro rfl ?_));(conv=>whnf)))
   exact⟨⟨_,rfl,rfl⟩,_,rfl⟩
  have h2:e=0:=by simpa using h2
  subst h2
  ((conv=>whnf);repeat ((first|(intro hq;try simp only [lnS]at hq)|refine sI ?_|refine .intro _ (.intro rfl ?_));(conv=>whnf)))
  refine aA (λh3=> ?_) (λh3=> ?_)
  ·have hr:res=(([]:List Ax),280):=by rw [hd,if_neg];rintro⟨h,_⟩;subst h;simp at h3
   ((conv=>whnf);repeat ((first|(refine fZ hty rfl (by with_unfolding_all exact rfl) rfl rfl ?_)|(intro hq;try simp only [lnS]at hq)|refine sI ?_|refine .intro _ (.intro rfl ?_));(conv=>whnf)))
   exact⟨⟨_,rfl,rfl⟩,_,rfl⟩
  have h3:c=[]:=by
   rw [uC]at h3
   exact List.length_eq_zero_iff.1 (by omega)
  subst h3
  ((conv=>whnf);repeat ((first|(refine aD [] heq trivial (λr hs=> ?_);subst hs)|(intro hq;try simp only [lnS]at hq)|refine sI ?_|refine .intro _ (.intro rfl ?_));(conv=>whnf)))
  by_cases h4:a=bs
  ·subst h4
   rw [decide_eq_true rfl]
   rw [if_pos ⟨rfl,rfl⟩]at hd
   subst hd
   ((conv=>whnf);repeat ((first|(intro hq;try simp only [lnS]at hq)|refine sI ?_|refine .intro _ (.intro rfl ?_));(conv=>whnf)))
   exact⟨_, .refl _,_,rfl,rfl⟩
  ·have hr:res=(([]:List Ax),280):=by rw [hd,if_neg];rintro⟨_,h⟩;injection h with h5 h6;exact h4 h5
   rw [decide_eq_false h4]
   ((conv=>whnf);repeat ((first|(refine fZ hty rfl (by with_unfolding_all exact rfl) rfl rfl ?_)|(intro hq;try simp only [lnS]at hq)|refine sI ?_|refine .intro _ (.intro rfl ?_));(conv=>whnf)))
   exact⟨⟨_,rfl,rfl⟩,_,rfl⟩
 ·intro hr vx vy hcx
  rw [hr]
  obtain⟨s0,vx0,rfl,h0x⟩:=aBo hcx
  obtain rfl:=List.length_eq_zero_iff.1 h0x
  ((conv=>whnf);repeat ((first|(intro hq;try simp only [lnS]at hq)|refine sI ?_|refine .intro _ (.intro rfl ?_));(conv=>whnf)))
  exact⟨_,gR.pair (gR.wkd (by repeat' (first|exact trivial|exact rfl|refine And.intro ?_ ?_))),_,rfl,rfl⟩
theorem lZ (wr:List Ax->List UInt8×Int) (bs:List UInt8) (hb:bs.length<=1000000) (hwr: ∀x c,(rAs 9) bs=some (x,c)->Tri Tryz.prog 7 [.d (.sl 16 (x.map axR))] NG (λr=>r= .tup [.d (.sl 1 ((wr x).1.map bE)), .d (.int .i64 (wr x).2)])):
  Tri Tryz.prog 9 [.d (.sl 1 (bs.map bE))] NG (λr=> ∃x,x=(tY (rAs 9) wr ([]:List Ax) 280 bs).1/\r= .tup [.d (.sl 16 (x.map axR)), .d (.int .i64 (tY (rAs 9) wr ([]:List Ax) 280 bs).2)]):=by
 have hd:=yM wr bs hb hwr
 generalize tY (rAs 9) wr ([]:List Ax) 280 bs=res at *
 refine aH false [] hty Tryz.func9 rfl (kp [0,2,3]) [] _ _ _ (by simp [Tryz.f9]) (by decide) ?_
 ((conv=>whnf);repeat ((first|(intro hq;try simp only [lnS]at hq)|refine sI ?_|refine .intro _ (.intro rfl ?_));(conv=>whnf)))
 refine aD NG hd ⟨rfl,rfl,trivial⟩ (λr hs=> ?_)
 obtain⟨x,hx0,rfl⟩:=hs
 ((conv=>whnf);repeat ((first|(intro hq;try simp only [lnS]at hq)|refine sI ?_|refine .intro _ (.intro rfl ?_));(conv=>whnf)))
 rw [<-hx0]
 rfl
end Go.Proofs.YtbobcfjlbcgchaaGreatDoor
namespace Go.Proofs.YtbobcfjlbcgchaaGreatDoor
open Go.RowKit
section
variable {P:Program}
def aE8:List SV->List SV->Prop
 | [],[]=>True
 |a::l,b::m=>gR a b/\aE8 l m
 |_,_=>False
theorem aE8.at: ∀(l m:List SV),aE8 l m->l.length=m.length/\ ∀(j:Nat) (a b:SV),l[j]? =some a->m[j]? =some b->gR a b
 | [],[],_=>⟨rfl,by simp⟩
 |a::l,b::m,h=>by
  obtain⟨h1,h2⟩:=aE8.at l m h.2
  refine⟨by simp [h1],λj x y hx hy=> ?_⟩
  cases j with
  |zero=>simp at hx hy;subst hx hy;exact h.1
  |succ j=>exact h2 j x y (by simpa using hx) (by simpa using hy)
theorem aE8.ok {w:World}{ρ:Env}{l m:List SV}{vs:Array Value}(h:aE8 l m) (hv:cL w ρ l vs):cL w ρ m vs:=by
 obtain⟨h1,h2⟩:=aE8.at l m h
 refine⟨hv.1.trans h1,λj b v hb hx=> ?_⟩
 have hj:j < l.length:=by rw [h1];exact(List.getElem?_eq_some_iff.1 hb).1
 exact h2 j _ b (List.getElem?_eq_getElem hj) hb w ρ v (hv.2 j _ v (List.getElem?_eq_getElem hj) hx)
theorem Tri.args {f:FuncId}{xs bs:List SV}{hp:Hp}{post:SV->Prop}(h:Tri P f bs hp post) (hs:aE8 xs bs):Tri P f xs hp post:=
 λw ρ vs a b c=>h w ρ vs a (hs.ok b) c
theorem aF.frozA {pin:Pin}{fr:Fr}{hp:Hp}{f:FuncId}{K:SV->Hp->Prop}{id e z cap n:Nat}{rows:List (List D)}(hp':Hp) (ho:aN hp id=some (.mrow e z cap rows)) (hn:n=rows.length) (hsub:jK hp' hp) (hno:aN hp' id=none)
  (h:aF P pin fr hp' f [.d (.sl z rows)] K):aF P pin fr hp f [.mw id z n] K:=by
 intro E ρ w tm hpin h3 h4 vs hargs
 obtain⟨S',s1,s2,s3⟩:=h3.froze ho hsub hno
 obtain⟨q1,_⟩:=h3.sat id _ ho
 refine h E _ w tm hpin s2 (h4.mono (λ_ _ _=>rfl) s1 λi _=>ρ.moved_withS S' i) vs ⟨hargs.1,λj s v hs hv=> ?_⟩
 cases j with
 |succ j=>simp at hs
 |zero=>
  simp at hs
  subst hs
  have k4:=hargs.2 0 _ v rfl hv
  obtain⟨A,c,_,_,_,_,_,e2⟩:=k4.mw_inv
  have:=e2 (hn.trans q1.symm)
  subst this
  exact .d _ _ s3
end
end Go.Proofs.YtbobcfjlbcgchaaGreatDoor
namespace Go.Proofs.YtbobcfjlbcgchaaGreatDoor
open Go.Proofs Go.RowKit
set_option maxRecDepth 10000
attribute [local irreducible] aJ aF Tri aG YVC bS aQ
theorem aU2 {a:Al}(h:24 < a.name.length):aKi a=([],1):=by
 have e:alE a=1:=by unfold alE;rw [if_pos h]
 unfold aKi;rw [e,if_neg (by decide)]
theorem aXy {a:Al}(h:¬ 24 < a.name.length) (h2:dF a.axioms≠0):aKi a=([],dF a.axioms):=by
 have e:alE a=dF a.axioms:=by unfold alE;rw [if_neg h,if_pos h2]
 unfold aKi;rw [e,if_neg h2]
theorem aW3 {a:Al}(h:¬ 24 < a.name.length) (h2:dF a.axioms=0) (h3:128 < a.axioms.length\/256 < a.parts.length\/256 < a.path.length):aKi a=([],2):=by
 have e:alE a=2:=by unfold alE;rw [if_neg h,if_neg (by simpa using h2),if_pos h3]
 unfold aKi;rw [e,if_neg (by decide)]
theorem aXx {a:Al}(h:¬ 24 < a.name.length) (h2:dF a.axioms=0) (h3:¬ (128 < a.axioms.length\/256 < a.parts.length\/256 < a.path.length)):aKi a=(wAl a,0):=by
 have e:alE a=0:=by unfold alE;rw [if_neg h,if_neg (by simpa using h2),if_neg h3]
 unfold aKi;rw [if_pos e]
theorem aL1 {a:Al}(h:¬ 24 < a.name.length) (h2:dF a.axioms=0) (h3:¬ (128 < a.axioms.length\/256 < a.parts.length\/256 < a.path.length)):(wAl a).length<=1000000:=by
 have a1:=vE ((fO _).1 h2)
 have a2:a.axioms.length * 7000<=128 * 7000:=Nat.mul_le_mul_right _ (by omega)
 have a3:((a.parts.map rT).flatten).length<=a.parts.length * 32:=nM λd _=>by rw [show (rT d).length=32 from d.2];exact Nat.le_refl _
 have a4:((a.path.map rT).flatten).length<=a.path.length * 32:=nM λd _=>by rw [show (rT d).length=32 from d.2];exact Nat.le_refl _
 have a5:(rT a.base).length=32:=a.base.2
 have a6:(rT a.pub).length=32:=a.pub.2
 unfold wAl
 simp only [List.length_append,eI,gX,a5,a6]
 unfold lC
 simp only [List.length_append,bH]
 omega
theorem vZ (a:Al):Tri Tryz.prog 18 [.d (.agg (alR a))] NG (λr=>r= .tup [.d (.sl 1 ((aKi a).1.map bE)), .d (.int .i64 (aKi a).2)]):=by
 refine Tri.says ?_
 have hw:=aC6 a
 have h1:=aU2 (a:=a)
 have h2:=aXy (a:=a)
 have h3:=aW3 (a:=a)
 have h4:=aXx (a:=a)
 have h5:=aL1 (a:=a)
 have hc:=lF a.axioms
 generalize wAl a=out at *
 generalize aKi a=res at *
 obtain⟨nm,d1,ax,d2,ix,ps,pt⟩:=a
 obtain⟨yl,hy⟩:=d1
 obtain⟨y0,y1,y2,y3,y4,y5,y6,y7,y8,y9,y10,y11,y12,y13,y14,y15,y16,y17,y18,y19,y20,y21,y22,y23,y24,y25,y26,y27,y28,y29,y30,y31,rfl⟩:=aBg hy
 obtain⟨zl,hz⟩:=d2
 obtain⟨z0,z1,z2,z3,z4,z5,z6,z7,z8,z9,z10,z11,z12,z13,z14,z15,z16,z17,z18,z19,z20,z21,z22,z23,z24,z25,z26,z27,z28,z29,z30,z31,rfl⟩:=aBg hz
 dsimp only at h1 h2 h3 h4 h5 hc
 have hla:(ax.map axR).length=ax.length:=List.length_map ..
 have hlp:(ps.map tX).length=ps.length:=List.length_map ..
 have hlt:(pt.map tX).length=pt.length:=List.length_map ..
 refine aH false [] hty Tryz.func18 rfl (kp [0,1,2,3,4,8,13,32]) [] _ _ _ (by simp [Tryz.f18]) (by decide) ?_
 ((conv=>whnf);repeat ((first|(intro hq;try simp only [lnS]at hq)|refine sI ?_|refine .intro _ (.intro rfl ?_));(conv=>whnf)))
 refine aA (λq1=> ?_) (λq1=> ?_)
 ·rw [h1 (by dsimp only at q1;omega)]
  ((conv=>whnf);repeat ((first|(intro hq;try simp only [lnS]at hq)|refine sI ?_|refine .intro _ (.intro rfl ?_));(conv=>whnf)))
  exact⟨_,pairN (.d .nil) _,rfl⟩
 have q1:¬ 24 < nm.length:=by dsimp only at q1;omega
 ((conv=>whnf);repeat ((first|(refine aD NG hc ⟨rfl,rfl,trivial⟩ (λr hs=> ?_);subst hs)|(intro hq;try simp only [lnS]at hq)|refine sI ?_|refine .intro _ (.intro rfl ?_));(conv=>whnf)))
 refine aC (λq2=> ?_) (λq2=> ?_)
 ·rw [h2 q1 q2]
  ((conv=>whnf);repeat ((first|(intro hq;try simp only [lnS]at hq)|refine sI ?_|refine .intro _ (.intro rfl ?_));(conv=>whnf)))
  exact⟨_,pairN (.d .nil) _,rfl⟩
 have q2:dF ax=0:=by simpa using q2
 by_cases q3:128 < ax.length\/256 < ps.length\/256 < pt.length
 ·rw [h3 q1 q2 q3]
  clear h1 h2 h3 h4 h5 hw hc
  ((conv=>whnf);repeat' ((first|(intro hq;(try simp only [lnS]at hq);(try rewrite [List.length_map]))|refine sJ ?_|refine .intro _ (.intro rfl ?_)|refine exL (k:= ?_)|refine dwR ?_|((first|refine aA ?_ ?_|refine aC ?_ ?_)<;>intro hb<;>(first|exact ddX hb|try simp only [lnS]at hb))|(refine aB ?_ ?_<;>intro hb<;>try exact dsX hb))<;>(conv=>whnf)))
  all_goals exact⟨_,pairN (.d .nil) _,rfl⟩
 ·rw [h4 q1 q2 q3]
  have h5:=h5 q1 q2 q3
  clear h1 h2 h3 h4 hc
  ((conv=>whnf);repeat' ((first|(intro hq;(try simp only [lnS]at hq);(try rewrite [List.length_map]))|refine sJ ?_|refine .intro _ (.intro rfl ?_)|refine exL (k:= ?_)|refine dwR ?_|((first|refine aA ?_ ?_|refine aC ?_ ?_)<;>intro hb<;>(first|exact ddX hb|try simp only [lnS]at hb))|(refine aB ?_ ?_<;>intro hb<;>try exact dsX hb))<;>(conv=>whnf)))
  refine aF.ownH 4 104 67 5 1 rfl (bY (by with_unfolding_all exact rfl)) (jR (by with_unfolding_all exact rfl)) ?_
  refine WrT.call hw rfl [] (by rw [List.length_nil];omega) (by decide) rfl rfl ?_
  rw [List.nil_append]
  ((conv=>whnf);repeat ((first|(intro hq;try simp only [lnS]at hq)|refine sI ?_|refine .intro _ (.intro rfl ?_));(conv=>whnf)))
  exact⟨_, .refl _,rfl⟩
theorem aCr:Tri Tryz.prog 39 [.d (.agg (qyR ⟨[],[]⟩))] NG (λr=>r= .tup [.d (.sl 1 (([]:List UInt8).map bE)), .d (.int .i64 210)]):=by
 have h1:Tri Tryz.prog 137 [.d (.agg (qyR ⟨[],[]⟩))] [] (λr=>r= .d (.int .i64 210)):=by
  refine aP hty Tryz.func137 rfl (kp [0,1,2,4,20,22,23,24,25,37]) [] _ _ _ (by simp [Tryz.f137]) (by simp) ?_
  ((conv=>whnf);repeat' ((first|(intro hq;(try simp only [lnS]at hq);(try rewrite [List.length_map]))|refine sJ ?_|refine .intro _ (.intro rfl ?_)|refine exL (k:= ?_)|refine dwR ?_|((first|refine aA ?_ ?_|refine aC ?_ ?_)<;>intro hb<;>(first|exact ddX hb|try simp only [lnS]at hb))|(refine aB ?_ ?_<;>intro hb<;>try exact dsX hb))<;>(conv=>whnf)))
  rfl
 have h2:Tri Tryz.prog 81 [.d (.agg (qyR ⟨[],[]⟩)), .d .nil] [] (λr=>r= .d (.int .i64 210)):=by
  refine aP hty Tryz.func81 rfl (kp [0,1,2,4,6,8,10,14,17,18,19,20,24,25,26,27,33,40,43,44,45,46,52]) [] _ _ _ (by simp [Tryz.f81]) (by simp) ?_
  ((conv=>whnf);repeat' ((first|(intro hq;(try simp only [lnS]at hq);(try rewrite [List.length_map]))|refine sJ ?_|refine .intro _ (.intro rfl ?_)|refine exL (k:= ?_)|(refine aD [] h1 trivial (λr hs=> ?_);subst hs)|refine dwR ?_|((first|refine aA ?_ ?_|refine aC ?_ ?_)<;>intro hb<;>(first|exact ddX hb|try simp only [lnS]at hb))|(refine aB ?_ ?_<;>intro hb<;>try exact dsX hb))<;>(conv=>whnf)))
  rfl
 refine Tri.says ?_
 refine aH false [] hty Tryz.func39 rfl (kp [0,1,2,3,4,8]) [] _ _ _ (by simp [Tryz.f39]) (by decide) ?_
 ((conv=>whnf);repeat' ((first|(intro hq;(try simp only [lnS]at hq);(try rewrite [List.length_map]))|refine sJ ?_|refine .intro _ (.intro rfl ?_)|refine exL (k:= ?_)|(refine aD [] h2 trivial (λr hs=> ?_);subst hs)|refine dwR ?_|((first|refine aA ?_ ?_|refine aC ?_ ?_)<;>intro hb<;>(first|exact ddX hb|try simp only [lnS]at hb))|(refine aB ?_ ?_<;>intro hb<;>try exact dsX hb))<;>(conv=>whnf)))
 exact⟨_,pairN (.d .nil) _,rfl⟩
end Go.Proofs.YtbobcfjlbcgchaaGreatDoor
