/-
  Objects: SameQuery and SameAlignment of the reference at equal arguments; the law's closure that changes bytes. Objects: the law's closure that changes bytes. Sums of ints that may wrap: a walk that knows less of the type int takes them by rules of their own. Objects: few, fewQuery and fewAlignment of the law. The reference of objects: its reader reads lists of texts and of digests. Objects: few and fewAlignment of the law. Objects: what is written is read again, and changed bytes are refused, for the four kinds; plain.
  Conditions: none.
-/
import Derived.Test.YtleihcnongldbaaGreatDoorVDb
import Derived.Test.YtleihcnongldbaaGreatDoorVUa
import Derived.Test.YtleihcnongldbaaGreatDoorVPc
import Derived.Test.YtleihcnongldbaaGreatDoorVA1
import Derived.Test.YtleihcnongldbaaGreatDoorVOu
import Derived.Test.YtleihcnongldbaaGreatDoorVSyq
import Derived.Test.YtleihcnongldbaaGreatDoorVSyb
set_option linter.unnecessarySimpa false
set_option linter.unusedSectionVars false
set_option linter.unusedSimpArgs false
set_option linter.unusedVariables false
set_option maxHeartbeats 16000000
namespace Go.Proofs.YtleihcnongldbaaGreatDoor
open Go.Proofs Go.RowKit
set_option maxRecDepth 10000
attribute [local irreducible] aO aH Tri aG YVC cL bB
theorem jH (l:List Dig):Tri Tryz.prog 53 [.d (.sl 32 (l.map lS)), .d (.sl 32 (l.map lS))] [] (λr=>r= .d (.bool true)):=by
 have hlr:(l.map lS).length=l.length:=List.length_map ..
 refine aF false [] hty Tryz.func53 rfl (kp [0,1,4,5,10,14,25]) [] _ _ _ (by simp [Tryz.f53]) (by simp) ?_
 ((conv=>whnf);repeat ((first|(intro hq;try simp only [lnS]at hq)|refine sI ?_|refine .intro _ (.intro rfl ?_));(conv=>whnf)))
 refine aC (λh1=>absurd rfl h1) (λh1=> ?_)
 ((conv=>whnf);repeat ((first|(intro hq;try simp only [lnS]at hq)|refine sI ?_|refine .intro _ (.intro rfl ?_));(conv=>whnf)))
 refine aL hty (λj:Nat=>([(0, .d (.sl 32 (l.map lS))),(1, .d (.sl 32 (l.map lS))),(5, .d (.int .i64 j))],[])) (λj=>j<=l.length) (λj=>l.length - j) 0 (by omega) ⟨by repeat' (first|exact trivial|exact rfl|refine And.intro ?_ ?_),by repeat' (first|exact trivial|exact rfl|refine And.intro ?_ ?_)⟩ ?_
 intro j hj
 ((conv=>whnf);repeat ((first|(intro hq;try simp only [lnS]at hq)|refine sI ?_|refine .intro _ (.intro rfl ?_));(conv=>whnf)))
 rw [hlr]
 refine aB (λh2=> ?_) (λh2=> ?_)
 ·have hjl:j < l.length:=by omega
  have hrow:(l.map lS)[((j:Nat):Int).toNat]? =some (lS l[j]):=aZ hjl
  generalize l[j]=d at hrow
  obtain⟨xl,hx⟩:=d
  have he:=oP xl
  obtain⟨y0,y1,y2,y3,y4,y5,y6,y7,y8,y9,y10,y11,y12,y13,y14,y15,y16,y17,y18,y19,y20,y21,y22,y23,y24,y25,y26,y27,y28,y29,y30,y31,rfl⟩:=fM hx
  ((conv=>whnf);repeat' ((first|(intro hq;(try simp only [lnS]at hq);(try rewrite [List.length_map]))|refine sJ ?_|refine .intro _ (.intro rfl ?_)|refine exL (k:= ?_)|(refine⟨_,hrow, ?_⟩)|(refine aC3 hty rfl (by with_unfolding_all exact rfl) rfl (by with_unfolding_all exact rfl) rfl rfl (by with_unfolding_all kernel_rfl) rfl rfl rfl he ?_)|refine dwR ?_|((first|refine aB ?_ ?_|refine aC ?_ ?_)<;>intro hb<;>(first|exact ddX hb|try simp only [lnS]at hb))|(refine aA ?_ ?_<;>intro hb<;>try exact dsX hb))<;>(conv=>whnf)))
  all_goals exact⟨j+1,by dsimp only;omega,by dsimp only;omega,⟨by repeat' (first|exact trivial|exact rfl|refine And.intro ?_ ?_),by repeat' (first|exact trivial|exact rfl|refine And.intro ?_ ?_)⟩⟩
 ·((conv=>whnf);repeat' ((first|(intro hq;(try simp only [lnS]at hq);(try rewrite [List.length_map]))|refine sJ ?_|refine .intro _ (.intro rfl ?_)|refine exL (k:= ?_)|refine dwR ?_|((first|refine aB ?_ ?_|refine aC ?_ ?_)<;>intro hb<;>(first|exact ddX hb|try simp only [lnS]at hb))|(refine aA ?_ ?_<;>intro hb<;>try exact dsX hb))<;>(conv=>whnf)))
  rfl
theorem nO (a:Al) (h: ∀x∈a.axioms,Sm6 x):Tri Tryz.prog 19 [.d (.agg (alR a)), .d (.agg (alR a))] [] (λr=>r= .d (.bool true)):=by
 obtain⟨nm,d1,ax,d2,ix,ps,pt⟩:=a
 have c1:=qJ ax h
 have c2:=jH ps
 have c3:=jH pt
 obtain⟨yl,hy⟩:=d1
 have he:=oP yl
 obtain⟨y0,y1,y2,y3,y4,y5,y6,y7,y8,y9,y10,y11,y12,y13,y14,y15,y16,y17,y18,y19,y20,y21,y22,y23,y24,y25,y26,y27,y28,y29,y30,y31,rfl⟩:=fM hy
 obtain⟨zl,hz⟩:=d2
 have he2:=oP zl
 obtain⟨z0,z1,z2,z3,z4,z5,z6,z7,z8,z9,z10,z11,z12,z13,z14,z15,z16,z17,z18,z19,z20,z21,z22,z23,z24,z25,z26,z27,z28,z29,z30,z31,rfl⟩:=fM hz
 refine aF false [2,3] hty Tryz.func19 rfl (kp [0,1,2,3,4]) [] _ _ _ (by simp [Tryz.f19]) (by simp) ?_
 ((conv=>whnf);repeat' ((first|(intro hq;(try simp only [lnS]at hq);(try rewrite [List.length_map]))|refine sJ ?_|refine .intro _ (.intro rfl ?_)|refine exL (k:= ?_)|(refine aG4 hty rfl (by with_unfolding_all exact rfl) rfl (by with_unfolding_all exact rfl) rfl rfl (by with_unfolding_all kernel_rfl) rfl rfl rfl he ?_)|(refine aG4 hty rfl (by with_unfolding_all exact rfl) rfl (by with_unfolding_all exact rfl) rfl rfl (by with_unfolding_all kernel_rfl) rfl rfl rfl he2 ?_)|(refine aD [] c1 trivial (λr hs=> ?_);subst hs)|(refine aD [] c2 trivial (λr hs=> ?_);subst hs)|(refine aD [] c3 trivial (λr hs=> ?_);subst hs)|refine dwR ?_|((first|refine aB ?_ ?_|refine aC ?_ ?_)<;>intro hb<;>(first|exact ddX hb|try simp only [lnS]at hb))|(refine aA ?_ ?_<;>intro hb<;>try exact dsX hb))<;>(conv=>whnf)))
 all_goals first|rfl|(refine aX ?_;simp)|(exfalso;simp_all;done)
theorem tZ (q:Qy):Tri Tryz.prog 13 [.d (.agg (qyR q)), .d (.agg (qyR q))] [] (λr=>r= .d (.bool true)):=by
 obtain⟨told,parts⟩:=q
 have ht:(told.map cE).length=told.length:=List.length_map ..
 have hp:(parts.map bI).length=parts.length:=List.length_map ..
 refine aF false [2,3] hty Tryz.func13 rfl (kp [0,1,2,3,4,5,6,7,8,9,25,30,43,48,67,71,82]) [] _ _ _ (by simp [Tryz.f13]) (by simp) ?_
 ((conv=>whnf);repeat ((first|(intro hq;try simp only [lnS]at hq)|refine sI ?_|refine .intro _ (.intro rfl ?_));(conv=>whnf)))
 refine aC (λh1=>absurd rfl h1) (λh1=> ?_)
 ((conv=>whnf);repeat ((first|(intro hq;try simp only [lnS]at hq)|refine sI ?_|refine .intro _ (.intro rfl ?_));(conv=>whnf)))
 refine aC (λh1=>absurd rfl h1) (λh1=> ?_)
 ((conv=>whnf);repeat ((first|(intro hq;try simp only [lnS]at hq)|refine sI ?_|refine .intro _ (.intro rfl ?_));(conv=>whnf)))
 refine aL hty (λj:Nat=>([(2, .ea 2 [qyR ⟨told,parts⟩] 0 0),(3, .ea 2 [qyR ⟨told,parts⟩] 0 0),(5, .d (.int .i64 j))],[])) (λj=>j<=told.length) (λj=>told.length - j) 0 (by omega) ⟨by repeat' (first|exact trivial|exact rfl|refine And.intro ?_ ?_),by repeat' (first|exact trivial|exact rfl|refine And.intro ?_ ?_)⟩ ?_
 intro j hj
 ((conv=>whnf);repeat ((first|(intro hq;try simp only [lnS]at hq)|refine sI ?_|refine .intro _ (.intro rfl ?_));(conv=>whnf)))
 rw [ht]
 refine aB (λh2=> ?_) (λh2=> ?_)
 ·have hjl:j < told.length:=by omega
  have hrow:(told.map cE)[((j:Nat):Int).toNat]? =some (cE told[j]):=aZ hjl
  generalize told[j]=s at hrow
  ((conv=>whnf);repeat' ((first|(intro hq;(try simp only [lnS]at hq);(try rewrite [List.length_map]))|refine sJ ?_|refine .intro _ (.intro rfl ?_)|refine exL (k:= ?_)|(refine⟨_,hrow, ?_⟩)|refine dwR ?_|((first|refine aB ?_ ?_|refine aC ?_ ?_)<;>intro hb<;>(first|exact ddX hb|try simp only [lnS]at hb))|(refine aA ?_ ?_<;>intro hb<;>try exact dsX hb))<;>(conv=>whnf)))
  all_goals first|(exfalso;simp_all;done)|exact⟨j+1,by dsimp only;omega,by dsimp only;omega,⟨by repeat' (first|exact trivial|exact rfl|refine And.intro ?_ ?_),by repeat' (first|exact trivial|exact rfl|refine And.intro ?_ ?_)⟩⟩
 clear hj h2
 ((conv=>whnf);repeat ((first|(intro hq;try simp only [lnS]at hq)|refine sI ?_|refine .intro _ (.intro rfl ?_));(conv=>whnf)))
 refine aL hty (λj:Nat=>([(2, .ea 2 [qyR ⟨told,parts⟩] 0 0),(3, .ea 2 [qyR ⟨told,parts⟩] 0 0),(6, .d (.int .i64 j))],[])) (λj=>j<=parts.length) (λj=>parts.length - j) 0 (by omega) ⟨by repeat' (first|exact trivial|exact rfl|refine And.intro ?_ ?_),by repeat' (first|exact trivial|exact rfl|refine And.intro ?_ ?_)⟩ ?_
 intro j hj
 ((conv=>whnf);repeat ((first|(intro hq;try simp only [lnS]at hq)|refine sI ?_|refine .intro _ (.intro rfl ?_));(conv=>whnf)))
 rw [hp]
 refine aB (λh2=> ?_) (λh2=> ?_)
 ·have hjl:j < parts.length:=by omega
  have hrow:(parts.map bI)[((j:Nat):Int).toNat]? =some (bI parts[j]):=aZ hjl
  generalize parts[j]=p at hrow
  have hpl:(p.map atR).length=p.length:=List.length_map ..
  ((conv=>whnf);repeat ((first|(refine⟨_,hrow, ?_⟩)|(intro hq;try simp only [lnS]at hq)|refine sI ?_|refine .intro _ (.intro rfl ?_));(conv=>whnf)))
  refine aC (λh1=>absurd rfl h1) (λh1=> ?_)
  ((conv=>whnf);repeat ((first|(intro hq;try simp only [lnS]at hq)|refine sI ?_|refine .intro _ (.intro rfl ?_));(conv=>whnf)))
  refine aL hty (λk:Nat=>([(2, .ea 2 [qyR ⟨told,parts⟩] 0 0),(3, .ea 2 [qyR ⟨told,parts⟩] 0 0),(6, .d (.int .i64 j)),(7, .d (.sl 6 (p.map atR))),(8, .d (.sl 6 (p.map atR))),(9, .d (.int .i64 k))],[])) (λk=>k<=p.length) (λk=>p.length - k) 0 (by omega) ⟨by repeat' (first|exact trivial|exact rfl|refine And.intro ?_ ?_),by repeat' (first|exact trivial|exact rfl|refine And.intro ?_ ?_)⟩ ?_
  intro k hk
  ((conv=>whnf);repeat ((first|(intro hq;try simp only [lnS]at hq)|refine sI ?_|refine .intro _ (.intro rfl ?_));(conv=>whnf)))
  rw [hpl]
  refine aB (λh3=> ?_) (λh3=> ?_)
  ·have hkl:k < p.length:=by omega
   have hrow2:(p.map atR)[((k:Nat):Int).toNat]? =some (atR p[k]):=aZ hkl
   generalize p[k]=a at hrow2
   obtain⟨kd,nm,x,y,lo,hi⟩:=a
   ((conv=>whnf);repeat' ((first|(intro hq;(try simp only [lnS]at hq);(try rewrite [List.length_map]))|refine sJ ?_|refine .intro _ (.intro rfl ?_)|refine exL (k:= ?_)|(refine⟨_,hrow2, ?_⟩)|refine dwR ?_|((first|refine aB ?_ ?_|refine aC ?_ ?_)<;>intro hb<;>(first|exact ddX hb|try simp only [lnS]at hb))|(refine aA ?_ ?_<;>intro hb<;>try exact dsX hb))<;>(conv=>whnf)))
   all_goals first|(exfalso;simp_all;done)|exact⟨k+1,by dsimp only;omega,by dsimp only;omega,⟨by repeat' (first|exact trivial|exact rfl|refine And.intro ?_ ?_),by repeat' (first|exact trivial|exact rfl|refine And.intro ?_ ?_)⟩⟩
  ·((conv=>whnf);repeat ((first|(intro hq;try simp only [lnS]at hq)|refine sI ?_|refine .intro _ (.intro rfl ?_));(conv=>whnf)))
   exact⟨j+1,by dsimp only;omega,by dsimp only;omega,⟨by repeat' (first|exact trivial|exact rfl|refine And.intro ?_ ?_),by repeat' (first|exact trivial|exact rfl|refine And.intro ?_ ?_)⟩⟩
 ·((conv=>whnf);repeat ((first|(intro hq;try simp only [lnS]at hq)|refine sI ?_|refine .intro _ (.intro rfl ?_));(conv=>whnf)))
  rfl
theorem aKc {n:Nat}(h:n < 9223372036854775808):IntKind.u64.wrap ((n:Nat):Int)=((n:Nat):Int):=yJ _ (by omega)
theorem aMc (z:Int):IntKind.u64.wrap z=((uN z:Nat):Int):=by
 unfold uN
 rw [Int.toNat_of_nonneg (Int.emod_nonneg _ (by decide))]
 rfl
theorem aLg (z:Int) (n:Nat):(((uN z:Nat):Int)).tmod ((n:Nat):Int)=((uN z % n:Nat):Int):=by
 rw [Int.tmod_eq_emod_of_nonneg (Int.natCast_nonneg _),Int.natCast_emod]
end Go.Proofs.YtleihcnongldbaaGreatDoor
namespace Go.Proofs.YtleihcnongldbaaGreatDoor
open Go.Proofs Go.RowKit
set_option maxRecDepth 10000
attribute [local irreducible] aO aH Tri aG YVC cL bB
theorem gW (bs more:List UInt8) (cut:Int) (hb:bs.length<=1000000) (hm:more.length<=6000):Tri Tryz.prog 26 [.d (.sl 1 (bs.map aV)), .ea 1 [[.sl 1 (more.map aV)]] 0 0, .ea 1 [[.int .i64 cut]] 0 0] [] (λr=>r= .d (.sl 1 ((tX more cut bs).map aV))):=by
 have hbl:=jW bs
 have hml:=jW more
 refine Tri.says ?_
 unfold tX
 refine aJ hty Tryz.func26 rfl (kp [0,1,2,4,7,15]) [] _ _ _ (by simp [Tryz.f26]) (by simp) ?_
 ((conv=>whnf);repeat ((first|(intro hq;try simp only [lnS]at hq)|refine sI ?_|refine .intro _ (.intro rfl ?_));(conv=>whnf)))
 rw [hml]
 by_cases h1:0 < more.length
 ·rw [if_pos h1]
  refine aB (λ_=> ?_) (λh=>absurd h (by omega))
  ((conv=>whnf);repeat ((first|(intro hq;try simp only [lnS]at hq)|refine sI ?_|refine .intro _ (.intro rfl ?_));(conv=>whnf)))
  (refine aEh (id:=2) hty (.first 1 (.alt 0 (.alt 2 (.alt 3 (.alt 4 (.first 5 .done) .stop) .stop) (.alt 3 (.alt 2 (.alt 4 (.first 5 .done) .stop) .stop) .stop)) (.alt 3 (.alt 0 (.alt 2 (.alt 4 (.first 5 .done) .stop) .stop) .stop) .stop))) (by kernel_rfl) (by kernel_rfl) ?_)
  ((conv=>whnf);repeat' ((first|(intro hq;(try simp only [lnS]at hq);(try rewrite [List.length_map]))|refine sJ ?_|refine .intro _ (.intro rfl ?_)|refine exL (k:= ?_)|exact trivial|(refine And.intro ?_ ?_)|refine dwR ?_|((first|refine aB ?_ ?_|refine aC ?_ ?_)<;>intro hb<;>(first|exact ddX hb|try simp only [lnS]at hb))|(refine aA ?_ ?_<;>intro hb<;>try exact dsX hb))<;>(conv=>whnf)))
  all_goals
   refine⟨_, .refl _, ?_⟩
   show SV.d (D.sl 1 (List.map aV bs++List.map aV more))=_
   rw [List.map_append]
 ·rw [if_neg h1]
  refine aB (λh=>absurd h (by omega)) (λ_=> ?_)
  ((conv=>whnf);repeat ((first|(intro hq;try simp only [lnS]at hq)|refine sI ?_|refine .intro _ (.intro rfl ?_));(conv=>whnf)))
  rw [hbl]
  by_cases h2:bs.length=0
  ·rw [if_pos h2]
   ((conv=>whnf);repeat' ((first|(intro hq;(try simp only [lnS]at hq);(try rewrite [List.length_map]))|refine sJ ?_|refine .intro _ (.intro rfl ?_)|refine exL (k:= ?_)|refine dwR ?_|((first|refine aB ?_ ?_|refine aC ?_ ?_)<;>intro hb<;>(first|exact ddX hb|try simp only [lnS]at hb))|(refine aA ?_ ?_<;>intro hb<;>try exact dsX hb))<;>(conv=>whnf)))
   all_goals first|exact⟨_,eG.nil,rfl⟩|(exfalso;omega)
  ·rw [if_neg h2]
   ((conv=>whnf);repeat ((first|(intro hq;try simp only [lnS]at hq)|refine sI ?_|refine .intro _ (.intro rfl ?_));(conv=>whnf)))
   refine aB (λh=>absurd h (by omega)) (λ_=> ?_)
   ((conv=>whnf);repeat ((first|(intro hq;try simp only [lnS]at hq)|refine sI ?_|refine .intro _ (.intro rfl ?_));(conv=>whnf)))
   rw [hbl,aKc (by omega),aMc cut]
   refine And.intro (by omega) ?_
   rw [aLg]
   have hk:uN cut % bs.length < bs.length:=Nat.mod_lt _ (by omega)
   generalize uN cut % bs.length=k at *
   have hw:IntKind.i64.wrap ((k:Nat):Int)=((k:Nat):Int):=IntWalk.i64_in _ (by omega)
   ((conv=>whnf);repeat ((first|(intro hq;try simp only [lnS]at hq)|refine sI ?_|refine .intro _ (.intro rfl ?_));(conv=>whnf)))
   rw [hw]
   ((conv=>whnf);repeat ((first|(intro hq;try simp only [lnS]at hq)|refine sI ?_|refine .intro _ (.intro rfl ?_));(conv=>whnf)))
   refine⟨_, .refl _, ?_⟩
   show SV.d (D.sl 1 (List.drop 0 (List.take ((k:Nat):Int).toNat (List.map aV bs))))=_
   rw [Int.toNat_natCast,List.drop_zero,List.map_take]
end Go.Proofs.YtleihcnongldbaaGreatDoor
namespace Go.Proofs.YtleihcnongldbaaGreatDoor
open Go.RowKit
section
variable {P:Program}
def aKe (ti:TypeId->Option TI) (n:TypeId):TypeId->Option TI:= λt=>if t=n then none else ti t
theorem aH0 {ti:TypeId->Option TI}(h:cT P ti) (n:TypeId):cT P (aKe ti n):=by
 intro t T e
 unfold aKe at e
 split at e
 ·cases e
 ·exact h t T e
theorem aC9 {o:Oper}{t t':TypeId}{x y:Operand}(ho:o.op= .binOp .add t x y t') {fr:Fr}{hp:Hp}{K:SV->Prop}{k:IntKind}{a b:Int}(hx:evO fr x=some (.d (.int k a))) (hy:evO fr y=some (.d (.int k b))) (hk:K (.d (.int k (k.wrap (a+b))))):cL P o fr hp K:=by
 intro E ρ c w hm hf
 have h1:=aU hf hx
 have h2:=aU hf hy
 exact⟨_,_,λw' _=>by simp [execOp,ho,h1.int_inv,h2.int_inv,iY,binOp,Op.intArith], .d _ _ (.int _ _),hk⟩
theorem aHj {o:Oper}{t t':TypeId}{x y:Operand}(ho:o.op= .binOp .quo t x y t') {fr:Fr}{hp:Hp}{K:SV->Prop}{k:IntKind}{a b:Int}(hx:evO fr x=some (.d (.int k a))) (hy:evO fr y=some (.d (.int k b))) (hb:b≠0) (hk:K (.d (.int k (k.wrap (a.tdiv b))))):cL P o fr hp K:=by
 intro E ρ c w hm hf
 have h1:=aU hf hx
 have h2:=aU hf hy
 exact⟨_,_,λw' _=>by simp [execOp,ho,h1.int_inv,h2.int_inv,iY,binOp,Op.intDiv,hb], .d _ _ (.int _ _),hk⟩
theorem tT {ti:TypeId->Option TI}(hti:cT P ti) {o:Oper}{op:BinOp}{t t':TypeId}{x y:Operand}(ho:o.op= .binOp op t x y t') {fr:Fr}{hp:Hp}{K:SV->Prop}{s r:SV}(hx:evO fr x=some s) (hy:evO fr y=some r) (h:aNr P ti op t s r K):cL P o fr hp K:=by
 refine aJ7 hti ho ?_
 unfold ev
 rw [hx]
 simp only
 rw [hy]
 exact h
end
end Go.Proofs.YtleihcnongldbaaGreatDoor
namespace Go.Proofs.YtleihcnongldbaaGreatDoor
open Go.Proofs Go.RowKit
set_option maxRecDepth 10000
attribute [local irreducible] aO aH Tri aG YVC cL bB
def tyW:TypeId->Option TI:=aKe ty 3
theorem aQ4:cT Tryz.prog tyW:=aH0 hty _
theorem aMw:cT Tryz.prog ty:=hty
theorem xS (q:Qy):Tri Tryz.prog 8 [.d (.agg (qyR q))] [] (λr=> ∃b,r= .d (.bool b)):=by
 have hty:=aQ4
 obtain⟨told,parts⟩:=q
 refine aF false [1,5,7] hty Tryz.func8 rfl (kp [0,1,2,3,5,7,12,13,14,15,25,26,27,28]) [] _ _ _ (by simp [Tryz.f8]) (by decide) ?_
 ((conv=>whnf);repeat ((first|(intro hq;try simp only [lnS]at hq)|refine sI ?_|refine .intro _ (.intro rfl ?_));(conv=>whnf)))
 refine aL hty (λy:Nat×Int=>([(1, .ea 2 [qyR ⟨told,parts⟩] 0 0),(12, .d (.sl 1 (parts.map bI))),(13, .d (.int .i64 parts.length)),(3, .d (.int .i64 y.2)),(14, .d (.int .i64 y.1))],[])) (λy=>y.1<=parts.length) (λy=>parts.length - y.1) (0,(told.map cE).length) (by dsimp only;omega) ⟨by repeat' (first|exact trivial|exact rfl|(simp only [List.length_map];exact rfl)|refine And.intro ?_ ?_),trivial⟩ ?_
 rintro⟨j,z⟩ hj
 dsimp only at hj
 have hpl:(parts.map bI).length=parts.length:=List.length_map ..
 ((conv=>whnf);repeat ((first|(refine tT aMw rfl rfl rfl ?_)|(intro hq;try simp only [lnS]at hq)|refine sI ?_|refine .intro _ (.intro rfl ?_));(conv=>whnf)))
 refine aB (λh1=> ?_) (λh1=> ?_)
 ·have hjl:j < parts.length:=by omega
  have hrow:(parts.map bI)[((j:Nat):Int).toNat]? =some (bI parts[j]):=aZ hjl
  generalize parts[j]=p at hrow
  have hal:(p.map atR).length=p.length:=List.length_map ..
  ((conv=>whnf);repeat ((first|(refine⟨_,hrow, ?_⟩)|(refine aC9 rfl rfl rfl ?_)|(intro hq;try simp only [lnS]at hq)|refine sI ?_|refine .intro _ (.intro rfl ?_));(conv=>whnf)))
  generalize IntKind.i64.wrap (z+IntKind.i64.wrap (1+(((p.map atR).length:Nat):Int)))=z1
  refine aL hty (λy:Nat×Int=>([(1, .ea 2 [qyR ⟨told,parts⟩] 0 0),(12, .d (.sl 1 (parts.map bI))),(13, .d (.int .i64 parts.length)),(14, .d (.int .i64 j)),(25, .d (.sl 6 (p.map atR))),(26, .d (.int .i64 p.length)),(3, .d (.int .i64 y.2)),(27, .d (.int .i64 y.1))],[])) (λy=>y.1<=p.length) (λy=>p.length - y.1) (0,z1) (by dsimp only;omega) ⟨by repeat' (first|exact trivial|exact rfl|(simp only [List.length_map];exact rfl)|refine And.intro ?_ ?_),trivial⟩ ?_
  rintro⟨k,u⟩ hk
  dsimp only at hk
  ((conv=>whnf);repeat ((first|(refine tT aMw rfl rfl rfl ?_)|(intro hq;try simp only [lnS]at hq)|refine sI ?_|refine .intro _ (.intro rfl ?_));(conv=>whnf)))
  refine aB (λh2=> ?_) (λh2=> ?_)
  ·have hkl:k < p.length:=by omega
   have hrow2:(p.map atR)[((k:Nat):Int).toNat]? =some (atR p[k]):=aZ hkl
   generalize p[k]=a at hrow2
   obtain⟨kd,nm,x,y,lo,hi⟩:=a
   ((conv=>whnf);repeat ((first|(refine⟨_,hrow2, ?_⟩)|(refine tT aMw rfl rfl rfl ?_;refine And.intro (show _/\_ by omega) ?_)|(refine aC9 rfl rfl rfl ?_)|(refine aHj rfl rfl rfl (by decide) ?_)|(intro hq;try simp only [lnS]at hq)|refine sI ?_|refine .intro _ (.intro rfl ?_));(conv=>whnf)))
   exact⟨(k+1,_),by dsimp only;omega,by dsimp only;omega,⟨by repeat' (first|exact trivial|exact rfl|refine And.intro ?_ ?_),by repeat' (first|exact trivial|exact rfl|refine And.intro ?_ ?_)⟩⟩
  ·((conv=>whnf);repeat ((first|(refine tT aMw rfl rfl rfl ?_;refine And.intro (show _/\_ by omega) ?_)|(intro hq;try simp only [lnS]at hq)|refine sI ?_|refine .intro _ (.intro rfl ?_));(conv=>whnf)))
   exact⟨(j+1,_),by dsimp only;omega,by dsimp only;omega,⟨by repeat' (first|exact trivial|exact rfl|refine And.intro ?_ ?_),by repeat' (first|exact trivial|exact rfl|refine And.intro ?_ ?_)⟩⟩
 ·((conv=>whnf);repeat ((first|(refine tT aMw rfl rfl rfl ?_)|(intro hq;try simp only [lnS]at hq)|refine sI ?_|refine .intro _ (.intro rfl ?_));(conv=>whnf)))
  exact⟨_,rfl⟩
end Go.Proofs.YtleihcnongldbaaGreatDoor
namespace Go.Proofs.YtleihcnongldbaaGreatDoor
open Go.Proofs Go.RowKit
set_option maxRecDepth 10000
attribute [local irreducible] aO aH Tri aG YVC cL bB
def mkD (y:Nat->UInt8):Dig:=⟨[y 0,y 1,y 2,y 3,y 4,y 5,y 6,y 7,y 8,y 9,y 10,y 11,y 12,y 13,y 14,y 15,y 16,y 17,y 18,y 19,y 20,y 21,y 22,y 23,y 24,y 25,y 26,y 27,y 28,y 29,y 30,y 31],rfl⟩
theorem lR (d:Dig): ∃y,d=mkD y:=by
 obtain⟨l,h⟩:=d
 obtain⟨y0,y1,y2,y3,y4,y5,y6,y7,y8,y9,y10,y11,y12,y13,y14,y15,y16,y17,y18,y19,y20,y21,y22,y23,y24,y25,y26,y27,y28,y29,y30,y31,rfl⟩:=fM h
 exact⟨λi=>[y0,y1,y2,y3,y4,y5,y6,y7,y8,y9,y10,y11,y12,y13,y14,y15,y16,y17,y18,y19,y20,y21,y22,y23,y24,y25,y26,y27,y28,y29,y30,y31].getD i 0,rfl⟩
end Go.Proofs.YtleihcnongldbaaGreatDoor
namespace Go.Proofs.YtleihcnongldbaaGreatDoor
open Go.Proofs Go.RowKit
set_option maxRecDepth 10000
attribute [local irreducible] aO aH Tri aG YVC cL bB
theorem aIb (bs:List UInt8) (l:List Ax) (hl: ∀x∈l,SzAx x):Tri Tryz.prog 7 [.d (.sl 1 (bs.map aV)), .d (.sl 16 (l.map axR))] [] (λr=>r= .d (.bool (decide (bs.length<=6000) && (decide ((l.length:Int)<=12) && l.all uD)))):=by
 have hbl:=jW bs
 have hf:=mW l 12 hl
 generalize (decide ((l.length:Int)<=12) && l.all uD)=v at *
 refine aF false [] hty Tryz.func7 rfl (kp [0,1,4]) [] _ _ _ (by simp [Tryz.f7]) (by simp) ?_
 ((conv=>whnf);repeat ((first|(intro hq;try simp only [lnS]at hq)|refine sI ?_|refine .intro _ (.intro rfl ?_));(conv=>whnf)))
 rw [hbl]
 by_cases h:bs.length<=6000
 ·rw [decide_eq_true h]
  ((conv=>whnf);repeat' ((first|(intro hq;(try simp only [lnS]at hq);(try rewrite [List.length_map]))|refine sJ ?_|refine .intro _ (.intro rfl ?_)|refine exL (k:= ?_)|(refine aD [] hf trivial (λr hs=> ?_);subst hs)|refine dwR ?_|((first|refine aB ?_ ?_|refine aC ?_ ?_)<;>intro hb<;>(first|exact ddX hb|try simp only [lnS]at hb))|(refine aA ?_ ?_<;>intro hb<;>try exact dsX hb))<;>(conv=>whnf)))
  all_goals first|rfl|(exfalso;omega)
 ·rw [decide_eq_false h]
  ((conv=>whnf);repeat' ((first|(intro hq;(try simp only [lnS]at hq);(try rewrite [List.length_map]))|refine sJ ?_|refine .intro _ (.intro rfl ?_)|refine exL (k:= ?_)|(refine aD [] hf trivial (λr hs=> ?_);subst hs)|refine dwR ?_|((first|refine aB ?_ ?_|refine aC ?_ ?_)<;>intro hb<;>(first|exact ddX hb|try simp only [lnS]at hb))|(refine aA ?_ ?_<;>intro hb<;>try exact dsX hb))<;>(conv=>whnf)))
  all_goals first|rfl|(exfalso;omega)
theorem pN (a:Al) (hl: ∀x∈a.axioms,SzAx x):Tri Tryz.prog 14 [.d (.agg (alR a))] [] (λr=> ∃b,r= .d (.bool b)):=by
 obtain⟨nm,d1,ax,d2,ix,ps,pt⟩:=a
 obtain⟨y,rfl⟩:=lR d1
 obtain⟨z,rfl⟩:=lR d2
 have hf:=mW ax 12 hl
 generalize (decide ((ax.length:Int)<=12) && ax.all uD)=v at *
 refine aF false [1] hty Tryz.func14 rfl (kp [0,1,2]) [] _ _ _ (by simp [Tryz.f14]) (by simp) ?_
 ((conv=>whnf);repeat' ((first|(intro hq;(try simp only [lnS]at hq);(try rewrite [List.length_map]))|refine sJ ?_|refine .intro _ (.intro rfl ?_)|refine exL (k:= ?_)|(refine aD [] hf trivial (λr hs=> ?_);subst hs)|refine dwR ?_|((first|refine aB ?_ ?_|refine aC ?_ ?_)<;>intro hb<;>(first|exact ddX hb|try simp only [lnS]at hb))|(refine aA ?_ ?_<;>intro hb<;>try exact dsX hb))<;>(conv=>whnf)))
 all_goals exact⟨_,rfl⟩
end Go.Proofs.YtleihcnongldbaaGreatDoor
namespace Go.Proofs.YtleihcnongldbaaGreatDoor
open Go.Proofs
theorem aC6 {l:List Ax}(h:(fF l).2=0):cZ (rAs 9) fF [] 280 (fF l).1=(l,0):=by
 have hw:fF l=((fF l).1,0):=by rw [<-h]
 exact lT hw (by have:=aJ4 hw [];rwa [List.append_nil]at this)
theorem aNh {l:List Ax}(h:(fF l).2=0) (more:List UInt8) (cut:Int):cZ (rAs 9) fF [] 280 (tX more cut (fF l).1)=([],280):=by
 have hw:fF l=((fF l).1,0):=by rw [<-h]
 exact xY (Q:= λ_=>True) (λ_ _ _ _=>trivial) (λy d _ h e=>aJ4 h e) trivial hw (aJz hw)
theorem aC2 {c:Cm}(h:(fI c).2=0):cZ rCm fI cm0 280 (fI c).1=(c,0):=by
 have hw:fI c=((fI c).1,0):=by rw [<-h]
 exact lT hw (by have:=aJ3 hw [];rwa [List.append_nil]at this)
theorem aN5 {c:Cm}(h:(fI c).2=0) (more:List UInt8) (cut:Int):cZ rCm fI cm0 280 (tX more cut (fI c).1)=(cm0,280):=by
 have hw:fI c=((fI c).1,0):=by rw [<-h]
 exact xY (Q:= λ_=>True) (λ_ _ _ _=>trivial) (λy d _ h e=>aJ3 h e) trivial hw (aJy hw)
theorem aBg {q:Qy}(h:(gX q).2=0):cZ rQy gX qy0 280 (gX q).1=(q,0):=by
 have hw:gX q=((gX q).1,0):=by rw [<-h]
 exact lT hw (by have:=aJ2 hw [];rwa [List.append_nil]at this)
theorem aMk {q:Qy}(h:(gX q).2=0) (more:List UInt8) (cut:Int):cZ rQy gX qy0 280 (tX more cut (gX q).1)=(qy0,280):=by
 have hw:gX q=((gX q).1,0):=by rw [<-h]
 exact xY (Q:= λ_=>True) (λ_ _ _ _=>trivial) (λy d _ h e=>aJ2 h e) trivial hw (aJx hw)
theorem aC8 {a:Al}(hi:InI a.index) (h:(fG a).2=0):cZ (rAl 9) fG al0 280 (fG a).1=(a,0):=by
 have hw:fG a=((fG a).1,0):=by rw [<-h]
 exact lT hw (by have:=aJ5 hi hw [];rwa [List.append_nil]at this)
theorem aNm {a:Al}(hi:InI a.index) (h:(fG a).2=0) (more:List UInt8) (cut:Int):cZ (rAl 9) fG al0 280 (tX more cut (fG a).1)=(al0,280):=by
 have hw:fG a=((fG a).1,0):=by rw [<-h]
 exact xY (Q:= λa=>InI a.index) (λ_ _ _ h=>aKu h) (λy d hq h e=>aJ5 hq h e) hi hw (aK0 hw)
end Go.Proofs.YtleihcnongldbaaGreatDoor
