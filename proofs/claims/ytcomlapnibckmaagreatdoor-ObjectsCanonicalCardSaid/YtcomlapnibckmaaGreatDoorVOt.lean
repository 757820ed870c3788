/-
  Objects: the reader reads lists. Objects: the reader reads commits. Objects: the reader reads concepts. Objects: the reader reads axioms, queries and alignments.
  Conditions: none.
-/
import Derived.Test.YtcomlapnibckmaaGreatDoorVOn
set_option linter.unnecessarySimpa false
set_option linter.unusedSectionVars false
set_option linter.unusedSimpArgs false
set_option linter.unusedVariables false
set_option maxHeartbeats 16000000
namespace Go.Proofs.YtcomlapnibckmaaGreatDoor
open Go.Proofs Go.RowKit
set_option maxRecDepth 10000
attribute [local irreducible] aN aH Tri aF YVC cM bB
def aA0 (z:Int):List D:=[.int .i64 z]
theorem cH {α:Type}{r:Rd α}{k:Nat}(h:pN k r) {b c:List UInt8}{x:α}(e:r b=some (x,c)):c.length+k<=b.length:=by
 obtain⟨a,h1,h2⟩:=h b x c e
 rw [h1,List.length_append];omega
theorem eZ {α:Type}{r:Rd α}{b c d:List UInt8}{l:List α}{x:α}(h:kN r l.length b=some (l,c)) (e:r c=some (x,d)):kN r (l++[x]).length b=some (l++[x],d):=by
 rw [List.length_append,List.length_singleton,lN,h]
 simp only [Option.bind_some,e,Option.map_some]
theorem eY {α:Type}{r:Rd α}{b c:List UInt8}{l:List α}{N:Nat}(h:kN r l.length b=some (l,c)) (e:r c=none) (hN:l.length < N):kN r N b=none:=by
 refine aB1 (n:=l.length+1) ?_ (by omega)
 rw [lN,h]
 simp only [Option.bind_some,e,Option.map_none]
theorem gI {bs c:List UInt8}{N:Nat}(h:zX 4 bs=some (N,c)):N < 4294967296:=by
 obtain⟨l,h1,rfl⟩:=wX h
 have hl:l.length=4:=by
  unfold kM at h1
  split at h1
  ·injection h1 with h1;injection h1 with h1 _
   rw [<-h1,List.length_take];omega
  ·cases h1
 exact rE 4 l hl
theorem vV {N k:Nat}(h:k < N) (hN:N < 4294967296):IntKind.u64.wrap (((N - k:Nat):Int) - 1)=((N - (k+1):Nat):Int):=by
 have e:((N - k:Nat):Int) - 1=((N - (k+1):Nat):Int):=by omega
 rw [e]
 exact wM _ (by omega)
theorem aBe:RdT 107 [.fn 106 [] []] (dD wZ) (λl=> .d (.sl 1 (l.map aA0))):=by
 intro bs hb
 refine aH.says ?_
 refine aI false [] hty Tryz.func107 rfl (kp [0,1,4,5,9]) 100 (by simp [Tryz.f107]) ?_
 ((conv=>whnf);repeat ((first|(intro hq;try simp only [lnS]at hq)|refine sI ?_|refine .intro _ (.intro rfl ?_));(conv=>whnf)))
 refine RdT.call (dP 4 (by decide)) rfl (λ_=>rfl) bs hb rfl (λN c0 e1=> ?_) (λe1 b=>⟨aL e1,b,rfl⟩)
 have hbind:dD wZ bs=kN wZ N c0:=bQ e1
 have hc0:=cH (dG 4) e1
 have hN:=gI e1
 clear e1
 ((conv=>whnf);repeat ((first|(intro hq;try simp only [lnS]at hq)|refine sI ?_|refine .intro _ (.intro rfl ?_));(conv=>whnf)))
 refine aN.own 4 104 3 1 rfl (cD (by with_unfolding_all exact rfl)) ?_
 refine aQ hty (λy:List Int×List UInt8=>([(0, .ptr 3 0),(1, .fn 106 [] []),(4, .osl 104 1 (y.1.map aA0)),(5, .d (.int .u64 ((N - y.1.length:Nat):Int)))],[(104, .own 3 1 (y.1.map aA0).length),(3,rdO y.2)])) (λy=>kN wZ y.1.length c0=some y/\y.1.length<=N/\y.2.length+y.1.length<=c0.length) (λy=>N - y.1.length) ([],c0) ⟨rfl,Nat.zero_le _,Nat.le_refl _⟩ ⟨by repeat' (first|exact trivial|exact rfl|refine And.intro ?_ ?_),by repeat' (first|exact trivial|exact rfl|refine And.intro ?_ ?_)⟩ ?_
 rintro⟨l,c⟩ ⟨h1,h2,h3⟩
 dsimp only at h1 h2 h3
 have hml:(l.map aA0).length=l.length:=List.length_map ..
 have hb63:(l.map aA0).length+1<=9223372036854775807:=by rw [hml];omega
 have hb48:((l.map aA0).length+1)* 8<=140737488355328:=by rw [hml];omega
 ((conv=>whnf);repeat ((first|(intro hq;try simp only [lnS]at hq)|refine sI ?_|refine .intro _ (.intro rfl ?_));(conv=>whnf)))
 refine aB (λh4=> ?_) (λh4=> ?_)
 ·have hlt:l.length < N:=by dsimp only at h4;omega
  have hw:=vV hlt hN
  refine RdT.call (e:= λx=>SV.d (.int .i64 x)) gL rfl (λ_=>rfl) c (by omega) rfl (λx d e2=> ?_) (λe2 b=>⟨hbind.trans (eY h1 e2 hlt),b,rfl⟩)
  have hd:=cH dH e2
  ((conv=>whnf);repeat ((first|(refine And.intro hb63 ?_)|(refine And.intro hb48 ?_)|(intro hq;try simp only [lnS]at hq)|refine sI ?_|refine .intro _ (.intro rfl ?_));(conv=>whnf)))
  rw [hw]
  refine⟨(l++[_],d),⟨eZ h1 e2,by rw [List.length_append];exact hlt,by dsimp only;rw [List.length_append,List.length_singleton];omega⟩,by dsimp only;rw [List.length_append,List.length_singleton];omega, ?_⟩
  dsimp only
  rw [List.map_append,List.length_append,List.length_append]
  exact⟨by repeat' (first|exact trivial|exact rfl|refine And.intro ?_ ?_),by repeat' (first|exact trivial|exact rfl|refine And.intro ?_ ?_)⟩
 ·have hlN:l.length=N:=by dsimp only at h4;omega
  subst hlN
  ((conv=>whnf);repeat ((first|(intro hq;try simp only [lnS]at hq)|refine sI ?_|refine .intro _ (.intro rfl ?_));(conv=>whnf)))
  exact⟨_,dJ.osl,l,c,hbind.trans h1,rfl,rfl⟩
theorem uC:RdT 99 [.fn 100 [] []] (dD tV) (λl=> .d (.sl 1 (l.map cF))):=by
 intro bs hb
 refine aH.says ?_
 refine aI false [] hty Tryz.func99 rfl (kp [0,1,4,5,9]) 100 (by simp [Tryz.f99]) ?_
 ((conv=>whnf);repeat ((first|(intro hq;try simp only [lnS]at hq)|refine sI ?_|refine .intro _ (.intro rfl ?_));(conv=>whnf)))
 refine RdT.call (dP 4 (by decide)) rfl (λ_=>rfl) bs hb rfl (λN c0 e1=> ?_) (λe1 b=>⟨aL e1,b,rfl⟩)
 have hbind:dD tV bs=kN tV N c0:=bQ e1
 have hc0:=cH (dG 4) e1
 have hN:=gI e1
 clear e1
 ((conv=>whnf);repeat ((first|(intro hq;try simp only [lnS]at hq)|refine sI ?_|refine .intro _ (.intro rfl ?_));(conv=>whnf)))
 refine aN.own 4 104 9 1 rfl (cD (by with_unfolding_all exact rfl)) ?_
 refine aQ hty (λy:List (List UInt8)×List UInt8=>([(0, .ptr 3 0),(1, .fn 100 [] []),(4, .osl 104 1 (y.1.map cF)),(5, .d (.int .u64 ((N - y.1.length:Nat):Int)))],[(104, .own 9 1 (y.1.map cF).length),(3,rdO y.2)])) (λy=>kN tV y.1.length c0=some y/\y.1.length<=N/\y.2.length+y.1.length<=c0.length) (λy=>N - y.1.length) ([],c0) ⟨rfl,Nat.zero_le _,Nat.le_refl _⟩ ⟨by repeat' (first|exact trivial|exact rfl|refine And.intro ?_ ?_),by repeat' (first|exact trivial|exact rfl|refine And.intro ?_ ?_)⟩ ?_
 rintro⟨l,c⟩ ⟨h1,h2,h3⟩
 dsimp only at h1 h2 h3
 have hml:(l.map cF).length=l.length:=List.length_map ..
 have hb63:(l.map cF).length+1<=9223372036854775807:=by rw [hml];omega
 have hb48:((l.map cF).length+1)* 16<=140737488355328:=by rw [hml];omega
 ((conv=>whnf);repeat ((first|(intro hq;try simp only [lnS]at hq)|refine sI ?_|refine .intro _ (.intro rfl ?_));(conv=>whnf)))
 refine aB (λh4=> ?_) (λh4=> ?_)
 ·have hlt:l.length < N:=by dsimp only at h4;omega
  have hw:=vV hlt hN
  refine RdT.call (e:= λx=>SV.d (.str x)) kC rfl (λ_=>rfl) c (by omega) rfl (λx d e2=> ?_) (λe2 b=>⟨hbind.trans (eY h1 e2 hlt),b,rfl⟩)
  have hd:=cH bY e2
  ((conv=>whnf);repeat ((first|(refine And.intro hb63 ?_)|(refine And.intro hb48 ?_)|(intro hq;try simp only [lnS]at hq)|refine sI ?_|refine .intro _ (.intro rfl ?_));(conv=>whnf)))
  rw [hw]
  refine⟨(l++[_],d),⟨eZ h1 e2,by rw [List.length_append];exact hlt,by dsimp only;rw [List.length_append,List.length_singleton];omega⟩,by dsimp only;rw [List.length_append,List.length_singleton];omega, ?_⟩
  dsimp only
  rw [List.map_append,List.length_append,List.length_append]
  exact⟨by repeat' (first|exact trivial|exact rfl|refine And.intro ?_ ?_),by repeat' (first|exact trivial|exact rfl|refine And.intro ?_ ?_)⟩
 ·have hlN:l.length=N:=by dsimp only at h4;omega
  subst hlN
  ((conv=>whnf);repeat ((first|(intro hq;try simp only [lnS]at hq)|refine sI ?_|refine .intro _ (.intro rfl ?_));(conv=>whnf)))
  exact⟨_,dJ.osl,l,c,hbind.trans h1,rfl,rfl⟩
theorem uD:RdT 113 [.fn 108 [] []] (dD vB) (λl=> .d (.sl 32 (l.map nO))):=by
 intro bs hb
 refine aH.says ?_
 refine aI false [] hty Tryz.func113 rfl (kp [0,1,4,5,9]) 100 (by simp [Tryz.f113]) ?_
 ((conv=>whnf);repeat ((first|(intro hq;try simp only [lnS]at hq)|refine sI ?_|refine .intro _ (.intro rfl ?_));(conv=>whnf)))
 refine RdT.call (dP 4 (by decide)) rfl (λ_=>rfl) bs hb rfl (λN c0 e1=> ?_) (λe1 b=>⟨aL e1,b,rfl⟩)
 have hbind:dD vB bs=kN vB N c0:=bQ e1
 have hc0:=cH (dG 4) e1
 have hN:=gI e1
 clear e1
 ((conv=>whnf);repeat ((first|(intro hq;try simp only [lnS]at hq)|refine sI ?_|refine .intro _ (.intro rfl ?_));(conv=>whnf)))
 refine aN.own 4 104 39 32 rfl (cD (by with_unfolding_all exact rfl)) ?_
 refine aQ hty (λy:List Dig×List UInt8=>([(0, .ptr 3 0),(1, .fn 108 [] []),(4, .osl 104 32 (y.1.map nO)),(5, .d (.int .u64 ((N - y.1.length:Nat):Int)))],[(104, .own 39 32 (y.1.map nO).length),(3,rdO y.2)])) (λy=>kN vB y.1.length c0=some y/\y.1.length<=N/\y.2.length+y.1.length<=c0.length) (λy=>N - y.1.length) ([],c0) ⟨rfl,Nat.zero_le _,Nat.le_refl _⟩ ⟨by repeat' (first|exact trivial|exact rfl|refine And.intro ?_ ?_),by repeat' (first|exact trivial|exact rfl|refine And.intro ?_ ?_)⟩ ?_
 rintro⟨l,c⟩ ⟨h1,h2,h3⟩
 dsimp only at h1 h2 h3
 have hml:(l.map nO).length=l.length:=List.length_map ..
 have hb63:(l.map nO).length+1<=9223372036854775807:=by rw [hml];omega
 have hb48:((l.map nO).length+1)* 32<=140737488355328:=by rw [hml];omega
 ((conv=>whnf);repeat ((first|(intro hq;try simp only [lnS]at hq)|refine sI ?_|refine .intro _ (.intro rfl ?_));(conv=>whnf)))
 refine aB (λh4=> ?_) (λh4=> ?_)
 ·have hlt:l.length < N:=by dsimp only at h4;omega
  have hw:=vV hlt hN
  refine RdT.call (e:= λx=>SV.d (.agg (nO x))) nN rfl (λ_=>rfl) c (by omega) rfl (λx d e2=> ?_) (λe2 b=>⟨hbind.trans (eY h1 e2 hlt),b,rfl⟩)
  have hd:=cH mA e2
  obtain⟨xl,hx⟩:=x
  obtain⟨y0,y1,y2,y3,y4,y5,y6,y7,y8,y9,y10,y11,y12,y13,y14,y15,y16,y17,y18,y19,y20,y21,y22,y23,y24,y25,y26,y27,y28,y29,y30,y31,rfl⟩:=fK hx
  ((conv=>whnf);repeat ((first|(refine And.intro hb63 ?_)|(refine And.intro hb48 ?_)|(intro hq;try simp only [lnS]at hq)|refine sI ?_|refine .intro _ (.intro rfl ?_));(conv=>whnf)))
  rw [hw]
  refine⟨(l++[_],d),⟨eZ h1 e2,by rw [List.length_append];exact hlt,by dsimp only;rw [List.length_append,List.length_singleton];omega⟩,by dsimp only;rw [List.length_append,List.length_singleton];omega, ?_⟩
  dsimp only
  rw [List.map_append,List.length_append,List.length_append]
  exact⟨by repeat' (first|exact trivial|exact rfl|refine And.intro ?_ ?_),by repeat' (first|exact trivial|exact rfl|refine And.intro ?_ ?_)⟩
 ·have hlN:l.length=N:=by dsimp only at h4;omega
  subst hlN
  ((conv=>whnf);repeat ((first|(intro hq;try simp only [lnS]at hq)|refine sI ?_|refine .intro _ (.intro rfl ?_));(conv=>whnf)))
  exact⟨_,dJ.osl,l,c,hbind.trans h1,rfl,rfl⟩
end Go.Proofs.YtcomlapnibckmaaGreatDoor
namespace Go.Proofs.YtcomlapnibckmaaGreatDoor
open Go.Proofs Go.RowKit
set_option maxRecDepth 10000
attribute [local irreducible] aN aH Tri aF YVC cM bB
def cmR (c:Cm):List D:=[.int .i64 c.no, .sl 1 (c.parents.map aA0)]++nO c.base++[.str c.message]
theorem aX {α β:Type}{r:Rd α}{f:α->Rd β}{b c:List UInt8}{x:α}(h:r b=some (x,c)) (k:f x c=none):cA r f b=none:=(bQ h).trans k
theorem dW {α β:Type}{r:Rd α}{f:α->Rd β}{b c d:List UInt8}{x:α}{y:β}(h:r b=some (x,c)) (k:f x c=some (y,d)):cA r f b=some (y,d):=(bQ h).trans k
theorem aDv:RdT 57 [] rCm (λc=> .d (.agg (cmR c))):=by
 intro bs hb
 refine aI false [] hty Tryz.func57 rfl (kp [0,2]) 100 (by simp [Tryz.f57]) ?_
 ((conv=>whnf);repeat ((first|(intro hq;try simp only [lnS]at hq)|refine sI ?_|refine .intro _ (.intro rfl ?_));(conv=>whnf)))
 refine RdT.call gL rfl (λ_=>rfl) bs hb rfl (λno b1 e1=> ?_) (λe1 b=>⟨aL e1,b,rfl⟩)
 have q1:=cH dH e1
 ((conv=>whnf);repeat ((first|(intro hq;try simp only [lnS]at hq)|refine sI ?_|refine .intro _ (.intro rfl ?_));(conv=>whnf)))
 refine RdT.call aBe rfl (λ_=>rfl) b1 (by omega) rfl (λps b2 e2=> ?_) (λe2 b=>⟨aX e1 (aL e2),b,rfl⟩)
 have q2:=cH (dY dH) e2
 ((conv=>whnf);repeat ((first|(intro hq;try simp only [lnS]at hq)|refine sI ?_|refine .intro _ (.intro rfl ?_));(conv=>whnf)))
 refine RdT.call nN rfl (λ_=>rfl) b2 (by omega) rfl (λdg b3 e3=> ?_) (λe3 b=>⟨aX e1 (aX e2 (aL e3)),b,rfl⟩)
 have q3:=cH mA e3
 obtain⟨xl,hx⟩:=dg
 obtain⟨y0,y1,y2,y3,y4,y5,y6,y7,y8,y9,y10,y11,y12,y13,y14,y15,y16,y17,y18,y19,y20,y21,y22,y23,y24,y25,y26,y27,y28,y29,y30,y31,rfl⟩:=fK hx
 ((conv=>whnf);repeat ((first|(intro hq;try simp only [lnS]at hq)|refine sI ?_|refine .intro _ (.intro rfl ?_));(conv=>whnf)))
 refine RdT.call kC rfl (λ_=>rfl) b3 (by omega) rfl (λm b4 e4=> ?_) (λe4 b=>⟨aX e1 (aX e2 (aX e3 (cY e4))),b,rfl⟩)
 ((conv=>whnf);repeat ((first|(intro hq;try simp only [lnS]at hq)|refine sI ?_|refine .intro _ (.intro rfl ?_));(conv=>whnf)))
 exact⟨⟨no,ps,_,m⟩,b4,dW e1 (dW e2 (dW e3 (cX e4))),rfl,rfl⟩
end Go.Proofs.YtcomlapnibckmaaGreatDoor
namespace Go.Proofs.YtcomlapnibckmaaGreatDoor
open Go.Proofs Go.RowKit
set_option maxRecDepth 10000
attribute [local irreducible] aN aH Tri aF YVC cM bB
theorem pG: ∀(k d:Nat),d+k=9->RdT 175 [.d (.int .i64 d)] (rC k) (λc=> .d (.agg (cnR c)))
 | 0,d,hd=>by
  intro bs hb
  refine aI false [] hty Tryz.func175 rfl (kp [0,1,3,4,6]) 100 (by simp [Tryz.f175]) ?_
  ((conv=>whnf);repeat ((first|(intro hq;try simp only [lnS]at hq)|refine sI ?_|refine .intro _ (.intro rfl ?_));(conv=>whnf)))
  refine aB (λh1=> ?_) (λh1=> ?_)
  ·((conv=>whnf);repeat ((first|(refine cB hty rfl (by with_unfolding_all exact rfl) rfl rfl ?_)|(intro hq;try simp only [lnS]at hq)|refine sI ?_|refine .intro _ (.intro rfl ?_));(conv=>whnf)))
   exact⟨bs,rfl⟩
  ·omega
 |k+1,d,hd=>by
  intro bs hb
  have ih:RdT 175 [.d (.int .i64 ((d:Int)+1))] (rC k) (λc=> .d (.agg (cnR c))):=by
   rw [show ((d:Int)+1)=((d+1:Nat):Int)by omega]
   exact pG k (d+1) (by omega)
  refine aI false [] hty Tryz.func175 rfl (kp [0,1,3,4,6]) 100 (by simp [Tryz.f175]) ?_
  ((conv=>whnf);repeat ((first|(intro hq;try simp only [lnS]at hq)|refine sI ?_|refine .intro _ (.intro rfl ?_));(conv=>whnf)))
  refine aB (λh1=> ?_) (λh1=> ?_)
  ·omega
  clear h1
  ((conv=>whnf);repeat ((first|(intro hq;try simp only [lnS]at hq)|refine sI ?_|refine .intro _ (.intro rfl ?_));(conv=>whnf)))
  refine RdT.call sO rfl (λ_=>rfl) bs hb rfl (λkd b1 e1=> ?_) (λe1 b=>⟨aL e1,b,rfl⟩)
  have q1:=cH fR e1
  ((conv=>whnf);repeat ((first|(intro hq;try simp only [lnS]at hq)|refine sI ?_|refine .intro _ (.intro rfl ?_));(conv=>whnf)))
  refine RdT.call kC rfl (λ_=>rfl) b1 (by omega) rfl (λnm b2 e2=> ?_) (λe2 b=>⟨aX e1 (aL e2),b,rfl⟩)
  have q2:=cH bY e2
  ((conv=>whnf);repeat ((first|(intro hq;try simp only [lnS]at hq)|refine sI ?_|refine .intro _ (.intro rfl ?_));(conv=>whnf)))
  refine RdT.call gL rfl (λ_=>rfl) b2 (by omega) rfl (λlo b3 e3=> ?_) (λe3 b=>⟨aX e1 (aX e2 (aL e3)),b,rfl⟩)
  have q3:=cH dH e3
  ((conv=>whnf);repeat ((first|(intro hq;try simp only [lnS]at hq)|refine sI ?_|refine .intro _ (.intro rfl ?_));(conv=>whnf)))
  refine RdT.call gL rfl (λ_=>rfl) b3 (by omega) rfl (λhi b4 e4=> ?_) (λe4 b=>⟨aX e1 (aX e2 (aX e3 (aL e4))),b,rfl⟩)
  have q4:=cH dH e4
  have key: ∀{y:List Cn} {c:List UInt8},dD (rC k) b4=some (y,c)->rC (k+1) bs=some (.mk kd nm lo hi y,c):= λe=>dW e1 (dW e2 (dW e3 (dW e4 (cX e))))
  have keyn:dD (rC k) b4=none->rC (k+1) bs=none:= λe=>aX e1 (aX e2 (aX e3 (aX e4 (cY e))))
  clear e1 e2 e3 e4
  ((conv=>whnf);repeat ((first|(intro hq;try simp only [lnS]at hq)|refine sI ?_|refine .intro _ (.intro rfl ?_));(conv=>whnf)))
  refine aH.says ?_
  refine aI false [] hty Tryz.func227 rfl (kp [0,1,4,5,9]) 200 (by simp [Tryz.f227]) ?_
  ((conv=>whnf);repeat ((first|(intro hq;try simp only [lnS]at hq)|refine sI ?_|refine .intro _ (.intro rfl ?_));(conv=>whnf)))
  refine RdT.call (dP 4 (by decide)) rfl (λ_=>rfl) b4 (by omega) rfl (λN c0 e1=> ?_) (λe1 b=>⟨keyn (aL e1),b,rfl⟩)
  have hbind:dD (rC k) b4=kN (rC k) N c0:=bQ e1
  have hc0:=cH (dG 4) e1
  have hN:=gI e1
  clear e1
  ((conv=>whnf);repeat ((first|(intro hq;try simp only [lnS]at hq)|refine sI ?_|refine .intro _ (.intro rfl ?_));(conv=>whnf)))
  refine aN.own 4 204 78 5 rfl (cD (by with_unfolding_all exact rfl)) ?_
  refine aQ hty (λy:List Cn×List UInt8=>([(0, .ptr 3 0),(1, .fn 228 [] [.ptr 103 0]),(4, .osl 204 5 (y.1.map cnR)),(5, .d (.int .u64 ((N - y.1.length:Nat):Int)))],[(204, .own 78 5 (y.1.map cnR).length),(3,rdO y.2),(103, .cells 3 [.d (.int .i64 d)]),(104, .cells 78 [.d (.int .i64 kd), .d (.str nm), .d (.int .i64 lo), .d (.int .i64 hi), .d .nil])])) (λy=>kN (rC k) y.1.length c0=some y/\y.1.length<=N/\y.2.length+y.1.length<=c0.length) (λy=>N - y.1.length) ([],c0) ⟨rfl,Nat.zero_le _,Nat.le_refl _⟩ ⟨by repeat' (first|exact trivial|exact rfl|refine And.intro ?_ ?_),by repeat' (first|exact trivial|exact rfl|refine And.intro ?_ ?_)⟩ ?_
  rintro⟨l,c⟩ ⟨h1,h2,h3⟩
  dsimp only at h1 h2 h3
  have hml:(l.map cnR).length=l.length:=List.length_map ..
  have hb63:(l.map cnR).length+1<=9223372036854775807:=by rw [hml];omega
  have hb48:((l.map cnR).length+1)* 64<=140737488355328:=by rw [hml];omega
  ((conv=>whnf);repeat ((first|(intro hq;try simp only [lnS]at hq)|refine sI ?_|refine .intro _ (.intro rfl ?_));(conv=>whnf)))
  refine aB (λh4=> ?_) (λh4=> ?_)
  ·have hlt:l.length < N:=by dsimp only at h4;omega
   have hwN:=vV hlt hN
   ((conv=>whnf);repeat ((first|(intro hq;try simp only [lnS]at hq)|refine sI ?_|refine .intro _ (.intro rfl ?_));(conv=>whnf)))
   refine aI false [] hty Tryz.func228 rfl (kp [0,1,3]) 300 (by simp [Tryz.f228]) ?_
   ((conv=>whnf);repeat ((first|(intro hq;try simp only [lnS]at hq)|refine sI ?_|refine .intro _ (.intro rfl ?_));(conv=>whnf)))
   refine RdT.call ih rfl (λ_=>rfl) c (by omega) rfl (λx d e2=> ?_) (λe2 b=>⟨keyn (hbind.trans (eY h1 e2 hlt)),b,rfl⟩)
   have hd:=cH (qX k) e2
   rw [bO x]
   ((conv=>whnf);repeat ((first|(refine And.intro hb63 ?_)|(refine And.intro hb48 ?_)|(intro hq;try simp only [lnS]at hq)|refine sI ?_|refine .intro _ (.intro rfl ?_));(conv=>whnf)))
   rw [hwN]
   refine⟨(l++[x],d),⟨eZ h1 e2,by rw [List.length_append];exact hlt,by dsimp only;rw [List.length_append,List.length_singleton];omega⟩,by dsimp only;rw [List.length_append,List.length_singleton];omega, ?_⟩
   dsimp only
   rw [List.map_append,List.length_append,List.length_append,List.map_singleton,bO x]
   exact⟨by repeat' (first|exact trivial|exact rfl|refine And.intro ?_ ?_),by repeat' (first|exact trivial|exact rfl|refine And.intro ?_ ?_)⟩
  ·have hlN:l.length=N:=by dsimp only at h4;omega
   subst hlN
   ((conv=>whnf);repeat ((first|(intro hq;try simp only [lnS]at hq)|refine sI ?_|refine .intro _ (.intro rfl ?_));(conv=>whnf)))
   refine⟨_,dJ.osl, ?_⟩
   ((conv=>whnf);repeat ((first|(intro hq;try simp only [lnS]at hq)|refine sI ?_|refine .intro _ (.intro rfl ?_));(conv=>whnf)))
   refine⟨.mk kd nm lo hi l,c,key (hbind.trans h1), ?_,rfl⟩
   show _=SV.d (D.agg (cnR (.mk kd nm lo hi l)))
   rw [show cnR (.mk kd nm lo hi l)=[.int .i64 kd, .str nm, .int .i64 lo, .int .i64 hi, .sl 5 (l.map cnR)]from bO _]
   rfl
end Go.Proofs.YtcomlapnibckmaaGreatDoor
namespace Go.Proofs.YtcomlapnibckmaaGreatDoor
open Go.Proofs Go.RowKit
set_option maxRecDepth 10000
attribute [local irreducible] aN aH Tri aF YVC cM bB
theorem aFy:RdT 118 [] (rA 9) (λx=> .d (.agg (axR x))):=by
 intro bs hb
 refine aI false [] hty Tryz.func118 rfl (kp [0,2]) 100 (by simp [Tryz.f118]) ?_
 ((conv=>whnf);repeat ((first|(intro hq;try simp only [lnS]at hq)|refine sI ?_|refine .intro _ (.intro rfl ?_));(conv=>whnf)))
 refine RdT.call sO rfl (λ_=>rfl) bs hb rfl (λkd b1 e1=> ?_) (λe1 b=>⟨aL e1,b,rfl⟩)
 have q1:=cH fR e1
 ((conv=>whnf);repeat ((first|(intro hq;try simp only [lnS]at hq)|refine sI ?_|refine .intro _ (.intro rfl ?_));(conv=>whnf)))
 refine RdT.call sO rfl (λ_=>rfl) b1 (by omega) rfl (λop b2 e2=> ?_) (λe2 b=>⟨aX e1 (aL (cY e2)),b,rfl⟩)
 have q2:=cH fR e2
 have e2:rB b1=some (decide (op=1),b2):=cX e2
 ((conv=>whnf);repeat ((first|(intro hq;try simp only [lnS]at hq)|refine sI ?_|refine .intro _ (.intro rfl ?_));(conv=>whnf)))
 refine RdT.call (pG 9 0 rfl) rfl (λ_=>rfl) b2 (by omega) rfl (λle b3 e3=> ?_) (λe3 b=>⟨aX e1 (aX e2 (aL e3)),b,rfl⟩)
 have q3:=cH (qX 9) e3
 rw [bO le]
 ((conv=>whnf);repeat ((first|(intro hq;try simp only [lnS]at hq)|refine sI ?_|refine .intro _ (.intro rfl ?_));(conv=>whnf)))
 refine RdT.call (pG 9 0 rfl) rfl (λ_=>rfl) b3 (by omega) rfl (λri b4 e4=> ?_) (λe4 b=>⟨aX e1 (aX e2 (aX e3 (aL e4))),b,rfl⟩)
 have q4:=cH (qX 9) e4
 rw [bO ri]
 ((conv=>whnf);repeat ((first|(intro hq;try simp only [lnS]at hq)|refine sI ?_|refine .intro _ (.intro rfl ?_));(conv=>whnf)))
 refine RdT.call uC rfl (λ_=>rfl) b4 (by omega) rfl (λrs b5 e5=> ?_) (λe5 b=>⟨aX e1 (aX e2 (aX e3 (aX e4 (aL e5)))),b,rfl⟩)
 have q5:=cH (dY bY) e5
 ((conv=>whnf);repeat ((first|(intro hq;try simp only [lnS]at hq)|refine sI ?_|refine .intro _ (.intro rfl ?_));(conv=>whnf)))
 refine RdT.call kC rfl (λ_=>rfl) b5 (by omega) rfl (λs1 b6 e6=> ?_) (λe6 b=>⟨aX e1 (aX e2 (aX e3 (aX e4 (aX e5 (aL e6))))),b,rfl⟩)
 have q6:=cH bY e6
 ((conv=>whnf);repeat ((first|(intro hq;try simp only [lnS]at hq)|refine sI ?_|refine .intro _ (.intro rfl ?_));(conv=>whnf)))
 refine RdT.call kC rfl (λ_=>rfl) b6 (by omega) rfl (λs2 b7 e7=> ?_) (λe7 b=>⟨aX e1 (aX e2 (aX e3 (aX e4 (aX e5 (aX e6 (aL e7)))))),b,rfl⟩)
 have q7:=cH bY e7
 ((conv=>whnf);repeat ((first|(intro hq;try simp only [lnS]at hq)|refine sI ?_|refine .intro _ (.intro rfl ?_));(conv=>whnf)))
 refine RdT.call kC rfl (λ_=>rfl) b7 (by omega) rfl (λs3 b8 e8=> ?_) (λe8 b=>⟨aX e1 (aX e2 (aX e3 (aX e4 (aX e5 (aX e6 (aX e7 (cY e8))))))),b,rfl⟩)
 ((conv=>whnf);repeat ((first|(intro hq;try simp only [lnS]at hq)|refine sI ?_|refine .intro _ (.intro rfl ?_));(conv=>whnf)))
 exact⟨⟨kd,_,le,ri,rs,s1,s2,s3⟩,b8,dW e1 (dW e2 (dW e3 (dW e4 (dW e5 (dW e6 (dW e7 (cX e8))))))),rfl,rfl⟩
theorem aE0 (x:Ax):axR x=[.int .i64 x.kind, .bool x.isopen, .int .i64 x.left.kind, .str x.left.name, .int .i64 x.left.lo, .int .i64 x.left.hi, .sl 5 (x.left.parts.map cnR), .int .i64 x.right.kind, .str x.right.name, .int .i64 x.right.lo, .int .i64 x.right.hi, .sl 5 (x.right.parts.map cnR), .sl 1 (x.roles.map cF), .str x.role, .str x.a, .str x.b]:=rfl
theorem aDj:RdT 117 [.fn 118 [] []] (dD (rA 9)) (λl=> .d (.sl 16 (l.map axR))):=by
 intro bs hb
 refine aH.says ?_
 refine aI false [] hty Tryz.func117 rfl (kp [0,1,4,5,9]) 100 (by simp [Tryz.f117]) ?_
 ((conv=>whnf);repeat ((first|(intro hq;try simp only [lnS]at hq)|refine sI ?_|refine .intro _ (.intro rfl ?_));(conv=>whnf)))
 refine RdT.call (dP 4 (by decide)) rfl (λ_=>rfl) bs hb rfl (λN c0 e1=> ?_) (λe1 b=>⟨aL e1,b,rfl⟩)
 have hbind:dD (rA 9) bs=kN (rA 9) N c0:=bQ e1
 have hc0:=cH (dG 4) e1
 have hN:=gI e1
 clear e1
 ((conv=>whnf);repeat ((first|(intro hq;try simp only [lnS]at hq)|refine sI ?_|refine .intro _ (.intro rfl ?_));(conv=>whnf)))
 refine aN.own 4 104 80 16 rfl (cD (by with_unfolding_all exact rfl)) ?_
 refine aQ hty (λy:List Ax×List UInt8=>([(0, .ptr 3 0),(1, .fn 118 [] []),(4, .osl 104 16 (y.1.map axR)),(5, .d (.int .u64 ((N - y.1.length:Nat):Int)))],[(104, .own 80 16 (y.1.map axR).length),(3,rdO y.2)])) (λy=>kN (rA 9) y.1.length c0=some y/\y.1.length<=N/\y.2.length+y.1.length<=c0.length) (λy=>N - y.1.length) ([],c0) ⟨rfl,Nat.zero_le _,Nat.le_refl _⟩ ⟨by repeat' (first|exact trivial|exact rfl|refine And.intro ?_ ?_),by repeat' (first|exact trivial|exact rfl|refine And.intro ?_ ?_)⟩ ?_
 rintro⟨l,c⟩ ⟨h1,h2,h3⟩
 dsimp only at h1 h2 h3
 have hml:(l.map axR).length=l.length:=List.length_map ..
 have hb63:(l.map axR).length+1<=9223372036854775807:=by rw [hml];omega
 have hb48:((l.map axR).length+1)* 200<=140737488355328:=by rw [hml];omega
 ((conv=>whnf);repeat ((first|(intro hq;try simp only [lnS]at hq)|refine sI ?_|refine .intro _ (.intro rfl ?_));(conv=>whnf)))
 refine aB (λh4=> ?_) (λh4=> ?_)
 ·have hlt:l.length < N:=by dsimp only at h4;omega
  have hw:=vV hlt hN
  refine RdT.call (e:= λx=>SV.d (.agg (axR x))) aFy rfl (λ_=>rfl) c (by omega) rfl (λx d e2=> ?_) (λe2 b=>⟨hbind.trans (eY h1 e2 hlt),b,rfl⟩)
  have hd:=cH (iM (aEe 9) (Nat.le_refl _)) e2
  rw [aE0]
  ((conv=>whnf);repeat ((first|(refine And.intro hb63 ?_)|(refine And.intro hb48 ?_)|(intro hq;try simp only [lnS]at hq)|refine sI ?_|refine .intro _ (.intro rfl ?_));(conv=>whnf)))
  rw [hw]
  refine⟨(l++[_],d),⟨eZ h1 e2,by rw [List.length_append];exact hlt,by dsimp only;rw [List.length_append,List.length_singleton];omega⟩,by dsimp only;rw [List.length_append,List.length_singleton];omega, ?_⟩
  dsimp only
  rw [List.map_append,List.length_append,List.length_append]
  exact⟨by repeat' (first|exact trivial|exact rfl|refine And.intro ?_ ?_),by repeat' (first|exact trivial|exact rfl|refine And.intro ?_ ?_)⟩
 ·have hlN:l.length=N:=by dsimp only at h4;omega
  subst hlN
  ((conv=>whnf);repeat ((first|(intro hq;try simp only [lnS]at hq)|refine sI ?_|refine .intro _ (.intro rfl ?_));(conv=>whnf)))
  exact⟨_,dJ.osl,l,c,hbind.trans h1,rfl,rfl⟩
theorem xY:RdT 71 [] (rAs 9) (λl=> .d (.sl 16 (l.map axR))):=by
 intro bs hb
 refine aI false [] hty Tryz.func71 rfl (kp [0,2]) 100 (by simp [Tryz.f71]) ?_
 ((conv=>whnf);repeat ((first|(intro hq;try simp only [lnS]at hq)|refine sI ?_|refine .intro _ (.intro rfl ?_));(conv=>whnf)))
 refine RdT.call aDj rfl (λ_=>rfl) bs hb rfl (λl b1 e1=> ?_) (λe1 b=>⟨e1,b,rfl⟩)
 ((conv=>whnf);repeat ((first|(intro hq;try simp only [lnS]at hq)|refine sI ?_|refine .intro _ (.intro rfl ?_));(conv=>whnf)))
 exact⟨l,b1,e1,rfl,rfl⟩
def atR (a:At):List D:=[.int .i64 a.kind, .str a.name, .str a.x, .str a.y, .int .i64 a.lo, .int .i64 a.hi]
def bK (p:List At):List D:=[.sl 6 (p.map atR)]
theorem aHd:RdT 167 [] rAt (λa=> .d (.agg (atR a))):=by
 intro bs hb
 refine aI false [] hty Tryz.func167 rfl (kp [0,2]) 100 (by simp [Tryz.f167]) ?_
 ((conv=>whnf);repeat ((first|(intro hq;try simp only [lnS]at hq)|refine sI ?_|refine .intro _ (.intro rfl ?_));(conv=>whnf)))
 refine RdT.call sO rfl (λ_=>rfl) bs hb rfl (λkd b1 e1=> ?_) (λe1 b=>⟨aL e1,b,rfl⟩)
 have q1:=cH fR e1
 ((conv=>whnf);repeat ((first|(intro hq;try simp only [lnS]at hq)|refine sI ?_|refine .intro _ (.intro rfl ?_));(conv=>whnf)))
 refine RdT.call kC rfl (λ_=>rfl) b1 (by omega) rfl (λs1 b2 e2=> ?_) (λe2 b=>⟨aX e1 (aL e2),b,rfl⟩)
 have q2:=cH bY e2
 ((conv=>whnf);repeat ((first|(intro hq;try simp only [lnS]at hq)|refine sI ?_|refine .intro _ (.intro rfl ?_));(conv=>whnf)))
 refine RdT.call kC rfl (λ_=>rfl) b2 (by omega) rfl (λs2 b3 e3=> ?_) (λe3 b=>⟨aX e1 (aX e2 (aL e3)),b,rfl⟩)
 have q3:=cH bY e3
 ((conv=>whnf);repeat ((first|(intro hq;try simp only [lnS]at hq)|refine sI ?_|refine .intro _ (.intro rfl ?_));(conv=>whnf)))
 refine RdT.call kC rfl (λ_=>rfl) b3 (by omega) rfl (λs3 b4 e4=> ?_) (λe4 b=>⟨aX e1 (aX e2 (aX e3 (aL e4))),b,rfl⟩)
 have q4:=cH bY e4
 ((conv=>whnf);repeat ((first|(intro hq;try simp only [lnS]at hq)|refine sI ?_|refine .intro _ (.intro rfl ?_));(conv=>whnf)))
 refine RdT.call gL rfl (λ_=>rfl) b4 (by omega) rfl (λlo b5 e5=> ?_) (λe5 b=>⟨aX e1 (aX e2 (aX e3 (aX e4 (aL e5)))),b,rfl⟩)
 have q5:=cH dH e5
 ((conv=>whnf);repeat ((first|(intro hq;try simp only [lnS]at hq)|refine sI ?_|refine .intro _ (.intro rfl ?_));(conv=>whnf)))
 refine RdT.call gL rfl (λ_=>rfl) b5 (by omega) rfl (λhi b6 e6=> ?_) (λe6 b=>⟨aX e1 (aX e2 (aX e3 (aX e4 (aX e5 (cY e6))))),b,rfl⟩)
 ((conv=>whnf);repeat ((first|(intro hq;try simp only [lnS]at hq)|refine sI ?_|refine .intro _ (.intro rfl ?_));(conv=>whnf)))
 exact⟨⟨kd,s1,s2,s3,lo,hi⟩,b6,dW e1 (dW e2 (dW e3 (dW e4 (dW e5 (cX e6))))),rfl,rfl⟩
theorem aDk:RdT 166 [.fn 167 [] []] (dD rAt) (λl=> .d (.sl 6 (l.map atR))):=by
 intro bs hb
 refine aH.says ?_
 refine aI false [] hty Tryz.func166 rfl (kp [0,1,4,5,9]) 100 (by simp [Tryz.f166]) ?_
 ((conv=>whnf);repeat ((first|(intro hq;try simp only [lnS]at hq)|refine sI ?_|refine .intro _ (.intro rfl ?_));(conv=>whnf)))
 refine RdT.call (dP 4 (by decide)) rfl (λ_=>rfl) bs hb rfl (λN c0 e1=> ?_) (λe1 b=>⟨aL e1,b,rfl⟩)
 have hbind:dD rAt bs=kN rAt N c0:=bQ e1
 have hc0:=cH (dG 4) e1
 have hN:=gI e1
 clear e1
 ((conv=>whnf);repeat ((first|(intro hq;try simp only [lnS]at hq)|refine sI ?_|refine .intro _ (.intro rfl ?_));(conv=>whnf)))
 refine aN.own 4 104 86 6 rfl (cD (by with_unfolding_all exact rfl)) ?_
 refine aQ hty (λy:List At×List UInt8=>([(0, .ptr 3 0),(1, .fn 167 [] []),(4, .osl 104 6 (y.1.map atR)),(5, .d (.int .u64 ((N - y.1.length:Nat):Int)))],[(104, .own 86 6 (y.1.map atR).length),(3,rdO y.2)])) (λy=>kN rAt y.1.length c0=some y/\y.1.length<=N/\y.2.length+y.1.length<=c0.length) (λy=>N - y.1.length) ([],c0) ⟨rfl,Nat.zero_le _,Nat.le_refl _⟩ ⟨by repeat' (first|exact trivial|exact rfl|refine And.intro ?_ ?_),by repeat' (first|exact trivial|exact rfl|refine And.intro ?_ ?_)⟩ ?_
 rintro⟨l,c⟩ ⟨h1,h2,h3⟩
 dsimp only at h1 h2 h3
 have hml:(l.map atR).length=l.length:=List.length_map ..
 have hb63:(l.map atR).length+1<=9223372036854775807:=by rw [hml];omega
 have hb48:((l.map atR).length+1)* 72<=140737488355328:=by rw [hml];omega
 ((conv=>whnf);repeat ((first|(intro hq;try simp only [lnS]at hq)|refine sI ?_|refine .intro _ (.intro rfl ?_));(conv=>whnf)))
 refine aB (λh4=> ?_) (λh4=> ?_)
 ·have hlt:l.length < N:=by dsimp only at h4;omega
  have hw:=vV hlt hN
  refine RdT.call (e:= λx=>SV.d (.agg (atR x))) aHd rfl (λ_=>rfl) c (by omega) rfl (λx d e2=> ?_) (λe2 b=>⟨hbind.trans (eY h1 e2 hlt),b,rfl⟩)
  have hd:=cH aBs e2
  ((conv=>whnf);repeat ((first|(refine And.intro hb63 ?_)|(refine And.intro hb48 ?_)|(intro hq;try simp only [lnS]at hq)|refine sI ?_|refine .intro _ (.intro rfl ?_));(conv=>whnf)))
  rw [hw]
  refine⟨(l++[_],d),⟨eZ h1 e2,by rw [List.length_append];exact hlt,by dsimp only;rw [List.length_append,List.length_singleton];omega⟩,by dsimp only;rw [List.length_append,List.length_singleton];omega, ?_⟩
  dsimp only
  rw [List.map_append,List.length_append,List.length_append]
  exact⟨by repeat' (first|exact trivial|exact rfl|refine And.intro ?_ ?_),by repeat' (first|exact trivial|exact rfl|refine And.intro ?_ ?_)⟩
 ·have hlN:l.length=N:=by dsimp only at h4;omega
  subst hlN
  ((conv=>whnf);repeat ((first|(intro hq;try simp only [lnS]at hq)|refine sI ?_|refine .intro _ (.intro rfl ?_));(conv=>whnf)))
  exact⟨_,dJ.osl,l,c,hbind.trans h1,rfl,rfl⟩
theorem aGq:RdT 102 [] (dD rAt) (λp=> .d (.agg (bK p))):=by
 intro bs hb
 refine aI false [] hty Tryz.func102 rfl (kp [0,2]) 100 (by simp [Tryz.f102]) ?_
 ((conv=>whnf);repeat ((first|(intro hq;try simp only [lnS]at hq)|refine sI ?_|refine .intro _ (.intro rfl ?_));(conv=>whnf)))
 refine RdT.call aDk rfl (λ_=>rfl) bs hb rfl (λl b1 e1=> ?_) (λe1 b=>⟨e1,b,rfl⟩)
 ((conv=>whnf);repeat ((first|(intro hq;try simp only [lnS]at hq)|refine sI ?_|refine .intro _ (.intro rfl ?_));(conv=>whnf)))
 exact⟨l,b1,e1,rfl,rfl⟩
theorem zF:RdT 101 [.fn 102 [] []] (dD (dD rAt)) (λl=> .d (.sl 1 (l.map bK))):=by
 intro bs hb
 refine aH.says ?_
 refine aI false [] hty Tryz.func101 rfl (kp [0,1,4,5,9]) 100 (by simp [Tryz.f101]) ?_
 ((conv=>whnf);repeat ((first|(intro hq;try simp only [lnS]at hq)|refine sI ?_|refine .intro _ (.intro rfl ?_));(conv=>whnf)))
 refine RdT.call (dP 4 (by decide)) rfl (λ_=>rfl) bs hb rfl (λN c0 e1=> ?_) (λe1 b=>⟨aL e1,b,rfl⟩)
 have hbind:dD (dD rAt) bs=kN (dD rAt) N c0:=bQ e1
 have hc0:=cH (dG 4) e1
 have hN:=gI e1
 clear e1
 ((conv=>whnf);repeat ((first|(intro hq;try simp only [lnS]at hq)|refine sI ?_|refine .intro _ (.intro rfl ?_));(conv=>whnf)))
 refine aN.own 4 104 84 1 rfl (cD (by with_unfolding_all exact rfl)) ?_
 refine aQ hty (λy:List (List At)×List UInt8=>([(0, .ptr 3 0),(1, .fn 102 [] []),(4, .osl 104 1 (y.1.map bK)),(5, .d (.int .u64 ((N - y.1.length:Nat):Int)))],[(104, .own 84 1 (y.1.map bK).length),(3,rdO y.2)])) (λy=>kN (dD rAt) y.1.length c0=some y/\y.1.length<=N/\y.2.length+y.1.length<=c0.length) (λy=>N - y.1.length) ([],c0) ⟨rfl,Nat.zero_le _,Nat.le_refl _⟩ ⟨by repeat' (first|exact trivial|exact rfl|refine And.intro ?_ ?_),by repeat' (first|exact trivial|exact rfl|refine And.intro ?_ ?_)⟩ ?_
 rintro⟨l,c⟩ ⟨h1,h2,h3⟩
 dsimp only at h1 h2 h3
 have hml:(l.map bK).length=l.length:=List.length_map ..
 have hb63:(l.map bK).length+1<=9223372036854775807:=by rw [hml];omega
 have hb48:((l.map bK).length+1)* 24<=140737488355328:=by rw [hml];omega
 ((conv=>whnf);repeat ((first|(intro hq;try simp only [lnS]at hq)|refine sI ?_|refine .intro _ (.intro rfl ?_));(conv=>whnf)))
 refine aB (λh4=> ?_) (λh4=> ?_)
 ·have hlt:l.length < N:=by dsimp only at h4;omega
  have hw:=vV hlt hN
  refine RdT.call (e:= λx=>SV.d (.agg (bK x))) aGq rfl (λ_=>rfl) c (by omega) rfl (λx d e2=> ?_) (λe2 b=>⟨hbind.trans (eY h1 e2 hlt),b,rfl⟩)
  have hd:=cH (dY aBs) e2
  ((conv=>whnf);repeat ((first|(refine And.intro hb63 ?_)|(refine And.intro hb48 ?_)|(intro hq;try simp only [lnS]at hq)|refine sI ?_|refine .intro _ (.intro rfl ?_));(conv=>whnf)))
  rw [hw]
  refine⟨(l++[_],d),⟨eZ h1 e2,by rw [List.length_append];exact hlt,by dsimp only;rw [List.length_append,List.length_singleton];omega⟩,by dsimp only;rw [List.length_append,List.length_singleton];omega, ?_⟩
  dsimp only
  rw [List.map_append,List.length_append,List.length_append]
  exact⟨by repeat' (first|exact trivial|exact rfl|refine And.intro ?_ ?_),by repeat' (first|exact trivial|exact rfl|refine And.intro ?_ ?_)⟩
 ·have hlN:l.length=N:=by dsimp only at h4;omega
  subst hlN
  ((conv=>whnf);repeat ((first|(intro hq;try simp only [lnS]at hq)|refine sI ?_|refine .intro _ (.intro rfl ?_));(conv=>whnf)))
  exact⟨_,dJ.osl,l,c,hbind.trans h1,rfl,rfl⟩
def qyR (q:Qy):List D:=[.sl 1 (q.told.map cF), .sl 1 (q.parts.map bK)]
theorem aFb:RdT 48 [] rQy (λq=> .d (.agg (qyR q))):=by
 intro bs hb
 refine aI false [] hty Tryz.func48 rfl (kp [0,2]) 100 (by simp [Tryz.f48]) ?_
 ((conv=>whnf);repeat ((first|(intro hq;try simp only [lnS]at hq)|refine sI ?_|refine .intro _ (.intro rfl ?_));(conv=>whnf)))
 refine RdT.call uC rfl (λ_=>rfl) bs hb rfl (λl b1 e1=> ?_) (λe1 b=>⟨aL e1,b,rfl⟩)
 have q1:=cH (dY bY) e1
 ((conv=>whnf);repeat ((first|(intro hq;try simp only [lnS]at hq)|refine sI ?_|refine .intro _ (.intro rfl ?_));(conv=>whnf)))
 refine RdT.call zF rfl (λ_=>rfl) b1 (by omega) rfl (λp b2 e2=> ?_) (λe2 b=>⟨aX e1 (cY e2),b,rfl⟩)
 ((conv=>whnf);repeat ((first|(intro hq;try simp only [lnS]at hq)|refine sI ?_|refine .intro _ (.intro rfl ?_));(conv=>whnf)))
 exact⟨⟨l,p⟩,b2,dW e1 (cX e2),rfl,rfl⟩
def alR (a:Al):List D:=[.str a.name]++nO a.base++[.sl 16 (a.axioms.map axR)]++nO a.pub++[.int .i64 a.index, .sl 32 (a.parts.map nO), .sl 32 (a.path.map nO)]
theorem wJ:RdT 65 [] (rAl 9) (λa=> .d (.agg (alR a))):=by
 intro bs hb
 refine aI false [] hty Tryz.func65 rfl (kp [0,2]) 100 (by simp [Tryz.f65]) ?_
 ((conv=>whnf);repeat ((first|(intro hq;try simp only [lnS]at hq)|refine sI ?_|refine .intro _ (.intro rfl ?_));(conv=>whnf)))
 refine RdT.call kC rfl (λ_=>rfl) bs hb rfl (λs b1 e1=> ?_) (λe1 b=>⟨aL e1,b,rfl⟩)
 have q1:=cH bY e1
 ((conv=>whnf);repeat ((first|(intro hq;try simp only [lnS]at hq)|refine sI ?_|refine .intro _ (.intro rfl ?_));(conv=>whnf)))
 refine RdT.call nN rfl (λ_=>rfl) b1 (by omega) rfl (λd1 b2 e2=> ?_) (λe2 b=>⟨aX e1 (aL e2),b,rfl⟩)
 have q2:=cH mA e2
 obtain⟨xl,hx⟩:=d1
 obtain⟨y0,y1,y2,y3,y4,y5,y6,y7,y8,y9,y10,y11,y12,y13,y14,y15,y16,y17,y18,y19,y20,y21,y22,y23,y24,y25,y26,y27,y28,y29,y30,y31,rfl⟩:=fK hx
 ((conv=>whnf);repeat ((first|(intro hq;try simp only [lnS]at hq)|refine sI ?_|refine .intro _ (.intro rfl ?_));(conv=>whnf)))
 refine RdT.call xY rfl (λ_=>rfl) b2 (by omega) rfl (λax b3 e3=> ?_) (λe3 b=>⟨aX e1 (aX e2 (aL e3)),b,rfl⟩)
 have q3:=cH (dY (aEe 9)) e3
 ((conv=>whnf);repeat ((first|(intro hq;try simp only [lnS]at hq)|refine sI ?_|refine .intro _ (.intro rfl ?_));(conv=>whnf)))
 refine RdT.call nN rfl (λ_=>rfl) b3 (by omega) rfl (λd2 b4 e4=> ?_) (λe4 b=>⟨aX e1 (aX e2 (aX e3 (aL e4))),b,rfl⟩)
 have q4:=cH mA e4
 obtain⟨zl,hz⟩:=d2
 obtain⟨z0,z1,z2,z3,z4,z5,z6,z7,z8,z9,z10,z11,z12,z13,z14,z15,z16,z17,z18,z19,z20,z21,z22,z23,z24,z25,z26,z27,z28,z29,z30,z31,rfl⟩:=fK hz
 ((conv=>whnf);repeat ((first|(intro hq;try simp only [lnS]at hq)|refine sI ?_|refine .intro _ (.intro rfl ?_));(conv=>whnf)))
 refine RdT.call gL rfl (λ_=>rfl) b4 (by omega) rfl (λix b5 e5=> ?_) (λe5 b=>⟨aX e1 (aX e2 (aX e3 (aX e4 (aL e5)))),b,rfl⟩)
 have q5:=cH dH e5
 ((conv=>whnf);repeat ((first|(intro hq;try simp only [lnS]at hq)|refine sI ?_|refine .intro _ (.intro rfl ?_));(conv=>whnf)))
 refine RdT.call uD rfl (λ_=>rfl) b5 (by omega) rfl (λps b6 e6=> ?_) (λe6 b=>⟨aX e1 (aX e2 (aX e3 (aX e4 (aX e5 (aL e6))))),b,rfl⟩)
 have q6:=cH (dY mA) e6
 ((conv=>whnf);repeat ((first|(intro hq;try simp only [lnS]at hq)|refine sI ?_|refine .intro _ (.intro rfl ?_));(conv=>whnf)))
 refine RdT.call uD rfl (λ_=>rfl) b6 (by omega) rfl (λpt b7 e7=> ?_) (λe7 b=>⟨aX e1 (aX e2 (aX e3 (aX e4 (aX e5 (aX e6 (cY e7)))))),b,rfl⟩)
 ((conv=>whnf);repeat ((first|(intro hq;try simp only [lnS]at hq)|refine sI ?_|refine .intro _ (.intro rfl ?_));(conv=>whnf)))
 exact⟨⟨s,_,ax,_,ix,ps,pt⟩,b7,dW e1 (dW e2 (dW e3 (dW e4 (dW e5 (dW e6 (cX e7)))))),rfl,rfl⟩
end Go.Proofs.YtcomlapnibckmaaGreatDoor
