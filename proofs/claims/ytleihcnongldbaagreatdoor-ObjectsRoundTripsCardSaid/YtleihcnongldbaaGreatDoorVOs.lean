/-
  Objects: the reader reads lists. Objects: the reader reads commits. Objects: the reader reads concepts.
  Conditions: none.
-/
import Derived.Test.YtleihcnongldbaaGreatDoorVOn
set_option linter.unnecessarySimpa false
set_option linter.unusedSectionVars false
set_option linter.unusedSimpArgs false
set_option linter.unusedVariables false
set_option maxHeartbeats 16000000
namespace Go.Proofs.YtleihcnongldbaaGreatDoor
open Go.Proofs Go.RowKit
set_option maxRecDepth 10000
attribute [local irreducible] aO aH Tri aG YVC cL bB
def xR (z:Int):List D:=[.int .i64 z]
theorem cO {α:Type}{r:Rd α}{k:Nat}(h:tY k r) {b c:List UInt8}{x:α}(e:r b=some (x,c)):c.length+k<=b.length:=by
 obtain⟨a,h1,h2⟩:=h b x c e
 rw [h1,List.length_append];omega
theorem fV {α:Type}{r:Rd α}{b c d:List UInt8}{l:List α}{x:α}(h:mF r l.length b=some (l,c)) (e:r c=some (x,d)):mF r (l++[x]).length b=some (l++[x],d):=by
 rw [List.length_append,List.length_singleton,nT,h]
 simp only [Option.bind_some,e,Option.map_some]
theorem fU {α:Type}{r:Rd α}{b c:List UInt8}{l:List α}{N:Nat}(h:mF r l.length b=some (l,c)) (e:r c=none) (hN:l.length < N):mF r N b=none:=by
 refine aEx (n:=l.length+1) ?_ (by omega)
 rw [nT,h]
 simp only [Option.bind_some,e,Option.map_none]
theorem iP {bs c:List UInt8}{N:Nat}(h:aBf 4 bs=some (N,c)):N < 4294967296:=by
 obtain⟨l,h1,rfl⟩:=nV h
 have hl:l.length=4:=by
  unfold jN at h1
  split at h1
  ·injection h1 with h1;injection h1 with h1 _
   rw [<-h1,List.length_take];omega
  ·cases h1
 exact tK 4 l hl
theorem aAr {N k:Nat}(h:k < N) (hN:N < 4294967296):IntKind.u64.wrap (((N - k:Nat):Int) - 1)=((N - (k+1):Nat):Int):=by
 have e:((N - k:Nat):Int) - 1=((N - (k+1):Nat):Int):=by omega
 rw [e]
 exact yJ _ (by omega)
theorem aFd:RdT 98 [.fn 90 [] []] (dG yW) (λl=> .d (.sl 1 (l.map xR))):=by
 intro bs hb
 refine aH.says ?_
 refine aI false [] hty Tryz.func98 rfl (kp [0,1,4,5,9]) 100 (by simp [Tryz.f98]) ?_
 ((conv=>whnf);repeat ((first|(intro hq;try simp only [lnS]at hq)|refine sI ?_|refine .intro _ (.intro rfl ?_));(conv=>whnf)))
 refine RdT.call (eK 4 (by decide)) rfl (λ_=>rfl) bs hb rfl (λN c0 e1=> ?_) (λe1 b=>⟨aN e1,b,rfl⟩)
 have hbind:dG yW bs=mF yW N c0:=aK e1
 have hc0:=cO (eD 4) e1
 have hN:=iP e1
 clear e1
 ((conv=>whnf);repeat ((first|(intro hq;try simp only [lnS]at hq)|refine sI ?_|refine .intro _ (.intro rfl ?_));(conv=>whnf)))
 refine aO.own 4 104 3 1 rfl (cI (by with_unfolding_all exact rfl)) ?_
 refine aL hty (λy:List Int×List UInt8=>([(0, .ptr 3 0),(1, .fn 90 [] []),(4, .osl 104 1 (y.1.map xR)),(5, .d (.int .u64 ((N - y.1.length:Nat):Int)))],[(104, .own 3 1 (y.1.map xR).length),(3,rdO y.2)])) (λy=>mF yW y.1.length c0=some y/\y.1.length<=N/\y.2.length+y.1.length<=c0.length) (λy=>N - y.1.length) ([],c0) ⟨rfl,Nat.zero_le _,Nat.le_refl _⟩ ⟨by repeat' (first|exact trivial|exact rfl|refine And.intro ?_ ?_),by repeat' (first|exact trivial|exact rfl|refine And.intro ?_ ?_)⟩ ?_
 rintro⟨l,c⟩ ⟨h1,h2,h3⟩
 dsimp only at h1 h2 h3
 have hml:(l.map xR).length=l.length:=List.length_map ..
 have hb63:(l.map xR).length+1<=9223372036854775807:=by rw [hml];omega
 have hb48:((l.map xR).length+1)* 8<=140737488355328:=by rw [hml];omega
 ((conv=>whnf);repeat ((first|(intro hq;try simp only [lnS]at hq)|refine sI ?_|refine .intro _ (.intro rfl ?_));(conv=>whnf)))
 refine aB (λh4=> ?_) (λh4=> ?_)
 ·have hlt:l.length < N:=by dsimp only at h4;omega
  have hw:=aAr hlt hN
  refine RdT.call (e:= λx=>SV.d (.int .i64 x)) iU rfl (λ_=>rfl) c (by omega) rfl (λx d e2=> ?_) (λe2 b=>⟨hbind.trans (fU h1 e2 hlt),b,rfl⟩)
  have hd:=cO eE e2
  ((conv=>whnf);repeat ((first|(refine And.intro hb63 ?_)|(refine And.intro hb48 ?_)|(intro hq;try simp only [lnS]at hq)|refine sI ?_|refine .intro _ (.intro rfl ?_));(conv=>whnf)))
  rw [hw]
  refine⟨(l++[_],d),⟨fV h1 e2,by rw [List.length_append];exact hlt,by dsimp only;rw [List.length_append,List.length_singleton];omega⟩,by dsimp only;rw [List.length_append,List.length_singleton];omega, ?_⟩
  dsimp only
  rw [List.map_append,List.length_append,List.length_append]
  exact⟨by repeat' (first|exact trivial|exact rfl|refine And.intro ?_ ?_),by repeat' (first|exact trivial|exact rfl|refine And.intro ?_ ?_)⟩
 ·have hlN:l.length=N:=by dsimp only at h4;omega
  subst hlN
  ((conv=>whnf);repeat ((first|(intro hq;try simp only [lnS]at hq)|refine sI ?_|refine .intro _ (.intro rfl ?_));(conv=>whnf)))
  exact⟨_,eG.osl,l,c,hbind.trans h1,rfl,rfl⟩
theorem zF:RdT 79 [.fn 80 [] []] (dG wW) (λl=> .d (.sl 1 (l.map cE))):=by
 intro bs hb
 refine aH.says ?_
 refine aI false [] hty Tryz.func79 rfl (kp [0,1,4,5,9]) 100 (by simp [Tryz.f79]) ?_
 ((conv=>whnf);repeat ((first|(intro hq;try simp only [lnS]at hq)|refine sI ?_|refine .intro _ (.intro rfl ?_));(conv=>whnf)))
 refine RdT.call (eK 4 (by decide)) rfl (λ_=>rfl) bs hb rfl (λN c0 e1=> ?_) (λe1 b=>⟨aN e1,b,rfl⟩)
 have hbind:dG wW bs=mF wW N c0:=aK e1
 have hc0:=cO (eD 4) e1
 have hN:=iP e1
 clear e1
 ((conv=>whnf);repeat ((first|(intro hq;try simp only [lnS]at hq)|refine sI ?_|refine .intro _ (.intro rfl ?_));(conv=>whnf)))
 refine aO.own 4 104 9 1 rfl (cI (by with_unfolding_all exact rfl)) ?_
 refine aL hty (λy:List (List UInt8)×List UInt8=>([(0, .ptr 3 0),(1, .fn 80 [] []),(4, .osl 104 1 (y.1.map cE)),(5, .d (.int .u64 ((N - y.1.length:Nat):Int)))],[(104, .own 9 1 (y.1.map cE).length),(3,rdO y.2)])) (λy=>mF wW y.1.length c0=some y/\y.1.length<=N/\y.2.length+y.1.length<=c0.length) (λy=>N - y.1.length) ([],c0) ⟨rfl,Nat.zero_le _,Nat.le_refl _⟩ ⟨by repeat' (first|exact trivial|exact rfl|refine And.intro ?_ ?_),by repeat' (first|exact trivial|exact rfl|refine And.intro ?_ ?_)⟩ ?_
 rintro⟨l,c⟩ ⟨h1,h2,h3⟩
 dsimp only at h1 h2 h3
 have hml:(l.map cE).length=l.length:=List.length_map ..
 have hb63:(l.map cE).length+1<=9223372036854775807:=by rw [hml];omega
 have hb48:((l.map cE).length+1)* 16<=140737488355328:=by rw [hml];omega
 ((conv=>whnf);repeat ((first|(intro hq;try simp only [lnS]at hq)|refine sI ?_|refine .intro _ (.intro rfl ?_));(conv=>whnf)))
 refine aB (λh4=> ?_) (λh4=> ?_)
 ·have hlt:l.length < N:=by dsimp only at h4;omega
  have hw:=aAr hlt hN
  refine RdT.call (e:= λx=>SV.d (.str x)) mS rfl (λ_=>rfl) c (by omega) rfl (λx d e2=> ?_) (λe2 b=>⟨hbind.trans (fU h1 e2 hlt),b,rfl⟩)
  have hd:=cO cC e2
  ((conv=>whnf);repeat ((first|(refine And.intro hb63 ?_)|(refine And.intro hb48 ?_)|(intro hq;try simp only [lnS]at hq)|refine sI ?_|refine .intro _ (.intro rfl ?_));(conv=>whnf)))
  rw [hw]
  refine⟨(l++[_],d),⟨fV h1 e2,by rw [List.length_append];exact hlt,by dsimp only;rw [List.length_append,List.length_singleton];omega⟩,by dsimp only;rw [List.length_append,List.length_singleton];omega, ?_⟩
  dsimp only
  rw [List.map_append,List.length_append,List.length_append]
  exact⟨by repeat' (first|exact trivial|exact rfl|refine And.intro ?_ ?_),by repeat' (first|exact trivial|exact rfl|refine And.intro ?_ ?_)⟩
 ·have hlN:l.length=N:=by dsimp only at h4;omega
  subst hlN
  ((conv=>whnf);repeat ((first|(intro hq;try simp only [lnS]at hq)|refine sI ?_|refine .intro _ (.intro rfl ?_));(conv=>whnf)))
  exact⟨_,eG.osl,l,c,hbind.trans h1,rfl,rfl⟩
theorem zG:RdT 91 [.fn 89 [] []] (dG xE) (λl=> .d (.sl 32 (l.map lS))):=by
 intro bs hb
 refine aH.says ?_
 refine aI false [] hty Tryz.func91 rfl (kp [0,1,4,5,9]) 100 (by simp [Tryz.f91]) ?_
 ((conv=>whnf);repeat ((first|(intro hq;try simp only [lnS]at hq)|refine sI ?_|refine .intro _ (.intro rfl ?_));(conv=>whnf)))
 refine RdT.call (eK 4 (by decide)) rfl (λ_=>rfl) bs hb rfl (λN c0 e1=> ?_) (λe1 b=>⟨aN e1,b,rfl⟩)
 have hbind:dG xE bs=mF xE N c0:=aK e1
 have hc0:=cO (eD 4) e1
 have hN:=iP e1
 clear e1
 ((conv=>whnf);repeat ((first|(intro hq;try simp only [lnS]at hq)|refine sI ?_|refine .intro _ (.intro rfl ?_));(conv=>whnf)))
 refine aO.own 4 104 38 32 rfl (cI (by with_unfolding_all exact rfl)) ?_
 refine aL hty (λy:List Dig×List UInt8=>([(0, .ptr 3 0),(1, .fn 89 [] []),(4, .osl 104 32 (y.1.map lS)),(5, .d (.int .u64 ((N - y.1.length:Nat):Int)))],[(104, .own 38 32 (y.1.map lS).length),(3,rdO y.2)])) (λy=>mF xE y.1.length c0=some y/\y.1.length<=N/\y.2.length+y.1.length<=c0.length) (λy=>N - y.1.length) ([],c0) ⟨rfl,Nat.zero_le _,Nat.le_refl _⟩ ⟨by repeat' (first|exact trivial|exact rfl|refine And.intro ?_ ?_),by repeat' (first|exact trivial|exact rfl|refine And.intro ?_ ?_)⟩ ?_
 rintro⟨l,c⟩ ⟨h1,h2,h3⟩
 dsimp only at h1 h2 h3
 have hml:(l.map lS).length=l.length:=List.length_map ..
 have hb63:(l.map lS).length+1<=9223372036854775807:=by rw [hml];omega
 have hb48:((l.map lS).length+1)* 32<=140737488355328:=by rw [hml];omega
 ((conv=>whnf);repeat ((first|(intro hq;try simp only [lnS]at hq)|refine sI ?_|refine .intro _ (.intro rfl ?_));(conv=>whnf)))
 refine aB (λh4=> ?_) (λh4=> ?_)
 ·have hlt:l.length < N:=by dsimp only at h4;omega
  have hw:=aAr hlt hN
  refine RdT.call (e:= λx=>SV.d (.agg (lS x))) rE rfl (λ_=>rfl) c (by omega) rfl (λx d e2=> ?_) (λe2 b=>⟨hbind.trans (fU h1 e2 hlt),b,rfl⟩)
  have hd:=cO oT e2
  obtain⟨xl,hx⟩:=x
  obtain⟨y0,y1,y2,y3,y4,y5,y6,y7,y8,y9,y10,y11,y12,y13,y14,y15,y16,y17,y18,y19,y20,y21,y22,y23,y24,y25,y26,y27,y28,y29,y30,y31,rfl⟩:=fM hx
  ((conv=>whnf);repeat ((first|(refine And.intro hb63 ?_)|(refine And.intro hb48 ?_)|(intro hq;try simp only [lnS]at hq)|refine sI ?_|refine .intro _ (.intro rfl ?_));(conv=>whnf)))
  rw [hw]
  refine⟨(l++[_],d),⟨fV h1 e2,by rw [List.length_append];exact hlt,by dsimp only;rw [List.length_append,List.length_singleton];omega⟩,by dsimp only;rw [List.length_append,List.length_singleton];omega, ?_⟩
  dsimp only
  rw [List.map_append,List.length_append,List.length_append]
  exact⟨by repeat' (first|exact trivial|exact rfl|refine And.intro ?_ ?_),by repeat' (first|exact trivial|exact rfl|refine And.intro ?_ ?_)⟩
 ·have hlN:l.length=N:=by dsimp only at h4;omega
  subst hlN
  ((conv=>whnf);repeat ((first|(intro hq;try simp only [lnS]at hq)|refine sI ?_|refine .intro _ (.intro rfl ?_));(conv=>whnf)))
  exact⟨_,eG.osl,l,c,hbind.trans h1,rfl,rfl⟩
end Go.Proofs.YtleihcnongldbaaGreatDoor
namespace Go.Proofs.YtleihcnongldbaaGreatDoor
open Go.Proofs Go.RowKit
set_option maxRecDepth 10000
attribute [local irreducible] aO aH Tri aG YVC cL bB
def cmR (c:Cm):List D:=[.int .i64 c.no, .sl 1 (c.parents.map xR)]++lS c.base++[.str c.message]
theorem bC {α β:Type}{r:Rd α}{f:α->Rd β}{b c:List UInt8}{x:α}(h:r b=some (x,c)) (k:f x c=none):bZ r f b=none:=(aK h).trans k
theorem eY {α β:Type}{r:Rd α}{f:α->Rd β}{b c d:List UInt8}{x:α}{y:β}(h:r b=some (x,c)) (k:f x c=some (y,d)):bZ r f b=some (y,d):=(aK h).trans k
theorem aIi:RdT 59 [] rCm (λc=> .d (.agg (cmR c))):=by
 intro bs hb
 refine aI false [] hty Tryz.func59 rfl (kp [0,2]) 100 (by simp [Tryz.f59]) ?_
 ((conv=>whnf);repeat ((first|(intro hq;try simp only [lnS]at hq)|refine sI ?_|refine .intro _ (.intro rfl ?_));(conv=>whnf)))
 refine RdT.call iU rfl (λ_=>rfl) bs hb rfl (λno b1 e1=> ?_) (λe1 b=>⟨aN e1,b,rfl⟩)
 have q1:=cO eE e1
 ((conv=>whnf);repeat ((first|(intro hq;try simp only [lnS]at hq)|refine sI ?_|refine .intro _ (.intro rfl ?_));(conv=>whnf)))
 refine RdT.call aFd rfl (λ_=>rfl) b1 (by omega) rfl (λps b2 e2=> ?_) (λe2 b=>⟨bC e1 (aN e2),b,rfl⟩)
 have q2:=cO (fA eE) e2
 ((conv=>whnf);repeat ((first|(intro hq;try simp only [lnS]at hq)|refine sI ?_|refine .intro _ (.intro rfl ?_));(conv=>whnf)))
 refine RdT.call rE rfl (λ_=>rfl) b2 (by omega) rfl (λdg b3 e3=> ?_) (λe3 b=>⟨bC e1 (bC e2 (aN e3)),b,rfl⟩)
 have q3:=cO oT e3
 obtain⟨xl,hx⟩:=dg
 obtain⟨y0,y1,y2,y3,y4,y5,y6,y7,y8,y9,y10,y11,y12,y13,y14,y15,y16,y17,y18,y19,y20,y21,y22,y23,y24,y25,y26,y27,y28,y29,y30,y31,rfl⟩:=fM hx
 ((conv=>whnf);repeat ((first|(intro hq;try simp only [lnS]at hq)|refine sI ?_|refine .intro _ (.intro rfl ?_));(conv=>whnf)))
 refine RdT.call mS rfl (λ_=>rfl) b3 (by omega) rfl (λm b4 e4=> ?_) (λe4 b=>⟨bC e1 (bC e2 (bC e3 (dF e4))),b,rfl⟩)
 ((conv=>whnf);repeat ((first|(intro hq;try simp only [lnS]at hq)|refine sI ?_|refine .intro _ (.intro rfl ?_));(conv=>whnf)))
 exact⟨⟨no,ps,_,m⟩,b4,eY e1 (eY e2 (eY e3 (bH e4))),rfl,rfl⟩
end Go.Proofs.YtleihcnongldbaaGreatDoor
namespace Go.Proofs.YtleihcnongldbaaGreatDoor
open Go.Proofs Go.RowKit
set_option maxRecDepth 10000
attribute [local irreducible] aO aH Tri aG YVC cL bB
theorem tN: ∀(k d:Nat),d+k=9->RdT 138 [.d (.int .i64 d)] (rC k) (λc=> .d (.agg (cnR c)))
 | 0,d,hd=>by
  intro bs hb
  refine aI false [] hty Tryz.func138 rfl (kp [0,1,3,4,6]) 100 (by simp [Tryz.f138]) ?_
  ((conv=>whnf);repeat ((first|(intro hq;try simp only [lnS]at hq)|refine sI ?_|refine .intro _ (.intro rfl ?_));(conv=>whnf)))
  refine aB (λh1=> ?_) (λh1=> ?_)
  ·((conv=>whnf);repeat ((first|(refine cF hty rfl (by with_unfolding_all exact rfl) rfl rfl ?_)|(intro hq;try simp only [lnS]at hq)|refine sI ?_|refine .intro _ (.intro rfl ?_));(conv=>whnf)))
   exact⟨bs,rfl⟩
  ·omega
 |k+1,d,hd=>by
  intro bs hb
  have ih:RdT 138 [.d (.int .i64 ((d:Int)+1))] (rC k) (λc=> .d (.agg (cnR c))):=by
   rw [show ((d:Int)+1)=((d+1:Nat):Int)by omega]
   exact tN k (d+1) (by omega)
  refine aI false [] hty Tryz.func138 rfl (kp [0,1,3,4,6]) 100 (by simp [Tryz.f138]) ?_
  ((conv=>whnf);repeat ((first|(intro hq;try simp only [lnS]at hq)|refine sI ?_|refine .intro _ (.intro rfl ?_));(conv=>whnf)))
  refine aB (λh1=> ?_) (λh1=> ?_)
  ·omega
  clear h1
  ((conv=>whnf);repeat ((first|(intro hq;try simp only [lnS]at hq)|refine sI ?_|refine .intro _ (.intro rfl ?_));(conv=>whnf)))
  refine RdT.call xK rfl (λ_=>rfl) bs hb rfl (λkd b1 e1=> ?_) (λe1 b=>⟨aN e1,b,rfl⟩)
  have q1:=cO gU e1
  ((conv=>whnf);repeat ((first|(intro hq;try simp only [lnS]at hq)|refine sI ?_|refine .intro _ (.intro rfl ?_));(conv=>whnf)))
  refine RdT.call mS rfl (λ_=>rfl) b1 (by omega) rfl (λnm b2 e2=> ?_) (λe2 b=>⟨bC e1 (aN e2),b,rfl⟩)
  have q2:=cO cC e2
  ((conv=>whnf);repeat ((first|(intro hq;try simp only [lnS]at hq)|refine sI ?_|refine .intro _ (.intro rfl ?_));(conv=>whnf)))
  refine RdT.call iU rfl (λ_=>rfl) b2 (by omega) rfl (λlo b3 e3=> ?_) (λe3 b=>⟨bC e1 (bC e2 (aN e3)),b,rfl⟩)
  have q3:=cO eE e3
  ((conv=>whnf);repeat ((first|(intro hq;try simp only [lnS]at hq)|refine sI ?_|refine .intro _ (.intro rfl ?_));(conv=>whnf)))
  refine RdT.call iU rfl (λ_=>rfl) b3 (by omega) rfl (λhi b4 e4=> ?_) (λe4 b=>⟨bC e1 (bC e2 (bC e3 (aN e4))),b,rfl⟩)
  have q4:=cO eE e4
  have key: ∀{y:List Cn} {c:List UInt8},dG (rC k) b4=some (y,c)->rC (k+1) bs=some (.mk kd nm lo hi y,c):= λe=>eY e1 (eY e2 (eY e3 (eY e4 (bH e))))
  have keyn:dG (rC k) b4=none->rC (k+1) bs=none:= λe=>bC e1 (bC e2 (bC e3 (bC e4 (dF e))))
  clear e1 e2 e3 e4
  ((conv=>whnf);repeat ((first|(intro hq;try simp only [lnS]at hq)|refine sI ?_|refine .intro _ (.intro rfl ?_));(conv=>whnf)))
  refine aH.says ?_
  refine aI false [] hty Tryz.func168 rfl (kp [0,1,4,5,9]) 200 (by simp [Tryz.f168]) ?_
  ((conv=>whnf);repeat ((first|(intro hq;try simp only [lnS]at hq)|refine sI ?_|refine .intro _ (.intro rfl ?_));(conv=>whnf)))
  refine RdT.call (eK 4 (by decide)) rfl (λ_=>rfl) b4 (by omega) rfl (λN c0 e1=> ?_) (λe1 b=>⟨keyn (aN e1),b,rfl⟩)
  have hbind:dG (rC k) b4=mF (rC k) N c0:=aK e1
  have hc0:=cO (eD 4) e1
  have hN:=iP e1
  clear e1
  ((conv=>whnf);repeat ((first|(intro hq;try simp only [lnS]at hq)|refine sI ?_|refine .intro _ (.intro rfl ?_));(conv=>whnf)))
  refine aO.own 4 204 114 5 rfl (cI (by with_unfolding_all exact rfl)) ?_
  refine aL hty (λy:List Cn×List UInt8=>([(0, .ptr 3 0),(1, .fn 169 [] [.ptr 103 0]),(4, .osl 204 5 (y.1.map cnR)),(5, .d (.int .u64 ((N - y.1.length:Nat):Int)))],[(204, .own 114 5 (y.1.map cnR).length),(3,rdO y.2),(103, .cells 3 [.d (.int .i64 d)]),(104, .cells 114 [.d (.int .i64 kd), .d (.str nm), .d (.int .i64 lo), .d (.int .i64 hi), .d .nil])])) (λy=>mF (rC k) y.1.length c0=some y/\y.1.length<=N/\y.2.length+y.1.length<=c0.length) (λy=>N - y.1.length) ([],c0) ⟨rfl,Nat.zero_le _,Nat.le_refl _⟩ ⟨by repeat' (first|exact trivial|exact rfl|refine And.intro ?_ ?_),by repeat' (first|exact trivial|exact rfl|refine And.intro ?_ ?_)⟩ ?_
  rintro⟨l,c⟩ ⟨h1,h2,h3⟩
  dsimp only at h1 h2 h3
  have hml:(l.map cnR).length=l.length:=List.length_map ..
  have hb63:(l.map cnR).length+1<=9223372036854775807:=by rw [hml];omega
  have hb48:((l.map cnR).length+1)* 64<=140737488355328:=by rw [hml];omega
  ((conv=>whnf);repeat ((first|(intro hq;try simp only [lnS]at hq)|refine sI ?_|refine .intro _ (.intro rfl ?_));(conv=>whnf)))
  refine aB (λh4=> ?_) (λh4=> ?_)
  ·have hlt:l.length < N:=by dsimp only at h4;omega
   have hwN:=aAr hlt hN
   ((conv=>whnf);repeat ((first|(intro hq;try simp only [lnS]at hq)|refine sI ?_|refine .intro _ (.intro rfl ?_));(conv=>whnf)))
   refine aI false [] hty Tryz.func169 rfl (kp [0,1,3]) 300 (by simp [Tryz.f169]) ?_
   ((conv=>whnf);repeat ((first|(intro hq;try simp only [lnS]at hq)|refine sI ?_|refine .intro _ (.intro rfl ?_));(conv=>whnf)))
   refine RdT.call ih rfl (λ_=>rfl) c (by omega) rfl (λx d e2=> ?_) (λe2 b=>⟨keyn (hbind.trans (fU h1 e2 hlt)),b,rfl⟩)
   have hd:=cO (vO k) e2
   rw [bG x]
   ((conv=>whnf);repeat ((first|(refine And.intro hb63 ?_)|(refine And.intro hb48 ?_)|(intro hq;try simp only [lnS]at hq)|refine sI ?_|refine .intro _ (.intro rfl ?_));(conv=>whnf)))
   rw [hwN]
   refine⟨(l++[x],d),⟨fV h1 e2,by rw [List.length_append];exact hlt,by dsimp only;rw [List.length_append,List.length_singleton];omega⟩,by dsimp only;rw [List.length_append,List.length_singleton];omega, ?_⟩
   dsimp only
   rw [List.map_append,List.length_append,List.length_append,List.map_singleton,bG x]
   exact⟨by repeat' (first|exact trivial|exact rfl|refine And.intro ?_ ?_),by repeat' (first|exact trivial|exact rfl|refine And.intro ?_ ?_)⟩
  ·have hlN:l.length=N:=by dsimp only at h4;omega
   subst hlN
   ((conv=>whnf);repeat ((first|(intro hq;try simp only [lnS]at hq)|refine sI ?_|refine .intro _ (.intro rfl ?_));(conv=>whnf)))
   refine⟨_,eG.osl, ?_⟩
   ((conv=>whnf);repeat ((first|(intro hq;try simp only [lnS]at hq)|refine sI ?_|refine .intro _ (.intro rfl ?_));(conv=>whnf)))
   refine⟨.mk kd nm lo hi l,c,key (hbind.trans h1), ?_,rfl⟩
   show _=SV.d (D.agg (cnR (.mk kd nm lo hi l)))
   rw [show cnR (.mk kd nm lo hi l)=[.int .i64 kd, .str nm, .int .i64 lo, .int .i64 hi, .sl 5 (l.map cnR)]from bG _]
   rfl
end Go.Proofs.YtleihcnongldbaaGreatDoor
