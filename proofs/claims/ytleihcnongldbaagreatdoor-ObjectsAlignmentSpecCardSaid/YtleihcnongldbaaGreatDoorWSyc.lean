/-
  Objects: the reader reads lists. Objects: the reader reads commits. Objects: the reader reads concepts. Objects: the reader reads axioms, queries and alignments. Objects: the types that come in. Objects: queries and alignments that come in. A nil cell takes up rows of its own, at a call; contracts whose result says less. Contracts of functions that hand back bytes of a row of their own, onto which the caller may append. Objects: a writer's contract, over its own two objects alone; how it is used. Objects: the writer writes octets, numbers, texts and digests. Objects: the writer writes lists, concepts and axioms. The reference of objects: numbers, texts and lists in bytes. A statement whose ends are many: what they have in common is told once, and the rest follows from there.
  Conditions: none.
-/
import Derived.Test.YtleihcnongldbaaGreatDoorWOn
import Derived.Test.YtleihcnongldbaaGreatDoorWSyi
import Derived.Test.YtleihcnongldbaaGreatDoorWSs
import Derived.Test.YtleihcnongldbaaGreatDoorWSna
set_option linter.unnecessarySimpa false
set_option linter.unusedSectionVars false
set_option linter.unusedSimpArgs false
set_option linter.unusedVariables false
set_option maxHeartbeats 16000000
namespace Go.Proofs.YtleihcnongldbaaGreatDoor
open Go.Proofs Go.RowKit
set_option maxRecDepth 10000
attribute [local irreducible] aN aJ Tri aI YVC cP bE
def aRl (z:Int):List D:=[.int .i64 z]
theorem dX {α:Type}{r:Rd α}{k:Nat}(h:yZ k r) {b c:List UInt8}{x:α}(e:r b=some (x,c)):c.length+k<=b.length:=by
 obtain⟨a,h1,h2⟩:=h b x c e
 rw [h1,List.length_append];omega
theorem kI {α:Type}{r:Rd α}{b c d:List UInt8}{l:List α}{x:α}(h:oZ r l.length b=some (l,c)) (e:r c=some (x,d)):oZ r (l++[x]).length b=some (l++[x],d):=by
 rw [List.length_append,List.length_singleton,rX,h]
 simp only [Option.bind_some,e,Option.map_some]
theorem kH {α:Type}{r:Rd α}{b c:List UInt8}{l:List α}{N:Nat}(h:oZ r l.length b=some (l,c)) (e:r c=none) (hN:l.length < N):oZ r N b=none:=by
 refine aJt (n:=l.length+1) ?_ (by omega)
 rw [rX,h]
 simp only [Option.bind_some,e,Option.map_none]
theorem oQ {bs c:List UInt8}{N:Nat}(h:aCu 4 bs=some (N,c)):N < 4294967296:=by
 obtain⟨l,h1,rfl⟩:=oS h
 have hl:l.length=4:=by
  unfold iT at h1
  split at h1
  ·injection h1 with h1;injection h1 with h1 _
   rw [<-h1,List.length_take];omega
  ·cases h1
 exact tD 4 l hl
theorem aHo {N k:Nat}(h:k < N) (hN:N < 4294967296):IntKind.u64.wrap (((N - k:Nat):Int) - 1)=((N - (k+1):Nat):Int):=by
 have e:((N - k:Nat):Int) - 1=((N - (k+1):Nat):Int):=by omega
 rw [e]
 exact jW _ (by omega)
theorem aD5:RdT 79 [.fn 80 [] []] (fJ uL) (λl=> .d (.sl 1 (l.map bL))):=by
 intro bs hb
 refine aJ.says ?_
 refine aG false [] hty Tryz.func79 rfl (kp [0,1,4,5,9]) 100 (by simp [Tryz.f79]) ?_
 ((conv=>whnf);repeat ((first|(intro hq;try simp only [lnS]at hq)|refine sI ?_|refine .intro _ (.intro rfl ?_));(conv=>whnf)))
 refine RdT.call (hG 4 (by decide)) rfl (λ_=>rfl) bs hb rfl (λN c0 e1=> ?_) (λe1 b=>⟨aV e1,b,rfl⟩)
 have hbind:fJ uL bs=oZ uL N c0:=aK e1
 have hc0:=dX (gG 4) e1
 have hN:=oQ e1
 clear e1
 ((conv=>whnf);repeat ((first|(intro hq;try simp only [lnS]at hq)|refine sI ?_|refine .intro _ (.intro rfl ?_));(conv=>whnf)))
 refine aN.own 4 104 9 1 rfl (bW (by with_unfolding_all exact rfl)) ?_
 refine aH hty (λy:List (List UInt8)×List UInt8=>([(0, .ptr 3 0),(1, .fn 80 [] []),(4, .osl 104 1 (y.1.map bL)),(5, .d (.int .u64 ((N - y.1.length:Nat):Int)))],[(104, .own 9 1 (y.1.map bL).length),(3,rdO y.2)])) (λy=>oZ uL y.1.length c0=some y/\y.1.length<=N/\y.2.length+y.1.length<=c0.length) (λy=>N - y.1.length) ([],c0) ⟨rfl,Nat.zero_le _,Nat.le_refl _⟩ ⟨by repeat' (first|exact trivial|exact rfl|refine And.intro ?_ ?_),by repeat' (first|exact trivial|exact rfl|refine And.intro ?_ ?_)⟩ ?_
 rintro⟨l,c⟩ ⟨h1,h2,h3⟩
 dsimp only at h1 h2 h3
 have hml:(l.map bL).length=l.length:=List.length_map ..
 have hb63:(l.map bL).length+1<=9223372036854775807:=by rw [hml];omega
 have hb48:((l.map bL).length+1)* 16<=140737488355328:=by rw [hml];omega
 ((conv=>whnf);repeat ((first|(intro hq;try simp only [lnS]at hq)|refine sI ?_|refine .intro _ (.intro rfl ?_));(conv=>whnf)))
 refine aB (λh4=> ?_) (λh4=> ?_)
 ·have hlt:l.length < N:=by dsimp only at h4;omega
  have hw:=aHo hlt hN
  refine RdT.call (e:= λx=>SV.d (.str x)) rO rfl (λ_=>rfl) c (by omega) rfl (λx d e2=> ?_) (λe2 b=>⟨hbind.trans (kH h1 e2 hlt),b,rfl⟩)
  have hd:=dX cY e2
  ((conv=>whnf);repeat ((first|(refine And.intro hb63 ?_)|(refine And.intro hb48 ?_)|(intro hq;try simp only [lnS]at hq)|refine sI ?_|refine .intro _ (.intro rfl ?_));(conv=>whnf)))
  rw [hw]
  refine⟨(l++[_],d),⟨kI h1 e2,by rw [List.length_append];exact hlt,by dsimp only;rw [List.length_append,List.length_singleton];omega⟩,by dsimp only;rw [List.length_append,List.length_singleton];omega, ?_⟩
  dsimp only
  rw [List.map_append,List.length_append,List.length_append]
  exact⟨by repeat' (first|exact trivial|exact rfl|refine And.intro ?_ ?_),by repeat' (first|exact trivial|exact rfl|refine And.intro ?_ ?_)⟩
 ·have hlN:l.length=N:=by dsimp only at h4;omega
  subst hlN
  ((conv=>whnf);repeat ((first|(intro hq;try simp only [lnS]at hq)|refine sI ?_|refine .intro _ (.intro rfl ?_));(conv=>whnf)))
  exact⟨_,dA.osl,l,c,hbind.trans h1,rfl,rfl⟩
theorem aD6:RdT 91 [.fn 89 [] []] (fJ vD) (λl=> .d (.sl 32 (l.map gP))):=by
 intro bs hb
 refine aJ.says ?_
 refine aG false [] hty Tryz.func91 rfl (kp [0,1,4,5,9]) 100 (by simp [Tryz.f91]) ?_
 ((conv=>whnf);repeat ((first|(intro hq;try simp only [lnS]at hq)|refine sI ?_|refine .intro _ (.intro rfl ?_));(conv=>whnf)))
 refine RdT.call (hG 4 (by decide)) rfl (λ_=>rfl) bs hb rfl (λN c0 e1=> ?_) (λe1 b=>⟨aV e1,b,rfl⟩)
 have hbind:fJ vD bs=oZ vD N c0:=aK e1
 have hc0:=dX (gG 4) e1
 have hN:=oQ e1
 clear e1
 ((conv=>whnf);repeat ((first|(intro hq;try simp only [lnS]at hq)|refine sI ?_|refine .intro _ (.intro rfl ?_));(conv=>whnf)))
 refine aN.own 4 104 38 32 rfl (bW (by with_unfolding_all exact rfl)) ?_
 refine aH hty (λy:List Dig×List UInt8=>([(0, .ptr 3 0),(1, .fn 89 [] []),(4, .osl 104 32 (y.1.map gP)),(5, .d (.int .u64 ((N - y.1.length:Nat):Int)))],[(104, .own 38 32 (y.1.map gP).length),(3,rdO y.2)])) (λy=>oZ vD y.1.length c0=some y/\y.1.length<=N/\y.2.length+y.1.length<=c0.length) (λy=>N - y.1.length) ([],c0) ⟨rfl,Nat.zero_le _,Nat.le_refl _⟩ ⟨by repeat' (first|exact trivial|exact rfl|refine And.intro ?_ ?_),by repeat' (first|exact trivial|exact rfl|refine And.intro ?_ ?_)⟩ ?_
 rintro⟨l,c⟩ ⟨h1,h2,h3⟩
 dsimp only at h1 h2 h3
 have hml:(l.map gP).length=l.length:=List.length_map ..
 have hb63:(l.map gP).length+1<=9223372036854775807:=by rw [hml];omega
 have hb48:((l.map gP).length+1)* 32<=140737488355328:=by rw [hml];omega
 ((conv=>whnf);repeat ((first|(intro hq;try simp only [lnS]at hq)|refine sI ?_|refine .intro _ (.intro rfl ?_));(conv=>whnf)))
 refine aB (λh4=> ?_) (λh4=> ?_)
 ·have hlt:l.length < N:=by dsimp only at h4;omega
  have hw:=aHo hlt hN
  refine RdT.call (e:= λx=>SV.d (.agg (gP x))) aC2 rfl (λ_=>rfl) c (by omega) rfl (λx d e2=> ?_) (λe2 b=>⟨hbind.trans (kH h1 e2 hlt),b,rfl⟩)
  have hd:=dX vZ e2
  obtain⟨xl,hx⟩:=x
  obtain⟨y0,y1,y2,y3,y4,y5,y6,y7,y8,y9,y10,y11,y12,y13,y14,y15,y16,y17,y18,y19,y20,y21,y22,y23,y24,y25,y26,y27,y28,y29,y30,y31,rfl⟩:=jS hx
  ((conv=>whnf);repeat ((first|(refine And.intro hb63 ?_)|(refine And.intro hb48 ?_)|(intro hq;try simp only [lnS]at hq)|refine sI ?_|refine .intro _ (.intro rfl ?_));(conv=>whnf)))
  rw [hw]
  refine⟨(l++[_],d),⟨kI h1 e2,by rw [List.length_append];exact hlt,by dsimp only;rw [List.length_append,List.length_singleton];omega⟩,by dsimp only;rw [List.length_append,List.length_singleton];omega, ?_⟩
  dsimp only
  rw [List.map_append,List.length_append,List.length_append]
  exact⟨by repeat' (first|exact trivial|exact rfl|refine And.intro ?_ ?_),by repeat' (first|exact trivial|exact rfl|refine And.intro ?_ ?_)⟩
 ·have hlN:l.length=N:=by dsimp only at h4;omega
  subst hlN
  ((conv=>whnf);repeat ((first|(intro hq;try simp only [lnS]at hq)|refine sI ?_|refine .intro _ (.intro rfl ?_));(conv=>whnf)))
  exact⟨_,dA.osl,l,c,hbind.trans h1,rfl,rfl⟩
end Go.Proofs.YtleihcnongldbaaGreatDoor
namespace Go.Proofs.YtleihcnongldbaaGreatDoor
open Go.Proofs Go.RowKit
set_option maxRecDepth 10000
attribute [local irreducible] aN aJ Tri aI YVC cP bE
def cmR (c:Cm):List D:=[.int .i64 c.no, .sl 1 (c.parents.map aRl)]++gP c.base++[.str c.message]
theorem bQ {α β:Type}{r:Rd α}{f:α->Rd β}{b c:List UInt8}{x:α}(h:r b=some (x,c)) (k:f x c=none):bZ r f b=none:=(aK h).trans k
theorem iE {α β:Type}{r:Rd α}{f:α->Rd β}{b c d:List UInt8}{x:α}{y:β}(h:r b=some (x,c)) (k:f x c=some (y,d)):bZ r f b=some (y,d):=(aK h).trans k
end Go.Proofs.YtleihcnongldbaaGreatDoor
namespace Go.Proofs.YtleihcnongldbaaGreatDoor
open Go.Proofs Go.RowKit
set_option maxRecDepth 10000
attribute [local irreducible] aN aJ Tri aI YVC cP bE
theorem yP: ∀(k d:Nat),d+k=9->RdT 138 [.d (.int .i64 d)] (rC k) (λc=> .d (.agg (cnR c)))
 | 0,d,hd=>by
  intro bs hb
  refine aG false [] hty Tryz.func138 rfl (kp [0,1,3,4,6]) 100 (by simp [Tryz.f138]) ?_
  ((conv=>whnf);repeat ((first|(intro hq;try simp only [lnS]at hq)|refine sI ?_|refine .intro _ (.intro rfl ?_));(conv=>whnf)))
  refine aB (λh1=> ?_) (λh1=> ?_)
  ·((conv=>whnf);repeat ((first|(refine dU hty rfl (by with_unfolding_all exact rfl) rfl rfl ?_)|(intro hq;try simp only [lnS]at hq)|refine sI ?_|refine .intro _ (.intro rfl ?_));(conv=>whnf)))
   exact⟨bs,rfl⟩
  ·omega
 |k+1,d,hd=>by
  intro bs hb
  have ih:RdT 138 [.d (.int .i64 ((d:Int)+1))] (rC k) (λc=> .d (.agg (cnR c))):=by
   rw [show ((d:Int)+1)=((d+1:Nat):Int)by omega]
   exact yP k (d+1) (by omega)
  refine aG false [] hty Tryz.func138 rfl (kp [0,1,3,4,6]) 100 (by simp [Tryz.f138]) ?_
  ((conv=>whnf);repeat ((first|(intro hq;try simp only [lnS]at hq)|refine sI ?_|refine .intro _ (.intro rfl ?_));(conv=>whnf)))
  refine aB (λh1=> ?_) (λh1=> ?_)
  ·omega
  clear h1
  ((conv=>whnf);repeat ((first|(intro hq;try simp only [lnS]at hq)|refine sI ?_|refine .intro _ (.intro rfl ?_));(conv=>whnf)))
  refine RdT.call aBr rfl (λ_=>rfl) bs hb rfl (λkd b1 e1=> ?_) (λe1 b=>⟨aV e1,b,rfl⟩)
  have q1:=dX jF e1
  ((conv=>whnf);repeat ((first|(intro hq;try simp only [lnS]at hq)|refine sI ?_|refine .intro _ (.intro rfl ?_));(conv=>whnf)))
  refine RdT.call rO rfl (λ_=>rfl) b1 (by omega) rfl (λnm b2 e2=> ?_) (λe2 b=>⟨bQ e1 (aV e2),b,rfl⟩)
  have q2:=dX cY e2
  ((conv=>whnf);repeat ((first|(intro hq;try simp only [lnS]at hq)|refine sI ?_|refine .intro _ (.intro rfl ?_));(conv=>whnf)))
  refine RdT.call sF rfl (λ_=>rfl) b2 (by omega) rfl (λlo b3 e3=> ?_) (λe3 b=>⟨bQ e1 (bQ e2 (aV e3)),b,rfl⟩)
  have q3:=dX jH e3
  ((conv=>whnf);repeat ((first|(intro hq;try simp only [lnS]at hq)|refine sI ?_|refine .intro _ (.intro rfl ?_));(conv=>whnf)))
  refine RdT.call sF rfl (λ_=>rfl) b3 (by omega) rfl (λhi b4 e4=> ?_) (λe4 b=>⟨bQ e1 (bQ e2 (bQ e3 (aV e4))),b,rfl⟩)
  have q4:=dX jH e4
  have key: ∀{y:List Cn} {c:List UInt8},fJ (rC k) b4=some (y,c)->rC (k+1) bs=some (.mk kd nm lo hi y,c):= λe=>iE e1 (iE e2 (iE e3 (iE e4 (bR e))))
  have keyn:fJ (rC k) b4=none->rC (k+1) bs=none:= λe=>bQ e1 (bQ e2 (bQ e3 (bQ e4 (fI e))))
  clear e1 e2 e3 e4
  ((conv=>whnf);repeat ((first|(intro hq;try simp only [lnS]at hq)|refine sI ?_|refine .intro _ (.intro rfl ?_));(conv=>whnf)))
  refine aJ.says ?_
  refine aG false [] hty Tryz.func168 rfl (kp [0,1,4,5,9]) 200 (by simp [Tryz.f168]) ?_
  ((conv=>whnf);repeat ((first|(intro hq;try simp only [lnS]at hq)|refine sI ?_|refine .intro _ (.intro rfl ?_));(conv=>whnf)))
  refine RdT.call (hG 4 (by decide)) rfl (λ_=>rfl) b4 (by omega) rfl (λN c0 e1=> ?_) (λe1 b=>⟨keyn (aV e1),b,rfl⟩)
  have hbind:fJ (rC k) b4=oZ (rC k) N c0:=aK e1
  have hc0:=dX (gG 4) e1
  have hN:=oQ e1
  clear e1
  ((conv=>whnf);repeat ((first|(intro hq;try simp only [lnS]at hq)|refine sI ?_|refine .intro _ (.intro rfl ?_));(conv=>whnf)))
  refine aN.own 4 204 114 5 rfl (bW (by with_unfolding_all exact rfl)) ?_
  refine aH hty (λy:List Cn×List UInt8=>([(0, .ptr 3 0),(1, .fn 169 [] [.ptr 103 0]),(4, .osl 204 5 (y.1.map cnR)),(5, .d (.int .u64 ((N - y.1.length:Nat):Int)))],[(204, .own 114 5 (y.1.map cnR).length),(3,rdO y.2),(103, .cells 3 [.d (.int .i64 d)]),(104, .cells 114 [.d (.int .i64 kd), .d (.str nm), .d (.int .i64 lo), .d (.int .i64 hi), .d .nil])])) (λy=>oZ (rC k) y.1.length c0=some y/\y.1.length<=N/\y.2.length+y.1.length<=c0.length) (λy=>N - y.1.length) ([],c0) ⟨rfl,Nat.zero_le _,Nat.le_refl _⟩ ⟨by repeat' (first|exact trivial|exact rfl|refine And.intro ?_ ?_),by repeat' (first|exact trivial|exact rfl|refine And.intro ?_ ?_)⟩ ?_
  rintro⟨l,c⟩ ⟨h1,h2,h3⟩
  dsimp only at h1 h2 h3
  have hml:(l.map cnR).length=l.length:=List.length_map ..
  have hb63:(l.map cnR).length+1<=9223372036854775807:=by rw [hml];omega
  have hb48:((l.map cnR).length+1)* 64<=140737488355328:=by rw [hml];omega
  ((conv=>whnf);repeat ((first|(intro hq;try simp only [lnS]at hq)|refine sI ?_|refine .intro _ (.intro rfl ?_));(conv=>whnf)))
  refine aB (λh4=> ?_) (λh4=> ?_)
  ·have hlt:l.length < N:=by dsimp only at h4;omega
   have hwN:=aHo hlt hN
   ((conv=>whnf);repeat ((first|(intro hq;try simp only [lnS]at hq)|refine sI ?_|refine .intro _ (.intro rfl ?_));(conv=>whnf)))
   refine aG false [] hty Tryz.func169 rfl (kp [0,1,3]) 300 (by simp [Tryz.f169]) ?_
   ((conv=>whnf);repeat ((first|(intro hq;try simp only [lnS]at hq)|refine sI ?_|refine .intro _ (.intro rfl ?_));(conv=>whnf)))
   refine RdT.call ih rfl (λ_=>rfl) c (by omega) rfl (λx d e2=> ?_) (λe2 b=>⟨keyn (hbind.trans (kH h1 e2 hlt)),b,rfl⟩)
   have hd:=dX (aAm k) e2
   rw [bA x]
   ((conv=>whnf);repeat ((first|(refine And.intro hb63 ?_)|(refine And.intro hb48 ?_)|(intro hq;try simp only [lnS]at hq)|refine sI ?_|refine .intro _ (.intro rfl ?_));(conv=>whnf)))
   rw [hwN]
   refine⟨(l++[x],d),⟨kI h1 e2,by rw [List.length_append];exact hlt,by dsimp only;rw [List.length_append,List.length_singleton];omega⟩,by dsimp only;rw [List.length_append,List.length_singleton];omega, ?_⟩
   dsimp only
   rw [List.map_append,List.length_append,List.length_append,List.map_singleton,bA x]
   exact⟨by repeat' (first|exact trivial|exact rfl|refine And.intro ?_ ?_),by repeat' (first|exact trivial|exact rfl|refine And.intro ?_ ?_)⟩
  ·have hlN:l.length=N:=by dsimp only at h4;omega
   subst hlN
   ((conv=>whnf);repeat ((first|(intro hq;try simp only [lnS]at hq)|refine sI ?_|refine .intro _ (.intro rfl ?_));(conv=>whnf)))
   refine⟨_,dA.osl, ?_⟩
   ((conv=>whnf);repeat ((first|(intro hq;try simp only [lnS]at hq)|refine sI ?_|refine .intro _ (.intro rfl ?_));(conv=>whnf)))
   refine⟨.mk kd nm lo hi l,c,key (hbind.trans h1), ?_,rfl⟩
   show _=SV.d (D.agg (cnR (.mk kd nm lo hi l)))
   rw [show cnR (.mk kd nm lo hi l)=[.int .i64 kd, .str nm, .int .i64 lo, .int .i64 hi, .sl 5 (l.map cnR)]from bA _]
   rfl
end Go.Proofs.YtleihcnongldbaaGreatDoor
namespace Go.Proofs.YtleihcnongldbaaGreatDoor
open Go.Proofs Go.RowKit
set_option maxRecDepth 10000
attribute [local irreducible] aN aJ Tri aI YVC cP bE
theorem aRa:RdT 96 [] (rA 9) (λx=> .d (.agg (axR x))):=by
 intro bs hb
 refine aG false [] hty Tryz.func96 rfl (kp [0,2]) 100 (by simp [Tryz.f96]) ?_
 ((conv=>whnf);repeat ((first|(intro hq;try simp only [lnS]at hq)|refine sI ?_|refine .intro _ (.intro rfl ?_));(conv=>whnf)))
 refine RdT.call aBr rfl (λ_=>rfl) bs hb rfl (λkd b1 e1=> ?_) (λe1 b=>⟨aV e1,b,rfl⟩)
 have q1:=dX jF e1
 ((conv=>whnf);repeat ((first|(intro hq;try simp only [lnS]at hq)|refine sI ?_|refine .intro _ (.intro rfl ?_));(conv=>whnf)))
 refine RdT.call aBr rfl (λ_=>rfl) b1 (by omega) rfl (λop b2 e2=> ?_) (λe2 b=>⟨bQ e1 (aV (fI e2)),b,rfl⟩)
 have q2:=dX jF e2
 have e2:rB b1=some (decide (op=1),b2):=bR e2
 ((conv=>whnf);repeat ((first|(intro hq;try simp only [lnS]at hq)|refine sI ?_|refine .intro _ (.intro rfl ?_));(conv=>whnf)))
 refine RdT.call (yP 9 0 rfl) rfl (λ_=>rfl) b2 (by omega) rfl (λle b3 e3=> ?_) (λe3 b=>⟨bQ e1 (bQ e2 (aV e3)),b,rfl⟩)
 have q3:=dX (aAm 9) e3
 rw [bA le]
 ((conv=>whnf);repeat ((first|(intro hq;try simp only [lnS]at hq)|refine sI ?_|refine .intro _ (.intro rfl ?_));(conv=>whnf)))
 refine RdT.call (yP 9 0 rfl) rfl (λ_=>rfl) b3 (by omega) rfl (λri b4 e4=> ?_) (λe4 b=>⟨bQ e1 (bQ e2 (bQ e3 (aV e4))),b,rfl⟩)
 have q4:=dX (aAm 9) e4
 rw [bA ri]
 ((conv=>whnf);repeat ((first|(intro hq;try simp only [lnS]at hq)|refine sI ?_|refine .intro _ (.intro rfl ?_));(conv=>whnf)))
 refine RdT.call aD5 rfl (λ_=>rfl) b4 (by omega) rfl (λrs b5 e5=> ?_) (λe5 b=>⟨bQ e1 (bQ e2 (bQ e3 (bQ e4 (aV e5)))),b,rfl⟩)
 have q5:=dX (iN cY) e5
 ((conv=>whnf);repeat ((first|(intro hq;try simp only [lnS]at hq)|refine sI ?_|refine .intro _ (.intro rfl ?_));(conv=>whnf)))
 refine RdT.call rO rfl (λ_=>rfl) b5 (by omega) rfl (λs1 b6 e6=> ?_) (λe6 b=>⟨bQ e1 (bQ e2 (bQ e3 (bQ e4 (bQ e5 (aV e6))))),b,rfl⟩)
 have q6:=dX cY e6
 ((conv=>whnf);repeat ((first|(intro hq;try simp only [lnS]at hq)|refine sI ?_|refine .intro _ (.intro rfl ?_));(conv=>whnf)))
 refine RdT.call rO rfl (λ_=>rfl) b6 (by omega) rfl (λs2 b7 e7=> ?_) (λe7 b=>⟨bQ e1 (bQ e2 (bQ e3 (bQ e4 (bQ e5 (bQ e6 (aV e7)))))),b,rfl⟩)
 have q7:=dX cY e7
 ((conv=>whnf);repeat ((first|(intro hq;try simp only [lnS]at hq)|refine sI ?_|refine .intro _ (.intro rfl ?_));(conv=>whnf)))
 refine RdT.call rO rfl (λ_=>rfl) b7 (by omega) rfl (λs3 b8 e8=> ?_) (λe8 b=>⟨bQ e1 (bQ e2 (bQ e3 (bQ e4 (bQ e5 (bQ e6 (bQ e7 (fI e8))))))),b,rfl⟩)
 ((conv=>whnf);repeat ((first|(intro hq;try simp only [lnS]at hq)|refine sI ?_|refine .intro _ (.intro rfl ?_));(conv=>whnf)))
 exact⟨⟨kd,_,le,ri,rs,s1,s2,s3⟩,b8,iE e1 (iE e2 (iE e3 (iE e4 (iE e5 (iE e6 (iE e7 (bR e8))))))),rfl,rfl⟩
theorem aGh (x:Ax):axR x=[.int .i64 x.kind, .bool x.isopen, .int .i64 x.left.kind, .str x.left.name, .int .i64 x.left.lo, .int .i64 x.left.hi, .sl 5 (x.left.parts.map cnR), .int .i64 x.right.kind, .str x.right.name, .int .i64 x.right.lo, .int .i64 x.right.hi, .sl 5 (x.right.parts.map cnR), .sl 1 (x.roles.map bL), .str x.role, .str x.a, .str x.b]:=rfl
theorem aNj:RdT 95 [.fn 96 [] []] (fJ (rA 9)) (λl=> .d (.sl 16 (l.map axR))):=by
 intro bs hb
 refine aJ.says ?_
 refine aG false [] hty Tryz.func95 rfl (kp [0,1,4,5,9]) 100 (by simp [Tryz.f95]) ?_
 ((conv=>whnf);repeat ((first|(intro hq;try simp only [lnS]at hq)|refine sI ?_|refine .intro _ (.intro rfl ?_));(conv=>whnf)))
 refine RdT.call (hG 4 (by decide)) rfl (λ_=>rfl) bs hb rfl (λN c0 e1=> ?_) (λe1 b=>⟨aV e1,b,rfl⟩)
 have hbind:fJ (rA 9) bs=oZ (rA 9) N c0:=aK e1
 have hc0:=dX (gG 4) e1
 have hN:=oQ e1
 clear e1
 ((conv=>whnf);repeat ((first|(intro hq;try simp only [lnS]at hq)|refine sI ?_|refine .intro _ (.intro rfl ?_));(conv=>whnf)))
 refine aN.own 4 104 116 16 rfl (bW (by with_unfolding_all exact rfl)) ?_
 refine aH hty (λy:List Ax×List UInt8=>([(0, .ptr 3 0),(1, .fn 96 [] []),(4, .osl 104 16 (y.1.map axR)),(5, .d (.int .u64 ((N - y.1.length:Nat):Int)))],[(104, .own 116 16 (y.1.map axR).length),(3,rdO y.2)])) (λy=>oZ (rA 9) y.1.length c0=some y/\y.1.length<=N/\y.2.length+y.1.length<=c0.length) (λy=>N - y.1.length) ([],c0) ⟨rfl,Nat.zero_le _,Nat.le_refl _⟩ ⟨by repeat' (first|exact trivial|exact rfl|refine And.intro ?_ ?_),by repeat' (first|exact trivial|exact rfl|refine And.intro ?_ ?_)⟩ ?_
 rintro⟨l,c⟩ ⟨h1,h2,h3⟩
 dsimp only at h1 h2 h3
 have hml:(l.map axR).length=l.length:=List.length_map ..
 have hb63:(l.map axR).length+1<=9223372036854775807:=by rw [hml];omega
 have hb48:((l.map axR).length+1)* 200<=140737488355328:=by rw [hml];omega
 ((conv=>whnf);repeat ((first|(intro hq;try simp only [lnS]at hq)|refine sI ?_|refine .intro _ (.intro rfl ?_));(conv=>whnf)))
 refine aB (λh4=> ?_) (λh4=> ?_)
 ·have hlt:l.length < N:=by dsimp only at h4;omega
  have hw:=aHo hlt hN
  refine RdT.call (e:= λx=>SV.d (.agg (axR x))) aRa rfl (λ_=>rfl) c (by omega) rfl (λx d e2=> ?_) (λe2 b=>⟨hbind.trans (kH h1 e2 hlt),b,rfl⟩)
  have hd:=dX (oG (aOx 9) (Nat.le_refl _)) e2
  rw [aGh]
  ((conv=>whnf);repeat ((first|(refine And.intro hb63 ?_)|(refine And.intro hb48 ?_)|(intro hq;try simp only [lnS]at hq)|refine sI ?_|refine .intro _ (.intro rfl ?_));(conv=>whnf)))
  rw [hw]
  refine⟨(l++[_],d),⟨kI h1 e2,by rw [List.length_append];exact hlt,by dsimp only;rw [List.length_append,List.length_singleton];omega⟩,by dsimp only;rw [List.length_append,List.length_singleton];omega, ?_⟩
  dsimp only
  rw [List.map_append,List.length_append,List.length_append]
  exact⟨by repeat' (first|exact trivial|exact rfl|refine And.intro ?_ ?_),by repeat' (first|exact trivial|exact rfl|refine And.intro ?_ ?_)⟩
 ·have hlN:l.length=N:=by dsimp only at h4;omega
  subst hlN
  ((conv=>whnf);repeat ((first|(intro hq;try simp only [lnS]at hq)|refine sI ?_|refine .intro _ (.intro rfl ?_));(conv=>whnf)))
  exact⟨_,dA.osl,l,c,hbind.trans h1,rfl,rfl⟩
theorem aGg:RdT 57 [] (rAs 9) (λl=> .d (.sl 16 (l.map axR))):=by
 intro bs hb
 refine aG false [] hty Tryz.func57 rfl (kp [0,2]) 100 (by simp [Tryz.f57]) ?_
 ((conv=>whnf);repeat ((first|(intro hq;try simp only [lnS]at hq)|refine sI ?_|refine .intro _ (.intro rfl ?_));(conv=>whnf)))
 refine RdT.call aNj rfl (λ_=>rfl) bs hb rfl (λl b1 e1=> ?_) (λe1 b=>⟨e1,b,rfl⟩)
 ((conv=>whnf);repeat ((first|(intro hq;try simp only [lnS]at hq)|refine sI ?_|refine .intro _ (.intro rfl ?_));(conv=>whnf)))
 exact⟨l,b1,e1,rfl,rfl⟩
def atR (a:At):List D:=[.int .i64 a.kind, .str a.name, .str a.x, .str a.y, .int .i64 a.lo, .int .i64 a.hi]
def aU (p:List At):List D:=[.sl 6 (p.map atR)]
theorem aTg:RdT 130 [] rAt (λa=> .d (.agg (atR a))):=by
 intro bs hb
 refine aG false [] hty Tryz.func130 rfl (kp [0,2]) 100 (by simp [Tryz.f130]) ?_
 ((conv=>whnf);repeat ((first|(intro hq;try simp only [lnS]at hq)|refine sI ?_|refine .intro _ (.intro rfl ?_));(conv=>whnf)))
 refine RdT.call aBr rfl (λ_=>rfl) bs hb rfl (λkd b1 e1=> ?_) (λe1 b=>⟨aV e1,b,rfl⟩)
 have q1:=dX jF e1
 ((conv=>whnf);repeat ((first|(intro hq;try simp only [lnS]at hq)|refine sI ?_|refine .intro _ (.intro rfl ?_));(conv=>whnf)))
 refine RdT.call rO rfl (λ_=>rfl) b1 (by omega) rfl (λs1 b2 e2=> ?_) (λe2 b=>⟨bQ e1 (aV e2),b,rfl⟩)
 have q2:=dX cY e2
 ((conv=>whnf);repeat ((first|(intro hq;try simp only [lnS]at hq)|refine sI ?_|refine .intro _ (.intro rfl ?_));(conv=>whnf)))
 refine RdT.call rO rfl (λ_=>rfl) b2 (by omega) rfl (λs2 b3 e3=> ?_) (λe3 b=>⟨bQ e1 (bQ e2 (aV e3)),b,rfl⟩)
 have q3:=dX cY e3
 ((conv=>whnf);repeat ((first|(intro hq;try simp only [lnS]at hq)|refine sI ?_|refine .intro _ (.intro rfl ?_));(conv=>whnf)))
 refine RdT.call rO rfl (λ_=>rfl) b3 (by omega) rfl (λs3 b4 e4=> ?_) (λe4 b=>⟨bQ e1 (bQ e2 (bQ e3 (aV e4))),b,rfl⟩)
 have q4:=dX cY e4
 ((conv=>whnf);repeat ((first|(intro hq;try simp only [lnS]at hq)|refine sI ?_|refine .intro _ (.intro rfl ?_));(conv=>whnf)))
 refine RdT.call sF rfl (λ_=>rfl) b4 (by omega) rfl (λlo b5 e5=> ?_) (λe5 b=>⟨bQ e1 (bQ e2 (bQ e3 (bQ e4 (aV e5)))),b,rfl⟩)
 have q5:=dX jH e5
 ((conv=>whnf);repeat ((first|(intro hq;try simp only [lnS]at hq)|refine sI ?_|refine .intro _ (.intro rfl ?_));(conv=>whnf)))
 refine RdT.call sF rfl (λ_=>rfl) b5 (by omega) rfl (λhi b6 e6=> ?_) (λe6 b=>⟨bQ e1 (bQ e2 (bQ e3 (bQ e4 (bQ e5 (fI e6))))),b,rfl⟩)
 ((conv=>whnf);repeat ((first|(intro hq;try simp only [lnS]at hq)|refine sI ?_|refine .intro _ (.intro rfl ?_));(conv=>whnf)))
 exact⟨⟨kd,s1,s2,s3,lo,hi⟩,b6,iE e1 (iE e2 (iE e3 (iE e4 (iE e5 (bR e6))))),rfl,rfl⟩
theorem aNk:RdT 129 [.fn 130 [] []] (fJ rAt) (λl=> .d (.sl 6 (l.map atR))):=by
 intro bs hb
 refine aJ.says ?_
 refine aG false [] hty Tryz.func129 rfl (kp [0,1,4,5,9]) 100 (by simp [Tryz.f129]) ?_
 ((conv=>whnf);repeat ((first|(intro hq;try simp only [lnS]at hq)|refine sI ?_|refine .intro _ (.intro rfl ?_));(conv=>whnf)))
 refine RdT.call (hG 4 (by decide)) rfl (λ_=>rfl) bs hb rfl (λN c0 e1=> ?_) (λe1 b=>⟨aV e1,b,rfl⟩)
 have hbind:fJ rAt bs=oZ rAt N c0:=aK e1
 have hc0:=dX (gG 4) e1
 have hN:=oQ e1
 clear e1
 ((conv=>whnf);repeat ((first|(intro hq;try simp only [lnS]at hq)|refine sI ?_|refine .intro _ (.intro rfl ?_));(conv=>whnf)))
 refine aN.own 4 104 70 6 rfl (bW (by with_unfolding_all exact rfl)) ?_
 refine aH hty (λy:List At×List UInt8=>([(0, .ptr 3 0),(1, .fn 130 [] []),(4, .osl 104 6 (y.1.map atR)),(5, .d (.int .u64 ((N - y.1.length:Nat):Int)))],[(104, .own 70 6 (y.1.map atR).length),(3,rdO y.2)])) (λy=>oZ rAt y.1.length c0=some y/\y.1.length<=N/\y.2.length+y.1.length<=c0.length) (λy=>N - y.1.length) ([],c0) ⟨rfl,Nat.zero_le _,Nat.le_refl _⟩ ⟨by repeat' (first|exact trivial|exact rfl|refine And.intro ?_ ?_),by repeat' (first|exact trivial|exact rfl|refine And.intro ?_ ?_)⟩ ?_
 rintro⟨l,c⟩ ⟨h1,h2,h3⟩
 dsimp only at h1 h2 h3
 have hml:(l.map atR).length=l.length:=List.length_map ..
 have hb63:(l.map atR).length+1<=9223372036854775807:=by rw [hml];omega
 have hb48:((l.map atR).length+1)* 72<=140737488355328:=by rw [hml];omega
 ((conv=>whnf);repeat ((first|(intro hq;try simp only [lnS]at hq)|refine sI ?_|refine .intro _ (.intro rfl ?_));(conv=>whnf)))
 refine aB (λh4=> ?_) (λh4=> ?_)
 ·have hlt:l.length < N:=by dsimp only at h4;omega
  have hw:=aHo hlt hN
  refine RdT.call (e:= λx=>SV.d (.agg (atR x))) aTg rfl (λ_=>rfl) c (by omega) rfl (λx d e2=> ?_) (λe2 b=>⟨hbind.trans (kH h1 e2 hlt),b,rfl⟩)
  have hd:=dX aKv e2
  ((conv=>whnf);repeat ((first|(refine And.intro hb63 ?_)|(refine And.intro hb48 ?_)|(intro hq;try simp only [lnS]at hq)|refine sI ?_|refine .intro _ (.intro rfl ?_));(conv=>whnf)))
  rw [hw]
  refine⟨(l++[_],d),⟨kI h1 e2,by rw [List.length_append];exact hlt,by dsimp only;rw [List.length_append,List.length_singleton];omega⟩,by dsimp only;rw [List.length_append,List.length_singleton];omega, ?_⟩
  dsimp only
  rw [List.map_append,List.length_append,List.length_append]
  exact⟨by repeat' (first|exact trivial|exact rfl|refine And.intro ?_ ?_),by repeat' (first|exact trivial|exact rfl|refine And.intro ?_ ?_)⟩
 ·have hlN:l.length=N:=by dsimp only at h4;omega
  subst hlN
  ((conv=>whnf);repeat ((first|(intro hq;try simp only [lnS]at hq)|refine sI ?_|refine .intro _ (.intro rfl ?_));(conv=>whnf)))
  exact⟨_,dA.osl,l,c,hbind.trans h1,rfl,rfl⟩
theorem aSl:RdT 82 [] (fJ rAt) (λp=> .d (.agg (aU p))):=by
 intro bs hb
 refine aG false [] hty Tryz.func82 rfl (kp [0,2]) 100 (by simp [Tryz.f82]) ?_
 ((conv=>whnf);repeat ((first|(intro hq;try simp only [lnS]at hq)|refine sI ?_|refine .intro _ (.intro rfl ?_));(conv=>whnf)))
 refine RdT.call aNk rfl (λ_=>rfl) bs hb rfl (λl b1 e1=> ?_) (λe1 b=>⟨e1,b,rfl⟩)
 ((conv=>whnf);repeat ((first|(intro hq;try simp only [lnS]at hq)|refine sI ?_|refine .intro _ (.intro rfl ?_));(conv=>whnf)))
 exact⟨l,b1,e1,rfl,rfl⟩
theorem aHn:RdT 81 [.fn 82 [] []] (fJ (fJ rAt)) (λl=> .d (.sl 1 (l.map aU))):=by
 intro bs hb
 refine aJ.says ?_
 refine aG false [] hty Tryz.func81 rfl (kp [0,1,4,5,9]) 100 (by simp [Tryz.f81]) ?_
 ((conv=>whnf);repeat ((first|(intro hq;try simp only [lnS]at hq)|refine sI ?_|refine .intro _ (.intro rfl ?_));(conv=>whnf)))
 refine RdT.call (hG 4 (by decide)) rfl (λ_=>rfl) bs hb rfl (λN c0 e1=> ?_) (λe1 b=>⟨aV e1,b,rfl⟩)
 have hbind:fJ (fJ rAt) bs=oZ (fJ rAt) N c0:=aK e1
 have hc0:=dX (gG 4) e1
 have hN:=oQ e1
 clear e1
 ((conv=>whnf);repeat ((first|(intro hq;try simp only [lnS]at hq)|refine sI ?_|refine .intro _ (.intro rfl ?_));(conv=>whnf)))
 refine aN.own 4 104 68 1 rfl (bW (by with_unfolding_all exact rfl)) ?_
 refine aH hty (λy:List (List At)×List UInt8=>([(0, .ptr 3 0),(1, .fn 82 [] []),(4, .osl 104 1 (y.1.map aU)),(5, .d (.int .u64 ((N - y.1.length:Nat):Int)))],[(104, .own 68 1 (y.1.map aU).length),(3,rdO y.2)])) (λy=>oZ (fJ rAt) y.1.length c0=some y/\y.1.length<=N/\y.2.length+y.1.length<=c0.length) (λy=>N - y.1.length) ([],c0) ⟨rfl,Nat.zero_le _,Nat.le_refl _⟩ ⟨by repeat' (first|exact trivial|exact rfl|refine And.intro ?_ ?_),by repeat' (first|exact trivial|exact rfl|refine And.intro ?_ ?_)⟩ ?_
 rintro⟨l,c⟩ ⟨h1,h2,h3⟩
 dsimp only at h1 h2 h3
 have hml:(l.map aU).length=l.length:=List.length_map ..
 have hb63:(l.map aU).length+1<=9223372036854775807:=by rw [hml];omega
 have hb48:((l.map aU).length+1)* 24<=140737488355328:=by rw [hml];omega
 ((conv=>whnf);repeat ((first|(intro hq;try simp only [lnS]at hq)|refine sI ?_|refine .intro _ (.intro rfl ?_));(conv=>whnf)))
 refine aB (λh4=> ?_) (λh4=> ?_)
 ·have hlt:l.length < N:=by dsimp only at h4;omega
  have hw:=aHo hlt hN
  refine RdT.call (e:= λx=>SV.d (.agg (aU x))) aSl rfl (λ_=>rfl) c (by omega) rfl (λx d e2=> ?_) (λe2 b=>⟨hbind.trans (kH h1 e2 hlt),b,rfl⟩)
  have hd:=dX (iN aKv) e2
  ((conv=>whnf);repeat ((first|(refine And.intro hb63 ?_)|(refine And.intro hb48 ?_)|(intro hq;try simp only [lnS]at hq)|refine sI ?_|refine .intro _ (.intro rfl ?_));(conv=>whnf)))
  rw [hw]
  refine⟨(l++[_],d),⟨kI h1 e2,by rw [List.length_append];exact hlt,by dsimp only;rw [List.length_append,List.length_singleton];omega⟩,by dsimp only;rw [List.length_append,List.length_singleton];omega, ?_⟩
  dsimp only
  rw [List.map_append,List.length_append,List.length_append]
  exact⟨by repeat' (first|exact trivial|exact rfl|refine And.intro ?_ ?_),by repeat' (first|exact trivial|exact rfl|refine And.intro ?_ ?_)⟩
 ·have hlN:l.length=N:=by dsimp only at h4;omega
  subst hlN
  ((conv=>whnf);repeat ((first|(intro hq;try simp only [lnS]at hq)|refine sI ?_|refine .intro _ (.intro rfl ?_));(conv=>whnf)))
  exact⟨_,dA.osl,l,c,hbind.trans h1,rfl,rfl⟩
def qyR (q:Qy):List D:=[.sl 1 (q.told.map bL), .sl 1 (q.parts.map aU)]
theorem aQf:RdT 36 [] rQy (λq=> .d (.agg (qyR q))):=by
 intro bs hb
 refine aG false [] hty Tryz.func36 rfl (kp [0,2]) 100 (by simp [Tryz.f36]) ?_
 ((conv=>whnf);repeat ((first|(intro hq;try simp only [lnS]at hq)|refine sI ?_|refine .intro _ (.intro rfl ?_));(conv=>whnf)))
 refine RdT.call aD5 rfl (λ_=>rfl) bs hb rfl (λl b1 e1=> ?_) (λe1 b=>⟨aV e1,b,rfl⟩)
 have q1:=dX (iN cY) e1
 ((conv=>whnf);repeat ((first|(intro hq;try simp only [lnS]at hq)|refine sI ?_|refine .intro _ (.intro rfl ?_));(conv=>whnf)))
 refine RdT.call aHn rfl (λ_=>rfl) b1 (by omega) rfl (λp b2 e2=> ?_) (λe2 b=>⟨bQ e1 (fI e2),b,rfl⟩)
 ((conv=>whnf);repeat ((first|(intro hq;try simp only [lnS]at hq)|refine sI ?_|refine .intro _ (.intro rfl ?_));(conv=>whnf)))
 exact⟨⟨l,p⟩,b2,iE e1 (bR e2),rfl,rfl⟩
def alR (a:Al):List D:=[.str a.name]++gP a.base++[.sl 16 (a.axioms.map axR)]++gP a.pub++[.int .i64 a.index, .sl 32 (a.parts.map gP), .sl 32 (a.path.map gP)]
theorem aFd:RdT 49 [] (rAl 9) (λa=> .d (.agg (alR a))):=by
 intro bs hb
 refine aG false [] hty Tryz.func49 rfl (kp [0,2]) 100 (by simp [Tryz.f49]) ?_
 ((conv=>whnf);repeat ((first|(intro hq;try simp only [lnS]at hq)|refine sI ?_|refine .intro _ (.intro rfl ?_));(conv=>whnf)))
 refine RdT.call rO rfl (λ_=>rfl) bs hb rfl (λs b1 e1=> ?_) (λe1 b=>⟨aV e1,b,rfl⟩)
 have q1:=dX cY e1
 ((conv=>whnf);repeat ((first|(intro hq;try simp only [lnS]at hq)|refine sI ?_|refine .intro _ (.intro rfl ?_));(conv=>whnf)))
 refine RdT.call aC2 rfl (λ_=>rfl) b1 (by omega) rfl (λd1 b2 e2=> ?_) (λe2 b=>⟨bQ e1 (aV e2),b,rfl⟩)
 have q2:=dX vZ e2
 obtain⟨xl,hx⟩:=d1
 obtain⟨y0,y1,y2,y3,y4,y5,y6,y7,y8,y9,y10,y11,y12,y13,y14,y15,y16,y17,y18,y19,y20,y21,y22,y23,y24,y25,y26,y27,y28,y29,y30,y31,rfl⟩:=jS hx
 ((conv=>whnf);repeat ((first|(intro hq;try simp only [lnS]at hq)|refine sI ?_|refine .intro _ (.intro rfl ?_));(conv=>whnf)))
 refine RdT.call aGg rfl (λ_=>rfl) b2 (by omega) rfl (λax b3 e3=> ?_) (λe3 b=>⟨bQ e1 (bQ e2 (aV e3)),b,rfl⟩)
 have q3:=dX (iN (aOx 9)) e3
 ((conv=>whnf);repeat ((first|(intro hq;try simp only [lnS]at hq)|refine sI ?_|refine .intro _ (.intro rfl ?_));(conv=>whnf)))
 refine RdT.call aC2 rfl (λ_=>rfl) b3 (by omega) rfl (λd2 b4 e4=> ?_) (λe4 b=>⟨bQ e1 (bQ e2 (bQ e3 (aV e4))),b,rfl⟩)
 have q4:=dX vZ e4
 obtain⟨zl,hz⟩:=d2
 obtain⟨z0,z1,z2,z3,z4,z5,z6,z7,z8,z9,z10,z11,z12,z13,z14,z15,z16,z17,z18,z19,z20,z21,z22,z23,z24,z25,z26,z27,z28,z29,z30,z31,rfl⟩:=jS hz
 ((conv=>whnf);repeat ((first|(intro hq;try simp only [lnS]at hq)|refine sI ?_|refine .intro _ (.intro rfl ?_));(conv=>whnf)))
 refine RdT.call sF rfl (λ_=>rfl) b4 (by omega) rfl (λix b5 e5=> ?_) (λe5 b=>⟨bQ e1 (bQ e2 (bQ e3 (bQ e4 (aV e5)))),b,rfl⟩)
 have q5:=dX jH e5
 ((conv=>whnf);repeat ((first|(intro hq;try simp only [lnS]at hq)|refine sI ?_|refine .intro _ (.intro rfl ?_));(conv=>whnf)))
 refine RdT.call aD6 rfl (λ_=>rfl) b5 (by omega) rfl (λps b6 e6=> ?_) (λe6 b=>⟨bQ e1 (bQ e2 (bQ e3 (bQ e4 (bQ e5 (aV e6))))),b,rfl⟩)
 have q6:=dX (iN vZ) e6
 ((conv=>whnf);repeat ((first|(intro hq;try simp only [lnS]at hq)|refine sI ?_|refine .intro _ (.intro rfl ?_));(conv=>whnf)))
 refine RdT.call aD6 rfl (λ_=>rfl) b6 (by omega) rfl (λpt b7 e7=> ?_) (λe7 b=>⟨bQ e1 (bQ e2 (bQ e3 (bQ e4 (bQ e5 (bQ e6 (fI e7)))))),b,rfl⟩)
 ((conv=>whnf);repeat ((first|(intro hq;try simp only [lnS]at hq)|refine sI ?_|refine .intro _ (.intro rfl ?_));(conv=>whnf)))
 exact⟨⟨s,_,ax,_,ix,ps,pt⟩,b7,iE e1 (iE e2 (iE e3 (iE e4 (iE e5 (iE e6 (bR e7)))))),rfl,rfl⟩
end Go.Proofs.YtleihcnongldbaaGreatDoor
namespace Go.Proofs.YtleihcnongldbaaGreatDoor
open Go.Proofs Go.RowKit
set_option maxRecDepth 100000
theorem aOk:Tryz.prog.underlying 26=some (.slice 5):=by kernel_rfl
theorem aRz:Tryz.prog.underlying 5=some (.int .u8):=by kernel_rfl
theorem aW0:Tryz.prog.underlying 38=some (.array 32 5):=by kernel_rfl
theorem aV3:Tryz.prog.cellsOf 5=1:=by kernel_rfl
def TX:List TypeId:=53::38::51::26::5::TT
theorem aDz {n:Nat}{ds:List D}(h:TyD Tryz.prog n 26 ds): ∃b:List UInt8,aC7 Tryz.prog 26 ds= .d (.sl 1 (b.map aM)):=by
 obtain⟨m,rfl,rows,rfl,hn,hr⟩:=hO aOk h
 obtain⟨b,rfl⟩:=tS (f:=aM) (λr hr=>by obtain⟨c,rfl⟩:=aOm aRz hr;exact⟨c,rfl⟩) rows hr
 exact⟨b,by simp only [aC7,aOk,aV3]⟩
theorem aC5 {n:Nat}{ds:List D}(h:TyD Tryz.prog n 38 ds): ∃d:Dig,ds=gP d:=by
 obtain⟨m,rfl,h1⟩:=aJ4 aW0 h
 obtain⟨f,rfl⟩:=aJ3 (λa ha=>aOm aRz ha) 32 ds h1
 exact⟨⟨(List.range 32).map f,by simp⟩,by unfold gP;rw [List.map_map];rfl⟩
end Go.Proofs.YtleihcnongldbaaGreatDoor
namespace Go.Proofs.YtleihcnongldbaaGreatDoor
open Go.Proofs Go.RowKit
set_option maxRecDepth 100000
theorem aOj:wQ Tryz.prog 25=some [22,23]:=by kernel_rfl
theorem aU5:wQ Tryz.prog 68=some [66]:=by kernel_rfl
theorem aU7:wQ Tryz.prog 70=some [3,9,9,9,3,3]:=by kernel_rfl
theorem aRx:Tryz.prog.underlying 23=some (.slice 68):=by kernel_rfl
theorem aS1:Tryz.prog.underlying 66=some (.slice 70):=by kernel_rfl
theorem aOl:wQ Tryz.prog 44=some [9,38,39,38,42]:=by kernel_rfl
theorem aVz:wQ Tryz.prog 42=some [3,40,40]:=by kernel_rfl
theorem aU6:Tryz.prog.underlying 40=some (.slice 38):=by kernel_rfl
theorem aV2:Tryz.prog.cellsOf 68=1:=by kernel_rfl
theorem aV4:Tryz.prog.cellsOf 70=6:=by kernel_rfl
theorem aW7:Tryz.prog.cellsOf 38=32:=by kernel_rfl
def TYY:List TypeId:=25::68::70::23::66::44::42::40::TX
theorem clY:Cl Tryz.prog (· ∈TYY):=aV1 (by kernel_rfl)
theorem aL1 {n:Nat}{ds:List D}(h:TyD Tryz.prog n 70 ds): ∃a:At,ds=atR a:=by
 obtain⟨m,rfl,a1,b1,rfl,h1,a2,b2,rfl,h2,a3,b3,rfl,h3,a4,b4,rfl,h4,a5,b5,rfl,h5,a6,b6,rfl,h6,rfl⟩:=fY aU7 h
 obtain⟨k,rfl,_⟩:=mZ u3 h1
 obtain⟨s1,rfl,_⟩:=eC u9 h2
 obtain⟨s2,rfl,_⟩:=eC u9 h3
 obtain⟨s3,rfl,_⟩:=eC u9 h4
 obtain⟨lo,rfl,_⟩:=mZ u3 h5
 obtain⟨hi,rfl,_⟩:=mZ u3 h6
 exact⟨⟨k,s1,s2,s3,lo,hi⟩,rfl⟩
theorem aL0 {n:Nat}{ds:List D}(h:TyD Tryz.prog n 68 ds): ∃p:List At,ds=aU p:=by
 obtain⟨m,rfl,a1,b1,rfl,h1,rfl⟩:=fY aU5 h
 obtain⟨m,rfl,rows,rfl,hn,hr⟩:=hO aS1 h1
 obtain⟨p,rfl⟩:=tS (f:=atR) (λr hr=>aL1 hr) rows hr
 exact⟨p,by rw [aV4];rfl⟩
theorem aLl {n:Nat}{ds:List D}(h:TyD Tryz.prog n 25 ds): ∃q:Qy,aC7 Tryz.prog 25 ds= .d (.agg (qyR q)):=by
 rw [aFk aOj]
 obtain⟨m,rfl,a1,b1,rfl,h1,a2,b2,rfl,h2,rfl⟩:=fY aOj h
 obtain⟨told,rfl,_,_⟩:=uV h1
 obtain⟨m,rfl,rows,rfl,hn,hr⟩:=hO aRx h2
 obtain⟨ps,rfl⟩:=tS (f:=aU) (λr hr=>aL0 hr) rows hr
 exact⟨⟨told,ps⟩,by rw [aV2];rfl⟩
theorem aDn {n:Nat}{ds:List D}(h:TyD Tryz.prog n 40 ds): ∃l:List Dig,ds=[.sl 32 (l.map gP)]:=by
 obtain⟨m,rfl,rows,rfl,hn,hr⟩:=hO aU6 h
 obtain⟨l,rfl⟩:=tS (f:=gP) (λr hr=>aC5 hr) rows hr
 exact⟨l,by rw [aW7]⟩
theorem aNy {n:Nat}{ds:List D}(h:TyD Tryz.prog n 39 ds): ∃l:List Ax,ds=[.sl 16 (l.map axR)]/\ ∀x∈l,SzAx x:=by
 obtain⟨m,rfl,rows,rfl,hn,hr⟩:=hO aPp h
 obtain⟨l,rfl,hl⟩:=aBc (f:=axR) (Q:=SzAx) (λr hr=>aV5 hr) rows hr
 exact⟨l,by rw [aTc],hl⟩
theorem aTj {n:Nat}{ds:List D}(h:TyD Tryz.prog n 44 ds): ∃a:Al,aC7 Tryz.prog 44 ds= .d (.agg (alR a))/\(∀x∈a.axioms,SzAx x)/\InI a.index:=by
 rw [aFk aOl]
 obtain⟨m,rfl,a1,b1,rfl,h1,a2,b2,rfl,h2,a3,b3,rfl,h3,a4,b4,rfl,h4,a5,b5,rfl,h5,rfl⟩:=fY aOl h
 obtain⟨s,rfl,_⟩:=eC u9 h1
 obtain⟨d1,rfl⟩:=aC5 h2
 obtain⟨l,rfl,hl⟩:=aNy h3
 obtain⟨d2,rfl⟩:=aC5 h4
 obtain⟨m,rfl,a6,b6,rfl,h6,a7,b7,rfl,h7,a8,b8,rfl,h8,rfl⟩:=fY aVz h5
 obtain⟨z,rfl,hz⟩:=mZ u3 h6
 obtain⟨p,rfl⟩:=aDn h7
 obtain⟨q,rfl⟩:=aDn h8
 exact⟨⟨s,d1,l,d2,z,p,q⟩,by unfold alR;simp,hl,hz⟩
end Go.Proofs.YtleihcnongldbaaGreatDoor
namespace Go.Proofs.YtleihcnongldbaaGreatDoor
open Go.RowKit
section
variable {P:Program}
theorem aJ.ownH {pin:Pin}{fr:Fr}{hp:Hp}{f:FuncId}{args:List SV}{K:SV->Hp->Prop}(i id t e z:Nat) (hnil:aT hp i=some (.cells t [.d .nil])) (hfr:jT id pin fr hp) (hna:id∉SV.idsL args)
  (h:aJ P pin fr ((id, .own e z 0)::gQ hp i (.cells t [.osl id z []])) f args K):aJ P pin fr hp f args K:=by
 intro E ρ w tm hpin h3 h4 vs hargs
 obtain⟨f1,f2,f3⟩:=hfr
 obtain⟨m1,m2,m3⟩:=h3.newNil (id:=id) e z f3 (by rw [hpin];exact f1)
 have hne:i≠id:= λe=>f3 (by subst e;exact bV hnil (.inl rfl))
 have hi':aT ((id,HObj.own e z 0)::hp) i=some (.cells t [.d .nil]):=by
  simp only [aT];rw [if_neg (Ne.symm hne)];exact hnil
 have m4 := m1.recell hi' (cs' := [.osl id z []]) rfl (λj s' v hs' hv => by
  cases j with
  |zero=>
   simp at hs'
   subst hs'
   have:=(hv (.d .nil) rfl).nil_inv
   subst this
   exact m3
  |succ j=>simp at hs')
 have e2:gQ ((id,HObj.own e z 0)::hp) i (.cells t [.osl id z []])=(id, .own e z 0)::gQ hp i (.cells t [.osl id z []]):=by
  simp only [gQ];rw [if_neg (Ne.symm hne)]
 rw [e2]at m4
 have hidsA: ∀(l:List SV) (k:Nat),id∉SV.idsL l->id∉gR (lP k l):=by
  intro l
  induction l with
  |nil=>intro k h;simp [lP,gR]
  |cons s r ih=>
   intro k hn
   rw [SV.idsL,List.mem_append,not_or]at hn
   simp only [lP,gR,List.flatMap_cons,List.mem_append,not_or]
   exact⟨hn.1,ih (k+1) hn.2⟩
 have hget: ∀(l:List SV) (k j:Nat) (s:SV),l[j]? =some s->gO (lP k l) (k+j)=some s:=by
  intro l
  induction l with
  |nil=>intro k j s h;simp at h
  |cons x r ih=>
   intro k j s h
   cases j with
   |zero=>simp at h;subst h;simp [lP,gO]
   |succ j=>
    simp at h
    have:=ih (k+1) j s h
    simp only [lP,gO]
    rw [if_neg (by omega)]
    rw [show k+(j+1)=k+1+j by omega];exact this
 have hav:dH ρ w (lP 0 args) vs:=by
  intro u s hu
  obtain⟨_,q⟩:=oV args 0 u s hu
  simp only [Nat.sub_zero]at q
  have hlt:=(List.getElem?_eq_some_iff.1 q).1
  have hlt':u < vs.size:=by rw [hargs.1];exact hlt
  exact⟨vs[u],Array.getElem?_eq_getElem hlt',hargs.2 u s _ q (Array.getElem?_eq_getElem hlt')⟩
 have hav2:=m2 (lP 0 args) vs (hidsA args 0 hna) hav
 refine h E _ w tm hpin m4 (m2 fr tm f2 h4) vs ⟨hargs.1,λj s v hs hv=> ?_⟩
 have h0:=hget args 0 j s hs
 rw [Nat.zero_add]at h0
 obtain⟨u,q1,q2⟩:=hav2 j s h0
 rw [hv]at q1
 injection q1 with q1
 rw [q1];exact q2
theorem Tri.says {f:FuncId}{args:List SV}{hp:Hp}{post:SV->Prop}(h:Tri P f args hp λs=> ∃s',dA s s'/\post s'):Tri P f args hp post:=
 λw ρ vs a b c=>(h w ρ vs a b c).mono λ_ _ ⟨v,S',s,h1,⟨s',h2,h3⟩,h4,h5,h6,h7,h8⟩=>⟨v,S',s',h1,h3,h4,h5,h6,h7,h2 _ _ _ h8⟩
theorem dA.tup {l m:List SV}(hl:l.length=m.length) (h: ∀(j:Nat) (a b:SV),l[j]? =some a->m[j]? =some b->dA a b):dA (.tup l) (.tup m):= λw ρ v hr=>by
 obtain⟨vs,rfl,h1,h2⟩:=hr.tup_inv
 refine .tup _ _ (h1.trans hl) λj b u hb hu=> ?_
 have hj:j < l.length:=by rw [hl];exact(List.getElem?_eq_some_iff.1 hb).1
 exact h j _ b (List.getElem?_eq_getElem hj) hb w ρ u (h2 j _ u (List.getElem?_eq_getElem hj) hu)
theorem dA.pair {a b c:SV}(h:dA a b):dA (.tup [a,c]) (.tup [b,c]):=dA.tup rfl λj x y hx hy=>by
 match j with
 | 0=>simp at hx hy;subst hx hy;exact h
 | 1=>simp at hx hy;subst hx hy;exact .refl _
 |j+2=>simp at hx
end
end Go.Proofs.YtleihcnongldbaaGreatDoor
namespace Go.Proofs.YtleihcnongldbaaGreatDoor
open Go.RowKit
section
variable {P:Program}
def iP (l:List UInt8):List Value:=l.map λc=> .int .u8 c.toNat
def vH (P:Program) (f:FuncId) (args:List SV) (e:TypeId) (bs:List UInt8):Prop:=
 ∀(w:World) (ρ:Env) (vs:Array Value),(∀b i,ρ.S b i->b < w.heap.size)->cU w ρ args vs->
  Calls P f vs w λx w'=> ∃v,x= .returned v/\Grew w w'/\w'.ownsRow 0 e 1 v bs.length (iP bs)/\ ∀g,v.ownBlock=some g->w.heap.size<=g
theorem aAf {w:World}{S:Nat->Nat->Prop}(l:List UInt8):Flat w S 1 (l.map aM) (iP l):=by
 refine⟨by simp [iP],λrow h=> ?_,λv h=> ?_,λi row j x h1 h2=> ?_⟩
 ·obtain⟨c,_,rfl⟩:=List.mem_map.1 h;rfl
 ·obtain⟨c,_,rfl⟩:=List.mem_map.1 h;rfl
 ·rw [List.getElem?_map,Option.map_eq_some_iff]at h1
  obtain⟨c,hc,rfl⟩:=h1
  have hj:j=0/\x= .int .u8 c.toNat:=by
   cases j with
   |zero=>simp [aM]at h2;exact⟨rfl,h2.symm⟩
   |succ j=>simp [aM]at h2
  obtain⟨rfl,rfl⟩:=hj
  exact⟨.int .u8 c.toNat,by simp [iP,hc], .int _ _⟩
theorem iO {pin:Pin}{fr:Fr}{hp:Hp}{f:FuncId}{args:List SV}{K:SV->Hp->Prop}{e:TypeId}{bs:List UInt8}(hc:vH P f args e bs) (j:Nat) (hfr:jT j pin fr hp) (hk:K (.osl j 1 (bs.map aM)) ((j, .own e 1 (bs.map aM).length)::hp)):aJ P pin fr hp f args K:=by
 intro E ρ w tm hpin hm hf vs hv
 obtain⟨f1,f2,f3⟩:=hfr
 refine(hc w ρ vs hm.slt hv).mono ?_
 rintro x w' ⟨v,rfl,h1,h2,h3⟩
 have hl:bs.length=(bs.map aM).length:=(List.length_map ..).symm
 obtain⟨m1,m2,m3⟩:=hm.newOwn (id:=j) (e:=e) (z:=1) (rows:=bs.map aM) (vs:=iP bs) h1 (by rw [<-hl];exact h2) h3 (aAf bs) f3 (by rw [hpin];exact f1)
 exact .inl ⟨v,_,_,_,rfl,hk,m1,m2 fr tm f2 hf,m3⟩
theorem aGw {w:World}{S:Nat->Nat->Prop}{l:List UInt8}{v:Value}(h:RepD w S (.sl 1 (l.map aM)) v) {g cap n:Nat}{cur:Array Value}{t:TypeId}(hv:v= .slice (some ⟨g,0,none⟩) n cap) (hg:w.heap[g]? =some (.cells cur t (0,0))) (hs:n<=cur.size) (hn:n=l.length):cur.toList.take n=iP l:=by
 obtain⟨A,cap',b,off,e1,_,_,hA,hview⟩:=h.of_sl
 have hl:(l.map aM).length=l.length:=List.length_map ..
 refine List.ext_getElem? λi=> ?_
 rw [List.getElem?_take]
 split
 ·rename_i hi
  have hil:i < l.length:=by omega
  have hne:l.map aM≠[]:=by
   intro e
   have:=congrArg List.length e
   rw [hl]at this
   simp at this
   rw [this]at hil;simp at hil
  have hA':=hA hne
  subst hA'
  rw [hv]at e1
  injection e1 with e1 _ _
  injection e1 with e1
  injection e1 with e1 e2
  subst e1
  obtain⟨u,c1,_,_,c4⟩:=hview.cell i (aM l[i]) 0 (.int .u8 l[i].toNat) (by rw [List.getElem?_map,List.getElem?_eq_getElem hil];rfl) rfl
  cases c4
  have e3:off+(i * 1+0)=i:=by omega
  rw [e3]at c1
  rw [cell_of_row w g i cur t (0,0) hg]at c1
  rw [Array.getElem?_toList,c1]
  simp [iP,List.getElem?_eq_getElem hil]
 ·rename_i hi
  symm
  rw [List.getElem?_eq_none_iff]
  simp [iP];omega
theorem aQy {w:World}{S:Nat->Nat->Prop}{l:List UInt8}{vs:List Value}(h:Flat w S 1 (l.map aM) vs):vs=iP l:=by
 have hl:vs.length=l.length:=by rw [h.len,List.length_map,Nat.mul_one]
 refine List.ext_getElem? λi=> ?_
 by_cases hi:i < l.length
 ·obtain⟨v,h1,h2⟩:=h.at_ i (aM l[i]) 0 (.int .u8 l[i].toNat) (by rw [List.getElem?_map,List.getElem?_eq_getElem hi];rfl) rfl
  have e3:i * 1+0=i:=by omega
  rw [e3]at h1
  cases h2
  rw [h1]
  simp [iP,List.getElem?_eq_getElem hi]
 ·rw [List.getElem?_eq_none_iff.2 (by omega),List.getElem?_eq_none_iff.2 (by simp [iP];omega)]
theorem nA {f:FuncId}{args:List SV}{e:TypeId}{bs:List UInt8}
  (h:aJ P ⟨[],λ_ _=>False,[]⟩ [] [] f args λs h=>(∃id n,s= .osl id 1 (bs.map aM)/\aT h id=some (.own e 1 n)/\n=bs.length)\/ ∃id n cap,s= .mw id 1 n/\aT h id=some (.mrow e 1 cap (bs.map aM))/\n=bs.length/\bs≠[]):vH P f args e bs:=by
 intro w ρ vs hslt hargs
 have hm:Mem ⟨w,ρ.S,λ_=>False,⟨[],λ_ _=>False,[]⟩,ρ,none,[],0⟩ ρ [] w:=
  ⟨rfl,rfl, .refl _,Nat.le_refl _,λ_ _ _=>rfl,λ_ _ h=>h,λ_ _ h _ _=>h,hslt,λ_ _ _=>rfl,λ_ _ h=>by simp [aT]at h,λ_ _ _ _ _ h=>by simp [aT]at h,λ_ _ _ h=>by simp [aT]at h,λid _=>ρ.moved_refl id,λ_ _ _ h=>by simp [aT]at h,λb hb=>by cases hb⟩
 refine(h _ ρ w #[] rfl hm (λt s h=>by simp [gO]at h) vs hargs).mono ?_
 have hl:(bs.map aM).length=bs.length:=List.length_map ..
 rintro x w' (⟨v,ρ',s,hp',rfl,hk,k2,k3,k4⟩|⟨ch,ρ',hp',_,_,hf,_⟩)
 ·have hgrew:Grew w w':=⟨k2.os,k2.tape,k2.output,k2.size,λb hb=>k2.old b hb (λh=>h)⟩
  rcases hk with⟨id,n,rfl,ho,hn⟩|⟨id,n,cap,rfl,ho,hn,hne⟩
  ·obtain⟨q1,xs,q2,q3,q4⟩:=k2.sat id _ ho
   obtain⟨r1,r2,r3⟩:=k4.osl_inv
   have ev:=r3 (by rw [hl,q1,hn])
   subst ev
   refine⟨_,rfl,hgrew, ?_,λg hg=> ?_⟩
   ·rw [q1,hn]at q2
    obtain⟨p1,p2|⟨g,cap,cur,p2,p3,p4,p5,p6,p7,p8⟩⟩:=q2
    ·refine⟨by simp [iP], .inl p2⟩
    ·refine⟨by simp [iP], .inr ⟨g,cap,cur,p2,p3,p4,p5,p6,p7, ?_⟩⟩
     have:=aGw r1 p2 p4 (by rw [p7];omega) rfl
     rw [Nat.mul_one];exact this
   ·rcases k2.hb id _ g ho hg with h1|h1
    ·exact h1
    ·exact h1.elim
  ·obtain⟨q1,q2⟩:=k2.sat id _ ho
   obtain⟨A,c,_,_,_,_,_,e2⟩:=k4.mw_inv
   have ev:=e2 (by rw [q1,hl,hn])
   rcases q2 with⟨p1,p2,A',p3⟩|⟨hc,g,cur,p3,p4,p5,p6,p7,p8,p9⟩
   ·exfalso
    have:(bs.map aM).length=0:=by rw [p1];rfl
    rw [hl]at this
    exact hne (List.length_eq_zero_iff.1 this)
   ·rw [ev,p3]
    refine⟨_,rfl,hgrew,⟨by simp [iP], .inr ⟨g,cap,cur,by rw [hl],Nat.zero_le _,p4,by rw [hl]at p5;exact p5,p6,p7, ?_⟩⟩,λg' hg'=> ?_⟩
    ·have:=aQy p8
     rw [hl]at this;exact this
    ·have hgg:g'=g:=by simp [Value.ownBlock]at hg';exact hg'.symm
     subst hgg
     have hb:fR (ρ'.tv id)=some g':=by
      rw [p3]
      have hc0:cap≠0:=by omega
      simp [fR,hc0]
     rcases k2.hb id _ g' ho hb with h1|h1
     ·exact h1
     ·exact h1.elim
 ·exact hf.elim
theorem vH.tri {f:FuncId}{args:List SV}{e:TypeId}{bs:List UInt8}(h:vH P f args e bs):Tri P f args [] (λr=>r= .d (.sl 1 (bs.map aM))):=by
 intro w ρ vs hslt hargs _
 refine(h w ρ vs hslt hargs).mono ?_
 rintro x w' ⟨v,rfl,h1,h2,h3⟩
 have hl:(bs.map aM).length=bs.length:=List.length_map ..
 have hm:Mem ⟨w,ρ.S,λ_=>False,⟨[],λ_ _=>False,[]⟩,ρ,none,[],0⟩ ρ [] w:=
  ⟨rfl,rfl, .refl _,Nat.le_refl _,λ_ _ _=>rfl,λ_ _ h=>h,λ_ _ h _ _=>h,hslt,λ_ _ _=>rfl,λ_ _ h=>by simp [aT]at h,λ_ _ _ _ _ h=>by simp [aT]at h,λ_ _ _ h=>by simp [aT]at h,λid _=>ρ.moved_refl id,λ_ _ _ h=>by simp [aT]at h,λb hb=>by cases hb⟩
 obtain⟨m1,m2,m3⟩:=hm.newOwn (id:=0) (e:=e) (z:=1) (rows:=bs.map aM) (vs:=iP bs) h1 (by rw [hl];exact h2) h3 (aAf bs) (by simp [tK]) (λh=>by cases h)
 refine⟨v,_,_,rfl,rfl,h1,m1.sold,λb i hs=> ?_,m1.slt,(Rep.d _ _ m3.osl_inv.1:Rep w' _ (.d (.sl 1 (bs.map aM))) v).noids rfl rfl⟩
 rcases Nat.lt_or_ge b w.heap.size with hlt|hge
 ·exact .inl (m1.snew b i hs hlt (λh=>h))
 ·exact .inr hge
end
end Go.Proofs.YtleihcnongldbaaGreatDoor
namespace Go.Proofs.YtleihcnongldbaaGreatDoor
open Go.Proofs Go.RowKit
set_option maxRecDepth 10000
attribute [local irreducible] aN aJ Tri aI YVC cP bE
theorem aUr {i j:Nat}{h1 hp:Hp}{x y o u o' u':HObj}(hij:i≠j) (hx:aT hp i=some x) (hy:aT hp j=some y) (ho:aT h1 3=some o) (hu:aT h1 4=some u) (hs:o.sim/\u.sim) (hr:¬ o.Rd/\¬ u.Rd) (hi:(∀k∈o.ids,k∈[3,4])/\ ∀k∈u.ids,k∈[3,4])
  (he:o.ren (λk=>if k=3 then i else j)=o') (he':u.ren (λk=>if k=3 then i else j)=u'):Left (λk=>if k=3 then i else j) [3,4] h1 hp (gQ (gQ hp i o') j u'):=by
 have hy':aT (gQ hp i o') j=some y:=by rw [bN o' hx,if_neg (Ne.symm hij)];exact hy
 refine⟨λk hk=> ?_,λk z hz=> ?_⟩
 ·have hk:k=3\/k=4:=by simpa using hk
  rcases hk with rfl|rfl
  ·refine⟨o,ho,hs.1,hr.1,hi.1, ?_⟩
   show aT (gQ (gQ hp i o') j u') i=_
   rw [bN u' hy',if_neg hij,bN o' hx,if_pos rfl,he]
  ·refine⟨u,hu,hs.2,hr.2,hi.2, ?_⟩
   show aT (gQ (gQ hp i o') j u') j=_
   rw [bN u' hy',if_pos rfl,he']
 ·rw [bN u' hy']at hz
  split at hz
  ·rename_i e;exact .inl ⟨4,by simp,by rw [e];rfl⟩
  ·rw [bN o' hx]at hz
   split at hz
   ·rename_i e;exact .inl ⟨3,by simp,by rw [e];rfl⟩
   ·exact .inr hz
theorem aTk {i j:Nat}{hp:Hp}{x y o u:HObj}(hij:i≠j) (hx:aT hp i=some x) (hy:aT hp j=some y) (he:o.ren (λk=>if k=3 then i else j)=x) (he':u.ren (λk=>if k=3 then i else j)=y) (hs:o.sim/\u.sim):Among (λk=>if k=3 then i else j) [3,4] [(3,o),(4,u)] hp:=by
 have key: ∀k z,aT [(3,o),(4,u)] k=some z->k=3/\z=o\/k=4/\z=u:=by
  intro k z h
  simp only [aT]at h
  split at h
  ·rename_i e;injection h with h;exact .inl ⟨e.symm,h.symm⟩
  ·split at h
   ·rename_i e;injection h with h;exact .inr ⟨e.symm,h.symm⟩
   ·cases h
 refine⟨λk z h=> ?_,λk z k' z' h h' e=> ?_,λk hk=> ?_,λk z h=> ?_⟩
 ·rcases key k z h with⟨rfl,rfl⟩|⟨rfl,rfl⟩
  ·exact⟨by rw [he];exact hx,hs.1⟩
  ·exact⟨by rw [he'];exact hy,hs.2⟩
 ·rcases key k z h with⟨rfl,rfl⟩|⟨rfl,rfl⟩<;>rcases key k' z' h' with⟨rfl,rfl⟩|⟨rfl,rfl⟩
  ·rfl
  ·exact absurd e hij
  ·exact absurd e (Ne.symm hij)
  ·rfl
 ·have hk:k=3\/k=4:=by simpa using hk
  rcases hk with rfl|rfl
  ·exact⟨o,by simp [aT]⟩
  ·exact⟨u,by simp [aT]⟩
 ·rcases key k z h with⟨rfl,rfl⟩|⟨rfl,rfl⟩
  ·exact .inl (by simp)
  ·exact .inl (by simp)
abbrev wrC (j:Nat) (p:List UInt8):HObj:= .cells 73 [.osl j 1 (p.map aM)]
abbrev wrB (p:List UInt8):HObj:= .own 5 1 (p.map aM).length
abbrev aW1:Pin:=⟨[3,4],λ_ _=>False,[]⟩
def WrT (f:FuncId) (ex:List SV) (out:List UInt8):Prop:= ∀p:List UInt8,p.length+out.length<=100000000000000->
 aJ Tryz.prog aW1 [] [(3,wrC 4 p),(4,wrB p)] f (.ptr 3 0::ex) (λs h=>s= .tup []/\aT h 3=some (wrC 4 (p++out))/\aT h 4=some (wrB (p++out)))
theorem WrT.call {f:FuncId}{ex:List SV}{out:List UInt8}(h:WrT f ex out) (hx:SV.idsL ex=[]) {pin:Pin}{fr:Fr}{hp:Hp}{i j:Nat}{K:SV->Hp->Prop}(p:List UInt8) (hb:p.length+out.length<=100000000000000) (hij:i≠j) (hg:aT hp i=some (wrC j p)) (hg':aT hp j=some (wrB p))
  (hok:fQ hp i (wrC j (p++out)) λh=>fQ h j (wrB (p++out)) (K (.tup []))):aJ Tryz.prog pin fr hp f (.ptr i 0::ex) K:=by
 have hs: ∀(p:List UInt8),(wrC 4 p).sim:= λp s hs=>by simp at hs;subst hs;trivial
 have hi: ∀(p:List UInt8),∀k∈(wrC 4 p).ids,k∈[3,4]:= λp k hk=>by simp [HObj.ids,SV.idsL,SV.ids]at hk;simp [hk]
 refine rI (λk=>if k=3 then i else j) [3,4] [(3,wrC 4 p),(4,wrB p)] (h p hb) (aTk hij hg hg' rfl rfl ⟨hs p,trivial⟩) (λk hk=>hk) (by rw [List.map_cons,aBf hx];rfl) ?_ ?_ ?_
 ·intro s hs
  rcases List.mem_cons.1 hs with rfl|hs
  ·trivial
  ·exact aBa hx s hs
 ·rintro s h1 ⟨rfl,e2,e3⟩
  have hnone: ∀k∈SV.ids (SV.tup []),k∈[3,4]:=by
   intro k hk
   cases hk
  refine⟨rfl,hnone,_,aUr hij hg hg' e2 e3 ⟨hs _,trivial⟩ ⟨λh=>h,λh=>h⟩ ⟨hi _,λk hk=>by cases hk⟩ rfl rfl, ?_⟩
  rw [dQ,dQ]at hok
  exact hok
 ·exact λh1 h2=>h2.elim
end Go.Proofs.YtleihcnongldbaaGreatDoor
namespace Go.Proofs.YtleihcnongldbaaGreatDoor
open Go.Proofs Go.RowKit
set_option maxRecDepth 10000
attribute [local irreducible] aN aJ Tri aI YVC cP bE
theorem nT (n:Nat):(((UInt8.ofNat (n % 256)).toNat:Nat):Int)=((n % 256:Nat):Int):=by simp
theorem aLc (z:Int):IntKind.u8.wrap z=(((UInt8.ofNat (uN z % 256)).toNat:Nat):Int):=by
 rw [nT]
 have e3: ∀k:Int,IntKind.u8.wrap k=k % 256:= λk=>rfl
 rw [e3]
 unfold uN
 omega
theorem uG {n:Nat}(h:n<=100000000000000):uN (n:Int)=n:=by unfold uN;omega
theorem bM (p q:List UInt8):(p++q).map aM=p.map aM++q.map aM:=List.map_append ..
theorem fN (p q:List UInt8):((p++q).map aM).length=(p.map aM).length+(q.map aM).length:=by rw [bM,List.length_append]
theorem bO (p:List UInt8):(p.map aM).length=p.length:=List.length_map ..
theorem wG (j:Nat) (p q:List UInt8):wrC j (p++q)= .cells 73 [.osl j 1 (p.map aM++q.map aM)]:=by rw [<-bM]
theorem wH (p q:List UInt8):wrB (p++q)= .own 5 1 ((p.map aM).length+(q.map aM).length):=by rw [<-fN]
theorem oK (z:Int):WrT 69 [.d (.int .i64 z)] (eG z):=by
 intro p hp
 have hl:(eG z).length=1:=aP ..
 have hml:=bO p
 have hb63:(p.map aM).length+1<=9223372036854775807:=by rw [hml];omega
 have hb48:((p.map aM).length+1)* 1<=140737488355328:=by rw [hml];omega
 refine aG false [] hty Tryz.func69 rfl (kp [0,1]) 100 (by simp [Tryz.f69]) ?_
 ((conv=>whnf);repeat ((first|(refine And.intro hb63 ?_)|(refine And.intro hb48 ?_)|(intro hq;try simp only [lnS]at hq)|refine sI ?_|refine .intro _ (.intro rfl ?_));(conv=>whnf)))
 rw [aLc]
 rw [wG,wH]
 exact⟨rfl,rfl⟩
theorem aR7 (n j:Nat) (h:j < 8):(beN 8 n).take (j+1)=(beN 8 n).take j++[UInt8.ofNat (n / 2 ^ (56 - 8 * j) % 256)]:=by
 have e:j=0\/j=1\/j=2\/j=3\/j=4\/j=5\/j=6\/j=7:=by omega
 rw [aW8]
 rcases e with rfl|rfl|rfl|rfl|rfl|rfl|rfl|rfl<;>rfl
theorem aR8 (n j:Nat) (h:j < 4):(beN 4 n).take (j+1)=(beN 4 n).take j++[UInt8.ofNat (n / 2 ^ (24 - 8 * j) % 256)]:=by
 have e:j=0\/j=1\/j=2\/j=3:=by omega
 rw [aW9]
 rcases e with rfl|rfl|rfl|rfl<;>rfl
theorem aTd (z:Int) (s:Nat) (hs:s<=64):IntKind.u8.wrap ((IntKind.u64.wrap z).fdiv (2 ^ (min (s:Int).toNat IntKind.u64.bits)))=(((UInt8.ofNat (uN z / 2 ^ s % 256)).toNat:Nat):Int):=by
 rw [aR6 z s hs,nT]
theorem iW (z:Int):WrT 68 [.d (.int .i64 z)] (beN 4 (uN z)):=by
 intro p hp
 have hl:(beN 4 (uN z)).length=4:=aP ..
 refine aG false [] hty Tryz.func68 rfl (kp [0,1,4,6]) 100 (by simp [Tryz.f68]) ?_
 ((conv=>whnf);repeat ((first|(intro hq;try simp only [lnS]at hq)|refine sI ?_|refine .intro _ (.intro rfl ?_));(conv=>whnf)))
 refine aH hty (λj:Nat=>([(0, .ptr 3 0),(1, .d (.int .i64 z)),(4, .d (.int .i64 (24 - 8 * (j:Int))))],[(3,wrC 4 (p++(beN 4 (uN z)).take j)),(4,wrB (p++(beN 4 (uN z)).take j))])) (λj=>j<=4) (λj=>4 - j) 0 (by omega) ⟨by repeat' (first|exact trivial|exact rfl|refine And.intro ?_ ?_),by rw [List.take_zero,List.append_nil];exact⟨rfl,rfl,trivial⟩⟩ ?_
 intro j hj
 have hml:=bO (p++(beN 4 (uN z)).take j)
 rw [List.length_append,List.length_take]at hml
 have hb63:((p++(beN 4 (uN z)).take j).map aM).length+1<=9223372036854775807:=by rw [hml];omega
 have hb48:(((p++(beN 4 (uN z)).take j).map aM).length+1)* 1<=140737488355328:=by rw [hml];omega
 ((conv=>whnf);repeat ((first|(intro hq;try simp only [lnS]at hq)|refine sI ?_|refine .intro _ (.intro rfl ?_));(conv=>whnf)))
 refine aB (λh1=> ?_) (λh1=> ?_)
 ·have hj4:j < 4:=by omega
  have hs:(24 - 8 * (j:Int))=((24 - 8 * j:Nat):Int):=by omega
  have hbt:=aTd z (24 - 8 * j) (by omega)
  have hnx:=aR8 (uN z) j hj4
  dsimp only
  rw [hs]
  ((conv=>whnf);repeat ((first|(intro hq;try simp only [lnS]at hq)|refine sI ?_|refine .intro _ (.intro rfl ?_));(conv=>whnf)))
  refine aBp hty [0,1,2,3,4,5,6,7,8,9,10,11,12,13,14] (by kernel_rfl) (by kernel_rfl) ?_
  ((conv=>whnf);repeat ((first|(refine And.intro hb63 ?_)|(refine And.intro hb48 ?_)|(intro hq;try simp only [lnS]at hq)|refine sI ?_|refine .intro _ (.intro rfl ?_));(conv=>whnf)))
  rw [hbt,show ((24 - 8 * j:Nat):Int) - 8=24 - 8 * ((j+1:Nat):Int)by omega]
  refine⟨j+1,by dsimp only;omega,by dsimp only;omega, ?_⟩
  dsimp only
  rw [hnx,<-List.append_assoc,wG,wH]
  exact⟨by repeat' (first|exact trivial|exact rfl|refine And.intro ?_ ?_),by repeat' (first|exact trivial|exact rfl|refine And.intro ?_ ?_)⟩
 ·have hj4:j=4:=by omega
  subst hj4
  rw [List.take_of_length_le (by rw [hl];exact Nat.le_refl _)]
  ((conv=>whnf);repeat ((first|(intro hq;try simp only [lnS]at hq)|refine sI ?_|refine .intro _ (.intro rfl ?_));(conv=>whnf)))
  exact rfl
theorem hJ (z:Int):WrT 71 [.d (.int .i64 z)] (beN 8 (uN z)):=by
 intro p hp
 have hl:(beN 8 (uN z)).length=8:=aP ..
 refine aG false [] hty Tryz.func71 rfl (kp [0,1,4,6]) 100 (by simp [Tryz.f71]) ?_
 ((conv=>whnf);repeat ((first|(intro hq;try simp only [lnS]at hq)|refine sI ?_|refine .intro _ (.intro rfl ?_));(conv=>whnf)))
 refine aH hty (λj:Nat=>([(0, .ptr 3 0),(1, .d (.int .i64 z)),(4, .d (.int .i64 (56 - 8 * (j:Int))))],[(3,wrC 4 (p++(beN 8 (uN z)).take j)),(4,wrB (p++(beN 8 (uN z)).take j))])) (λj=>j<=8) (λj=>8 - j) 0 (by omega) ⟨by repeat' (first|exact trivial|exact rfl|refine And.intro ?_ ?_),by rw [List.take_zero,List.append_nil];exact⟨rfl,rfl,trivial⟩⟩ ?_
 intro j hj
 have hml:=bO (p++(beN 8 (uN z)).take j)
 rw [List.length_append,List.length_take]at hml
 have hb63:((p++(beN 8 (uN z)).take j).map aM).length+1<=9223372036854775807:=by rw [hml];omega
 have hb48:(((p++(beN 8 (uN z)).take j).map aM).length+1)* 1<=140737488355328:=by rw [hml];omega
 ((conv=>whnf);repeat ((first|(intro hq;try simp only [lnS]at hq)|refine sI ?_|refine .intro _ (.intro rfl ?_));(conv=>whnf)))
 refine aB (λh1=> ?_) (λh1=> ?_)
 ·have hj8:j < 8:=by omega
  have hs:(56 - 8 * (j:Int))=((56 - 8 * j:Nat):Int):=by omega
  have hbt:=aTd z (56 - 8 * j) (by omega)
  have hnx:=aR7 (uN z) j hj8
  dsimp only
  rw [hs]
  ((conv=>whnf);repeat ((first|(intro hq;try simp only [lnS]at hq)|refine sI ?_|refine .intro _ (.intro rfl ?_));(conv=>whnf)))
  refine aBp hty [0,1,2,3,4,5,6,7,8,9,10,11,12,13,14] (by kernel_rfl) (by kernel_rfl) ?_
  ((conv=>whnf);repeat ((first|(refine And.intro hb63 ?_)|(refine And.intro hb48 ?_)|(intro hq;try simp only [lnS]at hq)|refine sI ?_|refine .intro _ (.intro rfl ?_));(conv=>whnf)))
  rw [hbt,show ((56 - 8 * j:Nat):Int) - 8=56 - 8 * ((j+1:Nat):Int)by omega]
  refine⟨j+1,by dsimp only;omega,by dsimp only;omega, ?_⟩
  dsimp only
  rw [hnx,<-List.append_assoc,wG,wH]
  exact⟨by repeat' (first|exact trivial|exact rfl|refine And.intro ?_ ?_),by repeat' (first|exact trivial|exact rfl|refine And.intro ?_ ?_)⟩
 ·have hj8:j=8:=by omega
  subst hj8
  rw [List.take_of_length_le (by rw [hl];exact Nat.le_refl _)]
  ((conv=>whnf);repeat ((first|(intro hq;try simp only [lnS]at hq)|refine sI ?_|refine .intro _ (.intro rfl ?_));(conv=>whnf)))
  exact rfl
theorem fW (s:List UInt8):WrT 70 [.d (.str s)] (bC s):=by
 intro p hp
 have hl:(bC s).length=4+s.length:=by unfold bC;rw [List.length_append,aP]
 have hlc:(beN 4 (uN (s.length:Int))).length=4:=aP ..
 have hu:uN (s.length:Int)=s.length:=uG (by omega)
 refine aG false [] hty Tryz.func70 rfl (kp [0,1]) 100 (by simp [Tryz.f70]) ?_
 ((conv=>whnf);repeat ((first|(intro hq;try simp only [lnS]at hq)|refine sI ?_|refine .intro _ (.intro rfl ?_));(conv=>whnf)))
 refine WrT.call (iW s.length) rfl p (by omega) (by decide) rfl rfl ?_
 rw [hu]
 have hml:=bO (p++beN 4 s.length)
 rw [List.length_append,aP]at hml
 have hb63:((p++beN 4 s.length).map aM).length+(s.map aM).length<=9223372036854775807:=by rw [hml,bO];omega
 have hb48:(((p++beN 4 s.length).map aM).length+(s.map aM).length)* 1<=140737488355328:=by rw [hml,bO];omega
 ((conv=>whnf);repeat ((first|(refine And.intro hb63 ?_)|(refine And.intro hb48 ?_)|(intro hq;try simp only [lnS]at hq)|refine sI ?_|refine .intro _ (.intro rfl ?_));(conv=>whnf)))
 unfold bC
 rw [<-List.append_assoc,wG,wH]
 exact⟨rfl,rfl⟩
theorem rJ (d:Dig):WrT 85 [.d (.agg (gP d))] (fE d):=by
 intro p hp
 obtain⟨l,hl⟩:=d
 have hlw:(fE ⟨l,hl⟩).length=32:=hl
 obtain⟨y0,y1,y2,y3,y4,y5,y6,y7,y8,y9,y10,y11,y12,y13,y14,y15,y16,y17,y18,y19,y20,y21,y22,y23,y24,y25,y26,y27,y28,y29,y30,y31,rfl⟩:=jS hl
 have hml:=bO p
 have hb63:(p.map aM).length+32<=9223372036854775807:=by rw [hml];omega
 have hb48:((p.map aM).length+32)* 1<=140737488355328:=by rw [hml];omega
 refine aG false [3] hty Tryz.func85 rfl (kp [0,1,3]) 100 (by simp [Tryz.f85]) ?_
 ((conv=>whnf);repeat ((first|(intro hq;try simp only [lnS]at hq)|refine sI ?_|refine .intro _ (.intro rfl ?_));(conv=>whnf)))
 refine aBp hty [0,1,2,3,4,5,6,7,8,9] (by kernel_rfl) (by kernel_rfl) ?_
 ((conv=>whnf);repeat ((first|(refine And.intro hb63 ?_)|(refine And.intro hb48 ?_)|(intro hq;try simp only [lnS]at hq)|refine sI ?_|refine .intro _ (.intro rfl ?_));(conv=>whnf)))
 unfold fE
 rw [wG,wH]
 exact⟨rfl,rfl⟩
end Go.Proofs.YtleihcnongldbaaGreatDoor
namespace Go.Proofs.YtleihcnongldbaaGreatDoor
open Go.Proofs Go.RowKit
set_option maxRecDepth 10000
attribute [local irreducible] aN aJ Tri aI YVC cP bE
theorem cM {α:Type}{w:α->List UInt8}{l:List α}{j:Nat}(h:j < l.length):((l.take (j+1)).map w).flatten=((l.take j).map w).flatten++w l[j]:=by
 rw [List.take_succ_eq_append_getElem h,List.map_append,List.flatten_append];simp
theorem iM {α:Type}{w:α->List UInt8}(l:List α) (j:Nat):(((l.take j).map w).flatten).length<=((l.map w).flatten).length:=by
 have e:l.map w=(l.take j).map w++(l.drop j).map w:=by rw [<-List.map_append,List.take_append_drop]
 rw [e,List.flatten_append,List.length_append];omega
theorem cV {α:Type}(w:α->List UInt8) (l:List α):(aX w l).length=4+((l.map w).flatten).length:=by unfold aX;rw [List.length_append,aP]
theorem dW {α:Type}{w:α->List UInt8}{k:Nat}(hk:1<=k) (hw: ∀x,k<=(w x).length) (l:List α):l.length<=((l.map w).flatten).length:=by
 have h:=yA hw l
 have h2:1 * l.length<=k * l.length:=Nat.mul_le_mul_right _ hk
 omega
theorem aCl (s:List UInt8):4<=(bC s).length:=by unfold bC;rw [List.length_append,aP];omega
theorem aCm (d:Dig):32<=(fE d).length:=by obtain⟨l,h⟩:=d;show 32<=l.length;omega
theorem cG (z:Int):(dI z).length=8:=by unfold dI;exact aP ..
theorem aO (z:Int):(eG z).length=1:=aP ..
theorem aAt (l:List (List UInt8)):WrT 67 [.d (.sl 1 (l.map bL))] (aX bC l):=by
 intro p hp
 rw [cV]at hp
 have hn:=dW (by decide) aCl l
 have hu:uN (l.length:Int)=l.length:=uG (by omega)
 have hlr:(l.map bL).length=l.length:=List.length_map ..
 refine aG false [] hty Tryz.func67 rfl (kp [0,1,5,10,11,12,13]) 100 (by simp [Tryz.f67]) ?_
 ((conv=>whnf);repeat ((first|(intro hq;try simp only [lnS]at hq)|refine sI ?_|refine .intro _ (.intro rfl ?_));(conv=>whnf)))
 rw [hlr]
 refine WrT.call (iW l.length) rfl p (by rw [aP];omega) (by decide) rfl rfl ?_
 rw [hu]
 ((conv=>whnf);repeat ((first|(intro hq;try simp only [lnS]at hq)|refine sI ?_|refine .intro _ (.intro rfl ?_));(conv=>whnf)))
 rw [hlr]
 refine aH hty (λj:Nat=>([(0, .ptr 3 0),(10, .d (.sl 1 (l.map bL))),(11, .d (.int .i64 l.length)),(12, .d (.int .i64 j))],[(3,wrC 4 (p++beN 4 l.length++((l.take j).map bC).flatten)),(4,wrB (p++beN 4 l.length++((l.take j).map bC).flatten))])) (λj=>j<=l.length) (λj=>l.length - j) 0 (by omega) ⟨by repeat' (first|exact trivial|exact rfl|refine And.intro ?_ ?_),by rw [List.take_zero,List.map_nil,List.flatten_nil,List.append_nil];exact⟨rfl,rfl,trivial⟩⟩ ?_
 intro j hj
 ((conv=>whnf);repeat ((first|(intro hq;try simp only [lnS]at hq)|refine sI ?_|refine .intro _ (.intro rfl ?_));(conv=>whnf)))
 refine aB (λh1=> ?_) (λh1=> ?_)
 ·have hjl:j < l.length:=by omega
  have hrow:(l.map bL)[((j:Nat):Int).toNat]? =some (bL l[j]):=aS hjl
  have hnx:=cM (w:=bC) hjl
  have hle:=iM (w:=bC) l (j+1)
  rw [hnx,List.length_append]at hle
  ((conv=>whnf);repeat ((first|(refine⟨_,hrow, ?_⟩)|(intro hq;try simp only [lnS]at hq)|refine sI ?_|refine .intro _ (.intro rfl ?_));(conv=>whnf)))
  refine WrT.call (fW l[j]) rfl _ (by rw [List.length_append,List.length_append,aP];omega) (by decide) rfl rfl ?_
  ((conv=>whnf);repeat ((first|(intro hq;try simp only [lnS]at hq)|refine sI ?_|refine .intro _ (.intro rfl ?_));(conv=>whnf)))
  refine⟨j+1,by dsimp only;omega,by dsimp only;omega, ?_⟩
  dsimp only
  rw [hnx,<-List.append_assoc]
  exact⟨by repeat' (first|exact trivial|exact rfl|refine And.intro ?_ ?_),by repeat' (first|exact trivial|exact rfl|refine And.intro ?_ ?_)⟩
 ·have hjl:j=l.length:=by omega
  subst hjl
  rw [List.take_length]
  ((conv=>whnf);repeat ((first|(intro hq;try simp only [lnS]at hq)|refine sI ?_|refine .intro _ (.intro rfl ?_));(conv=>whnf)))
  unfold aX
  rw [<-List.append_assoc]
  exact⟨rfl,rfl⟩
theorem zP (l:List Dig):WrT 86 [.d (.sl 32 (l.map gP))] (aX fE l):=by
 intro p hp
 rw [cV]at hp
 have hn:=dW (by decide) aCm l
 have hu:uN (l.length:Int)=l.length:=uG (by omega)
 have hlr:(l.map gP).length=l.length:=List.length_map ..
 refine aG false [] hty Tryz.func86 rfl (kp [0,1,5,10,11,12,13]) 100 (by simp [Tryz.f86]) ?_
 ((conv=>whnf);repeat ((first|(intro hq;try simp only [lnS]at hq)|refine sI ?_|refine .intro _ (.intro rfl ?_));(conv=>whnf)))
 rw [hlr]
 refine WrT.call (iW l.length) rfl p (by rw [aP];omega) (by decide) rfl rfl ?_
 rw [hu]
 ((conv=>whnf);repeat ((first|(intro hq;try simp only [lnS]at hq)|refine sI ?_|refine .intro _ (.intro rfl ?_));(conv=>whnf)))
 rw [hlr]
 refine aH hty (λj:Nat=>([(0, .ptr 3 0),(10, .d (.sl 32 (l.map gP))),(11, .d (.int .i64 l.length)),(12, .d (.int .i64 j))],[(3,wrC 4 (p++beN 4 l.length++((l.take j).map fE).flatten)),(4,wrB (p++beN 4 l.length++((l.take j).map fE).flatten))])) (λj=>j<=l.length) (λj=>l.length - j) 0 (by omega) ⟨by repeat' (first|exact trivial|exact rfl|refine And.intro ?_ ?_),by rw [List.take_zero,List.map_nil,List.flatten_nil,List.append_nil];exact⟨rfl,rfl,trivial⟩⟩ ?_
 intro j hj
 ((conv=>whnf);repeat ((first|(intro hq;try simp only [lnS]at hq)|refine sI ?_|refine .intro _ (.intro rfl ?_));(conv=>whnf)))
 refine aB (λh1=> ?_) (λh1=> ?_)
 ·have hjl:j < l.length:=by omega
  have hrow:(l.map gP)[((j:Nat):Int).toNat]? =some (gP l[j]):=aS hjl
  have hnx:=cM (w:=fE) hjl
  have hle:=iM (w:=fE) l (j+1)
  rw [hnx,List.length_append]at hle
  have hwd:=rJ l[j]
  generalize l[j]=x at *
  obtain⟨xl,hx⟩:=x
  obtain⟨y0,y1,y2,y3,y4,y5,y6,y7,y8,y9,y10,y11,y12,y13,y14,y15,y16,y17,y18,y19,y20,y21,y22,y23,y24,y25,y26,y27,y28,y29,y30,y31,rfl⟩:=jS hx
  ((conv=>whnf);repeat ((first|(refine⟨_,hrow, ?_⟩)|(intro hq;try simp only [lnS]at hq)|refine sI ?_|refine .intro _ (.intro rfl ?_));(conv=>whnf)))
  refine WrT.call hwd rfl _ (by rw [List.length_append,List.length_append,aP];omega) (by decide) rfl rfl ?_
  ((conv=>whnf);repeat ((first|(intro hq;try simp only [lnS]at hq)|refine sI ?_|refine .intro _ (.intro rfl ?_));(conv=>whnf)))
  refine⟨j+1,by dsimp only;omega,by dsimp only;omega, ?_⟩
  dsimp only
  rw [hnx,<-List.append_assoc]
  exact⟨by repeat' (first|exact trivial|exact rfl|refine And.intro ?_ ?_),by repeat' (first|exact trivial|exact rfl|refine And.intro ?_ ?_)⟩
 ·have hjl:j=l.length:=by omega
  subst hjl
  rw [List.take_length]
  ((conv=>whnf);repeat ((first|(intro hq;try simp only [lnS]at hq)|refine sI ?_|refine .intro _ (.intro rfl ?_));(conv=>whnf)))
  unfold aX
  rw [<-List.append_assoc]
  exact⟨rfl,rfl⟩
theorem aIl (c:Cn):1<=(wC c).length:=by rw [aE4,List.length_append,aO];omega
theorem zQ: ∀c:Cn,WrT 93 [.d (.agg (cnR c))] (wC c):=by
 refine Cn.ind ?_
 intro c ih p hp
 rw [aE4]at hp |-
 rw [bA]
 generalize c.kind=kd at *
 generalize c.name=nm at *
 generalize c.lo=lo at *
 generalize c.hi=hi at *
 generalize c.parts=l at *
 simp only [List.length_append,aO,cG,cV]at hp
 have hn:=dW (Nat.le_refl 1) aIl l
 have hu:uN (l.length:Int)=l.length:=uG (by omega)
 have hlr:(l.map cnR).length=l.length:=List.length_map ..
 refine aG false [] hty Tryz.func93 rfl (kp [0,1,3,5,28,29,30,31]) 100 (by simp [Tryz.f93]) ?_
 ((conv=>whnf);repeat ((first|(intro hq;try simp only [lnS]at hq)|refine sI ?_|refine .intro _ (.intro rfl ?_));(conv=>whnf)))
 refine WrT.call (oK kd) rfl p (by simp only [aO];omega) (by decide) rfl rfl ?_
 ((conv=>whnf);repeat ((first|(intro hq;try simp only [lnS]at hq)|refine sI ?_|refine .intro _ (.intro rfl ?_));(conv=>whnf)))
 refine WrT.call (fW nm) rfl _ (by simp only [List.length_append,aO];omega) (by decide) rfl rfl ?_
 ((conv=>whnf);repeat ((first|(intro hq;try simp only [lnS]at hq)|refine sI ?_|refine .intro _ (.intro rfl ?_));(conv=>whnf)))
 refine WrT.call (hJ lo) rfl _ (by simp only [List.length_append,aO,aP];omega) (by decide) rfl rfl ?_
 ((conv=>whnf);repeat ((first|(intro hq;try simp only [lnS]at hq)|refine sI ?_|refine .intro _ (.intro rfl ?_));(conv=>whnf)))
 refine WrT.call (hJ hi) rfl _ (by simp only [List.length_append,aO,aP];omega) (by decide) rfl rfl ?_
 ((conv=>whnf);repeat ((first|(intro hq;try simp only [lnS]at hq)|refine sI ?_|refine .intro _ (.intro rfl ?_));(conv=>whnf)))
 rw [hlr]
 refine WrT.call (iW l.length) rfl _ (by simp only [List.length_append,aO,aP];omega) (by decide) rfl rfl ?_
 rw [hu]
 have hqq:(p++eG kd++bC nm++dI lo++dI hi++beN 4 l.length).length=p.length+(1+((bC nm).length+(8+(8+4)))):=by
  simp only [List.length_append,aO,cG,aP];omega
 have hfin:p++(eG kd++(bC nm++(dI lo++(dI hi++aX wC l))))=p++eG kd++bC nm++dI lo++dI hi++beN 4 l.length++(l.map wC).flatten:=by
  unfold aX;simp only [List.append_assoc]
 rw [hfin]
 clear hfin
 change fQ _ _ (wrC 4 (p++eG kd++bC nm++dI lo++dI hi++beN 4 l.length)) λh=>fQ h _ (wrB (p++eG kd++bC nm++dI lo++dI hi++beN 4 l.length)) _
 generalize p++eG kd++bC nm++dI lo++dI hi++beN 4 l.length=q at *
 ((conv=>whnf);repeat ((first|(intro hq;try simp only [lnS]at hq)|refine sI ?_|refine .intro _ (.intro rfl ?_));(conv=>whnf)))
 rw [hlr]
 refine aH hty (λj:Nat=>([(0, .ptr 3 0),(28, .d (.sl 5 (l.map cnR))),(29, .d (.int .i64 l.length)),(30, .d (.int .i64 j))],[(3,wrC 4 (q++((l.take j).map wC).flatten)),(4,wrB (q++((l.take j).map wC).flatten))])) (λj=>j<=l.length) (λj=>l.length - j) 0 (by omega) ⟨by repeat' (first|exact trivial|exact rfl|refine And.intro ?_ ?_),by rw [List.take_zero,List.map_nil,List.flatten_nil,List.append_nil];exact⟨rfl,rfl,trivial⟩⟩ ?_
 intro j hj
 ((conv=>whnf);repeat ((first|(intro hq;try simp only [lnS]at hq)|refine sI ?_|refine .intro _ (.intro rfl ?_));(conv=>whnf)))
 refine aB (λh1=> ?_) (λh1=> ?_)
 ·have hjl:j < l.length:=by omega
  have hrow:(l.map cnR)[((j:Nat):Int).toNat]? =some (cnR l[j]):=aS hjl
  have hx:=ih l[j] (List.getElem_mem hjl)
  rw [bA]at hrow hx
  have hnx:=cM (w:=wC) hjl
  have hle:=iM (w:=wC) l (j+1)
  rw [hnx,List.length_append]at hle
  ((conv=>whnf);repeat ((first|(refine⟨_,hrow, ?_⟩)|(intro hq;try simp only [lnS]at hq)|refine sI ?_|refine .intro _ (.intro rfl ?_));(conv=>whnf)))
  refine WrT.call hx rfl _ (by rw [List.length_append,hqq];omega) (by decide) rfl rfl ?_
  ((conv=>whnf);repeat ((first|(intro hq;try simp only [lnS]at hq)|refine sI ?_|refine .intro _ (.intro rfl ?_));(conv=>whnf)))
  refine⟨j+1,by dsimp only;omega,by dsimp only;omega, ?_⟩
  dsimp only
  rw [hnx,<-List.append_assoc]
  exact⟨by repeat' (first|exact trivial|exact rfl|refine And.intro ?_ ?_),by repeat' (first|exact trivial|exact rfl|refine And.intro ?_ ?_)⟩
 ·have hjl:j=l.length:=by omega
  subst hjl
  rw [List.take_length]
  ((conv=>whnf);repeat ((first|(intro hq;try simp only [lnS]at hq)|refine sI ?_|refine .intro _ (.intro rfl ?_));(conv=>whnf)))
  exact rfl
end Go.Proofs.YtleihcnongldbaaGreatDoor
namespace Go.Proofs.YtleihcnongldbaaGreatDoor
open Go.Proofs Go.RowKit
set_option maxRecDepth 10000
attribute [local irreducible] aN aJ Tri aI YVC cP bE vH
theorem aGf: ∀(j n:Nat),beN (j+1) n=UInt8.ofNat (n / 256 ^ j % 256)::beN j n
 | 0,n=>by simp [beN]
 |j+1,n=>by
  rw [beN,aGf j (n / 256),beN,List.cons_append,Nat.div_div_eq_div_mul,Nat.pow_succ,Nat.mul_comm 256]
theorem aU9 (x:Nat):((x:Nat):Int).tdiv 256=((x / 256:Nat):Int):=by
 rw [Int.tdiv_eq_ediv_of_nonneg (Int.natCast_nonneg x),Int.natCast_ediv];rfl
theorem aU8 (x:Nat):((x:Nat):Int).tmod 256=((x % 256:Nat):Int):=by
 rw [Int.tmod_eq_emod_of_nonneg (Int.natCast_nonneg x),Int.natCast_emod];rfl
def aId (m j n:Nat):List UInt8:=List.replicate (m - j) 0++beN j n
theorem aOa (m j n:Nat) (h:j<=m):(aId m j n).length=m:=by unfold aId;rw [List.length_append,List.length_replicate,aP];omega
theorem aO9 (m j n:Nat) (h:j < m):((aId m j n).map aM).set (m - 1 - j) (aM (UInt8.ofNat (n / 256 ^ j % 256)))=(aId m (j+1) n).map aM:=by
 have e:m - j=(m - 1 - j)+1:=by omega
 have e2:m - (j+1)=m - 1 - j:=by omega
 unfold aId
 rw [e2,aGf,e,List.replicate_succ',List.append_assoc,List.map_append,List.map_append,List.set_append_right _ _ (by simp),List.length_map,List.length_replicate,Nat.sub_self,List.map_append]
 rfl
theorem aLe (m n:Nat):(aId m 0 n).map aM=List.replicate m [D.int .u8 0]:=by
 unfold aId;rw [Nat.sub_zero,beN,List.append_nil,List.map_replicate];rfl
theorem aOb (m n:Nat):aId m m n=beN m n:=by unfold aId;rw [Nat.sub_self];rfl
theorem aNs {n:Nat}(h:n < 18446744073709551616) (j:Nat):n / 256 ^ j < 18446744073709551616:=Nat.lt_of_le_of_lt (Nat.div_le_self _ _) h
theorem aJv (n m:Nat) (hn:n < 18446744073709551616) (h0:1<=m) (hm:m<=8):vH Tryz.prog 32 [.d (.int .u64 n), .d (.int .i64 m)] 5 (beN m n):=by
 refine nA ?_
 refine aG false [] hty Tryz.func32 rfl (kp [0,1,4,5,6,12]) 100 (by simp [Tryz.f32]) ?_
 ((conv=>whnf);repeat ((first|(intro hq;try simp only [lnS]at hq)|refine sI ?_|refine .intro _ (.intro rfl ?_));(conv=>whnf)))
 refine aH hty (λj:Nat=>([(0, .d (.int .u64 ((n / 256 ^ j:Nat):Int))),(1, .d (.int .i64 m)),(5, .mw 108 1 m),(6, .d (.int .i64 ((m:Int) - 1 - (j:Int))))],[(108, .mrow 5 1 m ((aId m j n).map aM))])) (λj=>j<=m) (λj=>m - j) 0 (by omega) ?_ ?_
 ·rw [Int.toNat_natCast]
  refine⟨?_, ?_⟩
  ·dsimp only
   rw [Nat.pow_zero,Nat.div_one,show ((m:Int) - 1 - ((0:Nat):Int))=(m:Int) - 1 by omega]
   exact by repeat' (first|exact trivial|exact rfl|refine And.intro ?_ ?_)
  ·dsimp only
   rw [aLe]
   exact⟨rfl,trivial⟩
 intro j hj
 have hlen:((aId m j n).map aM).length=m:=by rw [List.length_map,aOa m j n hj]
 have hd:=aNs hn j
 have hrow:j < m-> ∃row,((aId m j n).map aM)[m - 1 - j]? =some row:= λh=>⟨_,List.getElem?_eq_getElem (by rw [hlen];omega)⟩
 have hset:j < m->_:=aO9 m j n
 have hnd:n / 256 ^ (j+1)=n / 256 ^ j / 256:=by rw [Nat.pow_succ,Nat.div_div_eq_div_mul]
 generalize hx:n / 256 ^ j=x at *
 ((conv=>whnf);repeat ((first|(intro hq;try simp only [lnS]at hq)|refine sI ?_|refine .intro _ (.intro rfl ?_));(conv=>whnf)))
 refine aB (λh1=> ?_) (λh1=> ?_)
 ·have hjm:j < m:=by omega
  obtain⟨row,hrow⟩:=hrow hjm
  replace hset:=hset hjm
  have hti:((m:Int) - 1 - (j:Int)).toNat=m - 1 - j:=by omega
  have t1:=aU8 x
  have t2:=aU9 x
  have hb:IntKind.u8.wrap (((x:Nat):Int).tmod 256)=(((UInt8.ofNat (x % 256)).toNat:Nat):Int):=by
   rw [t1,nT]
   show ((x % 256:Nat):Int) % 256=_
   omega
  have hu:IntKind.u64.wrap (((x:Nat):Int).tdiv 256)=((x / 256:Nat):Int):=by rw [t2];exact jW _ (by omega)
  rw [<-hti]at hrow hset
  ((conv=>whnf);repeat ((first|(refine⟨row,hrow, ?_⟩)|(intro hq;try simp only [lnS]at hq)|refine sI ?_|refine .intro _ (.intro rfl ?_));(conv=>whnf)))
  rw [hb,hu,show ((m:Int) - 1 - (j:Int) - 1)=(m:Int) - 1 - ((j+1:Nat):Int)by omega]
  refine⟨j+1,by dsimp only;omega,by dsimp only;omega, ?_⟩
  dsimp only
  rw [hnd,<-hset]
  exact⟨by repeat' (first|exact trivial|exact rfl|refine And.intro ?_ ?_),by repeat' (first|exact trivial|exact rfl|refine And.intro ?_ ?_)⟩
 ·have hjm:j=m:=by omega
  subst hjm
  rw [aOb]
  ((conv=>whnf);repeat ((first|(intro hq;try simp only [lnS]at hq)|refine sI ?_|refine .intro _ (.intro rfl ?_));(conv=>whnf)))
  refine .inr ⟨108,j,j,rfl,rfl,(aP j n).symm, ?_⟩
  intro e
  have:=aP j n
  rw [e]at this
  simp at this
  omega
theorem nM (z:Int):vH Tryz.prog 34 [.d (.int .i64 z)] 5 (dI z):=by
 have hB:=aJv (uN z) 8 (aRy z) (by decide) (by decide)
 have e:IntKind.u64.wrap z=((uN z:Nat):Int):=by
  have e:IntKind.u64.wrap z=(z % 18446744073709551616):=rfl
  rw [e];unfold uN;omega
 rw [<-e]at hB
 refine nA ?_
 refine aG false [] hty Tryz.func34 rfl (kp [0,2]) 100 (by simp [Tryz.f34]) ?_
 ((conv=>whnf);repeat ((first|(intro hq;try simp only [lnS]at hq)|refine sI ?_|refine .intro _ (.intro rfl ?_));(conv=>whnf)))
 refine iO hB 200 (bW (by with_unfolding_all exact rfl)) ?_
 ((conv=>whnf);repeat ((first|(intro hq;try simp only [lnS]at hq)|refine sI ?_|refine .intro _ (.intro rfl ?_));(conv=>whnf)))
 exact .inl ⟨200,_,rfl,rfl,bO _⟩
theorem lW (s:List UInt8) (hs:s.length<=100000000000000):vH Tryz.prog 33 [.d (.str s)] 5 (bC s):=by
 have hB:=aJv s.length 4 (by omega) (by decide) (by decide)
 have e:IntKind.u64.wrap (s.length:Int)=((s.length:Nat):Int):=jW _ (by omega)
 rw [<-e]at hB
 have hb63:((beN 4 s.length).map aM).length+(s.map aM).length<=9223372036854775807:=by rw [bO,bO,aP];omega
 have hb48:(((beN 4 s.length).map aM).length+(s.map aM).length)* 1<=140737488355328:=by rw [bO,bO,aP];omega
 refine nA ?_
 refine aG false [] hty Tryz.func33 rfl (kp [0,2]) 100 (by simp [Tryz.f33]) ?_
 ((conv=>whnf);repeat ((first|(intro hq;try simp only [lnS]at hq)|refine sI ?_|refine .intro _ (.intro rfl ?_));(conv=>whnf)))
 refine iO hB 200 (bW (by with_unfolding_all exact rfl)) ?_
 ((conv=>whnf);repeat ((first|(refine And.intro hb63 ?_)|(refine And.intro hb48 ?_)|(intro hq;try simp only [lnS]at hq)|refine sI ?_|refine .intro _ (.intro rfl ?_));(conv=>whnf)))
 refine .inl ⟨200,_, ?_,rfl, ?_⟩
 ·unfold bC;rw [bM];rfl
 ·unfold bC;rw [List.length_append,bO,bO]
end Go.Proofs.YtleihcnongldbaaGreatDoor
namespace Go.Proofs.YtleihcnongldbaaGreatDoor
open Go.Proofs
theorem aN.mid {C:Cfg}{c:Code}{fr:Fr}{hp:Hp}{K:Ex->Fr->Hp->Prop}(FR:Fr) (HP:Hp) (h:aN C c fr hp (λe fr' hp'=>e= .normal/\Sub fr' hp' FR HP)) (hk:K .normal FR HP):aN C c fr hp K:=
 λE a w hpin hrd hsat=>wpIn_mono (h E a w hpin hrd hsat) λ_ _ _ ⟨x,fr',hp',E',h0,h1,h2,h3⟩=>by
  cases x with
  |pan=>exact⟨.pan,fr',hp',E',h0,h1,h2,h3⟩
  |normal=>obtain⟨_,hs⟩:=h2;exact⟨.normal,FR,HP,E',h0,h1,hk,h3.sub hs⟩
  |_=>obtain⟨e,_⟩:=h2;cases e
end Go.Proofs.YtleihcnongldbaaGreatDoor
