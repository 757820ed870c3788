/-
  Objects: the reader reads lists. Objects: the reader reads commits. Objects: the reader reads concepts. Objects: the reader reads axioms, queries and alignments.
  Conditions: none.
-/
import Derived.Test.YtcomlapnibckmaaGreatDoorMOn
set_option linter.unnecessarySimpa false
set_option linter.unusedSectionVars false
set_option linter.unusedSimpArgs false
set_option linter.unusedVariables false
set_option maxHeartbeats 16000000
namespace Go.Proofs.YtcomlapnibckmaaGreatDoor
open Go.Proofs Go.RowKit
set_option maxRecDepth 10000
attribute [local irreducible] aL aG Tri aD YVC cP bB
def eE (z:Int):List D:=[.int .i64 z]
theorem cR {α:Type}{r:Rd α}{k:Nat}(h:oE k r) {b c:List UInt8}{x:α}(e:r b=some (x,c)):c.length+k<=b.length:=by
 obtain⟨a,h1,h2⟩:=h b x c e
 rw [h1,List.length_append];omega
theorem eY {α:Type}{r:Rd α}{b c d:List UInt8}{l:List α}{x:α}(h:jD r l.length b=some (l,c)) (e:r c=some (x,d)):jD r (l++[x]).length b=some (l++[x],d):=by
 rw [List.length_append,List.length_singleton,kK,h]
 simp only [Option.bind_some,e,Option.map_some]
theorem eX {α:Type}{r:Rd α}{b c:List UInt8}{l:List α}{N:Nat}(h:jD r l.length b=some (l,c)) (e:r c=none) (hN:l.length < N):jD r N b=none:=by
 refine zO (n:=l.length+1) ?_ (by omega)
 rw [kK,h]
 simp only [Option.bind_some,e,Option.map_none]
theorem iV {bs c:List UInt8}{N:Nat}(h:sB 4 bs=some (N,c)):N < 4294967296:=by
 obtain⟨l,h1,rfl⟩:=uW h
 have hl:l.length=4:=by
  unfold eO at h1
  split at h1
  ·injection h1 with h1;injection h1 with h1 _
   rw [<-h1,List.length_take];omega
  ·cases h1
 exact lV 4 l hl
theorem xI {N k:Nat}(h:k < N) (hN:N < 4294967296):IntKind.u64.wrap (((N - k:Nat):Int) - 1)=((N - (k+1):Nat):Int):=by
 have e:((N - k:Nat):Int) - 1=((N - (k+1):Nat):Int):=by omega
 rw [e]
 exact eU _ (by omega)
theorem aA5:RdT 107 [.fn 106 [] []] (dA rK) (λl=> .d (.sl 1 (l.map eE))):=by
 intro bs hb
 refine aG.says ?_
 refine aF false [] hty Tryz.func107 rfl (kp [0,1,4,5,9]) 100 (by simp [Tryz.f107]) ?_
 ((conv=>whnf);repeat ((first|(intro hq;try simp only [lnS]at hq)|refine sI ?_|refine .intro _ (.intro rfl ?_));(conv=>whnf)))
 refine RdT.call (dP 4 (by decide)) rfl (λ_=>rfl) bs hb rfl (λN c0 e1=> ?_) (λe1 b=>⟨aK e1,b,rfl⟩)
 have hbind:dA rK bs=jD rK N c0:=aU e1
 have hc0:=cR (dF 4) e1
 have hN:=iV e1
 clear e1
 ((conv=>whnf);repeat ((first|(intro hq;try simp only [lnS]at hq)|refine sI ?_|refine .intro _ (.intro rfl ?_));(conv=>whnf)))
 refine aL.own 4 104 3 1 rfl (bY (by with_unfolding_all exact rfl)) ?_
 refine aR hty (λy:List Int×List UInt8=>([(0, .ptr 3 0),(1, .fn 106 [] []),(4, .osl 104 1 (y.1.map eE)),(5, .d (.int .u64 ((N - y.1.length:Nat):Int)))],[(104, .own 3 1 (y.1.map eE).length),(3,rdO y.2)])) (λy=>jD rK y.1.length c0=some y/\y.1.length<=N/\y.2.length+y.1.length<=c0.length) (λy=>N - y.1.length) ([],c0) ⟨rfl,Nat.zero_le _,Nat.le_refl _⟩ ⟨by repeat' (first|exact trivial|exact rfl|refine And.intro ?_ ?_),by repeat' (first|exact trivial|exact rfl|refine And.intro ?_ ?_)⟩ ?_
 rintro⟨l,c⟩ ⟨h1,h2,h3⟩
 dsimp only at h1 h2 h3
 have hml:(l.map eE).length=l.length:=List.length_map ..
 have hb63:(l.map eE).length+1<=9223372036854775807:=by rw [hml];omega
 have hb48:((l.map eE).length+1)* 8<=140737488355328:=by rw [hml];omega
 ((conv=>whnf);repeat ((first|(intro hq;try simp only [lnS]at hq)|refine sI ?_|refine .intro _ (.intro rfl ?_));(conv=>whnf)))
 refine aB (λh4=> ?_) (λh4=> ?_)
 ·have hlt:l.length < N:=by dsimp only at h4;omega
  have hw:=xI hlt hN
  refine RdT.call (e:= λx=>SV.d (.int .i64 x)) iX rfl (λ_=>rfl) c (by omega) rfl (λx d e2=> ?_) (λe2 b=>⟨hbind.trans (eX h1 e2 hlt),b,rfl⟩)
  have hd:=cR dG e2
  ((conv=>whnf);repeat ((first|(refine And.intro hb63 ?_)|(refine And.intro hb48 ?_)|(intro hq;try simp only [lnS]at hq)|refine sI ?_|refine .intro _ (.intro rfl ?_));(conv=>whnf)))
  rw [hw]
  refine⟨(l++[_],d),⟨eY h1 e2,by rw [List.length_append];exact hlt,by dsimp only;rw [List.length_append,List.length_singleton];omega⟩,by dsimp only;rw [List.length_append,List.length_singleton];omega, ?_⟩
  dsimp only
  rw [List.map_append,List.length_append,List.length_append]
  exact⟨by repeat' (first|exact trivial|exact rfl|refine And.intro ?_ ?_),by repeat' (first|exact trivial|exact rfl|refine And.intro ?_ ?_)⟩
 ·have hlN:l.length=N:=by dsimp only at h4;omega
  subst hlN
  ((conv=>whnf);repeat ((first|(intro hq;try simp only [lnS]at hq)|refine sI ?_|refine .intro _ (.intro rfl ?_));(conv=>whnf)))
  exact⟨_,cL.osl,l,c,hbind.trans h1,rfl,rfl⟩
theorem sK:RdT 99 [.fn 100 [] []] (dA oZ) (λl=> .d (.sl 1 (l.map pZ))):=by
 intro bs hb
 refine aG.says ?_
 refine aF false [] hty Tryz.func99 rfl (kp [0,1,4,5,9]) 100 (by simp [Tryz.f99]) ?_
 ((conv=>whnf);repeat ((first|(intro hq;try simp only [lnS]at hq)|refine sI ?_|refine .intro _ (.intro rfl ?_));(conv=>whnf)))
 refine RdT.call (dP 4 (by decide)) rfl (λ_=>rfl) bs hb rfl (λN c0 e1=> ?_) (λe1 b=>⟨aK e1,b,rfl⟩)
 have hbind:dA oZ bs=jD oZ N c0:=aU e1
 have hc0:=cR (dF 4) e1
 have hN:=iV e1
 clear e1
 ((conv=>whnf);repeat ((first|(intro hq;try simp only [lnS]at hq)|refine sI ?_|refine .intro _ (.intro rfl ?_));(conv=>whnf)))
 refine aL.own 4 104 9 1 rfl (bY (by with_unfolding_all exact rfl)) ?_
 refine aR hty (λy:List (List UInt8)×List UInt8=>([(0, .ptr 3 0),(1, .fn 100 [] []),(4, .osl 104 1 (y.1.map pZ)),(5, .d (.int .u64 ((N - y.1.length:Nat):Int)))],[(104, .own 9 1 (y.1.map pZ).length),(3,rdO y.2)])) (λy=>jD oZ y.1.length c0=some y/\y.1.length<=N/\y.2.length+y.1.length<=c0.length) (λy=>N - y.1.length) ([],c0) ⟨rfl,Nat.zero_le _,Nat.le_refl _⟩ ⟨by repeat' (first|exact trivial|exact rfl|refine And.intro ?_ ?_),by repeat' (first|exact trivial|exact rfl|refine And.intro ?_ ?_)⟩ ?_
 rintro⟨l,c⟩ ⟨h1,h2,h3⟩
 dsimp only at h1 h2 h3
 have hml:(l.map pZ).length=l.length:=List.length_map ..
 have hb63:(l.map pZ).length+1<=9223372036854775807:=by rw [hml];omega
 have hb48:((l.map pZ).length+1)* 16<=140737488355328:=by rw [hml];omega
 ((conv=>whnf);repeat ((first|(intro hq;try simp only [lnS]at hq)|refine sI ?_|refine .intro _ (.intro rfl ?_));(conv=>whnf)))
 refine aB (λh4=> ?_) (λh4=> ?_)
 ·have hlt:l.length < N:=by dsimp only at h4;omega
  have hw:=xI hlt hN
  refine RdT.call (e:= λx=>SV.d (.str x)) kG rfl (λ_=>rfl) c (by omega) rfl (λx d e2=> ?_) (λe2 b=>⟨hbind.trans (eX h1 e2 hlt),b,rfl⟩)
  have hd:=cR bW e2
  ((conv=>whnf);repeat ((first|(refine And.intro hb63 ?_)|(refine And.intro hb48 ?_)|(intro hq;try simp only [lnS]at hq)|refine sI ?_|refine .intro _ (.intro rfl ?_));(conv=>whnf)))
  rw [hw]
  refine⟨(l++[_],d),⟨eY h1 e2,by rw [List.length_append];exact hlt,by dsimp only;rw [List.length_append,List.length_singleton];omega⟩,by dsimp only;rw [List.length_append,List.length_singleton];omega, ?_⟩
  dsimp only
  rw [List.map_append,List.length_append,List.length_append]
  exact⟨by repeat' (first|exact trivial|exact rfl|refine And.intro ?_ ?_),by repeat' (first|exact trivial|exact rfl|refine And.intro ?_ ?_)⟩
 ·have hlN:l.length=N:=by dsimp only at h4;omega
  subst hlN
  ((conv=>whnf);repeat ((first|(intro hq;try simp only [lnS]at hq)|refine sI ?_|refine .intro _ (.intro rfl ?_));(conv=>whnf)))
  exact⟨_,cL.osl,l,c,hbind.trans h1,rfl,rfl⟩
end Go.Proofs.YtcomlapnibckmaaGreatDoor
namespace Go.Proofs.YtcomlapnibckmaaGreatDoor
open Go.Proofs Go.RowKit
set_option maxRecDepth 10000
attribute [local irreducible] aL aG Tri aD YVC cP bB
def cmR (c:Cm):List D:=[.int .i64 c.no, .sl 1 (c.parents.map eE)]++pQ c.base++[.str c.message]
theorem bD {α β:Type}{r:Rd α}{f:α->Rd β}{b c:List UInt8}{x:α}(h:r b=some (x,c)) (k:f x c=none):bV r f b=none:=(aU h).trans k
theorem eZ {α β:Type}{r:Rd α}{f:α->Rd β}{b c d:List UInt8}{x:α}{y:β}(h:r b=some (x,c)) (k:f x c=some (y,d)):bV r f b=some (y,d):=(aU h).trans k
theorem aCk:RdT 57 [] rCm (λc=> .d (.agg (cmR c))):=by
 intro bs hb
 refine aF false [] hty Tryz.func57 rfl (kp [0,2]) 100 (by simp [Tryz.f57]) ?_
 ((conv=>whnf);repeat ((first|(intro hq;try simp only [lnS]at hq)|refine sI ?_|refine .intro _ (.intro rfl ?_));(conv=>whnf)))
 refine RdT.call iX rfl (λ_=>rfl) bs hb rfl (λno b1 e1=> ?_) (λe1 b=>⟨aK e1,b,rfl⟩)
 have q1:=cR dG e1
 ((conv=>whnf);repeat ((first|(intro hq;try simp only [lnS]at hq)|refine sI ?_|refine .intro _ (.intro rfl ?_));(conv=>whnf)))
 refine RdT.call aA5 rfl (λ_=>rfl) b1 (by omega) rfl (λps b2 e2=> ?_) (λe2 b=>⟨bD e1 (aK e2),b,rfl⟩)
 have q2:=cR (fG dG) e2
 ((conv=>whnf);repeat ((first|(intro hq;try simp only [lnS]at hq)|refine sI ?_|refine .intro _ (.intro rfl ?_));(conv=>whnf)))
 refine RdT.call aCf rfl (λ_=>rfl) b2 (by omega) rfl (λdg b3 e3=> ?_) (λe3 b=>⟨bD e1 (bD e2 (aK e3)),b,rfl⟩)
 have q3:=cR aCd e3
 obtain⟨xl,hx⟩:=dg
 obtain⟨y0,y1,y2,y3,y4,y5,y6,y7,y8,y9,y10,y11,y12,y13,y14,y15,y16,y17,y18,y19,y20,y21,y22,y23,y24,y25,y26,y27,y28,y29,y30,y31,rfl⟩:=eQ hx
 ((conv=>whnf);repeat ((first|(intro hq;try simp only [lnS]at hq)|refine sI ?_|refine .intro _ (.intro rfl ?_));(conv=>whnf)))
 refine RdT.call kG rfl (λ_=>rfl) b3 (by omega) rfl (λm b4 e4=> ?_) (λe4 b=>⟨bD e1 (bD e2 (bD e3 (cX e4))),b,rfl⟩)
 ((conv=>whnf);repeat ((first|(intro hq;try simp only [lnS]at hq)|refine sI ?_|refine .intro _ (.intro rfl ?_));(conv=>whnf)))
 exact⟨⟨no,ps,_,m⟩,b4,eZ e1 (eZ e2 (eZ e3 (bU e4))),rfl,rfl⟩
end Go.Proofs.YtcomlapnibckmaaGreatDoor
namespace Go.Proofs.YtcomlapnibckmaaGreatDoor
open Go.Proofs Go.RowKit
set_option maxRecDepth 10000
attribute [local irreducible] aL aG Tri aD YVC cP bB
theorem nW: ∀(k d:Nat),d+k=9->RdT 175 [.d (.int .i64 d)] (rC k) (λc=> .d (.agg (cnR c)))
 | 0,d,hd=>by
  intro bs hb
  refine aF false [] hty Tryz.func175 rfl (kp [0,1,3,4,6]) 100 (by simp [Tryz.f175]) ?_
  ((conv=>whnf);repeat ((first|(intro hq;try simp only [lnS]at hq)|refine sI ?_|refine .intro _ (.intro rfl ?_));(conv=>whnf)))
  refine aB (λh1=> ?_) (λh1=> ?_)
  ·((conv=>whnf);repeat ((first|(refine cI hty rfl (by with_unfolding_all exact rfl) rfl rfl ?_)|(intro hq;try simp only [lnS]at hq)|refine sI ?_|refine .intro _ (.intro rfl ?_));(conv=>whnf)))
   exact⟨bs,rfl⟩
  ·omega
 |k+1,d,hd=>by
  intro bs hb
  have ih:RdT 175 [.d (.int .i64 ((d:Int)+1))] (rC k) (λc=> .d (.agg (cnR c))):=by
   rw [show ((d:Int)+1)=((d+1:Nat):Int)by omega]
   exact nW k (d+1) (by omega)
  refine aF false [] hty Tryz.func175 rfl (kp [0,1,3,4,6]) 100 (by simp [Tryz.f175]) ?_
  ((conv=>whnf);repeat ((first|(intro hq;try simp only [lnS]at hq)|refine sI ?_|refine .intro _ (.intro rfl ?_));(conv=>whnf)))
  refine aB (λh1=> ?_) (λh1=> ?_)
  ·omega
  clear h1
  ((conv=>whnf);repeat ((first|(intro hq;try simp only [lnS]at hq)|refine sI ?_|refine .intro _ (.intro rfl ?_));(conv=>whnf)))
  refine RdT.call qS rfl (λ_=>rfl) bs hb rfl (λkd b1 e1=> ?_) (λe1 b=>⟨aK e1,b,rfl⟩)
  have q1:=cR eI e1
  ((conv=>whnf);repeat ((first|(intro hq;try simp only [lnS]at hq)|refine sI ?_|refine .intro _ (.intro rfl ?_));(conv=>whnf)))
  refine RdT.call kG rfl (λ_=>rfl) b1 (by omega) rfl (λnm b2 e2=> ?_) (λe2 b=>⟨bD e1 (aK e2),b,rfl⟩)
  have q2:=cR bW e2
  ((conv=>whnf);repeat ((first|(intro hq;try simp only [lnS]at hq)|refine sI ?_|refine .intro _ (.intro rfl ?_));(conv=>whnf)))
  refine RdT.call iX rfl (λ_=>rfl) b2 (by omega) rfl (λlo b3 e3=> ?_) (λe3 b=>⟨bD e1 (bD e2 (aK e3)),b,rfl⟩)
  have q3:=cR dG e3
  ((conv=>whnf);repeat ((first|(intro hq;try simp only [lnS]at hq)|refine sI ?_|refine .intro _ (.intro rfl ?_));(conv=>whnf)))
  refine RdT.call iX rfl (λ_=>rfl) b3 (by omega) rfl (λhi b4 e4=> ?_) (λe4 b=>⟨bD e1 (bD e2 (bD e3 (aK e4))),b,rfl⟩)
  have q4:=cR dG e4
  have key: ∀{y:List Cn} {c:List UInt8},dA (rC k) b4=some (y,c)->rC (k+1) bs=some (.mk kd nm lo hi y,c):= λe=>eZ e1 (eZ e2 (eZ e3 (eZ e4 (bU e))))
  have keyn:dA (rC k) b4=none->rC (k+1) bs=none:= λe=>bD e1 (bD e2 (bD e3 (bD e4 (cX e))))
  clear e1 e2 e3 e4
  ((conv=>whnf);repeat ((first|(intro hq;try simp only [lnS]at hq)|refine sI ?_|refine .intro _ (.intro rfl ?_));(conv=>whnf)))
  refine aG.says ?_
  refine aF false [] hty Tryz.func227 rfl (kp [0,1,4,5,9]) 200 (by simp [Tryz.f227]) ?_
  ((conv=>whnf);repeat ((first|(intro hq;try simp only [lnS]at hq)|refine sI ?_|refine .intro _ (.intro rfl ?_));(conv=>whnf)))
  refine RdT.call (dP 4 (by decide)) rfl (λ_=>rfl) b4 (by omega) rfl (λN c0 e1=> ?_) (λe1 b=>⟨keyn (aK e1),b,rfl⟩)
  have hbind:dA (rC k) b4=jD (rC k) N c0:=aU e1
  have hc0:=cR (dF 4) e1
  have hN:=iV e1
  clear e1
  ((conv=>whnf);repeat ((first|(intro hq;try simp only [lnS]at hq)|refine sI ?_|refine .intro _ (.intro rfl ?_));(conv=>whnf)))
  refine aL.own 4 204 78 5 rfl (bY (by with_unfolding_all exact rfl)) ?_
  refine aR hty (λy:List Cn×List UInt8=>([(0, .ptr 3 0),(1, .fn 228 [] [.ptr 103 0]),(4, .osl 204 5 (y.1.map cnR)),(5, .d (.int .u64 ((N - y.1.length:Nat):Int)))],[(204, .own 78 5 (y.1.map cnR).length),(3,rdO y.2),(103, .cells 3 [.d (.int .i64 d)]),(104, .cells 78 [.d (.int .i64 kd), .d (.str nm), .d (.int .i64 lo), .d (.int .i64 hi), .d .nil])])) (λy=>jD (rC k) y.1.length c0=some y/\y.1.length<=N/\y.2.length+y.1.length<=c0.length) (λy=>N - y.1.length) ([],c0) ⟨rfl,Nat.zero_le _,Nat.le_refl _⟩ ⟨by repeat' (first|exact trivial|exact rfl|refine And.intro ?_ ?_),by repeat' (first|exact trivial|exact rfl|refine And.intro ?_ ?_)⟩ ?_
  rintro⟨l,c⟩ ⟨h1,h2,h3⟩
  dsimp only at h1 h2 h3
  have hml:(l.map cnR).length=l.length:=List.length_map ..
  have hb63:(l.map cnR).length+1<=9223372036854775807:=by rw [hml];omega
  have hb48:((l.map cnR).length+1)* 64<=140737488355328:=by rw [hml];omega
  ((conv=>whnf);repeat ((first|(intro hq;try simp only [lnS]at hq)|refine sI ?_|refine .intro _ (.intro rfl ?_));(conv=>whnf)))
  refine aB (λh4=> ?_) (λh4=> ?_)
  ·have hlt:l.length < N:=by dsimp only at h4;omega
   have hwN:=xI hlt hN
   ((conv=>whnf);repeat ((first|(intro hq;try simp only [lnS]at hq)|refine sI ?_|refine .intro _ (.intro rfl ?_));(conv=>whnf)))
   refine aF false [] hty Tryz.func228 rfl (kp [0,1,3]) 300 (by simp [Tryz.f228]) ?_
   ((conv=>whnf);repeat ((first|(intro hq;try simp only [lnS]at hq)|refine sI ?_|refine .intro _ (.intro rfl ?_));(conv=>whnf)))
   refine RdT.call ih rfl (λ_=>rfl) c (by omega) rfl (λx d e2=> ?_) (λe2 b=>⟨keyn (hbind.trans (eX h1 e2 hlt)),b,rfl⟩)
   have hd:=cR (pN k) e2
   rw [bL x]
   ((conv=>whnf);repeat ((first|(refine And.intro hb63 ?_)|(refine And.intro hb48 ?_)|(intro hq;try simp only [lnS]at hq)|refine sI ?_|refine .intro _ (.intro rfl ?_));(conv=>whnf)))
   rw [hwN]
   refine⟨(l++[x],d),⟨eY h1 e2,by rw [List.length_append];exact hlt,by dsimp only;rw [List.length_append,List.length_singleton];omega⟩,by dsimp only;rw [List.length_append,List.length_singleton];omega, ?_⟩
   dsimp only
   rw [List.map_append,List.length_append,List.length_append,List.map_singleton,bL x]
   exact⟨by repeat' (first|exact trivial|exact rfl|refine And.intro ?_ ?_),by repeat' (first|exact trivial|exact rfl|refine And.intro ?_ ?_)⟩
  ·have hlN:l.length=N:=by dsimp only at h4;omega
   subst hlN
   ((conv=>whnf);repeat ((first|(intro hq;try simp only [lnS]at hq)|refine sI ?_|refine .intro _ (.intro rfl ?_));(conv=>whnf)))
   refine⟨_,cL.osl, ?_⟩
   ((conv=>whnf);repeat ((first|(intro hq;try simp only [lnS]at hq)|refine sI ?_|refine .intro _ (.intro rfl ?_));(conv=>whnf)))
   refine⟨.mk kd nm lo hi l,c,key (hbind.trans h1), ?_,rfl⟩
   show _=SV.d (D.agg (cnR (.mk kd nm lo hi l)))
   rw [show cnR (.mk kd nm lo hi l)=[.int .i64 kd, .str nm, .int .i64 lo, .int .i64 hi, .sl 5 (l.map cnR)]from bL _]
   rfl
end Go.Proofs.YtcomlapnibckmaaGreatDoor
namespace Go.Proofs.YtcomlapnibckmaaGreatDoor
open Go.Proofs Go.RowKit
set_option maxRecDepth 10000
attribute [local irreducible] aL aG Tri aD YVC cP bB
theorem aF1:RdT 118 [] (rA 9) (λx=> .d (.agg (axR x))):=by
 intro bs hb
 refine aF false [] hty Tryz.func118 rfl (kp [0,2]) 100 (by simp [Tryz.f118]) ?_
 ((conv=>whnf);repeat ((first|(intro hq;try simp only [lnS]at hq)|refine sI ?_|refine .intro _ (.intro rfl ?_));(conv=>whnf)))
 refine RdT.call qS rfl (λ_=>rfl) bs hb rfl (λkd b1 e1=> ?_) (λe1 b=>⟨aK e1,b,rfl⟩)
 have q1:=cR eI e1
 ((conv=>whnf);repeat ((first|(intro hq;try simp only [lnS]at hq)|refine sI ?_|refine .intro _ (.intro rfl ?_));(conv=>whnf)))
 refine RdT.call qS rfl (λ_=>rfl) b1 (by omega) rfl (λop b2 e2=> ?_) (λe2 b=>⟨bD e1 (aK (cX e2)),b,rfl⟩)
 have q2:=cR eI e2
 have e2:rB b1=some (decide (op=1),b2):=bU e2
 ((conv=>whnf);repeat ((first|(intro hq;try simp only [lnS]at hq)|refine sI ?_|refine .intro _ (.intro rfl ?_));(conv=>whnf)))
 refine RdT.call (nW 9 0 rfl) rfl (λ_=>rfl) b2 (by omega) rfl (λle b3 e3=> ?_) (λe3 b=>⟨bD e1 (bD e2 (aK e3)),b,rfl⟩)
 have q3:=cR (pN 9) e3
 rw [bL le]
 ((conv=>whnf);repeat ((first|(intro hq;try simp only [lnS]at hq)|refine sI ?_|refine .intro _ (.intro rfl ?_));(conv=>whnf)))
 refine RdT.call (nW 9 0 rfl) rfl (λ_=>rfl) b3 (by omega) rfl (λri b4 e4=> ?_) (λe4 b=>⟨bD e1 (bD e2 (bD e3 (aK e4))),b,rfl⟩)
 have q4:=cR (pN 9) e4
 rw [bL ri]
 ((conv=>whnf);repeat ((first|(intro hq;try simp only [lnS]at hq)|refine sI ?_|refine .intro _ (.intro rfl ?_));(conv=>whnf)))
 refine RdT.call sK rfl (λ_=>rfl) b4 (by omega) rfl (λrs b5 e5=> ?_) (λe5 b=>⟨bD e1 (bD e2 (bD e3 (bD e4 (aK e5)))),b,rfl⟩)
 have q5:=cR (fG bW) e5
 ((conv=>whnf);repeat ((first|(intro hq;try simp only [lnS]at hq)|refine sI ?_|refine .intro _ (.intro rfl ?_));(conv=>whnf)))
 refine RdT.call kG rfl (λ_=>rfl) b5 (by omega) rfl (λs1 b6 e6=> ?_) (λe6 b=>⟨bD e1 (bD e2 (bD e3 (bD e4 (bD e5 (aK e6))))),b,rfl⟩)
 have q6:=cR bW e6
 ((conv=>whnf);repeat ((first|(intro hq;try simp only [lnS]at hq)|refine sI ?_|refine .intro _ (.intro rfl ?_));(conv=>whnf)))
 refine RdT.call kG rfl (λ_=>rfl) b6 (by omega) rfl (λs2 b7 e7=> ?_) (λe7 b=>⟨bD e1 (bD e2 (bD e3 (bD e4 (bD e5 (bD e6 (aK e7)))))),b,rfl⟩)
 have q7:=cR bW e7
 ((conv=>whnf);repeat ((first|(intro hq;try simp only [lnS]at hq)|refine sI ?_|refine .intro _ (.intro rfl ?_));(conv=>whnf)))
 refine RdT.call kG rfl (λ_=>rfl) b7 (by omega) rfl (λs3 b8 e8=> ?_) (λe8 b=>⟨bD e1 (bD e2 (bD e3 (bD e4 (bD e5 (bD e6 (bD e7 (cX e8))))))),b,rfl⟩)
 ((conv=>whnf);repeat ((first|(intro hq;try simp only [lnS]at hq)|refine sI ?_|refine .intro _ (.intro rfl ?_));(conv=>whnf)))
 exact⟨⟨kd,_,le,ri,rs,s1,s2,s3⟩,b8,eZ e1 (eZ e2 (eZ e3 (eZ e4 (eZ e5 (eZ e6 (eZ e7 (bU e8))))))),rfl,rfl⟩
theorem aCu (x:Ax):axR x=[.int .i64 x.kind, .bool x.isopen, .int .i64 x.left.kind, .str x.left.name, .int .i64 x.left.lo, .int .i64 x.left.hi, .sl 5 (x.left.parts.map cnR), .int .i64 x.right.kind, .str x.right.name, .int .i64 x.right.lo, .int .i64 x.right.hi, .sl 5 (x.right.parts.map cnR), .sl 1 (x.roles.map pZ), .str x.role, .str x.a, .str x.b]:=rfl
theorem aC9:RdT 117 [.fn 118 [] []] (dA (rA 9)) (λl=> .d (.sl 16 (l.map axR))):=by
 intro bs hb
 refine aG.says ?_
 refine aF false [] hty Tryz.func117 rfl (kp [0,1,4,5,9]) 100 (by simp [Tryz.f117]) ?_
 ((conv=>whnf);repeat ((first|(intro hq;try simp only [lnS]at hq)|refine sI ?_|refine .intro _ (.intro rfl ?_));(conv=>whnf)))
 refine RdT.call (dP 4 (by decide)) rfl (λ_=>rfl) bs hb rfl (λN c0 e1=> ?_) (λe1 b=>⟨aK e1,b,rfl⟩)
 have hbind:dA (rA 9) bs=jD (rA 9) N c0:=aU e1
 have hc0:=cR (dF 4) e1
 have hN:=iV e1
 clear e1
 ((conv=>whnf);repeat ((first|(intro hq;try simp only [lnS]at hq)|refine sI ?_|refine .intro _ (.intro rfl ?_));(conv=>whnf)))
 refine aL.own 4 104 80 16 rfl (bY (by with_unfolding_all exact rfl)) ?_
 refine aR hty (λy:List Ax×List UInt8=>([(0, .ptr 3 0),(1, .fn 118 [] []),(4, .osl 104 16 (y.1.map axR)),(5, .d (.int .u64 ((N - y.1.length:Nat):Int)))],[(104, .own 80 16 (y.1.map axR).length),(3,rdO y.2)])) (λy=>jD (rA 9) y.1.length c0=some y/\y.1.length<=N/\y.2.length+y.1.length<=c0.length) (λy=>N - y.1.length) ([],c0) ⟨rfl,Nat.zero_le _,Nat.le_refl _⟩ ⟨by repeat' (first|exact trivial|exact rfl|refine And.intro ?_ ?_),by repeat' (first|exact trivial|exact rfl|refine And.intro ?_ ?_)⟩ ?_
 rintro⟨l,c⟩ ⟨h1,h2,h3⟩
 dsimp only at h1 h2 h3
 have hml:(l.map axR).length=l.length:=List.length_map ..
 have hb63:(l.map axR).length+1<=9223372036854775807:=by rw [hml];omega
 have hb48:((l.map axR).length+1)* 200<=140737488355328:=by rw [hml];omega
 ((conv=>whnf);repeat ((first|(intro hq;try simp only [lnS]at hq)|refine sI ?_|refine .intro _ (.intro rfl ?_));(conv=>whnf)))
 refine aB (λh4=> ?_) (λh4=> ?_)
 ·have hlt:l.length < N:=by dsimp only at h4;omega
  have hw:=xI hlt hN
  refine RdT.call (e:= λx=>SV.d (.agg (axR x))) aF1 rfl (λ_=>rfl) c (by omega) rfl (λx d e2=> ?_) (λe2 b=>⟨hbind.trans (eX h1 e2 hlt),b,rfl⟩)
  have hd:=cR (iN (aG9 9) (Nat.le_refl _)) e2
  rw [aCu]
  ((conv=>whnf);repeat ((first|(refine And.intro hb63 ?_)|(refine And.intro hb48 ?_)|(intro hq;try simp only [lnS]at hq)|refine sI ?_|refine .intro _ (.intro rfl ?_));(conv=>whnf)))
  rw [hw]
  refine⟨(l++[_],d),⟨eY h1 e2,by rw [List.length_append];exact hlt,by dsimp only;rw [List.length_append,List.length_singleton];omega⟩,by dsimp only;rw [List.length_append,List.length_singleton];omega, ?_⟩
  dsimp only
  rw [List.map_append,List.length_append,List.length_append]
  exact⟨by repeat' (first|exact trivial|exact rfl|refine And.intro ?_ ?_),by repeat' (first|exact trivial|exact rfl|refine And.intro ?_ ?_)⟩
 ·have hlN:l.length=N:=by dsimp only at h4;omega
  subst hlN
  ((conv=>whnf);repeat ((first|(intro hq;try simp only [lnS]at hq)|refine sI ?_|refine .intro _ (.intro rfl ?_));(conv=>whnf)))
  exact⟨_,cL.osl,l,c,hbind.trans h1,rfl,rfl⟩
theorem aCt:RdT 71 [] (rAs 9) (λl=> .d (.sl 16 (l.map axR))):=by
 intro bs hb
 refine aF false [] hty Tryz.func71 rfl (kp [0,2]) 100 (by simp [Tryz.f71]) ?_
 ((conv=>whnf);repeat ((first|(intro hq;try simp only [lnS]at hq)|refine sI ?_|refine .intro _ (.intro rfl ?_));(conv=>whnf)))
 refine RdT.call aC9 rfl (λ_=>rfl) bs hb rfl (λl b1 e1=> ?_) (λe1 b=>⟨e1,b,rfl⟩)
 ((conv=>whnf);repeat ((first|(intro hq;try simp only [lnS]at hq)|refine sI ?_|refine .intro _ (.intro rfl ?_));(conv=>whnf)))
 exact⟨l,b1,e1,rfl,rfl⟩
def atR (a:At):List D:=[.int .i64 a.kind, .str a.name, .str a.x, .str a.y, .int .i64 a.lo, .int .i64 a.hi]
def qN (p:List At):List D:=[.sl 6 (p.map atR)]
theorem aGg:RdT 167 [] rAt (λa=> .d (.agg (atR a))):=by
 intro bs hb
 refine aF false [] hty Tryz.func167 rfl (kp [0,2]) 100 (by simp [Tryz.f167]) ?_
 ((conv=>whnf);repeat ((first|(intro hq;try simp only [lnS]at hq)|refine sI ?_|refine .intro _ (.intro rfl ?_));(conv=>whnf)))
 refine RdT.call qS rfl (λ_=>rfl) bs hb rfl (λkd b1 e1=> ?_) (λe1 b=>⟨aK e1,b,rfl⟩)
 have q1:=cR eI e1
 ((conv=>whnf);repeat ((first|(intro hq;try simp only [lnS]at hq)|refine sI ?_|refine .intro _ (.intro rfl ?_));(conv=>whnf)))
 refine RdT.call kG rfl (λ_=>rfl) b1 (by omega) rfl (λs1 b2 e2=> ?_) (λe2 b=>⟨bD e1 (aK e2),b,rfl⟩)
 have q2:=cR bW e2
 ((conv=>whnf);repeat ((first|(intro hq;try simp only [lnS]at hq)|refine sI ?_|refine .intro _ (.intro rfl ?_));(conv=>whnf)))
 refine RdT.call kG rfl (λ_=>rfl) b2 (by omega) rfl (λs2 b3 e3=> ?_) (λe3 b=>⟨bD e1 (bD e2 (aK e3)),b,rfl⟩)
 have q3:=cR bW e3
 ((conv=>whnf);repeat ((first|(intro hq;try simp only [lnS]at hq)|refine sI ?_|refine .intro _ (.intro rfl ?_));(conv=>whnf)))
 refine RdT.call kG rfl (λ_=>rfl) b3 (by omega) rfl (λs3 b4 e4=> ?_) (λe4 b=>⟨bD e1 (bD e2 (bD e3 (aK e4))),b,rfl⟩)
 have q4:=cR bW e4
 ((conv=>whnf);repeat ((first|(intro hq;try simp only [lnS]at hq)|refine sI ?_|refine .intro _ (.intro rfl ?_));(conv=>whnf)))
 refine RdT.call iX rfl (λ_=>rfl) b4 (by omega) rfl (λlo b5 e5=> ?_) (λe5 b=>⟨bD e1 (bD e2 (bD e3 (bD e4 (aK e5)))),b,rfl⟩)
 have q5:=cR dG e5
 ((conv=>whnf);repeat ((first|(intro hq;try simp only [lnS]at hq)|refine sI ?_|refine .intro _ (.intro rfl ?_));(conv=>whnf)))
 refine RdT.call iX rfl (λ_=>rfl) b5 (by omega) rfl (λhi b6 e6=> ?_) (λe6 b=>⟨bD e1 (bD e2 (bD e3 (bD e4 (bD e5 (cX e6))))),b,rfl⟩)
 ((conv=>whnf);repeat ((first|(intro hq;try simp only [lnS]at hq)|refine sI ?_|refine .intro _ (.intro rfl ?_));(conv=>whnf)))
 exact⟨⟨kd,s1,s2,s3,lo,hi⟩,b6,eZ e1 (eZ e2 (eZ e3 (eZ e4 (eZ e5 (bU e6))))),rfl,rfl⟩
theorem aCa:RdT 166 [.fn 167 [] []] (dA rAt) (λl=> .d (.sl 6 (l.map atR))):=by
 intro bs hb
 refine aG.says ?_
 refine aF false [] hty Tryz.func166 rfl (kp [0,1,4,5,9]) 100 (by simp [Tryz.f166]) ?_
 ((conv=>whnf);repeat ((first|(intro hq;try simp only [lnS]at hq)|refine sI ?_|refine .intro _ (.intro rfl ?_));(conv=>whnf)))
 refine RdT.call (dP 4 (by decide)) rfl (λ_=>rfl) bs hb rfl (λN c0 e1=> ?_) (λe1 b=>⟨aK e1,b,rfl⟩)
 have hbind:dA rAt bs=jD rAt N c0:=aU e1
 have hc0:=cR (dF 4) e1
 have hN:=iV e1
 clear e1
 ((conv=>whnf);repeat ((first|(intro hq;try simp only [lnS]at hq)|refine sI ?_|refine .intro _ (.intro rfl ?_));(conv=>whnf)))
 refine aL.own 4 104 86 6 rfl (bY (by with_unfolding_all exact rfl)) ?_
 refine aR hty (λy:List At×List UInt8=>([(0, .ptr 3 0),(1, .fn 167 [] []),(4, .osl 104 6 (y.1.map atR)),(5, .d (.int .u64 ((N - y.1.length:Nat):Int)))],[(104, .own 86 6 (y.1.map atR).length),(3,rdO y.2)])) (λy=>jD rAt y.1.length c0=some y/\y.1.length<=N/\y.2.length+y.1.length<=c0.length) (λy=>N - y.1.length) ([],c0) ⟨rfl,Nat.zero_le _,Nat.le_refl _⟩ ⟨by repeat' (first|exact trivial|exact rfl|refine And.intro ?_ ?_),by repeat' (first|exact trivial|exact rfl|refine And.intro ?_ ?_)⟩ ?_
 rintro⟨l,c⟩ ⟨h1,h2,h3⟩
 dsimp only at h1 h2 h3
 have hml:(l.map atR).length=l.length:=List.length_map ..
 have hb63:(l.map atR).length+1<=9223372036854775807:=by rw [hml];omega
 have hb48:((l.map atR).length+1)* 72<=140737488355328:=by rw [hml];omega
 ((conv=>whnf);repeat ((first|(intro hq;try simp only [lnS]at hq)|refine sI ?_|refine .intro _ (.intro rfl ?_));(conv=>whnf)))
 refine aB (λh4=> ?_) (λh4=> ?_)
 ·have hlt:l.length < N:=by dsimp only at h4;omega
  have hw:=xI hlt hN
  refine RdT.call (e:= λx=>SV.d (.agg (atR x))) aGg rfl (λ_=>rfl) c (by omega) rfl (λx d e2=> ?_) (λe2 b=>⟨hbind.trans (eX h1 e2 hlt),b,rfl⟩)
  have hd:=cR aAl e2
  ((conv=>whnf);repeat ((first|(refine And.intro hb63 ?_)|(refine And.intro hb48 ?_)|(intro hq;try simp only [lnS]at hq)|refine sI ?_|refine .intro _ (.intro rfl ?_));(conv=>whnf)))
  rw [hw]
  refine⟨(l++[_],d),⟨eY h1 e2,by rw [List.length_append];exact hlt,by dsimp only;rw [List.length_append,List.length_singleton];omega⟩,by dsimp only;rw [List.length_append,List.length_singleton];omega, ?_⟩
  dsimp only
  rw [List.map_append,List.length_append,List.length_append]
  exact⟨by repeat' (first|exact trivial|exact rfl|refine And.intro ?_ ?_),by repeat' (first|exact trivial|exact rfl|refine And.intro ?_ ?_)⟩
 ·have hlN:l.length=N:=by dsimp only at h4;omega
  subst hlN
  ((conv=>whnf);repeat ((first|(intro hq;try simp only [lnS]at hq)|refine sI ?_|refine .intro _ (.intro rfl ?_));(conv=>whnf)))
  exact⟨_,cL.osl,l,c,hbind.trans h1,rfl,rfl⟩
theorem aFv:RdT 102 [] (dA rAt) (λp=> .d (.agg (qN p))):=by
 intro bs hb
 refine aF false [] hty Tryz.func102 rfl (kp [0,2]) 100 (by simp [Tryz.f102]) ?_
 ((conv=>whnf);repeat ((first|(intro hq;try simp only [lnS]at hq)|refine sI ?_|refine .intro _ (.intro rfl ?_));(conv=>whnf)))
 refine RdT.call aCa rfl (λ_=>rfl) bs hb rfl (λl b1 e1=> ?_) (λe1 b=>⟨e1,b,rfl⟩)
 ((conv=>whnf);repeat ((first|(intro hq;try simp only [lnS]at hq)|refine sI ?_|refine .intro _ (.intro rfl ?_));(conv=>whnf)))
 exact⟨l,b1,e1,rfl,rfl⟩
theorem xH:RdT 101 [.fn 102 [] []] (dA (dA rAt)) (λl=> .d (.sl 1 (l.map qN))):=by
 intro bs hb
 refine aG.says ?_
 refine aF false [] hty Tryz.func101 rfl (kp [0,1,4,5,9]) 100 (by simp [Tryz.f101]) ?_
 ((conv=>whnf);repeat ((first|(intro hq;try simp only [lnS]at hq)|refine sI ?_|refine .intro _ (.intro rfl ?_));(conv=>whnf)))
 refine RdT.call (dP 4 (by decide)) rfl (λ_=>rfl) bs hb rfl (λN c0 e1=> ?_) (λe1 b=>⟨aK e1,b,rfl⟩)
 have hbind:dA (dA rAt) bs=jD (dA rAt) N c0:=aU e1
 have hc0:=cR (dF 4) e1
 have hN:=iV e1
 clear e1
 ((conv=>whnf);repeat ((first|(intro hq;try simp only [lnS]at hq)|refine sI ?_|refine .intro _ (.intro rfl ?_));(conv=>whnf)))
 refine aL.own 4 104 84 1 rfl (bY (by with_unfolding_all exact rfl)) ?_
 refine aR hty (λy:List (List At)×List UInt8=>([(0, .ptr 3 0),(1, .fn 102 [] []),(4, .osl 104 1 (y.1.map qN)),(5, .d (.int .u64 ((N - y.1.length:Nat):Int)))],[(104, .own 84 1 (y.1.map qN).length),(3,rdO y.2)])) (λy=>jD (dA rAt) y.1.length c0=some y/\y.1.length<=N/\y.2.length+y.1.length<=c0.length) (λy=>N - y.1.length) ([],c0) ⟨rfl,Nat.zero_le _,Nat.le_refl _⟩ ⟨by repeat' (first|exact trivial|exact rfl|refine And.intro ?_ ?_),by repeat' (first|exact trivial|exact rfl|refine And.intro ?_ ?_)⟩ ?_
 rintro⟨l,c⟩ ⟨h1,h2,h3⟩
 dsimp only at h1 h2 h3
 have hml:(l.map qN).length=l.length:=List.length_map ..
 have hb63:(l.map qN).length+1<=9223372036854775807:=by rw [hml];omega
 have hb48:((l.map qN).length+1)* 24<=140737488355328:=by rw [hml];omega
 ((conv=>whnf);repeat ((first|(intro hq;try simp only [lnS]at hq)|refine sI ?_|refine .intro _ (.intro rfl ?_));(conv=>whnf)))
 refine aB (λh4=> ?_) (λh4=> ?_)
 ·have hlt:l.length < N:=by dsimp only at h4;omega
  have hw:=xI hlt hN
  refine RdT.call (e:= λx=>SV.d (.agg (qN x))) aFv rfl (λ_=>rfl) c (by omega) rfl (λx d e2=> ?_) (λe2 b=>⟨hbind.trans (eX h1 e2 hlt),b,rfl⟩)
  have hd:=cR (fG aAl) e2
  ((conv=>whnf);repeat ((first|(refine And.intro hb63 ?_)|(refine And.intro hb48 ?_)|(intro hq;try simp only [lnS]at hq)|refine sI ?_|refine .intro _ (.intro rfl ?_));(conv=>whnf)))
  rw [hw]
  refine⟨(l++[_],d),⟨eY h1 e2,by rw [List.length_append];exact hlt,by dsimp only;rw [List.length_append,List.length_singleton];omega⟩,by dsimp only;rw [List.length_append,List.length_singleton];omega, ?_⟩
  dsimp only
  rw [List.map_append,List.length_append,List.length_append]
  exact⟨by repeat' (first|exact trivial|exact rfl|refine And.intro ?_ ?_),by repeat' (first|exact trivial|exact rfl|refine And.intro ?_ ?_)⟩
 ·have hlN:l.length=N:=by dsimp only at h4;omega
  subst hlN
  ((conv=>whnf);repeat ((first|(intro hq;try simp only [lnS]at hq)|refine sI ?_|refine .intro _ (.intro rfl ?_));(conv=>whnf)))
  exact⟨_,cL.osl,l,c,hbind.trans h1,rfl,rfl⟩
def qyR (q:Qy):List D:=[.sl 1 (q.told.map pZ), .sl 1 (q.parts.map qN)]
theorem aEc:RdT 48 [] rQy (λq=> .d (.agg (qyR q))):=by
 intro bs hb
 refine aF false [] hty Tryz.func48 rfl (kp [0,2]) 100 (by simp [Tryz.f48]) ?_
 ((conv=>whnf);repeat ((first|(intro hq;try simp only [lnS]at hq)|refine sI ?_|refine .intro _ (.intro rfl ?_));(conv=>whnf)))
 refine RdT.call sK rfl (λ_=>rfl) bs hb rfl (λl b1 e1=> ?_) (λe1 b=>⟨aK e1,b,rfl⟩)
 have q1:=cR (fG bW) e1
 ((conv=>whnf);repeat ((first|(intro hq;try simp only [lnS]at hq)|refine sI ?_|refine .intro _ (.intro rfl ?_));(conv=>whnf)))
 refine RdT.call xH rfl (λ_=>rfl) b1 (by omega) rfl (λp b2 e2=> ?_) (λe2 b=>⟨bD e1 (cX e2),b,rfl⟩)
 ((conv=>whnf);repeat ((first|(intro hq;try simp only [lnS]at hq)|refine sI ?_|refine .intro _ (.intro rfl ?_));(conv=>whnf)))
 exact⟨⟨l,p⟩,b2,eZ e1 (bU e2),rfl,rfl⟩
def alR (a:Al):List D:=[.str a.name]++pQ a.base++[.sl 16 (a.axioms.map axR)]++pQ a.pub++[.int .i64 a.index, .sl 32 (a.parts.map pQ), .sl 32 (a.path.map pQ)]
end Go.Proofs.YtcomlapnibckmaaGreatDoor
