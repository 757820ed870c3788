/-
  The reference's queries: atoms, parts and their variables.
  Conditions: none.
-/
import Derived.Test.YtleihcnongldbaaGreatDoorWVa
import Derived.Test.YtleihcnongldbaaGreatDoorWQqd
import Derived.Test.YtleihcnongldbaaGreatDoorWDb
set_option linter.unnecessarySimpa false
set_option linter.unusedSectionVars false
set_option linter.unusedSimpArgs false
set_option linter.unusedVariables false
set_option maxHeartbeats 16000000
namespace Go.Proofs.YtleihcnongldbaaGreatDoor
open Go.Proofs Go.RowKit
set_option maxRecDepth 10000
attribute [local irreducible] aN aJ Tri aI YVC cP bE
theorem aPm (nm xx yy:List UInt8) (lo hi:Int):Tri Tryz.prog 112 [.d (.agg [.int .i64 1, .str nm, .str xx, .str yy, .int .i64 lo, .int .i64 hi])] [] (λr=>r= .d (.int .i64 (atE ⟨1,nm,xx,yy,lo,hi⟩))):=by
 have ht:=lS ⟨1,nm,xx,yy,lo,hi⟩
 have hn:=eV nm
 have hx:=gZ xx
 have hy:=gZ yy
 have he:atE ⟨1,nm,xx,yy,lo,hi⟩=if (¬ yy=[])\/(¬ lo=0\/¬ hi=0)then 210 else if lo < -1099511627776\/hi < lo\/1099511627776 < hi then 210 else if aCe nm=false then 20 else if hU xx=false then 20 else 0:=by
  unfold atE;simp
 rw [he]
 clear he
 rw [show (atR ⟨1,nm,xx,yy,lo,hi⟩)=[.int .i64 1, .str nm, .str xx, .str yy, .int .i64 lo, .int .i64 hi]from rfl,show ((if (⟨1,nm,xx,yy,lo,hi⟩:At).kind=2 then [xx,yy]else [xx]).map bL)=[bL xx]from rfl]at ht
 refine aE false [1] hty Tryz.func112 rfl (kp [0,1,2,3,4,37,52,56,62,70]) [] _ _ _ (by simp [Tryz.f112]) (by simp) ?_
 ((conv=>whnf);repeat' ((first|(intro hq;(try simp only [lnS]at hq);(try rewrite [List.length_map]))|refine sJ ?_|refine .intro _ (.intro rfl ?_)|refine exL (k:= ?_)|(refine aD [] ht trivial (λr hs=> ?_);subst hs)|(refine aD [] hn trivial (λr hs=> ?_);subst hs)|(refine aD [] hx trivial (λr hs=> ?_);subst hs)|(refine aD [] hy trivial (λr hs=> ?_);subst hs)|(refine eO hty 3 ?_)|refine dwR ?_|((first|refine aB ?_ ?_|refine aC ?_ ?_)<;>intro hb<;>(first|exact ddX hb|try simp only [lnS]at hb))|(refine aA ?_ ?_<;>intro hb<;>try exact dsX hb))<;>(conv=>whnf)))
 all_goals (refine congrArg (λe=>SV.d (.int .i64 e)) ?_)
 all_goals (first|(simp_all;done)|(simp_all;omega)|skip)
theorem aPl (nm xx yy:List UInt8) (lo hi:Int):Tri Tryz.prog 112 [.d (.agg [.int .i64 2, .str nm, .str xx, .str yy, .int .i64 lo, .int .i64 hi])] [] (λr=>r= .d (.int .i64 (atE ⟨2,nm,xx,yy,lo,hi⟩))):=by
 have ht:=lS ⟨2,nm,xx,yy,lo,hi⟩
 have hn:=eV nm
 have hx:=gZ xx
 have hy:=gZ yy
 have he:atE ⟨2,nm,xx,yy,lo,hi⟩=if (¬ lo=0\/¬ hi=0)then 210 else if lo < -1099511627776\/hi < lo\/1099511627776 < hi then 210 else if aCe nm=false then 20 else if hU xx=false then 20 else if hU yy=false then 20 else 0:=by
  unfold atE;simp
 rw [he]
 clear he
 rw [show (atR ⟨2,nm,xx,yy,lo,hi⟩)=[.int .i64 2, .str nm, .str xx, .str yy, .int .i64 lo, .int .i64 hi]from rfl,show ((if (⟨2,nm,xx,yy,lo,hi⟩:At).kind=2 then [xx,yy]else [xx]).map bL)=[bL xx,bL yy]from rfl]at ht
 refine aE false [1] hty Tryz.func112 rfl (kp [0,1,2,3,4,37,52,56,62,70]) [] _ _ _ (by simp [Tryz.f112]) (by simp) ?_
 ((conv=>whnf);repeat' ((first|(intro hq;(try simp only [lnS]at hq);(try rewrite [List.length_map]))|refine sJ ?_|refine .intro _ (.intro rfl ?_)|refine exL (k:= ?_)|(refine aD [] ht trivial (λr hs=> ?_);subst hs)|(refine aD [] hn trivial (λr hs=> ?_);subst hs)|(refine aD [] hx trivial (λr hs=> ?_);subst hs)|(refine aD [] hy trivial (λr hs=> ?_);subst hs)|(refine eO hty 3 ?_)|refine dwR ?_|((first|refine aB ?_ ?_|refine aC ?_ ?_)<;>intro hb<;>(first|exact ddX hb|try simp only [lnS]at hb))|(refine aA ?_ ?_<;>intro hb<;>try exact dsX hb))<;>(conv=>whnf)))
 all_goals (refine congrArg (λe=>SV.d (.int .i64 e)) ?_)
 all_goals (first|(simp_all;done)|(simp_all;omega)|skip)
theorem aPk (nm xx yy:List UInt8) (lo hi:Int):Tri Tryz.prog 112 [.d (.agg [.int .i64 3, .str nm, .str xx, .str yy, .int .i64 lo, .int .i64 hi])] [] (λr=>r= .d (.int .i64 (atE ⟨3,nm,xx,yy,lo,hi⟩))):=by
 have ht:=lS ⟨3,nm,xx,yy,lo,hi⟩
 have hn:=eV nm
 have hx:=gZ xx
 have hy:=gZ yy
 have he:atE ⟨3,nm,xx,yy,lo,hi⟩=if (¬ yy=[])then 210 else if lo < -1099511627776\/hi < lo\/1099511627776 < hi then 210 else if aCe nm=false then 20 else if hU xx=false then 20 else 0:=by
  unfold atE;simp
 rw [he]
 clear he
 rw [show (atR ⟨3,nm,xx,yy,lo,hi⟩)=[.int .i64 3, .str nm, .str xx, .str yy, .int .i64 lo, .int .i64 hi]from rfl,show ((if (⟨3,nm,xx,yy,lo,hi⟩:At).kind=2 then [xx,yy]else [xx]).map bL)=[bL xx]from rfl]at ht
 refine aE false [1] hty Tryz.func112 rfl (kp [0,1,2,3,4,37,52,56,62,70]) [] _ _ _ (by simp [Tryz.f112]) (by simp) ?_
 ((conv=>whnf);repeat' ((first|(intro hq;(try simp only [lnS]at hq);(try rewrite [List.length_map]))|refine sJ ?_|refine .intro _ (.intro rfl ?_)|refine exL (k:= ?_)|(refine aD [] ht trivial (λr hs=> ?_);subst hs)|(refine aD [] hn trivial (λr hs=> ?_);subst hs)|(refine aD [] hx trivial (λr hs=> ?_);subst hs)|(refine aD [] hy trivial (λr hs=> ?_);subst hs)|(refine eO hty 3 ?_)|refine dwR ?_|((first|refine aB ?_ ?_|refine aC ?_ ?_)<;>intro hb<;>(first|exact ddX hb|try simp only [lnS]at hb))|(refine aA ?_ ?_<;>intro hb<;>try exact dsX hb))<;>(conv=>whnf)))
 all_goals (refine congrArg (λe=>SV.d (.int .i64 e)) ?_)
 all_goals (first|(simp_all;done)|(simp_all;omega)|skip)
theorem aH1 (a:At):Tri Tryz.prog 112 [.d (.agg (atR a))] [] (λr=>r= .d (.int .i64 (atE a))):=by
 obtain⟨kd,nm,xx,yy,lo,hi⟩:=a
 show Tri Tryz.prog 112 [.d (.agg [.int .i64 kd, .str nm, .str xx, .str yy, .int .i64 lo, .int .i64 hi])] [] _
 by_cases hk:kd < 1\/3 < kd
 ·rw [aTi (by exact hk)]
  refine aE false [1] hty Tryz.func112 rfl (kp [0,1,2,3,4,37,52,56,62,70]) [] _ _ _ (by simp [Tryz.f112]) (by simp) ?_
  ((conv=>whnf);repeat' ((first|(intro hq;(try simp only [lnS]at hq);(try rewrite [List.length_map]))|refine sJ ?_|refine .intro _ (.intro rfl ?_)|refine exL (k:= ?_)|refine dwR ?_|((first|refine aB ?_ ?_|refine aC ?_ ?_)<;>intro hb<;>(first|exact ddX hb|try simp only [lnS]at hb))|(refine aA ?_ ?_<;>intro hb<;>try exact dsX hb))<;>(conv=>whnf)))
  all_goals first|rfl|(exfalso;omega)
 have hk3:kd=1\/kd=2\/kd=3:=by omega
 rcases hk3 with rfl|rfl|rfl
 ·exact aPm nm xx yy lo hi
 ·exact aPl nm xx yy lo hi
 ·exact aPk nm xx yy lo hi
def aJ5 (a:At):List (List UInt8):=if a.kind=2 then [a.x,a.y]else [a.x]
theorem aCo (p:List At) (s:List UInt8):Tri Tryz.prog 113 [.d (.agg (aU p)), .d (.str s)] [] (λr=>r= .d (.bool (p.any λa=>decide (s∈aJ5 a)))):=by
 have hpl:(p.map atR).length=p.length:=List.length_map ..
 show Tri Tryz.prog 113 [.d (.agg [.sl 6 (p.map atR)]), .d (.str s)] [] _
 refine aE false [2] hty Tryz.func113 rfl (kp [0,1,2,4,5,10,20]) [] _ _ _ (by simp [Tryz.f113]) (by simp) ?_
 ((conv=>whnf);repeat ((first|(intro hq;try simp only [lnS]at hq)|refine sI ?_|refine .intro _ (.intro rfl ?_));(conv=>whnf)))
 refine aH hty (λj:Nat=>([(1, .d (.str s)),(2, .ea 1 [[.sl 6 (p.map atR)]] 0 0),(5, .d (.int .i64 j))],[])) (λj=>j<=p.length/\(p.take j).any (λa=>decide (s∈aJ5 a))=false) (λj=>p.length - j) 0 ⟨by omega,rfl⟩ ⟨by repeat' (first|exact trivial|exact rfl|refine And.intro ?_ ?_),by repeat' (first|exact trivial|exact rfl|refine And.intro ?_ ?_)⟩ ?_
 rintro j ⟨hj,hn⟩
 ((conv=>whnf);repeat ((first|(intro hq;try simp only [lnS]at hq)|refine sI ?_|refine .intro _ (.intro rfl ?_));(conv=>whnf)))
 rw [hpl]
 refine aB (λh1=> ?_) (λh1=> ?_)
 ·have hjl:j < p.length:=by omega
  have hrow:(p.map atR)[(j:Int).toNat]? =some (atR p[j]):=aS hjl
  have hhit:=mP (F:= λa:At=>decide (s∈aJ5 a)) hjl
  have hsuc:=gY (F:= λa:At=>decide (s∈aJ5 a)) hjl hn
  generalize p[j]=a at hrow hhit hsuc
  have ht:=lS a
  have hi:=rL (aJ5 a) s
  rw [show (if a.kind=2 then [a.x,a.y]else [a.x])=aJ5 a from rfl]at ht
  generalize decide (s∈aJ5 a)=v at *
  generalize aJ5 a=tr at *
  obtain⟨kd,nm,xx,yy,lo,hi'⟩:=a
  rw [show atR ⟨kd,nm,xx,yy,lo,hi'⟩=[.int .i64 kd, .str nm, .str xx, .str yy, .int .i64 lo, .int .i64 hi']from rfl]at hrow ht
  ((conv=>whnf);repeat ((first|(refine⟨_,hrow, ?_⟩)|(refine aD [] ht trivial (λr hs=> ?_);subst hs)|(refine aD [] hi trivial (λr hs=> ?_);subst hs)|(intro hq;try simp only [lnS]at hq)|refine sI ?_|refine .intro _ (.intro rfl ?_));(conv=>whnf)))
  cases v
  ·((conv=>whnf);repeat ((first|(intro hq;try simp only [lnS]at hq)|refine sI ?_|refine .intro _ (.intro rfl ?_));(conv=>whnf)))
   exact⟨j+1,⟨by omega,hsuc rfl⟩,by dsimp only;omega,⟨by repeat' (first|exact trivial|exact rfl|refine And.intro ?_ ?_),by repeat' (first|exact trivial|exact rfl|refine And.intro ?_ ?_)⟩⟩
  ·rw [hhit rfl]
   ((conv=>whnf);repeat ((first|(intro hq;try simp only [lnS]at hq)|refine sI ?_|refine .intro _ (.intro rfl ?_));(conv=>whnf)))
   rfl
 ·have hjl:j=p.length:=by omega
  subst hjl
  rw [List.take_length]at hn
  rw [hn]
  ((conv=>whnf);repeat ((first|(intro hq;try simp only [lnS]at hq)|refine sI ?_|refine .intro _ (.intro rfl ?_));(conv=>whnf)))
  rfl
end Go.Proofs.YtleihcnongldbaaGreatDoor
