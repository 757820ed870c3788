/-
  Layer 7, reference: both, Union, Minus, Common.
  Conditions: none.
-/
import Derived.Test.YtfhoddcminbffaaGreatDoorMJla
import Derived.Test.YtfhoddcminbffaaGreatDoorMQza
set_option linter.unnecessarySimpa false
set_option linter.unusedSectionVars false
set_option linter.unusedSimpArgs false
set_option linter.unusedVariables false
set_option maxHeartbeats 16000000
namespace Go.Proofs.YtfhoddcminbffaaGreatDoor
open Go.Proofs
set_option maxRecDepth 10000
attribute [local irreducible] aM aJ Tri aH YVC dI bI
theorem oK (a b:List Ax) (ha: ∀x∈a,SmA x) (hb: ∀x∈b,SmA x) (la:a.length<=5000) (lb:b.length<=5000):Tri Tryz.prog 71 [.d (hZ a), .d (hZ b)] [] (λr=>r= .d (.int .i64 (dF a b))):=by
 have c1:=gX a ha (by omega)
 have c2:=gX b hb (by omega)
 have hv:dF a b=if aY a≠0 then aY a else aY b:=rfl
 rw [hv]
 clear hv
 generalize aY a=e1 at *
 generalize aY b=e2 at *
 refine aF false [2,3] hty Tryz.func71 rfl (kp [0,1,2,3,4,5,9]) [] _ _ _ (by simp [Tryz.f71]) (by simp) ?_
 ((conv=>whnf);repeat ((first|(refine aD [] c1 trivial (λr hs=> ?_);subst hs)|(intro hq;try simp only [lnS]at hq)|refine sI ?_|refine .intro _ (.intro rfl ?_));(conv=>whnf)))
 refine aC (λh1=> ?_) (λh1=> ?_)
 ·rw [if_pos h1]
  ((conv=>whnf);repeat' ((first|(intro hq;(try simp only [lnS]at hq);(try rewrite [List.length_map]))|refine sJ ?_|refine .intro _ (.intro rfl ?_)|refine exL (k:= ?_)|refine dwR ?_|((first|refine aB ?_ ?_|refine aC ?_ ?_)<;>intro hb<;>(first|exact ddX hb|try simp only [lnS]at hb))|(refine aA ?_ ?_<;>intro hb<;>try exact dsX hb))<;>(conv=>whnf)))
  rfl
 ·rw [if_neg (by simp [h1])]
  ((conv=>whnf);repeat ((first|(refine aD [] c2 trivial (λr hs=> ?_);subst hs)|(intro hq;try simp only [lnS]at hq)|refine sI ?_|refine .intro _ (.intro rfl ?_));(conv=>whnf)))
  rfl
theorem aCc (a b:List Ax) (ha: ∀x∈a,SmA x) (hb: ∀x∈b,SmA x) (la:a.length<=5000) (lb:b.length<=5000):Tri Tryz.prog 32 [.d (hZ a), .d (hZ b)] [] (λr=>r= .tup [.d (hZ (unE a b).1), .d (.int .i64 (unE a b).2)]):=by
 refine Tri.pairB ?_
 have c1:=oK a b ha hb la lb
 have hv:unE a b=if dF a b≠0 then ([],dF a b)else lE (a++b):=rfl
 rw [hv]
 clear hv
 have c3:=yJ (a++b) (λx hx=>(List.mem_append.1 hx).elim (ha x) (hb x)) (by rw [List.length_append];omega)
 have c4: ∀rows,rows=(a++b).map axR->Tri Tryz.prog 20 [.osl 14 16 rows] [] (λr=>r= .tup [.d (hZ (lE (a++b)).1), .d (.int .i64 (lE (a++b)).2)]):= λrows h=>by rw [h];exact Tri.oslH c3
 generalize dF a b=e at *
 generalize lE (a++b)=r at *
 obtain⟨r1,r2⟩:=r
 refine aF false [2,3] hty Tryz.func32 rfl (kp [0,1,2,3,4,5,6,11]) [] _ _ _ (by simp [Tryz.f32]) (by simp) ?_
 ((conv=>whnf);repeat ((first|(refine aD [] c1 trivial (λr hs=> ?_);subst hs)|(intro hq;try simp only [lnS]at hq)|refine sI ?_|refine .intro _ (.intro rfl ?_));(conv=>whnf)))
 refine aC (λh1=> ?_) (λh1=> ?_)
 ·rw [if_pos h1]
  ((conv=>whnf);repeat' ((first|(intro hq;(try simp only [lnS]at hq);(try rewrite [List.length_map]))|refine sJ ?_|refine .intro _ (.intro rfl ?_)|refine exL (k:= ?_)|refine dwR ?_|((first|refine aB ?_ ?_|refine aC ?_ ?_)<;>intro hb<;>(first|exact ddX hb|try simp only [lnS]at hb))|(refine aA ?_ ?_<;>intro hb<;>try exact dsX hb))<;>(conv=>whnf)))
  exact aFg _
 ·rw [if_neg (by simp [h1])]
  ((conv=>whnf);repeat ((first|(intro hq;try simp only [lnS]at hq)|refine sI ?_|refine .intro _ (.intro rfl ?_));(conv=>whnf)))
  refine fR hty [1,2,4,5,0,3,6,7,8,9,10,11] (by kernel_rfl) (by kernel_rfl) ?_
  ((conv=>whnf);repeat ((first|(refine And.intro (congrArg (λn=>some (HObj.own 48 16 n)) List.length_append.symm) ?_)|(intro hq;try simp only [lnS]at hq)|refine sI ?_|refine .intro _ (.intro rfl ?_));(conv=>whnf)))
  refine⟨[],(λs=>s= .tup [.d (hZ r1), .d (.int .i64 r2)]),trivial,c4 _ (by rw [List.map_append];rfl),λs hs=> ?_⟩
  subst hs
  ((conv=>whnf);repeat ((first|(intro hq;try simp only [lnS]at hq)|refine sI ?_|refine .intro _ (.intro rfl ?_));(conv=>whnf)))
  exact xD _ _
def nY (a b:List Ax):List Ax:=a.filter λx=>decide (oG x b < 0)
def aDt (b:List Ax) (x:Ax):Ax:={ x with isopen:=x.isopen && ((b[(oG x b).toNat]?).getD a0).isopen }
def lJ (a b:List Ax):List Ax:=a.flatMap λx=>if oG x b < 0 then []else [aDt b x]
theorem aJt {a b:List Ax}{j:Nat}(h:j < a.length):nY (a.take (j+1)) b=nY (a.take j) b++(if oG a[j] b < 0 then [a[j]]else []):=by
 unfold nY
 rw [List.take_succ_eq_append_getElem h,List.filter_append,List.filter_cons,List.filter_nil]
 simp
theorem aKh {a b:List Ax}{j:Nat}(h:j < a.length):lJ (a.take (j+1)) b=lJ (a.take j) b++(if oG a[j] b < 0 then []else [aDt b a[j]]):=by
 unfold lJ
 rw [List.take_succ_eq_append_getElem h,List.flatMap_append]
 simp
theorem aN2 (a b:List Ax) (j:Nat):(nY (a.take j) b).length<=j:=by
 have:=List.length_filter_le (λx=>decide (oG x b < 0)) (a.take j)
 rw [List.length_take]at this
 unfold nY;omega
theorem aNv (a b:List Ax):(lJ a b).length<=a.length:=by
 induction a with
 |nil=>simp [lJ]
 |cons x r ih=>
  have e:lJ (x::r) b=(if oG x b < 0 then []else [aDt b x])++lJ r b:=rfl
  rw [e,List.length_append,List.length_cons]
  split<;>simp<;>omega
theorem aCf (a b:List Ax) (ha: ∀x∈a,SmA x) (hb: ∀x∈b,SmA x) (la:a.length<=5000) (lb:b.length<=5000):Tri Tryz.prog 34 [.d (hZ a), .d (hZ b)] [] (λr=>r= .tup [.d (hZ (if dF a b≠0 then []else nY a b)), .d (.int .i64 (dF a b))]):=by
 refine Tri.pairB ?_
 have c1:=oK a b ha hb la lb
 have hra:(a.map axR).length=a.length:=List.length_map ..
 generalize dF a b=e at *
 refine aF false [2,3] hty Tryz.func34 rfl (kp [0,1,2,3,4,5,6,7,8,13,21,32]) [] _ _ _ (by simp [Tryz.f34]) (by simp) ?_
 ((conv=>whnf);repeat ((first|(refine aD [] c1 trivial (λr hs=> ?_);subst hs)|(intro hq;try simp only [lnS]at hq)|refine sI ?_|refine .intro _ (.intro rfl ?_));(conv=>whnf)))
 refine aC (λh1=> ?_) (λh1=> ?_)
 ·rw [if_pos h1]
  ((conv=>whnf);repeat' ((first|(intro hq;(try simp only [lnS]at hq);(try rewrite [List.length_map]))|refine sJ ?_|refine .intro _ (.intro rfl ?_)|refine exL (k:= ?_)|refine dwR ?_|((first|refine aB ?_ ?_|refine aC ?_ ?_)<;>intro hb<;>(first|exact ddX hb|try simp only [lnS]at hb))|(refine aA ?_ ?_<;>intro hb<;>try exact dsX hb))<;>(conv=>whnf)))
  exact aFg _
 have h1:e=0:=by simpa using h1
 rw [if_neg (by simp [h1]),h1]
 clear c1 h1
 ((conv=>whnf);repeat ((first|(intro hq;try simp only [lnS]at hq)|refine sI ?_|refine .intro _ (.intro rfl ?_));(conv=>whnf)))
 refine aM.ownC 7 70 38 48 16 0 rfl rfl (bW (by with_unfolding_all exact rfl)) ?_
 refine aG hty (λj:Nat=>([(2, .ea 1 [[.sl 16 (a.map axR)]] 0 0),(3, .ea 1 [[.sl 16 (b.map axR)]] 0 0),(4, .ptr 4 0),(7, .ptr 7 0),(8, .d (.int .i64 j))],[(70, .own 48 16 ((nY (a.take j) b).map axR).length),(7, .cells 38 [.osl 70 16 ((nY (a.take j) b).map axR)]),(4, .cells 38 [.d .nil])])) (λj=>j<=a.length) (λj=>a.length - j) 0 (by omega) ⟨by repeat' (first|exact trivial|exact rfl|refine And.intro ?_ ?_),by repeat' (first|exact trivial|exact rfl|refine And.intro ?_ ?_)⟩ ?_
 rintro j hj
 ((conv=>whnf);repeat ((first|(intro hq;try simp only [lnS]at hq)|refine sI ?_|refine .intro _ (.intro rfl ?_));(conv=>whnf)))
 refine aB (λh1=> ?_) (λh1=> ?_)
 ·have hjl:j < a.length:=by have h1:(j:Int) < ((a.map axR).length:Nat):=h1;rw [hra]at h1;omega
  have hrow:=bR hjl
  have cp:=mD a[j] b (ha _ (List.getElem_mem hjl)) hb
  have htk:=aJt (b:=b) hjl
  have hll:=aN2 a b j
  generalize nY (a.take j) b=L at *
  generalize oG a[j] b=i at *
  generalize a[j]=x at *
  have hrL:(L.map axR).length=L.length:=List.length_map ..
  have hb63:(L.map axR).length+1<=9223372036854775807:=by rw [hrL];omega
  have hb48:((L.map axR).length+1)* 216<=140737488355328:=by rw [hrL];omega
  ((conv=>whnf);repeat ((first|(intro hq;try simp only [lnS]at hq)|refine sI ?_|refine .intro _ (.intro rfl ?_));(conv=>whnf)))
  refine dwR ?_
  ((conv=>whnf);repeat ((first|(refine⟨_,hrow, ?_⟩)|(refine⟨.d (.int .i64 _),_,[],rfl,trivial,cp, ?_⟩)|(intro hq;try simp only [lnS]at hq)|refine sI ?_|refine .intro _ (.intro rfl ?_));(conv=>whnf)))
  refine aB (λh2=> ?_) (λh2=> ?_)
  ·rw [if_pos h2]at htk
   ((conv=>whnf);repeat ((first|(intro hq;try simp only [lnS]at hq)|refine sI ?_|refine .intro _ (.intro rfl ?_));(conv=>whnf)))
   refine fR hty [0,1,2,3,4,5,6,7,8,9,10] (by kernel_rfl) (by kernel_rfl) ?_
   ((conv=>whnf);repeat ((first|(refine⟨_,hrow, ?_⟩)|(refine And.intro hb63 ?_)|(refine And.intro hb48 ?_)|(intro hq;try simp only [lnS]at hq)|refine sI ?_|refine .intro _ (.intro rfl ?_));(conv=>whnf)))
   refine⟨j+1,by omega,by dsimp only;omega, ?_⟩
   dsimp only
   rw [htk,List.map_append,List.length_append]
   exact⟨by repeat' (first|exact trivial|exact rfl|refine And.intro ?_ ?_),by repeat' (first|exact trivial|exact rfl|refine And.intro ?_ ?_)⟩
  ·rw [if_neg h2,List.append_nil]at htk
   ((conv=>whnf);repeat ((first|(intro hq;try simp only [lnS]at hq)|refine sI ?_|refine .intro _ (.intro rfl ?_));(conv=>whnf)))
   refine⟨j+1,by omega,by dsimp only;omega, ?_⟩
   dsimp only
   rw [htk]
   exact⟨by repeat' (first|exact trivial|exact rfl|refine And.intro ?_ ?_),by repeat' (first|exact trivial|exact rfl|refine And.intro ?_ ?_)⟩
 ·have hjl:j=a.length:=by have h1:¬ (j:Int) < ((a.map axR).length:Nat):=h1;rw [hra]at h1;omega
  subst hjl
  rw [List.take_length]
  ((conv=>whnf);repeat' ((first|(intro hq;(try simp only [lnS]at hq);(try rewrite [List.length_map]))|refine sJ ?_|refine .intro _ (.intro rfl ?_)|refine exL (k:= ?_)|refine dwR ?_|((first|refine aB ?_ ?_|refine aC ?_ ?_)<;>intro hb<;>(first|exact ddX hb|try simp only [lnS]at hb))|(refine aA ?_ ?_<;>intro hb<;>try exact dsX hb))<;>(conv=>whnf)))
  exact xD _ _
theorem aAv (a b:List Ax) (ha: ∀x∈a,SmA x) (hb: ∀x∈b,SmA x) (la:a.length<=5000) (lb:b.length<=5000):Tri Tryz.prog 36 [.d (hZ a), .d (hZ b)] [] (λr=>r= .tup [.d (hZ (if dF a b≠0 then []else lJ a b)), .d (.int .i64 (dF a b))]):=by
 refine Tri.pairB ?_
 have c1:=oK a b ha hb la lb
 have hra:(a.map axR).length=a.length:=List.length_map ..
 generalize dF a b=e at *
 refine aF false [2,3] hty Tryz.func36 rfl (kp [0,1,2,3,4,5,6,7,8,9,10,15,23,35]) [] _ _ _ (by simp [Tryz.f36]) (by simp) ?_
 ((conv=>whnf);repeat ((first|(refine aD [] c1 trivial (λr hs=> ?_);subst hs)|(intro hq;try simp only [lnS]at hq)|refine sI ?_|refine .intro _ (.intro rfl ?_));(conv=>whnf)))
 refine aC (λh1=> ?_) (λh1=> ?_)
 ·rw [if_pos h1]
  ((conv=>whnf);repeat' ((first|(intro hq;(try simp only [lnS]at hq);(try rewrite [List.length_map]))|refine sJ ?_|refine .intro _ (.intro rfl ?_)|refine exL (k:= ?_)|refine dwR ?_|((first|refine aB ?_ ?_|refine aC ?_ ?_)<;>intro hb<;>(first|exact ddX hb|try simp only [lnS]at hb))|(refine aA ?_ ?_<;>intro hb<;>try exact dsX hb))<;>(conv=>whnf)))
  exact aFg _
 have h1:e=0:=by simpa using h1
 rw [if_neg (by simp [h1]),h1]
 clear c1 h1
 ((conv=>whnf);repeat ((first|(intro hq;try simp only [lnS]at hq)|refine sI ?_|refine .intro _ (.intro rfl ?_));(conv=>whnf)))
 refine aM.ownC 7 70 38 48 16 0 rfl rfl (bW (by with_unfolding_all exact rfl)) ?_
 refine aG hty (λj:Nat=>([(2, .ea 1 [[.sl 16 (a.map axR)]] 0 0),(3, .ea 1 [[.sl 16 (b.map axR)]] 0 0),(4, .ptr 4 0),(7, .ptr 7 0),(8, .d (.int .i64 j))],[(70, .own 48 16 ((lJ (a.take j) b).map axR).length),(7, .cells 38 [.osl 70 16 ((lJ (a.take j) b).map axR)]),(4, .cells 38 [.d .nil])])) (λj=>j<=a.length) (λj=>a.length - j) 0 (by omega) ⟨by repeat' (first|exact trivial|exact rfl|refine And.intro ?_ ?_),by repeat' (first|exact trivial|exact rfl|refine And.intro ?_ ?_)⟩ ?_
 rintro j hj
 ((conv=>whnf);repeat ((first|(intro hq;try simp only [lnS]at hq)|refine sI ?_|refine .intro _ (.intro rfl ?_));(conv=>whnf)))
 refine aB (λh1=> ?_) (λh1=> ?_)
 ·have hjl:j < a.length:=by have h1:(j:Int) < ((a.map axR).length:Nat):=h1;rw [hra]at h1;omega
  have hrow:=bR hjl
  have cp:=mD a[j] b (ha _ (List.getElem_mem hjl)) hb
  have htk:=aKh (b:=b) hjl
  have hll:=aNv (a.take j) b
  rw [List.length_take]at hll
  have hat:¬ oG a[j] b < 0-> ∃y,(b.map axR)[(oG a[j] b).toNat]? =some (axR y)/\aDt b a[j]={ a[j]with isopen:=a[j].isopen && y.isopen }:= λh=>by
   unfold aDt
   cases hq:xO a[j] b with
   |none=>exact absurd (by unfold oG;rw [hq];decide) h
   |some i=>
    obtain⟨hi,_⟩:=aBc hq
    have e:oG a[j] b=(i:Int):=by unfold oG;rw [hq]
    rw [e,Int.toNat_natCast,List.getElem?_map,List.getElem?_eq_getElem hi]
    exact⟨b[i],rfl,rfl⟩
  generalize lJ (a.take j) b=L at *
  generalize aDt b a[j]=z at *
  generalize oG a[j] b=i at *
  generalize a[j]=x at *
  have hrL:(L.map axR).length=L.length:=List.length_map ..
  have hb63:(L.map axR).length+1<=9223372036854775807:=by rw [hrL];omega
  have hb48:((L.map axR).length+1)* 216<=140737488355328:=by rw [hrL];omega
  ((conv=>whnf);repeat ((first|(intro hq;try simp only [lnS]at hq)|refine sI ?_|refine .intro _ (.intro rfl ?_));(conv=>whnf)))
  refine dwR ?_
  ((conv=>whnf);repeat ((first|(refine⟨_,hrow, ?_⟩)|(refine⟨.d (.int .i64 _),_,[],rfl,trivial,cp, ?_⟩)|(intro hq;try simp only [lnS]at hq)|refine sI ?_|refine .intro _ (.intro rfl ?_));(conv=>whnf)))
  refine aB (λh2=> ?_) (λh2=> ?_)
  ·have h2:0<=i:=h2
   obtain⟨y,hrowy,hz⟩:=hat (by omega)
   have hlt:i.toNat < (b.map axR).length:=(List.getElem?_eq_some_iff.1 hrowy).1
   rw [if_neg (by omega),hz]at htk
   clear hat hz cp
   obtain⟨k,o,a1,a2,a3,a4,a5,a6⟩:=x
   obtain⟨k',o',b1,b2,b3,b4,b5,b6⟩:=y
   cases o<;>cases o'
   all_goals (
    ((conv=>whnf);repeat ((first|(refine⟨_,hrow, ?_⟩)|(refine⟨_,hrowy, ?_⟩)|(refine And.intro h2 ?_)|(refine And.intro hlt ?_)|(refine And.intro hb63 ?_)|(refine And.intro hb48 ?_)|(intro hq;try simp only [lnS]at hq)|refine sI ?_|refine .intro _ (.intro rfl ?_));(conv=>whnf)))
    refine⟨j+1,by omega,by dsimp only;omega, ?_⟩
    dsimp only
    rw [htk,List.map_append,List.length_append]
    exact⟨by repeat' (first|exact trivial|exact rfl|refine And.intro ?_ ?_),by repeat' (first|exact trivial|exact rfl|refine And.intro ?_ ?_)⟩)
  ·have h2:i < 0:=by have h2:¬ 0<=i:=h2;omega
   rw [if_pos h2,List.append_nil]at htk
   ((conv=>whnf);repeat ((first|(intro hq;try simp only [lnS]at hq)|refine sI ?_|refine .intro _ (.intro rfl ?_));(conv=>whnf)))
   refine⟨j+1,by omega,by dsimp only;omega, ?_⟩
   dsimp only
   rw [htk]
   exact⟨by repeat' (first|exact trivial|exact rfl|refine And.intro ?_ ?_),by repeat' (first|exact trivial|exact rfl|refine And.intro ?_ ?_)⟩
 ·have hjl:j=a.length:=by have h1:¬ (j:Int) < ((a.map axR).length:Nat):=h1;rw [hra]at h1;omega
  subst hjl
  rw [List.take_length]
  ((conv=>whnf);repeat' ((first|(intro hq;(try simp only [lnS]at hq);(try rewrite [List.length_map]))|refine sJ ?_|refine .intro _ (.intro rfl ?_)|refine exL (k:= ?_)|refine dwR ?_|((first|refine aB ?_ ?_|refine aC ?_ ?_)<;>intro hb<;>(first|exact ddX hb|try simp only [lnS]at hb))|(refine aA ?_ ?_<;>intro hb<;>try exact dsX hb))<;>(conv=>whnf)))
  exact xD _ _
end Go.Proofs.YtfhoddcminbffaaGreatDoor
