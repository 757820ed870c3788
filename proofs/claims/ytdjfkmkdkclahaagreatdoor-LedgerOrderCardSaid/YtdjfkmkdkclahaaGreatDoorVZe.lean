/-
  Queries, the reference: the tidy form; terms replaced. Queries, the reference, plainly: all orders of numbers; the least form; terms replaced. Queries, the reference: lists of atoms in order; terms replaced. Queries, the reference: all orders of numbers.
  Conditions: none.
-/
import Derived.Test.YtdjfkmkdkclahaaGreatDoorVSzf
import Derived.Test.YtdjfkmkdkclahaaGreatDoorVOh
import Derived.Test.YtdjfkmkdkclahaaGreatDoorVSza
import Derived.Test.YtdjfkmkdkclahaaGreatDoorVQqg
set_option linter.unnecessarySimpa false
set_option linter.unusedSectionVars false
set_option linter.unusedSimpArgs false
set_option linter.unusedVariables false
set_option maxHeartbeats 16000000
namespace Go.Proofs.YtdjfkmkdkclahaaGreatDoor
open Go.Proofs Go.RowKit
set_option maxRecDepth 10000
attribute [local irreducible] aL aH Tri aI YVC bP aS
theorem aM0 {a:At}: ∀{l:List At}{n:Nat},n<=l.length->(∀x∈l.take n,bM x a < 0)->(∀h:n < l.length,¬ bM l[n] a < 0)->vO a l=if ∃h:n < l.length,l[n]=a then l else l.take n++a::l.drop n
 | [],n,hn,_,_=>by
  obtain rfl:n=0:=by simpa using hn
  rw [if_neg (by rintro⟨h,_⟩;simp at h)]
  rfl
 |b::r,0,_,_,hs=>by
  have hb:=hs (by simp)
  have hb:¬ bM b a < 0:=hb
  rw [vO,if_neg hb]
  by_cases h0:bM b a=0
  ·rw [if_pos h0,if_pos ⟨by simp,aDc h0⟩]
  ·rw [if_neg h0,if_neg (by rintro⟨_,h⟩;exact h0 (dL.2 h))]
   rfl
 |b::r,n+1,hn,hb,hs=>by
  have h1:bM b a < 0:=hb b (by simp)
  have ih := aM0 (a := a) (l := r) (n := n) (by simpa using hn) (λx hx => hb x (by simp [hx])) (λh => by
   have:=hs (by simpa using h)
   simpa using this)
  rw [vO,if_pos h1,ih]
  by_cases h: ∃h:n < r.length,r[n]=a
  ·rw [if_pos h,if_pos]
   obtain⟨h2,h3⟩:=h
   exact⟨by simpa using h2,by simpa using h3⟩
  ·rw [if_neg h,if_neg]
   ·rfl
   ·rintro⟨h2,h3⟩
    exact h ⟨by simpa using h2,by simpa using h3⟩
def aJw (l:List At):List At:=l.foldl (λout a=>vO a out) []
theorem aFy: ∀(l out:List At),out.Pairwise (λx y=>bM x y < 0)->(l.foldl (λout a=>vO a out) out).Pairwise (λx y=>bM x y < 0)/\(∀x,x∈l.foldl (λout a=>vO a out) out↔x∈l\/x∈out)/\(l.foldl (λout a=>vO a out) out).length<=l.length+out.length
 | [],out,h=>⟨h,by simp,by simp⟩
 |a::r,out,h=>by
  obtain⟨h1,h2,h3⟩:=aFy r (vO a out) (aD2 h)
  have:=aD3 a out
  refine⟨h1,λx=> ?_,by rw [List.foldl_cons,List.length_cons];omega⟩
  rw [List.foldl_cons,h2,wI,List.mem_cons]
  constructor
  ·rintro(h|h|h)
   ·exact .inl (.inr h)
   ·exact .inl (.inl h)
   ·exact .inr h
  ·rintro((h|h)|h)
   ·exact .inr (.inl h)
   ·exact .inl h
   ·exact .inr (.inr h)
theorem aRg (l:List At):aJw l=sF l:=by
 obtain⟨h1,h2,_⟩:=aFy l [] .nil
 have h:IsTid l (aJw l):=aCc h1 λx=>by rw [aJw,h2];simp
 exact h.uniq (kC l) λ_=>Iff.rfl
theorem aKl (l:List At) (a:At):aJw (l++[a])=vO a (aJw l):=by unfold aJw;rw [List.foldl_append];rfl
theorem aEd (l:List At) (hl:l.length<=100000):Tri Tryz.prog 128 [.d (.agg (aK l))] [] (λr=>r= .d (.agg (aK (sF l)))):=by
 have hc:=kK
 have hlm:(l.map atR).length=l.length:=List.length_map ..
 rw [<-aRg]
 rw [show aK l=[.sl 6 (l.map atR)]from rfl]
 refine Tri.says ?_
 refine aG false [1] hty Tryz.func128 rfl (kp [0,1,2,3,4,5,11,30,48]) [] _ _ _ (by simp [Tryz.f128]) (by simp) ?_
 ((conv=>whnf);repeat ((first|(intro hq;try simp only [lnS]at hq)|refine sI ?_|refine .intro _ (.intro rfl ?_));(conv=>whnf)))
 refine aJ hty (λj:Nat=>([(1, .ea 1 [[.sl 6 (l.map atR)]] 0 0),(2, .ptr 2 0),(3, .d (.sl 6 ((aJw (l.take j)).map atR))),(4, .d (.int .i64 j))],[(2, .cells 35 [.d .nil])])) (λj=>j<=l.length) (λj=>l.length - j) 0 (Nat.zero_le _) ⟨by repeat' (first|exact trivial|exact rfl|refine And.intro ?_ ?_),by repeat' (first|exact trivial|exact rfl|refine And.intro ?_ ?_)⟩ ?_
 intro j hj
 ((conv=>whnf);repeat ((first|(intro hq;try simp only [lnS]at hq)|refine sI ?_|refine .intro _ (.intro rfl ?_));(conv=>whnf)))
 rw [hlm]
 refine aC (λh1=> ?_) (λh1=> ?_)
 ·have hjl:j < l.length:=by omega
  have hrow:(l.map atR)[((j:Nat):Int).toNat]? =some (atR l[j]):=aO hjl
  have hts:aJw (l.take (j+1))=vO l[j] (aJw (l.take j)):=by rw [List.take_succ_eq_append_getElem hjl,aKl]
  have hol:(aJw (l.take j)).length<=100000:=by
   have:=(aFy (l.take j) [] .nil).2.2
   rw [List.length_take]at this
   have h2:(aJw (l.take j)).length<=min j l.length+([]:List At).length:=this
   simp only [List.length_nil]at h2
   omega
  generalize aJw (l.take j)=out at *
  have homl:(out.map atR).length=out.length:=List.length_map ..
  have hta:(out.map atR).take out.length=out.map atR:=List.take_of_length_le (by simp)
  ((conv=>whnf);repeat ((first|(intro hq;try simp only [lnS]at hq)|refine sI ?_|refine .intro _ (.intro rfl ?_));(conv=>whnf)))
  refine aJ hty (λn:Nat=>([(1, .ea 1 [[.sl 6 (l.map atR)]] 0 0),(2, .ptr 2 0),(3, .d (.sl 6 (out.map atR))),(4, .d (.int .i64 j)),(5, .d (.int .i64 n))],[(2, .cells 35 [.d .nil])])) (λn=>n<=out.length/\ ∀x∈out.take n,bM x l[j] < 0) (λn=>out.length - n) 0 ⟨Nat.zero_le _,λx hx=>by simp at hx⟩ ⟨by repeat' (first|exact trivial|exact rfl|refine And.intro ?_ ?_),by repeat' (first|exact trivial|exact rfl|refine And.intro ?_ ?_)⟩ ?_
  rintro n ⟨hn,hlt⟩
  have hins:= @aM0 l[j] out n hn hlt
  rw [dO]at hrow
  ((conv=>whnf);repeat ((first|(intro hq;try simp only [lnS]at hq)|refine sI ?_|refine .intro _ (.intro rfl ?_));(conv=>whnf)))
  refine dwR ?_
  ((conv=>whnf);repeat ((first|(intro hq;try simp only [lnS]at hq)|refine sI ?_|refine .intro _ (.intro rfl ?_));(conv=>whnf)))
  rw [homl]
  by_cases h2:n < out.length
  ·have hrow2:(out.map atR)[((n:Nat):Int).toNat]? =some (atR out[n]):=aO h2
   have hcn:=hc out[n] l[j]
   have hf:=aTj out[n] l[j]
   rw [dO,dO]at hcn
   rw [dO]at hrow2
   rw [decide_eq_true (by omega)]
   ((conv=>whnf);repeat ((first|(refine⟨_,hrow2, ?_⟩)|(refine⟨_,hrow, ?_⟩)|(refine⟨.d (.int .i64 _),_,[],rfl,trivial,hcn, ?_⟩)|(intro hq;try simp only [lnS]at hq)|refine sI ?_|refine .intro _ (.intro rfl ?_));(conv=>whnf)))
   by_cases h3:bM out[n] l[j] < 0
   ·rw [decide_eq_true h3]
    ((conv=>whnf);repeat ((first|(intro hq;try simp only [lnS]at hq)|refine sI ?_|refine .intro _ (.intro rfl ?_));(conv=>whnf)))
    refine⟨n+1,⟨by omega,λx hx=> ?_⟩,by dsimp only;omega,by repeat' (first|exact trivial|exact rfl|refine And.intro ?_ ?_),by repeat' (first|exact trivial|exact rfl|refine And.intro ?_ ?_)⟩
    rw [List.take_succ_eq_append_getElem h2,List.mem_append,List.mem_singleton]at hx
    rcases hx with hx|rfl
    ·exact hlt x hx
    ·exact h3
   ·have hins:=hins (λ_=>h3)
    rw [decide_eq_false h3]
    ((conv=>whnf);repeat ((first|(intro hq;try simp only [lnS]at hq)|refine sI ?_|refine .intro _ (.intro rfl ?_));(conv=>whnf)))
    refine dwR ?_
    ((conv=>whnf);repeat ((first|(intro hq;try simp only [lnS]at hq)|refine sI ?_|refine .intro _ (.intro rfl ?_));(conv=>whnf)))
    rw [homl,decide_eq_true (by omega)]
    ((conv=>whnf);repeat ((first|(refine And.intro aTg ?_)|(refine⟨_,hrow2, ?_⟩)|(refine⟨_,hrow, ?_⟩)|(intro hq;try simp only [lnS]at hq)|refine sI ?_|refine .intro _ (.intro rfl ?_));(conv=>whnf)))
    rw [hf]
    unfold zO
    by_cases h4:out[n]=l[j]
    ·rw [if_pos ⟨h2,h4⟩]at hins
     rw [decide_eq_true h4]
     ((conv=>whnf);repeat ((first|(intro hq;try simp only [lnS]at hq)|refine sI ?_|refine .intro _ (.intro rfl ?_));(conv=>whnf)))
     refine⟨j+1,by dsimp only;omega,by dsimp only;omega, ?_⟩
     dsimp only
     rw [hts,hins]
     exact⟨by repeat' (first|exact trivial|exact rfl|refine And.intro ?_ ?_),by repeat' (first|exact trivial|exact rfl|refine And.intro ?_ ?_)⟩
    ·rw [if_neg (by rintro⟨_,h⟩;exact h4 h)]at hins
     rw [decide_eq_false h4]
     ((conv=>whnf);repeat ((first|(intro hq;try simp only [lnS]at hq)|refine sI ?_|refine .intro _ (.intro rfl ?_));(conv=>whnf)))
     refine aL.midE (λrows=>rows=(vO l[j] out).map atR) (λrows=>[(1, .ea 1 [[.sl 6 (l.map atR)]] 0 0),(2, .ptr 2 0),(3, .d (.sl 6 rows)),(4, .d (.int .i64 j))]) (λ_=>[(2, .cells 35 [.d .nil])]) ?_ ?_
     ·(refine aX (id:=9) hty (.first 1 (.first 2 (.first 3 (.first 5 (.first 6 (.first 7 (.first 8 (.first 9 (.first 12 (.first 13 (.first 14 (.alt 0 (.alt 4 (.alt 10 (.alt 11 (.alt 15 (.first 16 .done) .stop) .stop) .stop) (.alt 10 (.alt 4 (.alt 11 (.alt 15 (.first 16 .done) .stop) .stop) .stop) .stop)) (.alt 10 (.alt 0 (.alt 4 (.alt 11 (.alt 15 (.first 16 .done) .stop) .stop) .stop) .stop) .stop))))))))))))) (by kernel_rfl) (by kernel_rfl) ?_)
      ((conv=>whnf);repeat' ((first|(intro hq;(try simp only [lnS]at hq);(try rewrite [List.length_map]))|refine sJ ?_|refine .intro _ (.intro rfl ?_)|refine exL (k:= ?_)|(refine⟨_,hrow, ?_⟩)|(refine And.intro (by simp only [List.length_replicate,List.length_drop,List.length_take,List.length_map,List.length_append,List.length_cons,List.length_nil];omega) ?_)|exact trivial|(refine And.intro ?_ ?_)|refine dwR ?_|((first|refine aC ?_ ?_|refine aD ?_ ?_)<;>intro hb<;>(first|exact ddX hb|try simp only [lnS]at hb))|(refine aB ?_ ?_<;>intro hb<;>try exact dsX hb))<;>(conv=>whnf)))
      all_goals
       refine⟨_,⟨by repeat' (first|exact trivial|exact rfl|refine And.intro ?_ ?_),by repeat' (first|exact trivial|exact rfl|refine And.intro ?_ ?_)⟩, ?_⟩
       rw [hins]
       simp [hta,dO,List.map_append,List.map_take,List.map_drop]
     ·rintro rows rfl
      ((conv=>whnf);repeat ((first|(intro hq;try simp only [lnS]at hq)|refine sI ?_|refine .intro _ (.intro rfl ?_));(conv=>whnf)))
      refine⟨j+1,by dsimp only;omega,by dsimp only;omega, ?_⟩
      dsimp only
      rw [hts]
      exact⟨by repeat' (first|exact trivial|exact rfl|refine And.intro ?_ ?_),by repeat' (first|exact trivial|exact rfl|refine And.intro ?_ ?_)⟩
  ·have hins:=hins (λh=>absurd h h2)
   rw [if_neg (by rintro⟨h,_⟩;exact h2 h)]at hins
   rw [decide_eq_false (by omega)]
   ((conv=>whnf);repeat ((first|(intro hq;try simp only [lnS]at hq)|refine sI ?_|refine .intro _ (.intro rfl ?_));(conv=>whnf)))
   refine dwR ?_
   ((conv=>whnf);repeat ((first|(intro hq;try simp only [lnS]at hq)|refine sI ?_|refine .intro _ (.intro rfl ?_));(conv=>whnf)))
   rw [homl,decide_eq_false (by omega)]
   ((conv=>whnf);repeat ((first|(intro hq;try simp only [lnS]at hq)|refine sI ?_|refine .intro _ (.intro rfl ?_));(conv=>whnf)))
   refine aL.midE (λrows=>rows=(vO l[j] out).map atR) (λrows=>[(1, .ea 1 [[.sl 6 (l.map atR)]] 0 0),(2, .ptr 2 0),(3, .d (.sl 6 rows)),(4, .d (.int .i64 j))]) (λ_=>[(2, .cells 35 [.d .nil])]) ?_ ?_
   ·(refine aX (id:=9) hty (.first 1 (.first 2 (.first 3 (.first 5 (.first 6 (.first 7 (.first 8 (.first 9 (.first 12 (.first 13 (.first 14 (.alt 0 (.alt 4 (.alt 10 (.alt 11 (.alt 15 (.first 16 .done) .stop) .stop) .stop) (.alt 10 (.alt 4 (.alt 11 (.alt 15 (.first 16 .done) .stop) .stop) .stop) .stop)) (.alt 10 (.alt 0 (.alt 4 (.alt 11 (.alt 15 (.first 16 .done) .stop) .stop) .stop) .stop) .stop))))))))))))) (by kernel_rfl) (by kernel_rfl) ?_)
    ((conv=>whnf);repeat' ((first|(intro hq;(try simp only [lnS]at hq);(try rewrite [List.length_map]))|refine sJ ?_|refine .intro _ (.intro rfl ?_)|refine exL (k:= ?_)|(refine⟨_,hrow, ?_⟩)|(refine And.intro (by simp only [List.length_replicate,List.length_drop,List.length_take,List.length_map,List.length_append,List.length_cons,List.length_nil];omega) ?_)|exact trivial|(refine And.intro ?_ ?_)|refine dwR ?_|((first|refine aC ?_ ?_|refine aD ?_ ?_)<;>intro hb<;>(first|exact ddX hb|try simp only [lnS]at hb))|(refine aB ?_ ?_<;>intro hb<;>try exact dsX hb))<;>(conv=>whnf)))
    all_goals
     refine⟨_,⟨by repeat' (first|exact trivial|exact rfl|refine And.intro ?_ ?_),by repeat' (first|exact trivial|exact rfl|refine And.intro ?_ ?_)⟩, ?_⟩
     rw [hins]
     simp [hta,dO,List.map_append,List.map_take,List.map_drop]
   ·rintro rows rfl
    ((conv=>whnf);repeat ((first|(intro hq;try simp only [lnS]at hq)|refine sI ?_|refine .intro _ (.intro rfl ?_));(conv=>whnf)))
    refine⟨j+1,by dsimp only;omega,by dsimp only;omega, ?_⟩
    dsimp only
    rw [hts]
    exact⟨by repeat' (first|exact trivial|exact rfl|refine And.intro ?_ ?_),by repeat' (first|exact trivial|exact rfl|refine And.intro ?_ ?_)⟩
 ·have hjl:j=l.length:=by omega
  subst hjl
  rw [List.take_length]
  ((conv=>whnf);repeat ((first|(intro hq;try simp only [lnS]at hq)|refine sI ?_|refine .intro _ (.intro rfl ?_));(conv=>whnf)))
  exact⟨_, .refl _,rfl⟩
end Go.Proofs.YtdjfkmkdkclahaaGreatDoor
namespace Go.Proofs.YtdjfkmkdkclahaaGreatDoor
open Go.Proofs
def aNl (n:Nat) (r:List Nat) (k:Nat):List Nat:=r.take k++n::r.drop k
def dZ:Nat->List (List Nat)
 | 0=>[[]]
 |n+1=>(dZ n).flatMap λr=>(List.range (r.length+1)).map (aNl n r)
theorem aM1 (n:Nat) (r:List Nat) (k:Nat):(aNl n r k).Perm (n::r):=by
 unfold aNl
 refine List.perm_middle.trans ?_
 rw [List.take_append_drop]
theorem qC: ∀{n:Nat}{r:List Nat},r∈dZ n->r.Perm (List.range n)
 | 0,r,h=>by
  obtain rfl:r=[]:=by simpa [dZ]using h
  exact .refl _
 |n+1,r,h=>by
  rw [dZ,List.mem_flatMap]at h
  obtain⟨q,hq,h⟩:=h
  obtain⟨k,_,rfl⟩:=List.mem_map.1 h
  rw [List.range_succ]
  exact(aM1 n q k).trans (((qC hq).cons n).trans (List.perm_append_singleton n (List.range n)).symm)
theorem aCv: ∀{n:Nat}{w:List Nat},w.Perm (List.range n)->w∈dZ n
 | 0,w,h=>by
  obtain rfl:w=[]:=h.eq_nil
  exact List.mem_cons_self
 |n+1,w,h=>by
  rw [List.range_succ]at h
  obtain⟨a,b,rfl⟩:=List.append_of_mem (h.mem_iff.2 (by simp:n∈List.range n++[n]))
  have h1:(n::(a++b)).Perm (n::List.range n):=List.perm_middle.symm.trans (h.trans (List.perm_append_singleton n (List.range n)))
  have h2:(a++b)∈dZ n:=aCv h1.cons_inv
  rw [dZ,List.mem_flatMap]
  refine⟨_,h2,List.mem_map.2 ⟨a.length,List.mem_range.2 (by simp;omega), ?_⟩⟩
  simp [aNl]
theorem qD {n:Nat}{r:List Nat}(h:r∈dZ n):r.length=n:=by rw [(qC h).length_eq,List.length_range]
theorem zJ {α β:Type}{f:α->List β}{m:Nat}: ∀{l:List α},(∀x∈l,(f x).length=m)->(l.flatMap f).length=l.length * m
 | [],_=>by simp
 |x::l,h=>by
  rw [List.flatMap_cons,List.length_append,zJ (l:=l) λy hy=>h y (List.mem_cons_of_mem _ hy),h x List.mem_cons_self,List.length_cons,Nat.add_mul]
  omega
theorem aEp: ∀n:Nat,(dZ (n+1)).length=(dZ n).length * (n+1):= λn=>by
 rw [dZ,zJ (m:=n+1)]
 intro x hx
 rw [List.length_map,List.length_range,qD hx]
theorem aSs (L:Nat->Nat) (h0:L 0=1) (hs: ∀n,L (n+1)=L n * (n+1)) {n:Nat}(h:n<=8):L n<=40320:=by
 have h1:L 1=L 0 * 1:=hs 0
 have h2:L 2=L 1 * 2:=hs 1
 have h3:L 3=L 2 * 3:=hs 2
 have h4:L 4=L 3 * 4:=hs 3
 have h5:L 5=L 4 * 5:=hs 4
 have h6:L 6=L 5 * 6:=hs 5
 have h7:L 7=L 6 * 7:=hs 6
 have h8:L 8=L 7 * 8:=hs 7
 have e:n=0\/n=1\/n=2\/n=3\/n=4\/n=5\/n=6\/n=7\/n=8:=by omega
 rcases e with rfl|rfl|rfl|rfl|rfl|rfl|rfl|rfl|rfl<;>omega
theorem wD {n:Nat}(h:n<=8):(dZ n).length<=40320:=aSs (λn=>(dZ n).length) rfl aEp h
def aDi (n i k:Nat):List (List Nat):=((dZ n).take i).flatMap (λr=>(List.range (r.length+1)).map (aNl n r))++(List.range k).map (aNl n ((dZ n)[i]?.getD []))
theorem aLd {n i k:Nat}(hi:i < (dZ n).length):aDi n i (k+1)=aDi n i k++[aNl n (dZ n)[i] k]:=by
 unfold aDi
 rw [List.range_succ,List.map_append,<-List.append_assoc,List.getElem?_eq_getElem hi]
 rfl
theorem aLe {n i:Nat}(hi:i < (dZ n).length):aDi n i (n+1)=aDi n (i+1) 0:=by
 unfold aDi
 rw [List.take_succ_eq_append_getElem hi,List.flatMap_append,List.getElem?_eq_getElem hi,List.flatMap_cons,List.flatMap_nil,List.append_nil]
 have:=qD (List.getElem_mem hi)
 simp [this]
theorem aOu (n:Nat):aDi n (dZ n).length 0=dZ (n+1):=by
 unfold aDi
 rw [List.take_length,dZ]
 simp
theorem aOt {n i k:Nat}(hn:n<=7) (hi:i<=(dZ n).length) (hk:k<=n+1):(aDi n i k).length<=50000:=by
 unfold aDi
 have h2:=wD (n:=n) (by omega)
 have h3:=aEp n
 have h4:=wD (n:=n+1) (by omega)
 rw [List.length_append,List.length_map,List.length_range,zJ (m:=n+1)]
 ·rw [List.length_take,Nat.min_eq_left hi]
  have:i * (n+1)<=(dZ n).length * (n+1):=Nat.mul_le_mul_right _ hi
  omega
 ·intro x hx
  rw [List.length_map,List.length_range,qD (List.mem_of_mem_take hx)]
def aB1 (p:List At) (H:List bZ) (ws:List (List Nat)):Option (List At):=ws.foldl (λo w=>match o with|none=>some (eO p H w)|some b=>if bN bM (eO p H w) b < 0 then some (eO p H w)else some b) none
theorem aBw (p:List At) (H:List bZ) (ws:List (List Nat)) (w:List Nat):aB1 p H (ws++[w])=match aB1 p H ws with|none=>some (eO p H w)|some b=>if bN bM (eO p H w) b < 0 then some (eO p H w)else some b:=by
 unfold aB1
 rw [List.foldl_append]
 rfl
theorem aDb (p:List At) (H:List bZ): ∀n (ws:List (List Nat)),ws.length=n->(n=0/\aB1 p H ws=none)\/ ∃b,aB1 p H ws=some b/\(∃w∈ws,b=eO p H w)/\ ∀w∈ws,bN bM b (eO p H w)<=0
 | 0,ws,h=>by
  obtain rfl:=List.eq_nil_of_length_eq_zero h
  exact .inl ⟨rfl,rfl⟩
 |n+1,ws,h=>by
  have hne:ws≠[]:=by rintro rfl;simp at h
  obtain⟨l,w,rfl⟩: ∃l w,ws=l++[w]:=⟨ws.dropLast,ws.getLast hne,(List.dropLast_concat_getLast hne).symm⟩
  rw [aBw]
  have hl:=eV (α:=At) bJ
  right
  rcases aDb p H n l (by simpa using h)with⟨rfl,e⟩|⟨b,e,⟨v,hv,hb⟩,hle⟩
  ·rw [e]
   obtain rfl:l=[]:=List.eq_nil_of_length_eq_zero (by simpa using h)
   refine⟨_,rfl,⟨w,by simp,rfl⟩,λu hu=> ?_⟩
   obtain rfl:u=w:=by simpa using hu
   rw [hl.refl];omega
  ·rw [e]
   by_cases hc:bN bM (eO p H w) b < 0
   ·refine⟨eO p H w,if_pos hc,⟨w,by simp,rfl⟩,λu hu=> ?_⟩
    rcases List.mem_append.1 hu with hu|hu
    ·exact hl.le_tr (by omega) (hle u hu)
    ·obtain rfl:u=w:=by simpa using hu
     rw [hl.refl];omega
   ·refine⟨b,if_neg hc,⟨v,by simp [hv],hb⟩,λu hu=> ?_⟩
    rcases List.mem_append.1 hu with hu|hu
    ·exact hle u hu
    ·obtain rfl:u=w:=by simpa using hu
     have:=iP bJ b (eO p H u)
     omega
theorem aN2 {p:List At}{H:List bZ}(hn:H.Nodup) (hm: ∀s,s∈H↔s∈cG p) (hN:(cG p).length<=8):aB1 p H (dZ H.length)=some (dP p):=by
 rcases aDb p H _ (dZ H.length) rfl with⟨h0,_⟩|⟨b,e,⟨w,hw,hb⟩,hle⟩
 ·have:=aCv (n:=H.length) (.refl _)
  rw [List.eq_nil_of_length_eq_zero h0]at this
  cases this
 ·rw [e,aMx hn hm hN ⟨⟨w,qC hw,hb⟩,λv hv=>hle v (aCv hv)⟩]
theorem aM8 {h t:bZ}: ∀{H T:List bZ}{s:bZ},T.length=H.length->h∉H->gV (H++[h]) (T++[t]) s=if s=h then t else gV H T s
 | [],T,s,hl,_=>by
  obtain rfl:=List.eq_nil_of_length_eq_zero hl
  by_cases e:s=h
  ·rw [if_pos e];simp [gV,e]
  ·rw [if_neg e];simp [gV,e]
 |v::H,[],s,hl,_=>by simp at hl
 |v::H,u::T,s,hl,hn=>by
  have ih:=aM8 (h:=h) (t:=t) (H:=H) (T:=T) (s:=s) (by simpa using hl) (λq=>hn (List.mem_cons_of_mem _ q))
  rw [List.cons_append,List.cons_append,gV,gV,ih]
  by_cases e:s=v
  ·have:¬ s=h:= λe2=>hn (by rw [<-e2,e];exact List.mem_cons_self)
   rw [if_pos e,if_neg this,if_pos e]
  ·rw [if_neg e,if_neg e]
theorem aM7 {H T:List bZ}{s:bZ}{k:Nat}(hH:H.Nodup) (hT:T.length=H.length) (hk:k < H.length):gV (H.take (k+1)) (T.take (k+1)) s=if s=H[k]then T[k]'(by omega)else gV (H.take k) (T.take k) s:=by
 rw [List.take_succ_eq_append_getElem hk,List.take_succ_eq_append_getElem (by omega:k < T.length)]
 refine aM8 (by rw [List.length_take,List.length_take,hT]) ?_
 intro hm
 obtain⟨j,hj,e⟩:=List.mem_iff_getElem.1 hm
 rw [List.getElem_take]at e
 have hj2:j < k:=by rw [List.length_take]at hj;omega
 exact absurd e ((List.pairwise_iff_getElem.1 hH) j k (by omega) hk hj2)
end Go.Proofs.YtdjfkmkdkclahaaGreatDoor
namespace Go.Proofs.YtdjfkmkdkclahaaGreatDoor
open Go.Proofs Go.RowKit
set_option maxRecDepth 10000
attribute [local irreducible] aL aH Tri aI YVC bP aS
theorem aEh (l m:List At):Tri Tryz.prog 130 [.d (.sl 6 (l.map atR)), .d (.sl 6 (m.map atR))] [] (λr=>r= .d (.bool (decide (bN bM l m < 0)))):=by
 have hl:(l.map atR).length=l.length:=List.length_map ..
 have hm:(m.map atR).length=m.length:=List.length_map ..
 refine aF hty Tryz.func130 rfl (kp [0,1,4,5,15,26]) [] _ _ _ (by simp [Tryz.f130]) (by simp) ?_
 ((conv=>whnf);repeat ((first|(intro hq;try simp only [lnS]at hq)|refine sI ?_|refine .intro _ (.intro rfl ?_));(conv=>whnf)))
 refine aJ hty (λj:Nat=>([(0, .d (.sl 6 (l.map atR))),(1, .d (.sl 6 (m.map atR))),(5, .d (.int .i64 j))],[])) (λj=>j<=l.length/\j<=m.length/\bN bM l m=bN bM (l.drop j) (m.drop j)) (λj=>l.length - j) 0 ⟨by omega,by omega,rfl⟩ ⟨by repeat' (first|exact trivial|exact rfl|refine And.intro ?_ ?_),by repeat' (first|exact trivial|exact rfl|refine And.intro ?_ ?_)⟩ ?_
 rintro j ⟨hj,hjm,hn⟩
 ((conv=>whnf);repeat ((first|(intro hq;try simp only [lnS]at hq)|refine sI ?_|refine .intro _ (.intro rfl ?_));(conv=>whnf)))
 rw [hl]
 refine aC (λh1=> ?_) (λh1=> ?_)
 ·have hjl:j < l.length:=by omega
  have hrow:(l.map atR)[((j:Nat):Int).toNat]? =some (atR l[j]):=aO hjl
  rw [List.drop_eq_getElem_cons hjl]at hn
  ((conv=>whnf);repeat ((first|(intro hq;try simp only [lnS]at hq)|refine sI ?_|refine .intro _ (.intro rfl ?_));(conv=>whnf)))
  rw [hm]
  refine aC (λh2=> ?_) (λh2=> ?_)
  ·have hjm2:j < m.length:=by omega
   have hrow2:(m.map atR)[((j:Nat):Int).toNat]? =some (atR m[j]):=aO hjm2
   have hi:=kK l[j] m[j]
   have hf:=aTj l[j] m[j]
   rw [dO,dO]at hi
   rw [dO]at hrow
   rw [dO]at hrow2
   rw [List.drop_eq_getElem_cons hjm2,bN]at hn
   ((conv=>whnf);repeat ((first|(intro hq;try simp only [lnS]at hq)|refine sI ?_|refine .intro _ (.intro rfl ?_));(conv=>whnf)))
   refine dwR ?_
   ((conv=>whnf);repeat ((first|(refine And.intro aTg ?_)|(refine⟨_,hrow, ?_⟩)|(refine⟨_,hrow2, ?_⟩)|(intro hq;try simp only [lnS]at hq)|refine sI ?_|refine .intro _ (.intro rfl ?_));(conv=>whnf)))
   rw [hf]
   unfold zO
   by_cases he:l[j]=m[j]
   ·rw [decide_eq_true he]
    rw [if_neg (by rw [dL.2 he];decide)]at hn
    ((conv=>whnf);repeat ((first|(intro hq;try simp only [lnS]at hq)|refine sI ?_|refine .intro _ (.intro rfl ?_));(conv=>whnf)))
    exact⟨j+1,⟨by omega,by omega,hn⟩,by dsimp only;omega,by repeat' (first|exact trivial|exact rfl|refine And.intro ?_ ?_),trivial⟩
   ·rw [decide_eq_false he]
    rw [if_pos (λh=>he (dL.1 h))]at hn
    ((conv=>whnf);repeat ((first|(intro hq;try simp only [lnS]at hq)|refine sI ?_|refine .intro _ (.intro rfl ?_));(conv=>whnf)))
    refine dwR ?_
    ((conv=>whnf);repeat ((first|(refine⟨_,hrow, ?_⟩)|(refine⟨_,hrow2, ?_⟩)|(refine⟨.d (.int .i64 _),_,[],rfl,trivial,hi, ?_⟩)|(intro hq;try simp only [lnS]at hq)|refine sI ?_|refine .intro _ (.intro rfl ?_));(conv=>whnf)))
    rw [hn]
    rfl
  ·have hjm2:m.drop j=[]:=List.drop_eq_nil_of_le (by omega)
   rw [hjm2,bN]at hn
   ((conv=>whnf);repeat ((first|(intro hq;try simp only [lnS]at hq)|refine sI ?_|refine .intro _ (.intro rfl ?_));(conv=>whnf)))
   rw [hn]
   refine aN ?_
   rw [hl,hm,decide_eq_false (by omega),decide_eq_false (by decide)]
 ·have hjl:j=l.length:=by omega
  subst hjl
  rw [List.drop_length]at hn
  ((conv=>whnf);repeat ((first|(intro hq;try simp only [lnS]at hq)|refine sI ?_|refine .intro _ (.intro rfl ?_));(conv=>whnf)))
  by_cases h2:l.length < m.length
  ·rw [List.drop_eq_getElem_cons h2,bN]at hn
   rw [hn]
   refine aN ?_
   rw [hl,hm,decide_eq_true (by omega),decide_eq_true (by decide)]
  ·have hjm2:m.drop l.length=[]:=List.drop_eq_nil_of_le (by omega)
   rw [hjm2,bN]at hn
   rw [hn]
   refine aN ?_
   rw [hl,hm,decide_eq_false (by omega),decide_eq_false (by decide)]
theorem aCo (p:List At) (H T:List bZ) (hH:H.Nodup) (hT:T.length=H.length) (hp:p.length<=100000):Tri Tryz.prog 129 [.d (.agg (aK p)), .d (.sl 1 (H.map aV)), .d (.sl 1 (T.map aV))] [] (λr=>r= .d (.agg (aK (p.map (rpA (gV H T)))))):=by
 have hpm:(p.map atR).length=p.length:=List.length_map ..
 have hHm:(H.map aV).length=H.length:=List.length_map ..
 rw [show aK p=[.sl 6 (p.map atR)]from rfl]
 refine Tri.says ?_
 refine aG false [3] hty Tryz.func129 rfl (kp [0,1,2,3,6,7,8,9,10,11,12,18,33,41,52]) [] _ _ _ (by simp [Tryz.f129]) (by simp) ?_
 ((conv=>whnf);repeat ((first|(intro hq;try simp only [lnS]at hq)|refine sI ?_|refine .intro _ (.intro rfl ?_));(conv=>whnf)))
 refine aJ hty (λj:Nat=>([(3, .ea 1 [[.sl 6 (p.map atR)]] 0 0),(1, .d (.sl 1 (H.map aV))),(2, .d (.sl 1 (T.map aV))),(6, .ptr 6 0),(7, .osl 13 6 ((p.take j).map (λa=>atR (rpA (gV H T) a)))),(8, .d (.int .i64 j))],[(13, .own 60 6 ((p.take j).map (λa=>atR (rpA (gV H T) a))).length),(6, .cells 35 [.d .nil])])) (λj=>j<=p.length) (λj=>p.length - j) 0 (Nat.zero_le _) ⟨by repeat' (first|exact trivial|exact rfl|refine And.intro ?_ ?_),by repeat' (first|exact trivial|exact rfl|refine And.intro ?_ ?_)⟩ ?_
 intro j hj
 ((conv=>whnf);repeat ((first|(intro hq;try simp only [lnS]at hq)|refine sI ?_|refine .intro _ (.intro rfl ?_));(conv=>whnf)))
 rw [hpm]
 refine aC (λh1=> ?_) (λh1=> ?_)
 ·have hjl:j < p.length:=by omega
  have hrow:(p.map atR)[((j:Nat):Int).toNat]? =some (atR p[j]):=aO hjl
  have hts:(p.take (j+1)).map (λa=>atR (rpA (gV H T) a))=(p.take j).map (λa=>atR (rpA (gV H T) a))++[atR (rpA (gV H T) p[j])]:=by rw [List.take_succ_eq_append_getElem hjl,List.map_append];rfl
  have hol:((p.take j).map (λa=>atR (rpA (gV H T) a))).length<=100000:=by rw [List.length_map,List.length_take];omega
  generalize (p.take j).map (λa=>atR (rpA (gV H T) a))=out at *
  generalize p[j]=a at *
  obtain⟨kd,nm,x,y,lo,hi⟩:=a
  rw [dO]at hrow
  dsimp only at hrow
  ((conv=>whnf);repeat ((first|(refine⟨_,hrow, ?_⟩)|(intro hq;try simp only [lnS]at hq)|refine sI ?_|refine .intro _ (.intro rfl ?_));(conv=>whnf)))
  refine aJ hty (λk:Nat=>([(3, .ea 1 [[.sl 6 (p.map atR)]] 0 0),(1, .d (.sl 1 (H.map aV))),(2, .d (.sl 1 (T.map aV))),(6, .ptr 6 0),(7, .osl 13 6 out),(8, .d (.int .i64 j)),(9, .ptr 9 0),(10, .d (.str x)),(11, .d (.str y)),(12, .d (.int .i64 k))],[(13, .own 60 6 out.length),(6, .cells 35 [.d .nil]),(9, .cells 60 [.d (.int .i64 kd), .d (.str nm), .d (.str (gV (H.take k) (T.take k) x)), .d (.str (gV (H.take k) (T.take k) y)), .d (.int .i64 lo), .d (.int .i64 hi)])])) (λk=>k<=H.length) (λk=>H.length - k) 0 (Nat.zero_le _) ⟨by repeat' (first|exact trivial|exact rfl|refine And.intro ?_ ?_),by repeat' (first|exact trivial|exact rfl|refine And.intro ?_ ?_)⟩ ?_
  intro k hk
  ((conv=>whnf);repeat ((first|(intro hq;try simp only [lnS]at hq)|refine sI ?_|refine .intro _ (.intro rfl ?_));(conv=>whnf)))
  rw [hHm]
  refine aC (λh2=> ?_) (λh2=> ?_)
  ·have hkl:k < H.length:=by omega
   have hkt:k < T.length:=by omega
   have hrH:(H.map aV)[((k:Nat):Int).toNat]? =some (aV H[k]):=aO hkl
   have hrT:(T.map aV)[((k:Nat):Int).toNat]? =some (aV T[k]):=aO hkt
   have gx:=aM7 (s:=x) hH hT hkl
   have gy:=aM7 (s:=y) hH hT hkl
   rw [show aV H[k]=[.str H[k]]from rfl]at hrH
   rw [show aV T[k]=[.str T[k]]from rfl]at hrT
   generalize gV (H.take k) (T.take k) x=u at *
   generalize gV (H.take k) (T.take k) y=v at *
   ((conv=>whnf);repeat ((first|(refine⟨_,hrH, ?_⟩)|(intro hq;try simp only [lnS]at hq)|refine sI ?_|refine .intro _ (.intro rfl ?_));(conv=>whnf)))
   by_cases hx:x=H[k]
   ·rw [if_pos hx]at gx
    rw [decide_eq_true hx]
    ((conv=>whnf);repeat ((first|(refine⟨_,hrT, ?_⟩)|(refine⟨_,hrH, ?_⟩)|(intro hq;try simp only [lnS]at hq)|refine sI ?_|refine .intro _ (.intro rfl ?_));(conv=>whnf)))
    by_cases hy:y=H[k]
    ·rw [if_pos hy]at gy
     rw [decide_eq_true hy]
     ((conv=>whnf);repeat ((first|(refine⟨_,hrT, ?_⟩)|(intro hq;try simp only [lnS]at hq)|refine sI ?_|refine .intro _ (.intro rfl ?_));(conv=>whnf)))
     refine⟨k+1,by dsimp only;omega,by dsimp only;omega, ?_⟩
     dsimp only
     rw [gx,gy]
     exact⟨by repeat' (first|exact trivial|exact rfl|refine And.intro ?_ ?_),by repeat' (first|exact trivial|exact rfl|refine And.intro ?_ ?_)⟩
    ·rw [if_neg hy]at gy
     rw [decide_eq_false hy]
     ((conv=>whnf);repeat ((first|(refine⟨_,hrT, ?_⟩)|(intro hq;try simp only [lnS]at hq)|refine sI ?_|refine .intro _ (.intro rfl ?_));(conv=>whnf)))
     refine⟨k+1,by dsimp only;omega,by dsimp only;omega, ?_⟩
     dsimp only
     rw [gx,gy]
     exact⟨by repeat' (first|exact trivial|exact rfl|refine And.intro ?_ ?_),by repeat' (first|exact trivial|exact rfl|refine And.intro ?_ ?_)⟩
   ·rw [if_neg hx]at gx
    rw [decide_eq_false hx]
    ((conv=>whnf);repeat ((first|(refine⟨_,hrT, ?_⟩)|(refine⟨_,hrH, ?_⟩)|(intro hq;try simp only [lnS]at hq)|refine sI ?_|refine .intro _ (.intro rfl ?_));(conv=>whnf)))
    by_cases hy:y=H[k]
    ·rw [if_pos hy]at gy
     rw [decide_eq_true hy]
     ((conv=>whnf);repeat ((first|(refine⟨_,hrT, ?_⟩)|(intro hq;try simp only [lnS]at hq)|refine sI ?_|refine .intro _ (.intro rfl ?_));(conv=>whnf)))
     refine⟨k+1,by dsimp only;omega,by dsimp only;omega, ?_⟩
     dsimp only
     rw [gx,gy]
     exact⟨by repeat' (first|exact trivial|exact rfl|refine And.intro ?_ ?_),by repeat' (first|exact trivial|exact rfl|refine And.intro ?_ ?_)⟩
    ·rw [if_neg hy]at gy
     rw [decide_eq_false hy]
     ((conv=>whnf);repeat ((first|(refine⟨_,hrT, ?_⟩)|(intro hq;try simp only [lnS]at hq)|refine sI ?_|refine .intro _ (.intro rfl ?_));(conv=>whnf)))
     refine⟨k+1,by dsimp only;omega,by dsimp only;omega, ?_⟩
     dsimp only
     rw [gx,gy]
     exact⟨by repeat' (first|exact trivial|exact rfl|refine And.intro ?_ ?_),by repeat' (first|exact trivial|exact rfl|refine And.intro ?_ ?_)⟩
  ·have hkl:k=H.length:=by omega
   subst hkl
   rw [List.take_length,<-hT,List.take_length]
   ((conv=>whnf);repeat ((first|(intro hq;try simp only [lnS]at hq)|refine sI ?_|refine .intro _ (.intro rfl ?_));(conv=>whnf)))
   refine⟨j+1,by dsimp only;omega,by dsimp only;omega, ?_⟩
   dsimp only
   rw [hts]
   exact⟨by repeat' (first|exact trivial|exact rfl|refine And.intro ?_ ?_),by repeat' (first|exact trivial|exact rfl|(rw [List.length_append];exact rfl)|refine And.intro ?_ ?_)⟩
 ·have hjl:j=p.length:=by omega
  subst hjl
  rw [List.take_length]
  ((conv=>whnf);repeat ((first|(intro hq;try simp only [lnS]at hq)|refine sI ?_|refine .intro _ (.intro rfl ?_));(conv=>whnf)))
  rw [show aK (p.map (rpA (gV H T)))=[.sl 6 (p.map (λa=>atR (rpA (gV H T) a)))]from by unfold aK;rw [List.map_map];rfl]
  exact⟨_, .refl _,rfl⟩
end Go.Proofs.YtdjfkmkdkclahaaGreatDoor
namespace Go.Proofs.YtdjfkmkdkclahaaGreatDoor
open Go.Proofs Go.RowKit
set_option maxRecDepth 10000
attribute [local irreducible] aL aH Tri aI YVC bP aS
def nR (n:Nat):List D:=[.int .i64 n]
def uW (w:List Nat):List D:=[.sl 1 (w.map nR)]
theorem uM: ∀n:Nat,n<=8->Tri Tryz.prog 127 [.d (.int .i64 n)] [] (λr=>r= .d (.sl 1 ((dZ n).map uW)))
 | 0,_=>by
  refine aF hty Tryz.func127 rfl (kp [0,2,3,4,5,6,7,9,19,28]) [] _ _ _ (by simp [Tryz.f127]) (by simp) ?_
  ((conv=>whnf);repeat ((first|(intro hq;try simp only [lnS]at hq)|refine sI ?_|refine .intro _ (.intro rfl ?_));(conv=>whnf)))
  rfl
 |n+1,h=>by
  have ih:=uM n (by omega)
  have hfm:((dZ n).map uW).length=(dZ n).length:=List.length_map ..
  have hfw:= @wD n (by omega)
  have hNx: ∃N:Int,N=((n+1:Nat):Int):=⟨_,rfl⟩
  obtain⟨N,hN⟩:=hNx
  have hN1:N - 1=(n:Int):=by omega
  rw [<-hN]
  refine aF hty Tryz.func127 rfl (kp [0,2,3,4,5,6,7,9,19,28]) [] _ _ _ (by simp [Tryz.f127]) (by simp) ?_
  ((conv=>whnf);repeat ((first|(intro hq;try simp only [lnS]at hq)|refine sI ?_|refine .intro _ (.intro rfl ?_));(conv=>whnf)))
  rw [decide_eq_false (by omega)]
  ((conv=>whnf);repeat ((first|(intro hq;try simp only [lnS]at hq)|refine sI ?_|refine .intro _ (.intro rfl ?_));(conv=>whnf)))
  rw [hN1]
  ((conv=>whnf);repeat ((first|(refine aA [] ih trivial (λr hs=> ?_);subst hs)|(intro hq;try simp only [lnS]at hq)|refine sI ?_|refine .intro _ (.intro rfl ?_));(conv=>whnf)))
  refine aJ hty (λi:Nat=>([(0, .d (.int .i64 N)),(3, .osl 12 1 ((aDi n i 0).map uW)),(4, .d (.sl 1 ((dZ n).map uW))),(5, .d (.int .i64 i))],[(12, .own 151 1 ((aDi n i 0).map uW).length)])) (λi=>i<=(dZ n).length) (λi=>(dZ n).length - i) 0 (Nat.zero_le _) ⟨by repeat' (first|exact trivial|exact rfl|refine And.intro ?_ ?_),by repeat' (first|exact trivial|exact rfl|refine And.intro ?_ ?_)⟩ ?_
  intro i hi
  ((conv=>whnf);repeat ((first|(intro hq;try simp only [lnS]at hq)|refine sI ?_|refine .intro _ (.intro rfl ?_));(conv=>whnf)))
  rw [hfm]
  refine aC (λh1=> ?_) (λh1=> ?_)
  ·have hil:i < (dZ n).length:=by omega
   have hrow:((dZ n).map uW)[((i:Nat):Int).toNat]? =some (uW (dZ n)[i]):=aO hil
   have hwl:(dZ n)[i].length=n:=qD (List.getElem_mem hil)
   have hst:= λk=> @aLd n i k hil
   have hnx:= @aLe n i hil
   generalize (dZ n)[i]=w at *
   have hwm:(w.map nR).length=n:=by rw [List.length_map,hwl]
   have hta:(w.map nR).take w.length=w.map nR:=List.take_of_length_le (by simp)
   rw [show uW w=[.sl 1 (w.map nR)]from rfl]at hrow
   ((conv=>whnf);repeat ((first|(intro hq;try simp only [lnS]at hq)|refine sI ?_|refine .intro _ (.intro rfl ?_));(conv=>whnf)))
   refine aJ hty (λk:Nat=>([(0, .d (.int .i64 N)),(3, .osl 12 1 ((aDi n i k).map uW)),(4, .d (.sl 1 ((dZ n).map uW))),(5, .d (.int .i64 i)),(6, .d (.int .i64 k))],[(12, .own 151 1 ((aDi n i k).map uW).length)])) (λk=>k<=n+1) (λk=>n+1 - k) 0 (Nat.zero_le _) ⟨by repeat' (first|exact trivial|exact rfl|refine And.intro ?_ ?_),by repeat' (first|exact trivial|exact rfl|refine And.intro ?_ ?_)⟩ ?_
   intro k hk
   ((conv=>whnf);repeat ((first|(refine⟨_,hrow, ?_⟩)|(intro hq;try simp only [lnS]at hq)|refine sI ?_|refine .intro _ (.intro rfl ?_));(conv=>whnf)))
   rw [hwm]
   refine aC (λh2=> ?_) (λh2=> ?_)
   ·have hkl:k<=n:=by omega
    have hst:=hst k
    have hul:((aDi n i k).map uW).length<=50000:=by rw [List.length_map];exact aOt (by omega) hi hk
    have hx:uW (aNl n w k)=[.sl 1 ((w.map nR).take k++nR n::(w.map nR).drop k)]:=by
     unfold uW aNl
     rw [List.map_append,List.map_take,List.map_cons,List.map_drop]
    have hsm:(aDi n i (k+1)).map uW=(aDi n i k).map uW++[uW (aNl n w k)]:=by rw [hst,List.map_append];rfl
    rw [hx]at hsm
    generalize (aDi n i k).map uW=out at *
    ((conv=>whnf);repeat ((first|(intro hq;try simp only [lnS]at hq)|refine sI ?_|refine .intro _ (.intro rfl ?_));(conv=>whnf)))
    refine aL.midE (λrows=>rows=(w.map nR).take k++nR n::(w.map nR).drop k) (λrows=>[(0, .d (.int .i64 N)),(3, .osl 12 1 out),(4, .d (.sl 1 ((dZ n).map uW))),(5, .d (.int .i64 i)),(6, .d (.int .i64 k)),(7, .d (.sl 1 rows))]) (λ_=>[(12, .own 151 1 out.length)]) ?_ ?_
    ·(refine aX (id:=11) hty (.first 1 (.first 2 (.first 3 (.first 4 (.first 5 (.first 6 (.first 8 (.first 9 (.first 12 (.first 13 (.first 14 (.first 15 (.first 16 (.first 17 (.alt 0 (.alt 7 (.alt 10 (.alt 11 (.alt 18 (.first 19 .done) .stop) .stop) .stop) (.alt 10 (.alt 7 (.alt 11 (.alt 18 (.first 19 .done) .stop) .stop) .stop) .stop)) (.alt 10 (.alt 0 (.alt 7 (.alt 11 (.alt 18 (.first 19 .done) .stop) .stop) .stop) .stop) .stop)))))))))))))))) (by kernel_rfl) (by kernel_rfl) ?_)
     ((conv=>whnf);repeat' ((first|(intro hq;(try simp only [lnS]at hq);(try rewrite [List.length_map]))|refine sJ ?_|refine .intro _ (.intro rfl ?_)|refine exL (k:= ?_)|(refine⟨_,hrow, ?_⟩)|(refine And.intro (by simp only [List.length_replicate,List.length_drop,List.length_take,List.length_map,List.length_append,List.length_cons,List.length_nil];omega) ?_)|exact trivial|(refine And.intro ?_ ?_)|refine dwR ?_|((first|refine aC ?_ ?_|refine aD ?_ ?_)<;>intro hb<;>(first|exact ddX hb|try simp only [lnS]at hb))|(refine aB ?_ ?_<;>intro hb<;>try exact dsX hb))<;>(conv=>whnf)))
     all_goals
      refine⟨_,⟨by repeat' (first|exact trivial|exact rfl|refine And.intro ?_ ?_),by repeat' (first|exact trivial|exact rfl|refine And.intro ?_ ?_)⟩, ?_⟩
      rw [hN1]
      simp [hta,nR]
    ·rintro rows rfl
     ((conv=>whnf);repeat ((first|(intro hq;try simp only [lnS]at hq)|refine sI ?_|refine .intro _ (.intro rfl ?_));(conv=>whnf)))
     refine⟨k+1,by dsimp only;omega,by dsimp only;omega, ?_⟩
     dsimp only
     rw [hsm]
     exact⟨by repeat' (first|exact trivial|exact rfl|refine And.intro ?_ ?_),by repeat' (first|exact trivial|exact rfl|(rw [List.length_append];exact rfl)|refine And.intro ?_ ?_)⟩
   ·have hkn:k=n+1:=by omega
    subst hkn
    ((conv=>whnf);repeat ((first|(intro hq;try simp only [lnS]at hq)|refine sI ?_|refine .intro _ (.intro rfl ?_));(conv=>whnf)))
    refine⟨i+1,by dsimp only;omega,by dsimp only;omega, ?_⟩
    dsimp only
    rw [<-hnx]
    exact⟨by repeat' (first|exact trivial|exact rfl|refine And.intro ?_ ?_),by repeat' (first|exact trivial|exact rfl|refine And.intro ?_ ?_)⟩
  ·have hil:i=(dZ n).length:=by omega
   subst hil
   rw [aOu]
   ((conv=>whnf);repeat ((first|(intro hq;try simp only [lnS]at hq)|refine sI ?_|refine .intro _ (.intro rfl ?_));(conv=>whnf)))
   rfl
end Go.Proofs.YtdjfkmkdkclahaaGreatDoor
