/-
  Queries, the reference: the tidy form; terms replaced. Queries, the reference, plainly: all orders of numbers; the least form; terms replaced. Queries, the reference: lists of atoms in order; terms replaced. Queries, the reference: all orders of numbers. The reference's queries: variables, individuals, terms; the error of an atom. The reference's queries: atoms, parts and their variables.
  Conditions: none.
-/
import Derived.Test.YtdjfkmkdkclahaaGreatDoorWSzf
import Derived.Test.YtdjfkmkdkclahaaGreatDoorWOh
import Derived.Test.YtdjfkmkdkclahaaGreatDoorWSza
import Derived.Test.YtdjfkmkdkclahaaGreatDoorWQqg
import Derived.Test.YtdjfkmkdkclahaaGreatDoorWQqa
import Derived.Test.YtdjfkmkdkclahaaGreatDoorWXv
set_option linter.unnecessarySimpa false
set_option linter.unusedSectionVars false
set_option linter.unusedSimpArgs false
set_option linter.unusedVariables false
set_option maxHeartbeats 16000000
namespace Go.Proofs.YtdjfkmkdkclahaaGreatDoor
section
open Go.Proofs Go.RowKit
set_option maxRecDepth 10000
attribute [local irreducible] aH aF Tri aD YVC bO aP
theorem aFw {a:At}: ∀{l:List At}{n:Nat},n<=l.length->(∀x∈l.take n,bE x a < 0)->(∀h:n < l.length,¬ bE l[n] a < 0)->nQ a l=if ∃h:n < l.length,l[n]=a then l else l.take n++a::l.drop n
 | [],n,hn,_,_=>by
  obtain rfl:n=0:=by simpa using hn
  rw [if_neg (by rintro⟨h,_⟩;simp at h)]
  rfl
 |b::r,0,_,_,hs=>by
  have hb:=hs (by simp)
  have hb:¬ bE b a < 0:=hb
  rw [nQ,if_neg hb]
  by_cases h0:bE b a=0
  ·rw [if_pos h0,if_pos ⟨by simp,wD h0⟩]
  ·rw [if_neg h0,if_neg (by rintro⟨_,h⟩;exact h0 (dG.2 h))]
   rfl
 |b::r,n+1,hn,hb,hs=>by
  have h1:bE b a < 0:=hb b (by simp)
  have ih := aFw (a := a) (l := r) (n := n) (by simpa using hn) (λx hx => hb x (by simp [hx])) (λh => by
   have:=hs (by simpa using h)
   simpa using this)
  rw [nQ,if_pos h1,ih]
  by_cases h: ∃h:n < r.length,r[n]=a
  ·rw [if_pos h,if_pos]
   obtain⟨h2,h3⟩:=h
   exact⟨by simpa using h2,by simpa using h3⟩
  ·rw [if_neg h,if_neg]
   ·rfl
   ·rintro⟨h2,h3⟩
    exact h ⟨by simpa using h2,by simpa using h3⟩
def aDq (l:List At):List At:=l.foldl (λout a=>nQ a out) []
theorem zV: ∀(l out:List At),out.Pairwise (λx y=>bE x y < 0)->(l.foldl (λout a=>nQ a out) out).Pairwise (λx y=>bE x y < 0)/\(∀x,x∈l.foldl (λout a=>nQ a out) out↔x∈l\/x∈out)/\(l.foldl (λout a=>nQ a out) out).length<=l.length+out.length
 | [],out,h=>⟨h,by simp,by simp⟩
 |a::r,out,h=>by
  obtain⟨h1,h2,h3⟩:=zV r (nQ a out) (vS h)
  have:=vT a out
  refine⟨h1,λx=> ?_,by rw [List.foldl_cons,List.length_cons];omega⟩
  rw [List.foldl_cons,h2,oG,List.mem_cons]
  constructor
  ·rintro(h|h|h)
   ·exact .inl (.inr h)
   ·exact .inl (.inl h)
   ·exact .inr h
  ·rintro((h|h)|h)
   ·exact .inr (.inl h)
   ·exact .inl h
   ·exact .inr (.inr h)
theorem aKo (l:List At):aDq l=lV l:=by
 obtain⟨h1,h2,_⟩:=zV l [] .nil
 have h:IsTid l (aDq l):=uV h1 λx=>by rw [aDq,h2];simp
 exact h.uniq (iN l) λ_=>Iff.rfl
theorem aEg (l:List At) (a:At):aDq (l++[a])=nQ a (aDq l):=by unfold aDq;rw [List.foldl_append];rfl
theorem xM (l:List At) (hl:l.length<=100000):Tri Tryz.prog 128 [.d (.agg (aI l))] [] (λr=>r= .d (.agg (aI (lV l)))):=by
 have hc:=iT
 have hlm:(l.map atR).length=l.length:=List.length_map ..
 rw [<-aKo]
 rw [show aI l=[.sl 6 (l.map atR)]from rfl]
 refine Tri.says ?_
 refine qG [1] hty Tryz.func128 [0,1,2,3,4,5,11,30,48] ?_
 ((conv=>whnf);repeat ((first |(intro hq;try simp only [lnS]at hq)|refine sI ?_|refine qE_ ?_);conv=>whnf))
 refine aG hty (λj:Nat=>([(1, .ea 1 [[.sl 6 (l.map atR)]] 0 0),(2, .ptr 2 0),(3, .d (.sl 6 ((aDq (l.take j)).map atR))),(4, .d (.int .i64 j))],[(2, .cells 35 [.d .nil])])) (λj=>j<=l.length) (λj=>l.length - j) 0 (Nat.zero_le _) ⟨qB,qB⟩ ?_
 intro j hj
 ((conv=>whnf);repeat ((first |(intro hq;try simp only [lnS]at hq)|refine sI ?_|refine qE_ ?_);conv=>whnf))
 rw [hlm]
 refine aB (λh1=> ?_) (λh1=> ?_)
 ·have hjl:j < l.length:=by omega
  have hrow:(l.map atR)[((j:Nat):Int).toNat]? =some (atR l[j]):=aK hjl
  have hts:aDq (l.take (j+1))=nQ l[j] (aDq (l.take j)):=by rw [List.take_succ_eq_append_getElem hjl,aEg]
  have hol:(aDq (l.take j)).length<=100000:=by
   have:=(zV (l.take j) [] .nil).2.2
   rw [List.length_take]at this
   have h2:(aDq (l.take j)).length<=min j l.length+([]:List At).length:=this
   simp only [List.length_nil]at h2
   omega
  generalize aDq (l.take j)=out at *
  have homl:(out.map atR).length=out.length:=List.length_map ..
  have hta:(out.map atR).take out.length=out.map atR:=List.take_of_length_le (by simp)
  ((conv=>whnf);repeat ((first |(intro hq;try simp only [lnS]at hq)|refine sI ?_|refine qE_ ?_);conv=>whnf))
  refine aG hty (λn:Nat=>([(1, .ea 1 [[.sl 6 (l.map atR)]] 0 0),(2, .ptr 2 0),(3, .d (.sl 6 (out.map atR))),(4, .d (.int .i64 j)),(5, .d (.int .i64 n))],[(2, .cells 35 [.d .nil])])) (λn=>n<=out.length/\ ∀x∈out.take n,bE x l[j] < 0) (λn=>out.length - n) 0 ⟨Nat.zero_le _,λx hx=>by simp at hx⟩ ⟨qB,qB⟩ ?_
  rintro n ⟨hn,hlt⟩
  have hins:= @aFw l[j] out n hn hlt
  rw [cT]at hrow
  ((conv=>whnf);repeat ((first |(intro hq;try simp only [lnS]at hq)|refine sI ?_|refine qE_ ?_);conv=>whnf))
  refine dwR ?_
  ((conv=>whnf);repeat ((first |(intro hq;try simp only [lnS]at hq)|refine sI ?_|refine qE_ ?_);conv=>whnf))
  rw [homl]
  by_cases h2:n < out.length
  ·have hrow2:(out.map atR)[((n:Nat):Int).toNat]? =some (atR out[n]):=aK h2
   have hcn:=hc out[n] l[j]
   have hf:=aMk out[n] l[j]
   rw [cT,cT]at hcn
   rw [cT]at hrow2
   rw [decide_eq_true (by omega)]
   ((conv=>whnf);repeat ((first|(refine⟨_,hrow2, ?_⟩)|(refine⟨_,hrow, ?_⟩)|(refine⟨.d (.int .i64 _),_,[],rfl,trivial,hcn, ?_⟩) |(intro hq;try simp only [lnS]at hq)|refine sI ?_|refine qE_ ?_);conv=>whnf))
   by_cases h3:bE out[n] l[j] < 0
   ·rw [decide_eq_true h3]
    ((conv=>whnf);repeat ((first |(intro hq;try simp only [lnS]at hq)|refine sI ?_|refine qE_ ?_);conv=>whnf))
    refine⟨n+1,⟨by omega,λx hx=> ?_⟩,qO,qB,qB⟩
    rw [List.take_succ_eq_append_getElem h2,List.mem_append,List.mem_singleton]at hx
    rcases hx with hx|rfl
    ·exact hlt x hx
    ·exact h3
   ·have hins:=hins (λ_=>h3)
    rw [decide_eq_false h3]
    ((conv=>whnf);repeat ((first |(intro hq;try simp only [lnS]at hq)|refine sI ?_|refine qE_ ?_);conv=>whnf))
    refine dwR ?_
    ((conv=>whnf);repeat ((first |(intro hq;try simp only [lnS]at hq)|refine sI ?_|refine qE_ ?_);conv=>whnf))
    rw [homl,decide_eq_true (by omega)]
    ((conv=>whnf);repeat ((first|(refine And.intro aMh ?_)|(refine⟨_,hrow2, ?_⟩)|(refine⟨_,hrow, ?_⟩) |(intro hq;try simp only [lnS]at hq)|refine sI ?_|refine qE_ ?_);conv=>whnf))
    rw [hf]
    unfold rM
    by_cases h4:out[n]=l[j]
    ·rw [if_pos ⟨h2,h4⟩]at hins
     rw [decide_eq_true h4]
     ((conv=>whnf);repeat ((first |(intro hq;try simp only [lnS]at hq)|refine sI ?_|refine qE_ ?_);conv=>whnf))
     refine⟨j+1,qO,qO, ?_⟩
     dsimp only
     rw [hts,hins]
     exact⟨qB,qB⟩
    ·rw [if_neg (by rintro⟨_,h⟩;exact h4 h)]at hins
     rw [decide_eq_false h4]
     ((conv=>whnf);repeat ((first |(intro hq;try simp only [lnS]at hq)|refine sI ?_|refine qE_ ?_);conv=>whnf))
     refine aH.midE (λrows=>rows=(nQ l[j] out).map atR) (λrows=>[(1, .ea 1 [[.sl 6 (l.map atR)]] 0 0),(2, .ptr 2 0),(3, .d (.sl 6 rows)),(4, .d (.int .i64 j))]) (λ_=>[(2, .cells 35 [.d .nil])]) ?_ ?_
     ·(refine bI (id:=9) hty (.first 1 (.first 2 (.first 3 (.first 5 (.first 6 (.first 7 (.first 8 (.first 9 (.first 12 (.first 13 (.first 14 (.alt 0 (.alt 4 (.alt 10 (.alt 11 (.alt 15 (.first 16 .done) .stop) .stop) .stop) (.alt 10 (.alt 4 (.alt 11 (.alt 15 (.first 16 .done) .stop) .stop) .stop) .stop)) (.alt 10 (.alt 0 (.alt 4 (.alt 11 (.alt 15 (.first 16 .done) .stop) .stop) .stop) .stop) .stop))))))))))))) (by kernel_rfl) (by kernel_rfl) ?_)
      ((conv=>whnf);repeat' ((first|(intro hq;(try simp only [lnS]at hq);(try rewrite [List.length_map]))|refine sJ ?_|refine qE_ ?_|refine exL (k:=?_)| (refine⟨_,hrow, ?_⟩)|(refine And.intro (by simp only [List.length_replicate,List.length_drop,List.length_take,List.length_map,List.length_append,List.length_cons,List.length_nil];omega) ?_)|exact trivial|(refine And.intro ?_ ?_)|refine dwR ?_|((first|refine aB ?_ ?_|refine aC ?_ ?_)<;>intro hb<;>(first|exact ddX hb|try simp only [lnS]at hb))|(refine aA ?_ ?_<;>intro hb<;>try exact dsX hb))<;>(conv=>whnf)))
      all_goals
       refine⟨_,⟨qB,qB⟩, ?_⟩
       rw [hins]
       simp [hta,cT,List.map_append,List.map_take,List.map_drop]
     ·rintro rows rfl
      ((conv=>whnf);repeat ((first |(intro hq;try simp only [lnS]at hq)|refine sI ?_|refine qE_ ?_);conv=>whnf))
      refine⟨j+1,qO,qO, ?_⟩
      dsimp only
      rw [hts]
      exact⟨qB,qB⟩
  ·have hins:=hins (λh=>absurd h h2)
   rw [if_neg (by rintro⟨h,_⟩;exact h2 h)]at hins
   rw [decide_eq_false (by omega)]
   ((conv=>whnf);repeat ((first |(intro hq;try simp only [lnS]at hq)|refine sI ?_|refine qE_ ?_);conv=>whnf))
   refine dwR ?_
   ((conv=>whnf);repeat ((first |(intro hq;try simp only [lnS]at hq)|refine sI ?_|refine qE_ ?_);conv=>whnf))
   rw [homl,decide_eq_false (by omega)]
   ((conv=>whnf);repeat ((first |(intro hq;try simp only [lnS]at hq)|refine sI ?_|refine qE_ ?_);conv=>whnf))
   refine aH.midE (λrows=>rows=(nQ l[j] out).map atR) (λrows=>[(1, .ea 1 [[.sl 6 (l.map atR)]] 0 0),(2, .ptr 2 0),(3, .d (.sl 6 rows)),(4, .d (.int .i64 j))]) (λ_=>[(2, .cells 35 [.d .nil])]) ?_ ?_
   ·(refine bI (id:=9) hty (.first 1 (.first 2 (.first 3 (.first 5 (.first 6 (.first 7 (.first 8 (.first 9 (.first 12 (.first 13 (.first 14 (.alt 0 (.alt 4 (.alt 10 (.alt 11 (.alt 15 (.first 16 .done) .stop) .stop) .stop) (.alt 10 (.alt 4 (.alt 11 (.alt 15 (.first 16 .done) .stop) .stop) .stop) .stop)) (.alt 10 (.alt 0 (.alt 4 (.alt 11 (.alt 15 (.first 16 .done) .stop) .stop) .stop) .stop) .stop))))))))))))) (by kernel_rfl) (by kernel_rfl) ?_)
    ((conv=>whnf);repeat' ((first|(intro hq;(try simp only [lnS]at hq);(try rewrite [List.length_map]))|refine sJ ?_|refine qE_ ?_|refine exL (k:=?_)| (refine⟨_,hrow, ?_⟩)|(refine And.intro (by simp only [List.length_replicate,List.length_drop,List.length_take,List.length_map,List.length_append,List.length_cons,List.length_nil];omega) ?_)|exact trivial|(refine And.intro ?_ ?_)|refine dwR ?_|((first|refine aB ?_ ?_|refine aC ?_ ?_)<;>intro hb<;>(first|exact ddX hb|try simp only [lnS]at hb))|(refine aA ?_ ?_<;>intro hb<;>try exact dsX hb))<;>(conv=>whnf)))
    all_goals
     refine⟨_,⟨qB,qB⟩, ?_⟩
     rw [hins]
     simp [hta,cT,List.map_append,List.map_take,List.map_drop]
   ·rintro rows rfl
    ((conv=>whnf);repeat ((first |(intro hq;try simp only [lnS]at hq)|refine sI ?_|refine qE_ ?_);conv=>whnf))
    refine⟨j+1,qO,qO, ?_⟩
    dsimp only
    rw [hts]
    exact⟨qB,qB⟩
 ·have hjl:j=l.length:=by omega
  subst hjl
  rw [List.take_length]
  ((conv=>whnf);repeat ((first |(intro hq;try simp only [lnS]at hq)|refine sI ?_|refine qE_ ?_);conv=>whnf))
  exact⟨_, .refl _,rfl⟩
end
section
open Go.Proofs
def aHc (n:Nat) (r:List Nat) (k:Nat):List Nat:=r.take k++n::r.drop k
def dS:Nat->List (List Nat)
 | 0=>[[]]
 |n+1=>(dS n).flatMap λr=>(List.range (r.length+1)).map (aHc n r)
theorem aFx (n:Nat) (r:List Nat) (k:Nat):(aHc n r k).Perm (n::r):=by
 unfold aHc
 refine List.perm_middle.trans ?_
 rw [List.take_append_drop]
theorem lA: ∀{n:Nat}{r:List Nat},r∈dS n->r.Perm (List.range n)
 | 0,r,h=>by
  obtain rfl:r=[]:=by simpa [dS]using h
  exact .refl _
 |n+1,r,h=>by
  rw [dS,List.mem_flatMap]at h
  obtain⟨q,hq,h⟩:=h
  obtain⟨k,_,rfl⟩:=List.mem_map.1 h
  rw [List.range_succ]
  exact(aFx n q k).trans (((lA hq).cons n).trans (List.perm_append_singleton n (List.range n)).symm)
theorem vL: ∀{n:Nat}{w:List Nat},w.Perm (List.range n)->w∈dS n
 | 0,w,h=>by
  obtain rfl:w=[]:=h.eq_nil
  exact List.mem_cons_self
 |n+1,w,h=>by
  rw [List.range_succ]at h
  obtain⟨a,b,rfl⟩:=List.append_of_mem (h.mem_iff.2 (by simp:n∈List.range n++[n]))
  have h1:(n::(a++b)).Perm (n::List.range n):=List.perm_middle.symm.trans (h.trans (List.perm_append_singleton n (List.range n)))
  have h2:(a++b)∈dS n:=vL h1.cons_inv
  rw [dS,List.mem_flatMap]
  refine⟨_,h2,List.mem_map.2 ⟨a.length,List.mem_range.2 (by simp;omega), ?_⟩⟩
  simp [aHc]
theorem lB {n:Nat}{r:List Nat}(h:r∈dS n):r.length=n:=by rw [(lA h).length_eq,List.length_range]
theorem rG {α β:Type}{f:α->List β}{m:Nat}: ∀{l:List α},(∀x∈l,(f x).length=m)->(l.flatMap f).length=l.length * m
 | [],_=>by simp
 |x::l,h=>by
  rw [List.flatMap_cons,List.length_append,rG (l:=l) λy hy=>h y (List.mem_cons_of_mem _ hy),h x List.mem_cons_self,List.length_cons,Nat.add_mul]
  omega
theorem xT: ∀n:Nat,(dS (n+1)).length=(dS n).length * (n+1):= λn=>by
 rw [dS,rG (m:=n+1)]
 intro x hx
 rw [List.length_map,List.length_range,lB hx]
theorem aLy (L:Nat->Nat) (h0:L 0=1) (hs: ∀n,L (n+1)=L n * (n+1)) {n:Nat}(h:n<=8):L n<=40320:=by
 have h1:L 1=L 0 * 1:=hs 0
 have h2:L 2=L 1 * 2:=hs 1
 have h3:L 3=L 2 * 3:=hs 2
 have h4:L 4=L 3 * 4:=hs 3
 have h5:L 5=L 4 * 5:=hs 4
 have h6:L 6=L 5 * 6:=hs 5
 have h7:L 7=L 6 * 7:=hs 6
 have h8:L 8=L 7 * 8:=hs 7
 have e:n=0\/n=1\/n=2\/n=3\/n=4\/n=5\/n=6\/n=7\/n=8:=by omega
 rcases e with rfl|rfl|rfl|rfl|rfl|rfl|rfl|rfl|rfl<;>omega
theorem oC {n:Nat}(h:n<=8):(dS n).length<=40320:=aLy (λn=>(dS n).length) rfl xT h
def wJ (n i k:Nat):List (List Nat):=((dS n).take i).flatMap (λr=>(List.range (r.length+1)).map (aHc n r))++(List.range k).map (aHc n ((dS n)[i]?.getD []))
theorem aF8 {n i k:Nat}(hi:i < (dS n).length):wJ n i (k+1)=wJ n i k++[aHc n (dS n)[i] k]:=by
 unfold wJ
 rw [List.range_succ,List.map_append,<-List.append_assoc,List.getElem?_eq_getElem hi]
 rfl
theorem aF9 {n i:Nat}(hi:i < (dS n).length):wJ n i (n+1)=wJ n (i+1) 0:=by
 unfold wJ
 rw [List.take_succ_eq_append_getElem hi,List.flatMap_append,List.getElem?_eq_getElem hi,List.flatMap_cons,List.flatMap_nil,List.append_nil]
 have:=lB (List.getElem_mem hi)
 simp [this]
theorem aId (n:Nat):wJ n (dS n).length 0=dS (n+1):=by
 unfold wJ
 rw [List.take_length,dS]
 simp
theorem aIc {n i k:Nat}(hn:n<=7) (hi:i<=(dS n).length) (hk:k<=n+1):(wJ n i k).length<=50000:=by
 unfold wJ
 have h2:=oC (n:=n) (by omega)
 have h3:=xT n
 have h4:=oC (n:=n+1) (by omega)
 rw [List.length_append,List.length_map,List.length_range,rG (m:=n+1)]
 ·rw [List.length_take,Nat.min_eq_left hi]
  have:i * (n+1)<=(dS n).length * (n+1):=Nat.mul_le_mul_right _ hi
  omega
 ·intro x hx
  rw [List.length_map,List.length_range,lB (List.mem_of_mem_take hx)]
def tE (p:List At) (H:List bG) (ws:List (List Nat)):Option (List At):=ws.foldl (λo w=>match o with|none=>some (dB p H w)|some b=>if bH bE (dB p H w) b < 0 then some (dB p H w)else some b) none
theorem uI (p:List At) (H:List bG) (ws:List (List Nat)) (w:List Nat):tE p H (ws++[w])=match tE p H ws with|none=>some (dB p H w)|some b=>if bH bE (dB p H w) b < 0 then some (dB p H w)else some b:=by
 unfold tE
 rw [List.foldl_append]
 rfl
theorem wC (p:List At) (H:List bG): ∀n (ws:List (List Nat)),ws.length=n->(n=0/\tE p H ws=none)\/ ∃b,tE p H ws=some b/\(∃w∈ws,b=dB p H w)/\ ∀w∈ws,bH bE b (dB p H w)<=0
 | 0,ws,h=>by
  obtain rfl:=List.eq_nil_of_length_eq_zero h
  exact .inl ⟨rfl,rfl⟩
 |n+1,ws,h=>by
  have hne:ws≠[]:=by rintro rfl;simp at h
  obtain⟨l,w,rfl⟩: ∃l w,ws=l++[w]:=⟨ws.dropLast,ws.getLast hne,(List.dropLast_concat_getLast hne).symm⟩
  rw [uI]
  have hl:=eO (α:=At) bC
  right
  rcases wC p H n l (by simpa using h)with⟨rfl,e⟩|⟨b,e,⟨v,hv,hb⟩,hle⟩
  ·rw [e]
   obtain rfl:l=[]:=List.eq_nil_of_length_eq_zero (by simpa using h)
   refine⟨_,rfl,⟨w,by simp,rfl⟩,λu hu=> ?_⟩
   obtain rfl:u=w:=by simpa using hu
   rw [hl.refl];omega
  ·rw [e]
   by_cases hc:bH bE (dB p H w) b < 0
   ·refine⟨dB p H w,if_pos hc,⟨w,by simp,rfl⟩,λu hu=> ?_⟩
    rcases List.mem_append.1 hu with hu|hu
    ·exact hl.le_tr (by omega) (hle u hu)
    ·obtain rfl:u=w:=by simpa using hu
     rw [hl.refl];omega
   ·refine⟨b,if_neg hc,⟨v,by simp [hv],hb⟩,λu hu=> ?_⟩
    rcases List.mem_append.1 hu with hu|hu
    ·exact hle u hu
    ·obtain rfl:u=w:=by simpa using hu
     have:=gR bC b (dB p H u)
     omega
theorem aGt {p:List At}{H:List bG}(hn:H.Nodup) (hm: ∀s,s∈H↔s∈aQ p) (hN:(aQ p).length<=8):tE p H (dS H.length)=some (dU p):=by
 rcases wC p H _ (dS H.length) rfl with⟨h0,_⟩|⟨b,e,⟨w,hw,hb⟩,hle⟩
 ·have:=vL (n:=H.length) (.refl _)
  rw [List.eq_nil_of_length_eq_zero h0]at this
  cases this
 ·rw [e,aGo hn hm hN ⟨⟨w,lA hw,hb⟩,λv hv=>hle v (vL hv)⟩]
theorem aG4 {h t:bG}: ∀{H T:List bG}{s:bG},T.length=H.length->h∉H->gV (H++[h]) (T++[t]) s=if s=h then t else gV H T s
 | [],T,s,hl,_=>by
  obtain rfl:=List.eq_nil_of_length_eq_zero hl
  by_cases e:s=h
  ·rw [if_pos e];simp [gV,e]
  ·rw [if_neg e];simp [gV,e]
 |v::H,[],s,hl,_=>by simp at hl
 |v::H,u::T,s,hl,hn=>by
  have ih:=aG4 (h:=h) (t:=t) (H:=H) (T:=T) (s:=s) (by simpa using hl) (λq=>hn (List.mem_cons_of_mem _ q))
  rw [List.cons_append,List.cons_append,gV,gV,ih]
  by_cases e:s=v
  ·have:¬ s=h:= λe2=>hn (by rw [<-e2,e];exact List.mem_cons_self)
   rw [if_pos e,if_neg this,if_pos e]
  ·rw [if_neg e,if_neg e]
theorem aG3 {H T:List bG}{s:bG}{k:Nat}(hH:H.Nodup) (hT:T.length=H.length) (hk:k < H.length):gV (H.take (k+1)) (T.take (k+1)) s=if s=H[k]then T[k]'(by omega)else gV (H.take k) (T.take k) s:=by
 rw [List.take_succ_eq_append_getElem hk,List.take_succ_eq_append_getElem (by omega:k < T.length)]
 refine aG4 (by rw [List.length_take,List.length_take,hT]) ?_
 intro hm
 obtain⟨j,hj,e⟩:=List.mem_iff_getElem.1 hm
 rw [List.getElem_take]at e
 have hj2:j < k:=by rw [List.length_take]at hj;omega
 exact absurd e ((List.pairwise_iff_getElem.1 hH) j k (by omega) hk hj2)
end
section
open Go.Proofs Go.RowKit
set_option maxRecDepth 10000
attribute [local irreducible] aH aF Tri aD YVC bO aP
theorem xO (l m:List At):Tri Tryz.prog 130 [.d (.sl 6 (l.map atR)), .d (.sl 6 (m.map atR))] [] (λr=>r= .d (.bool (decide (bH bE l m < 0)))):=by
 have hl:(l.map atR).length=l.length:=List.length_map ..
 have hm:(m.map atR).length=m.length:=List.length_map ..
 refine qG [] hty Tryz.func130 [0,1,4,5,15,26] ?_
 ((conv=>whnf);repeat ((first |(intro hq;try simp only [lnS]at hq)|refine sI ?_|refine qE_ ?_);conv=>whnf))
 refine aG hty (λj:Nat=>([(0, .d (.sl 6 (l.map atR))),(1, .d (.sl 6 (m.map atR))),(5, .d (.int .i64 j))],[])) (λj=>j<=l.length/\j<=m.length/\bH bE l m=bH bE (l.drop j) (m.drop j)) (λj=>l.length - j) 0 ⟨by omega,by omega,rfl⟩ ⟨qB,qB⟩ ?_
 rintro j ⟨hj,hjm,hn⟩
 ((conv=>whnf);repeat ((first |(intro hq;try simp only [lnS]at hq)|refine sI ?_|refine qE_ ?_);conv=>whnf))
 rw [hl]
 refine aB (λh1=> ?_) (λh1=> ?_)
 ·have hjl:j < l.length:=by omega
  have hrow:(l.map atR)[((j:Nat):Int).toNat]? =some (atR l[j]):=aK hjl
  rw [List.drop_eq_getElem_cons hjl]at hn
  ((conv=>whnf);repeat ((first |(intro hq;try simp only [lnS]at hq)|refine sI ?_|refine qE_ ?_);conv=>whnf))
  rw [hm]
  refine aB (λh2=> ?_) (λh2=> ?_)
  ·have hjm2:j < m.length:=by omega
   have hrow2:(m.map atR)[((j:Nat):Int).toNat]? =some (atR m[j]):=aK hjm2
   have hi:=iT l[j] m[j]
   have hf:=aMk l[j] m[j]
   rw [cT,cT]at hi
   rw [cT]at hrow
   rw [cT]at hrow2
   rw [List.drop_eq_getElem_cons hjm2,bH]at hn
   ((conv=>whnf);repeat ((first |(intro hq;try simp only [lnS]at hq)|refine sI ?_|refine qE_ ?_);conv=>whnf))
   refine dwR ?_
   ((conv=>whnf);repeat ((first|(refine And.intro aMh ?_)|(refine⟨_,hrow, ?_⟩)|(refine⟨_,hrow2, ?_⟩) |(intro hq;try simp only [lnS]at hq)|refine sI ?_|refine qE_ ?_);conv=>whnf))
   rw [hf]
   unfold rM
   by_cases he:l[j]=m[j]
   ·rw [decide_eq_true he]
    rw [if_neg (by rw [dG.2 he];decide)]at hn
    ((conv=>whnf);repeat ((first |(intro hq;try simp only [lnS]at hq)|refine sI ?_|refine qE_ ?_);conv=>whnf))
    exact⟨j+1,⟨by omega,by omega,hn⟩,qO,qB,trivial⟩
   ·rw [decide_eq_false he]
    rw [if_pos (λh=>he (dG.1 h))]at hn
    ((conv=>whnf);repeat ((first |(intro hq;try simp only [lnS]at hq)|refine sI ?_|refine qE_ ?_);conv=>whnf))
    refine dwR ?_
    ((conv=>whnf);repeat ((first|(refine⟨_,hrow, ?_⟩)|(refine⟨_,hrow2, ?_⟩)|(refine⟨.d (.int .i64 _),_,[],rfl,trivial,hi, ?_⟩) |(intro hq;try simp only [lnS]at hq)|refine sI ?_|refine qE_ ?_);conv=>whnf))
    rw [hn]
    rfl
  ·have hjm2:m.drop j=[]:=List.drop_eq_nil_of_le (by omega)
   rw [hjm2,bH]at hn
   ((conv=>whnf);repeat ((first |(intro hq;try simp only [lnS]at hq)|refine sI ?_|refine qE_ ?_);conv=>whnf))
   rw [hn]
   refine aJ ?_
   rw [hl,hm,decide_eq_false (by omega),decide_eq_false (by decide)]
 ·have hjl:j=l.length:=by omega
  subst hjl
  rw [List.drop_length]at hn
  ((conv=>whnf);repeat ((first |(intro hq;try simp only [lnS]at hq)|refine sI ?_|refine qE_ ?_);conv=>whnf))
  by_cases h2:l.length < m.length
  ·rw [List.drop_eq_getElem_cons h2,bH]at hn
   rw [hn]
   refine aJ ?_
   rw [hl,hm,decide_eq_true (by omega),decide_eq_true (by decide)]
  ·have hjm2:m.drop l.length=[]:=List.drop_eq_nil_of_le (by omega)
   rw [hjm2,bH]at hn
   rw [hn]
   refine aJ ?_
   rw [hl,hm,decide_eq_false (by omega),decide_eq_false (by decide)]
theorem vE (p:List At) (H T:List bG) (hH:H.Nodup) (hT:T.length=H.length) (hp:p.length<=100000):Tri Tryz.prog 129 [.d (.agg (aI p)), .d (.sl 1 (H.map aT)), .d (.sl 1 (T.map aT))] [] (λr=>r= .d (.agg (aI (p.map (rpA (gV H T)))))):=by
 have hpm:(p.map atR).length=p.length:=List.length_map ..
 have hHm:(H.map aT).length=H.length:=List.length_map ..
 rw [show aI p=[.sl 6 (p.map atR)]from rfl]
 refine Tri.says ?_
 refine qG [3] hty Tryz.func129 [0,1,2,3,6,7,8,9,10,11,12,18,33,41,52] ?_
 ((conv=>whnf);repeat ((first |(intro hq;try simp only [lnS]at hq)|refine sI ?_|refine qE_ ?_);conv=>whnf))
 refine aG hty (λj:Nat=>([(3, .ea 1 [[.sl 6 (p.map atR)]] 0 0),(1, .d (.sl 1 (H.map aT))),(2, .d (.sl 1 (T.map aT))),(6, .ptr 6 0),(7, .osl 13 6 ((p.take j).map (λa=>atR (rpA (gV H T) a)))),(8, .d (.int .i64 j))],[(13, .own 60 6 ((p.take j).map (λa=>atR (rpA (gV H T) a))).length),(6, .cells 35 [.d .nil])])) (λj=>j<=p.length) (λj=>p.length - j) 0 (Nat.zero_le _) ⟨qB,qB⟩ ?_
 intro j hj
 ((conv=>whnf);repeat ((first |(intro hq;try simp only [lnS]at hq)|refine sI ?_|refine qE_ ?_);conv=>whnf))
 rw [hpm]
 refine aB (λh1=> ?_) (λh1=> ?_)
 ·have hjl:j < p.length:=by omega
  have hrow:(p.map atR)[((j:Nat):Int).toNat]? =some (atR p[j]):=aK hjl
  have hts:(p.take (j+1)).map (λa=>atR (rpA (gV H T) a))=(p.take j).map (λa=>atR (rpA (gV H T) a))++[atR (rpA (gV H T) p[j])]:=by rw [List.take_succ_eq_append_getElem hjl,List.map_append];rfl
  have hol:((p.take j).map (λa=>atR (rpA (gV H T) a))).length<=100000:=by rw [List.length_map,List.length_take];omega
  generalize (p.take j).map (λa=>atR (rpA (gV H T) a))=out at *
  generalize p[j]=a at *
  obtain⟨kd,nm,x,y,lo,hi⟩:=a
  rw [cT]at hrow
  dsimp only at hrow
  ((conv=>whnf);repeat ((first|(refine⟨_,hrow, ?_⟩) |(intro hq;try simp only [lnS]at hq)|refine sI ?_|refine qE_ ?_);conv=>whnf))
  refine aG hty (λk:Nat=>([(3, .ea 1 [[.sl 6 (p.map atR)]] 0 0),(1, .d (.sl 1 (H.map aT))),(2, .d (.sl 1 (T.map aT))),(6, .ptr 6 0),(7, .osl 13 6 out),(8, .d (.int .i64 j)),(9, .ptr 9 0),(10, .d (.str x)),(11, .d (.str y)),(12, .d (.int .i64 k))],[(13, .own 60 6 out.length),(6, .cells 35 [.d .nil]),(9, .cells 60 [.d (.int .i64 kd), .d (.str nm), .d (.str (gV (H.take k) (T.take k) x)), .d (.str (gV (H.take k) (T.take k) y)), .d (.int .i64 lo), .d (.int .i64 hi)])])) (λk=>k<=H.length) (λk=>H.length - k) 0 (Nat.zero_le _) ⟨qB,qB⟩ ?_
  intro k hk
  ((conv=>whnf);repeat ((first |(intro hq;try simp only [lnS]at hq)|refine sI ?_|refine qE_ ?_);conv=>whnf))
  rw [hHm]
  refine aB (λh2=> ?_) (λh2=> ?_)
  ·have hkl:k < H.length:=by omega
   have hkt:k < T.length:=by omega
   have hrH:(H.map aT)[((k:Nat):Int).toNat]? =some (aT H[k]):=aK hkl
   have hrT:(T.map aT)[((k:Nat):Int).toNat]? =some (aT T[k]):=aK hkt
   have gx:=aG3 (s:=x) hH hT hkl
   have gy:=aG3 (s:=y) hH hT hkl
   rw [show aT H[k]=[.str H[k]]from rfl]at hrH
   rw [show aT T[k]=[.str T[k]]from rfl]at hrT
   generalize gV (H.take k) (T.take k) x=u at *
   generalize gV (H.take k) (T.take k) y=v at *
   ((conv=>whnf);repeat ((first|(refine⟨_,hrH, ?_⟩) |(intro hq;try simp only [lnS]at hq)|refine sI ?_|refine qE_ ?_);conv=>whnf))
   by_cases hx:x=H[k]
   ·rw [if_pos hx]at gx
    rw [decide_eq_true hx]
    ((conv=>whnf);repeat ((first|(refine⟨_,hrT, ?_⟩)|(refine⟨_,hrH, ?_⟩) |(intro hq;try simp only [lnS]at hq)|refine sI ?_|refine qE_ ?_);conv=>whnf))
    by_cases hy:y=H[k]
    ·rw [if_pos hy]at gy
     rw [decide_eq_true hy]
     ((conv=>whnf);repeat ((first|(refine⟨_,hrT, ?_⟩) |(intro hq;try simp only [lnS]at hq)|refine sI ?_|refine qE_ ?_);conv=>whnf))
     refine⟨k+1,qO,qO, ?_⟩
     dsimp only
     rw [gx,gy]
     exact⟨qB,qB⟩
    ·rw [if_neg hy]at gy
     rw [decide_eq_false hy]
     ((conv=>whnf);repeat ((first|(refine⟨_,hrT, ?_⟩) |(intro hq;try simp only [lnS]at hq)|refine sI ?_|refine qE_ ?_);conv=>whnf))
     refine⟨k+1,qO,qO, ?_⟩
     dsimp only
     rw [gx,gy]
     exact⟨qB,qB⟩
   ·rw [if_neg hx]at gx
    rw [decide_eq_false hx]
    ((conv=>whnf);repeat ((first|(refine⟨_,hrT, ?_⟩)|(refine⟨_,hrH, ?_⟩) |(intro hq;try simp only [lnS]at hq)|refine sI ?_|refine qE_ ?_);conv=>whnf))
    by_cases hy:y=H[k]
    ·rw [if_pos hy]at gy
     rw [decide_eq_true hy]
     ((conv=>whnf);repeat ((first|(refine⟨_,hrT, ?_⟩) |(intro hq;try simp only [lnS]at hq)|refine sI ?_|refine qE_ ?_);conv=>whnf))
     refine⟨k+1,qO,qO, ?_⟩
     dsimp only
     rw [gx,gy]
     exact⟨qB,qB⟩
    ·rw [if_neg hy]at gy
     rw [decide_eq_false hy]
     ((conv=>whnf);repeat ((first|(refine⟨_,hrT, ?_⟩) |(intro hq;try simp only [lnS]at hq)|refine sI ?_|refine qE_ ?_);conv=>whnf))
     refine⟨k+1,qO,qO, ?_⟩
     dsimp only
     rw [gx,gy]
     exact⟨qB,qB⟩
  ·have hkl:k=H.length:=by omega
   subst hkl
   rw [List.take_length,<-hT,List.take_length]
   ((conv=>whnf);repeat ((first |(intro hq;try simp only [lnS]at hq)|refine sI ?_|refine qE_ ?_);conv=>whnf))
   refine⟨j+1,qO,qO, ?_⟩
   dsimp only
   rw [hts]
   exact⟨qB,by repeat' (first|exact trivial|exact rfl|(rw [List.length_append];exact rfl)|refine And.intro ?_ ?_)⟩
 ·have hjl:j=p.length:=by omega
  subst hjl
  rw [List.take_length]
  ((conv=>whnf);repeat ((first |(intro hq;try simp only [lnS]at hq)|refine sI ?_|refine qE_ ?_);conv=>whnf))
  rw [show aI (p.map (rpA (gV H T)))=[.sl 6 (p.map (λa=>atR (rpA (gV H T) a)))]from by unfold aI;rw [List.map_map];rfl]
  exact⟨_, .refl _,rfl⟩
end
section
open Go.Proofs Go.RowKit
set_option maxRecDepth 10000
attribute [local irreducible] aH aF Tri aD YVC bO aP
def nR (n:Nat):List D:=[.int .i64 n]
def nI (w:List Nat):List D:=[.sl 1 (w.map nR)]
theorem mW: ∀n:Nat,n<=8->Tri Tryz.prog 127 [.d (.int .i64 n)] [] (λr=>r= .d (.sl 1 ((dS n).map nI)))
 | 0,_=>by
  refine qG [] hty Tryz.func127 [0,2,3,4,5,6,7,9,19,28] ?_
  ((conv=>whnf);repeat ((first |(intro hq;try simp only [lnS]at hq)|refine sI ?_|refine qE_ ?_);conv=>whnf))
  rfl
 |n+1,h=>by
  have ih:=mW n (by omega)
  have hfm:((dS n).map nI).length=(dS n).length:=List.length_map ..
  have hfw:= @oC n (by omega)
  have hNx: ∃N:Int,N=((n+1:Nat):Int):=⟨_,rfl⟩
  obtain⟨N,hN⟩:=hNx
  have hN1:N - 1=(n:Int):=by omega
  rw [<-hN]
  refine qG [] hty Tryz.func127 [0,2,3,4,5,6,7,9,19,28] ?_
  ((conv=>whnf);repeat ((first |(intro hq;try simp only [lnS]at hq)|refine sI ?_|refine qE_ ?_);conv=>whnf))
  rw [decide_eq_false (by omega)]
  ((conv=>whnf);repeat ((first |(intro hq;try simp only [lnS]at hq)|refine sI ?_|refine qE_ ?_);conv=>whnf))
  rw [hN1]
  ((conv=>whnf);repeat ((first|refine qT ih ?_ |(intro hq;try simp only [lnS]at hq)|refine sI ?_|refine qE_ ?_);conv=>whnf))
  refine aG hty (λi:Nat=>([(0, .d (.int .i64 N)),(3, .osl 12 1 ((wJ n i 0).map nI)),(4, .d (.sl 1 ((dS n).map nI))),(5, .d (.int .i64 i))],[(12, .own 151 1 ((wJ n i 0).map nI).length)])) (λi=>i<=(dS n).length) (λi=>(dS n).length - i) 0 (Nat.zero_le _) ⟨qB,qB⟩ ?_
  intro i hi
  ((conv=>whnf);repeat ((first |(intro hq;try simp only [lnS]at hq)|refine sI ?_|refine qE_ ?_);conv=>whnf))
  rw [hfm]
  refine aB (λh1=> ?_) (λh1=> ?_)
  ·have hil:i < (dS n).length:=by omega
   have hrow:((dS n).map nI)[((i:Nat):Int).toNat]? =some (nI (dS n)[i]):=aK hil
   have hwl:(dS n)[i].length=n:=lB (List.getElem_mem hil)
   have hst:= λk=> @aF8 n i k hil
   have hnx:= @aF9 n i hil
   generalize (dS n)[i]=w at *
   have hwm:(w.map nR).length=n:=by rw [List.length_map,hwl]
   have hta:(w.map nR).take w.length=w.map nR:=List.take_of_length_le (by simp)
   rw [show nI w=[.sl 1 (w.map nR)]from rfl]at hrow
   ((conv=>whnf);repeat ((first |(intro hq;try simp only [lnS]at hq)|refine sI ?_|refine qE_ ?_);conv=>whnf))
   refine aG hty (λk:Nat=>([(0, .d (.int .i64 N)),(3, .osl 12 1 ((wJ n i k).map nI)),(4, .d (.sl 1 ((dS n).map nI))),(5, .d (.int .i64 i)),(6, .d (.int .i64 k))],[(12, .own 151 1 ((wJ n i k).map nI).length)])) (λk=>k<=n+1) (λk=>n+1 - k) 0 (Nat.zero_le _) ⟨qB,qB⟩ ?_
   intro k hk
   ((conv=>whnf);repeat ((first|(refine⟨_,hrow, ?_⟩) |(intro hq;try simp only [lnS]at hq)|refine sI ?_|refine qE_ ?_);conv=>whnf))
   rw [hwm]
   refine aB (λh2=> ?_) (λh2=> ?_)
   ·have hkl:k<=n:=by omega
    have hst:=hst k
    have hul:((wJ n i k).map nI).length<=50000:=by rw [List.length_map];exact aIc (by omega) hi hk
    have hx:nI (aHc n w k)=[.sl 1 ((w.map nR).take k++nR n::(w.map nR).drop k)]:=by
     unfold nI aHc
     rw [List.map_append,List.map_take,List.map_cons,List.map_drop]
    have hsm:(wJ n i (k+1)).map nI=(wJ n i k).map nI++[nI (aHc n w k)]:=by rw [hst,List.map_append];rfl
    rw [hx]at hsm
    generalize (wJ n i k).map nI=out at *
    ((conv=>whnf);repeat ((first |(intro hq;try simp only [lnS]at hq)|refine sI ?_|refine qE_ ?_);conv=>whnf))
    refine aH.midE (λrows=>rows=(w.map nR).take k++nR n::(w.map nR).drop k) (λrows=>[(0, .d (.int .i64 N)),(3, .osl 12 1 out),(4, .d (.sl 1 ((dS n).map nI))),(5, .d (.int .i64 i)),(6, .d (.int .i64 k)),(7, .d (.sl 1 rows))]) (λ_=>[(12, .own 151 1 out.length)]) ?_ ?_
    ·(refine bI (id:=11) hty (.first 1 (.first 2 (.first 3 (.first 4 (.first 5 (.first 6 (.first 8 (.first 9 (.first 12 (.first 13 (.first 14 (.first 15 (.first 16 (.first 17 (.alt 0 (.alt 7 (.alt 10 (.alt 11 (.alt 18 (.first 19 .done) .stop) .stop) .stop) (.alt 10 (.alt 7 (.alt 11 (.alt 18 (.first 19 .done) .stop) .stop) .stop) .stop)) (.alt 10 (.alt 0 (.alt 7 (.alt 11 (.alt 18 (.first 19 .done) .stop) .stop) .stop) .stop) .stop)))))))))))))))) (by kernel_rfl) (by kernel_rfl) ?_)
     ((conv=>whnf);repeat' ((first|(intro hq;(try simp only [lnS]at hq);(try rewrite [List.length_map]))|refine sJ ?_|refine qE_ ?_|refine exL (k:=?_)| (refine⟨_,hrow, ?_⟩)|(refine And.intro (by simp only [List.length_replicate,List.length_drop,List.length_take,List.length_map,List.length_append,List.length_cons,List.length_nil];omega) ?_)|exact trivial|(refine And.intro ?_ ?_)|refine dwR ?_|((first|refine aB ?_ ?_|refine aC ?_ ?_)<;>intro hb<;>(first|exact ddX hb|try simp only [lnS]at hb))|(refine aA ?_ ?_<;>intro hb<;>try exact dsX hb))<;>(conv=>whnf)))
     all_goals
      refine⟨_,⟨qB,qB⟩, ?_⟩
      rw [hN1]
      simp [hta,nR]
    ·rintro rows rfl
     ((conv=>whnf);repeat ((first |(intro hq;try simp only [lnS]at hq)|refine sI ?_|refine qE_ ?_);conv=>whnf))
     refine⟨k+1,qO,qO, ?_⟩
     dsimp only
     rw [hsm]
     exact⟨qB,by repeat' (first|exact trivial|exact rfl|(rw [List.length_append];exact rfl)|refine And.intro ?_ ?_)⟩
   ·have hkn:k=n+1:=by omega
    subst hkn
    ((conv=>whnf);repeat ((first |(intro hq;try simp only [lnS]at hq)|refine sI ?_|refine qE_ ?_);conv=>whnf))
    refine⟨i+1,qO,qO, ?_⟩
    dsimp only
    rw [<-hnx]
    exact⟨qB,qB⟩
  ·have hil:i=(dS n).length:=by omega
   subst hil
   rw [aId]
   ((conv=>whnf);repeat ((first |(intro hq;try simp only [lnS]at hq)|refine sI ?_|refine qE_ ?_);conv=>whnf))
   rfl
end
section
open Go.Proofs Go.RowKit
set_option maxRecDepth 10000
attribute [local irreducible] aH aF Tri aD YVC bO aP
theorem mP (c:UInt8):Tri Tryz.prog 121 [aDn c] [] (λr=>r= .d (.bool (kJ c))):=by
 refine qG [] hty Tryz.func121 [0,2] ?_
 ((conv=>whnf);repeat' ((first|(intro hq;(try simp only [lnS]at hq);(try rewrite [List.length_map]))|refine sJ ?_|refine qE_ ?_|refine exL (k:=?_)|refine dwR ?_|((first|refine aB ?_ ?_|refine aC ?_ ?_)<;>intro hb<;>(first|exact ddX hb|try simp only [lnS]at hb))|(refine aA ?_ ?_<;>intro hb<;>try exact dsX hb))<;>(conv=>whnf)))
 all_goals (refine aJ (Bool.eq_iff_iff.2 ?_);simp only [kJ,Bool.or_eq_true,decide_eq_true_eq,true_iff,false_iff,Bool.false_eq_true];omega)
def aDm (c:UInt8):Bool:=decide (48<=(c.toNat:Int)/\(c.toNat:Int)<=57)
theorem zR (c:UInt8):Tri Tryz.prog 122 [aDn c] [] (λr=>r= .d (.bool (aDm c))):=by
 refine qG [] hty Tryz.func122 [0,2] ?_
 ((conv=>whnf);repeat' ((first|(intro hq;(try simp only [lnS]at hq);(try rewrite [List.length_map]))|refine sJ ?_|refine qE_ ?_|refine exL (k:=?_)|refine dwR ?_|((first|refine aB ?_ ?_|refine aC ?_ ?_)<;>intro hb<;>(first|exact ddX hb|try simp only [lnS]at hb))|(refine aA ?_ ?_<;>intro hb<;>try exact dsX hb))<;>(conv=>whnf)))
 all_goals (refine aJ (Bool.eq_iff_iff.2 ?_);simp only [aDm,decide_eq_true_eq,true_iff,false_iff,Bool.false_eq_true];omega)
def jW (c:UInt8):Bool:=kJ c || (aDm c || decide ((c.toNat:Int)=95))
theorem aHx (c:UInt8):bX c=jW c:=by
 unfold jW bX aDm
 cases kJ c
 ·rw [Bool.eq_iff_iff]
  simp only [Bool.or_eq_true,Bool.false_or,decide_eq_true_eq]
  omega
 ·simp
theorem aMt {c:UInt8}(h1:(!kJ c)=true) (h2:¬ (48<=(c.toNat:Int)/\(c.toNat:Int)<=57)) (h3:¬ (c.toNat:Int)=95):jW c=false:=by
 unfold jW aDm
 rw [show kJ c=false by simpa using h1,decide_eq_false h2,decide_eq_false h3];rfl
theorem aKs {c:UInt8}(h1:(!kJ c)=false):jW c=true:=by
 unfold jW
 rw [show kJ c=true by simpa using h1];rfl
theorem aKr {c:UInt8}(h2:48<=(c.toNat:Int)/\(c.toNat:Int)<=57):jW c=true:=by
 unfold jW aDm
 rw [decide_eq_true h2];simp
theorem aKq {c:UInt8}(h3:(c.toNat:Int)=95):jW c=true:=by
 unfold jW
 rw [decide_eq_true h3];simp
theorem eH (s:List UInt8):Tri Tryz.prog 78 [.d (.str s)] [] (λr=>r= .d (.bool (lU s))):=by
 by_cases h2:¬ 2<=s.length
 ·have e:lU s=false:=by unfold lU;rw [decide_eq_false h2,Bool.false_and]
  rw [e]
  refine qG [] hty Tryz.func78 [0,2,3,22,26,46] ?_
  ((conv=>whnf);repeat' ((first|(intro hq;(try simp only [lnS]at hq);(try rewrite [List.length_map]))|refine sJ ?_|refine qE_ ?_|refine exL (k:=?_)|refine dwR ?_|((first|refine aB ?_ ?_|refine aC ?_ ?_)<;>intro hb<;>(first|exact ddX hb|try simp only [lnS]at hb))|(refine aA ?_ ?_<;>intro hb<;>try exact dsX hb))<;>(conv=>whnf)))
  all_goals first|rfl|(exfalso;omega)
 have h2:2<=s.length:=by omega
 have e:=aE3 h2
 refine qG [] hty Tryz.func78 [0,2,3,22,26,46] ?_
 ((conv=>whnf);repeat' ((first|(intro hq;(try simp only [lnS]at hq);(try rewrite [List.length_map]))|refine sJ ?_|refine qE_ ?_|refine exL (k:=?_)| (refine⟨_,kT (by first|omega|(simp only [List.length_map];omega)), ?_⟩)|refine qT (mP _) ?_|refine dwR ?_|((first|refine aB ?_ ?_|refine aC ?_ ?_)<;>intro hb<;>(first|exact ddX hb|try simp only [lnS]at hb))|(refine aA ?_ ?_<;>intro hb<;>try exact dsX hb))<;>(conv=>whnf)))
 ·refine aJ (Eq.symm ?_);rw [e,decide_eq_false (by omega),Bool.false_and]
 ·rename_i hb
  refine aJ (Eq.symm ?_);rw [e,decide_eq_false (p:=((s[0].toNat:Int)=63)) hb];simp
 ·rename_i hb
  have hb':kJ s[1]=false:=by simpa using hb
  refine aJ (Eq.symm ?_);rw [e,hb'];simp
 rename_i h17 h63
 have hl':kJ s[1]=true:=by simpa using hb
 have h63':((s[0].toNat:Int)=63):=h63
 have e':lU s=(s.drop 2).all bX:=by rw [e,decide_eq_true (p:=s.length<=17) (by omega),decide_eq_true h63',hl'];simp
 rw [e']
 refine aG hty (λk:Nat=>([(0, .d (.str s)),(3, .d (.int .i64 k))],[])) (λk=>(2<=k/\k<=s.length)/\((s.drop 2).take (k - 2)).all bX=true) (λk=>s.length - k) 2 (by simp;omega) ⟨qB,qB⟩ ?_
 rintro k ⟨⟨hk0,hk⟩,hk2⟩
 ((conv=>whnf);repeat ((first |(intro hq;try simp only [lnS]at hq)|refine sI ?_|refine qE_ ?_);conv=>whnf))
 refine aB (λh1=> ?_) (λh1=> ?_)
 ·have hkl:k < s.length:=by omega
  have hst:= λh=>hZ (k:=k) hk0 hkl h
  have hgo:= λh=>fD hk0 hkl hk2 h
  rw [aHx s[k]]at hst hgo
  ((conv=>whnf);repeat' ((first|(intro hq;(try simp only [lnS]at hq);(try rewrite [List.length_map]))|refine sJ ?_|refine qE_ ?_|refine exL (k:=?_)| (refine⟨_,kT (by first|omega|(simp only [List.length_map];omega)), ?_⟩)|refine qT (mP _) ?_|refine qT (zR _) ?_|refine dwR ?_|((first|refine aB ?_ ?_|refine aC ?_ ?_)<;>intro hb<;>(first|exact ddX hb|try simp only [lnS]at hb))|(refine aA ?_ ?_<;>intro hb<;>try exact dsX hb))<;>(conv=>whnf)))
  all_goals first
   |exact aJ (Eq.symm (hst (aMt (c:=s[(k:Int).toNat]) (by assumption) (by assumption) (by assumption))))
   |exact⟨k+1,⟨⟨by omega,by omega⟩,hgo (by first|exact aKs (c:=s[(k:Int).toNat]) (by assumption)|exact aKr (c:=s[(k:Int).toNat]) (by assumption)|exact aKq (c:=s[(k:Int).toNat]) (by assumption))⟩,qO,⟨qB,qB⟩⟩
 ·have hkl:k=s.length:=by omega
  subst hkl
  rw [List.take_of_length_le (by rw [List.length_drop];omega)]at hk2
  rw [hk2]
  ((conv=>whnf);repeat' ((first|(intro hq;(try simp only [lnS]at hq);(try rewrite [List.length_map]))|refine sJ ?_|refine qE_ ?_|refine exL (k:=?_)|refine dwR ?_|((first|refine aB ?_ ?_|refine aC ?_ ?_)<;>intro hb<;>(first|exact ddX hb|try simp only [lnS]at hb))|(refine aA ?_ ?_<;>intro hb<;>try exact dsX hb))<;>(conv=>whnf)))
  rfl
theorem cX (s:List UInt8):Tri Tryz.prog 171 [.d (.str s)] [] (λr=>r= .d (.bool (wK s))):=by
 have hc:=fM s
 have hn:s=[]->cQ s=false:= λh=>by subst h;rfl
 have hi:wK s=(cQ s && !decide (s.head?=some 95)):=rfl
 cases hv:cQ s
 ·rw [hv]at hc hi
  rw [hi]
  refine qG [] hty Tryz.func171 [0,2] ?_
  ((conv=>whnf);repeat' ((first|(intro hq;(try simp only [lnS]at hq);(try rewrite [List.length_map]))|refine sJ ?_|refine qE_ ?_|refine exL (k:=?_)| (refine⟨_,kT (by first|omega|(simp only [List.length_map];omega)), ?_⟩)|refine qT hc ?_|refine dwR ?_|((first|refine aB ?_ ?_|refine aC ?_ ?_)<;>intro hb<;>(first|exact ddX hb|try simp only [lnS]at hb))|(refine aA ?_ ?_<;>intro hb<;>try exact dsX hb))<;>(conv=>whnf)))
  all_goals first|rfl|(refine aJ ?_;simp_all;done)
 ·rw [hv]at hc hi hn
  rw [hi]
  match s,hn with
  | [],hn=>exact absurd (hn rfl) (by decide)
  |c::r,hn=>
   have e:decide ((c::r).head?=some 95)=decide ((c.toNat:Int)=95):=by
    rw [decide_eq_decide,List.head?_cons]
    have h9:(95:UInt8).toNat=95:=by decide
    constructor
    ·intro e;injection e with e;rw [e];rfl
    ·intro e;exact congrArg some (UInt8.toNat_inj.1 (by omega))
   rw [e]
   refine qG [] hty Tryz.func171 [0,2] ?_
   ((conv=>whnf);repeat' ((first|(intro hq;(try simp only [lnS]at hq);(try rewrite [List.length_map]))|refine sJ ?_|refine qE_ ?_|refine exL (k:=?_)| (refine⟨_,kT (by first|omega|(simp only [List.length_map];omega)), ?_⟩)|refine qT hc ?_|refine dwR ?_|((first|refine aB ?_ ?_|refine aC ?_ ?_)<;>intro hb<;>(first|exact ddX hb|try simp only [lnS]at hb))|(refine aA ?_ ?_<;>intro hb<;>try exact dsX hb))<;>(conv=>whnf)))
   all_goals first
    |(refine aJ ?_;rw [show decide ((c.toNat:Int)=95)=false from decide_eq_false hb];rfl)
    |(refine aJ ?_;rw [show decide ((c.toNat:Int)=95)=true from decide_eq_true hb];rfl)
theorem fF (s:List UInt8):Tri Tryz.prog 173 [.d (.str s)] [] (λr=>r= .d (.bool (dJ s))):=by
 refine qG [] hty Tryz.func173 [0,2] ?_
 ((conv=>whnf);repeat' ((first|(intro hq;(try simp only [lnS]at hq);(try rewrite [List.length_map]))|refine sJ ?_|refine qE_ ?_|refine exL (k:=?_)| refine qT (eH _) ?_|refine qT (cX _) ?_|refine dwR ?_|((first|refine aB ?_ ?_|refine aC ?_ ?_)<;>intro hb<;>(first|exact ddX hb|try simp only [lnS]at hb))|(refine aA ?_ ?_<;>intro hb<;>try exact dsX hb))<;>(conv=>whnf)))
 ·refine aJ ?_
  rw [dJ,hb];rfl
 ·refine aJ ?_
  rw [dJ,hb];rfl
theorem gT (a:At):Tri Tryz.prog 172 [.d (.agg (atR a))] [] (λr=>r= .d (.sl 1 ((if a.kind=2 then [a.x,a.y]else [a.x]).map aT))):=by
 refine qG [1] hty Tryz.func172 [0,1,2,5] ?_
 ((conv=>whnf);repeat' ((first|(intro hq;(try simp only [lnS]at hq);(try rewrite [List.length_map]))|refine sJ ?_|refine qE_ ?_|refine exL (k:=?_)|refine dwR ?_|((first|refine aB ?_ ?_|refine aC ?_ ?_)<;>intro hb<;>(first|exact ddX hb|try simp only [lnS]at hb))|(refine aA ?_ ?_<;>intro hb<;>try exact dsX hb))<;>(conv=>whnf)))
 ·rw [if_pos hb];rfl
 ·rw [if_neg hb];rfl
theorem jG (l:List (List UInt8)) (s:List UInt8):Tri Tryz.prog 79 [.d (aKw l), .d (.str s)] [] (λr=>r= .d (.bool (decide (s∈l)))):=by
 refine qG [] hty Tryz.func79 [0,1,4,5,9,17] ?_
 ((conv=>whnf);repeat' ((first|(intro hq;(try simp only [lnS]at hq);(try rewrite [List.length_map]))|refine sJ ?_|refine qE_ ?_|refine exL (k:=?_)|refine dwR ?_|((first|refine aB ?_ ?_|refine aC ?_ ?_)<;>intro hb<;>(first|exact ddX hb|try simp only [lnS]at hb))|(refine aA ?_ ?_<;>intro hb<;>try exact dsX hb))<;>(conv=>whnf)))
 refine aG hty (λj:Nat=>([(0, .d (aKw l)),(1, .d (.str s)),(5, .d (.int .i64 j))],[])) (λj=>j<=l.length/\decide (s∈l)=decide (s∈l.drop j)) (λj=>l.length - j) 0 ⟨by omega,rfl⟩ ⟨qB,qB⟩ ?_
 rintro j ⟨hj,hn⟩
 ((conv=>whnf);repeat ((first |(intro hq;try simp only [lnS]at hq)|refine sI ?_|refine qE_ ?_);conv=>whnf))
 refine aB (λh1=> ?_) (λh1=> ?_)
 ·have hjl:j < l.length:=by simp only [List.length_map]at h1;omega
  have hrow:(l.map aT)[(j:Int).toNat]? =some (aT l[j]):=aK hjl
  rw [List.drop_eq_getElem_cons hjl]at hn
  generalize l[j]=x at hrow hn
  ((conv=>whnf);repeat' ((first|(intro hq;(try simp only [lnS]at hq);(try rewrite [List.length_map]))|refine sJ ?_|refine qE_ ?_|refine exL (k:=?_)| (refine⟨_,hrow, ?_⟩)|refine dwR ?_|((first|refine aB ?_ ?_|refine aC ?_ ?_)<;>intro hb<;>(first|exact ddX hb|try simp only [lnS]at hb))|(refine aA ?_ ?_<;>intro hb<;>try exact dsX hb))<;>(conv=>whnf)))
  ·refine aJ (Eq.symm ?_)
   rw [hn];simp_all
  ·refine⟨j+1,⟨by omega, ?_⟩,qO,qB,trivial⟩
   rw [hn]
   simp_all [eq_comm]
 ·have hjl:j=l.length:=by simp only [List.length_map]at h1;omega
  subst hjl
  ((conv=>whnf);repeat' ((first|(intro hq;(try simp only [lnS]at hq);(try rewrite [List.length_map]))|refine sJ ?_|refine qE_ ?_|refine exL (k:=?_)|refine dwR ?_|((first|refine aB ?_ ?_|refine aC ?_ ?_)<;>intro hb<;>(first|exact ddX hb|try simp only [lnS]at hb))|(refine aA ?_ ?_<;>intro hb<;>try exact dsX hb))<;>(conv=>whnf)))
  refine aJ (Eq.symm ?_)
  rw [hn,List.drop_length];simp
end
section
open Go.Proofs Go.RowKit
set_option maxRecDepth 10000
attribute [local irreducible] aH aF Tri aD YVC bO aP
theorem aKl (nm xx yy:List UInt8) (lo hi:Int):Tri Tryz.prog 113 [.d (.agg [.int .i64 1, .str nm, .str xx, .str yy, .int .i64 lo, .int .i64 hi])] [] (λr=>r= .d (.int .i64 (atE ⟨1,nm,xx,yy,lo,hi⟩))):=by
 have ht:=gT ⟨1,nm,xx,yy,lo,hi⟩
 have hn:=cX nm
 have hx:=fF xx
 have hy:=fF yy
 have he:atE ⟨1,nm,xx,yy,lo,hi⟩=if (¬ yy=[])\/(¬ lo=0\/¬ hi=0)then 210 else if lo < -1099511627776\/hi < lo\/1099511627776 < hi then 210 else if wK nm=false then 20 else if dJ xx=false then 20 else 0:=by
  unfold atE;simp
 rw [he]
 clear he
 rw [show (atR ⟨1,nm,xx,yy,lo,hi⟩)=[.int .i64 1, .str nm, .str xx, .str yy, .int .i64 lo, .int .i64 hi]from rfl,show ((if (⟨1,nm,xx,yy,lo,hi⟩:At).kind=2 then [xx,yy]else [xx]).map aT)=[aT xx]from rfl]at ht
 refine qG [1] hty Tryz.func113 [0,1,2,3,4,37,52,56,62,70] ?_
 ((conv=>whnf);repeat' ((first|(intro hq;(try simp only [lnS]at hq);(try rewrite [List.length_map]))|refine sJ ?_|refine qE_ ?_|refine exL (k:=?_)| refine qT ht ?_|refine qT hn ?_|refine qT hx ?_|refine qT hy ?_|(refine dC hty 3 ?_)|refine dwR ?_|((first|refine aB ?_ ?_|refine aC ?_ ?_)<;>intro hb<;>(first|exact ddX hb|try simp only [lnS]at hb))|(refine aA ?_ ?_<;>intro hb<;>try exact dsX hb))<;>(conv=>whnf)))
 all_goals (refine congrArg (λe=>SV.d (.int .i64 e)) ?_)
 all_goals (first|(simp_all;done)|(simp_all;omega)|skip)
theorem aKk (nm xx yy:List UInt8) (lo hi:Int):Tri Tryz.prog 113 [.d (.agg [.int .i64 2, .str nm, .str xx, .str yy, .int .i64 lo, .int .i64 hi])] [] (λr=>r= .d (.int .i64 (atE ⟨2,nm,xx,yy,lo,hi⟩))):=by
 have ht:=gT ⟨2,nm,xx,yy,lo,hi⟩
 have hn:=cX nm
 have hx:=fF xx
 have hy:=fF yy
 have he:atE ⟨2,nm,xx,yy,lo,hi⟩=if (¬ lo=0\/¬ hi=0)then 210 else if lo < -1099511627776\/hi < lo\/1099511627776 < hi then 210 else if wK nm=false then 20 else if dJ xx=false then 20 else if dJ yy=false then 20 else 0:=by
  unfold atE;simp
 rw [he]
 clear he
 rw [show (atR ⟨2,nm,xx,yy,lo,hi⟩)=[.int .i64 2, .str nm, .str xx, .str yy, .int .i64 lo, .int .i64 hi]from rfl,show ((if (⟨2,nm,xx,yy,lo,hi⟩:At).kind=2 then [xx,yy]else [xx]).map aT)=[aT xx,aT yy]from rfl]at ht
 refine qG [1] hty Tryz.func113 [0,1,2,3,4,37,52,56,62,70] ?_
 ((conv=>whnf);repeat' ((first|(intro hq;(try simp only [lnS]at hq);(try rewrite [List.length_map]))|refine sJ ?_|refine qE_ ?_|refine exL (k:=?_)| refine qT ht ?_|refine qT hn ?_|refine qT hx ?_|refine qT hy ?_|(refine dC hty 3 ?_)|refine dwR ?_|((first|refine aB ?_ ?_|refine aC ?_ ?_)<;>intro hb<;>(first|exact ddX hb|try simp only [lnS]at hb))|(refine aA ?_ ?_<;>intro hb<;>try exact dsX hb))<;>(conv=>whnf)))
 all_goals (refine congrArg (λe=>SV.d (.int .i64 e)) ?_)
 all_goals (first|(simp_all;done)|(simp_all;omega)|skip)
theorem aKj (nm xx yy:List UInt8) (lo hi:Int):Tri Tryz.prog 113 [.d (.agg [.int .i64 3, .str nm, .str xx, .str yy, .int .i64 lo, .int .i64 hi])] [] (λr=>r= .d (.int .i64 (atE ⟨3,nm,xx,yy,lo,hi⟩))):=by
 have ht:=gT ⟨3,nm,xx,yy,lo,hi⟩
 have hn:=cX nm
 have hx:=fF xx
 have hy:=fF yy
 have he:atE ⟨3,nm,xx,yy,lo,hi⟩=if (¬ yy=[])then 210 else if lo < -1099511627776\/hi < lo\/1099511627776 < hi then 210 else if wK nm=false then 20 else if dJ xx=false then 20 else 0:=by
  unfold atE;simp
 rw [he]
 clear he
 rw [show (atR ⟨3,nm,xx,yy,lo,hi⟩)=[.int .i64 3, .str nm, .str xx, .str yy, .int .i64 lo, .int .i64 hi]from rfl,show ((if (⟨3,nm,xx,yy,lo,hi⟩:At).kind=2 then [xx,yy]else [xx]).map aT)=[aT xx]from rfl]at ht
 refine qG [1] hty Tryz.func113 [0,1,2,3,4,37,52,56,62,70] ?_
 ((conv=>whnf);repeat' ((first|(intro hq;(try simp only [lnS]at hq);(try rewrite [List.length_map]))|refine sJ ?_|refine qE_ ?_|refine exL (k:=?_)| refine qT ht ?_|refine qT hn ?_|refine qT hx ?_|refine qT hy ?_|(refine dC hty 3 ?_)|refine dwR ?_|((first|refine aB ?_ ?_|refine aC ?_ ?_)<;>intro hb<;>(first|exact ddX hb|try simp only [lnS]at hb))|(refine aA ?_ ?_<;>intro hb<;>try exact dsX hb))<;>(conv=>whnf)))
 all_goals (refine congrArg (λe=>SV.d (.int .i64 e)) ?_)
 all_goals (first|(simp_all;done)|(simp_all;omega)|skip)
theorem aCo (a:At):Tri Tryz.prog 113 [.d (.agg (atR a))] [] (λr=>r= .d (.int .i64 (atE a))):=by
 obtain⟨kd,nm,xx,yy,lo,hi⟩:=a
 show Tri Tryz.prog 113 [.d (.agg [.int .i64 kd, .str nm, .str xx, .str yy, .int .i64 lo, .int .i64 hi])] [] _
 by_cases hk:kd < 1\/3 < kd
 ·rw [aNv (by exact hk)]
  refine qG [1] hty Tryz.func113 [0,1,2,3,4,37,52,56,62,70] ?_
  ((conv=>whnf);repeat' ((first|(intro hq;(try simp only [lnS]at hq);(try rewrite [List.length_map]))|refine sJ ?_|refine qE_ ?_|refine exL (k:=?_)|refine dwR ?_|((first|refine aB ?_ ?_|refine aC ?_ ?_)<;>intro hb<;>(first|exact ddX hb|try simp only [lnS]at hb))|(refine aA ?_ ?_<;>intro hb<;>try exact dsX hb))<;>(conv=>whnf)))
  all_goals first|rfl|(exfalso;omega)
 have hk3:kd=1\/kd=2\/kd=3:=by omega
 rcases hk3 with rfl|rfl|rfl
 ·exact aKl nm xx yy lo hi
 ·exact aKk nm xx yy lo hi
 ·exact aKj nm xx yy lo hi
def aEe (a:At):List (List UInt8):=if a.kind=2 then [a.x,a.y]else [a.x]
theorem wU (p:List At) (s:List UInt8):Tri Tryz.prog 114 [.d (.agg (aI p)), .d (.str s)] [] (λr=>r= .d (.bool (p.any λa=>decide (s∈aEe a)))):=by
 have hpl:(p.map atR).length=p.length:=List.length_map ..
 show Tri Tryz.prog 114 [.d (.agg [.sl 6 (p.map atR)]), .d (.str s)] [] _
 refine qG [2] hty Tryz.func114 [0,1,2,4,5,10,20] ?_
 ((conv=>whnf);repeat ((first |(intro hq;try simp only [lnS]at hq)|refine sI ?_|refine qE_ ?_);conv=>whnf))
 refine aG hty (λj:Nat=>([(1, .d (.str s)),(2, .ea 1 [[.sl 6 (p.map atR)]] 0 0),(5, .d (.int .i64 j))],[])) (λj=>j<=p.length/\(p.take j).any (λa=>decide (s∈aEe a))=false) (λj=>p.length - j) 0 ⟨by omega,rfl⟩ ⟨qB,qB⟩ ?_
 rintro j ⟨hj,hn⟩
 ((conv=>whnf);repeat ((first |(intro hq;try simp only [lnS]at hq)|refine sI ?_|refine qE_ ?_);conv=>whnf))
 rw [hpl]
 refine aB (λh1=> ?_) (λh1=> ?_)
 ·have hjl:j < p.length:=by omega
  have hrow:(p.map atR)[(j:Int).toNat]? =some (atR p[j]):=aK hjl
  have hhit:=iE (F:= λa:At=>decide (s∈aEe a)) hjl
  have hsuc:=fE (F:= λa:At=>decide (s∈aEe a)) hjl hn
  generalize p[j]=a at hrow hhit hsuc
  have ht:=gT a
  have hi:=jG (aEe a) s
  rw [show (if a.kind=2 then [a.x,a.y]else [a.x])=aEe a from rfl]at ht
  generalize decide (s∈aEe a)=v at *
  generalize aEe a=tr at *
  obtain⟨kd,nm,xx,yy,lo,hi'⟩:=a
  rw [show atR ⟨kd,nm,xx,yy,lo,hi'⟩=[.int .i64 kd, .str nm, .str xx, .str yy, .int .i64 lo, .int .i64 hi']from rfl]at hrow ht
  ((conv=>whnf);repeat ((first|(refine⟨_,hrow, ?_⟩)|refine qT ht ?_|refine qT hi ?_ |(intro hq;try simp only [lnS]at hq)|refine sI ?_|refine qE_ ?_);conv=>whnf))
  cases v
  ·((conv=>whnf);repeat ((first |(intro hq;try simp only [lnS]at hq)|refine sI ?_|refine qE_ ?_);conv=>whnf))
   exact⟨j+1,⟨by omega,hsuc rfl⟩,qO,⟨qB,qB⟩⟩
  ·rw [hhit rfl]
   ((conv=>whnf);repeat ((first |(intro hq;try simp only [lnS]at hq)|refine sI ?_|refine qE_ ?_);conv=>whnf))
   rfl
 ·have hjl:j=p.length:=by omega
  subst hjl
  rw [List.take_length]at hn
  rw [hn]
  ((conv=>whnf);repeat ((first |(intro hq;try simp only [lnS]at hq)|refine sI ?_|refine qE_ ?_);conv=>whnf))
  rfl
end
end Go.Proofs.YtdjfkmkdkclahaaGreatDoor
