/-
  The canonical form of a part: what both ways of finding it answer; plain. Objects: a writer's contract, over its own two objects alone; how it is used. Objects: the writer writes octets, numbers, texts and digests. Objects: the writer writes lists, concepts and axioms. Objects: the writer writes axioms, commits, queries and alignments. Terms: the canonical form of a concept, as a plain function; it is not greater.
  Conditions: none.
-/
import Derived.Test.YtdjfkmkdkclahaaGreatDoorWXs
import Derived.Test.YtdjfkmkdkclahaaGreatDoorWTcy
import Derived.Test.YtdjfkmkdkclahaaGreatDoorWSw
import Derived.Test.YtdjfkmkdkclahaaGreatDoorWOb
set_option linter.unusedSectionVars false
set_option linter.unusedSimpArgs false
set_option linter.unusedVariables false
set_option maxHeartbeats 16000000
namespace Go.Proofs.YtdjfkmkdkclahaaGreatDoor
section
open Go.Proofs
def zN (w:List Nat) (n:Nat):Asg:=w.map λk=>if k < n then some (k+1)else none
theorem aJf {w:List Nat}(hn:w.Nodup) {i n:Nat}(hi:w[i]? =some n):(zN w n)[i]? =some none/\(zN w n).set i (some (n+1))=zN w (n+1):=by
 refine⟨?_, ?_⟩
 ·unfold zN
  rw [List.getElem?_map,hi]
  simp
 ·refine List.ext_getElem? λj=> ?_
  unfold zN
  rw [List.getElem?_set]
  by_cases e:i=j
  ·subst e
   rw [if_pos rfl,List.length_map,if_pos (List.getElem?_eq_some_iff.1 hi).1,List.getElem?_map,hi]
   simp
  ·rw [if_neg e,List.getElem?_map,List.getElem?_map]
   cases hj:w[j]? with
   |none=>rfl
   |some k=>
    have hk:k≠n:=by
     intro ek
     subst ek
     obtain⟨h1,h2⟩:=List.getElem?_eq_some_iff.1 hi
     obtain⟨h3,h4⟩:=List.getElem?_eq_some_iff.1 hj
     have hp:=List.pairwise_iff_getElem.1 hn
     rcases Nat.lt_or_ge i j with hlt|hge
     ·exact hp i j h1 h3 hlt (h2.trans h4.symm)
     ·exact hp j i h3 h1 (by omega) (h4.trans h2.symm)
    simp only [Option.map_some]
    by_cases hlt:k < n
    ·rw [if_pos hlt,if_pos (by omega)]
    ·rw [if_neg hlt,if_neg (by omega)]
theorem aC9 {N:Nat}{w:List Nat}(hw:w.Perm (List.range N)): ∀(d n:Nat),n+d=N->Compl N n (zN w n) (zN w N)
 | 0,n,h=>by
  obtain rfl:n=N:=by omega
  exact .done _
 |d+1,n,h=>by
  have hnd:w.Nodup:=hw.nodup_iff.2 List.nodup_range
  have hm:n∈w:=hw.mem_iff.2 (List.mem_range.2 (by omega))
  obtain⟨i,hi⟩:=List.getElem?_of_mem hm
  obtain⟨h1,h2⟩:=aJf hnd hi
  refine .step i (by omega) h1 ?_
  rw [h2]
  exact aC9 hw d (n+1) (by omega)
theorem tN {x:Nat}: ∀{a:Asg}{i:Nat},a[i]? =some none->((a.set i (some x)).filterMap id).Perm (x::a.filterMap id)
 | [],i,h=>by simp at h
 |o::r,0,h=>by
  have h:o=none:=by simpa using h
  subst h
  exact .refl _
 |o::r,i+1,h=>by
  have ih:=tN (x:=x) (a:=r) (i:=i) (by simpa using h)
  cases o with
  |none=>exact ih
  |some k=>exact(ih.cons k).trans (List.Perm.swap ..)
theorem aG6: ∀{a:Asg},(a.filterMap id).length=a.length->a=(a.filterMap id).map some
 | [],_=>rfl
 |none::r,h=>by
  have:=List.length_filterMap_le id r
  have h:(r.filterMap id).length=r.length+1:=h
  omega
 |some k::r,h=>by
  have h:(r.filterMap id).length+1=r.length+1:=h
  have:=aG6 (a:=r) (by omega)
  show some k::r=some k::(r.filterMap id).map some
  rw [<-this]
theorem aGm {N n:Nat}{a a':Asg}(h:Compl N n a a'):a.length=N->n<=N->(a.filterMap id).Perm ((List.range n).map (· +1))-> ∃w:List Nat,w.Perm (List.range N)/\a'=zN w N:=by
 induction h with
 |done a=>
  intro hl _ hp
  have h1:(a.filterMap id).length=a.length:=by rw [hp.length_eq,List.length_map,List.length_range,hl]
  have h2:=aG6 h1
  refine⟨(a.filterMap id).map (· - 1), ?_, ?_⟩
  ·have:=hp.map (· - 1)
   rw [List.map_map]at this
   refine this.trans ?_
   rw [show ((λx=>x - 1) ∘ λx=>x+1)=(id:Nat->Nat)from funext λx=>by simp,List.map_id]
  ·unfold zN
   rw [List.map_map]
   conv=>lhs;rw [h2]
   refine List.map_congr_left λk hk=> ?_
   have hk:=hp.mem_iff.1 hk
   rw [List.mem_map]at hk
   obtain⟨j,hj,rfl⟩:=hk
   rw [List.mem_range]at hj
   simp [hj]
 |step i hn hi h ih=>
  intro hl _ hp
  refine ih (by rw [List.length_set];exact hl) (by omega) ?_
  refine(tN hi).trans ?_
  rw [List.range_succ,List.map_append]
  exact(hp.cons _).trans (List.perm_append_comm (l₁:=[_]) (l₂:=_)).symm.symm
theorem zB {N:Nat}{a':Asg}:Compl N 0 (List.replicate N none) a'↔ ∃w:List Nat,w.Perm (List.range N)/\a'=zN w N:=by
 constructor
 ·intro h
  refine aGm h (by simp) (Nat.zero_le _) ?_
  have:(List.replicate N (none:Option Nat)).filterMap id=[]:=by
   rw [List.filterMap_eq_nil_iff]
   intro o ho
   rw [(List.mem_replicate.1 ho).2];rfl
  rw [this]
  exact .nil
 ·rintro⟨w,hw,rfl⟩
  have:=aC9 hw N 0 (by omega)
  have e:zN w 0=List.replicate N none:=by
   unfold zN
   have hl:w.length=N:=by rw [hw.length_eq,List.length_range]
   rw [<-hl]
   exact List.map_eq_replicate_iff.2 λx _=>by simp
  rw [e]at this
  exact this
theorem aE4 {w:List Nat}{N:Nat}(hw:w.Perm (List.range N)):fI (zN w N) N=w.map λk=>nmV (k+1):=by
 unfold fI zN
 rw [List.map_map]
 refine List.map_congr_left λk hk=> ?_
 have:=List.mem_range.1 (hw.mem_iff.1 hk)
 simp [this]
structure IsTid (l t:List At):Prop where
 s:Sle bE t
 n:t.Nodup
 m: ∀x,x∈t↔x∈l
theorem wD {a b:At}:bE a b=0->a=b:=dG.1
theorem IsTid.uniq {l l' t t':List At}(h:IsTid l t) (h':IsTid l' t') (e: ∀x,x∈l↔x∈l'):t=t':=
 uZ bC (λa b=>wD) ((List.perm_ext_iff_of_nodup h.n h'.n).2 λx=>by rw [h.m x,h'.m x,e x]) h.s h'.s
def nQ (a:At):List At->List At
 | []=>[a]
 |b::r=>if bE b a < 0 then b::nQ a r else if bE b a=0 then b::r else a::b::r
theorem oG {a x:At}: ∀{l:List At},x∈nQ a l↔x=a\/x∈l
 | []=>by simp [nQ]
 |b::r=>by
  have ih:=oG (a:=a) (x:=x) (l:=r)
  rw [nQ]
  split
  ·rw [List.mem_cons,ih,List.mem_cons]
   constructor
   ·rintro(h|h|h)
    ·exact .inr (.inl h)
    ·exact .inl h
    ·exact .inr (.inr h)
   ·rintro(h|h|h)
    ·exact .inr (.inl h)
    ·exact .inl h
    ·exact .inr (.inr h)
  ·split
   ·rename_i h
    have e:=wD h
    subst e
    constructor
    ·exact .inr
    ·rintro(h|h)
     ·rw [h];exact List.mem_cons_self
     ·exact h
   ·rw [List.mem_cons]
theorem vS {a:At}: ∀{l:List At},l.Pairwise (λx y=>bE x y < 0)->(nQ a l).Pairwise (λx y=>bE x y < 0)
 | [],_=>by simp [nQ]
 |b::r,hs=>by
  obtain⟨h1,h2⟩:=List.pairwise_cons.1 hs
  rw [nQ]
  split
  ·rename_i hb
   refine List.pairwise_cons.2 ⟨λx hx=> ?_,vS h2⟩
   rcases oG.1 hx with rfl|hx
   ·exact hb
   ·exact h1 x hx
  ·rename_i hb
   split
   ·exact hs
   ·rename_i h0
    have ha:=bC.anti b a
    have hab:bE a b < 0:=by omega
    refine List.pairwise_cons.2 ⟨λx hx=> ?_,hs⟩
    rcases List.mem_cons.1 hx with rfl|hx
    ·exact hab
    ·exact(bC.t3 a b x).1 hab (h1 x hx)
theorem uV {l t:List At}(h:t.Pairwise λx y=>bE x y < 0) (m: ∀x,x∈t↔x∈l):IsTid l t:=
 ⟨h.imp λ{x y} h => by omega, h.imp λ{x y} h e => by
  rw [e,bC.refl]at h
  omega,m⟩
def lV:List At->List At
 | []=>[]
 |a::r=>nQ a (lV r)
theorem iN: ∀l,IsTid l (lV l):=by
 have h1: ∀l,(lV l).Pairwise λx y=>bE x y < 0:=by
  intro l
  induction l with
  |nil=>exact .nil
  |cons a r ih=>exact vS ih
 have h2: ∀l x,x∈lV l↔x∈l:=by
  intro l
  induction l with
  |nil=>intro x;exact Iff.rfl
  |cons a r ih=>
   intro x
   show x∈nQ a (lV r)↔_
   rw [oG,ih x,List.mem_cons]
 exact λl=>uV (h1 l) (h2 l)
theorem aCs {l l':List At}(h: ∀x,x∈l↔x∈l'):lV l=lV l':=(iN l).uniq (iN l') h
end
section
open Go.Proofs Go.RowKit
set_option maxRecDepth 10000
attribute [local irreducible] aH aF Tri aD YVC bO aP
theorem aOw {i j:Nat}{h1 hp:Hp}{x y o u o' u':HObj}(hij:i≠j) (hx:aM hp i=some x) (hy:aM hp j=some y) (ho:aM h1 3=some o) (hu:aM h1 4=some u) (hs:o.sim/\u.sim) (hr:¬ o.Rd/\¬ u.Rd) (hi:(∀k∈o.ids,k∈[3,4])/\ ∀k∈u.ids,k∈[3,4])
  (he:o.ren (λk=>if k=3 then i else j)=o') (he':u.ren (λk=>if k=3 then i else j)=u'):Left (λk=>if k=3 then i else j) [3,4] h1 hp (dQ (dQ hp i o') j u'):=by
 have hy':aM (dQ hp i o') j=some y:=by rw [aX o' hx,if_neg (Ne.symm hij)];exact hy
 refine⟨λk hk=> ?_,λk z hz=> ?_⟩
 ·have hk:k=3\/k=4:=by simpa using hk
  rcases hk with rfl|rfl
  ·refine⟨o,ho,hs.1,hr.1,hi.1, ?_⟩
   show aM (dQ (dQ hp i o') j u') i=_
   rw [aX u' hy',if_neg hij,aX o' hx,if_pos rfl,he]
  ·refine⟨u,hu,hs.2,hr.2,hi.2, ?_⟩
   show aM (dQ (dQ hp i o') j u') j=_
   rw [aX u' hy',if_pos rfl,he']
 ·rw [aX u' hy']at hz
  split at hz
  ·rename_i e;exact .inl ⟨4,by simp,by rw [e];rfl⟩
  ·rw [aX o' hx]at hz
   split at hz
   ·rename_i e;exact .inl ⟨3,by simp,by rw [e];rfl⟩
   ·exact .inr hz
theorem aNx {i j:Nat}{hp:Hp}{x y o u:HObj}(hij:i≠j) (hx:aM hp i=some x) (hy:aM hp j=some y) (he:o.ren (λk=>if k=3 then i else j)=x) (he':u.ren (λk=>if k=3 then i else j)=y) (hs:o.sim/\u.sim):Among (λk=>if k=3 then i else j) [3,4] [(3,o),(4,u)] hp:=by
 have key: ∀k z,aM [(3,o),(4,u)] k=some z->k=3/\z=o\/k=4/\z=u:=by
  intro k z h
  simp only [aM]at h
  split at h
  ·rename_i e;injection h with h;exact .inl ⟨e.symm,h.symm⟩
  ·split at h
   ·rename_i e;injection h with h;exact .inr ⟨e.symm,h.symm⟩
   ·cases h
 refine⟨λk z h=> ?_,λk z k' z' h h' e=> ?_,λk hk=> ?_,λk z h=> ?_⟩
 ·rcases key k z h with⟨rfl,rfl⟩|⟨rfl,rfl⟩
  ·exact⟨by rw [he];exact hx,hs.1⟩
  ·exact⟨by rw [he'];exact hy,hs.2⟩
 ·rcases key k z h with⟨rfl,rfl⟩|⟨rfl,rfl⟩<;>rcases key k' z' h' with⟨rfl,rfl⟩|⟨rfl,rfl⟩
  ·rfl
  ·exact absurd e hij
  ·exact absurd e (Ne.symm hij)
  ·rfl
 ·have hk:k=3\/k=4:=by simpa using hk
  rcases hk with rfl|rfl
  ·exact⟨o,by simp [aM]⟩
  ·exact⟨u,by simp [aM]⟩
 ·rcases key k z h with⟨rfl,rfl⟩|⟨rfl,rfl⟩
  ·exact .inl (by simp)
  ·exact .inl (by simp)
abbrev wrC (j:Nat) (p:List UInt8):HObj:= .cells 115 [.osl j 1 (p.map bB)]
abbrev wrB (p:List UInt8):HObj:= .own 5 1 (p.map bB).length
abbrev aPy:Pin:=⟨[3,4],λ_ _=>False,[],none⟩
def WrT (f:FuncId) (ex:List SV) (out:List UInt8):Prop:= ∀p:List UInt8,p.length+out.length<=100000000000000->
 aF Tryz.prog aPy [] [(3,wrC 4 p),(4,wrB p)] f (.ptr 3 0::ex) (λs h=>s= .tup []/\aM h 3=some (wrC 4 (p++out))/\aM h 4=some (wrB (p++out)))
theorem WrT.call {f:FuncId}{ex:List SV}{out:List UInt8}(h:WrT f ex out) (hx:SV.idsL ex=[]) {pin:Pin}{fr:Fr}{hp:Hp}{i j:Nat}{K:SV->Hp->Prop}(p:List UInt8) (hb:p.length+out.length<=100000000000000) (hij:i≠j) (hg:aM hp i=some (wrC j p)) (hg':aM hp j=some (wrB p))
  (hok:gB hp i (wrC j (p++out)) λh=>gB h j (wrB (p++out)) (K (.tup []))):aF Tryz.prog pin fr hp f (.ptr i 0::ex) K:=by
 have hs: ∀(p:List UInt8),(wrC 4 p).sim:= λp s hs=>by simp at hs;subst hs;trivial
 have hi: ∀(p:List UInt8),∀k∈(wrC 4 p).ids,k∈[3,4]:= λp k hk=>by simp [HObj.ids,SV.idsL,SV.ids]at hk;simp [hk]
 refine iD (λk=>if k=3 then i else j) [3,4] [(3,wrC 4 p),(4,wrB p)] (h p hb) (aNx hij hg hg' rfl rfl ⟨hs p,trivial⟩) (λk hk=>hk) (by rw [List.map_cons,oX hx];rfl) ?_ ?_ ?_ (.inr λ_ h=>h)
 ·intro s hs
  rcases List.mem_cons.1 hs with rfl|hs
  ·trivial
  ·exact oU hx s hs
 ·rintro s h1 ⟨rfl,e2,e3⟩
  have hnone: ∀k∈SV.ids (SV.tup []),k∈[3,4]:=by
   intro k hk
   cases hk
  refine⟨rfl,hnone,_,aOw hij hg hg' e2 e3 ⟨hs _,trivial⟩ ⟨λh=>h,λh=>h⟩ ⟨hi _,λk hk=>by cases hk⟩ rfl rfl, ?_⟩
  rw [cM,cM]at hok
  exact hok
 ·exact λh1 h2=>h2.elim
end
section
open Go.Proofs Go.RowKit
set_option maxRecDepth 10000
attribute [local irreducible] aH aF Tri aD YVC bO aP
theorem mY (n:Nat):(((UInt8.ofNat (n % 256)).toNat:Nat):Int)=((n % 256:Nat):Int):=by simp
theorem aPb (z:Int):IntKind.u8.wrap z=(((UInt8.ofNat (uN z % 256)).toNat:Nat):Int):=by
 rw [mY]
 have e3: ∀k:Int,IntKind.u8.wrap k=k % 256:= λk=>rfl
 rw [e3]
 unfold uN
 omega
theorem wV {n:Nat}(h:n<=100000000000000):uN (n:Int)=n:=by unfold uN;omega
theorem pO (p q:List UInt8):(p++q).map bB=p.map bB++q.map bB:=List.map_append ..
theorem aLp (p q:List UInt8):((p++q).map bB).length=(p.map bB).length+(q.map bB).length:=by rw [pO,List.length_append]
theorem jV (p:List UInt8):(p.map bB).length=p.length:=List.length_map ..
theorem uM (j:Nat) (p q:List UInt8):wrC j (p++q)= .cells 115 [.osl j 1 (p.map bB++q.map bB)]:=by rw [<-pO]
theorem uO (p q:List UInt8):wrB (p++q)= .own 5 1 ((p.map bB).length+(q.map bB).length):=by rw [<-aLp]
theorem aHk (z:Int):WrT 133 [.d (.int .i64 z)] (aO3 z):=by
 intro p hp
 have hl:(aO3 z).length=1:=bJ ..
 have hml:=jV p
 have hb63:(p.map bB).length+1<=9223372036854775807:=by rw [hml];omega
 have hb48:((p.map bB).length+1)* 1<=140737488355328:=by rw [hml];omega
 refine aN false [] hty Tryz.func133 rfl (kp [0,1]) 100 (by simp [Tryz.f133]) ?_
 ((conv=>whnf);repeat ((first|(refine And.intro hb63 ?_)|(refine And.intro hb48 ?_) |(intro hq;try simp only [lnS]at hq)|refine sI ?_|refine qE_ ?_);conv=>whnf))
 rw [aPb]
 rw [uM,uO]
 exact⟨rfl,rfl⟩
theorem aGv (n j:Nat) (h:j < 8):(beN 8 n).take (j+1)=(beN 8 n).take j++[UInt8.ofNat (n / 2 ^ (56 - 8 * j) % 256)]:=by
 have e:j=0\/j=1\/j=2\/j=3\/j=4\/j=5\/j=6\/j=7:=by omega
 rw [aQ6]
 rcases e with rfl|rfl|rfl|rfl|rfl|rfl|rfl|rfl<;>rfl
theorem aGw (n j:Nat) (h:j < 4):(beN 4 n).take (j+1)=(beN 4 n).take j++[UInt8.ofNat (n / 2 ^ (24 - 8 * j) % 256)]:=by
 have e:j=0\/j=1\/j=2\/j=3:=by omega
 rw [aQ7]
 rcases e with rfl|rfl|rfl|rfl<;>rfl
theorem aJ9 (z:Int) (s:Nat) (hs:s<=64):IntKind.u8.wrap ((IntKind.u64.wrap z).fdiv (2 ^ (min (s:Int).toNat IntKind.u64.bits)))=(((UInt8.ofNat (uN z / 2 ^ s % 256)).toNat:Nat):Int):=by
 rw [aM8 z s hs,mY]
theorem nV (z:Int):WrT 132 [.d (.int .i64 z)] (beN 4 (uN z)):=by
 intro p hp
 have hl:(beN 4 (uN z)).length=4:=bJ ..
 refine aN false [] hty Tryz.func132 rfl (kp [0,1,4,6]) 100 (by simp [Tryz.f132]) ?_
 ((conv=>whnf);repeat ((first |(intro hq;try simp only [lnS]at hq)|refine sI ?_|refine qE_ ?_);conv=>whnf))
 refine aG hty (λj:Nat=>([(0, .ptr 3 0),(1, .d (.int .i64 z)),(4, .d (.int .i64 (24 - 8 * (j:Int))))],[(3,wrC 4 (p++(beN 4 (uN z)).take j)),(4,wrB (p++(beN 4 (uN z)).take j))])) (λj=>j<=4) (λj=>4 - j) 0 (by omega) ⟨qB,by rw [List.take_zero,List.append_nil];exact⟨rfl,rfl,trivial⟩⟩ ?_
 intro j hj
 have hml:=jV (p++(beN 4 (uN z)).take j)
 rw [List.length_append,List.length_take]at hml
 have hb63:((p++(beN 4 (uN z)).take j).map bB).length+1<=9223372036854775807:=by rw [hml];omega
 have hb48:(((p++(beN 4 (uN z)).take j).map bB).length+1)* 1<=140737488355328:=by rw [hml];omega
 ((conv=>whnf);repeat ((first |(intro hq;try simp only [lnS]at hq)|refine sI ?_|refine qE_ ?_);conv=>whnf))
 refine aB (λh1=> ?_) (λh1=> ?_)
 ·have hj4:j < 4:=by omega
  have hs:(24 - 8 * (j:Int))=((24 - 8 * j:Nat):Int):=by omega
  have hbt:=aJ9 z (24 - 8 * j) (by omega)
  have hnx:=aGw (uN z) j hj4
  dsimp only
  rw [hs]
  ((conv=>whnf);repeat ((first |(intro hq;try simp only [lnS]at hq)|refine sI ?_|refine qE_ ?_);conv=>whnf))
  refine aBh hty [0,1,2,3,4,5,6,7,8,9,10,11,12,13,14] (by kernel_rfl) (by kernel_rfl) ?_
  ((conv=>whnf);repeat ((first|(refine And.intro hb63 ?_)|(refine And.intro hb48 ?_) |(intro hq;try simp only [lnS]at hq)|refine sI ?_|refine qE_ ?_);conv=>whnf))
  rw [hbt,show ((24 - 8 * j:Nat):Int) - 8=24 - 8 * ((j+1:Nat):Int)by omega]
  refine⟨j+1,qO,qO, ?_⟩
  dsimp only
  rw [hnx,<-List.append_assoc,uM,uO]
  exact⟨qB,qB⟩
 ·have hj4:j=4:=by omega
  subst hj4
  rw [List.take_of_length_le (by rw [hl];exact Nat.le_refl _)]
  ((conv=>whnf);repeat ((first |(intro hq;try simp only [lnS]at hq)|refine sI ?_|refine qE_ ?_);conv=>whnf))
  exact rfl
theorem wO (z:Int):WrT 135 [.d (.int .i64 z)] (beN 8 (uN z)):=by
 intro p hp
 have hl:(beN 8 (uN z)).length=8:=bJ ..
 refine aN false [] hty Tryz.func135 rfl (kp [0,1,4,6]) 100 (by simp [Tryz.f135]) ?_
 ((conv=>whnf);repeat ((first |(intro hq;try simp only [lnS]at hq)|refine sI ?_|refine qE_ ?_);conv=>whnf))
 refine aG hty (λj:Nat=>([(0, .ptr 3 0),(1, .d (.int .i64 z)),(4, .d (.int .i64 (56 - 8 * (j:Int))))],[(3,wrC 4 (p++(beN 8 (uN z)).take j)),(4,wrB (p++(beN 8 (uN z)).take j))])) (λj=>j<=8) (λj=>8 - j) 0 (by omega) ⟨qB,by rw [List.take_zero,List.append_nil];exact⟨rfl,rfl,trivial⟩⟩ ?_
 intro j hj
 have hml:=jV (p++(beN 8 (uN z)).take j)
 rw [List.length_append,List.length_take]at hml
 have hb63:((p++(beN 8 (uN z)).take j).map bB).length+1<=9223372036854775807:=by rw [hml];omega
 have hb48:(((p++(beN 8 (uN z)).take j).map bB).length+1)* 1<=140737488355328:=by rw [hml];omega
 ((conv=>whnf);repeat ((first |(intro hq;try simp only [lnS]at hq)|refine sI ?_|refine qE_ ?_);conv=>whnf))
 refine aB (λh1=> ?_) (λh1=> ?_)
 ·have hj8:j < 8:=by omega
  have hs:(56 - 8 * (j:Int))=((56 - 8 * j:Nat):Int):=by omega
  have hbt:=aJ9 z (56 - 8 * j) (by omega)
  have hnx:=aGv (uN z) j hj8
  dsimp only
  rw [hs]
  ((conv=>whnf);repeat ((first |(intro hq;try simp only [lnS]at hq)|refine sI ?_|refine qE_ ?_);conv=>whnf))
  refine aBh hty [0,1,2,3,4,5,6,7,8,9,10,11,12,13,14] (by kernel_rfl) (by kernel_rfl) ?_
  ((conv=>whnf);repeat ((first|(refine And.intro hb63 ?_)|(refine And.intro hb48 ?_) |(intro hq;try simp only [lnS]at hq)|refine sI ?_|refine qE_ ?_);conv=>whnf))
  rw [hbt,show ((56 - 8 * j:Nat):Int) - 8=56 - 8 * ((j+1:Nat):Int)by omega]
  refine⟨j+1,qO,qO, ?_⟩
  dsimp only
  rw [hnx,<-List.append_assoc,uM,uO]
  exact⟨qB,qB⟩
 ·have hj8:j=8:=by omega
  subst hj8
  rw [List.take_of_length_le (by rw [hl];exact Nat.le_refl _)]
  ((conv=>whnf);repeat ((first |(intro hq;try simp only [lnS]at hq)|refine sI ?_|refine qE_ ?_);conv=>whnf))
  exact rfl
theorem uL (s:List UInt8):WrT 134 [.d (.str s)] (kN s):=by
 intro p hp
 have hl:(kN s).length=4+s.length:=by unfold kN;rw [List.length_append,bJ]
 have hlc:(beN 4 (uN (s.length:Int))).length=4:=bJ ..
 have hu:uN (s.length:Int)=s.length:=wV (by omega)
 refine aN false [] hty Tryz.func134 rfl (kp [0,1]) 100 (by simp [Tryz.f134]) ?_
 ((conv=>whnf);repeat ((first |(intro hq;try simp only [lnS]at hq)|refine sI ?_|refine qE_ ?_);conv=>whnf))
 refine WrT.call (nV s.length) rfl p (by omega) (by decide) rfl rfl ?_
 rw [hu]
 have hml:=jV (p++beN 4 s.length)
 rw [List.length_append,bJ]at hml
 have hb63:((p++beN 4 s.length).map bB).length+(s.map bB).length<=9223372036854775807:=by rw [hml,jV];omega
 have hb48:(((p++beN 4 s.length).map bB).length+(s.map bB).length)* 1<=140737488355328:=by rw [hml,jV];omega
 ((conv=>whnf);repeat ((first|(refine And.intro hb63 ?_)|(refine And.intro hb48 ?_) |(intro hq;try simp only [lnS]at hq)|refine sI ?_|refine qE_ ?_);conv=>whnf))
 unfold kN
 rw [<-List.append_assoc,uM,uO]
 exact⟨rfl,rfl⟩
end
section
open Go.Proofs Go.RowKit
set_option maxRecDepth 10000
attribute [local irreducible] aH aF Tri aD YVC bO aP
theorem rH {α:Type}{w:α->List UInt8}{l:List α}{j:Nat}(h:j < l.length):((l.take (j+1)).map w).flatten=((l.take j).map w).flatten++w l[j]:=by
 rw [List.take_succ_eq_append_getElem h,List.map_append,List.flatten_append];simp
theorem aAr {α:Type}{w:α->List UInt8}(l:List α) (j:Nat):(((l.take j).map w).flatten).length<=((l.map w).flatten).length:=by
 have e:l.map w=(l.take j).map w++(l.drop j).map w:=by rw [<-List.map_append,List.take_append_drop]
 rw [e,List.flatten_append,List.length_append];omega
theorem jE {α:Type}(w:α->List UInt8) (l:List α):(cU w l).length=4+((l.map w).flatten).length:=by unfold cU;rw [List.length_append,bJ]
theorem rI {α:Type}{w:α->List UInt8}{k:Nat}(hk:1<=k) (hw: ∀x,k<=(w x).length) (l:List α):l.length<=((l.map w).flatten).length:=by
 have h:=yT hw l
 have h2:1 * l.length<=k * l.length:=Nat.mul_le_mul_right _ hk
 omega
theorem aE1 (s:List UInt8):4<=(kN s).length:=by unfold kN;rw [List.length_append,bJ];omega
theorem wQ (z:Int):(aJo z).length=8:=by unfold aJo;exact bJ ..
theorem dN (z:Int):(aO3 z).length=1:=bJ ..
theorem aHg (l:List (List UInt8)):WrT 131 [.d (.sl 1 (l.map aT))] (cU kN l):=by
 intro p hp
 rw [jE]at hp
 have hn:=rI (by decide) aE1 l
 have hu:uN (l.length:Int)=l.length:=wV (by omega)
 have hlr:(l.map aT).length=l.length:=List.length_map ..
 refine aN false [] hty Tryz.func131 rfl (kp [0,1,5,10,11,12,13]) 100 (by simp [Tryz.f131]) ?_
 ((conv=>whnf);repeat ((first |(intro hq;try simp only [lnS]at hq)|refine sI ?_|refine qE_ ?_);conv=>whnf))
 rw [hlr]
 refine WrT.call (nV l.length) rfl p (by rw [bJ];omega) (by decide) rfl rfl ?_
 rw [hu]
 ((conv=>whnf);repeat ((first |(intro hq;try simp only [lnS]at hq)|refine sI ?_|refine qE_ ?_);conv=>whnf))
 rw [hlr]
 refine aG hty (λj:Nat=>([(0, .ptr 3 0),(10, .d (.sl 1 (l.map aT))),(11, .d (.int .i64 l.length)),(12, .d (.int .i64 j))],[(3,wrC 4 (p++beN 4 l.length++((l.take j).map kN).flatten)),(4,wrB (p++beN 4 l.length++((l.take j).map kN).flatten))])) (λj=>j<=l.length) (λj=>l.length - j) 0 (by omega) ⟨qB,by rw [List.take_zero,List.map_nil,List.flatten_nil,List.append_nil];exact⟨rfl,rfl,trivial⟩⟩ ?_
 intro j hj
 ((conv=>whnf);repeat ((first |(intro hq;try simp only [lnS]at hq)|refine sI ?_|refine qE_ ?_);conv=>whnf))
 refine aB (λh1=> ?_) (λh1=> ?_)
 ·have hjl:j < l.length:=by omega
  have hrow:(l.map aT)[((j:Nat):Int).toNat]? =some (aT l[j]):=aK hjl
  have hnx:=rH (w:=kN) hjl
  have hle:=aAr (w:=kN) l (j+1)
  rw [hnx,List.length_append]at hle
  ((conv=>whnf);repeat ((first|(refine⟨_,hrow, ?_⟩) |(intro hq;try simp only [lnS]at hq)|refine sI ?_|refine qE_ ?_);conv=>whnf))
  refine WrT.call (uL l[j]) rfl _ (by rw [List.length_append,List.length_append,bJ];omega) (by decide) rfl rfl ?_
  ((conv=>whnf);repeat ((first |(intro hq;try simp only [lnS]at hq)|refine sI ?_|refine qE_ ?_);conv=>whnf))
  refine⟨j+1,qO,qO, ?_⟩
  dsimp only
  rw [hnx,<-List.append_assoc]
  exact⟨qB,qB⟩
 ·have hjl:j=l.length:=by omega
  subst hjl
  rw [List.take_length]
  ((conv=>whnf);repeat ((first |(intro hq;try simp only [lnS]at hq)|refine sI ?_|refine qE_ ?_);conv=>whnf))
  unfold cU
  rw [<-List.append_assoc]
  exact⟨rfl,rfl⟩
end
section
open Go.Proofs Go.RowKit
set_option maxRecDepth 10000
attribute [local irreducible] aH aF Tri aD YVC bO aP
theorem rV {p a b:List UInt8}:p++(a++b)=p++a++b:=(List.append_assoc ..).symm
theorem aHm (a:At):1<=(wAt a).length:=by unfold wAt;rw [List.length_append,dN];omega
theorem aHl (p:List At):1<=(cU wAt p).length:=by rw [jE];omega
theorem aHh (y:Qy):WrT 82 [.d (.agg (qyR y))] (wQy y):=by
 intro p hp
 unfold wQy at hp |-
 obtain⟨tl,l⟩:=y
 dsimp only at hp |-
 simp only [List.length_append,jE (cU wAt)]at hp
 have hn:=rI (w:=cU wAt) (Nat.le_refl 1) aHl l
 have hu:uN (l.length:Int)=l.length:=wV (by omega)
 have hlr:(l.map aI).length=l.length:=List.length_map ..
 refine aN false [] hty Tryz.func82 rfl (kp [0,1,3,5,7,18,19,20,21,30,31,32,33]) 100 (by simp [Tryz.f82]) ?_
 ((conv=>whnf);repeat ((first |(intro hq;try simp only [lnS]at hq)|refine sI ?_|refine qE_ ?_);conv=>whnf))
 refine WrT.call (aHg tl) rfl p (by omega) (by decide) rfl rfl ?_
 ((conv=>whnf);repeat ((first |(intro hq;try simp only [lnS]at hq)|refine sI ?_|refine qE_ ?_);conv=>whnf))
 rw [hlr]
 refine WrT.call (nV l.length) rfl _ (by simp only [List.length_append,bJ];omega) (by decide) rfl rfl ?_
 rw [hu]
 have hqq:(p++cU kN tl++beN 4 l.length).length=p.length+((cU kN tl).length+4):=by simp only [List.length_append,bJ];omega
 have hfin:p++(cU kN tl++cU (cU wAt) l)=p++cU kN tl++beN 4 l.length++(l.map (cU wAt)).flatten:=by
  rw [show cU (cU wAt) l=beN 4 l.length++(l.map (cU wAt)).flatten from rfl];simp only [rV]
 rw [hfin]
 clear hfin
 change gB _ _ (wrC 4 (p++cU kN tl++beN 4 l.length)) λh=>gB h _ (wrB (p++cU kN tl++beN 4 l.length)) _
 generalize p++cU kN tl++beN 4 l.length=q at *
 ((conv=>whnf);repeat ((first |(intro hq;try simp only [lnS]at hq)|refine sI ?_|refine qE_ ?_);conv=>whnf))
 rw [hlr]
 refine aG hty (λj:Nat=>([(0, .ptr 3 0),(18, .d (.sl 1 (l.map aI))),(19, .d (.int .i64 l.length)),(20, .d (.int .i64 j))],[(3,wrC 4 (q++((l.take j).map (cU wAt)).flatten)),(4,wrB (q++((l.take j).map (cU wAt)).flatten))])) (λj=>j<=l.length) (λj=>l.length - j) 0 (by omega) ⟨qB,by rw [List.take_zero,List.map_nil,List.flatten_nil,List.append_nil];exact⟨rfl,rfl,trivial⟩⟩ ?_
 intro j hj
 ((conv=>whnf);repeat ((first |(intro hq;try simp only [lnS]at hq)|refine sI ?_|refine qE_ ?_);conv=>whnf))
 refine aB (λh1=> ?_) (λh1=> ?_)
 ·have hjl:j < l.length:=by omega
  have hrow:(l.map aI)[((j:Nat):Int).toNat]? =some (aI l[j]):=aK hjl
  have hnx:=rH (w:=cU wAt) hjl
  have hle:=aAr (w:=cU wAt) l (j+1)
  rw [hnx,List.length_append,jE]at hle
  generalize l[j]=m at *
  have hnm:=rI (w:=wAt) (Nat.le_refl 1) aHm m
  have hum:uN (m.length:Int)=m.length:=wV (by omega)
  have hmr:(m.map atR).length=m.length:=List.length_map ..
  generalize ((l.take j).map (cU wAt)).flatten=u at *
  ((conv=>whnf);repeat ((first|(refine⟨_,hrow, ?_⟩) |(intro hq;try simp only [lnS]at hq)|refine sI ?_|refine qE_ ?_);conv=>whnf))
  rw [hmr]
  refine WrT.call (nV m.length) rfl _ (by simp only [List.length_append,bJ];omega) (by decide) rfl rfl ?_
  rw [hum]
  have hvv:(q++u++beN 4 m.length).length=q.length+(u.length+4):=by simp only [List.length_append,bJ];omega
  have hfin:q++(u++cU wAt m)=q++u++beN 4 m.length++(m.map wAt).flatten:=by unfold cU;simp only [rV]
  rw [<-hnx]at hfin
  change gB _ _ (wrC 4 (q++u++beN 4 m.length)) λh=>gB h _ (wrB (q++u++beN 4 m.length)) _
  generalize q++u++beN 4 m.length=v at *
  ((conv=>whnf);repeat ((first |(intro hq;try simp only [lnS]at hq)|refine sI ?_|refine qE_ ?_);conv=>whnf))
  rw [hmr]
  refine aG hty (λk:Nat=>([(0, .ptr 3 0),(18, .d (.sl 1 (l.map aI))),(19, .d (.int .i64 l.length)),(20, .d (.int .i64 j)),(30, .d (.sl 6 (m.map atR))),(31, .d (.int .i64 m.length)),(32, .d (.int .i64 k))],[(3,wrC 4 (v++((m.take k).map wAt).flatten)),(4,wrB (v++((m.take k).map wAt).flatten))])) (λk=>k<=m.length) (λk=>m.length - k) 0 (by omega) ⟨qB,by rw [List.take_zero,List.map_nil,List.flatten_nil,List.append_nil];exact⟨rfl,rfl,trivial⟩⟩ ?_
  intro k hk
  ((conv=>whnf);repeat ((first |(intro hq;try simp only [lnS]at hq)|refine sI ?_|refine qE_ ?_);conv=>whnf))
  refine aB (λh2=> ?_) (λh2=> ?_)
  ·have hkl:k < m.length:=by omega
   have hrow2:(m.map atR)[((k:Nat):Int).toNat]? =some (atR m[k]):=aK hkl
   have hnx2:=rH (w:=wAt) hkl
   have hle2:=aAr (w:=wAt) m (k+1)
   rw [hnx2,List.length_append]at hle2
   have hla:(wAt m[k]).length=1+((kN m[k].name).length+((kN m[k].x).length+((kN m[k].y).length+(8+8)))):=by
    unfold wAt;simp only [List.length_append,dN,wQ]
   generalize m[k]=x at *
   obtain⟨kd,s1,s2,s3,lo,hi⟩:=x
   dsimp only at hla
   ((conv=>whnf);repeat ((first|(refine⟨_,hrow2, ?_⟩) |(intro hq;try simp only [lnS]at hq)|refine sI ?_|refine qE_ ?_);conv=>whnf))
   refine WrT.call (aHk kd) rfl _ (by simp only [List.length_append,dN];omega) (by decide) rfl rfl ?_
   ((conv=>whnf);repeat ((first |(intro hq;try simp only [lnS]at hq)|refine sI ?_|refine qE_ ?_);conv=>whnf))
   refine WrT.call (uL s1) rfl _ (by simp only [List.length_append,dN];omega) (by decide) rfl rfl ?_
   ((conv=>whnf);repeat ((first |(intro hq;try simp only [lnS]at hq)|refine sI ?_|refine qE_ ?_);conv=>whnf))
   refine WrT.call (uL s2) rfl _ (by simp only [List.length_append,dN];omega) (by decide) rfl rfl ?_
   ((conv=>whnf);repeat ((first |(intro hq;try simp only [lnS]at hq)|refine sI ?_|refine qE_ ?_);conv=>whnf))
   refine WrT.call (uL s3) rfl _ (by simp only [List.length_append,dN];omega) (by decide) rfl rfl ?_
   ((conv=>whnf);repeat ((first |(intro hq;try simp only [lnS]at hq)|refine sI ?_|refine qE_ ?_);conv=>whnf))
   refine WrT.call (wO lo) rfl _ (by simp only [List.length_append,dN,bJ];omega) (by decide) rfl rfl ?_
   ((conv=>whnf);repeat ((first |(intro hq;try simp only [lnS]at hq)|refine sI ?_|refine qE_ ?_);conv=>whnf))
   refine WrT.call (wO hi) rfl _ (by simp only [List.length_append,dN,bJ];omega) (by decide) rfl rfl ?_
   ((conv=>whnf);repeat ((first |(intro hq;try simp only [lnS]at hq)|refine sI ?_|refine qE_ ?_);conv=>whnf))
   refine⟨k+1,qO,qO, ?_⟩
   dsimp only
   rw [hnx2]
   unfold wAt aJo
   simp only [rV]
   exact⟨qB,qB⟩
  ·have hkl:k=m.length:=by omega
   subst hkl
   rw [List.take_length]
   ((conv=>whnf);repeat ((first |(intro hq;try simp only [lnS]at hq)|refine sI ?_|refine qE_ ?_);conv=>whnf))
   refine⟨j+1,qO,qO, ?_⟩
   dsimp only
   rw [hfin]
   exact⟨qB,qB⟩
 ·have hjl:j=l.length:=by omega
  subst hjl
  rw [List.take_length]
  ((conv=>whnf);repeat ((first |(intro hq;try simp only [lnS]at hq)|refine sI ?_|refine qE_ ?_);conv=>whnf))
  exact rfl
end
section
open Go.Proofs
def c0:Cn:= .mk 0 [] 0 0 []
end
end Go.Proofs.YtdjfkmkdkclahaaGreatDoor
